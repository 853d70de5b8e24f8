import Derived.Test.YtlbglinpgjlbkaaGreatDoorWkQb
/- Zone texts, plain: the reference's reader as a state. -/
namespace Go.Proofs.YtlbglinpgjlbkaaGreatDoor
namespace Wk
open Go.Lib

theorem rd_ret {α β : Type} (a : α) (g : α → Rd β) : Rd.bind (Rd.pure a) g = g a := rfl
def SimEr {α : Type} (ws : List Tok) (f : SM α) : Prop := ∀ s : RSt, s.e ≠ 0 → s.n ≤ ws.length → (f s).2.p = s.p ∧ (f s).2.e = s.e ∧ (f s).2.n ≤ ws.length
theorem SimEr.bind {α β : Type} {ws : List Tok} {f : SM α} {g : α → SM β} (h : SimEr ws f) (h' : ∀ a, SimEr ws (g a)) : SimEr ws (SM.bind f g) := by
 intro s hs hn
 unfold SM.bind
 obtain ⟨q1, q2, q3⟩ := h s hs hn
 have h2 := h' (f s).1 (f s).2 (by rw [q2]; exact hs) q3
 exact ⟨h2.1.trans q1, h2.2.1.trans q2, h2.2.2⟩
theorem SimEr.ret {α : Type} (ws : List Tok) (a : α) : SimEr ws (SM.ret a) := fun _ _ hn => ⟨rfl, rfl, hn⟩
theorem Sim.bindP {α β : Type} {ws : List Tok} {f : SM α} {m : Rd α} {g : α → SM β} {k : α → Rd β} {P : α → Prop} (h : Sim ws f m) (hP : ∀ n a j, m ws n = .inl (a, j) → P a) (h' : ∀ a, P a → Sim ws (g a) (k a)) (h2 : ∀ a, SimEr ws (g a)) : Sim ws (SM.bind f g) (Rd.bind m k) := by
 constructor
 ·intro n hn
  have h1 := h.ok n hn
  unfold Rd.bind SM.bind
  cases hm : m ws n with
  | inl r =>
   obtain ⟨a, j⟩ := r
   rw [hm] at h1
   simp only at h1 ⊢
   rw [h1.1]
   exact (h' a (hP n a j hm)).ok j h1.2
  | inr r =>
   obtain ⟨p, e⟩ := r
   rw [hm] at h1
   simp only at h1 ⊢
   obtain ⟨q1, q2, q3, q4⟩ := h1
   have h2 := h2 (f (st0 n)).1 (f (st0 n)).2 (by rw [q2]; exact q3) q4
   exact ⟨h2.1.trans q1, h2.2.1.trans q2, q3, h2.2.2⟩
 ·exact SimEr.bind h.er h2

def failT (p : Nat × Nat) (e : Int) (s : RSt) : RSt := if s.e = 0 then ⟨s.n, p, e⟩ else s
def nextT (ws : List Tok) : SM Tok := fun s => if s.e ≠ 0 then (tok0, s) else if ws.length ≤ s.n then (tok0, failT (plT ws (ws.length - 1)) 4 s) else (ws.getD s.n tok0, ⟨s.n + 1, s.p, s.e⟩)
def tokP (t : Tok) : Nat × Nat := (t.ln, t.co)
def needT (t : Tok) (b : Bool) (e : Int) : SM Unit := fun s => ((), if s.e = 0 ∧ b = false then failT (tokP t) e s else s)
def nameT (ws : List Tok) : SM Bs := SM.bind (nextT ws) fun t => SM.bind (needT t (nameB t.tx) 3) fun _ => SM.ret t.tx
def numberT (ws : List Tok) (lo hi : Int) : SM Int := SM.bind (nextT ws) fun t => SM.bind (needT t ((numM t.tx lo hi).2 == 0) (numM t.tx lo hi).2) fun _ => SM.ret (numM t.tx lo hi).1
def monthT (ws : List Tok) : SM Int := SM.bind (nextT ws) fun t => SM.bind (needT t ((findM' monthL t.tx).2 == 0) 3) fun _ => SM.ret (findM' monthL t.tx).1
def fitsR (m : Int) (o : OnT) : Bool := decide (1 ≤ m) && decide (m ≤ 12) && onB o && decide (o.d ≤ lenM m)
def onsT (ws : List Tok) (m : Int) : SM OnT := SM.bind (nextT ws) fun t => SM.bind (needT t ((onM t.tx).2 == 0) (onM t.tx).2) fun _ => SM.bind (needT t (fitsR m (onM t.tx).1) 2) fun _ => SM.ret (onM t.tx).1
def clocksT (ws : List Tok) : SM (Int × Int) := SM.bind (nextT ws) fun t => SM.bind (needT t ((clockM t.tx).2.2 == 0) (clockM t.tx).2.2) fun _ => SM.ret ((clockM t.tx).1, (clockM t.tx).2.1)
def offR (most step n : Int) : Bool := decide (n ≤ most) && decide (-most ≤ n) && n.tmod step == 0
def offsT (t : Tok) (most step : Int) : SM Int := SM.bind (needT t ((offsetM t.tx).2 == 0) (offsetM t.tx).2) fun _ => SM.bind (needT t (offR most step (offsetM t.tx).1) 2) fun _ => SM.ret (offsetM t.tx).1
def endT (ws : List Tok) : SM Unit := fun s => ((), if s.e = 0 ∧ s.n < ws.length then failT (plT ws s.n) 3 s else s)
def tosT (ws : List Tok) (fr : Int) : SM Int := SM.bind (nextT ws) fun t => if t.tx = [111, 110, 108, 121] then SM.ret fr else if t.tx = [109, 97, 120] then SM.ret 9999 else
 SM.bind (needT t ((numM t.tx fr 9999).2 == 0) (numM t.tx fr 9999).2) fun _ => SM.ret (numM t.tx fr 9999).1
def leT (ws : List Tok) : SM Bs := SM.bind (nextT ws) fun t => if t.tx = [45] then SM.ret [] else SM.bind (needT t (letterB t.tx) 3) fun _ => SM.ret t.tx
def whensT {α : Type} (ws : List Tok) (g : Int × OnT × Int × Int → SM α) : SM α := SM.bind (monthT ws) fun m => SM.bind (onsT ws m) fun o => SM.bind (clocksT ws) fun c => g (m, o, c.1, c.2)
def ruleT (ws : List Tok) : SM RuT := SM.bind (nameT ws) fun nm => SM.bind (numberT ws 1 9999) fun fr => SM.bind (tosT ws fr) fun to => whensT ws fun w =>
 SM.bind (nextT ws) fun t => SM.bind (offsT t 10800 60) fun sv => SM.bind (leT ws) fun le => SM.bind (endT ws) fun _ => SM.ret ⟨nm, fr, to, w.1, w.2.1, w.2.2.1, w.2.2.2, sv, le⟩
def headD (s : Bs) : Bool := s.head? == some 45 || (s.head?.map digC).getD false
def rulsK (t : Tok) : SM (Bs × Int) := fun s => if s.e = 0 ∧ t.tx ≠ [45] then (if headD t.tx = true then SM.bind (offsT t 10800 60) (fun n => SM.ret ([], n)) s else SM.bind (needT t (nameB t.tx) 3) (fun _ => SM.ret (t.tx, 0)) s) else (([], 0), s)
def rulsT (ws : List Tok) : SM (Bs × Int) := SM.bind (nextT ws) rulsK
def fmtsT (ws : List Tok) : SM Bs := SM.bind (nextT ws) fun t => SM.bind (needT t (fmtB t.tx) 3) fun _ => SM.ret t.tx
def untsT (ws : List Tok) : SM Unit := SM.bind (nextT ws) fun t => needT t (untB t.tx) 3
def untilT (ws : List Tok) (o : Int) (r : Bs × Int) (f : Bs) : SM LiT := SM.bind (untsT ws) fun _ => SM.bind (numberT ws 1 9999) fun y => whensT ws fun w => SM.bind (endT ws) fun _ => SM.ret ⟨o, r.1, r.2, f, false, ⟨y, w.1, w.2.1, w.2.2.1, w.2.2.2⟩⟩
def tailT (ws : List Tok) (o : Int) (r : Bs × Int) (f : Bs) : SM LiT := fun s => if s.e = 0 ∧ s.n = ws.length then (⟨o, r.1, r.2, f, true, un0⟩, s) else untilT ws o r f s
def lineT (ws : List Tok) : SM LiT := SM.bind (nextT ws) fun t => SM.bind (offsT t 57600 1) fun o => SM.bind (rulsT ws) fun r => SM.bind (fmtsT ws) fun f => tailT ws o r f
def zoneT (ws : List Tok) : SM ZoT := SM.bind (nameT ws) fun nm => SM.bind (endT ws) fun _ => SM.ret ⟨nm, []⟩
def linkT (ws : List Tok) : SM LkT := SM.bind (nameT ws) fun nm => SM.bind (nameT ws) fun zo => SM.bind (endT ws) fun _ => SM.ret ⟨nm, zo⟩

structure Sim1 {α : Type} (t : Tok) (ws : List Tok) (f : SM α) (m : Rd α) : Prop where
 ok : ∀ n, 1 ≤ n → n ≤ ws.length → ws.getD (n - 1) tok0 = t → match m ws n with
  | .inl (a, k) => f (st0 n) = (a, st0 k) ∧ k ≤ ws.length
  | .inr (p, e) => (f (st0 n)).2.p = p ∧ (f (st0 n)).2.e = e ∧ e ≠ 0 ∧ (f (st0 n)).2.n ≤ ws.length
 er : SimEr ws f
theorem Sim.one {α : Type} {ws : List Tok} {f : SM α} {m : Rd α} (h : Sim ws f m) (t : Tok) : Sim1 t ws f m := ⟨fun n _ hn _ => h.ok n hn, h.er⟩
theorem er_next (ws : List Tok) : SimEr ws (nextT ws) := fun s hs hn => by
 unfold nextT
 rw [if_pos hs]
 exact ⟨rfl, rfl, hn⟩
theorem sim_next {α : Type} {ws : List Tok} {g : Tok → SM α} {k : Bs → Rd α} (h : ∀ t ∈ ws, Sim1 t ws (g t) (k t.tx)) (h2 : ∀ t, SimEr ws (g t)) : Sim ws (SM.bind (nextT ws) g) (Rd.bind wordR k) := by
 refine ⟨fun n hn => ?_, (er_next ws).bind h2⟩
 unfold Rd.bind SM.bind wordR
 by_cases hlt : n < ws.length
 ·rw [if_pos hlt]
  have hnx : nextT ws (st0 n) = (ws.getD n tok0, st0 (n + 1)) := by
   unfold nextT
   rw [if_neg (by simp [st0]), if_neg (by show ¬ws.length ≤ n; omega)]
   rfl
  rw [hnx]
  have hmem : ws.getD n tok0 ∈ ws := by
   rw [List.getD_eq_getElem?_getD, List.getElem?_eq_getElem hlt]
   exact List.getElem_mem _
  exact (h _ hmem).ok (n + 1) (by omega) (by omega) rfl
 ·rw [if_neg hlt]
  have hnx : nextT ws (st0 n) = (tok0, ⟨n, plT ws (ws.length - 1), 4⟩) := by
   unfold nextT failT
   rw [if_neg (by simp [st0]), if_pos (by show ws.length ≤ n; omega), if_pos (show (st0 n).e = 0 from rfl)]
   rfl
  rw [hnx]
  have := h2 tok0 ⟨n, plT ws (ws.length - 1), 4⟩ (show (4 : Int) ≠ 0 by decide) hn
  exact ⟨this.1, this.2.1, by decide, this.2.2⟩
theorem rdx_fail {β : Type} (e : Int) (k : Unit → Rd β) (ws : List Tok) (n : Nat) : Rd.bind (needR false e) k ws n = .inr (plT ws (n - 1), e) := rfl
theorem rdx_true {β : Type} (e : Int) (k : Unit → Rd β) : Rd.bind (needR true e) k = k () := rfl
theorem rdx_word {β : Type} (k : Bs → Rd β) (ws : List Tok) (n : Nat) : Rd.bind wordR k ws n = if n < ws.length then k (ws.getD n tok0).tx ws (n + 1) else .inr (plT ws (ws.length - 1), 4) := by
 unfold Rd.bind wordR
 by_cases h : n < ws.length
 ·rw [if_pos h, if_pos h]
 ·rw [if_neg h, if_neg h]
theorem rdx_last {β : Type} (g : Bool → Rd β) (ws : List Tok) (n : Nat) : Rd.bind lastR g ws n = g (n == ws.length) ws n := rfl
theorem er_need (ws : List Tok) (t : Tok) (b : Bool) (e : Int) : SimEr ws (needT t b e) := fun s hs hn => by
 unfold needT
 rw [if_neg (fun q => hs q.1)]
 exact ⟨rfl, rfl, hn⟩
theorem sim1_need {α : Type} {t : Tok} {ws : List Tok} {b b' : Bool} {e e' : Int} {h : SM α} {k : Rd α} (hb : b = b') (hee : b = false → e = e') (he : b = false → e ≠ 0) (hs : b = true → Sim1 t ws h k) (her : SimEr ws h) : Sim1 t ws (SM.bind (needT t b e) fun _ => h) (Rd.bind (needR b' e') fun _ => k) := by
 subst hb
 refine ⟨fun n h1 hn ht => ?_, (er_need ws t b e).bind fun _ => her⟩
 cases b with
 | true =>
  exact (hs rfl).ok n h1 hn ht
 | false =>
  have he := he rfl
  rw [← hee rfl, rdx_fail]
  have hp : failT (tokP t) e (st0 n) = ⟨n, plT ws (n - 1), e⟩ := by
   unfold failT tokP plT
   rw [if_pos (show (st0 n).e = 0 from rfl), ht]
   rfl
  have hq : SM.bind (needT t false e) (fun _ => h) (st0 n) = h (failT (tokP t) e (st0 n)) := rfl
  rw [hq, hp]
  have := her ⟨n, plT ws (n - 1), e⟩ he hn
  exact ⟨this.1, this.2.1, he, this.2.2⟩
theorem er_if {α : Type} {ws : List Tok} {c : Prop} [Decidable c] {f g : SM α} (h : SimEr ws f) (h' : SimEr ws g) : SimEr ws (if c then f else g) := by
 by_cases hc : c
 ·rw [if_pos hc]; exact h
 ·rw [if_neg hc]; exact h'
theorem sim1_if {α : Type} {t : Tok} {ws : List Tok} {c : Prop} [Decidable c] {f g : SM α} {m k : Rd α} (h : c → Sim1 t ws f m) (h' : ¬c → Sim1 t ws g k) : Sim1 t ws (if c then f else g) (if c then m else k) := by
 by_cases hc : c
 ·rw [if_pos hc, if_pos hc]; exact h hc
 ·rw [if_neg hc, if_neg hc]; exact h' hc
theorem ret1 {α : Type} (t : Tok) (ws : List Tok) (a : α) : Sim1 t ws (SM.ret a) (Rd.pure a) := (Sim.ret ws a).one t
theorem beq_ne {e : Int} (h : (e == 0) = false) : e ≠ 0 := by simpa using h
theorem simT_name (ws : List Tok) : Sim ws (nameT ws) (checkR nameB) := sim_next (fun t _ => sim1_need rfl (fun _ => rfl) (fun _ => by decide) (fun _ => ret1 t ws _) (SimEr.ret ws _)) fun t => (er_need ws t _ _).bind fun _ => SimEr.ret ws _
theorem simT_num (ws : List Tok) : Sim ws (numberT ws 1 9999) yearR := sim_next (fun t _ => sim1_need rfl (fun _ => rfl) beq_ne (fun _ => ret1 t ws _) (SimEr.ret ws _)) fun t => (er_need ws t _ _).bind fun _ => SimEr.ret ws _
theorem find_err (l : List Bs) (s : Bs) (h : ((findM' l s).2 == 0) = false) : (findM' l s).2 = 3 := by
 unfold findM' at h ⊢
 cases hk : l.findIdx? (· == s) with
 | none => rfl
 | some k => rw [hk] at h; exact absurd h (by simp)
theorem simT_month (ws : List Tok) : Sim ws (monthT ws) (numR (findM' monthL)) := sim_next (fun t _ => sim1_need rfl (fun h => (find_err _ _ h).symm) (fun _ => by decide) (fun _ => ret1 t ws _) (SimEr.ret ws _)) fun t => (er_need ws t _ _).bind fun _ => SimEr.ret ws _
theorem find_bd {s : Bs} {l : List Bs} (h : ((findM' l s).2 == 0) = true) : 1 ≤ (findM' l s).1 ∧ (findM' l s).1 ≤ l.length := by
 unfold findM' at h ⊢
 cases hk : l.findIdx? (· == s) with
 | none => rw [hk] at h; exact absurd h (by simp)
 | some k =>
  have : k < l.length := by
   rw [List.findIdx?_eq_some_iff_getElem] at hk
   exact hk.1
  simp only
  omega
theorem num_bd {s : Bs} {lo hi : Int} (h : (numM s lo hi).2 = 0) : lo ≤ (numM s lo hi).1 ∧ (numM s lo hi).1 ≤ hi := by
 unfold numM at h ⊢
 by_cases hf : formN s = false
 ·rw [if_pos hf] at h
  exact absurd h (by simp)
 ·rw [if_neg hf] at h ⊢
  by_cases hb : numV s < lo ∨ hi < numV s
  ·rw [if_pos hb] at h
   exact absurd h (by simp)
  ·rw [if_neg hb]
   simp only
   omega
theorem on_valid {s : Bs} (h : ((onM s).2 == 0) = true) : onB (onM s).1 = true := (on_back (by simpa using h)).1
theorem er_ons (ws : List Tok) (m : Int) : SimEr ws (onsT ws m) := (er_next ws).bind fun t => (er_need ws t _ _).bind fun _ => (er_need ws t _ _).bind fun _ => SimEr.ret ws _
theorem er_clocks (ws : List Tok) : SimEr ws (clocksT ws) := (er_next ws).bind fun t => (er_need ws t _ _).bind fun _ => SimEr.ret ws _
theorem er_offs (ws : List Tok) (t : Tok) (a b : Int) : SimEr ws (offsT t a b) := (er_need ws t _ _).bind fun _ => (er_need ws t _ _).bind fun _ => SimEr.ret ws _
theorem er_end (ws : List Tok) : SimEr ws (endT ws) := fun s hs hn => by
 unfold endT
 rw [if_neg (fun q => hs q.1)]
 exact ⟨rfl, rfl, hn⟩
theorem simT_end (ws : List Tok) : Sim ws (endT ws) endR := by
 refine ⟨fun n hn => ?_, er_end ws⟩
 unfold endR endT
 by_cases h : n < ws.length
 ·rw [if_pos h]
  show (if (0 : Int) = 0 ∧ n < ws.length then failT (plT ws n) 3 (st0 n) else st0 n).p = _ ∧ (if (0 : Int) = 0 ∧ n < ws.length then failT (plT ws n) 3 (st0 n) else st0 n).e = _ ∧ _ ∧ (if (0 : Int) = 0 ∧ n < ws.length then failT (plT ws n) 3 (st0 n) else st0 n).n ≤ _
  rw [if_pos ⟨rfl, h⟩]
  exact ⟨rfl, rfl, by decide, hn⟩
 ·rw [if_neg h]
  refine ⟨?_, hn⟩
  show ((), if (0 : Int) = 0 ∧ n < ws.length then failT (plT ws n) 3 (st0 n) else st0 n) = _
  rw [if_neg (fun q => h q.2)]
theorem er_whens {α : Type} {ws : List Tok} {g : Int × OnT × Int × Int → SM α} (h : ∀ a, SimEr ws (g a)) : SimEr ws (whensT ws g) := SimEr.bind (simT_month ws).er fun m => (er_ons ws m).bind fun _ => (er_clocks ws).bind fun _ => h _
theorem fits_eq {m : Int} {o : OnT} (h1 : 1 ≤ m ∧ m ≤ 12) (h2 : onB o = true) : fitsR m o = fitsB o m := by
 unfold fitsR fitsB
 rw [decide_eq_true h1.1, decide_eq_true h1.2, h2]
 rfl
theorem numR_ok {ws : List Tok} {f : Bs → Int × Int} {n : Nat} {a : Int} {j : Nat} (h : numR f ws n = .inl (a, j)) : ∃ s, ((f s).2 == 0) = true ∧ (f s).1 = a := by
 unfold numR at h
 rw [rdx_word] at h
 by_cases hn : n < ws.length
 ·rw [if_pos hn] at h
  cases hb : ((f (ws.getD n tok0).tx).2 == 0) with
  | true =>
   rw [hb, rdx_true] at h
   injection h with h
   injection h with h1 h2
   exact ⟨_, hb, h1⟩
  | false =>
   rw [hb, rdx_fail] at h
   exact absurd h (by simp)
 ·rw [if_neg hn] at h
  exact absurd h (by simp)
theorem simT_when {α : Type} {ws : List Tok} {g : Int × OnT × Int × Int → SM α} {k : Int × OnT × Int × Int → Rd α} (h : ∀ a, Sim ws (g a) (k a)) : Sim ws (whensT ws g) (Rd.bind whenR k) := by
 have e : Rd.bind whenR k = Rd.bind (numR (findM' monthL)) fun m => Rd.bind wordR fun s => Rd.bind (needR ((onM s).2 == 0) (onM s).2) fun _ => Rd.bind (needR (fitsB (onM s).1 m) 2) fun _ =>
   Rd.bind wordR fun t => Rd.bind (needR ((clockM t).2.2 == 0) (clockM t).2.2) fun _ => k (m, (onM s).1, (clockM t).1, (clockM t).2.1) := by
  unfold whenR
  simp only [rd_assoc, rd_ret]
 rw [e]
 refine Sim.bindP (P := fun m => 1 ≤ m ∧ m ≤ 12) (simT_month ws) (fun n a j hm => ?_) (fun m hm => ?_) (fun m => (er_ons ws m).bind fun _ => (er_clocks ws).bind fun _ => (h _).er)
 ·obtain ⟨s, h1, rfl⟩ := numR_ok hm
  exact find_bd h1
 ·have hc : ∀ o, Sim ws (SM.bind (clocksT ws) fun c => g (m, o, c.1, c.2)) (Rd.bind wordR fun t => Rd.bind (needR ((clockM t).2.2 == 0) (clockM t).2.2) fun _ => k (m, o, (clockM t).1, (clockM t).2.1)) := fun o =>
   sim_next (g := fun t => SM.bind (needT t ((clockM t.tx).2.2 == 0) (clockM t.tx).2.2) fun _ => g (m, o, (clockM t.tx).1, (clockM t.tx).2.1)) (fun t _ => sim1_need rfl (fun _ => rfl) beq_ne (fun _ => (h _).one t) (h _).er) fun t => (er_need ws t _ _).bind fun _ => (h _).er
  exact sim_next (g := fun t => SM.bind (needT t ((onM t.tx).2 == 0) (onM t.tx).2) fun _ => SM.bind (needT t (fitsR m (onM t.tx).1) 2) fun _ => SM.bind (clocksT ws) fun c => g (m, (onM t.tx).1, c.1, c.2))
   (fun t _ => sim1_need rfl (fun _ => rfl) beq_ne (fun ho => sim1_need (fits_eq hm (on_valid ho)) (fun _ => rfl) (fun _ => by decide) (fun _ => (hc _).one t) (hc _).er) ((er_need ws t _ _).bind fun _ => (hc _).er)) fun t => (er_need ws t _ _).bind fun _ => (er_need ws t _ _).bind fun _ => (hc _).er
theorem off_sav (n : Int) : offR 10800 60 n = savB n := by
 have hm : n.tmod 60 = 0 ↔ n % 60 = 0 := by
  rw [← Int.dvd_iff_tmod_eq_zero, Int.dvd_iff_emod_eq_zero]
 unfold offR savB
 rw [Bool.eq_iff_iff]
 simp only [Bool.and_eq_true, decide_eq_true_eq, beq_iff_eq]
 omega
theorem off_off (n : Int) : offR 57600 1 n = offB n := by
 unfold offR offB
 rw [Int.tmod_one, Bool.eq_iff_iff]
 simp
 omega
theorem simT_lim {α : Type} {ws : List Tok} {a b : Int} {good : Int → Bool} {g : Int → SM α} {k : Int → Rd α} (hg : ∀ n, offR a b n = good n) (h : ∀ n, Sim ws (g n) (k n)) : Sim ws (SM.bind (nextT ws) fun t => SM.bind (offsT t a b) g) (Rd.bind (limR good) k) := by
 have e : Rd.bind (limR good) k = Rd.bind wordR fun s => Rd.bind (needR ((offsetM s).2 == 0) (offsetM s).2) fun _ => Rd.bind (needR (good (offsetM s).1) 2) fun _ => k (offsetM s).1 := by
  unfold limR numR
  simp only [rd_assoc, rd_ret]
 rw [e]
 exact sim_next (fun t _ => sim1_need rfl (fun _ => rfl) beq_ne (fun _ => sim1_need (hg _) (fun _ => rfl) (fun _ => by decide) (fun _ => (h _).one t) (h _).er) ((er_need ws t _ _).bind fun _ => (h _).er)) fun t => (er_offs ws t a b).bind fun _ => (h _).er
theorem er_tos (ws : List Tok) (fr : Int) : SimEr ws (tosT ws fr) := (er_next ws).bind fun t => er_if (SimEr.ret ws _) (er_if (SimEr.ret ws _) ((er_need ws t _ _).bind fun _ => SimEr.ret ws _))
theorem to_err {s : Bs} {fr : Int} (h1 : 1 ≤ fr) (h2 : fr ≤ 9999) : (∃ e, (numM s 1 9999).2 = e ∧ e ≠ 0 ∧ numM s fr 9999 = (0, e)) ∨ ((numM s 1 9999).2 = 0 ∧ ¬fr ≤ (numM s 1 9999).1 ∧ numM s fr 9999 = (0, 2)) ∨ ((numM s 1 9999).2 = 0 ∧ fr ≤ (numM s 1 9999).1 ∧ numM s fr 9999 = ((numM s 1 9999).1, 0)) := by
 rw [to_num h1 h2]
 by_cases h : (numM s 1 9999).2 ≠ 0
 ·rw [if_pos h]
  exact .inl ⟨_, rfl, h, rfl⟩
 ·rw [if_neg h]
  by_cases h3 : (numM s 1 9999).1 < fr
  ·rw [if_pos h3]
   exact .inr (.inl ⟨by omega, by omega, rfl⟩)
  ·rw [if_neg h3]
   exact .inr (.inr ⟨by omega, by omega, rfl⟩)
theorem simT_to {ws : List Tok} {fr : Int} (h1 : 1 ≤ fr) (h2 : fr ≤ 9999) : Sim ws (tosT ws fr) (toR fr) := by
 refine sim_next (fun t _ => sim1_if (fun _ => ret1 t ws _) (fun _ => sim1_if (fun _ => ret1 t ws _) (fun _ => ?_))) fun t => er_if (SimEr.ret ws _) (er_if (SimEr.ret ws _) ((er_need ws t _ _).bind fun _ => SimEr.ret ws _))
 have key := to_err (s := t.tx) h1 h2
 refine ⟨fun n hn1 hn ht => ?_, (er_need ws t _ _).bind fun _ => SimEr.ret ws _⟩
 rcases key with ⟨e, q1, q2, q3⟩ | ⟨q1, q2, q3⟩ | ⟨q1, q2, q3⟩
 ·rw [q1, q3]
  exact (sim1_need (t := t) (ws := ws) (b := (e == 0)) (b' := (e == 0)) (e := e) (e' := e) (h := SM.ret (0 : Int)) (k := Rd.bind (needR (decide (fr ≤ (numM t.tx 1 9999).1)) 2) fun _ => Rd.pure (numM t.tx 1 9999).1) rfl (fun _ => rfl) beq_ne (fun q => absurd (by simpa using q) q2) (SimEr.ret ws _)).ok n hn1 hn ht
 ·rw [q1, q3, decide_eq_false q2]
  exact (sim1_need (t := t) (ws := ws) (b := false) (b' := false) (e := 2) (e' := 2) (h := SM.ret (0 : Int)) (k := Rd.pure (numM t.tx 1 9999).1) rfl (fun _ => rfl) (fun _ => by decide) (fun q => by cases q) (SimEr.ret ws _)).ok n hn1 hn ht
 ·rw [q1, q3, decide_eq_true q2]
  exact (sim1_need (t := t) (ws := ws) (b := true) (b' := true) (e := 0) (e' := 0) (h := SM.ret (numM t.tx 1 9999).1) (k := Rd.pure (numM t.tx 1 9999).1) rfl (fun _ => rfl) (fun q => by cases q) (fun _ => ret1 t ws _) (SimEr.ret ws _)).ok n hn1 hn ht
theorem le_ref {t : Bs} (h0 : t ≠ []) : leB t = (t == [45] || letterB t) := by
 unfold leB
 have : (t == []) = false := by simpa using h0
 rw [this]
 rfl
theorem er_le (ws : List Tok) : SimEr ws (leT ws) := (er_next ws).bind fun t => er_if (SimEr.ret ws _) ((er_need ws t _ _).bind fun _ => SimEr.ret ws _)
theorem simT_le {α : Type} {ws : List Tok} (hw : ∀ t ∈ ws, t.tx ≠ []) {g : Bs → SM α} {k : Bs → Rd α} (h : ∀ s, Sim ws (g s) (k s)) : Sim ws (SM.bind (leT ws) g) (Rd.bind (checkR leB) fun le => k (if le = [45] then [] else le)) := by
 have e : (Rd.bind (checkR leB) fun le => k (if le = [45] then [] else le)) = Rd.bind wordR fun s => Rd.bind (needR (leB s) 3) fun _ => k (if s = [45] then [] else s) := by
  unfold checkR
  simp only [rd_assoc, rd_ret]
 have e2 : SM.bind (leT ws) g = SM.bind (nextT ws) fun t => if t.tx = [45] then g [] else SM.bind (needT t (letterB t.tx) 3) fun _ => g t.tx := by
  unfold leT
  rw [sm_bind_assoc]
  congr 1
  funext t
  rw [bind_if]
  rfl
 rw [e, e2]
 refine sim_next (fun t ht => ?_) fun t => er_if (h _).er ((er_need ws t _ _).bind fun _ => (h _).er)
 have hl := le_ref (hw t ht)
 by_cases hd : t.tx = [45]
 ·rw [if_pos hd, if_pos hd, hl]
  have : (t.tx == [45] || letterB t.tx) = true := by rw [hd]; rfl
  rw [this]
  exact (h []).one t
 ·rw [if_neg hd, if_neg hd, hl]
  have : (t.tx == [45]) = false := by simpa using hd
  rw [this, Bool.false_or]
  exact sim1_need rfl (fun _ => rfl) (fun _ => by decide) (fun _ => (h _).one t) (h _).er
theorem simT_rule {ws : List Tok} (hw : ∀ t ∈ ws, t.tx ≠ []) : Sim ws (ruleT ws) ruleR := by
 have e : ruleR = Rd.bind (checkR nameB) fun nm => Rd.bind yearR fun fr => Rd.bind (toR fr) fun to => Rd.bind whenR fun w => Rd.bind (limR savB) fun sv => Rd.bind (checkR leB) fun le => (fun le => Rd.bind endR fun _ => Rd.pure (⟨nm, fr, to, w.1, w.2.1, w.2.2.1, w.2.2.2, sv, le⟩ : RuT)) (if le = [45] then [] else le) := rfl
 rw [e]
 refine (simT_name ws).bind fun nm => ?_
 refine Sim.bindP (P := fun fr => 1 ≤ fr ∧ fr ≤ 9999) (simT_num ws) (fun n a j hm => ?_) (fun fr hf => ?_) (fun fr => ?_)
 ·obtain ⟨s, h1, rfl⟩ := numR_ok hm
  exact num_bd (by simpa using h1)
 ·exact (simT_to hf.1 hf.2).bind fun to => simT_when fun w => simT_lim off_sav fun sv => simT_le hw fun le => (simT_end ws).bind fun _ => Sim.ret ws _
 ·exact (er_tos ws fr).bind fun to => er_whens fun w => (er_next ws).bind fun t => (er_offs ws t _ _).bind fun _ => (er_le ws).bind fun _ => (er_end ws).bind fun _ => SimEr.ret ws _
theorem simT_zone (ws : List Tok) : Sim ws (zoneT ws) zoneR := (simT_name ws).bind fun _ => (simT_end ws).bind fun _ => Sim.ret ws _
theorem simT_link (ws : List Tok) : Sim ws (linkT ws) linkR := (simT_name ws).bind fun _ => (simT_name ws).bind fun _ => (simT_end ws).bind fun _ => Sim.ret ws _
theorem er_rulsG (ws : List Tok) (t : Tok) : SimEr ws (rulsK t) := fun s hs hn => by
 unfold rulsK
 rw [if_neg (fun q => hs q.1)]
 exact ⟨rfl, rfl, hn⟩
theorem head_cons {s : Bs} (h : s ≠ []) : ∃ c r, s = c :: r ∧ headD s = (c == 45 || digC c) := by
 cases s with
 | nil => exact absurd rfl h
 | cons c r => exact ⟨c, r, rfl, rfl⟩
theorem simT_ruls {ws : List Tok} (hw : ∀ t ∈ ws, t.tx ≠ []) : Sim ws (rulsT ws) rulesR := by
 refine sim_next (fun t ht => ⟨fun n h1 hn hp => ?_, er_rulsG ws t⟩) fun t => er_rulsG ws t
 obtain ⟨c, r, hc, hh⟩ := head_cons (hw t ht)
 by_cases hd : t.tx = [45]
 ·rw [if_pos hd]
  have hs : rulsK t (st0 n) = (([], 0), st0 n) := if_neg (fun q => q.2 hd)
  exact ⟨hs, hn⟩
 ·rw [if_neg hd]
  have hs : rulsK t (st0 n) = (if headD t.tx = true then SM.bind (offsT t 10800 60) (fun n => SM.ret (([] : Bs), n)) (st0 n) else SM.bind (needT t (nameB t.tx) 3) (fun _ => SM.ret (t.tx, 0)) (st0 n)) := if_pos ⟨rfl, hd⟩
  rw [hs]
  by_cases hx : headD t.tx = true
  ·have hnm : nameB t.tx = false := by
    rw [hh, Bool.or_eq_true, beq_iff_eq] at hx
    rw [hc]
    exact name_first hx
   rw [hnm, if_neg (by simp), if_pos hx]
   exact (sim1_need (t := t) (ws := ws) rfl (fun _ => rfl) beq_ne (fun _ => sim1_need (off_sav _) (fun _ => rfl) (fun _ => by decide) (fun _ => ret1 t ws (([] : Bs), (offsetM t.tx).1)) (SimEr.ret ws _)) ((er_need ws t _ _).bind fun _ => SimEr.ret ws _)).ok n h1 hn hp
  ·rw [if_neg hx]
   cases hnm : nameB t.tx with
   | true =>
    rw [if_pos rfl]
    exact ⟨rfl, hn⟩
   | false =>
    rw [if_neg (by simp)]
    have ho : offsetM t.tx = (0, 3) := by
     rw [hh, Bool.or_eq_true, beq_iff_eq, not_or] at hx
     rw [hc]
     exact offset_no hx.1 (by simpa using hx.2)
    rw [ho]
    exact (sim1_need (t := t) (ws := ws) (b := false) (b' := false) (e := 3) (e' := 3) (h := SM.ret (t.tx, (0 : Int))) (k := Rd.bind (needR (savB 0) 2) fun _ => Rd.pure (([] : Bs), (0 : Int))) rfl (fun _ => rfl) (fun _ => by decide) (fun q => by cases q) (SimEr.ret ws _)).ok n h1 hn hp
theorem simT_fmts (ws : List Tok) : Sim ws (fmtsT ws) (checkR fmtB) := sim_next (fun t _ => sim1_need rfl (fun _ => rfl) (fun _ => by decide) (fun _ => ret1 t ws _) (SimEr.ret ws _)) fun t => (er_need ws t _ _).bind fun _ => SimEr.ret ws _
theorem simT_unts {α : Type} {ws : List Tok} {g : SM α} {k : Rd α} (h : Sim ws g k) : Sim ws (SM.bind (untsT ws) fun _ => g) (Rd.bind (checkR fun s => s == [117, 110, 116, 105, 108]) fun _ => k) := by
 have e : (Rd.bind (checkR fun s => s == [117, 110, 116, 105, 108]) fun _ => k) = Rd.bind wordR fun s => Rd.bind (needR (untB s) 3) fun _ => k := by
  unfold checkR untB
  simp only [rd_assoc, rd_ret]
 rw [e]
 exact sim_next (g := fun t => SM.bind (needT t (untB t.tx) 3) fun _ => g) (fun t _ => sim1_need rfl (fun _ => rfl) (fun _ => by decide) (fun _ => h.one t) h.er) fun t => (er_need ws t _ _).bind fun _ => h.er
theorem simT_until (ws : List Tok) (o : Int) (r : Bs × Int) (f : Bs) : Sim ws (untilT ws o r f) (Rd.bind (checkR fun s => s == [117, 110, 116, 105, 108]) fun _ => Rd.bind yearR fun y => Rd.bind whenR fun w => Rd.bind endR fun _ => Rd.pure ⟨o, r.1, r.2, f, false, ⟨y, w.1, w.2.1, w.2.2.1, w.2.2.2⟩⟩) :=
 simT_unts ((simT_num ws).bind fun _ => simT_when fun _ => (simT_end ws).bind fun _ => Sim.ret ws _)
theorem simT_line {ws : List Tok} (hw : ∀ t ∈ ws, t.tx ≠ []) : Sim ws (lineT ws) lineR := by
 have e : lineR = Rd.bind (limR offB) fun o => Rd.bind rulesR fun r => Rd.bind (checkR fmtB) fun f => Rd.bind lastR fun la => if la = true then Rd.pure ⟨o, r.1, r.2, f, true, un0⟩ else
   Rd.bind (checkR fun s => s == [117, 110, 116, 105, 108]) fun _ => Rd.bind yearR fun y => Rd.bind whenR fun w => Rd.bind endR fun _ => Rd.pure ⟨o, r.1, r.2, f, false, ⟨y, w.1, w.2.1, w.2.2.1, w.2.2.2⟩⟩ := rfl
 rw [e]
 refine simT_lim off_off fun o => (simT_ruls hw).bind fun r => (simT_fmts ws).bind fun f => ?_
 have hu := simT_until ws o r f
 refine ⟨fun n hn => ?_, fun s hs hn => ?_⟩
 ·rw [rdx_last]
  by_cases hq : n = ws.length
  ·have hb : (n == ws.length) = true := by simpa using hq
   rw [if_pos hb]
   have hs : tailT ws o r f (st0 n) = (⟨o, r.1, r.2, f, true, un0⟩, st0 n) := if_pos ⟨rfl, hq⟩
   exact ⟨hs, hn⟩
  ·have hb : (n == ws.length) = false := by simpa using hq
   have hs : tailT ws o r f (st0 n) = untilT ws o r f (st0 n) := if_neg (fun q => hq q.2)
   rw [hb, if_neg (by simp), hs]
   exact hu.ok n hn
 ·have hu2 : tailT ws o r f s = untilT ws o r f s := if_neg (fun q => hs q.1)
  rw [hu2]
  exact hu.er s hs hn
theorem step_simT {α : Type} {ws : List Tok} {f : SM α} {m : Rd α} {g : α → SrT} (h : Sim ws f m) (hw : 1 ≤ ws.length) {R : SrT ⊕ ((Nat × Nat) × Int)} (h1 : ∀ a k, m ws 1 = .inl (a, k) → R = .inl (g a)) (h2 : ∀ e, m ws 1 = .inr e → R = .inr e) :
  R = if (f (st0 1)).2.e = 0 then .inl (g (f (st0 1)).1) else .inr ((f (st0 1)).2.p, (f (st0 1)).2.e) := by
 have h3 := h.ok 1 hw
 cases hm : m ws 1 with
 | inl r =>
  obtain ⟨a, k⟩ := r
  rw [hm] at h3
  rw [h1 a k hm, h3.1, if_pos (show (st0 k).e = 0 from rfl)]
 | inr r =>
  obtain ⟨p, e⟩ := r
  rw [hm] at h3
  obtain ⟨q1, q2, q3, q4⟩ := h3
  rw [h2 _ hm, q1, q2, if_neg q3]
end Wk
end Go.Proofs.YtlbglinpgjlbkaaGreatDoor
