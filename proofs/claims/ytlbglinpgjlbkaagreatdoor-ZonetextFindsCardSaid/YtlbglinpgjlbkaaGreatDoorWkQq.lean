import Derived.Test.YtlbglinpgjlbkaaGreatDoorWkQb
import Derived.Test.YtlbglinpgjlbkaaGreatDoorWkQl
import Derived.Test.YtlbglinpgjlbkaaGreatDoorWkQa
import Derived.Test.YtlbglinpgjlbkaaGreatDoorWkR9
import Derived.Test.YtlbglinpgjlbkaaGreatDoorWkQj
import Derived.Maps.OwnSet
/- Zone texts, plain: what a parse keeps: how many, and how long. -/
namespace Go.Proofs.YtlbglinpgjlbkaaGreatDoor
open Go.RowKit Wk

structure LnB (k : Nat) (s : SrT) : Prop where
 ru : s.ru.length ≤ k
 zo : s.zo.length ≤ k
 lk : s.lk.length ≤ k
 li : ∀ z ∈ s.zo, z.li.length ≤ k
 sz : SzS s
theorem LnB.start : LnB 0 sr0 := ⟨Nat.le_refl _, Nat.le_refl _, Nat.le_refl _, fun _ h => (List.not_mem_nil h).elim, ⟨fun _ h => (List.not_mem_nil h).elim, fun _ h => (List.not_mem_nil h).elim, fun _ h => (List.not_mem_nil h).elim⟩⟩
def WsB (ws : List Tok) : Prop := ∀ t ∈ ws, t.tx.length ≤ 4294967280
theorem word_b {ws : List Tok} (h : WsB ws) (s : RSt) : (wordS ws s).1.length ≤ 4294967280 := by
 unfold wordS
 by_cases hg : ws.length ≤ s.n
 ·rw [if_pos hg]; simp
 ·rw [if_neg hg]
  refine h _ ?_
  rw [List.getD_eq_getElem?_getD, List.getElem?_eq_getElem (by omega)]
  exact List.getElem_mem _
theorem rules_b {ws : List Tok} (h : WsB ws) (s : RSt) : (rulesS ws s).1.1.length ≤ 4294967280 := by
 have e : rulesS ws s = (if (wordS ws s).1 = [45] then SM.ret ([], 0) else if nameB (wordS ws s).1 = true then SM.ret ((wordS ws s).1, 0) else
  SM.bind (errS ws (offsetM (wordS ws s).1).2) fun _ => SM.bind (needS ws (savB (offsetM (wordS ws s).1).1) 2) fun _ => SM.ret (([] : Bs), (offsetM (wordS ws s).1).1)) (wordS ws s).2 := rfl
 rw [e]
 by_cases h1 : (wordS ws s).1 = [45]
 ·rw [if_pos h1]
  exact Nat.zero_le _
 ·rw [if_neg h1]
  by_cases h2 : nameB (wordS ws s).1 = true
  ·rw [if_pos h2]
   exact word_b h s
  ·rw [if_neg h2]
   exact Nat.zero_le _
theorem rule_b {ws : List Tok} (h : WsB ws) (s : RSt) : (ruleS ws s).1.nm.length ≤ 4294967280 ∧ (ruleS ws s).1.le.length ≤ 4294967280 := by
 refine ⟨word_b h s, ?_⟩
 obtain ⟨σ, hσ⟩ : ∃ σ, (ruleS ws s).1.le = if (wordS ws σ).1 = [45] then [] else (wordS ws σ).1 := ⟨_, rfl⟩
 rw [hσ]
 by_cases h1 : (wordS ws σ).1 = [45]
 ·rw [if_pos h1]
  exact Nat.zero_le _
 ·rw [if_neg h1]
  exact word_b h σ
theorem line_b {ws : List Tok} (h : WsB ws) (s : RSt) : (lineS ws s).1.ru.length ≤ 4294967280 ∧ (lineS ws s).1.fm.length ≤ 4294967280 := by
 have hr := rules_b h (limS ws offB s).2
 have hf := word_b h (rulesS ws (limS ws offB s).2).2
 have e : lineS ws s = (fun (r : Bs × Int) (f : Bs × RSt) => (SM.bind (lastS ws) fun la => if la = true then SM.ret (⟨(limS ws offB s).1, r.1, r.2, f.1, true, un0⟩ : LiT) else
  SM.bind (checkS ws untB) fun _ => SM.bind (yearS ws) fun y => SM.bind (whenS ws) fun w => SM.ret ⟨(limS ws offB s).1, r.1, r.2, f.1, false, ⟨y, w.1, w.2.1, w.2.2.1, w.2.2.2⟩⟩) f.2) (rulesS ws (limS ws offB s).2).1 (checkS ws fmtB (rulesS ws (limS ws offB s).2).2) := rfl
 rw [e]
 have hf2 : (checkS ws fmtB (rulesS ws (limS ws offB s).2).2).1.length ≤ 4294967280 := hf
 generalize (rulesS ws (limS ws offB s).2).1 = r at hr
 generalize checkS ws fmtB (rulesS ws (limS ws offB s).2).2 = f at hf2
 obtain ⟨f, t⟩ := f
 show ((if (t.n == ws.length) = true then SM.ret (⟨(limS ws offB s).1, r.1, r.2, f, true, un0⟩ : LiT) else SM.bind (checkS ws untB) fun _ => SM.bind (yearS ws) fun y => SM.bind (whenS ws) fun w => SM.ret ⟨(limS ws offB s).1, r.1, r.2, f, false, ⟨y, w.1, w.2.1, w.2.2.1, w.2.2.2⟩⟩) t).1.ru.length ≤ _ ∧
  ((if (t.n == ws.length) = true then SM.ret (⟨(limS ws offB s).1, r.1, r.2, f, true, un0⟩ : LiT) else SM.bind (checkS ws untB) fun _ => SM.bind (yearS ws) fun y => SM.bind (whenS ws) fun w => SM.ret ⟨(limS ws offB s).1, r.1, r.2, f, false, ⟨y, w.1, w.2.1, w.2.2.1, w.2.2.2⟩⟩) t).1.fm.length ≤ _
 by_cases h1 : (t.n == ws.length) = true
 ·rw [if_pos h1]
  exact ⟨hr, hf2⟩
 ·rw [if_neg h1]
  exact ⟨hr, hf2⟩
theorem mem_snoc {α : Type} {x y : α} {l : List α} (h : x ∈ l ++ [y]) : x ∈ l ∨ x = y := by
 rcases List.mem_append.1 h with q | q
 ·exact .inl q
 ·exact .inr (List.mem_singleton.1 q)
theorem LnB.up {k : Nat} {s : SrT} (h : LnB k s) : LnB (k + 1) s := ⟨Nat.le_succ_of_le h.ru, Nat.le_succ_of_le h.zo, Nat.le_succ_of_le h.lk, fun z hz => Nat.le_succ_of_le (h.li z hz), h.sz⟩
theorem LnB.to {k k' : Nat} {s : SrT} (h : LnB k s) (hk : k ≤ k') : LnB k' s := ⟨Nat.le_trans h.ru hk, Nat.le_trans h.zo hk, Nat.le_trans h.lk hk, fun z hz => Nat.le_trans (h.li z hz) hk, h.sz⟩
theorem LnB.addR {k : Nat} {s : SrT} (h : LnB k s) {x : RuT} (hx : x.nm.length ≤ 4294967280 ∧ x.le.length ≤ 4294967280) : LnB (k + 1) { s with ru := s.ru ++ [x] } := by
 have h2 := h.up
 refine ⟨?_, h2.zo, h2.lk, h2.li, ⟨fun r hr => ?_, h.sz.zo, h.sz.lk⟩⟩
 ·have := h.ru
  show (s.ru ++ [x]).length ≤ _
  simp; omega
 ·rcases mem_snoc hr with q | q
  ·exact h.sz.ru r q
  ·rw [q]; exact hx
theorem LnB.addK {k : Nat} {s : SrT} (h : LnB k s) {x : LkT} (hx : x.nm.length ≤ 4294967280 ∧ x.zo.length ≤ 4294967280) : LnB (k + 1) { s with lk := s.lk ++ [x] } := by
 have h2 := h.up
 refine ⟨h2.ru, h2.zo, ?_, h2.li, ⟨h.sz.ru, h.sz.zo, fun r hr => ?_⟩⟩
 ·have := h.lk
  show (s.lk ++ [x]).length ≤ _
  simp; omega
 ·rcases mem_snoc hr with q | q
  ·exact h.sz.lk r q
  ·rw [q]; exact hx
theorem LnB.addZ {k : Nat} {s : SrT} (h : LnB k s) {nm : Bs} (hx : nm.length ≤ 4294967280) : LnB (k + 1) { s with zo := s.zo ++ [⟨nm, []⟩] } := by
 have h2 := h.up
 refine ⟨h2.ru, ?_, h2.lk, fun z hz => ?_, ⟨h.sz.ru, fun z hz => ?_, h.sz.lk⟩⟩
 ·have := h.zo
  show (s.zo ++ [_]).length ≤ _
  simp; omega
 ·rcases mem_snoc hz with q | q
  ·exact h2.li z q
  ·rw [q]; exact Nat.zero_le _
 ·rcases mem_snoc hz with q | q
  ·exact h.sz.zo z q
  ·rw [q]; exact ⟨hx, fun l hl => (List.not_mem_nil hl).elim⟩
theorem last_mem {s : SrT} (h : s.zo ≠ []) : s.zo.getLastD ⟨[], []⟩ ∈ s.zo := by
 rw [List.getLastD_eq_getLast?, List.getLast?_eq_getElem?, List.getElem?_eq_getElem (by have := List.length_pos_iff.2 h; omega)]
 exact List.getElem_mem _
theorem LnB.addLi {k : Nat} {s : SrT} (h : LnB k s) (hz : s.zo ≠ []) {x : LiT} (hx : x.ru.length ≤ 4294967280 ∧ x.fm.length ≤ 4294967280) : LnB (k + 1) (addLine s x) := by
 have h2 := h.up
 have hl := last_mem hz
 refine ⟨h2.ru, ?_, h2.lk, fun z hz => ?_, ⟨h.sz.ru, fun z hz => ?_, h.sz.lk⟩⟩
 ·have := h.zo
  show (s.zo.dropLast ++ [_]).length ≤ _
  rw [List.length_append, List.length_dropLast, List.length_singleton]
  omega
 ·rcases mem_snoc hz with q | q
  ·exact h2.li z ((List.dropLast_sublist _).subset q)
  ·rw [q]
   have := h.li _ hl
   show ((s.zo.getLastD ⟨[], []⟩).li ++ [x]).length ≤ _
   rw [List.length_append, List.length_singleton]
   omega
 ·rcases mem_snoc hz with q | q
  ·exact h.sz.zo z ((List.dropLast_sublist _).subset q)
  ·rw [q]
   have := h.sz.zo _ hl
   refine ⟨this.1, fun l hl => ?_⟩
   rcases mem_snoc hl with q | q
   ·exact this.2 l q
   ·rw [q]; exact hx
theorem LnB.step {k : Nat} {s : SrT} (h : LnB k s) {ws : List Tok} (hw : WsB ws) : LnB (k + 1) (stepS ws s).1 := by
 unfold stepS
 by_cases h1 : (ws.getD 0 tok0).tx = [114, 117, 108, 101]
 ·rw [if_pos h1]
  exact h.addR (rule_b hw _)
 rw [if_neg h1]
 by_cases h2 : (ws.getD 0 tok0).tx = [122, 111, 110, 101]
 ·rw [if_pos h2]
  exact h.addZ (nm := (zoneS ws (st0 1)).1.nm) (word_b hw _)
 rw [if_neg h2]
 by_cases h3 : (ws.getD 0 tok0).tx = [108, 105, 110, 101]
 ·rw [if_pos h3]
  by_cases h5 : (s.zo == [] || doneB (s.zo.getLastD ⟨[], []⟩)) = true
  ·rw [if_pos h5]
   exact h.up
  ·rw [if_neg h5]
   refine h.addLi (fun q => h5 ?_) (line_b hw _)
   rw [q]
   rfl
 rw [if_neg h3]
 by_cases h4 : (ws.getD 0 tok0).tx = [108, 105, 110, 107]
 ·rw [if_pos h4]
  exact h.addK (x := (linkS ws (st0 1)).1) ⟨word_b hw _, word_b hw _⟩
 rw [if_neg h4]
 exact h.up
theorem LnB.read {LL : List (List Tok)} (hw : ∀ ws ∈ LL, WsB ws ∧ 1 ≤ ws.length) : ∀ {k : Nat} {s s' : SrT}, LnB k s → readS LL s = .inl s' → LnB (k + LL.length) s' := by
 induction LL with
 | nil =>
  intro k s s' h hr
  injection hr with hr
  rw [← hr]
  exact h
 | cons ws r ih =>
  intro k s s' h hr
  unfold readS at hr
  rw [step_prog ws s (hw ws (List.mem_cons_self ..)).2] at hr
  by_cases he : (stepS ws s).2.e = 0
  ·rw [if_pos he] at hr
   have := ih (fun w hm => hw w (List.mem_cons_of_mem _ hm)) (h.step (hw ws (List.mem_cons_self ..)).1) hr
   exact this.to (by rw [List.length_cons]; omega)
  ·rw [if_neg he] at hr
   exact absurd hr (by simp)
theorem lexS_sz (ln : Nat) : ∀ (s : Bs) (k : Nat) (st : LxS) (ws : List Tok) (N : Nat), (st.op = true → st.ws ≠ []) → (∀ w ∈ st.ws, w.tx.length ≤ N) → lexS ln s k st = .inl ws → ∀ w ∈ ws, w.tx.length ≤ N + s.length
 | [], k, st, ws, N, _, hi, h => by
  rw [lexS] at h
  injection h with h
  subst h
  exact hi
 | c :: r, k, st, ws, N, ho, hi, h => by
  rw [lexS] at h
  split at h
  ·exact absurd h (by simp)
  ·unfold lxStep at h
   have key : ∀ st' : LxS, (st'.op = true → st'.ws ≠ []) → (∀ w ∈ st'.ws, w.tx.length ≤ N + 1) → lexS ln r (k + 1) st' = .inl ws → ∀ w ∈ ws, w.tx.length ≤ N + (c :: r).length := fun st' h1 h2 h3 w hw => by
    have := lexS_sz ln r (k + 1) st' ws (N + 1) h1 h2 h3 w hw
    rw [List.length_cons]
    omega
   split at h
   ·exact key ⟨st.cm || c == 35, false, st.ws⟩ (by simp) (fun w hw => Nat.le_succ_of_le (hi w hw)) h
   ·split at h
    ·rename_i h2
     refine key _ (fun _ e => ?_) (fun w hw => ?_) h
     ·have hl := congrArg List.length e
      rw [moreT_len c (ho h2), List.length_nil] at hl
      have := List.length_pos_iff.2 (ho h2)
      omega
     ·rcases more_mem (ho h2) hw with hw | ⟨v, hv, e1, e2, e3⟩
      ·exact Nat.le_succ_of_le (hi w hw)
      ·have := hi v hv
       rw [e1, List.length_append, List.length_singleton]
       omega
    ·refine key _ (by simp) (fun w hw => ?_) h
     rw [List.mem_append, List.mem_singleton] at hw
     rcases hw with hw | hw
     ·exact Nat.le_succ_of_le (hi w hw)
     ·rw [hw]
      show 1 ≤ _
      omega
theorem linesS_sz : ∀ (L : List Bs) (ln M : Nat) (out : List (List Tok)), (∀ l ∈ L, l.length ≤ M) → linesS ln L = .inl out → ∀ ws ∈ out, ∀ w ∈ ws, w.tx.length ≤ M
 | [], ln, M, out, _, h => by
  rw [linesS] at h
  injection h with h
  subst h
  exact fun ws hw => (List.not_mem_nil hw).elim
 | l :: r, ln, M, out, hM, h => by
  rw [linesS] at h
  cases h1 : lexL ln l with
  | inr k => rw [h1] at h; exact absurd h (by simp)
  | inl v =>
   rw [h1] at h
   simp only at h
   cases h2 : linesS (ln + 1) r with
   | inr k => rw [h2] at h; exact absurd h (by simp)
   | inl o =>
    rw [h2] at h
    simp only at h
    injection h with h
    have ih := linesS_sz r (ln + 1) M o (fun l hl => hM l (List.mem_cons_of_mem _ hl)) h2
    have hl := lexS_sz ln l 1 ⟨false, false, []⟩ v 0 (by simp) (fun w hw => (List.not_mem_nil hw).elim) h1
    have hm := hM l (List.mem_cons_self ..)
    subst h
    intro ws hw w hq
    split at hw
    ·exact ih ws hw w hq
    ·rcases List.mem_cons.1 hw with rfl | hw
     ·have := hl w hq
      omega
     ·exact ih ws hw w hq
theorem split_sz : ∀ (s : Bs), ∀ l ∈ splitNl s, l.length ≤ s.length
 | [], l, h => by
  rw [splitNl] at h
  rw [List.mem_singleton.1 h]
  exact Nat.le_refl _
 | c :: r, l, h => by
  have ih := split_sz r
  rw [splitNl] at h
  rw [List.length_cons]
  split at h
  ·rcases List.mem_cons.1 h with rfl | h
   ·simp
   ·have := ih l h
    omega
  ·cases hs : splitNl r with
   | nil =>
    rw [hs] at h
    rw [List.mem_singleton.1 h]
    simp
   | cons a b =>
    rw [hs] at h ih
    simp only at h
    rcases List.mem_cons.1 h with rfl | h
    ·have := ih a (List.mem_cons_self ..)
     rw [List.length_cons]
     omega
    ·have := ih l (List.mem_cons_of_mem _ h)
     omega
theorem linesM_b (t : Bs) (ht : t.length ≤ 4294967280) : (∀ ws ∈ (linesM t).1, WsB ws ∧ 1 ≤ ws.length ∧ ws.length ≤ 1000000) ∧ (linesM t).1.length ≤ 65537 := by
 by_cases h : (linesM t).2.2 = 0
 ·have hne := linesM_ne t
  have hl := linesM_len h
  have h6 : t.length ≤ 65536 := by
   by_cases q : 65536 < t.length
   ·unfold linesM at h
    rw [if_pos q] at h
    exact absurd h (by simp)
   ·omega
  have hsz : ∀ ws ∈ (linesM t).1, WsB ws := by
   unfold linesM
   rw [if_neg (by omega)]
   cases hs : linesS 1 (splitNl t) with
   | inr p => exact fun ws hw => (List.not_mem_nil hw).elim
   | inl out => exact linesS_sz _ _ _ out (fun l hl => Nat.le_trans (split_sz t l hl) ht) hs
  generalize (linesM t).1 = LL at hne hl hsz
  have hsum : ∀ LL : List (List Tok), (∀ ws ∈ LL, ws ≠ []) → LL.length ≤ sumW LL ∧ ∀ ws ∈ LL, ws.length ≤ sumW LL := by
   intro LL
   induction LL with
   | nil => exact fun _ => ⟨Nat.le_refl _, fun ws hw => (List.not_mem_nil hw).elim⟩
   | cons a r ih =>
    intro hn
    have h1 := ih fun ws hw => hn ws (List.mem_cons_of_mem _ hw)
    have h2 := List.length_pos_iff.2 (hn a (List.mem_cons_self ..))
    have e : sumW (a :: r) = a.length + sumW r := by unfold sumW; rw [List.map_cons, List.sum_cons]
    rw [e, List.length_cons]
    refine ⟨by omega, fun ws hw => ?_⟩
    rcases List.mem_cons.1 hw with rfl | hw
    ·omega
    ·have := h1.2 ws hw
     omega
  have h3 := hsum LL hne
  refine ⟨fun ws hw => ⟨hsz ws hw, List.length_pos_iff.2 (hne ws hw), ?_⟩, by omega⟩
  have := h3.2 ws hw
  omega
 ·have e : (linesM t).1 = [] := by
   unfold linesM at h ⊢
   split
   ·rfl
   ·rename_i q
    rw [if_neg q] at h
    cases hs : linesS 1 (splitNl t) with
    | inr p => rfl
    | inl out => rw [hs] at h; exact absurd rfl h
  rw [e]
  exact ⟨fun ws hw => (List.not_mem_nil hw).elim, by simp⟩
end Go.Proofs.YtlbglinpgjlbkaaGreatDoor
namespace Go.Proofs.YtlbglinpgjlbkaaGreatDoor
open Go.RowKit Wk Go.Maps

def fnV (n rb : Nat) : Value := .func (.func n) #[.pointer (some ⟨rb, 0, none⟩)] #[]
open Classical in
noncomputable def fnR (rb : Nat) (v : Value) : Option (DataW Unit × List MemPlace) :=
 if v = fnV 43 rb then some (.lit (.int .i64 1), []) else if v = fnV 44 rb then some (.lit (.int .i64 2), []) else
 if v = fnV 45 rb then some (.lit (.int .i64 3), []) else if v = fnV 46 rb then some (.lit (.int .i64 4), []) else some (.lit (.int .i64 0), [])
theorem fnV_ne {n m rb : Nat} (h : n ≠ m) : fnV n rb ≠ fnV m rb := by
 intro e
 unfold fnV at e
 injection e with e
 injection e with e
 exact h e
theorem fnR_mk (rb : Nat) : fnR rb (fnV 43 rb) = some (.lit (.int .i64 1), []) ∧ fnR rb (fnV 44 rb) = some (.lit (.int .i64 2), []) ∧ fnR rb (fnV 45 rb) = some (.lit (.int .i64 3), []) ∧ fnR rb (fnV 46 rb) = some (.lit (.int .i64 4), []) ∧ fnR rb .nilFunc = some (.lit (.int .i64 0), []) := by
 have hn : ∀ n, Value.nilFunc ≠ fnV n rb := fun n e => by unfold fnV at e; cases e
 unfold fnR
 refine ⟨if_pos rfl, ?_, ?_, ?_, ?_⟩
 ·rw [if_neg (fnV_ne (by decide)), if_pos rfl]
 ·rw [if_neg (fnV_ne (by decide)), if_neg (fnV_ne (by decide)), if_pos rfl]
 ·rw [if_neg (fnV_ne (by decide)), if_neg (fnV_ne (by decide)), if_neg (fnV_ne (by decide)), if_pos rfl]
 ·rw [if_neg (hn _), if_neg (hn _), if_neg (hn _), if_neg (hn _)]
theorem fnR_inv {rb : Nat} {v : Value} {k : Int} {ps : List MemPlace} (h : fnR rb v = some (.lit (.int .i64 k), ps)) : (k = 1 → v = fnV 43 rb) ∧ (k = 2 → v = fnV 44 rb) ∧ (k = 3 → v = fnV 45 rb) ∧ (k = 4 → v = fnV 46 rb) := by
 have key : ∀ {a : Int} {qs : List MemPlace}, (some ((DataW.lit (.int .i64 a) : DataW Unit), qs)) = some (.lit (.int .i64 k), ps) → a = k := fun e => by
  injection e with e
  injection e with e _
  injection e with e
  injection e
 unfold fnR at h
 split at h
 ·have := key h
  rename_i q
  exact ⟨fun _ => q, fun e => absurd e (by omega), fun e => absurd e (by omega), fun e => absurd e (by omega)⟩
 split at h
 ·have := key h
  rename_i q
  exact ⟨fun e => absurd e (by omega), fun _ => q, fun e => absurd e (by omega), fun e => absurd e (by omega)⟩
 split at h
 ·have := key h
  rename_i q
  exact ⟨fun e => absurd e (by omega), fun e => absurd e (by omega), fun _ => q, fun e => absurd e (by omega)⟩
 split at h
 ·have := key h
  rename_i q
  exact ⟨fun e => absurd e (by omega), fun e => absurd e (by omega), fun e => absurd e (by omega), fun _ => q⟩
 ·have := key h
  exact ⟨fun e => absurd e (by omega), fun e => absurd e (by omega), fun e => absurd e (by omega), fun e => absurd e (by omega)⟩
def knD : DataW Unit := ((((DataW.map []).put (.string [114, 117, 108, 101]) (.lit (.int .i64 1))).put (.string [122, 111, 110, 101]) (.lit (.int .i64 2))).put (.string [108, 105, 110, 101]) (.lit (.int .i64 3))).put (.string [108, 105, 110, 107]) (.lit (.int .i64 4))
theorem kn_has (t : Bs) (z : DataW Unit) : (t = [114, 117, 108, 101] → knD.atKey (.string t) z = .lit (.int .i64 1) ∧ has knD (.string t) = true) ∧ (t = [122, 111, 110, 101] → knD.atKey (.string t) z = .lit (.int .i64 2) ∧ has knD (.string t) = true) ∧ (t = [108, 105, 110, 101] → knD.atKey (.string t) z = .lit (.int .i64 3) ∧ has knD (.string t) = true) ∧ (t = [108, 105, 110, 107] → knD.atKey (.string t) z = .lit (.int .i64 4) ∧ has knD (.string t) = true) ∧ (t ≠ [114, 117, 108, 101] ∧ t ≠ [122, 111, 110, 101] ∧ t ≠ [108, 105, 110, 101] ∧ t ≠ [108, 105, 110, 107] → has knD (.string t) = false) := by
 have hne : ∀ a b : Bs, a ≠ b → (Lit.string a) ≠ .string b := fun a b h e => h (by injection e)
 have i0 : IsMap (DataW.map (H := Unit) []) := isMap_empty
 unfold knD
 refine ⟨?_, ?_, ?_, ?_, ?_⟩
 ·rintro rfl
  rw [atKey_put_other (hne _ _ (by decide)), atKey_put_other (hne _ _ (by decide)), atKey_put_other (hne _ _ (by decide)), atKey_put_same i0 (show WideAt.IsKeyLit (.string [114, 117, 108, 101]) from trivial), has_put_other (hne _ _ (by decide)), has_put_other (hne _ _ (by decide)), has_put_other (hne _ _ (by decide)), has_put_same i0 (show WideAt.IsKeyLit (.string [114, 117, 108, 101]) from trivial)]
  exact ⟨rfl, rfl⟩
 ·rintro rfl
  rw [atKey_put_other (hne _ _ (by decide)), atKey_put_other (hne _ _ (by decide)), atKey_put_same (i0.put _ _) (show WideAt.IsKeyLit (.string [122, 111, 110, 101]) from trivial), has_put_other (hne _ _ (by decide)), has_put_other (hne _ _ (by decide)), has_put_same (i0.put _ _) (show WideAt.IsKeyLit (.string [122, 111, 110, 101]) from trivial)]
  exact ⟨rfl, rfl⟩
 ·rintro rfl
  rw [atKey_put_other (hne _ _ (by decide)), atKey_put_same ((i0.put _ _).put _ _) (show WideAt.IsKeyLit (.string [108, 105, 110, 101]) from trivial), has_put_other (hne _ _ (by decide)), has_put_same ((i0.put _ _).put _ _) (show WideAt.IsKeyLit (.string [108, 105, 110, 101]) from trivial)]
  exact ⟨rfl, rfl⟩
 ·rintro rfl
  rw [atKey_put_same (((i0.put _ _).put _ _).put _ _) (show WideAt.IsKeyLit (.string [108, 105, 110, 107]) from trivial), has_put_same (((i0.put _ _).put _ _).put _ _) (show WideAt.IsKeyLit (.string [108, 105, 110, 107]) from trivial)]
  exact ⟨rfl, rfl⟩
 ·rintro ⟨h1, h2, h3, h4⟩
  rw [has_put_other (hne _ _ h4), has_put_other (hne _ _ h3), has_put_other (hne _ _ h2), has_put_other (hne _ _ h1)]
  rfl
theorem zeroFn (w : World) : (zeroValue 83).run Tryz.prog w = .ok .nilFunc w := by kernel_rfl
set_option maxRecDepth 100000 in
theorem kn_look {w : World} {rb b n : Nat} (h : w.ownsMap Tryz.prog 9 (fnR rb) b n knD) (t : ByteArray) (ht : t.size ≤ maxLen) :
  (bsO t = [114, 117, 108, 101] → (Instr.lookup 84 (.map (some b)) (.string t) true).run Tryz.prog w = .ok (.tuple #[fnV 43 rb, .bool true]) w) ∧
  (bsO t = [122, 111, 110, 101] → (Instr.lookup 84 (.map (some b)) (.string t) true).run Tryz.prog w = .ok (.tuple #[fnV 44 rb, .bool true]) w) ∧
  (bsO t = [108, 105, 110, 101] → (Instr.lookup 84 (.map (some b)) (.string t) true).run Tryz.prog w = .ok (.tuple #[fnV 45 rb, .bool true]) w) ∧
  (bsO t = [108, 105, 110, 107] → (Instr.lookup 84 (.map (some b)) (.string t) true).run Tryz.prog w = .ok (.tuple #[fnV 46 rb, .bool true]) w) ∧
  (bsO t ≠ [114, 117, 108, 101] ∧ bsO t ≠ [122, 111, 110, 101] ∧ bsO t ≠ [108, 105, 110, 101] ∧ bsO t ≠ [108, 105, 110, 107] → ∃ v, (Instr.lookup 84 (.map (some b)) (.string t) true).run Tryz.prog w = .ok (.tuple #[v, .bool false]) w) := by
 obtain ⟨v, ps, hrun, hv⟩ := h.look_ok lawS Tryz.underlying84 (zeroFn w) (fnR_mk rb).2.2.2.2 (Go.WideMaps.keyOf_string_mk Tryz.underlying9 ht)
 have hk := kn_has t.data.toList (.lit (.int .i64 0))
 refine ⟨fun e => ?_, fun e => ?_, fun e => ?_, fun e => ?_, fun e => ⟨v, ?_⟩⟩
 ·have h1 := hk.1 e
  rw [h1.1] at hv
  rw [hrun, h1.2, (fnR_inv hv).1 rfl]
 ·have h1 := hk.2.1 e
  rw [h1.1] at hv
  rw [hrun, h1.2, (fnR_inv hv).2.1 rfl]
 ·have h1 := hk.2.2.1 e
  rw [h1.1] at hv
  rw [hrun, h1.2, (fnR_inv hv).2.2.1 rfl]
 ·have h1 := hk.2.2.2.1 e
  rw [h1.1] at hv
  rw [hrun, h1.2, (fnR_inv hv).2.2.2 rfl]
 ·rw [hrun, hk.2.2.2.2 e]
theorem map_grown {w w' : World} {Pr : Program} {k : TypeId} {R : Value → Option (DataW Unit × List MemPlace)} {b rb n : Nat} {D : DataW Unit} (h : w.ownsMap Pr k R b n D) (hg : w.grownBy w' (some rb)) (hn : b ≠ rb) : w'.ownsMap Pr k R b n D := by
 obtain ⟨es, ck, hb, h2⟩ := h
 exact ⟨es, ck, (hg.block b (Array.getElem?_eq_some_iff.1 hb).1 (by intro q; cases q; exact hn rfl)).trans hb, h2⟩
theorem OwnGG.at {α : Type} {T1 T : TypeId} {sz : Nat} {fl : α → List Value} {d : α} {w : World} {B : Nat} {v : Value} {LL : List (List α)} (h : OwnGG T1 T sz fl w B v LL) (hf : ∀ x, (fl x).length = sz) {i : Nat} (hi : i < LL.length) (hl : (LL.getD i []).length ≤ 1000000) :
  ∃ g c wv, v = .slice (some ⟨g, 0, none⟩) LL.length c ∧ w.cell? ⟨g, i, none⟩ = some wv ∧ RdG sz fl d w wv (LL.getD i []) ∧ ∀ g', wv.ownBlock = some g' → B ≤ g' := by
 obtain ⟨vs, h1, h2, h3⟩ := h
 obtain ⟨g, c, e, -, -⟩ := h1.pos (by omega)
 rw [e] at h1
 have hc := h1.cell flV_len nilV (i := i) (j := 0) (u := vs.getD i nilV) (by omega) (by decide) rfl
 refine ⟨g, c, vs.getD i nilV, by rw [e, h2], ?_, (h3 i hi).rd hf hl, fun g' q => (World.ownsRow.lt (h3 i hi) g' q).1⟩
 have := hc.1
 rwa [Nat.mul_one] at this
theorem rdsr_nil (w : World) : RdSr w (.slice none 0 0) (.slice none 0 0) (.slice none 0 0) sr0 [] := ⟨(OwnG.nil (T := 41) w 0).rd flRu_len (Nat.zero_le _), ⟨(OwnG.nil (T := 45) w 0).rd flZk_len (Nat.zero_le _), fun i hi => absurd hi (by simp)⟩, rfl, (OwnG.nil (T := 48) w 0).rd flLk_len (Nat.zero_le _)⟩
def ParP (t : Bs) (w : World) (e : Ending) (w' : World) : Prop :=
 ∃ rv zv lv Z, e = .returned (.tuple #[.agg #[rv, zv, lv], posV (parseM t).2.1, .int .i64 (parseM t).2.2]) ∧ RdSr w' rv zv lv (parseM t).1 Z ∧ CapV rv ∧ CapV zv ∧ CapV lv ∧ Below w.heap.size w w'
theorem cap_nil : CapV (.slice none 0 0) := fun a n c e => by cases e; exact Nat.le_refl _
theorem par_no {t : Bs} {p : Nat × Nat} {er : Int} (h : parseM t = (sr0, p, er)) {w w' : World} {a b c : Int} (h1 : a = p.1) (h2 : b = p.2) (h3 : c = er) (hb : Below w.heap.size w w') :
  ParP t w (.returned (.tuple #[.agg #[.slice none 0 0, .slice none 0 0, .slice none 0 0], .agg #[.int .i64 a, .int .i64 b], .int .i64 c])) w' := by
 subst h1 h2 h3
 exact ⟨_, _, _, [], by rw [h]; rfl, by rw [h]; exact rdsr_nil w', cap_nil, cap_nil, cap_nil, hb⟩

theorem res_w {w W : World} {b2 b3 : Nat} {x0 x1 x2 y0 y1 : Value} {T T' : TypeId} (h2 : Blk W b2 #[x0, x1, x2] T) (h3 : Blk W b3 #[y0, y1] T') (hb : Below w.heap.size w W) (l2 : w.heap.size ≤ b2) (l3 : w.heap.size ≤ b3) (hne : b2 ≠ b3) (v0 v1 v2 : Value) (a c : Int) :
  Below w.heap.size w (((((W.setCell ⟨b2, 0, none⟩ (v0)).setCell ⟨b2, 1, none⟩ (v1)).setCell ⟨b2, 2, none⟩ (v2)).setCell ⟨b3, 0, none⟩ (.int .i64 (a))).setCell ⟨b3, 1, none⟩ (.int .i64 (c))) ∧ (((((W.setCell ⟨b2, 0, none⟩ (v0)).setCell ⟨b2, 1, none⟩ (v1)).setCell ⟨b2, 2, none⟩ (v2)).setCell ⟨b3, 0, none⟩ (.int .i64 (a))).setCell ⟨b3, 1, none⟩ (.int .i64 (c))).cell? ⟨b2, 0, none⟩ = some v0 ∧ (((((W.setCell ⟨b2, 0, none⟩ (v0)).setCell ⟨b2, 1, none⟩ (v1)).setCell ⟨b2, 2, none⟩ (v2)).setCell ⟨b3, 0, none⟩ (.int .i64 (a))).setCell ⟨b3, 1, none⟩ (.int .i64 (c))).cell? ⟨b2, 1, none⟩ = some v1 ∧ (((((W.setCell ⟨b2, 0, none⟩ (v0)).setCell ⟨b2, 1, none⟩ (v1)).setCell ⟨b2, 2, none⟩ (v2)).setCell ⟨b3, 0, none⟩ (.int .i64 (a))).setCell ⟨b3, 1, none⟩ (.int .i64 (c))).cell? ⟨b2, 2, none⟩ = some v2 ∧ (((((W.setCell ⟨b2, 0, none⟩ (v0)).setCell ⟨b2, 1, none⟩ (v1)).setCell ⟨b2, 2, none⟩ (v2)).setCell ⟨b3, 0, none⟩ (.int .i64 (a))).setCell ⟨b3, 1, none⟩ (.int .i64 (c))).cell? ⟨b3, 0, none⟩ = some (.int .i64 a) ∧ (((((W.setCell ⟨b2, 0, none⟩ (v0)).setCell ⟨b2, 1, none⟩ (v1)).setCell ⟨b2, 2, none⟩ (v2)).setCell ⟨b3, 0, none⟩ (.int .i64 (a))).setCell ⟨b3, 1, none⟩ (.int .i64 (c))).cell? ⟨b3, 1, none⟩ = some (.int .i64 c) := by
 have k2 := set3_blk h2 v0 v1 v2
 have k3 : Blk (((W.setCell ⟨b2, 0, none⟩ v0).setCell ⟨b2, 1, none⟩ v1).setCell ⟨b2, 2, none⟩ v2) b3 #[y0, y1] T' := ((h3.far (Ne.symm hne) v0).far (Ne.symm hne) v1).far (Ne.symm hne) v2
 have k4 := (k3.set (j := 0) (.int .i64 a)).set (j := 1) (.int .i64 c)
 have k5 := (k2.far (b' := b3) (j := 0) hne (.int .i64 a)).far (b' := b3) (j := 1) hne (.int .i64 c)
 refine ⟨?_, k5.cell (j := 0) rfl, k5.cell (j := 1) rfl, k5.cell (j := 2) rfl, k4.cell (j := 0) rfl, k4.cell (j := 1) rfl⟩
 exact ((((hb.setCell (p := ⟨b2, 0, none⟩) l2 _).setCell (p := ⟨b2, 1, none⟩) l2 _).setCell (p := ⟨b2, 2, none⟩) l2 _).setCell (p := ⟨b3, 0, none⟩) l3 _).setCell (p := ⟨b3, 1, none⟩) l3 _
theorem res_at {W : World} {b2 b3 : Nat} {x0 x1 x2 y0 y1 : Value} {T T' : TypeId} (h2 : Blk W b2 #[x0, x1, x2] T) (h3 : Blk W b3 #[y0, y1] T') :
  (W.cell? ⟨b2, 0, none⟩ = some x0 ∧ W.cell? ⟨b2, 1, none⟩ = some x1 ∧ W.cell? ⟨b2, 2, none⟩ = some x2 ∧ W.frozen? ⟨b2, 0, none⟩ = false ∧ W.frozen? ⟨b2, 1, none⟩ = false ∧ W.frozen? ⟨b2, 2, none⟩ = false) ∧ W.cell? ⟨b3, 0, none⟩ = some y0 ∧ W.cell? ⟨b3, 1, none⟩ = some y1 ∧ W.frozen? ⟨b3, 0, none⟩ = false ∧ W.frozen? ⟨b3, 1, none⟩ = false :=
 ⟨⟨h2.cell (j := 0) rfl, h2.cell (j := 1) rfl, h2.cell (j := 2) rfl, h2.frz 0, h2.frz 1, h2.frz 2⟩, h3.cell (j := 0) rfl, h3.cell (j := 1) rfl, h3.frz 0, h3.frz 1⟩

theorem RdZk.mem {w : World} {v : Value} {L : List ZkT} (h : RdZk w v L) {x : ZkT} (hx : x ∈ L) : RdLi w x.2 x.1.li := by
 obtain ⟨i, hi, e⟩ := List.mem_iff_getElem.1 hx
 have := h.li i hi
 rw [List.getD_eq_getElem?_getD, List.getElem?_eq_getElem hi, Option.getD_some, e] at this
 exact this
theorem word_first {ws : List Tok} (h : 1 ≤ ws.length) : wordS ws (st0 0) = ((ws.getD 0 tok0).tx, st0 1) := by
 unfold wordS
 rw [if_neg (show ¬ws.length ≤ (st0 0).n from by show ¬ws.length ≤ 0; omega)]
 rfl
theorem SrcM.start {w : World} {B sb : Nat} (hb : Blk w sb #[.slice none 0 0, .slice none 0 0, .slice none 0 0] 27) (hB : B ≤ sb) : SrcM B sb sr0 (.slice none 0 0) (.slice none 0 0) (.slice none 0 0) [] w :=
 ⟨hb, OwnG.nil _ _, OwnG.nil _ _, rfl, fun i hi => absurd hi (by simp), OwnG.nil _ _, hB, fun i j _ hj => absurd hj (by simp)⟩

set_option maxRecDepth 100000 in
theorem pz1_any (NM : ByteArray) (lv : Value) (li : List LiT) (w : World) (hr : RdLi w lv li) :
  Calls Tryz.prog 50 #[.agg #[.string NM, lv]] w fun e w' => e = .returned (.bool (!doneB ⟨bsO NM, li⟩)) ∧ Below w.heap.size w w' := by
 have HD : Hid (∀ W, Below w.heap.size w W → Calls Tryz.prog 51 #[.agg #[.string NM, lv]] W fun e w' => e = .returned (.bool (doneB ⟨bsO NM, li⟩)) ∧ Below W.heap.size W w') := Lib.hid fun W hW => done_any (bsO NM) lv li W (hr.below hW)
 obtain ⟨q, hq⟩ : ∃ q, doneB ⟨bsO NM, li⟩ = q := ⟨_, rfl⟩
 rw [hq] at HD ⊢
 obtain ⟨a2, n2, rfl⟩ := hr.form
 clear hq hr
 go_enter Tryz.func50, Tryz.ntmps50
 go_upto_region 1 with fail
 obtain ⟨X, hX⟩ : ∃ X, w.alloc (.cells #[.string NM, .slice a2 li.length n2] 45) = X := ⟨_, rfl⟩
 obtain ⟨bz, hbz⟩ : ∃ b, w.heap.size = b := ⟨_, rfl⟩
 have HBX : Hid (Below w.heap.size w X) := Lib.hid (by rw [← hX]; exact (Below.refl _ _).alloc (Nat.le_refl _) _)
 have HK : Hid (Blk X bz #[.string NM, .slice a2 li.length n2] 45) := Lib.hid (by rw [← hX, ← hbz]; exact Blk.new _ _ _)
 have x0 := HK.out.cell (j := 0) rfl
 have x1 := HK.out.cell (j := 1) rfl
 try rw [hX]
 try rw [hbz]
 clear hX hbz
 go_wp2_with (first | (go_at_call 51; refine (HD.out _ HBX.out).mono ?_; rintro e w' ⟨rfl, hb⟩) | fail)
 go_ret
 exact ⟨ret_bool (by cases q <;> rfl), keepBelow HBX.out hb⟩

set_option maxRecDepth 100000 in
set_option maxHeartbeats 2000000 in
theorem idx_pz1 (f : ZkT → Bool) (v : Value) (L : List ZkT) (w : World) (h : RdZk w v L) (HF : Hid (∀ x, x ∈ L → ∀ W, Below w.heap.size w W → Calls Tryz.prog 50 #[(.agg (flZk x).toArray)] W fun e w' => e = .returned (.bool (f x)) ∧ Below W.heap.size W w')) :
  Calls Tryz.prog 129 #[v, .func (.func 50) #[] #[]] w fun e w' => (∃ r : Int, e = .returned (.int .i64 r) ∧ (decide (0 ≤ r) = L.any f)) ∧ Below w.heap.size w w' := by
 obtain ⟨a, c, rfl, hl, hc⟩ := h.row
 have HC := Lib.hid hc
 clear hc
 go_enter Tryz.func129, Tryz.ntmps129
 go_wp2_with fail
 go_loopw [8] (fun u wr => ∃ k : Nat, u = .int .i64 k ∧ k ≤ L.length ∧ Hid (∀ i, i < k → f (L.getD i zk0) = false) ∧ Below w.heap.size w wr) (fun u _ => L.length - (intOf u).toNat)
 case atStart => exact ⟨0, rfl, Nat.zero_le _, fun i hi => by omega, Below.refl _ _⟩
 case round =>
  obtain ⟨k, rfl, hk, HZ, hB⟩ := hrel
  by_cases hlt : k < L.length
  ·obtain ⟨b, o, rfl, hcc⟩ := HC.out k hlt
   obtain ⟨x, hx⟩ : ∃ x, L.getD k zk0 = x := ⟨_, rfl⟩
   have HX := HF.out x (by rw [← hx]; exact getD_mem hlt) wr hB
   have HXE := Lib.hid hx
   rw [hx] at hcc
   obtain ⟨g, hg⟩ : ∃ g, f x = g := ⟨_, rfl⟩
   rw [hg] at HX
   have HG : Hid (f (L.getD k zk0) = g) := Lib.hid (by rw [hx]; exact hg)
   clear hg hx HXE
   obtain ⟨⟨nm, li⟩, lv⟩ := x
   obtain ⟨NM, rfl⟩ := bs_of nm
   have HH : Hid (Calls Tryz.prog 50 #[.agg #[.string NM, lv]] wr fun e w' => e = .returned (.bool g) ∧ Below wr.heap.size wr w') := Lib.hid HX
   clear HX
   have e0 : wr.cell? ⟨b, o + k * 2, none⟩ = some (.string NM) := keepCell hB (hcc 0 _ (by decide) rfl)
   have e1 : wr.cell? ⟨b, o + k * 2 + 1, none⟩ = some (lv) := keepCell hB (hcc 1 _ (by decide) rfl)
   clear hcc
   go_wp2_with fail
   refine HH.out.mono ?_
   rintro e w1 ⟨rfl, hb1⟩
   have hB1 := keepBelow hB hb1
   clear e0 e1 hb1
   cases g with
   | false =>
    go_wp2
    go_roundw
    case rel =>
     refine ⟨k + 1, by go_num, by omega, fun i hi => ?_, hB1⟩
     rcases Nat.lt_succ_iff_lt_or_eq.1 hi with h | rfl
     ·exact HZ.out i h
     ·exact HG.out
    case measure => simp [intOf]; omega
   | true =>
    have hA : L.any f = true := List.any_eq_true.2 ⟨_, getD_mem hlt, HG.out⟩
    go_wp2
    go_ret
    exact ⟨⟨k, rfl, by rw [hA]; simp⟩, hB1⟩
  ·have hA : L.any f = false := any_false (d := zk0) fun i hi => HZ.out i (by omega)
   go_wp2
   go_ret
   exact ⟨⟨-1, rfl, by rw [hA]; simp⟩, hB⟩
theorem con_pz1 (f : ZkT → Bool) (v : Value) (L : List ZkT) (w : World) (h : RdZk w v L) (HF : Hid (∀ x, x ∈ L → ∀ W, Below w.heap.size w W → Calls Tryz.prog 50 #[(.agg (flZk x).toArray)] W fun e w' => e = .returned (.bool (f x)) ∧ Below W.heap.size W w')) :
  Calls Tryz.prog 49 #[v, .func (.func 50) #[] #[]] w fun e w' => e = .returned (.bool (L.any f)) ∧ Below w.heap.size w w' := by
 have H := Lib.hid (idx_pz1 f v L w h HF)
 obtain ⟨a, c, rfl, _⟩ := h.row
 go_enter Tryz.func49, Tryz.ntmps49
 go_wp2_with fail
 refine H.out.mono ?_
 rintro e w1 ⟨⟨r, rfl, hr⟩, hb1⟩
 have HRR := Lib.hid hr
 clear hr
 go_wp2
 go_ret
 exact ⟨ret_bool HRR.out, hb1⟩
end Go.Proofs.YtlbglinpgjlbkaaGreatDoor
