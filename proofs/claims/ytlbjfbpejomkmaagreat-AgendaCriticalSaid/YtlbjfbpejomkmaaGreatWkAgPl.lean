import Derived.Test.YtlbjfbpejomkmaaGreatWkPl
/- Agenda, plain: tasks, the search, and its order. -/
namespace Go.Proofs.YtlbjfbpejomkmaaGreat

namespace Wk
structure Tk where
 nm : ByteArray
 wk : Int
 rs : Int
 af : List Int
 du : Int
def tk0 : Tk := ⟨ByteArray.empty, 0, 0, [], 0⟩
def tkAt (l : List Tk) (i : Nat) : Tk := l.getD i tk0
def dueOf (l : List Tk) (i : Nat) : Int := (tkAt l i).du
def earlM (s : St) (n x : Int) : Option Sp :=
 if 4398046511104 < x then none else if (addM s x n).2 ≠ 0 then none else some ((addM s x 1).1 - 1, (addM s x n).1)
def freeB (l : List Tk) (d : List Bool) (i : Nat) : Bool := !(d.getD i false) && (tkAt l i).af.all fun j => d.getD j.toNat false
def insD (l : List Tk) (i : Nat) : List Nat → List Nat
 | [] => [i]
 | k :: r => if dueOf l k ≤ dueOf l i then k :: insD l i r else i :: k :: r
def readyM (l : List Tk) (d : List Bool) : List Nat := ((List.range l.length).filter (freeB l d)).foldl (fun o i => insD l i o) []
inductive Rs where
 | ok (a : List Sp)
 | out
 | no (left : Int)
def fromM (start : Int) (e : List Int) (a : List Sp) (t : Tk) : Int := t.af.foldl (fun x j => max x (a.getD j.toNat (0, 0)).2) (max start (e.getD t.rs.toNat 0))
def tryM (rec : List Bool → List Int → List Sp → Int → Rs) (l : List Tk) (res : List St) (start : Int) (d : List Bool) (e : List Int) (a : List Sp) : List Nat → Int → Rs
 | [], left => .no left
 | i :: r, left =>
  if left = 0 then .out else
  match earlM (res.getD (tkAt l i).rs.toNat noSt) (tkAt l i).wk (fromM start e a (tkAt l i)) with
  | none => tryM rec l res start d e a r (left - 1)
  | some s => if (tkAt l i).du < s.2 then tryM rec l res start d e a r (left - 1) else
   match rec (d.set i true) (e.set (tkAt l i).rs.toNat s.2) (a.set i s) (left - 1) with
   | .no left' => tryM rec l res start d e a r left'
   | x => x
def runM (l : List Tk) (res : List St) (start : Int) : Nat → List Bool → List Int → List Sp → Int → Rs
 | 0, _, _, a, left => let _ := left; .ok a
 | n + 1, d, e, a, left => tryM (runM l res start n) l res start d e a (readyM l d) left
def findM (l : List Tk) (res : List St) (start most : Int) : Rs :=
 runM l res start l.length (List.replicate l.length false) (List.replicate res.length start) (List.replicate l.length (0, 0)) most

/-! ## the order -/
def leD (l : List Tk) (i k : Nat) : Prop := dueOf l i < dueOf l k ∨ dueOf l i = dueOf l k ∧ i ≤ k
theorem insD_perm (l : List Tk) (i : Nat) : ∀ o, (insD l i o).Perm (i :: o)
 | [] => List.Perm.refl _
 | k :: r => by
  unfold insD
  split
  ·exact ((insD_perm l i r).cons k).trans (List.Perm.swap i k r)
  ·exact List.Perm.refl _
theorem insD_sorted (l : List Tk) (i : Nat) : ∀ o, o.Pairwise (leD l) → (∀ k ∈ o, k ≤ i) → (insD l i o).Pairwise (leD l)
 | [], _, _ => by simp [insD]
 | k :: r, h, hi => by
  rw [List.pairwise_cons] at h
  have hk := hi k (by simp)
  unfold insD
  split
  ·rename_i hd
   rw [List.pairwise_cons]
   refine ⟨fun x hx => ?_, insD_sorted l i r h.2 fun x hx => hi x (by simp [hx])⟩
   rcases List.mem_cons.1 ((insD_perm l i r).mem_iff.1 hx) with rfl | hx
   ·unfold leD
    omega
   ·exact h.1 x hx
  ·rename_i hd
   rw [List.pairwise_cons, List.pairwise_cons]
   refine ⟨fun x hx => ?_, h.1, h.2⟩
   rcases List.mem_cons.1 hx with rfl | hx
   ·unfold leD
    omega
   ·have := h.1 x hx
    unfold leD at *
    omega
theorem ready_fold (l : List Tk) : ∀ (q o : List Nat), q.Pairwise (· < ·) → o.Pairwise (leD l) → (∀ k ∈ o, ∀ i ∈ q, k ≤ i) →
  (q.foldl (fun o i => insD l i o) o).Pairwise (leD l) ∧ (q.foldl (fun o i => insD l i o) o).Perm (q ++ o)
 | [], o, _, h, _ => ⟨h, List.Perm.refl _⟩
 | i :: q, o, hq, h, hb => by
  rw [List.pairwise_cons] at hq
  have h1 := ready_fold l q (insD l i o) hq.2 (insD_sorted l i o h fun k hk => hb k hk i (by simp)) (fun k hk j hj => by
   rcases List.mem_cons.1 ((insD_perm l i o).mem_iff.1 hk) with rfl | hk
   ·exact Nat.le_of_lt (hq.1 j hj)
   ·exact hb k hk j (by simp [hj]))
  refine ⟨h1.1, h1.2.trans ?_⟩
  exact ((insD_perm l i o).append_left q).trans List.perm_middle
theorem ready_sorted (l : List Tk) (d : List Bool) : (readyM l d).Pairwise (leD l) ∧ (readyM l d).Perm ((List.range l.length).filter (freeB l d)) := by
 have h := ready_fold l ((List.range l.length).filter (freeB l d)) [] (List.Pairwise.filter _ List.pairwise_lt_range) List.Pairwise.nil (fun k hk => by simp at hk)
 rw [List.append_nil] at h
 exact h
theorem leD_antisymm {l : List Tk} {i k : Nat} (h : leD l i k) (h' : leD l k i) : i = k := by
 unfold leD at *
 omega
theorem ready_uniq {l : List Tk} {d : List Bool} {o : List Nat} (hp : o.Perm ((List.range l.length).filter (freeB l d))) (hs : o.Pairwise (leD l)) : o = readyM l d := by
 obtain ⟨h1, h2⟩ := ready_sorted l d
 exact List.Perm.eq_of_pairwise (fun a b _ _ h h' => leD_antisymm h h') hs h1 (hp.trans h2.symm)
theorem ready_mem {l : List Tk} {d : List Bool} {i : Nat} : i ∈ readyM l d ↔ i < l.length ∧ freeB l d i = true := by
 rw [(ready_sorted l d).2.mem_iff, List.mem_filter, List.mem_range]
end Wk
end Go.Proofs.YtlbjfbpejomkmaaGreat
namespace Go.Proofs.YtlbjfbpejomkmaaGreat
namespace Wk

theorem pot_flat {s : St} (h : GoodS s) : ∀ (k : Nat) (x : Int), (∀ z, x ≤ z → z < x + k → hasS s z = false) → potS s (x + k) = potS s x
 | 0, x, _ => by rw [show x + ((0 : Nat) : Int) = x by omega]
 | k + 1, x, hz => by
  have h1 := pot_flat h k x fun z a b => hz z a (by omega)
  have h2 := potS_steps h (x + k)
  rw [hz (x + k) (by omega) (by omega)] at h2
  rw [show x + ((k + 1 : Nat) : Int) = x + k + 1 by omega, h2, h1]
  simp [b2i]
theorem pot_same {s : St} (h : GoodS s) {x y : Int} (hxy : x ≤ y) (hz : ∀ z, x ≤ z → z < y → hasS s z = false) : potS s y = potS s x := by
 have := pot_flat h (y - x).toNat x fun z a b => hz z a (by omega)
 rwa [show x + ((y - x).toNat : Int) = y by omega] at this
theorem earl_at {s : St} (h : GoodS s) {n x f : Int} (hx : x ≤ f) (hf : f ≤ 4398046511104) (hh : hasS s f = true) (hz : ∀ z, x ≤ z → z < f → hasS s z = false) (hn : 0 < n) :
  earlM s n x = if (addM s f n).2 ≠ 0 then none else some (f, (addM s f n).1) := by
 have hp := pot_same h hx hz
 unfold earlM
 rw [if_neg (by omega)]
 by_cases hc : n ≤ potS s 4398046511104 - potS s f
 ·obtain ⟨e, a1, _⟩ := addM_yes h hf hn hc
  obtain ⟨e', b1, _⟩ := addM_yes h (t := x) (by omega) hn (by omega)
  obtain ⟨e1, c1, _⟩ := addM_yes h (t := x) (n := 1) (by omega) (by omega) (by omega)
  rw [e, e', e1]
  simp only [ne_eq, not_true_eq_false, if_false]
  rw [hp] at a1
  have u1 := AtPot.uniq h a1 b1
  have hfa : AtPot s f (potS s x + 1 - 1) := ⟨hh, by omega⟩
  have u2 := AtPot.uniq h hfa c1
  congr 1
  rw [Prod.mk.injEq]
  omega
 ·rw [addM_no h hf (by omega) (by omega), addM_no h (t := x) (by omega) (by omega) (by omega)]
  simp
theorem earl_no {s : St} (h : GoodS s) {n x : Int} (hz : ∀ z, x ≤ z → z < 4398046511104 → hasS s z = false) (hn : 0 < n) : earlM s n x = none := by
 unfold earlM
 by_cases hx : 4398046511104 < x
 ·rw [if_pos hx]
 ·rw [if_neg hx, addM_no h (by omega) (by omega) (by rw [pot_same h (by omega) hz]; omega)]
  simp
theorem next_first {h : Int → Bool} {x y : Int} (hx : h x = false) (hn : NextC h x (some y)) : x < y ∧ h y = true ∧ ∀ z, x ≤ z → z < y → h z = false := by
 obtain ⟨h1, h2, h3⟩ := hn
 have hc : ∀ (k : Nat), x + k < y → h (x + k) = false := by
  intro k
  induction k with
  | zero => intro _; simpa using hx
  | succ k ih =>
   intro hk
   have := h3 (x + ((k + 1 : Nat) : Int)) (by omega) (by omega)
   rw [show x + ((k + 1 : Nat) : Int) - 1 = x + k by omega, ih (by omega)] at this
   exact this.symm
 have hz : ∀ z, x ≤ z → z < y → h z = false := fun z a b => by
  have := hc (z - x).toNat (by omega)
  rwa [show x + ((z - x).toNat : Int) = z by omega] at this
 refine ⟨h1, ?_, hz⟩
 have := hz (y - 1) (by omega) (by omega)
 rw [this] at h2
 cases hy : h y with
 | true => rfl
 | false => exact absurd hy.symm h2
theorem next_never {h : Int → Bool} {x : Int} (hx : h x = false) (hn : NextC h x none) : ∀ z, x ≤ z → h z = false := by
 have hc : ∀ (k : Nat), h (x + k) = false := by
  intro k
  induction k with
  | zero => simpa using hx
  | succ k ih =>
   have := hn (x + ((k + 1 : Nat) : Int)) (by omega)
   rw [show x + ((k + 1 : Nat) : Int) - 1 = x + k by omega, ih] at this
   exact this.symm
 intro z a
 have := hc (z - x).toNat
 rwa [show x + ((z - x).toNat : Int) = z by omega] at this
end Wk
end Go.Proofs.YtlbjfbpejomkmaaGreat
namespace Go.Proofs.YtlbjfbpejomkmaaGreat
namespace Wk

theorem earl_spec {s : St} (h : GoodS s) {n x f t : Int} (hn : 0 < n) (he : earlM s n x = some (f, t)) :
  x ≤ f ∧ f < t ∧ t ≤ 4398046511104 ∧ hasS s f = true ∧ hasS s (t - 1) = true ∧ potS s t - potS s f = n ∧ ∀ z, x ≤ z → z < f → hasS s z = false := by
 have S := potS_steps h
 unfold earlM at he
 split at he
 ·cases he
 ·rename_i hx
  split at he
  ·cases he
  ·rename_i h0
   have hc : n ≤ potS s 4398046511104 - potS s x := by
    rcases (by omega : potS s 4398046511104 - potS s x < n ∨ n ≤ potS s 4398046511104 - potS s x) with g | g
    ·rw [addM_no h (by omega) (by omega) g] at h0
     exact absurd h0 (by simp)
    ·exact g
   obtain ⟨e, a1, a2, a3, a4⟩ := addM_yes h (t := x) (by omega) hn hc
   obtain ⟨e1, b1, b2, b3, b4⟩ := addM_yes h (t := x) (n := 1) (by omega) (by omega) (by omega)
   rw [e, e1] at he
   simp only [Option.some.injEq, Prod.mk.injEq] at he
   obtain ⟨rfl, rfl⟩ := he
   have hft : addLf s x 1 - 1 ≤ addLf s x n - 1 := S.le_of a1.1 (by rw [b1.2, a1.2]; omega)
   refine ⟨by omega, by omega, a4, b1.1, a1.1, by rw [a2, b1.2]; omega, fun z hz1 hz2 => S.const (a := x) (b := addLf s x 1 - 1) (by rw [b1.2]; omega) z hz1 hz2⟩
end Wk
end Go.Proofs.YtlbjfbpejomkmaaGreat
namespace Go.Proofs.YtlbjfbpejomkmaaGreat
namespace Wk

def spAt (b : List Sp) (i : Nat) : Sp := b.getD i (0, 0)
def dAt (d : List Bool) (i : Nat) : Bool := d.getD i false
def reOf (l : List Tk) (i : Nat) : Nat := (tkAt l i).rs.toNat
def setOf (l : List Tk) (res : List St) (i : Nat) : St := res.getD (reOf l i) noSt
structure TkV (l : List Tk) (res : List St) : Prop where
 rs : ∀ i, i < l.length → 0 ≤ (tkAt l i).rs ∧ reOf l i < res.length
 wk : ∀ i, i < l.length → 0 < (tkAt l i).wk
 af : ∀ i, i < l.length → ∀ j ∈ (tkAt l i).af, 0 ≤ j ∧ j.toNat < i
 res : ∀ i, i < l.length → GoodS (setOf l res i)
def Fits (l : List Tk) (res : List St) (start : Int) (i : Nat) (s : Sp) : Prop :=
 start ≤ s.1 ∧ hasS (setOf l res i) s.1 = true ∧ hasS (setOf l res i) (s.2 - 1) = true ∧ s.1 < s.2 ∧ s.2 ≤ 4398046511104 ∧ potS (setOf l res i) s.2 - potS (setOf l res i) s.1 = (tkAt l i).wk ∧ s.2 ≤ dueOf l i
structure SchP (l : List Tk) (res : List St) (start : Int) (b : List Sp) : Prop where
 len : b.length = l.length
 fits : ∀ i, i < l.length → Fits l res start i (spAt b i)
 af : ∀ i, i < l.length → ∀ j ∈ (tkAt l i).af, (spAt b j.toNat).2 ≤ (spAt b i).1
 apart : ∀ i k, i < l.length → k < l.length → k ≠ i → reOf l k = reOf l i → (spAt b k).2 ≤ (spAt b i).1 ∨ (spAt b i).2 ≤ (spAt b k).1

theorem getD_setL {α : Type} (l : List α) (i k : Nat) (x y : α) (hi : i < l.length) : (l.set i x).getD k y = if k = i then x else l.getD k y := by
 rw [List.getD_eq_getElem?_getD, List.getD_eq_getElem?_getD, List.getElem?_set]
 by_cases h : i = k
 ·subst h
  simp [hi]
 ·rw [if_neg h, if_neg (fun e => h e.symm)]
theorem count_left {d : List Bool} {i : Nat} {n : Nat} (hi : i < d.length) (hd : dAt d i = false) (hc : d.count false = n + 1) : (d.set i true).count false = n := by
 rw [List.count_set hi]
 unfold dAt at hd
 rw [List.getD_eq_getElem?_getD, List.getElem?_eq_getElem hi] at hd
 simp at hd
 rw [hd, hc]
 simp
theorem count_none {d : List Bool} (hc : d.count false = 0) {i : Nat} (hi : i < d.length) : dAt d i = true := by
 unfold dAt
 rw [List.getD_eq_getElem?_getD, List.getElem?_eq_getElem hi]
 rw [List.count_eq_zero] at hc
 have := List.getElem_mem hi
 cases hd : d[i] with
 | true => rfl
 | false => rw [hd] at this; exact absurd this hc
theorem count_some {d : List Bool} {n : Nat} (hc : d.count false = n + 1) : ∃ i, i < d.length ∧ dAt d i = false := by
 have hm : false ∈ d := List.count_pos_iff.1 (by omega)
 obtain ⟨i, hi, he⟩ := List.mem_iff_getElem.1 hm
 exact ⟨i, hi, by unfold dAt; rw [List.getD_eq_getElem?_getD, List.getElem?_eq_getElem hi]; simpa using he⟩
theorem fold_max (g : Int → Int) : ∀ (q : List Int) (x : Int), x ≤ q.foldl (fun x j => max x (g j)) x ∧ (∀ j ∈ q, g j ≤ q.foldl (fun x j => max x (g j)) x) ∧ ∀ y, x ≤ y → (∀ j ∈ q, g j ≤ y) → q.foldl (fun x j => max x (g j)) x ≤ y
 | [], x => ⟨Int.le_refl _, fun j h => by simp at h, fun y h _ => h⟩
 | j :: q, x => by
  obtain ⟨h1, h2, h3⟩ := fold_max g q (max x (g j))
  refine ⟨by simp only [List.foldl_cons]; omega, fun k hk => ?_, fun y hy hq => ?_⟩
  ·rcases List.mem_cons.1 hk with rfl | hk
   ·simp only [List.foldl_cons]; omega
   ·exact h2 k hk
  ·exact h3 y (by have := hq j (by simp); omega) fun k hk => hq k (by simp [hk])
theorem from_ge {start : Int} {e : List Int} {a : List Sp} {t : Tk} : start ≤ fromM start e a t ∧ e.getD t.rs.toNat 0 ≤ fromM start e a t ∧ ∀ j ∈ t.af, (spAt a j.toNat).2 ≤ fromM start e a t := by
 obtain ⟨h1, h2, _⟩ := fold_max (fun j => (a.getD j.toNat (0, 0)).2) t.af (max start (e.getD t.rs.toNat 0))
 refine ⟨?_, ?_, h2⟩ <;> · unfold fromM; omega
theorem from_le {start y : Int} {e : List Int} {a : List Sp} {t : Tk} (h1 : start ≤ y) (h2 : e.getD t.rs.toNat 0 ≤ y) (h3 : ∀ j ∈ t.af, (spAt a j.toNat).2 ≤ y) : fromM start e a t ≤ y :=
 (fold_max (fun j => (a.getD j.toNat (0, 0)).2) t.af (max start (e.getD t.rs.toNat 0))).2.2 y (by omega) h3

/-! ## what is found holds -/
structure Snd (l : List Tk) (res : List St) (start : Int) (d : List Bool) (e : List Int) (a : List Sp) : Prop where
 dl : d.length = l.length
 el : e.length = res.length
 al : a.length = l.length
 fits : ∀ i, i < l.length → dAt d i = true → Fits l res start i (spAt a i)
 af : ∀ i, i < l.length → dAt d i = true → ∀ j ∈ (tkAt l i).af, dAt d j.toNat = true ∧ (spAt a j.toNat).2 ≤ (spAt a i).1
 apart : ∀ i k, i < l.length → k < l.length → dAt d i = true → dAt d k = true → k ≠ i → reOf l k = reOf l i → (spAt a k).2 ≤ (spAt a i).1 ∨ (spAt a i).2 ≤ (spAt a k).1
 ends : ∀ k, k < l.length → dAt d k = true → (spAt a k).2 ≤ e.getD (reOf l k) 0
theorem free_iff {l : List Tk} {d : List Bool} {i : Nat} : freeB l d i = true ↔ dAt d i = false ∧ ∀ j ∈ (tkAt l i).af, dAt d j.toNat = true := by
 unfold freeB dAt
 simp
theorem Snd.step {l : List Tk} {res : List St} {start : Int} {d : List Bool} {e : List Int} {a : List Sp} (hv : TkV l res) (h : Snd l res start d e a) {i : Nat} {s : Sp} (hi : i < l.length) (hf : freeB l d i = true)
  (he : earlM (setOf l res i) (tkAt l i).wk (fromM start e a (tkAt l i)) = some s) (hdue : ¬ dueOf l i < s.2) : Snd l res start (d.set i true) (e.set (reOf l i) s.2) (a.set i s) := by
 obtain ⟨hd, haf⟩ := free_iff.1 hf
 obtain ⟨f, t⟩ := s
 obtain ⟨g1, g2, g3, g4, g5, g6, _⟩ := earl_spec (hv.res i hi) (hv.wk i hi) he
 obtain ⟨k1, k2, k3⟩ := from_ge (start := start) (e := e) (a := a) (t := tkAt l i)
 have hD : ∀ k, dAt (d.set i true) k = if k = i then true else dAt d k := fun k => getD_setL d i k true false (by rw [h.dl]; exact hi)
 have hA : ∀ k, spAt (a.set i (f, t)) k = if k = i then (f, t) else spAt a k := fun k => getD_setL a i k _ _ (by rw [h.al]; exact hi)
 have hE : ∀ r, (e.set (reOf l i) t).getD r 0 = if r = reOf l i then t else e.getD r 0 := fun r => getD_setL e (reOf l i) r _ _ (by rw [h.el]; exact (hv.rs i hi).2)
 have hne : ∀ j ∈ (tkAt l i).af, j.toNat ≠ i := fun j hj => by have := (hv.af i hi j hj).2; omega
 simp only at hdue
 refine ⟨by rw [List.length_set]; exact h.dl, by rw [List.length_set]; exact h.el, by rw [List.length_set]; exact h.al, ?_, ?_, ?_, ?_⟩
 ·intro k hk hdk
  rw [hA]
  by_cases hki : k = i
  ·subst hki
   rw [if_pos rfl]
   exact ⟨by simp only; omega, g4, g5, g2, g3, g6, by simp only; omega⟩
  ·rw [if_neg hki]
   rw [hD, if_neg hki] at hdk
   exact h.fits k hk hdk
 ·intro k hk hdk j hj
  rw [hD, hA, hA]
  by_cases hki : k = i
  ·subst hki
   rw [if_neg (hne j hj), if_neg (hne j hj), if_pos rfl]
   exact ⟨haf j hj, by simp only; have := k3 j hj; omega⟩
  ·rw [hD, if_neg hki] at hdk
   have := h.af k hk hdk j hj
   have hji : j.toNat ≠ i := fun e => by rw [e, hd] at this; exact absurd this.1 (by simp)
   rw [if_neg hji, if_neg hji, if_neg hki]
   exact this
 ·intro k m hk hm hdk hdm hmk hr
  rw [hA, hA]
  by_cases hki : k = i
  ·subst hki
   rw [if_neg hmk, if_pos rfl]
   rw [hD, if_neg hmk] at hdm
   left
   have := h.ends m hm hdm
   rw [hr] at this
   simp only
   unfold reOf at this
   omega
  ·rw [if_neg hki]
   by_cases hmi : m = i
   ·subst hmi
    rw [if_pos rfl]
    rw [hD, if_neg hki] at hdk
    right
    have := h.ends k hk hdk
    rw [← hr] at this
    simp only
    unfold reOf at this
    omega
   ·rw [if_neg hmi]
    rw [hD, if_neg hki] at hdk
    rw [hD, if_neg hmi] at hdm
    exact h.apart k m hk hm hdk hdm hmk hr
 ·intro k hk hdk
  rw [hA, hE]
  by_cases hki : k = i
  ·subst hki
   rw [if_pos rfl, if_pos rfl]
   exact Int.le_refl _
  ·rw [if_neg hki]
   rw [hD, if_neg hki] at hdk
   have := h.ends k hk hdk
   by_cases hr : reOf l k = reOf l i
   ·rw [if_pos hr]
    rw [hr] at this
    unfold reOf at this
    omega
   ·rw [if_neg hr]
    exact this
theorem try_ok {rec : List Bool → List Int → List Sp → Int → Rs} {l : List Tk} {res : List St} {start : Int} {d : List Bool} {e : List Int} {a a' : List Sp} : ∀ {q : List Nat} {left : Int}, tryM rec l res start d e a q left = .ok a' →
  ∃ i ∈ q, ∃ s left', earlM (setOf l res i) (tkAt l i).wk (fromM start e a (tkAt l i)) = some s ∧ ¬ dueOf l i < s.2 ∧ rec (d.set i true) (e.set (reOf l i) s.2) (a.set i s) left' = .ok a'
 | [], left, h => by unfold tryM at h; cases h
 | i :: q, left, h => by
  unfold tryM at h
  split at h
  ·cases h
  ·split at h
   ·obtain ⟨k, hk, r⟩ := try_ok h
    exact ⟨k, List.mem_cons_of_mem _ hk, r⟩
   ·rename_i s hs
    split at h
    ·obtain ⟨k, hk, r⟩ := try_ok h
     exact ⟨k, List.mem_cons_of_mem _ hk, r⟩
    ·rename_i hdue
     split at h
     ·obtain ⟨k, hk, r⟩ := try_ok h
      exact ⟨k, List.mem_cons_of_mem _ hk, r⟩
     ·exact ⟨i, by simp, s, _, hs, hdue, h⟩
theorem sound {l : List Tk} {res : List St} {start : Int} (hv : TkV l res) : ∀ (n : Nat) {d : List Bool} {e : List Int} {a a' : List Sp} {left : Int}, Snd l res start d e a → d.count false = n → runM l res start n d e a left = .ok a' → SchP l res start a'
 | 0, d, e, a, a', left, h, hc, hr => by
  have hr : Rs.ok a = .ok a' := hr
  injection hr with hr
  subst hr
  have hall : ∀ i, i < l.length → dAt d i = true := fun i hi => count_none hc (by rw [h.dl]; exact hi)
  exact ⟨h.al, fun i hi => h.fits i hi (hall i hi), fun i hi j hj => (h.af i hi (hall i hi) j hj).2, fun i k hi hk => h.apart i k hi hk (hall i hi) (hall k hk)⟩
 | n + 1, d, e, a, a', left, h, hc, hr => by
  obtain ⟨i, hi, s, left', h1, h2, h3⟩ := try_ok (show tryM (runM l res start n) l res start d e a (readyM l d) left = .ok a' from hr)
  obtain ⟨hil, hif⟩ := ready_mem.1 hi
  exact sound hv n (h.step hv hil hif h1 h2) (count_left (by rw [h.dl]; exact hil) (free_iff.1 hif).1 hc) h3

/-! ## no schedule is missed -/
end Wk
end Go.Proofs.YtlbjfbpejomkmaaGreat
namespace Go.Proofs.YtlbjfbpejomkmaaGreat
namespace Wk

theorem rep_count (n : Nat) : (List.replicate n false).count false = n := by simp
theorem rep_at (n i : Nat) : dAt (List.replicate n false) i = false := by
 unfold dAt
 rw [List.getD_eq_getElem?_getD, List.getElem?_replicate]
 split <;> rfl
theorem find_ok {l : List Tk} {res : List St} {start most : Int} {a : List Sp} (hv : TkV l res) (h : findM l res start most = .ok a) : SchP l res start a := by
 refine sound hv l.length ⟨by simp, by simp, by simp, ?_, ?_, ?_, ?_⟩ (rep_count _) h
 ·intro i _ hd; rw [rep_at] at hd; cases hd
 ·intro i _ hd; rw [rep_at] at hd; cases hd
 ·intro i k _ _ hd; rw [rep_at] at hd; cases hd
 ·intro i _ hd; rw [rep_at] at hd; cases hd
end Wk
end Go.Proofs.YtlbjfbpejomkmaaGreat
namespace Go.Proofs.YtlbjfbpejomkmaaGreat
namespace Wk

end Wk
end Go.Proofs.YtlbjfbpejomkmaaGreat
namespace Go.Proofs.YtlbjfbpejomkmaaGreat
namespace Wk

def keptL (n : Nat) (keep : Nat → Bool) : List Nat := (List.range n).filter keep
def numK (keep : Nat → Bool) (j : Nat) : Nat := (keptL j keep).length
theorem kept_succ (n : Nat) (keep : Nat → Bool) : keptL (n + 1) keep = keptL n keep ++ if keep n = true then [n] else [] := by
 unfold keptL
 rw [List.range_succ, List.filter_append]
 cases hk : keep n <;> simp [hk]
theorem kept_mem {n i : Nat} {keep : Nat → Bool} : i ∈ keptL n keep ↔ i < n ∧ keep i = true := by
 unfold keptL
 rw [List.mem_filter, List.mem_range]
def updK (keep : Nat → Bool) (i : Nat) (v : Bool) : Nat → Bool := fun k => if k = i then v else keep k
end Wk
end Go.Proofs.YtlbjfbpejomkmaaGreat
namespace Go.Proofs.YtlbjfbpejomkmaaGreat
namespace Wk

inductive ReachK (n : Nat) (lk : Nat → Nat → Bool) (init : Nat → Bool) : Nat → Prop where
 | base {i : Nat} (hi : i < n) (h : init i = true) : ReachK n lk init i
 | step {i j : Nat} (h : ReachK n lk init i) (hj : j < n) (hl : lk j i = true) : ReachK n lk init j
theorem ReachK.lt {n : Nat} {lk : Nat → Nat → Bool} {init : Nat → Bool} {i : Nat} (h : ReachK n lk init i) : i < n := by cases h <;> assumption
def stepK (lk : Nat → Nat → Bool) (i j : Nat) (m : List Bool) : List Bool := if dAt m i && (j != i && lk j i) then m.set j true else m
def foldK (ops : List (List Bool → List Bool)) (m : List Bool) : List Bool := ops.foldl (fun m f => f m) m
def opsK (n : Nat) (lk : Nat → Nat → Bool) : List (List Bool → List Bool) := (List.range n).flatMap fun i => (List.range n).map fun j => stepK lk i j
def roundsK (n : Nat) (lk : Nat → Nat → Bool) : Nat → List Bool → List Bool
 | 0, m => m
 | r + 1, m => roundsK n lk r (foldK (opsK n lk) m)
theorem set_same {m : List Bool} {j : Nat} (h : dAt m j = true) : m.set j true = m := by
 apply List.ext_getElem
 ·simp
 ·intro k h1 h2
  rw [List.getElem_set]
  split
  ·rename_i e
   subst e
   unfold dAt at h
   rw [List.getD_eq_getElem?_getD, List.getElem?_eq_getElem h2] at h
   simpa using h.symm
  ·rfl
theorem step_more {n : Nat} (lk : Nat → Nat → Bool) {i j : Nat} (m : List Bool) (hm : m.length = n) (hj : j < n) : (stepK lk i j m).length = m.length ∧ (stepK lk i j m = m ∨ (stepK lk i j m).count false + 1 = m.count false) := by
 unfold stepK
 split
 ·refine ⟨by rw [List.length_set], ?_⟩
  cases hd : dAt m j with
  | true => exact Or.inl (set_same hd)
  | false =>
   right
   have hpos : 0 < m.count false := List.count_pos_iff.2 (by
    unfold dAt at hd
    rw [List.getD_eq_getElem?_getD, List.getElem?_eq_getElem (by omega)] at hd
    simp at hd
    rw [← hd]
    exact List.getElem_mem _)
   obtain ⟨c, hc⟩ : ∃ c, m.count false = c + 1 := ⟨m.count false - 1, by omega⟩
   rw [count_left (by omega) hd hc, hc]
 ·exact ⟨rfl, Or.inl rfl⟩
theorem fold_more {n : Nat} : ∀ (ops : List (List Bool → List Bool)) (m : List Bool), m.length = n → (∀ f ∈ ops, ∀ m, m.length = n → (f m).length = m.length ∧ (f m = m ∨ (f m).count false + 1 = m.count false)) →
  (foldK ops m).length = n ∧ (foldK ops m).count false ≤ m.count false ∧ ((foldK ops m).count false = m.count false → foldK ops m = m ∧ ∀ f ∈ ops, f m = m)
 | [], m, hm, _ => ⟨hm, Nat.le_refl _, fun _ => ⟨rfl, fun f h => by simp at h⟩⟩
 | f :: ops, m, hm, h => by
  obtain ⟨h1, h2⟩ := h f (by simp) m hm
  obtain ⟨g1, g2, g3⟩ := fold_more ops (f m) (by omega) fun f hf => h f (by simp [hf])
  have hu : foldK (f :: ops) m = foldK ops (f m) := rfl
  rw [hu]
  rcases h2 with h2 | h2
  ·rw [h2] at g1 g2 g3 ⊢
   exact ⟨g1, g2, fun e => ⟨(g3 e).1, fun q hq => by
    rcases List.mem_cons.1 hq with rfl | hq
    ·exact h2
    ·exact (g3 e).2 q hq⟩⟩
  ·exact ⟨g1, by omega, fun e => by omega⟩
theorem ops_more {n : Nat} (lk : Nat → Nat → Bool) : ∀ f ∈ opsK n lk, ∀ m, m.length = n → (f m).length = m.length ∧ (f m = m ∨ (f m).count false + 1 = m.count false) := by
 intro f hf m hm
 unfold opsK at hf
 obtain ⟨i, _, hf⟩ := List.mem_flatMap.1 hf
 obtain ⟨j, hj, rfl⟩ := List.mem_map.1 hf
 exact step_more lk m hm (List.mem_range.1 hj)
def ClosedK (n : Nat) (lk : Nat → Nat → Bool) (m : List Bool) : Prop := ∀ i j, i < n → j < n → dAt m i = true → lk j i = true → dAt m j = true
theorem closed_of {n : Nat} {lk : Nat → Nat → Bool} {m : List Bool} (hm : m.length = n) (h : ∀ f ∈ opsK n lk, f m = m) : ClosedK n lk m := by
 intro i j hi hj hd hl
 by_cases hij : j = i
 ·rw [hij]; exact hd
 ·have := h (stepK lk i j) (List.mem_flatMap.2 ⟨i, List.mem_range.2 hi, List.mem_map.2 ⟨j, List.mem_range.2 hj, rfl⟩⟩)
  unfold stepK at this
  rw [hd, hl, show (j != i) = true by simpa using hij] at this
  rw [if_pos (by rfl)] at this
  rw [← this]
  unfold dAt
  rw [getD_setL _ _ _ _ _ (by omega), if_pos rfl]
theorem closed_full {n : Nat} {lk : Nat → Nat → Bool} {m : List Bool} (hm : m.length = n) (h : m.count false = 0) : ClosedK n lk m := fun _ j _ hj _ _ => count_none h (by omega)
theorem rounds_stay {n : Nat} {lk : Nat → Nat → Bool} : ∀ (r : Nat) {m : List Bool}, foldK (opsK n lk) m = m → roundsK n lk r m = m
 | 0, m, _ => rfl
 | r + 1, m, h => by
  show roundsK n lk r (foldK (opsK n lk) m) = m
  rw [h]
  exact rounds_stay r h
theorem rounds_closed {n : Nat} {lk : Nat → Nat → Bool} : ∀ (r : Nat) {m : List Bool}, m.length = n → m.count false ≤ r → (roundsK n lk r m).length = n ∧ ClosedK n lk (roundsK n lk r m)
 | 0, m, hm, hc => ⟨hm, closed_full hm (Nat.le_zero.1 hc)⟩
 | r + 1, m, hm, hc => by
  obtain ⟨g1, g2, g3⟩ := fold_more (opsK n lk) m hm (ops_more lk)
  show (roundsK n lk r (foldK (opsK n lk) m)).length = n ∧ _
  by_cases he : (foldK (opsK n lk) m).count false = m.count false
  ·obtain ⟨k1, k2⟩ := g3 he
   rw [show roundsK n lk (r + 1) m = roundsK n lk r (foldK (opsK n lk) m) from rfl, k1, rounds_stay r k1]
   exact ⟨hm, closed_of hm k2⟩
  ·exact rounds_closed r g1 (by omega)
theorem fold_keep {P : List Bool → Prop} : ∀ (ops : List (List Bool → List Bool)) {m : List Bool}, P m → (∀ f ∈ ops, ∀ m, P m → P (f m)) → P (foldK ops m)
 | [], _, h, _ => h
 | f :: ops, m, h, hk => fold_keep (P := P) ops (m := f m) (hk f (by simp) m h) fun q hq => hk q (by simp [hq])
theorem rounds_keep {P : List Bool → Prop} {n : Nat} {lk : Nat → Nat → Bool} (hk : ∀ f ∈ opsK n lk, ∀ m, P m → P (f m)) : ∀ (r : Nat) {m : List Bool}, P m → P (roundsK n lk r m)
 | 0, _, h => h
 | r + 1, m, h => rounds_keep hk r (m := foldK (opsK n lk) m) (fold_keep _ h hk)
theorem marks_reach {n : Nat} {lk : Nat → Nat → Bool} {init : Nat → Bool} {m : List Bool} (hm : m.length = n) (hi : ∀ i, i < n → dAt m i = init i) {i : Nat} : dAt (roundsK n lk n m) i = true ↔ ReachK n lk init i := by
 have hc : m.count false ≤ n := by have := List.count_le_length (a := false) (l := m); omega
 obtain ⟨c1, c2⟩ := rounds_closed (lk := lk) n hm hc
 constructor
 ·have hP : (fun m => m.length = n ∧ ∀ i, dAt m i = true → ReachK n lk init i) (roundsK n lk n m) := by
   refine rounds_keep (P := fun m => m.length = n ∧ ∀ i, dAt m i = true → ReachK n lk init i) (fun f hf m ⟨h1, h2⟩ => ?_) n ⟨hm, fun i h => ?_⟩
   ·unfold opsK at hf
    obtain ⟨i, hi', hf⟩ := List.mem_flatMap.1 hf
    obtain ⟨j, hj, rfl⟩ := List.mem_map.1 hf
    have hj := List.mem_range.1 hj
    unfold stepK
    split
    ·rename_i hcnd
     rw [Bool.and_eq_true, Bool.and_eq_true] at hcnd
     refine ⟨by rw [List.length_set]; exact h1, fun k hk => ?_⟩
     unfold dAt at hk
     rw [getD_setL _ _ _ _ _ (by omega)] at hk
     split at hk
     ·rename_i e
      rw [e]
      exact .step (h2 i hcnd.1) hj hcnd.2.2
     ·exact h2 k hk
    ·exact ⟨h1, h2⟩
   ·have hlt : i < n := by
     rcases (by omega : i < n ∨ n ≤ i) with g | g
     ·exact g
     ·unfold dAt at h
      rw [List.getD_eq_getElem?_getD, List.getElem?_eq_none (by omega)] at h
      cases h
    exact .base hlt (by rw [← hi i hlt]; exact h)
  exact hP.2 i
 ·intro h
  induction h with
  | base hlt h =>
   have hP : (fun q : List Bool => q.length = n ∧ ∀ k, dAt m k = true → dAt q k = true) (roundsK n lk n m) := by
    refine rounds_keep (P := fun q => q.length = n ∧ ∀ k, dAt m k = true → dAt q k = true) (fun f hf q ⟨h1, h2⟩ => ?_) n ⟨hm, fun _ h => h⟩
    unfold opsK at hf
    obtain ⟨i, hi', hf⟩ := List.mem_flatMap.1 hf
    obtain ⟨j, hj, rfl⟩ := List.mem_map.1 hf
    have hj := List.mem_range.1 hj
    unfold stepK
    split
    ·refine ⟨by rw [List.length_set]; exact h1, fun k hk => ?_⟩
     unfold dAt
     rw [getD_setL _ _ _ _ _ (by omega)]
     split
     ·rfl
     ·exact h2 k hk
    ·exact ⟨h1, h2⟩
   exact hP.2 _ (by rw [hi _ hlt]; exact h)
  | step hr hj hl ih => exact c2 _ _ hr.lt hj ih hl
end Wk
end Go.Proofs.YtlbjfbpejomkmaaGreat
namespace Go.Proofs.YtlbjfbpejomkmaaGreat
namespace Wk

def afB (i : Nat) (af : List Int) : Bool := (List.range af.length).all fun k => decide (0 ≤ af.getD k 0) && decide (af.getD k 0 < i) && (k == 0 || decide (af.getD (k - 1) 0 < af.getD k 0))
def okT (l : List Tk) (nres : Nat) (i : Nat) : Bool :=
 decide (1 ≤ (tkAt l i).nm.size) && decide ((tkAt l i).nm.size ≤ 30) && (List.range i).all (fun k => decide ((tkAt l k).nm ≠ (tkAt l i).nm)) && decide (1 ≤ (tkAt l i).wk) && decide ((tkAt l i).wk ≤ 4398046511104) &&
  decide (0 ≤ (tkAt l i).rs) && decide ((tkAt l i).rs < nres) && lineB (tkAt l i).du && afB i (tkAt l i).af
def vldM (l : List Tk) (res : List St) : Bool := decide (l.length ≤ 24) && decide (res.length ≤ 24) && res.all VB && (List.range l.length).all (okT l res.length)
theorem vld_V {l : List Tk} {res : List St} (h : vldM l res = true) : TkV l res := by
 unfold vldM at h
 simp only [Bool.and_eq_true, List.all_eq_true, List.mem_range, decide_eq_true_eq] at h
 obtain ⟨⟨⟨h1, h2⟩, h3⟩, h4⟩ := h
 have ho : ∀ i, i < l.length → 1 ≤ (tkAt l i).wk ∧ 0 ≤ (tkAt l i).rs ∧ (tkAt l i).rs < res.length ∧ afB i (tkAt l i).af = true := fun i hi => by
  have := h4 i hi
  unfold okT at this
  simp only [Bool.and_eq_true, decide_eq_true_eq] at this
  obtain ⟨⟨⟨⟨⟨⟨⟨⟨_, _⟩, _⟩, a⟩, _⟩, b⟩, c⟩, _⟩, d⟩ := this
  exact ⟨a, b, c, d⟩
 refine ⟨fun i hi => ?_, fun i hi => ?_, fun i hi j hj => ?_, fun i hi => ?_⟩
 ·obtain ⟨_, b, c, _⟩ := ho i hi
  exact ⟨b, by unfold reOf; omega⟩
 ·have := (ho i hi).1
  omega
 ·have := (ho i hi).2.2.2
  unfold afB at this
  rw [List.all_eq_true] at this
  obtain ⟨k, hk, rfl⟩ := List.mem_iff_getElem.1 hj
  have := this k (List.mem_range.2 hk)
  rw [List.getD_eq_getElem?_getD, List.getElem?_eq_getElem hk] at this
  simp only [Option.getD_some, Bool.and_eq_true, decide_eq_true_eq] at this
  omega
 ·obtain ⟨_, b, c, _⟩ := ho i hi
  have hr : reOf l i < res.length := by unfold reOf; omega
  unfold setOf
  rw [List.getD_eq_getElem?_getD, List.getElem?_eq_getElem hr]
  exact (okS_of_VB (h3 _ (List.getElem_mem hr))).good

def hB (l : List Tk) (res : List St) (start : Int) (b : List Sp) (i : Nat) : Bool :=
 ivB (spAt b i) && decide (start ≤ (spAt b i).1) && hasS (setOf l res i) (spAt b i).1 && hasS (setOf l res i) ((spAt b i).2 - 1) && decide (potS (setOf l res i) (spAt b i).2 - potS (setOf l res i) (spAt b i).1 = (tkAt l i).wk) &&
  ((tkAt l i).af.all fun j => decide ((spAt b j.toNat).2 ≤ (spAt b i).1)) && (List.range i).all fun k => !((tkAt l k).rs == (tkAt l i).rs && (decide ((spAt b k).1 < (spAt b i).2) && decide ((spAt b i).1 < (spAt b k).2)))
def holdsM (l : List Tk) (res : List St) (start : Int) (b : List Sp) : Bool := decide (b.length = l.length) && (List.range l.length).all (hB l res start b)
theorem hB_iff {l : List Tk} {res : List St} {start : Int} {b : List Sp} {i : Nat} : hB l res start b i = true ↔
  ivB (spAt b i) = true ∧ start ≤ (spAt b i).1 ∧ hasS (setOf l res i) (spAt b i).1 = true ∧ hasS (setOf l res i) ((spAt b i).2 - 1) = true ∧ potS (setOf l res i) (spAt b i).2 - potS (setOf l res i) (spAt b i).1 = (tkAt l i).wk ∧
  (∀ j ∈ (tkAt l i).af, (spAt b j.toNat).2 ≤ (spAt b i).1) ∧ ∀ k, k < i → (tkAt l k).rs = (tkAt l i).rs → (spAt b i).2 ≤ (spAt b k).1 ∨ (spAt b k).2 ≤ (spAt b i).1 := by
 unfold hB
 simp only [Bool.and_eq_true, decide_eq_true_eq, List.all_eq_true, List.mem_range, Bool.not_eq_true', Bool.and_eq_false_iff, beq_eq_false_iff_ne, decide_eq_false_iff_not]
 constructor
 ·rintro ⟨⟨⟨⟨⟨⟨a, b⟩, c⟩, d⟩, e⟩, f⟩, g⟩
  refine ⟨a, b, c, d, e, f, fun k hk hr => ?_⟩
  rcases g k hk with g | g | g
  ·exact absurd hr g
  ·omega
  ·omega
 ·rintro ⟨a, b, c, d, e, f, g⟩
  refine ⟨⟨⟨⟨⟨⟨a, b⟩, c⟩, d⟩, e⟩, f⟩, fun k hk => ?_⟩
  by_cases hr : (tkAt l k).rs = (tkAt l i).rs
  ·rcases g k hk hr with g | g
   ·exact Or.inr (Or.inl (by omega))
   ·exact Or.inr (Or.inr (by omega))
  ·exact Or.inl hr
end Wk
end Go.Proofs.YtlbjfbpejomkmaaGreat
namespace Go.Proofs.YtlbjfbpejomkmaaGreat
namespace Wk

end Wk
end Go.Proofs.YtlbjfbpejomkmaaGreat
namespace Go.Proofs.YtlbjfbpejomkmaaGreat
namespace Wk

def Agree (d : List Bool) (a am : List Sp) : Prop := am.length = a.length ∧ ∀ i, dAt d i = true → spAt am i = spAt a i
theorem Agree.refl (d : List Bool) (a : List Sp) : Agree d a a := ⟨rfl, fun _ _ => rfl⟩
theorem Agree.trans {d : List Bool} {a b c : List Sp} (h : Agree d a b) (h' : Agree d b c) : Agree d a c := ⟨h'.1.trans h.1, fun i hi => (h'.2 i hi).trans (h.2 i hi)⟩
theorem Agree.set {d : List Bool} {a am : List Sp} (h : Agree d a am) {i : Nat} (s : Sp) (hi : i < a.length) (hd : i < d.length) : Agree (d.set i true) (a.set i s) (am.set i s) := by
 refine ⟨by rw [List.length_set, List.length_set]; exact h.1, fun k hk => ?_⟩
 unfold spAt
 rw [getD_setL _ _ _ _ _ (by rw [h.1]; exact hi), getD_setL _ _ _ _ _ hi]
 split
 ·rfl
 ·rename_i hne
  unfold dAt at hk
  rw [getD_setL _ _ _ _ _ hd, if_neg hne] at hk
  exact h.2 k hk
theorem Agree.back {d : List Bool} {a am : List Sp} {i : Nat} {s : Sp} (h : Agree (d.set i true) (a.set i s) am) (hd : dAt d i = false) (hl : i < d.length) (hi : i < a.length) : Agree d a am := by
 refine ⟨by have := h.1; rwa [List.length_set] at this, fun k hk => ?_⟩
 have hne : k ≠ i := fun e => by rw [e, hd] at hk; cases hk
 have := h.2 k (by unfold dAt; rw [getD_setL _ _ _ _ _ hl, if_neg hne]; exact hk)
 rw [this]
 unfold spAt
 rw [getD_setL _ _ _ _ _ hi, if_neg hne]
theorem agree_all {d : List Bool} {a am : List Sp} (h : Agree d a am) (hd : d.count false = 0) (hl : d.length = a.length) : am = a := by
 apply List.ext_getElem h.1
 intro i h1 h2
 have := h.2 i (count_none hd (by omega))
 unfold spAt at this
 rw [List.getD_eq_getElem?_getD, List.getD_eq_getElem?_getD, List.getElem?_eq_getElem h1, List.getElem?_eq_getElem h2] at this
 simpa using this
def fromU (start : Int) (e : List Int) (a : List Sp) (t : Tk) (k : Nat) : Int := (t.af.take k).foldl (fun x j => max x (a.getD j.toNat (0, 0)).2) (max start (e.getD t.rs.toNat 0))
theorem fromU_zero (start : Int) (e : List Int) (a : List Sp) (t : Tk) : fromU start e a t 0 = max start (e.getD t.rs.toNat 0) := rfl
theorem fromU_succ {start : Int} {e : List Int} {a : List Sp} {t : Tk} {k : Nat} (hk : k < t.af.length) : fromU start e a t (k + 1) = max (fromU start e a t k) (spAt a (t.af.getD k 0).toNat).2 := by
 unfold fromU
 rw [List.take_add_one, List.getElem?_eq_getElem hk, Option.toList_some, List.foldl_append]
 simp only [List.foldl_cons, List.foldl_nil]
 rw [List.getD_eq_getElem?_getD (l := t.af), List.getElem?_eq_getElem hk]
 rfl
theorem fromU_all {start : Int} {e : List Int} {a : List Sp} {t : Tk} : fromU start e a t t.af.length = fromM start e a t := by
 unfold fromU fromM
 rw [List.take_length]
theorem from_line {start : Int} {e : List Int} {a : List Sp} {t : Tk} (h1 : start ≤ 4398046511104) (h2 : e.getD t.rs.toNat 0 ≤ 4398046511104) (h3 : ∀ j ∈ t.af, (spAt a j.toNat).2 ≤ 4398046511104) : fromM start e a t ≤ 4398046511104 := from_le h1 h2 h3

/-! ## one step of the search, as the program takes it -/
theorem try_out {rec : List Bool → List Int → List Sp → Int → Rs} {l : List Tk} {res : List St} {start : Int} {d : List Bool} {e : List Int} {a : List Sp} {i : Nat} {q : List Nat} : tryM rec l res start d e a (i :: q) 0 = .out := by
 unfold tryM
 rw [if_pos rfl]
theorem try_skip {rec : List Bool → List Int → List Sp → Int → Rs} {l : List Tk} {res : List St} {start : Int} {d : List Bool} {e : List Int} {a : List Sp} {i : Nat} {q : List Nat} {left : Int} (h0 : left ≠ 0)
  (h : ∀ s, earlM (setOf l res i) (tkAt l i).wk (fromM start e a (tkAt l i)) = some s → dueOf l i < s.2) : tryM rec l res start d e a (i :: q) left = tryM rec l res start d e a q (left - 1) := by
 conv => lhs; unfold tryM
 rw [if_neg h0]
 split
 ·rfl
 ·rename_i s hs
  have := h s hs
  rw [if_pos (show (tkAt l i).du < s.2 from this)]
theorem try_go {rec : List Bool → List Int → List Sp → Int → Rs} {l : List Tk} {res : List St} {start : Int} {d : List Bool} {e : List Int} {a : List Sp} {i : Nat} {q : List Nat} {left : Int} {s : Sp} (h0 : left ≠ 0)
  (h : earlM (setOf l res i) (tkAt l i).wk (fromM start e a (tkAt l i)) = some s) (hd : ¬ dueOf l i < s.2) : tryM rec l res start d e a (i :: q) left =
   match rec (d.set i true) (e.set (reOf l i) s.2) (a.set i s) (left - 1) with
   | .no left' => tryM rec l res start d e a q left'
   | x => x := by
 conv => lhs; unfold tryM
 unfold setOf reOf at h
 rw [if_neg h0, h]
 simp only
 rw [if_neg (show ¬ (tkAt l i).du < s.2 from hd)]
 rfl
end Wk
end Go.Proofs.YtlbjfbpejomkmaaGreat
