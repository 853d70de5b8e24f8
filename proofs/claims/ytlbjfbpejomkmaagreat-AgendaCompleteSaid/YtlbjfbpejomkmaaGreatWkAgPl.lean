import Derived.Test.YtlbjfbpejomkmaaGreatWkPl
/- Agenda, plain: tasks, the search, and its order. -/
namespace Go.Proofs.YtlbjfbpejomkmaaGreat

namespace Wk
structure Tk where
 nm : ByteArray
 wk : Int
 rs : Int
 af : List Int
 du : Int
def tk0 : Tk := ⟨ByteArray.empty, 0, 0, [], 0⟩
def tkAt (l : List Tk) (i : Nat) : Tk := l.getD i tk0
def dueOf (l : List Tk) (i : Nat) : Int := (tkAt l i).du
def earlM (s : St) (n x : Int) : Option Sp :=
 if 4398046511104 < x then none else if (addM s x n).2 ≠ 0 then none else some ((addM s x 1).1 - 1, (addM s x n).1)
def freeB (l : List Tk) (d : List Bool) (i : Nat) : Bool := !(d.getD i false) && (tkAt l i).af.all fun j => d.getD j.toNat false
def insD (l : List Tk) (i : Nat) : List Nat → List Nat
 | [] => [i]
 | k :: r => if dueOf l k ≤ dueOf l i then k :: insD l i r else i :: k :: r
def readyM (l : List Tk) (d : List Bool) : List Nat := ((List.range l.length).filter (freeB l d)).foldl (fun o i => insD l i o) []
inductive Rs where
 | ok (a : List Sp)
 | out
 | no (left : Int)
def fromM (start : Int) (e : List Int) (a : List Sp) (t : Tk) : Int := t.af.foldl (fun x j => max x (a.getD j.toNat (0, 0)).2) (max start (e.getD t.rs.toNat 0))
def tryM (rec : List Bool → List Int → List Sp → Int → Rs) (l : List Tk) (res : List St) (start : Int) (d : List Bool) (e : List Int) (a : List Sp) : List Nat → Int → Rs
 | [], left => .no left
 | i :: r, left =>
  if left = 0 then .out else
  match earlM (res.getD (tkAt l i).rs.toNat noSt) (tkAt l i).wk (fromM start e a (tkAt l i)) with
  | none => tryM rec l res start d e a r (left - 1)
  | some s => if (tkAt l i).du < s.2 then tryM rec l res start d e a r (left - 1) else
   match rec (d.set i true) (e.set (tkAt l i).rs.toNat s.2) (a.set i s) (left - 1) with
   | .no left' => tryM rec l res start d e a r left'
   | x => x
def runM (l : List Tk) (res : List St) (start : Int) : Nat → List Bool → List Int → List Sp → Int → Rs
 | 0, _, _, a, left => let _ := left; .ok a
 | n + 1, d, e, a, left => tryM (runM l res start n) l res start d e a (readyM l d) left
def findM (l : List Tk) (res : List St) (start most : Int) : Rs :=
 runM l res start l.length (List.replicate l.length false) (List.replicate res.length start) (List.replicate l.length (0, 0)) most

/-! ## the order -/
def leD (l : List Tk) (i k : Nat) : Prop := dueOf l i < dueOf l k ∨ dueOf l i = dueOf l k ∧ i ≤ k
theorem insD_perm (l : List Tk) (i : Nat) : ∀ o, (insD l i o).Perm (i :: o)
 | [] => List.Perm.refl _
 | k :: r => by
  unfold insD
  split
  ·exact ((insD_perm l i r).cons k).trans (List.Perm.swap i k r)
  ·exact List.Perm.refl _
theorem insD_sorted (l : List Tk) (i : Nat) : ∀ o, o.Pairwise (leD l) → (∀ k ∈ o, k ≤ i) → (insD l i o).Pairwise (leD l)
 | [], _, _ => by simp [insD]
 | k :: r, h, hi => by
  rw [List.pairwise_cons] at h
  have hk := hi k (by simp)
  unfold insD
  split
  ·rename_i hd
   rw [List.pairwise_cons]
   refine ⟨fun x hx => ?_, insD_sorted l i r h.2 fun x hx => hi x (by simp [hx])⟩
   rcases List.mem_cons.1 ((insD_perm l i r).mem_iff.1 hx) with rfl | hx
   ·unfold leD
    omega
   ·exact h.1 x hx
  ·rename_i hd
   rw [List.pairwise_cons, List.pairwise_cons]
   refine ⟨fun x hx => ?_, h.1, h.2⟩
   rcases List.mem_cons.1 hx with rfl | hx
   ·unfold leD
    omega
   ·have := h.1 x hx
    unfold leD at *
    omega
theorem ready_fold (l : List Tk) : ∀ (q o : List Nat), q.Pairwise (· < ·) → o.Pairwise (leD l) → (∀ k ∈ o, ∀ i ∈ q, k ≤ i) →
  (q.foldl (fun o i => insD l i o) o).Pairwise (leD l) ∧ (q.foldl (fun o i => insD l i o) o).Perm (q ++ o)
 | [], o, _, h, _ => ⟨h, List.Perm.refl _⟩
 | i :: q, o, hq, h, hb => by
  rw [List.pairwise_cons] at hq
  have h1 := ready_fold l q (insD l i o) hq.2 (insD_sorted l i o h fun k hk => hb k hk i (by simp)) (fun k hk j hj => by
   rcases List.mem_cons.1 ((insD_perm l i o).mem_iff.1 hk) with rfl | hk
   ·exact Nat.le_of_lt (hq.1 j hj)
   ·exact hb k hk j (by simp [hj]))
  refine ⟨h1.1, h1.2.trans ?_⟩
  exact ((insD_perm l i o).append_left q).trans List.perm_middle
theorem ready_sorted (l : List Tk) (d : List Bool) : (readyM l d).Pairwise (leD l) ∧ (readyM l d).Perm ((List.range l.length).filter (freeB l d)) := by
 have h := ready_fold l ((List.range l.length).filter (freeB l d)) [] (List.Pairwise.filter _ List.pairwise_lt_range) List.Pairwise.nil (fun k hk => by simp at hk)
 rw [List.append_nil] at h
 exact h
theorem leD_antisymm {l : List Tk} {i k : Nat} (h : leD l i k) (h' : leD l k i) : i = k := by
 unfold leD at *
 omega
theorem ready_uniq {l : List Tk} {d : List Bool} {o : List Nat} (hp : o.Perm ((List.range l.length).filter (freeB l d))) (hs : o.Pairwise (leD l)) : o = readyM l d := by
 obtain ⟨h1, h2⟩ := ready_sorted l d
 exact List.Perm.eq_of_pairwise (fun a b _ _ h h' => leD_antisymm h h') hs h1 (hp.trans h2.symm)
theorem ready_mem {l : List Tk} {d : List Bool} {i : Nat} : i ∈ readyM l d ↔ i < l.length ∧ freeB l d i = true := by
 rw [(ready_sorted l d).2.mem_iff, List.mem_filter, List.mem_range]
end Wk
end Go.Proofs.YtlbjfbpejomkmaaGreat
namespace Go.Proofs.YtlbjfbpejomkmaaGreat
namespace Wk

theorem pot_flat {s : St} (h : GoodS s) : ∀ (k : Nat) (x : Int), (∀ z, x ≤ z → z < x + k → hasS s z = false) → potS s (x + k) = potS s x
 | 0, x, _ => by rw [show x + ((0 : Nat) : Int) = x by omega]
 | k + 1, x, hz => by
  have h1 := pot_flat h k x fun z a b => hz z a (by omega)
  have h2 := potS_steps h (x + k)
  rw [hz (x + k) (by omega) (by omega)] at h2
  rw [show x + ((k + 1 : Nat) : Int) = x + k + 1 by omega, h2, h1]
  simp [b2i]
theorem pot_same {s : St} (h : GoodS s) {x y : Int} (hxy : x ≤ y) (hz : ∀ z, x ≤ z → z < y → hasS s z = false) : potS s y = potS s x := by
 have := pot_flat h (y - x).toNat x fun z a b => hz z a (by omega)
 rwa [show x + ((y - x).toNat : Int) = y by omega] at this
theorem earl_at {s : St} (h : GoodS s) {n x f : Int} (hx : x ≤ f) (hf : f ≤ 4398046511104) (hh : hasS s f = true) (hz : ∀ z, x ≤ z → z < f → hasS s z = false) (hn : 0 < n) :
  earlM s n x = if (addM s f n).2 ≠ 0 then none else some (f, (addM s f n).1) := by
 have hp := pot_same h hx hz
 unfold earlM
 rw [if_neg (by omega)]
 by_cases hc : n ≤ potS s 4398046511104 - potS s f
 ·obtain ⟨e, a1, _⟩ := addM_yes h hf hn hc
  obtain ⟨e', b1, _⟩ := addM_yes h (t := x) (by omega) hn (by omega)
  obtain ⟨e1, c1, _⟩ := addM_yes h (t := x) (n := 1) (by omega) (by omega) (by omega)
  rw [e, e', e1]
  simp only [ne_eq, not_true_eq_false, if_false]
  rw [hp] at a1
  have u1 := AtPot.uniq h a1 b1
  have hfa : AtPot s f (potS s x + 1 - 1) := ⟨hh, by omega⟩
  have u2 := AtPot.uniq h hfa c1
  congr 1
  rw [Prod.mk.injEq]
  omega
 ·rw [addM_no h hf (by omega) (by omega), addM_no h (t := x) (by omega) (by omega) (by omega)]
  simp
theorem earl_no {s : St} (h : GoodS s) {n x : Int} (hz : ∀ z, x ≤ z → z < 4398046511104 → hasS s z = false) (hn : 0 < n) : earlM s n x = none := by
 unfold earlM
 by_cases hx : 4398046511104 < x
 ·rw [if_pos hx]
 ·rw [if_neg hx, addM_no h (by omega) (by omega) (by rw [pot_same h (by omega) hz]; omega)]
  simp
theorem next_first {h : Int → Bool} {x y : Int} (hx : h x = false) (hn : NextC h x (some y)) : x < y ∧ h y = true ∧ ∀ z, x ≤ z → z < y → h z = false := by
 obtain ⟨h1, h2, h3⟩ := hn
 have hc : ∀ (k : Nat), x + k < y → h (x + k) = false := by
  intro k
  induction k with
  | zero => intro _; simpa using hx
  | succ k ih =>
   intro hk
   have := h3 (x + ((k + 1 : Nat) : Int)) (by omega) (by omega)
   rw [show x + ((k + 1 : Nat) : Int) - 1 = x + k by omega, ih (by omega)] at this
   exact this.symm
 have hz : ∀ z, x ≤ z → z < y → h z = false := fun z a b => by
  have := hc (z - x).toNat (by omega)
  rwa [show x + ((z - x).toNat : Int) = z by omega] at this
 refine ⟨h1, ?_, hz⟩
 have := hz (y - 1) (by omega) (by omega)
 rw [this] at h2
 cases hy : h y with
 | true => rfl
 | false => exact absurd hy.symm h2
theorem next_never {h : Int → Bool} {x : Int} (hx : h x = false) (hn : NextC h x none) : ∀ z, x ≤ z → h z = false := by
 have hc : ∀ (k : Nat), h (x + k) = false := by
  intro k
  induction k with
  | zero => simpa using hx
  | succ k ih =>
   have := hn (x + ((k + 1 : Nat) : Int)) (by omega)
   rw [show x + ((k + 1 : Nat) : Int) - 1 = x + k by omega, ih] at this
   exact this.symm
 intro z a
 have := hc (z - x).toNat
 rwa [show x + ((z - x).toNat : Int) = z by omega] at this
end Wk
end Go.Proofs.YtlbjfbpejomkmaaGreat
namespace Go.Proofs.YtlbjfbpejomkmaaGreat
namespace Wk

theorem earl_spec {s : St} (h : GoodS s) {n x f t : Int} (hn : 0 < n) (he : earlM s n x = some (f, t)) :
  x ≤ f ∧ f < t ∧ t ≤ 4398046511104 ∧ hasS s f = true ∧ hasS s (t - 1) = true ∧ potS s t - potS s f = n ∧ ∀ z, x ≤ z → z < f → hasS s z = false := by
 have S := potS_steps h
 unfold earlM at he
 split at he
 ·cases he
 ·rename_i hx
  split at he
  ·cases he
  ·rename_i h0
   have hc : n ≤ potS s 4398046511104 - potS s x := by
    rcases (by omega : potS s 4398046511104 - potS s x < n ∨ n ≤ potS s 4398046511104 - potS s x) with g | g
    ·rw [addM_no h (by omega) (by omega) g] at h0
     exact absurd h0 (by simp)
    ·exact g
   obtain ⟨e, a1, a2, a3, a4⟩ := addM_yes h (t := x) (by omega) hn hc
   obtain ⟨e1, b1, b2, b3, b4⟩ := addM_yes h (t := x) (n := 1) (by omega) (by omega) (by omega)
   rw [e, e1] at he
   simp only [Option.some.injEq, Prod.mk.injEq] at he
   obtain ⟨rfl, rfl⟩ := he
   have hft : addLf s x 1 - 1 ≤ addLf s x n - 1 := S.le_of a1.1 (by rw [b1.2, a1.2]; omega)
   refine ⟨by omega, by omega, a4, b1.1, a1.1, by rw [a2, b1.2]; omega, fun z hz1 hz2 => S.const (a := x) (b := addLf s x 1 - 1) (by rw [b1.2]; omega) z hz1 hz2⟩
theorem earl_least {s : St} (h : GoodS s) {n x F T : Int} (hn : 0 < n) (hx : x ≤ F) (hF : hasS s F = true) (hT : hasS s (T - 1) = true) (hm : T ≤ 4398046511104) (hp : potS s T - potS s F = n) :
  ∃ f t, earlM s n x = some (f, t) ∧ f ≤ F ∧ t ≤ T := by
 have S := potS_steps h
 have m1 := (S.mono x F hx).1
 have m2 := (S.mono T 4398046511104 hm).1
 have hFT : F < T := S.lt_of (by omega)
 have hT1 : potS s T = potS s (T - 1) + 1 := by
  have := S (T - 1)
  rw [hT, show T - 1 + 1 = T by omega] at this
  simpa [b2i] using this
 obtain ⟨e, a1, a2, a3, a4⟩ := addM_yes h (t := x) (by omega) hn (by omega)
 obtain ⟨e1, b1, b2, b3, b4⟩ := addM_yes h (t := x) (n := 1) (by omega) (by omega) (by omega)
 refine ⟨addLf s x 1 - 1, addLf s x n, ?_, S.le_of hF (by rw [b1.2]; omega), ?_⟩
 ·unfold earlM
  rw [if_neg (by omega), e, e1]
  simp
 ·have := S.le_of (a := addLf s x n - 1) hT (by rw [a1.2]; omega)
  omega
end Wk
end Go.Proofs.YtlbjfbpejomkmaaGreat
namespace Go.Proofs.YtlbjfbpejomkmaaGreat
namespace Wk

def spAt (b : List Sp) (i : Nat) : Sp := b.getD i (0, 0)
def dAt (d : List Bool) (i : Nat) : Bool := d.getD i false
def reOf (l : List Tk) (i : Nat) : Nat := (tkAt l i).rs.toNat
def setOf (l : List Tk) (res : List St) (i : Nat) : St := res.getD (reOf l i) noSt
structure TkV (l : List Tk) (res : List St) : Prop where
 rs : ∀ i, i < l.length → 0 ≤ (tkAt l i).rs ∧ reOf l i < res.length
 wk : ∀ i, i < l.length → 0 < (tkAt l i).wk
 af : ∀ i, i < l.length → ∀ j ∈ (tkAt l i).af, 0 ≤ j ∧ j.toNat < i
 res : ∀ i, i < l.length → GoodS (setOf l res i)
def Fits (l : List Tk) (res : List St) (start : Int) (i : Nat) (s : Sp) : Prop :=
 start ≤ s.1 ∧ hasS (setOf l res i) s.1 = true ∧ hasS (setOf l res i) (s.2 - 1) = true ∧ s.1 < s.2 ∧ s.2 ≤ 4398046511104 ∧ potS (setOf l res i) s.2 - potS (setOf l res i) s.1 = (tkAt l i).wk ∧ s.2 ≤ dueOf l i
structure SchP (l : List Tk) (res : List St) (start : Int) (b : List Sp) : Prop where
 len : b.length = l.length
 fits : ∀ i, i < l.length → Fits l res start i (spAt b i)
 af : ∀ i, i < l.length → ∀ j ∈ (tkAt l i).af, (spAt b j.toNat).2 ≤ (spAt b i).1
 apart : ∀ i k, i < l.length → k < l.length → k ≠ i → reOf l k = reOf l i → (spAt b k).2 ≤ (spAt b i).1 ∨ (spAt b i).2 ≤ (spAt b k).1

theorem getD_setL {α : Type} (l : List α) (i k : Nat) (x y : α) (hi : i < l.length) : (l.set i x).getD k y = if k = i then x else l.getD k y := by
 rw [List.getD_eq_getElem?_getD, List.getD_eq_getElem?_getD, List.getElem?_set]
 by_cases h : i = k
 ·subst h
  simp [hi]
 ·rw [if_neg h, if_neg (fun e => h e.symm)]
theorem count_left {d : List Bool} {i : Nat} {n : Nat} (hi : i < d.length) (hd : dAt d i = false) (hc : d.count false = n + 1) : (d.set i true).count false = n := by
 rw [List.count_set hi]
 unfold dAt at hd
 rw [List.getD_eq_getElem?_getD, List.getElem?_eq_getElem hi] at hd
 simp at hd
 rw [hd, hc]
 simp
theorem count_none {d : List Bool} (hc : d.count false = 0) {i : Nat} (hi : i < d.length) : dAt d i = true := by
 unfold dAt
 rw [List.getD_eq_getElem?_getD, List.getElem?_eq_getElem hi]
 rw [List.count_eq_zero] at hc
 have := List.getElem_mem hi
 cases hd : d[i] with
 | true => rfl
 | false => rw [hd] at this; exact absurd this hc
theorem count_some {d : List Bool} {n : Nat} (hc : d.count false = n + 1) : ∃ i, i < d.length ∧ dAt d i = false := by
 have hm : false ∈ d := List.count_pos_iff.1 (by omega)
 obtain ⟨i, hi, he⟩ := List.mem_iff_getElem.1 hm
 exact ⟨i, hi, by unfold dAt; rw [List.getD_eq_getElem?_getD, List.getElem?_eq_getElem hi]; simpa using he⟩
theorem exists_min (f : Nat → Int) : ∀ (q : List Nat), q ≠ [] → ∃ x ∈ q, ∀ y ∈ q, f x ≤ f y
 | [], h => absurd rfl h
 | [x], _ => ⟨x, by simp, fun y hy => by simp at hy; subst hy; exact Int.le_refl _⟩
 | x :: y :: r, _ => by
  obtain ⟨m, hm, hle⟩ := exists_min f (y :: r) (by simp)
  by_cases h : f x ≤ f m
  ·refine ⟨x, by simp, fun z hz => ?_⟩
   rcases List.mem_cons.1 hz with rfl | hz
   ·exact Int.le_refl _
   ·exact Int.le_trans h (hle z hz)
  ·refine ⟨m, List.mem_cons_of_mem _ hm, fun z hz => ?_⟩
   rcases List.mem_cons.1 hz with rfl | hz
   ·omega
   ·exact hle z hz
theorem fold_max (g : Int → Int) : ∀ (q : List Int) (x : Int), x ≤ q.foldl (fun x j => max x (g j)) x ∧ (∀ j ∈ q, g j ≤ q.foldl (fun x j => max x (g j)) x) ∧ ∀ y, x ≤ y → (∀ j ∈ q, g j ≤ y) → q.foldl (fun x j => max x (g j)) x ≤ y
 | [], x => ⟨Int.le_refl _, fun j h => by simp at h, fun y h _ => h⟩
 | j :: q, x => by
  obtain ⟨h1, h2, h3⟩ := fold_max g q (max x (g j))
  refine ⟨by simp only [List.foldl_cons]; omega, fun k hk => ?_, fun y hy hq => ?_⟩
  ·rcases List.mem_cons.1 hk with rfl | hk
   ·simp only [List.foldl_cons]; omega
   ·exact h2 k hk
  ·exact h3 y (by have := hq j (by simp); omega) fun k hk => hq k (by simp [hk])
theorem from_ge {start : Int} {e : List Int} {a : List Sp} {t : Tk} : start ≤ fromM start e a t ∧ e.getD t.rs.toNat 0 ≤ fromM start e a t ∧ ∀ j ∈ t.af, (spAt a j.toNat).2 ≤ fromM start e a t := by
 obtain ⟨h1, h2, _⟩ := fold_max (fun j => (a.getD j.toNat (0, 0)).2) t.af (max start (e.getD t.rs.toNat 0))
 refine ⟨?_, ?_, h2⟩ <;> · unfold fromM; omega
theorem from_le {start y : Int} {e : List Int} {a : List Sp} {t : Tk} (h1 : start ≤ y) (h2 : e.getD t.rs.toNat 0 ≤ y) (h3 : ∀ j ∈ t.af, (spAt a j.toNat).2 ≤ y) : fromM start e a t ≤ y :=
 (fold_max (fun j => (a.getD j.toNat (0, 0)).2) t.af (max start (e.getD t.rs.toNat 0))).2.2 y (by omega) h3

/-! ## what is found holds -/
structure Snd (l : List Tk) (res : List St) (start : Int) (d : List Bool) (e : List Int) (a : List Sp) : Prop where
 dl : d.length = l.length
 el : e.length = res.length
 al : a.length = l.length
 fits : ∀ i, i < l.length → dAt d i = true → Fits l res start i (spAt a i)
 af : ∀ i, i < l.length → dAt d i = true → ∀ j ∈ (tkAt l i).af, dAt d j.toNat = true ∧ (spAt a j.toNat).2 ≤ (spAt a i).1
 apart : ∀ i k, i < l.length → k < l.length → dAt d i = true → dAt d k = true → k ≠ i → reOf l k = reOf l i → (spAt a k).2 ≤ (spAt a i).1 ∨ (spAt a i).2 ≤ (spAt a k).1
 ends : ∀ k, k < l.length → dAt d k = true → (spAt a k).2 ≤ e.getD (reOf l k) 0
theorem free_iff {l : List Tk} {d : List Bool} {i : Nat} : freeB l d i = true ↔ dAt d i = false ∧ ∀ j ∈ (tkAt l i).af, dAt d j.toNat = true := by
 unfold freeB dAt
 simp
theorem Snd.step {l : List Tk} {res : List St} {start : Int} {d : List Bool} {e : List Int} {a : List Sp} (hv : TkV l res) (h : Snd l res start d e a) {i : Nat} {s : Sp} (hi : i < l.length) (hf : freeB l d i = true)
  (he : earlM (setOf l res i) (tkAt l i).wk (fromM start e a (tkAt l i)) = some s) (hdue : ¬ dueOf l i < s.2) : Snd l res start (d.set i true) (e.set (reOf l i) s.2) (a.set i s) := by
 obtain ⟨hd, haf⟩ := free_iff.1 hf
 obtain ⟨f, t⟩ := s
 obtain ⟨g1, g2, g3, g4, g5, g6, _⟩ := earl_spec (hv.res i hi) (hv.wk i hi) he
 obtain ⟨k1, k2, k3⟩ := from_ge (start := start) (e := e) (a := a) (t := tkAt l i)
 have hD : ∀ k, dAt (d.set i true) k = if k = i then true else dAt d k := fun k => getD_setL d i k true false (by rw [h.dl]; exact hi)
 have hA : ∀ k, spAt (a.set i (f, t)) k = if k = i then (f, t) else spAt a k := fun k => getD_setL a i k _ _ (by rw [h.al]; exact hi)
 have hE : ∀ r, (e.set (reOf l i) t).getD r 0 = if r = reOf l i then t else e.getD r 0 := fun r => getD_setL e (reOf l i) r _ _ (by rw [h.el]; exact (hv.rs i hi).2)
 have hne : ∀ j ∈ (tkAt l i).af, j.toNat ≠ i := fun j hj => by have := (hv.af i hi j hj).2; omega
 simp only at hdue
 refine ⟨by rw [List.length_set]; exact h.dl, by rw [List.length_set]; exact h.el, by rw [List.length_set]; exact h.al, ?_, ?_, ?_, ?_⟩
 ·intro k hk hdk
  rw [hA]
  by_cases hki : k = i
  ·subst hki
   rw [if_pos rfl]
   exact ⟨by simp only; omega, g4, g5, g2, g3, g6, by simp only; omega⟩
  ·rw [if_neg hki]
   rw [hD, if_neg hki] at hdk
   exact h.fits k hk hdk
 ·intro k hk hdk j hj
  rw [hD, hA, hA]
  by_cases hki : k = i
  ·subst hki
   rw [if_neg (hne j hj), if_neg (hne j hj), if_pos rfl]
   exact ⟨haf j hj, by simp only; have := k3 j hj; omega⟩
  ·rw [hD, if_neg hki] at hdk
   have := h.af k hk hdk j hj
   have hji : j.toNat ≠ i := fun e => by rw [e, hd] at this; exact absurd this.1 (by simp)
   rw [if_neg hji, if_neg hji, if_neg hki]
   exact this
 ·intro k m hk hm hdk hdm hmk hr
  rw [hA, hA]
  by_cases hki : k = i
  ·subst hki
   rw [if_neg hmk, if_pos rfl]
   rw [hD, if_neg hmk] at hdm
   left
   have := h.ends m hm hdm
   rw [hr] at this
   simp only
   unfold reOf at this
   omega
  ·rw [if_neg hki]
   by_cases hmi : m = i
   ·subst hmi
    rw [if_pos rfl]
    rw [hD, if_neg hki] at hdk
    right
    have := h.ends k hk hdk
    rw [← hr] at this
    simp only
    unfold reOf at this
    omega
   ·rw [if_neg hmi]
    rw [hD, if_neg hki] at hdk
    rw [hD, if_neg hmi] at hdm
    exact h.apart k m hk hm hdk hdm hmk hr
 ·intro k hk hdk
  rw [hA, hE]
  by_cases hki : k = i
  ·subst hki
   rw [if_pos rfl, if_pos rfl]
   exact Int.le_refl _
  ·rw [if_neg hki]
   rw [hD, if_neg hki] at hdk
   have := h.ends k hk hdk
   by_cases hr : reOf l k = reOf l i
   ·rw [if_pos hr]
    rw [hr] at this
    unfold reOf at this
    omega
   ·rw [if_neg hr]
    exact this
theorem try_ok {rec : List Bool → List Int → List Sp → Int → Rs} {l : List Tk} {res : List St} {start : Int} {d : List Bool} {e : List Int} {a a' : List Sp} : ∀ {q : List Nat} {left : Int}, tryM rec l res start d e a q left = .ok a' →
  ∃ i ∈ q, ∃ s left', earlM (setOf l res i) (tkAt l i).wk (fromM start e a (tkAt l i)) = some s ∧ ¬ dueOf l i < s.2 ∧ rec (d.set i true) (e.set (reOf l i) s.2) (a.set i s) left' = .ok a'
 | [], left, h => by unfold tryM at h; cases h
 | i :: q, left, h => by
  unfold tryM at h
  split at h
  ·cases h
  ·split at h
   ·obtain ⟨k, hk, r⟩ := try_ok h
    exact ⟨k, List.mem_cons_of_mem _ hk, r⟩
   ·rename_i s hs
    split at h
    ·obtain ⟨k, hk, r⟩ := try_ok h
     exact ⟨k, List.mem_cons_of_mem _ hk, r⟩
    ·rename_i hdue
     split at h
     ·obtain ⟨k, hk, r⟩ := try_ok h
      exact ⟨k, List.mem_cons_of_mem _ hk, r⟩
     ·exact ⟨i, by simp, s, _, hs, hdue, h⟩
theorem sound {l : List Tk} {res : List St} {start : Int} (hv : TkV l res) : ∀ (n : Nat) {d : List Bool} {e : List Int} {a a' : List Sp} {left : Int}, Snd l res start d e a → d.count false = n → runM l res start n d e a left = .ok a' → SchP l res start a'
 | 0, d, e, a, a', left, h, hc, hr => by
  have hr : Rs.ok a = .ok a' := hr
  injection hr with hr
  subst hr
  have hall : ∀ i, i < l.length → dAt d i = true := fun i hi => count_none hc (by rw [h.dl]; exact hi)
  exact ⟨h.al, fun i hi => h.fits i hi (hall i hi), fun i hi j hj => (h.af i hi (hall i hi) j hj).2, fun i k hi hk => h.apart i k hi hk (hall i hi) (hall k hk)⟩
 | n + 1, d, e, a, a', left, h, hc, hr => by
  obtain ⟨i, hi, s, left', h1, h2, h3⟩ := try_ok (show tryM (runM l res start n) l res start d e a (readyM l d) left = .ok a' from hr)
  obtain ⟨hil, hif⟩ := ready_mem.1 hi
  exact sound hv n (h.step hv hil hif h1 h2) (count_left (by rw [h.dl]; exact hil) (free_iff.1 hif).1 hc) h3

/-! ## no schedule is missed -/
structure Dom (l : List Tk) (res : List St) (start : Int) (b : List Sp) (d : List Bool) (e : List Int) (a : List Sp) : Prop where
 dl : d.length = l.length
 el : e.length = res.length
 al : a.length = l.length
 ord : ∀ i k, i < l.length → k < l.length → dAt d i = true → dAt d k = false → (spAt b i).1 ≤ (spAt b k).1
 dom : ∀ i, i < l.length → dAt d i = true → (spAt a i).2 ≤ (spAt b i).2
 ends : ∀ r, r < res.length → e.getD r 0 ≤ start ∨ ∃ k, k < l.length ∧ dAt d k = true ∧ reOf l k = r ∧ e.getD r 0 = (spAt a k).2
theorem try_ne {rec : List Bool → List Int → List Sp → Int → Rs} {l : List Tk} {res : List St} {start : Int} {d : List Bool} {e : List Int} {a : List Sp} {i : Nat} {s : Sp}
  (he : earlM (setOf l res i) (tkAt l i).wk (fromM start e a (tkAt l i)) = some s) (hdue : ¬ dueOf l i < s.2)
  (hr : ∀ left left', rec (d.set i true) (e.set (reOf l i) s.2) (a.set i s) left ≠ .no left') : ∀ {q : List Nat} {left left' : Int}, i ∈ q → tryM rec l res start d e a q left ≠ .no left'
 | [], left, left', h => by simp at h
 | k :: q, left, left', h => by
  unfold tryM
  split
  ·intro hh; cases hh
  ·by_cases hk : k = i
   ·subst hk
    unfold setOf reOf at he
    rw [he]
    simp only
    rw [if_neg (show ¬ (tkAt l k).du < s.2 from hdue)]
    split
    ·rename_i hh
     exact absurd hh (hr _ _)
    ·rename_i hx
     intro hh
     exact hx _ hh
   ·have hq : i ∈ q := by
     rcases List.mem_cons.1 h with g | g
     ·exact absurd g.symm hk
     ·exact g
    split
    ·exact try_ne he hdue hr hq
    ·split
     ·exact try_ne he hdue hr hq
     ·split
      ·exact try_ne he hdue hr hq
      ·rename_i hx
       intro hh
       exact hx _ hh
theorem complete {l : List Tk} {res : List St} {start : Int} {b : List Sp} (hv : TkV l res) (hb : SchP l res start b) : ∀ (n : Nat) {d : List Bool} {e : List Int} {a : List Sp} {left left' : Int}, Dom l res start b d e a → d.count false = n → runM l res start n d e a left ≠ .no left'
 | 0, d, e, a, left, left', _, _ => by intro hh; cases hh
 | n + 1, d, e, a, left, left', h, hc => by
  obtain ⟨i0, hi0, hd0⟩ := count_some hc
  obtain ⟨i, him, hmin⟩ := exists_min (fun k => (spAt b k).1) ((List.range l.length).filter fun k => !dAt d k) (by
   intro hh
   have : i0 ∈ (List.range l.length).filter fun k => !dAt d k := List.mem_filter.2 ⟨List.mem_range.2 (by rw [← h.dl]; exact hi0), by rw [hd0]; rfl⟩
   rw [hh] at this
   simp at this)
  obtain ⟨hir, hid⟩ := List.mem_filter.1 him
  have hil : i < l.length := List.mem_range.1 hir
  have hid : dAt d i = false := by simpa using hid
  have hmin' : ∀ k, k < l.length → dAt d k = false → (spAt b i).1 ≤ (spAt b k).1 := fun k hk hd => hmin k (List.mem_filter.2 ⟨List.mem_range.2 hk, by rw [hd]; rfl⟩)
  have hfree : freeB l d i = true := free_iff.2 ⟨hid, fun j hj => by
   cases hdj : dAt d j.toNat with
   | true => rfl
   | false =>
    have hjl : j.toNat < l.length := by have := (hv.af i hil j hj).2; omega
    have h1 := hmin' j.toNat hjl hdj
    have h2 := hb.af i hil j hj
    have h3 := (hb.fits j.toNat hjl).2.2.2.1
    omega⟩
  obtain ⟨f1, f2, f3, f4, f5, f6, f7⟩ := hb.fits i hil
  have hx : fromM start e a (tkAt l i) ≤ (spAt b i).1 := by
   refine from_le f1 ?_ fun j hj => ?_
   ·rcases h.ends (reOf l i) (hv.rs i hil).2 with g | ⟨k, hk, hdk, hrk, hek⟩
    ·have : e.getD (tkAt l i).rs.toNat 0 ≤ start := g
     omega
    ·have hki : k ≠ i := fun e => by rw [e, hid] at hdk; cases hdk
     have g1 := h.dom k hk hdk
     have g2 := h.ord k i hk hil hdk hid
     have g3 := hb.apart i k hil hk hki hrk
     have : e.getD (tkAt l i).rs.toNat 0 = (spAt a k).2 := hek
     omega
   ·have hjl := hv.af i hil j hj
    have hdj := (free_iff.1 hfree).2 j hj
    have g1 := h.dom j.toNat (by omega) hdj
    have g2 := hb.af i hil j hj
    omega
  obtain ⟨f, t, he, hf, ht⟩ := earl_least (hv.res i hil) (hv.wk i hil) hx f2 f3 f5 f6
  have hD : ∀ k, dAt (d.set i true) k = if k = i then true else dAt d k := fun k => getD_setL d i k true false (by rw [h.dl]; exact hil)
  have hA : ∀ k, spAt (a.set i (f, t)) k = if k = i then (f, t) else spAt a k := fun k => getD_setL a i k _ _ (by rw [h.al]; exact hil)
  have hE : ∀ r, (e.set (reOf l i) t).getD r 0 = if r = reOf l i then t else e.getD r 0 := fun r => getD_setL e (reOf l i) r _ _ (by rw [h.el]; exact (hv.rs i hil).2)
  refine try_ne (i := i) (s := (f, t)) he (by simp only; omega) (fun lf lf' => complete hv hb n ?_ (count_left (by rw [h.dl]; exact hil) hid hc)) (ready_mem.2 ⟨hil, hfree⟩)
  refine ⟨by rw [List.length_set]; exact h.dl, by rw [List.length_set]; exact h.el, by rw [List.length_set]; exact h.al, ?_, ?_, ?_⟩
  ·intro p k hp hk hdp hdk
   have hki : k ≠ i := fun e => by rw [hD, if_pos e] at hdk; cases hdk
   rw [hD, if_neg hki] at hdk
   by_cases hpi : p = i
   ·subst hpi
    exact hmin' k hk hdk
   ·rw [hD, if_neg hpi] at hdp
    exact h.ord p k hp hk hdp hdk
  ·intro k hk hdk
   rw [hA]
   by_cases hki : k = i
   ·subst hki
    rw [if_pos rfl]
    exact ht
   ·rw [if_neg hki]
    rw [hD, if_neg hki] at hdk
    exact h.dom k hk hdk
  ·intro r hr
   rw [hE]
   by_cases hri : r = reOf l i
   ·rw [if_pos hri]
    right
    exact ⟨i, hil, by rw [hD, if_pos rfl], hri.symm, by rw [hA, if_pos rfl]⟩
   ·rw [if_neg hri]
    rcases h.ends r hr with g | ⟨k, hk, hdk, hrk, hek⟩
    ·exact Or.inl g
    ·have hki : k ≠ i := fun e => by rw [e] at hrk; exact hri hrk.symm
     exact Or.inr ⟨k, hk, by rw [hD, if_neg hki]; exact hdk, hrk, by rw [hA, if_neg hki]; exact hek⟩
end Wk
end Go.Proofs.YtlbjfbpejomkmaaGreat
namespace Go.Proofs.YtlbjfbpejomkmaaGreat
namespace Wk

theorem rep_count (n : Nat) : (List.replicate n false).count false = n := by simp
theorem rep_at (n i : Nat) : dAt (List.replicate n false) i = false := by
 unfold dAt
 rw [List.getD_eq_getElem?_getD, List.getElem?_replicate]
 split <;> rfl
theorem find_ok {l : List Tk} {res : List St} {start most : Int} {a : List Sp} (hv : TkV l res) (h : findM l res start most = .ok a) : SchP l res start a := by
 refine sound hv l.length ⟨by simp, by simp, by simp, ?_, ?_, ?_, ?_⟩ (rep_count _) h
 ·intro i _ hd; rw [rep_at] at hd; cases hd
 ·intro i _ hd; rw [rep_at] at hd; cases hd
 ·intro i k _ _ hd; rw [rep_at] at hd; cases hd
 ·intro i _ hd; rw [rep_at] at hd; cases hd
theorem find_no {l : List Tk} {res : List St} {start most left : Int} {b : List Sp} (hv : TkV l res) (hb : SchP l res start b) : findM l res start most ≠ .no left := by
 refine complete hv hb l.length ⟨by simp, by simp, by simp, ?_, ?_, ?_⟩ (rep_count _)
 ·intro i k _ _ hd; rw [rep_at] at hd; cases hd
 ·intro i _ hd; rw [rep_at] at hd; cases hd
 ·intro r hr
  left
  rw [List.getD_eq_getElem?_getD, List.getElem?_replicate, if_pos hr]
  exact Int.le_refl _
end Wk
end Go.Proofs.YtlbjfbpejomkmaaGreat
namespace Go.Proofs.YtlbjfbpejomkmaaGreat
namespace Wk

end Wk
end Go.Proofs.YtlbjfbpejomkmaaGreat
namespace Go.Proofs.YtlbjfbpejomkmaaGreat
namespace Wk

def keptL (n : Nat) (keep : Nat → Bool) : List Nat := (List.range n).filter keep
def numK (keep : Nat → Bool) (j : Nat) : Nat := (keptL j keep).length
theorem kept_succ (n : Nat) (keep : Nat → Bool) : keptL (n + 1) keep = keptL n keep ++ if keep n = true then [n] else [] := by
 unfold keptL
 rw [List.range_succ, List.filter_append]
 cases hk : keep n <;> simp [hk]
theorem kept_get {keep : Nat → Bool} {i : Nat} (hk : keep i = true) : ∀ (n : Nat), i < n → (keptL n keep)[numK keep i]? = some i
 | 0, h => by omega
 | n + 1, h => by
  rw [kept_succ]
  rcases (by omega : i < n ∨ i = n) with g | rfl
  ·have ih := kept_get hk n g
   have hlt := (List.getElem?_eq_some_iff.1 ih).1
   rw [List.getElem?_append_left hlt, ih]
  ·rw [if_pos hk]
   unfold numK
   rw [List.getElem?_append_right (Nat.le_refl _)]
   simp
theorem num_get {keep : Nat → Bool} {i m : Nat} : ∀ (n : Nat), (keptL n keep)[m]? = some i → numK keep i = m ∧ i < n ∧ keep i = true
 | 0, h => by simp [keptL] at h
 | n + 1, h => by
  rw [kept_succ] at h
  rcases (by omega : m < (keptL n keep).length ∨ (keptL n keep).length ≤ m) with g | g
  ·rw [List.getElem?_append_left g] at h
   obtain ⟨h1, h2, h3⟩ := num_get n h
   exact ⟨h1, by omega, h3⟩
  ·rw [List.getElem?_append_right g] at h
   by_cases hk : keep n = true
   ·rw [if_pos hk] at h
    obtain ⟨h1, h2⟩ := List.getElem?_eq_some_iff.1 h
    simp at h1 h2
    subst h2
    exact ⟨by unfold numK; omega, by omega, hk⟩
   ·rw [if_neg hk] at h
    simp at h
theorem num_lt {keep : Nat → Bool} {i j : Nat} (hj : keep j = true) (h : j < i) : numK keep j < numK keep i := by
 have h1 := kept_get hj i h
 exact (List.getElem?_eq_some_iff.1 h1).1
def tkCut (l : List Tk) (keep : Nat → Bool) (i : Nat) : Tk := { tkAt l i with af := ((tkAt l i).af.filter fun j => keep j.toNat).map fun j => (numK keep j.toNat : Int) }
def someM (l : List Tk) (keep : Nat → Bool) : List Tk := (keptL l.length keep).map (tkCut l keep)
theorem some_length (l : List Tk) (keep : Nat → Bool) : (someM l keep).length = (keptL l.length keep).length := by unfold someM; rw [List.length_map]
theorem some_le (l : List Tk) (keep : Nat → Bool) : (someM l keep).length ≤ l.length := by
 rw [some_length]
 unfold keptL
 have := List.length_filter_le keep (List.range l.length)
 rwa [List.length_range] at this
theorem some_at {l : List Tk} {keep : Nat → Bool} {m : Nat} (hm : m < (someM l keep).length) : ∃ i, i < l.length ∧ keep i = true ∧ numK keep i = m ∧ tkAt (someM l keep) m = tkCut l keep i := by
 rw [some_length] at hm
 have hg : (keptL l.length keep)[m]? = some (keptL l.length keep)[m] := List.getElem?_eq_getElem hm
 obtain ⟨h1, h2, h3⟩ := num_get l.length hg
 refine ⟨_, h2, h3, h1, ?_⟩
 unfold tkAt someM
 rw [List.getD_eq_getElem?_getD, List.getElem?_map, hg]
 rfl
def updK (keep : Nat → Bool) (i : Nat) (v : Bool) : Nat → Bool := fun k => if k = i then v else keep k
def conflL (l : List Tk) (res : List St) (start : Int) : List Nat → (Nat → Bool) → Option (Nat → Bool)
 | [], keep => some keep
 | i :: r, keep => match findM (someM l (updK keep i false)) res start 1000 with
  | .out => none
  | .ok _ => conflL l res start r keep
  | .no _ => conflL l res start r (updK keep i false)
end Wk
end Go.Proofs.YtlbjfbpejomkmaaGreat
namespace Go.Proofs.YtlbjfbpejomkmaaGreat
namespace Wk

end Wk
end Go.Proofs.YtlbjfbpejomkmaaGreat
namespace Go.Proofs.YtlbjfbpejomkmaaGreat
namespace Wk

def afB (i : Nat) (af : List Int) : Bool := (List.range af.length).all fun k => decide (0 ≤ af.getD k 0) && decide (af.getD k 0 < i) && (k == 0 || decide (af.getD (k - 1) 0 < af.getD k 0))
def okT (l : List Tk) (nres : Nat) (i : Nat) : Bool :=
 decide (1 ≤ (tkAt l i).nm.size) && decide ((tkAt l i).nm.size ≤ 30) && (List.range i).all (fun k => decide ((tkAt l k).nm ≠ (tkAt l i).nm)) && decide (1 ≤ (tkAt l i).wk) && decide ((tkAt l i).wk ≤ 4398046511104) &&
  decide (0 ≤ (tkAt l i).rs) && decide ((tkAt l i).rs < nres) && lineB (tkAt l i).du && afB i (tkAt l i).af
def vldM (l : List Tk) (res : List St) : Bool := decide (l.length ≤ 24) && decide (res.length ≤ 24) && res.all VB && (List.range l.length).all (okT l res.length)
theorem vld_V {l : List Tk} {res : List St} (h : vldM l res = true) : TkV l res := by
 unfold vldM at h
 simp only [Bool.and_eq_true, List.all_eq_true, List.mem_range, decide_eq_true_eq] at h
 obtain ⟨⟨⟨h1, h2⟩, h3⟩, h4⟩ := h
 have ho : ∀ i, i < l.length → 1 ≤ (tkAt l i).wk ∧ 0 ≤ (tkAt l i).rs ∧ (tkAt l i).rs < res.length ∧ afB i (tkAt l i).af = true := fun i hi => by
  have := h4 i hi
  unfold okT at this
  simp only [Bool.and_eq_true, decide_eq_true_eq] at this
  obtain ⟨⟨⟨⟨⟨⟨⟨⟨_, _⟩, _⟩, a⟩, _⟩, b⟩, c⟩, _⟩, d⟩ := this
  exact ⟨a, b, c, d⟩
 refine ⟨fun i hi => ?_, fun i hi => ?_, fun i hi j hj => ?_, fun i hi => ?_⟩
 ·obtain ⟨_, b, c, _⟩ := ho i hi
  exact ⟨b, by unfold reOf; omega⟩
 ·have := (ho i hi).1
  omega
 ·have := (ho i hi).2.2.2
  unfold afB at this
  rw [List.all_eq_true] at this
  obtain ⟨k, hk, rfl⟩ := List.mem_iff_getElem.1 hj
  have := this k (List.mem_range.2 hk)
  rw [List.getD_eq_getElem?_getD, List.getElem?_eq_getElem hk] at this
  simp only [Option.getD_some, Bool.and_eq_true, decide_eq_true_eq] at this
  omega
 ·obtain ⟨_, b, c, _⟩ := ho i hi
  have hr : reOf l i < res.length := by unfold reOf; omega
  unfold setOf
  rw [List.getD_eq_getElem?_getD, List.getElem?_eq_getElem hr]
  exact (okS_of_VB (h3 _ (List.getElem_mem hr))).good

def hB (l : List Tk) (res : List St) (start : Int) (b : List Sp) (i : Nat) : Bool :=
 ivB (spAt b i) && decide (start ≤ (spAt b i).1) && hasS (setOf l res i) (spAt b i).1 && hasS (setOf l res i) ((spAt b i).2 - 1) && decide (potS (setOf l res i) (spAt b i).2 - potS (setOf l res i) (spAt b i).1 = (tkAt l i).wk) &&
  ((tkAt l i).af.all fun j => decide ((spAt b j.toNat).2 ≤ (spAt b i).1)) && (List.range i).all fun k => !((tkAt l k).rs == (tkAt l i).rs && (decide ((spAt b k).1 < (spAt b i).2) && decide ((spAt b i).1 < (spAt b k).2)))
def holdsM (l : List Tk) (res : List St) (start : Int) (b : List Sp) : Bool := decide (b.length = l.length) && (List.range l.length).all (hB l res start b)
def lateL (l : List Tk) (b : List Sp) : List Nat := (List.range l.length).filter fun i => decide (dueOf l i < (spAt b i).2)
def lateM (l : List Tk) (b : List Sp) : List Nat := if l.length = b.length then lateL l b else []
theorem hB_iff {l : List Tk} {res : List St} {start : Int} {b : List Sp} {i : Nat} : hB l res start b i = true ↔
  ivB (spAt b i) = true ∧ start ≤ (spAt b i).1 ∧ hasS (setOf l res i) (spAt b i).1 = true ∧ hasS (setOf l res i) ((spAt b i).2 - 1) = true ∧ potS (setOf l res i) (spAt b i).2 - potS (setOf l res i) (spAt b i).1 = (tkAt l i).wk ∧
  (∀ j ∈ (tkAt l i).af, (spAt b j.toNat).2 ≤ (spAt b i).1) ∧ ∀ k, k < i → (tkAt l k).rs = (tkAt l i).rs → (spAt b i).2 ≤ (spAt b k).1 ∨ (spAt b k).2 ≤ (spAt b i).1 := by
 unfold hB
 simp only [Bool.and_eq_true, decide_eq_true_eq, List.all_eq_true, List.mem_range, Bool.not_eq_true', Bool.and_eq_false_iff, beq_eq_false_iff_ne, decide_eq_false_iff_not]
 constructor
 ·rintro ⟨⟨⟨⟨⟨⟨a, b⟩, c⟩, d⟩, e⟩, f⟩, g⟩
  refine ⟨a, b, c, d, e, f, fun k hk hr => ?_⟩
  rcases g k hk with g | g | g
  ·exact absurd hr g
  ·omega
  ·omega
 ·rintro ⟨a, b, c, d, e, f, g⟩
  refine ⟨⟨⟨⟨⟨⟨a, b⟩, c⟩, d⟩, e⟩, f⟩, fun k hk => ?_⟩
  by_cases hr : (tkAt l k).rs = (tkAt l i).rs
  ·rcases g k hk hr with g | g
   ·exact Or.inr (Or.inl (by omega))
   ·exact Or.inr (Or.inr (by omega))
  ·exact Or.inl hr
theorem late_nil {l : List Tk} {b : List Sp} : lateL l b = [] ↔ ∀ i, i < l.length → (spAt b i).2 ≤ dueOf l i := by
 unfold lateL
 rw [List.filter_eq_nil_iff]
 constructor
 ·intro h i hi
  have := h i (List.mem_range.2 hi)
  simp at this
  exact this
 ·intro h i hi
  have := h i (List.mem_range.1 hi)
  simp
  exact this
theorem sch_of_holds {l : List Tk} {res : List St} {start : Int} {b : List Sp} (hv : TkV l res) (h : holdsM l res start b = true) (hl : lateL l b = []) : SchP l res start b := by
 unfold holdsM at h
 simp only [Bool.and_eq_true, decide_eq_true_eq, List.all_eq_true, List.mem_range] at h
 obtain ⟨h1, h2⟩ := h
 have hd := late_nil.1 hl
 have hx := fun i hi => hB_iff.1 (h2 i hi)
 refine ⟨h1, fun i hi => ?_, fun i hi j hj => (hx i hi).2.2.2.2.2.1 j hj, fun i k hi hk hne hr => ?_⟩
 ·obtain ⟨a, b', c, d, e, _⟩ := hx i hi
  have a := (ivB_iff _).1 a
  exact ⟨b', c, d, a.2.1, a.2.2, e, hd i hi⟩
 ·have r1 := (hv.rs i hi).1
  have r2 := (hv.rs k hk).1
  have hr' : (tkAt l k).rs = (tkAt l i).rs := by unfold reOf at hr; omega
  rcases Nat.lt_or_gt_of_ne hne with g | g
  ·rcases (hx i hi).2.2.2.2.2.2 k g hr' with q | q
   ·exact Or.inr q
   ·exact Or.inl q
  ·rcases (hx k hk).2.2.2.2.2.2 i g hr'.symm with q | q
   ·exact Or.inl q
   ·exact Or.inr q
end Wk
end Go.Proofs.YtlbjfbpejomkmaaGreat
namespace Go.Proofs.YtlbjfbpejomkmaaGreat
namespace Wk

def laterL (l : List Tk) (more : Int) : List Tk := l.map fun t => { t with du := min 4398046511104 (t.du + more) }
theorem later_length (l : List Tk) (more : Int) : (laterL l more).length = l.length := by unfold laterL; rw [List.length_map]
theorem later_at {l : List Tk} {more : Int} {i : Nat} (hi : i < l.length) : tkAt (laterL l more) i = { tkAt l i with du := min 4398046511104 ((tkAt l i).du + more) } := by
 unfold tkAt laterL
 rw [List.getD_eq_getElem?_getD, List.getD_eq_getElem?_getD, List.getElem?_map, List.getElem?_eq_getElem hi]
 rfl
theorem later_sch {l : List Tk} {res : List St} {start more : Int} {b : List Sp} (hm : 0 ≤ more) (h : SchP l res start b) : SchP (laterL l more) res start b := by
 refine ⟨by rw [later_length]; exact h.len, fun i hi => ?_, fun i hi j hj => ?_, fun i k hi hk hne hr => ?_⟩
 ·rw [later_length] at hi
  obtain ⟨f1, f2, f3, f4, f5, f6, f7⟩ := h.fits i hi
  unfold Fits setOf reOf dueOf
  rw [later_at hi]
  unfold setOf reOf at f2 f3 f6
  unfold dueOf at f7
  exact ⟨f1, f2, f3, f4, f5, f6, by simp only; omega⟩
 ·rw [later_length] at hi
  rw [later_at hi] at hj
  exact h.af i hi j hj
 ·rw [later_length] at hi hk
  unfold reOf at hr
  rw [later_at hi, later_at hk] at hr
  exact h.apart i k hi hk hne hr
theorem later_vld {l : List Tk} {res : List St} {more : Int} (hm : 0 ≤ more) (h : vldM l res = true) : vldM (laterL l more) res = true := by
 unfold vldM at h ⊢
 rw [later_length]
 simp only [Bool.and_eq_true, List.all_eq_true, List.mem_range, decide_eq_true_eq] at h ⊢
 refine ⟨h.1, fun i hi => ?_⟩
 have ho := h.2 i hi
 unfold okT at ho ⊢
 rw [later_at hi]
 simp only [Bool.and_eq_true, List.all_eq_true, List.mem_range, decide_eq_true_eq] at ho ⊢
 obtain ⟨⟨⟨⟨⟨⟨⟨⟨a, b⟩, c⟩, d⟩, e⟩, f⟩, g⟩, p⟩, q⟩ := ho
 refine ⟨⟨⟨⟨⟨⟨⟨⟨a, b⟩, fun k hk => ?_⟩, d⟩, e⟩, f⟩, g⟩, ?_⟩, q⟩
 ·rw [later_at (by omega)]
  exact c k hk
 ·unfold lineB at p ⊢
  simp only [Bool.and_eq_true, decide_eq_true_eq] at p ⊢
  omega
def conflM (l : List Tk) (res : List St) (start : Int) : Option (List Nat) ⊕ Unit := match findM l res start 1000 with
 | .ok _ => .inr ()
 | .out => .inl none
 | .no _ => .inl ((conflL l res start (List.range l.length) fun _ => true).map (keptL l.length))
theorem updK_self {keep : Nat → Bool} {i : Nat} {v : Bool} : updK keep i v i = v := by unfold updK; rw [if_pos rfl]
end Wk
end Go.Proofs.YtlbjfbpejomkmaaGreat
namespace Go.Proofs.YtlbjfbpejomkmaaGreat
namespace Wk

def Agree (d : List Bool) (a am : List Sp) : Prop := am.length = a.length ∧ ∀ i, dAt d i = true → spAt am i = spAt a i
theorem Agree.refl (d : List Bool) (a : List Sp) : Agree d a a := ⟨rfl, fun _ _ => rfl⟩
theorem Agree.trans {d : List Bool} {a b c : List Sp} (h : Agree d a b) (h' : Agree d b c) : Agree d a c := ⟨h'.1.trans h.1, fun i hi => (h'.2 i hi).trans (h.2 i hi)⟩
theorem Agree.set {d : List Bool} {a am : List Sp} (h : Agree d a am) {i : Nat} (s : Sp) (hi : i < a.length) (hd : i < d.length) : Agree (d.set i true) (a.set i s) (am.set i s) := by
 refine ⟨by rw [List.length_set, List.length_set]; exact h.1, fun k hk => ?_⟩
 unfold spAt
 rw [getD_setL _ _ _ _ _ (by rw [h.1]; exact hi), getD_setL _ _ _ _ _ hi]
 split
 ·rfl
 ·rename_i hne
  unfold dAt at hk
  rw [getD_setL _ _ _ _ _ hd, if_neg hne] at hk
  exact h.2 k hk
theorem Agree.back {d : List Bool} {a am : List Sp} {i : Nat} {s : Sp} (h : Agree (d.set i true) (a.set i s) am) (hd : dAt d i = false) (hl : i < d.length) (hi : i < a.length) : Agree d a am := by
 refine ⟨by have := h.1; rwa [List.length_set] at this, fun k hk => ?_⟩
 have hne : k ≠ i := fun e => by rw [e, hd] at hk; cases hk
 have := h.2 k (by unfold dAt; rw [getD_setL _ _ _ _ _ hl, if_neg hne]; exact hk)
 rw [this]
 unfold spAt
 rw [getD_setL _ _ _ _ _ hi, if_neg hne]
theorem agree_all {d : List Bool} {a am : List Sp} (h : Agree d a am) (hd : d.count false = 0) (hl : d.length = a.length) : am = a := by
 apply List.ext_getElem h.1
 intro i h1 h2
 have := h.2 i (count_none hd (by omega))
 unfold spAt at this
 rw [List.getD_eq_getElem?_getD, List.getD_eq_getElem?_getD, List.getElem?_eq_getElem h1, List.getElem?_eq_getElem h2] at this
 simpa using this
def fromU (start : Int) (e : List Int) (a : List Sp) (t : Tk) (k : Nat) : Int := (t.af.take k).foldl (fun x j => max x (a.getD j.toNat (0, 0)).2) (max start (e.getD t.rs.toNat 0))
theorem fromU_zero (start : Int) (e : List Int) (a : List Sp) (t : Tk) : fromU start e a t 0 = max start (e.getD t.rs.toNat 0) := rfl
theorem fromU_succ {start : Int} {e : List Int} {a : List Sp} {t : Tk} {k : Nat} (hk : k < t.af.length) : fromU start e a t (k + 1) = max (fromU start e a t k) (spAt a (t.af.getD k 0).toNat).2 := by
 unfold fromU
 rw [List.take_add_one, List.getElem?_eq_getElem hk, Option.toList_some, List.foldl_append]
 simp only [List.foldl_cons, List.foldl_nil]
 rw [List.getD_eq_getElem?_getD (l := t.af), List.getElem?_eq_getElem hk]
 rfl
theorem fromU_all {start : Int} {e : List Int} {a : List Sp} {t : Tk} : fromU start e a t t.af.length = fromM start e a t := by
 unfold fromU fromM
 rw [List.take_length]
theorem from_line {start : Int} {e : List Int} {a : List Sp} {t : Tk} (h1 : start ≤ 4398046511104) (h2 : e.getD t.rs.toNat 0 ≤ 4398046511104) (h3 : ∀ j ∈ t.af, (spAt a j.toNat).2 ≤ 4398046511104) : fromM start e a t ≤ 4398046511104 := from_le h1 h2 h3

/-! ## one step of the search, as the program takes it -/
theorem try_out {rec : List Bool → List Int → List Sp → Int → Rs} {l : List Tk} {res : List St} {start : Int} {d : List Bool} {e : List Int} {a : List Sp} {i : Nat} {q : List Nat} : tryM rec l res start d e a (i :: q) 0 = .out := by
 unfold tryM
 rw [if_pos rfl]
theorem try_skip {rec : List Bool → List Int → List Sp → Int → Rs} {l : List Tk} {res : List St} {start : Int} {d : List Bool} {e : List Int} {a : List Sp} {i : Nat} {q : List Nat} {left : Int} (h0 : left ≠ 0)
  (h : ∀ s, earlM (setOf l res i) (tkAt l i).wk (fromM start e a (tkAt l i)) = some s → dueOf l i < s.2) : tryM rec l res start d e a (i :: q) left = tryM rec l res start d e a q (left - 1) := by
 conv => lhs; unfold tryM
 rw [if_neg h0]
 split
 ·rfl
 ·rename_i s hs
  have := h s hs
  rw [if_pos (show (tkAt l i).du < s.2 from this)]
theorem try_go {rec : List Bool → List Int → List Sp → Int → Rs} {l : List Tk} {res : List St} {start : Int} {d : List Bool} {e : List Int} {a : List Sp} {i : Nat} {q : List Nat} {left : Int} {s : Sp} (h0 : left ≠ 0)
  (h : earlM (setOf l res i) (tkAt l i).wk (fromM start e a (tkAt l i)) = some s) (hd : ¬ dueOf l i < s.2) : tryM rec l res start d e a (i :: q) left =
   match rec (d.set i true) (e.set (reOf l i) s.2) (a.set i s) (left - 1) with
   | .no left' => tryM rec l res start d e a q left'
   | x => x := by
 conv => lhs; unfold tryM
 unfold setOf reOf at h
 rw [if_neg h0, h]
 simp only
 rw [if_neg (show ¬ (tkAt l i).du < s.2 from hd)]
 rfl
end Wk
end Go.Proofs.YtlbjfbpejomkmaaGreat
