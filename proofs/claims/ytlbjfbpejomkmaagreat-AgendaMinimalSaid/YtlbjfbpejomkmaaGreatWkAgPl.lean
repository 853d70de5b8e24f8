import Derived.Test.YtlbjfbpejomkmaaGreatWkPl
/- Agenda, plain: tasks, the search, and its order. -/
namespace Go.Proofs.YtlbjfbpejomkmaaGreat

namespace Wk
structure Tk where
 nm : ByteArray
 wk : Int
 rs : Int
 af : List Int
 du : Int
def tk0 : Tk := ⟨ByteArray.empty, 0, 0, [], 0⟩
def tkAt (l : List Tk) (i : Nat) : Tk := l.getD i tk0
def dueOf (l : List Tk) (i : Nat) : Int := (tkAt l i).du
def earlM (s : St) (n x : Int) : Option Sp :=
 if 4398046511104 < x then none else if (addM s x n).2 ≠ 0 then none else some ((addM s x 1).1 - 1, (addM s x n).1)
def freeB (l : List Tk) (d : List Bool) (i : Nat) : Bool := !(d.getD i false) && (tkAt l i).af.all fun j => d.getD j.toNat false
def insD (l : List Tk) (i : Nat) : List Nat → List Nat
 | [] => [i]
 | k :: r => if dueOf l k ≤ dueOf l i then k :: insD l i r else i :: k :: r
def readyM (l : List Tk) (d : List Bool) : List Nat := ((List.range l.length).filter (freeB l d)).foldl (fun o i => insD l i o) []
inductive Rs where
 | ok (a : List Sp)
 | out
 | no (left : Int)
def fromM (start : Int) (e : List Int) (a : List Sp) (t : Tk) : Int := t.af.foldl (fun x j => max x (a.getD j.toNat (0, 0)).2) (max start (e.getD t.rs.toNat 0))
def tryM (rec : List Bool → List Int → List Sp → Int → Rs) (l : List Tk) (res : List St) (start : Int) (d : List Bool) (e : List Int) (a : List Sp) : List Nat → Int → Rs
 | [], left => .no left
 | i :: r, left =>
  if left = 0 then .out else
  match earlM (res.getD (tkAt l i).rs.toNat noSt) (tkAt l i).wk (fromM start e a (tkAt l i)) with
  | none => tryM rec l res start d e a r (left - 1)
  | some s => if (tkAt l i).du < s.2 then tryM rec l res start d e a r (left - 1) else
   match rec (d.set i true) (e.set (tkAt l i).rs.toNat s.2) (a.set i s) (left - 1) with
   | .no left' => tryM rec l res start d e a r left'
   | x => x
def runM (l : List Tk) (res : List St) (start : Int) : Nat → List Bool → List Int → List Sp → Int → Rs
 | 0, _, _, a, left => let _ := left; .ok a
 | n + 1, d, e, a, left => tryM (runM l res start n) l res start d e a (readyM l d) left
def findM (l : List Tk) (res : List St) (start most : Int) : Rs :=
 runM l res start l.length (List.replicate l.length false) (List.replicate res.length start) (List.replicate l.length (0, 0)) most

/-! ## the order -/
def leD (l : List Tk) (i k : Nat) : Prop := dueOf l i < dueOf l k ∨ dueOf l i = dueOf l k ∧ i ≤ k
theorem insD_perm (l : List Tk) (i : Nat) : ∀ o, (insD l i o).Perm (i :: o)
 | [] => List.Perm.refl _
 | k :: r => by
  unfold insD
  split
  ·exact ((insD_perm l i r).cons k).trans (List.Perm.swap i k r)
  ·exact List.Perm.refl _
theorem insD_sorted (l : List Tk) (i : Nat) : ∀ o, o.Pairwise (leD l) → (∀ k ∈ o, k ≤ i) → (insD l i o).Pairwise (leD l)
 | [], _, _ => by simp [insD]
 | k :: r, h, hi => by
  rw [List.pairwise_cons] at h
  have hk := hi k (by simp)
  unfold insD
  split
  ·rename_i hd
   rw [List.pairwise_cons]
   refine ⟨fun x hx => ?_, insD_sorted l i r h.2 fun x hx => hi x (by simp [hx])⟩
   rcases List.mem_cons.1 ((insD_perm l i r).mem_iff.1 hx) with rfl | hx
   ·unfold leD
    omega
   ·exact h.1 x hx
  ·rename_i hd
   rw [List.pairwise_cons, List.pairwise_cons]
   refine ⟨fun x hx => ?_, h.1, h.2⟩
   rcases List.mem_cons.1 hx with rfl | hx
   ·unfold leD
    omega
   ·have := h.1 x hx
    unfold leD at *
    omega
theorem ready_fold (l : List Tk) : ∀ (q o : List Nat), q.Pairwise (· < ·) → o.Pairwise (leD l) → (∀ k ∈ o, ∀ i ∈ q, k ≤ i) →
  (q.foldl (fun o i => insD l i o) o).Pairwise (leD l) ∧ (q.foldl (fun o i => insD l i o) o).Perm (q ++ o)
 | [], o, _, h, _ => ⟨h, List.Perm.refl _⟩
 | i :: q, o, hq, h, hb => by
  rw [List.pairwise_cons] at hq
  have h1 := ready_fold l q (insD l i o) hq.2 (insD_sorted l i o h fun k hk => hb k hk i (by simp)) (fun k hk j hj => by
   rcases List.mem_cons.1 ((insD_perm l i o).mem_iff.1 hk) with rfl | hk
   ·exact Nat.le_of_lt (hq.1 j hj)
   ·exact hb k hk j (by simp [hj]))
  refine ⟨h1.1, h1.2.trans ?_⟩
  exact ((insD_perm l i o).append_left q).trans List.perm_middle
theorem ready_sorted (l : List Tk) (d : List Bool) : (readyM l d).Pairwise (leD l) ∧ (readyM l d).Perm ((List.range l.length).filter (freeB l d)) := by
 have h := ready_fold l ((List.range l.length).filter (freeB l d)) [] (List.Pairwise.filter _ List.pairwise_lt_range) List.Pairwise.nil (fun k hk => by simp at hk)
 rw [List.append_nil] at h
 exact h
theorem leD_antisymm {l : List Tk} {i k : Nat} (h : leD l i k) (h' : leD l k i) : i = k := by
 unfold leD at *
 omega
theorem ready_uniq {l : List Tk} {d : List Bool} {o : List Nat} (hp : o.Perm ((List.range l.length).filter (freeB l d))) (hs : o.Pairwise (leD l)) : o = readyM l d := by
 obtain ⟨h1, h2⟩ := ready_sorted l d
 exact List.Perm.eq_of_pairwise (fun a b _ _ h h' => leD_antisymm h h') hs h1 (hp.trans h2.symm)
theorem ready_mem {l : List Tk} {d : List Bool} {i : Nat} : i ∈ readyM l d ↔ i < l.length ∧ freeB l d i = true := by
 rw [(ready_sorted l d).2.mem_iff, List.mem_filter, List.mem_range]
end Wk
end Go.Proofs.YtlbjfbpejomkmaaGreat
namespace Go.Proofs.YtlbjfbpejomkmaaGreat
namespace Wk

theorem pot_flat {s : St} (h : GoodS s) : ∀ (k : Nat) (x : Int), (∀ z, x ≤ z → z < x + k → hasS s z = false) → potS s (x + k) = potS s x
 | 0, x, _ => by rw [show x + ((0 : Nat) : Int) = x by omega]
 | k + 1, x, hz => by
  have h1 := pot_flat h k x fun z a b => hz z a (by omega)
  have h2 := potS_steps h (x + k)
  rw [hz (x + k) (by omega) (by omega)] at h2
  rw [show x + ((k + 1 : Nat) : Int) = x + k + 1 by omega, h2, h1]
  simp [b2i]
theorem pot_same {s : St} (h : GoodS s) {x y : Int} (hxy : x ≤ y) (hz : ∀ z, x ≤ z → z < y → hasS s z = false) : potS s y = potS s x := by
 have := pot_flat h (y - x).toNat x fun z a b => hz z a (by omega)
 rwa [show x + ((y - x).toNat : Int) = y by omega] at this
theorem earl_at {s : St} (h : GoodS s) {n x f : Int} (hx : x ≤ f) (hf : f ≤ 4398046511104) (hh : hasS s f = true) (hz : ∀ z, x ≤ z → z < f → hasS s z = false) (hn : 0 < n) :
  earlM s n x = if (addM s f n).2 ≠ 0 then none else some (f, (addM s f n).1) := by
 have hp := pot_same h hx hz
 unfold earlM
 rw [if_neg (by omega)]
 by_cases hc : n ≤ potS s 4398046511104 - potS s f
 ·obtain ⟨e, a1, _⟩ := addM_yes h hf hn hc
  obtain ⟨e', b1, _⟩ := addM_yes h (t := x) (by omega) hn (by omega)
  obtain ⟨e1, c1, _⟩ := addM_yes h (t := x) (n := 1) (by omega) (by omega) (by omega)
  rw [e, e', e1]
  simp only [ne_eq, not_true_eq_false, if_false]
  rw [hp] at a1
  have u1 := AtPot.uniq h a1 b1
  have hfa : AtPot s f (potS s x + 1 - 1) := ⟨hh, by omega⟩
  have u2 := AtPot.uniq h hfa c1
  congr 1
  rw [Prod.mk.injEq]
  omega
 ·rw [addM_no h hf (by omega) (by omega), addM_no h (t := x) (by omega) (by omega) (by omega)]
  simp
theorem earl_no {s : St} (h : GoodS s) {n x : Int} (hz : ∀ z, x ≤ z → z < 4398046511104 → hasS s z = false) (hn : 0 < n) : earlM s n x = none := by
 unfold earlM
 by_cases hx : 4398046511104 < x
 ·rw [if_pos hx]
 ·rw [if_neg hx, addM_no h (by omega) (by omega) (by rw [pot_same h (by omega) hz]; omega)]
  simp
theorem next_first {h : Int → Bool} {x y : Int} (hx : h x = false) (hn : NextC h x (some y)) : x < y ∧ h y = true ∧ ∀ z, x ≤ z → z < y → h z = false := by
 obtain ⟨h1, h2, h3⟩ := hn
 have hc : ∀ (k : Nat), x + k < y → h (x + k) = false := by
  intro k
  induction k with
  | zero => intro _; simpa using hx
  | succ k ih =>
   intro hk
   have := h3 (x + ((k + 1 : Nat) : Int)) (by omega) (by omega)
   rw [show x + ((k + 1 : Nat) : Int) - 1 = x + k by omega, ih (by omega)] at this
   exact this.symm
 have hz : ∀ z, x ≤ z → z < y → h z = false := fun z a b => by
  have := hc (z - x).toNat (by omega)
  rwa [show x + ((z - x).toNat : Int) = z by omega] at this
 refine ⟨h1, ?_, hz⟩
 have := hz (y - 1) (by omega) (by omega)
 rw [this] at h2
 cases hy : h y with
 | true => rfl
 | false => exact absurd hy.symm h2
theorem next_never {h : Int → Bool} {x : Int} (hx : h x = false) (hn : NextC h x none) : ∀ z, x ≤ z → h z = false := by
 have hc : ∀ (k : Nat), h (x + k) = false := by
  intro k
  induction k with
  | zero => simpa using hx
  | succ k ih =>
   have := hn (x + ((k + 1 : Nat) : Int)) (by omega)
   rw [show x + ((k + 1 : Nat) : Int) - 1 = x + k by omega, ih] at this
   exact this.symm
 intro z a
 have := hc (z - x).toNat
 rwa [show x + ((z - x).toNat : Int) = z by omega] at this
end Wk
end Go.Proofs.YtlbjfbpejomkmaaGreat
namespace Go.Proofs.YtlbjfbpejomkmaaGreat
namespace Wk

theorem earl_spec {s : St} (h : GoodS s) {n x f t : Int} (hn : 0 < n) (he : earlM s n x = some (f, t)) :
  x ≤ f ∧ f < t ∧ t ≤ 4398046511104 ∧ hasS s f = true ∧ hasS s (t - 1) = true ∧ potS s t - potS s f = n ∧ ∀ z, x ≤ z → z < f → hasS s z = false := by
 have S := potS_steps h
 unfold earlM at he
 split at he
 ·cases he
 ·rename_i hx
  split at he
  ·cases he
  ·rename_i h0
   have hc : n ≤ potS s 4398046511104 - potS s x := by
    rcases (by omega : potS s 4398046511104 - potS s x < n ∨ n ≤ potS s 4398046511104 - potS s x) with g | g
    ·rw [addM_no h (by omega) (by omega) g] at h0
     exact absurd h0 (by simp)
    ·exact g
   obtain ⟨e, a1, a2, a3, a4⟩ := addM_yes h (t := x) (by omega) hn hc
   obtain ⟨e1, b1, b2, b3, b4⟩ := addM_yes h (t := x) (n := 1) (by omega) (by omega) (by omega)
   rw [e, e1] at he
   simp only [Option.some.injEq, Prod.mk.injEq] at he
   obtain ⟨rfl, rfl⟩ := he
   have hft : addLf s x 1 - 1 ≤ addLf s x n - 1 := S.le_of a1.1 (by rw [b1.2, a1.2]; omega)
   refine ⟨by omega, by omega, a4, b1.1, a1.1, by rw [a2, b1.2]; omega, fun z hz1 hz2 => S.const (a := x) (b := addLf s x 1 - 1) (by rw [b1.2]; omega) z hz1 hz2⟩
theorem earl_least {s : St} (h : GoodS s) {n x F T : Int} (hn : 0 < n) (hx : x ≤ F) (hF : hasS s F = true) (hT : hasS s (T - 1) = true) (hm : T ≤ 4398046511104) (hp : potS s T - potS s F = n) :
  ∃ f t, earlM s n x = some (f, t) ∧ f ≤ F ∧ t ≤ T := by
 have S := potS_steps h
 have m1 := (S.mono x F hx).1
 have m2 := (S.mono T 4398046511104 hm).1
 have hFT : F < T := S.lt_of (by omega)
 have hT1 : potS s T = potS s (T - 1) + 1 := by
  have := S (T - 1)
  rw [hT, show T - 1 + 1 = T by omega] at this
  simpa [b2i] using this
 obtain ⟨e, a1, a2, a3, a4⟩ := addM_yes h (t := x) (by omega) hn (by omega)
 obtain ⟨e1, b1, b2, b3, b4⟩ := addM_yes h (t := x) (n := 1) (by omega) (by omega) (by omega)
 refine ⟨addLf s x 1 - 1, addLf s x n, ?_, S.le_of hF (by rw [b1.2]; omega), ?_⟩
 ·unfold earlM
  rw [if_neg (by omega), e, e1]
  simp
 ·have := S.le_of (a := addLf s x n - 1) hT (by rw [a1.2]; omega)
  omega
end Wk
end Go.Proofs.YtlbjfbpejomkmaaGreat
namespace Go.Proofs.YtlbjfbpejomkmaaGreat
namespace Wk

def spAt (b : List Sp) (i : Nat) : Sp := b.getD i (0, 0)
def dAt (d : List Bool) (i : Nat) : Bool := d.getD i false
def reOf (l : List Tk) (i : Nat) : Nat := (tkAt l i).rs.toNat
def setOf (l : List Tk) (res : List St) (i : Nat) : St := res.getD (reOf l i) noSt
structure TkV (l : List Tk) (res : List St) : Prop where
 rs : ∀ i, i < l.length → 0 ≤ (tkAt l i).rs ∧ reOf l i < res.length
 wk : ∀ i, i < l.length → 0 < (tkAt l i).wk
 af : ∀ i, i < l.length → ∀ j ∈ (tkAt l i).af, 0 ≤ j ∧ j.toNat < i
 res : ∀ i, i < l.length → GoodS (setOf l res i)
def Fits (l : List Tk) (res : List St) (start : Int) (i : Nat) (s : Sp) : Prop :=
 start ≤ s.1 ∧ hasS (setOf l res i) s.1 = true ∧ hasS (setOf l res i) (s.2 - 1) = true ∧ s.1 < s.2 ∧ s.2 ≤ 4398046511104 ∧ potS (setOf l res i) s.2 - potS (setOf l res i) s.1 = (tkAt l i).wk ∧ s.2 ≤ dueOf l i
structure SchP (l : List Tk) (res : List St) (start : Int) (b : List Sp) : Prop where
 len : b.length = l.length
 fits : ∀ i, i < l.length → Fits l res start i (spAt b i)
 af : ∀ i, i < l.length → ∀ j ∈ (tkAt l i).af, (spAt b j.toNat).2 ≤ (spAt b i).1
 apart : ∀ i k, i < l.length → k < l.length → k ≠ i → reOf l k = reOf l i → (spAt b k).2 ≤ (spAt b i).1 ∨ (spAt b i).2 ≤ (spAt b k).1

theorem getD_setL {α : Type} (l : List α) (i k : Nat) (x y : α) (hi : i < l.length) : (l.set i x).getD k y = if k = i then x else l.getD k y := by
 rw [List.getD_eq_getElem?_getD, List.getD_eq_getElem?_getD, List.getElem?_set]
 by_cases h : i = k
 ·subst h
  simp [hi]
 ·rw [if_neg h, if_neg (fun e => h e.symm)]
theorem count_left {d : List Bool} {i : Nat} {n : Nat} (hi : i < d.length) (hd : dAt d i = false) (hc : d.count false = n + 1) : (d.set i true).count false = n := by
 rw [List.count_set hi]
 unfold dAt at hd
 rw [List.getD_eq_getElem?_getD, List.getElem?_eq_getElem hi] at hd
 simp at hd
 rw [hd, hc]
 simp
theorem count_none {d : List Bool} (hc : d.count false = 0) {i : Nat} (hi : i < d.length) : dAt d i = true := by
 unfold dAt
 rw [List.getD_eq_getElem?_getD, List.getElem?_eq_getElem hi]
 rw [List.count_eq_zero] at hc
 have := List.getElem_mem hi
 cases hd : d[i] with
 | true => rfl
 | false => rw [hd] at this; exact absurd this hc
theorem count_some {d : List Bool} {n : Nat} (hc : d.count false = n + 1) : ∃ i, i < d.length ∧ dAt d i = false := by
 have hm : false ∈ d := List.count_pos_iff.1 (by omega)
 obtain ⟨i, hi, he⟩ := List.mem_iff_getElem.1 hm
 exact ⟨i, hi, by unfold dAt; rw [List.getD_eq_getElem?_getD, List.getElem?_eq_getElem hi]; simpa using he⟩
theorem exists_min (f : Nat → Int) : ∀ (q : List Nat), q ≠ [] → ∃ x ∈ q, ∀ y ∈ q, f x ≤ f y
 | [], h => absurd rfl h
 | [x], _ => ⟨x, by simp, fun y hy => by simp at hy; subst hy; exact Int.le_refl _⟩
 | x :: y :: r, _ => by
  obtain ⟨m, hm, hle⟩ := exists_min f (y :: r) (by simp)
  by_cases h : f x ≤ f m
  ·refine ⟨x, by simp, fun z hz => ?_⟩
   rcases List.mem_cons.1 hz with rfl | hz
   ·exact Int.le_refl _
   ·exact Int.le_trans h (hle z hz)
  ·refine ⟨m, List.mem_cons_of_mem _ hm, fun z hz => ?_⟩
   rcases List.mem_cons.1 hz with rfl | hz
   ·omega
   ·exact hle z hz
theorem fold_max (g : Int → Int) : ∀ (q : List Int) (x : Int), x ≤ q.foldl (fun x j => max x (g j)) x ∧ (∀ j ∈ q, g j ≤ q.foldl (fun x j => max x (g j)) x) ∧ ∀ y, x ≤ y → (∀ j ∈ q, g j ≤ y) → q.foldl (fun x j => max x (g j)) x ≤ y
 | [], x => ⟨Int.le_refl _, fun j h => by simp at h, fun y h _ => h⟩
 | j :: q, x => by
  obtain ⟨h1, h2, h3⟩ := fold_max g q (max x (g j))
  refine ⟨by simp only [List.foldl_cons]; omega, fun k hk => ?_, fun y hy hq => ?_⟩
  ·rcases List.mem_cons.1 hk with rfl | hk
   ·simp only [List.foldl_cons]; omega
   ·exact h2 k hk
  ·exact h3 y (by have := hq j (by simp); omega) fun k hk => hq k (by simp [hk])
theorem from_ge {start : Int} {e : List Int} {a : List Sp} {t : Tk} : start ≤ fromM start e a t ∧ e.getD t.rs.toNat 0 ≤ fromM start e a t ∧ ∀ j ∈ t.af, (spAt a j.toNat).2 ≤ fromM start e a t := by
 obtain ⟨h1, h2, _⟩ := fold_max (fun j => (a.getD j.toNat (0, 0)).2) t.af (max start (e.getD t.rs.toNat 0))
 refine ⟨?_, ?_, h2⟩ <;> · unfold fromM; omega
theorem from_le {start y : Int} {e : List Int} {a : List Sp} {t : Tk} (h1 : start ≤ y) (h2 : e.getD t.rs.toNat 0 ≤ y) (h3 : ∀ j ∈ t.af, (spAt a j.toNat).2 ≤ y) : fromM start e a t ≤ y :=
 (fold_max (fun j => (a.getD j.toNat (0, 0)).2) t.af (max start (e.getD t.rs.toNat 0))).2.2 y (by omega) h3

/-! ## what is found holds -/
structure Snd (l : List Tk) (res : List St) (start : Int) (d : List Bool) (e : List Int) (a : List Sp) : Prop where
 dl : d.length = l.length
 el : e.length = res.length
 al : a.length = l.length
 fits : ∀ i, i < l.length → dAt d i = true → Fits l res start i (spAt a i)
 af : ∀ i, i < l.length → dAt d i = true → ∀ j ∈ (tkAt l i).af, dAt d j.toNat = true ∧ (spAt a j.toNat).2 ≤ (spAt a i).1
 apart : ∀ i k, i < l.length → k < l.length → dAt d i = true → dAt d k = true → k ≠ i → reOf l k = reOf l i → (spAt a k).2 ≤ (spAt a i).1 ∨ (spAt a i).2 ≤ (spAt a k).1
 ends : ∀ k, k < l.length → dAt d k = true → (spAt a k).2 ≤ e.getD (reOf l k) 0
theorem free_iff {l : List Tk} {d : List Bool} {i : Nat} : freeB l d i = true ↔ dAt d i = false ∧ ∀ j ∈ (tkAt l i).af, dAt d j.toNat = true := by
 unfold freeB dAt
 simp
theorem Snd.step {l : List Tk} {res : List St} {start : Int} {d : List Bool} {e : List Int} {a : List Sp} (hv : TkV l res) (h : Snd l res start d e a) {i : Nat} {s : Sp} (hi : i < l.length) (hf : freeB l d i = true)
  (he : earlM (setOf l res i) (tkAt l i).wk (fromM start e a (tkAt l i)) = some s) (hdue : ¬ dueOf l i < s.2) : Snd l res start (d.set i true) (e.set (reOf l i) s.2) (a.set i s) := by
 obtain ⟨hd, haf⟩ := free_iff.1 hf
 obtain ⟨f, t⟩ := s
 obtain ⟨g1, g2, g3, g4, g5, g6, _⟩ := earl_spec (hv.res i hi) (hv.wk i hi) he
 obtain ⟨k1, k2, k3⟩ := from_ge (start := start) (e := e) (a := a) (t := tkAt l i)
 have hD : ∀ k, dAt (d.set i true) k = if k = i then true else dAt d k := fun k => getD_setL d i k true false (by rw [h.dl]; exact hi)
 have hA : ∀ k, spAt (a.set i (f, t)) k = if k = i then (f, t) else spAt a k := fun k => getD_setL a i k _ _ (by rw [h.al]; exact hi)
 have hE : ∀ r, (e.set (reOf l i) t).getD r 0 = if r = reOf l i then t else e.getD r 0 := fun r => getD_setL e (reOf l i) r _ _ (by rw [h.el]; exact (hv.rs i hi).2)
 have hne : ∀ j ∈ (tkAt l i).af, j.toNat ≠ i := fun j hj => by have := (hv.af i hi j hj).2; omega
 simp only at hdue
 refine ⟨by rw [List.length_set]; exact h.dl, by rw [List.length_set]; exact h.el, by rw [List.length_set]; exact h.al, ?_, ?_, ?_, ?_⟩
 ·intro k hk hdk
  rw [hA]
  by_cases hki : k = i
  ·subst hki
   rw [if_pos rfl]
   exact ⟨by simp only; omega, g4, g5, g2, g3, g6, by simp only; omega⟩
  ·rw [if_neg hki]
   rw [hD, if_neg hki] at hdk
   exact h.fits k hk hdk
 ·intro k hk hdk j hj
  rw [hD, hA, hA]
  by_cases hki : k = i
  ·subst hki
   rw [if_neg (hne j hj), if_neg (hne j hj), if_pos rfl]
   exact ⟨haf j hj, by simp only; have := k3 j hj; omega⟩
  ·rw [hD, if_neg hki] at hdk
   have := h.af k hk hdk j hj
   have hji : j.toNat ≠ i := fun e => by rw [e, hd] at this; exact absurd this.1 (by simp)
   rw [if_neg hji, if_neg hji, if_neg hki]
   exact this
 ·intro k m hk hm hdk hdm hmk hr
  rw [hA, hA]
  by_cases hki : k = i
  ·subst hki
   rw [if_neg hmk, if_pos rfl]
   rw [hD, if_neg hmk] at hdm
   left
   have := h.ends m hm hdm
   rw [hr] at this
   simp only
   unfold reOf at this
   omega
  ·rw [if_neg hki]
   by_cases hmi : m = i
   ·subst hmi
    rw [if_pos rfl]
    rw [hD, if_neg hki] at hdk
    right
    have := h.ends k hk hdk
    rw [← hr] at this
    simp only
    unfold reOf at this
    omega
   ·rw [if_neg hmi]
    rw [hD, if_neg hki] at hdk
    rw [hD, if_neg hmi] at hdm
    exact h.apart k m hk hm hdk hdm hmk hr
 ·intro k hk hdk
  rw [hA, hE]
  by_cases hki : k = i
  ·subst hki
   rw [if_pos rfl, if_pos rfl]
   exact Int.le_refl _
  ·rw [if_neg hki]
   rw [hD, if_neg hki] at hdk
   have := h.ends k hk hdk
   by_cases hr : reOf l k = reOf l i
   ·rw [if_pos hr]
    rw [hr] at this
    unfold reOf at this
    omega
   ·rw [if_neg hr]
    exact this
theorem try_ok {rec : List Bool → List Int → List Sp → Int → Rs} {l : List Tk} {res : List St} {start : Int} {d : List Bool} {e : List Int} {a a' : List Sp} : ∀ {q : List Nat} {left : Int}, tryM rec l res start d e a q left = .ok a' →
  ∃ i ∈ q, ∃ s left', earlM (setOf l res i) (tkAt l i).wk (fromM start e a (tkAt l i)) = some s ∧ ¬ dueOf l i < s.2 ∧ rec (d.set i true) (e.set (reOf l i) s.2) (a.set i s) left' = .ok a'
 | [], left, h => by unfold tryM at h; cases h
 | i :: q, left, h => by
  unfold tryM at h
  split at h
  ·cases h
  ·split at h
   ·obtain ⟨k, hk, r⟩ := try_ok h
    exact ⟨k, List.mem_cons_of_mem _ hk, r⟩
   ·rename_i s hs
    split at h
    ·obtain ⟨k, hk, r⟩ := try_ok h
     exact ⟨k, List.mem_cons_of_mem _ hk, r⟩
    ·rename_i hdue
     split at h
     ·obtain ⟨k, hk, r⟩ := try_ok h
      exact ⟨k, List.mem_cons_of_mem _ hk, r⟩
     ·exact ⟨i, by simp, s, _, hs, hdue, h⟩
theorem sound {l : List Tk} {res : List St} {start : Int} (hv : TkV l res) : ∀ (n : Nat) {d : List Bool} {e : List Int} {a a' : List Sp} {left : Int}, Snd l res start d e a → d.count false = n → runM l res start n d e a left = .ok a' → SchP l res start a'
 | 0, d, e, a, a', left, h, hc, hr => by
  have hr : Rs.ok a = .ok a' := hr
  injection hr with hr
  subst hr
  have hall : ∀ i, i < l.length → dAt d i = true := fun i hi => count_none hc (by rw [h.dl]; exact hi)
  exact ⟨h.al, fun i hi => h.fits i hi (hall i hi), fun i hi j hj => (h.af i hi (hall i hi) j hj).2, fun i k hi hk => h.apart i k hi hk (hall i hi) (hall k hk)⟩
 | n + 1, d, e, a, a', left, h, hc, hr => by
  obtain ⟨i, hi, s, left', h1, h2, h3⟩ := try_ok (show tryM (runM l res start n) l res start d e a (readyM l d) left = .ok a' from hr)
  obtain ⟨hil, hif⟩ := ready_mem.1 hi
  exact sound hv n (h.step hv hil hif h1 h2) (count_left (by rw [h.dl]; exact hil) (free_iff.1 hif).1 hc) h3

/-! ## no schedule is missed -/
structure Dom (l : List Tk) (res : List St) (start : Int) (b : List Sp) (d : List Bool) (e : List Int) (a : List Sp) : Prop where
 dl : d.length = l.length
 el : e.length = res.length
 al : a.length = l.length
 ord : ∀ i k, i < l.length → k < l.length → dAt d i = true → dAt d k = false → (spAt b i).1 ≤ (spAt b k).1
 dom : ∀ i, i < l.length → dAt d i = true → (spAt a i).2 ≤ (spAt b i).2
 ends : ∀ r, r < res.length → e.getD r 0 ≤ start ∨ ∃ k, k < l.length ∧ dAt d k = true ∧ reOf l k = r ∧ e.getD r 0 = (spAt a k).2
theorem try_ne {rec : List Bool → List Int → List Sp → Int → Rs} {l : List Tk} {res : List St} {start : Int} {d : List Bool} {e : List Int} {a : List Sp} {i : Nat} {s : Sp}
  (he : earlM (setOf l res i) (tkAt l i).wk (fromM start e a (tkAt l i)) = some s) (hdue : ¬ dueOf l i < s.2)
  (hr : ∀ left left', rec (d.set i true) (e.set (reOf l i) s.2) (a.set i s) left ≠ .no left') : ∀ {q : List Nat} {left left' : Int}, i ∈ q → tryM rec l res start d e a q left ≠ .no left'
 | [], left, left', h => by simp at h
 | k :: q, left, left', h => by
  unfold tryM
  split
  ·intro hh; cases hh
  ·by_cases hk : k = i
   ·subst hk
    unfold setOf reOf at he
    rw [he]
    simp only
    rw [if_neg (show ¬ (tkAt l k).du < s.2 from hdue)]
    split
    ·rename_i hh
     exact absurd hh (hr _ _)
    ·rename_i hx
     intro hh
     exact hx _ hh
   ·have hq : i ∈ q := by
     rcases List.mem_cons.1 h with g | g
     ·exact absurd g.symm hk
     ·exact g
    split
    ·exact try_ne he hdue hr hq
    ·split
     ·exact try_ne he hdue hr hq
     ·split
      ·exact try_ne he hdue hr hq
      ·rename_i hx
       intro hh
       exact hx _ hh
theorem complete {l : List Tk} {res : List St} {start : Int} {b : List Sp} (hv : TkV l res) (hb : SchP l res start b) : ∀ (n : Nat) {d : List Bool} {e : List Int} {a : List Sp} {left left' : Int}, Dom l res start b d e a → d.count false = n → runM l res start n d e a left ≠ .no left'
 | 0, d, e, a, left, left', _, _ => by intro hh; cases hh
 | n + 1, d, e, a, left, left', h, hc => by
  obtain ⟨i0, hi0, hd0⟩ := count_some hc
  obtain ⟨i, him, hmin⟩ := exists_min (fun k => (spAt b k).1) ((List.range l.length).filter fun k => !dAt d k) (by
   intro hh
   have : i0 ∈ (List.range l.length).filter fun k => !dAt d k := List.mem_filter.2 ⟨List.mem_range.2 (by rw [← h.dl]; exact hi0), by rw [hd0]; rfl⟩
   rw [hh] at this
   simp at this)
  obtain ⟨hir, hid⟩ := List.mem_filter.1 him
  have hil : i < l.length := List.mem_range.1 hir
  have hid : dAt d i = false := by simpa using hid
  have hmin' : ∀ k, k < l.length → dAt d k = false → (spAt b i).1 ≤ (spAt b k).1 := fun k hk hd => hmin k (List.mem_filter.2 ⟨List.mem_range.2 hk, by rw [hd]; rfl⟩)
  have hfree : freeB l d i = true := free_iff.2 ⟨hid, fun j hj => by
   cases hdj : dAt d j.toNat with
   | true => rfl
   | false =>
    have hjl : j.toNat < l.length := by have := (hv.af i hil j hj).2; omega
    have h1 := hmin' j.toNat hjl hdj
    have h2 := hb.af i hil j hj
    have h3 := (hb.fits j.toNat hjl).2.2.2.1
    omega⟩
  obtain ⟨f1, f2, f3, f4, f5, f6, f7⟩ := hb.fits i hil
  have hx : fromM start e a (tkAt l i) ≤ (spAt b i).1 := by
   refine from_le f1 ?_ fun j hj => ?_
   ·rcases h.ends (reOf l i) (hv.rs i hil).2 with g | ⟨k, hk, hdk, hrk, hek⟩
    ·have : e.getD (tkAt l i).rs.toNat 0 ≤ start := g
     omega
    ·have hki : k ≠ i := fun e => by rw [e, hid] at hdk; cases hdk
     have g1 := h.dom k hk hdk
     have g2 := h.ord k i hk hil hdk hid
     have g3 := hb.apart i k hil hk hki hrk
     have : e.getD (tkAt l i).rs.toNat 0 = (spAt a k).2 := hek
     omega
   ·have hjl := hv.af i hil j hj
    have hdj := (free_iff.1 hfree).2 j hj
    have g1 := h.dom j.toNat (by omega) hdj
    have g2 := hb.af i hil j hj
    omega
  obtain ⟨f, t, he, hf, ht⟩ := earl_least (hv.res i hil) (hv.wk i hil) hx f2 f3 f5 f6
  have hD : ∀ k, dAt (d.set i true) k = if k = i then true else dAt d k := fun k => getD_setL d i k true false (by rw [h.dl]; exact hil)
  have hA : ∀ k, spAt (a.set i (f, t)) k = if k = i then (f, t) else spAt a k := fun k => getD_setL a i k _ _ (by rw [h.al]; exact hil)
  have hE : ∀ r, (e.set (reOf l i) t).getD r 0 = if r = reOf l i then t else e.getD r 0 := fun r => getD_setL e (reOf l i) r _ _ (by rw [h.el]; exact (hv.rs i hil).2)
  refine try_ne (i := i) (s := (f, t)) he (by simp only; omega) (fun lf lf' => complete hv hb n ?_ (count_left (by rw [h.dl]; exact hil) hid hc)) (ready_mem.2 ⟨hil, hfree⟩)
  refine ⟨by rw [List.length_set]; exact h.dl, by rw [List.length_set]; exact h.el, by rw [List.length_set]; exact h.al, ?_, ?_, ?_⟩
  ·intro p k hp hk hdp hdk
   have hki : k ≠ i := fun e => by rw [hD, if_pos e] at hdk; cases hdk
   rw [hD, if_neg hki] at hdk
   by_cases hpi : p = i
   ·subst hpi
    exact hmin' k hk hdk
   ·rw [hD, if_neg hpi] at hdp
    exact h.ord p k hp hk hdp hdk
  ·intro k hk hdk
   rw [hA]
   by_cases hki : k = i
   ·subst hki
    rw [if_pos rfl]
    exact ht
   ·rw [if_neg hki]
    rw [hD, if_neg hki] at hdk
    exact h.dom k hk hdk
  ·intro r hr
   rw [hE]
   by_cases hri : r = reOf l i
   ·rw [if_pos hri]
    right
    exact ⟨i, hil, by rw [hD, if_pos rfl], hri.symm, by rw [hA, if_pos rfl]⟩
   ·rw [if_neg hri]
    rcases h.ends r hr with g | ⟨k, hk, hdk, hrk, hek⟩
    ·exact Or.inl g
    ·have hki : k ≠ i := fun e => by rw [e] at hrk; exact hri hrk.symm
     exact Or.inr ⟨k, hk, by rw [hD, if_neg hki]; exact hdk, hrk, by rw [hA, if_neg hki]; exact hek⟩
end Wk
end Go.Proofs.YtlbjfbpejomkmaaGreat
namespace Go.Proofs.YtlbjfbpejomkmaaGreat
namespace Wk

theorem map_getD (d : List Bool) : (List.range d.length).map (fun i => dAt d i) = d := by
 apply List.ext_getElem
 ·simp
 ·intro i h1 h2
  simp [dAt, List.getD_eq_getElem?_getD, List.getElem?_eq_getElem h2]
theorem count_filter (d : List Bool) : ((List.range d.length).filter fun i => !dAt d i).length = d.count false := by
 have h : d.count false = ((List.range d.length).map (fun i => dAt d i)).count false := by rw [map_getD]
 rw [h, List.count, List.countP_map, List.countP_eq_length_filter]
 congr 1
 refine List.filter_congr fun i _ => ?_
 simp only [Function.comp]
 cases dAt d i <;> rfl
theorem ready_length {l : List Tk} {d : List Bool} (hl : d.length = l.length) : (readyM l d).length ≤ d.count false := by
 rw [(ready_sorted l d).2.length_eq, ← count_filter, hl]
 refine (List.Sublist.length_le (?_ : List.Sublist _ _))
 have : (List.range l.length).filter (freeB l d) = ((List.range l.length).filter fun i => !dAt d i).filter (freeB l d) := by
  rw [List.filter_filter]
  refine List.filter_congr fun i _ => ?_
  cases hf : freeB l d i with
  | false => simp
  | true => rw [(free_iff.1 hf).1]; rfl
 rw [this]
 exact List.filter_sublist
def stepsN : Nat → Int
 | 0 => 0
 | n + 1 => (n + 1) * (1 + stepsN n)
theorem stepsN_nonneg : ∀ n, 0 ≤ stepsN n
 | 0 => Int.le_refl _
 | n + 1 => by
  have := stepsN_nonneg n
  unfold stepsN
  exact Int.mul_nonneg (by omega) (by omega)
theorem try_steps {rec : List Bool → List Int → List Sp → Int → Rs} {l : List Tk} {res : List St} {start : Int} {d : List Bool} {e : List Int} {a : List Sp} {N : Int} (hN : 0 ≤ N) : ∀ (q : List Nat) (left : Int),  (∀ i ∈ q, ∀ s left, N ≤ left → rec (d.set i true) (e.set (reOf l i) s.2) (a.set i s) left ≠ .out ∧ ∀ left', rec (d.set i true) (e.set (reOf l i) s.2) (a.set i s) left = .no left' → left - N ≤ left') →
  (q.length : Int) * (1 + N) ≤ left → tryM rec l res start d e a q left ≠ .out ∧ ∀ left', tryM rec l res start d e a q left = .no left' → left - (q.length : Int) * (1 + N) ≤ left'
 | [], left, _, _ => by
  unfold tryM
  exact ⟨(by intro hh; cases hh), fun left' hh => (by injection hh with hh; simp; omega)⟩
 | i :: q, left, h, hl => by
  have hlen : (((i :: q).length : Nat) : Int) * (1 + N) = (q.length : Int) * (1 + N) + (1 + N) := by
   rw [List.length_cons]
   push_cast
   rw [Int.add_mul, Int.one_mul]
  rw [hlen] at hl ⊢
  have hq0 : 0 ≤ (q.length : Int) * (1 + N) := Int.mul_nonneg (by omega) (by omega)
  have ih : ∀ lf, (q.length : Int) * (1 + N) ≤ lf → left - (1 + N) ≤ lf → tryM rec l res start d e a q lf ≠ .out ∧ ∀ left', tryM rec l res start d e a q lf = .no left' → left - ((q.length : Int) * (1 + N) + (1 + N)) ≤ left' := fun lf h1 h2 => by
   obtain ⟨g1, g2⟩ := try_steps hN q lf (fun k hk => h k (List.mem_cons_of_mem _ hk)) h1
   exact ⟨g1, fun left' hh => by have := g2 left' hh; omega⟩
  unfold tryM
  rw [if_neg (by omega)]
  split
  ·exact ih (left - 1) (by omega) (by omega)
  ·rename_i s _
   split
   ·exact ih (left - 1) (by omega) (by omega)
   ·obtain ⟨g1, g2⟩ := h i (by simp) s (left - 1) (by omega)
    split
    ·rename_i lf hlf
     have := g2 lf hlf
     exact ih lf (by omega) (by omega)
    ·rename_i hx
     exact ⟨g1, fun left' hh => absurd hh (hx left')⟩
theorem run_steps {l : List Tk} {res : List St} {start : Int} : ∀ (n : Nat) {d : List Bool} {e : List Int} {a : List Sp} {left : Int}, d.length = l.length → d.count false = n → stepsN n ≤ left →
  runM l res start n d e a left ≠ .out ∧ ∀ left', runM l res start n d e a left = .no left' → left - stepsN n ≤ left'
 | 0, d, e, a, left, _, _, _ => ⟨(by intro hh; cases hh), fun left' hh => (by cases hh)⟩
 | n + 1, d, e, a, left, hl, hc, hs => by
  have hq := ready_length hl
  rw [hc] at hq
  have hN := stepsN_nonneg n
  have hle : ((readyM l d).length : Int) * (1 + stepsN n) ≤ stepsN (n + 1) := by
   rw [show stepsN (n + 1) = ((n : Int) + 1) * (1 + stepsN n) from rfl]
   exact Int.mul_le_mul_of_nonneg_right (by omega) (by omega)
  obtain ⟨g1, g2⟩ := try_steps (rec := runM l res start n) (l := l) (res := res) (start := start) (d := d) (e := e) (a := a) hN (readyM l d) left (fun i hi s lf hlf => by
   obtain ⟨hil, hif⟩ := ready_mem.1 hi
   exact run_steps n (by rw [List.length_set]; exact hl) (count_left (by rw [hl]; exact hil) (free_iff.1 hif).1 hc) hlf) (by omega)
  exact ⟨g1, fun left' hh => by have := g2 left' hh; omega⟩
theorem rep_count (n : Nat) : (List.replicate n false).count false = n := by simp
theorem rep_at (n i : Nat) : dAt (List.replicate n false) i = false := by
 unfold dAt
 rw [List.getD_eq_getElem?_getD, List.getElem?_replicate]
 split <;> rfl
theorem find_ok {l : List Tk} {res : List St} {start most : Int} {a : List Sp} (hv : TkV l res) (h : findM l res start most = .ok a) : SchP l res start a := by
 refine sound hv l.length ⟨by simp, by simp, by simp, ?_, ?_, ?_, ?_⟩ (rep_count _) h
 ·intro i _ hd; rw [rep_at] at hd; cases hd
 ·intro i _ hd; rw [rep_at] at hd; cases hd
 ·intro i k _ _ hd; rw [rep_at] at hd; cases hd
 ·intro i _ hd; rw [rep_at] at hd; cases hd
theorem find_no {l : List Tk} {res : List St} {start most left : Int} {b : List Sp} (hv : TkV l res) (hb : SchP l res start b) : findM l res start most ≠ .no left := by
 refine complete hv hb l.length ⟨by simp, by simp, by simp, ?_, ?_, ?_⟩ (rep_count _)
 ·intro i k _ _ hd; rw [rep_at] at hd; cases hd
 ·intro i _ hd; rw [rep_at] at hd; cases hd
 ·intro r hr
  left
  rw [List.getD_eq_getElem?_getD, List.getElem?_replicate, if_pos hr]
  exact Int.le_refl _
theorem find_steps {l : List Tk} {res : List St} {start most : Int} (hl : l.length ≤ 5) (hm : 325 ≤ most) : findM l res start most ≠ .out := by
 refine (run_steps l.length (by simp) (rep_count _) ?_).1
 obtain h | h | h | h | h | h : l.length = 0 ∨ l.length = 1 ∨ l.length = 2 ∨ l.length = 3 ∨ l.length = 4 ∨ l.length = 5 := by omega
 all_goals
  rw [h]
  simp only [stepsN]
  omega
end Wk
end Go.Proofs.YtlbjfbpejomkmaaGreat
namespace Go.Proofs.YtlbjfbpejomkmaaGreat
namespace Wk

theorem insD_at (l : List Tk) (i : Nat) : ∀ (o : List Nat) (k : Nat), k ≤ o.length → (∀ j, j < k → dueOf l (o.getD j 0) ≤ dueOf l i) → (k < o.length → dueOf l i < dueOf l (o.getD k 0)) → insD l i o = o.take k ++ i :: o.drop k
 | [], k, hk, _, _ => by simp at hk; subst hk; rfl
 | x :: o, 0, _, _, h2 => by
  have := h2 (by simp)
  simp at this
  unfold insD
  rw [if_neg (by omega)]
  rfl
 | x :: o, k + 1, hk, h1, h2 => by
  have h0 := h1 0 (by omega)
  simp at h0
  unfold insD
  rw [if_pos h0, insD_at l i o k (by simpa using hk) (fun j hj => by have := h1 (j + 1) (by omega); simpa using this) (fun hk' => by have := h2 (by simpa using hk'); simpa using this)]
  rfl
def readyU (l : List Tk) (d : List Bool) (n : Nat) : List Nat := ((List.range n).filter (freeB l d)).foldl (fun o i => insD l i o) []
theorem readyU_all (l : List Tk) (d : List Bool) : readyU l d l.length = readyM l d := rfl
theorem readyU_succ (l : List Tk) (d : List Bool) (n : Nat) : readyU l d (n + 1) = if freeB l d n = true then insD l n (readyU l d n) else readyU l d n := by
 unfold readyU
 rw [List.range_succ, List.filter_append, List.foldl_append]
 by_cases h : freeB l d n = true
 ·rw [if_pos h, List.filter_cons_of_pos h]
  rfl
 ·rw [if_neg h, List.filter_cons_of_neg h]
  rfl
theorem readyU_sorted (l : List Tk) (d : List Bool) (n : Nat) : (readyU l d n).Pairwise (leD l) ∧ (readyU l d n).Perm ((List.range n).filter (freeB l d)) := by
 have h := ready_fold l ((List.range n).filter (freeB l d)) [] (List.Pairwise.filter _ List.pairwise_lt_range) List.Pairwise.nil (fun k hk => by simp at hk)
 rw [List.append_nil] at h
 exact h
theorem readyU_le {l : List Tk} {d : List Bool} {n i j : Nat} (hij : i ≤ j) (hj : j < (readyU l d n).length) : dueOf l ((readyU l d n).getD i 0) ≤ dueOf l ((readyU l d n).getD j 0) := by
 rcases Nat.lt_or_eq_of_le hij with h | rfl
 ·have := List.pairwise_iff_getElem.1 (readyU_sorted l d n).1 i j (by omega) hj h
  rw [List.getD_eq_getElem?_getD, List.getD_eq_getElem?_getD, List.getElem?_eq_getElem hj, List.getElem?_eq_getElem (by omega)]
  simp only [Option.getD_some]
  unfold leD at this
  omega
 ·exact Int.le_refl _

def fromR (l : List Tk) (a : List Sp) (i : Nat) (dn : List Nat) (x : Int) : Int :=
 dn.foldl (fun (x : Int) (k : Nat) => if ((tkAt l i).af.contains (k : Int) || reOf l k == reOf l i) && decide (x < (spAt a k).2) then (spAt a k).2 else x) x
theorem fromR_bd (l : List Tk) (a : List Sp) (i : Nat) : ∀ (dn : List Nat) (x : Int), x ≤ fromR l a i dn x ∧
  (∀ k ∈ dn, ((tkAt l i).af.contains (k : Int) = true ∨ reOf l k = reOf l i) → (spAt a k).2 ≤ fromR l a i dn x) ∧
  (fromR l a i dn x = x ∨ ∃ k ∈ dn, ((tkAt l i).af.contains (k : Int) = true ∨ reOf l k = reOf l i) ∧ fromR l a i dn x = (spAt a k).2)
 | [], x => ⟨Int.le_refl _, fun k h => by simp at h, Or.inl rfl⟩
 | m :: dn, x => by
  have hu : fromR l a i (m :: dn) x = fromR l a i dn (if ((tkAt l i).af.contains (m : Int) || reOf l m == reOf l i) && decide (x < (spAt a m).2) then (spAt a m).2 else x) := rfl
  rw [hu]
  by_cases hc : (((tkAt l i).af.contains (m : Int) || reOf l m == reOf l i) && decide (x < (spAt a m).2)) = true
  ·rw [if_pos hc]
   obtain ⟨h1, h2, h3⟩ := fromR_bd l a i dn (spAt a m).2
   rw [Bool.and_eq_true, Bool.or_eq_true, decide_eq_true_iff, beq_iff_eq] at hc
   refine ⟨by omega, fun k hk hr => ?_, ?_⟩
   ·rcases List.mem_cons.1 hk with rfl | hk
    ·exact h1
    ·exact h2 k hk hr
   ·right
    rcases h3 with h3 | ⟨k, hk, hr, he⟩
    ·exact ⟨m, by simp, hc.1, h3⟩
    ·exact ⟨k, List.mem_cons_of_mem _ hk, hr, he⟩
  ·rw [if_neg hc]
   obtain ⟨h1, h2, h3⟩ := fromR_bd l a i dn x
   rw [Bool.and_eq_true, Bool.or_eq_true, decide_eq_true_iff, beq_iff_eq] at hc
   refine ⟨h1, fun k hk hr => ?_, ?_⟩
   ·rcases List.mem_cons.1 hk with rfl | hk
    ·have : ¬ x < (spAt a k).2 := fun g => hc ⟨hr, g⟩
     omega
    ·exact h2 k hk hr
   ·rcases h3 with h3 | ⟨k, hk, hr, he⟩
    ·exact Or.inl h3
    ·exact Or.inr ⟨k, List.mem_cons_of_mem _ hk, hr, he⟩
structure EndsR (l : List Tk) (res : List St) (start : Int) (dn : List Nat) (d : List Bool) (e : List Int) (a : List Sp) : Prop where
 dl : d.length = l.length
 el : e.length = res.length
 al : a.length = l.length
 mem : ∀ k, dAt d k = true ↔ k ∈ dn
 lt : ∀ k ∈ dn, k < l.length
 lo : ∀ r, r < res.length → start ≤ e.getD r 0
 hi : ∀ k ∈ dn, (spAt a k).2 ≤ e.getD (reOf l k) 0
 ex : ∀ r, r < res.length → e.getD r 0 = start ∨ ∃ k ∈ dn, reOf l k = r ∧ e.getD r 0 = (spAt a k).2
theorem EndsR.init (l : List Tk) (res : List St) (start : Int) : EndsR l res start [] (List.replicate l.length false) (List.replicate res.length start) (List.replicate l.length (0, 0)) := by
 have hs : ∀ r, r < res.length → (List.replicate res.length start).getD r 0 = start := fun r hr => by
  rw [List.getD_eq_getElem?_getD, List.getElem?_replicate, if_pos hr]; rfl
 refine ⟨by simp, by simp, by simp, fun k => by rw [rep_at]; simp, fun k h => by simp at h, fun r hr => by rw [hs r hr]; exact Int.le_refl _, fun k h => by simp at h, fun r hr => Or.inl (hs r hr)⟩
theorem from_eq {l : List Tk} {res : List St} {start : Int} {dn : List Nat} {d : List Bool} {e : List Int} {a : List Sp} (hv : TkV l res) (h : EndsR l res start dn d e a) {i : Nat} (hi : i < l.length) (hf : freeB l d i = true) :
  fromR l a i dn start = fromM start e a (tkAt l i) := by
 obtain ⟨g1, g2, g3⟩ := fromR_bd l a i dn start
 obtain ⟨k1, k2, k3⟩ := from_ge (start := start) (e := e) (a := a) (t := tkAt l i)
 have hr := (hv.rs i hi).2
 refine Int.le_antisymm ?_ ?_
 ·rcases g3 with g | ⟨k, hk, hc, he⟩
  ·omega
  ·rw [he]
   rcases hc with hc | hc
   ·have := k3 k (List.contains_iff_mem.1 hc)
    simpa using this
   ·have := h.hi k hk
    rw [hc] at this
    unfold reOf at this
    omega
 ·refine from_le g1 ?_ fun j hj => ?_
  ·rcases h.ex (reOf l i) hr with q | ⟨k, hk, hrk, he⟩
   ·have : e.getD (tkAt l i).rs.toNat 0 = start := q
    omega
   ·have := g2 k hk (Or.inr hrk)
    have : e.getD (tkAt l i).rs.toNat 0 = (spAt a k).2 := he
    omega
  ·have hj0 := (hv.af i hi j hj).1
   have hm := (h.mem j.toNat).1 ((free_iff.1 hf).2 j hj)
   exact g2 j.toNat hm (Or.inl (List.contains_iff_mem.2 (by rw [Int.toNat_of_nonneg hj0]; exact hj)))
theorem EndsR.step {l : List Tk} {res : List St} {start : Int} {dn : List Nat} {d : List Bool} {e : List Int} {a : List Sp} (hv : TkV l res) (h : EndsR l res start dn d e a) {i : Nat} (hi : i < l.length) (hf : freeB l d i = true)
  {f t : Int} (he : earlM (setOf l res i) (tkAt l i).wk (fromM start e a (tkAt l i)) = some (f, t)) : EndsR l res start (dn ++ [i]) (d.set i true) (e.set (reOf l i) t) (a.set i (f, t)) := by
 obtain ⟨hd, _⟩ := free_iff.1 hf
 obtain ⟨g1, g2, _⟩ := earl_spec (hv.res i hi) (hv.wk i hi) he
 obtain ⟨k1, k2, _⟩ := from_ge (start := start) (e := e) (a := a) (t := tkAt l i)
 have k2 : e.getD (reOf l i) 0 ≤ fromM start e a (tkAt l i) := k2
 have hr := (hv.rs i hi).2
 have hD : ∀ k, dAt (d.set i true) k = if k = i then true else dAt d k := fun k => getD_setL d i k true false (by rw [h.dl]; exact hi)
 have hA : ∀ k, spAt (a.set i (f, t)) k = if k = i then (f, t) else spAt a k := fun k => getD_setL a i k _ _ (by rw [h.al]; exact hi)
 have hE : ∀ r, (e.set (reOf l i) t).getD r 0 = if r = reOf l i then t else e.getD r 0 := fun r => getD_setL e (reOf l i) r _ _ (by rw [h.el]; exact hr)
 have hni : i ∉ dn := fun hm => by rw [(h.mem i).2 hm] at hd; cases hd
 refine ⟨by rw [List.length_set]; exact h.dl, by rw [List.length_set]; exact h.el, by rw [List.length_set]; exact h.al, fun k => ?_, fun k hk => ?_, fun r hr' => ?_, fun k hk => ?_, fun r hr' => ?_⟩
 ·rw [hD, List.mem_append, List.mem_singleton]
  by_cases hk : k = i
  ·subst hk; simp
  ·rw [if_neg hk, h.mem]; simp [hk]
 ·rcases List.mem_append.1 hk with hk | hk
  ·exact h.lt k hk
  ·rw [List.mem_singleton.1 hk]; exact hi
 ·rw [hE]
  split
  ·omega
  ·exact h.lo r hr'
 ·rw [hA, hE]
  rcases List.mem_append.1 hk with hk | hk
  ·have hki : k ≠ i := fun e => hni (e ▸ hk)
   rw [if_neg hki]
   have := h.hi k hk
   split
   ·rename_i hre
    rw [hre] at this
    omega
   ·exact this
  ·obtain rfl := List.mem_singleton.1 hk
   rw [if_pos rfl, if_pos rfl]
   exact Int.le_refl _
 ·rw [hE]
  by_cases hre : r = reOf l i
  ·rw [if_pos hre]
   exact Or.inr ⟨i, by simp, hre.symm, by rw [hA, if_pos rfl]⟩
  ·rw [if_neg hre]
   rcases h.ex r hr' with q | ⟨k, hk, hrk, hek⟩
   ·exact Or.inl q
   ·have hki : k ≠ i := fun e => hni (e ▸ hk)
    exact Or.inr ⟨k, List.mem_append_left _ hk, hrk, by rw [hA, if_neg hki]; exact hek⟩
end Wk
end Go.Proofs.YtlbjfbpejomkmaaGreat
namespace Go.Proofs.YtlbjfbpejomkmaaGreat
namespace Wk

def keptL (n : Nat) (keep : Nat → Bool) : List Nat := (List.range n).filter keep
def numK (keep : Nat → Bool) (j : Nat) : Nat := (keptL j keep).length
theorem kept_succ (n : Nat) (keep : Nat → Bool) : keptL (n + 1) keep = keptL n keep ++ if keep n = true then [n] else [] := by
 unfold keptL
 rw [List.range_succ, List.filter_append]
 cases hk : keep n <;> simp [hk]
theorem kept_mem {n i : Nat} {keep : Nat → Bool} : i ∈ keptL n keep ↔ i < n ∧ keep i = true := by
 unfold keptL
 rw [List.mem_filter, List.mem_range]
theorem kept_get {keep : Nat → Bool} {i : Nat} (hk : keep i = true) : ∀ (n : Nat), i < n → (keptL n keep)[numK keep i]? = some i
 | 0, h => by omega
 | n + 1, h => by
  rw [kept_succ]
  rcases (by omega : i < n ∨ i = n) with g | rfl
  ·have ih := kept_get hk n g
   have hlt := (List.getElem?_eq_some_iff.1 ih).1
   rw [List.getElem?_append_left hlt, ih]
  ·rw [if_pos hk]
   unfold numK
   rw [List.getElem?_append_right (Nat.le_refl _)]
   simp
theorem num_get {keep : Nat → Bool} {i m : Nat} : ∀ (n : Nat), (keptL n keep)[m]? = some i → numK keep i = m ∧ i < n ∧ keep i = true
 | 0, h => by simp [keptL] at h
 | n + 1, h => by
  rw [kept_succ] at h
  rcases (by omega : m < (keptL n keep).length ∨ (keptL n keep).length ≤ m) with g | g
  ·rw [List.getElem?_append_left g] at h
   obtain ⟨h1, h2, h3⟩ := num_get n h
   exact ⟨h1, by omega, h3⟩
  ·rw [List.getElem?_append_right g] at h
   by_cases hk : keep n = true
   ·rw [if_pos hk] at h
    obtain ⟨h1, h2⟩ := List.getElem?_eq_some_iff.1 h
    simp at h1 h2
    subst h2
    exact ⟨by unfold numK; omega, by omega, hk⟩
   ·rw [if_neg hk] at h
    simp at h
theorem num_lt {keep : Nat → Bool} {i j : Nat} (hj : keep j = true) (h : j < i) : numK keep j < numK keep i := by
 have h1 := kept_get hj i h
 exact (List.getElem?_eq_some_iff.1 h1).1
def tkCut (l : List Tk) (keep : Nat → Bool) (i : Nat) : Tk := { tkAt l i with af := ((tkAt l i).af.filter fun j => keep j.toNat).map fun j => (numK keep j.toNat : Int) }
def someM (l : List Tk) (keep : Nat → Bool) : List Tk := (keptL l.length keep).map (tkCut l keep)
theorem some_length (l : List Tk) (keep : Nat → Bool) : (someM l keep).length = (keptL l.length keep).length := by unfold someM; rw [List.length_map]
theorem some_le (l : List Tk) (keep : Nat → Bool) : (someM l keep).length ≤ l.length := by
 rw [some_length]
 unfold keptL
 have := List.length_filter_le keep (List.range l.length)
 rwa [List.length_range] at this
theorem some_at {l : List Tk} {keep : Nat → Bool} {m : Nat} (hm : m < (someM l keep).length) : ∃ i, i < l.length ∧ keep i = true ∧ numK keep i = m ∧ tkAt (someM l keep) m = tkCut l keep i := by
 rw [some_length] at hm
 have hg : (keptL l.length keep)[m]? = some (keptL l.length keep)[m] := List.getElem?_eq_getElem hm
 obtain ⟨h1, h2, h3⟩ := num_get l.length hg
 refine ⟨_, h2, h3, h1, ?_⟩
 unfold tkAt someM
 rw [List.getD_eq_getElem?_getD, List.getElem?_map, hg]
 rfl
theorem some_num {l : List Tk} {keep : Nat → Bool} {i : Nat} (hi : i < l.length) (hk : keep i = true) : numK keep i < (someM l keep).length ∧ tkAt (someM l keep) (numK keep i) = tkCut l keep i := by
 have hg := kept_get hk l.length hi
 refine ⟨by rw [some_length]; exact (List.getElem?_eq_some_iff.1 hg).1, ?_⟩
 unfold tkAt someM
 rw [List.getD_eq_getElem?_getD, List.getElem?_map, hg]
 rfl
theorem some_V {l : List Tk} {res : List St} {keep : Nat → Bool} (hv : TkV l res) : TkV (someM l keep) res := by
 refine ⟨fun m hm => ?_, fun m hm => ?_, fun m hm j hj => ?_, fun m hm => ?_⟩
 ·obtain ⟨i, hi, hk, _, he⟩ := some_at hm
  unfold reOf
  rw [he]
  exact hv.rs i hi
 ·obtain ⟨i, hi, hk, _, he⟩ := some_at hm
  rw [he]
  exact hv.wk i hi
 ·obtain ⟨i, hi, hk, hn, he⟩ := some_at hm
  rw [he] at hj
  obtain ⟨j0, hj0, rfl⟩ := List.mem_map.1 hj
  obtain ⟨hj1, hj2⟩ := List.mem_filter.1 hj0
  have := num_lt hj2 (hv.af i hi j0 hj1).2
  simp only [Int.toNat_natCast]
  omega
 ·obtain ⟨i, hi, hk, _, he⟩ := some_at hm
  unfold setOf reOf
  rw [he]
  exact hv.res i hi
structure FeasK (l : List Tk) (res : List St) (start : Int) (keep : Nat → Bool) (b : Nat → Sp) : Prop where
 fits : ∀ i, i < l.length → keep i = true → Fits l res start i (b i)
 af : ∀ i, i < l.length → keep i = true → ∀ j ∈ (tkAt l i).af, keep j.toNat = true → (b j.toNat).2 ≤ (b i).1
 apart : ∀ i k, i < l.length → k < l.length → keep i = true → keep k = true → k ≠ i → reOf l k = reOf l i → (b k).2 ≤ (b i).1 ∨ (b i).2 ≤ (b k).1
theorem FeasK.mono {l : List Tk} {res : List St} {start : Int} {keep keep' : Nat → Bool} {b : Nat → Sp} (h : FeasK l res start keep b) (hk : ∀ i, keep' i = true → keep i = true) : FeasK l res start keep' b :=
 ⟨fun i hi h' => h.fits i hi (hk i h'), fun i hi h' j hj hj' => h.af i hi (hk i h') j hj (hk _ hj'), fun i k hi hk' h1 h2 => h.apart i k hi hk' (hk i h1) (hk k h2)⟩
theorem feas_of {l : List Tk} {res : List St} {start : Int} {keep : Nat → Bool} {b : List Sp} (h : SchP (someM l keep) res start b) : FeasK l res start keep fun i => spAt b (numK keep i) := by
 refine ⟨fun i hi hk => ?_, fun i hi hk j hj hkj => ?_, fun i k hi hk h1 h2 hne hr => ?_⟩
 ·obtain ⟨hm, he⟩ := some_num hi hk
  have := h.fits _ hm
  unfold Fits setOf reOf dueOf at this ⊢
  rw [he] at this
  exact this
 ·obtain ⟨hm, he⟩ := some_num hi hk
  have := h.af _ hm (numK keep j.toNat : Int) (by rw [he]; exact List.mem_map.2 ⟨j, List.mem_filter.2 ⟨hj, hkj⟩, rfl⟩)
  simpa using this
 ·obtain ⟨hm, he⟩ := some_num hi h1
  obtain ⟨hm', he'⟩ := some_num hk h2
  refine h.apart _ _ hm hm' (fun e => hne ?_) (by unfold reOf at hr ⊢; rw [he, he']; exact hr)
  have g1 := kept_get h1 l.length hi
  have g2 := kept_get h2 l.length hk
  rw [← e, g2] at g1
  exact Option.some.inj g1
theorem some_of {l : List Tk} {res : List St} {start : Int} {keep : Nat → Bool} {b : Nat → Sp} (hv : TkV l res) (h : FeasK l res start keep b) : SchP (someM l keep) res start ((keptL l.length keep).map b) := by
 have hb : ∀ i, i < l.length → keep i = true → spAt ((keptL l.length keep).map b) (numK keep i) = b i := fun i hi hk => by
  unfold spAt
  rw [List.getD_eq_getElem?_getD, List.getElem?_map, kept_get hk l.length hi]
  rfl
 refine ⟨by rw [some_length, List.length_map], fun m hm => ?_, fun m hm j hj => ?_, fun m q hm hq hne hr => ?_⟩
 ·obtain ⟨i, hi, hk, hn, he⟩ := some_at hm
  have := h.fits i hi hk
  rw [← hn, hb i hi hk]
  unfold Fits setOf reOf dueOf at this ⊢
  rw [hn, he]
  exact this
 ·obtain ⟨i, hi, hk, hn, he⟩ := some_at hm
  rw [he] at hj
  obtain ⟨j0, hj0, rfl⟩ := List.mem_map.1 hj
  obtain ⟨hj1, hj2⟩ := List.mem_filter.1 hj0
  have hlt := (hv.af i hi j0 hj1).2
  rw [← hn, hb i hi hk, Int.toNat_natCast, hb j0.toNat (by omega) hj2]
  exact h.af i hi hk j0 hj1 hj2
 ·obtain ⟨i, hi, hk, hn, he⟩ := some_at hm
  obtain ⟨k, hk', hkk, hn', he'⟩ := some_at hq
  rw [← hn, ← hn', hb i hi hk, hb k hk' hkk]
  refine h.apart i k hi hk' hk hkk (fun e => hne (by rw [← hn, ← hn', e])) ?_
  unfold reOf at hr ⊢
  rw [he, he'] at hr
  exact hr
theorem find_some {l : List Tk} {res : List St} {start most : Int} {keep : Nat → Bool} (hv : TkV l res) (hl : l.length ≤ 5) (hm : 325 ≤ most) :
  ((∃ a, findM (someM l keep) res start most = .ok a) ∧ ∃ b, FeasK l res start keep b) ∨ ((∃ lf, findM (someM l keep) res start most = .no lf) ∧ ∀ b, ¬ FeasK l res start keep b) := by
 have hs := find_steps (l := someM l keep) (res := res) (start := start) (most := most) (by have := some_le l keep; omega) hm
 cases hf : findM (someM l keep) res start most with
 | ok a => exact Or.inl ⟨⟨a, rfl⟩, _, feas_of (find_ok (some_V hv) hf)⟩
 | out => exact absurd hf hs
 | no lf => exact Or.inr ⟨⟨lf, rfl⟩, fun b hb => find_no (some_V hv) (some_of hv hb) hf⟩

def updK (keep : Nat → Bool) (i : Nat) (v : Bool) : Nat → Bool := fun k => if k = i then v else keep k
def conflL (l : List Tk) (res : List St) (start : Int) : List Nat → (Nat → Bool) → Option (Nat → Bool)
 | [], keep => some keep
 | i :: r, keep => match findM (someM l (updK keep i false)) res start 1000 with
  | .out => none
  | .ok _ => conflL l res start r keep
  | .no _ => conflL l res start r (updK keep i false)
theorem confl_spec {l : List Tk} {res : List St} {start : Int} (hv : TkV l res) (hl : l.length ≤ 5) : ∀ (q : List Nat) {keep keep' : Nat → Bool}, (∀ b, ¬ FeasK l res start keep b) → conflL l res start q keep = some keep' →
  (∀ b, ¬ FeasK l res start keep' b) ∧ (∀ i, keep' i = true → keep i = true) ∧ ∀ i ∈ q, keep' i = true → ∃ b, FeasK l res start (updK keep' i false) b
 | [], keep, keep', hn, h => by
  have h : some keep = some keep' := h
  obtain rfl := Option.some.inj h
  exact ⟨hn, fun _ h => h, fun i hi => by simp at hi⟩
 | i :: q, keep, keep', hn, h => by
  unfold conflL at h
  rcases find_some (l := l) (start := start) (most := 1000) (keep := updK keep i false) hv hl (by omega) with ⟨⟨a, ha⟩, b, hb⟩ | ⟨⟨lf, hlf⟩, hno⟩
  ·rw [ha] at h
   obtain ⟨g1, g2, g3⟩ := confl_spec hv hl q hn h
   refine ⟨g1, g2, fun k hk hkk => ?_⟩
   rcases List.mem_cons.1 hk with rfl | hk
   ·refine ⟨b, hb.mono fun m hm => ?_⟩
    unfold updK at hm ⊢
    split at hm
    ·cases hm
    ·rename_i hne
     rw [if_neg hne]
     exact g2 m hm
   ·exact g3 k hk hkk
  ·rw [hlf] at h
   obtain ⟨g1, g2, g3⟩ := confl_spec hv hl q hno h
   refine ⟨g1, fun k hk => ?_, fun k hk hkk => ?_⟩
   ·have := g2 k hk
    unfold updK at this
    split at this
    ·cases this
    ·exact this
   ·rcases List.mem_cons.1 hk with rfl | hk
    ·have := g2 k hkk
     unfold updK at this
     rw [if_pos rfl] at this
     cases this
    ·exact g3 k hk hkk
end Wk
end Go.Proofs.YtlbjfbpejomkmaaGreat
namespace Go.Proofs.YtlbjfbpejomkmaaGreat
namespace Wk

end Wk
end Go.Proofs.YtlbjfbpejomkmaaGreat
namespace Go.Proofs.YtlbjfbpejomkmaaGreat
namespace Wk

def afB (i : Nat) (af : List Int) : Bool := (List.range af.length).all fun k => decide (0 ≤ af.getD k 0) && decide (af.getD k 0 < i) && (k == 0 || decide (af.getD (k - 1) 0 < af.getD k 0))
def okT (l : List Tk) (nres : Nat) (i : Nat) : Bool :=
 decide (1 ≤ (tkAt l i).nm.size) && decide ((tkAt l i).nm.size ≤ 30) && (List.range i).all (fun k => decide ((tkAt l k).nm ≠ (tkAt l i).nm)) && decide (1 ≤ (tkAt l i).wk) && decide ((tkAt l i).wk ≤ 4398046511104) &&
  decide (0 ≤ (tkAt l i).rs) && decide ((tkAt l i).rs < nres) && lineB (tkAt l i).du && afB i (tkAt l i).af
def vldM (l : List Tk) (res : List St) : Bool := decide (l.length ≤ 24) && decide (res.length ≤ 24) && res.all VB && (List.range l.length).all (okT l res.length)
theorem vld_V {l : List Tk} {res : List St} (h : vldM l res = true) : TkV l res := by
 unfold vldM at h
 simp only [Bool.and_eq_true, List.all_eq_true, List.mem_range, decide_eq_true_eq] at h
 obtain ⟨⟨⟨h1, h2⟩, h3⟩, h4⟩ := h
 have ho : ∀ i, i < l.length → 1 ≤ (tkAt l i).wk ∧ 0 ≤ (tkAt l i).rs ∧ (tkAt l i).rs < res.length ∧ afB i (tkAt l i).af = true := fun i hi => by
  have := h4 i hi
  unfold okT at this
  simp only [Bool.and_eq_true, decide_eq_true_eq] at this
  obtain ⟨⟨⟨⟨⟨⟨⟨⟨_, _⟩, _⟩, a⟩, _⟩, b⟩, c⟩, _⟩, d⟩ := this
  exact ⟨a, b, c, d⟩
 refine ⟨fun i hi => ?_, fun i hi => ?_, fun i hi j hj => ?_, fun i hi => ?_⟩
 ·obtain ⟨_, b, c, _⟩ := ho i hi
  exact ⟨b, by unfold reOf; omega⟩
 ·have := (ho i hi).1
  omega
 ·have := (ho i hi).2.2.2
  unfold afB at this
  rw [List.all_eq_true] at this
  obtain ⟨k, hk, rfl⟩ := List.mem_iff_getElem.1 hj
  have := this k (List.mem_range.2 hk)
  rw [List.getD_eq_getElem?_getD, List.getElem?_eq_getElem hk] at this
  simp only [Option.getD_some, Bool.and_eq_true, decide_eq_true_eq] at this
  omega
 ·obtain ⟨_, b, c, _⟩ := ho i hi
  have hr : reOf l i < res.length := by unfold reOf; omega
  unfold setOf
  rw [List.getD_eq_getElem?_getD, List.getElem?_eq_getElem hr]
  exact (okS_of_VB (h3 _ (List.getElem_mem hr))).good

def hB (l : List Tk) (res : List St) (start : Int) (b : List Sp) (i : Nat) : Bool :=
 ivB (spAt b i) && decide (start ≤ (spAt b i).1) && hasS (setOf l res i) (spAt b i).1 && hasS (setOf l res i) ((spAt b i).2 - 1) && decide (potS (setOf l res i) (spAt b i).2 - potS (setOf l res i) (spAt b i).1 = (tkAt l i).wk) &&
  ((tkAt l i).af.all fun j => decide ((spAt b j.toNat).2 ≤ (spAt b i).1)) && (List.range i).all fun k => !((tkAt l k).rs == (tkAt l i).rs && (decide ((spAt b k).1 < (spAt b i).2) && decide ((spAt b i).1 < (spAt b k).2)))
end Wk
end Go.Proofs.YtlbjfbpejomkmaaGreat
namespace Go.Proofs.YtlbjfbpejomkmaaGreat
namespace Wk

def resE : Rs → Int
 | .ok _ => 0
 | .out => 18
 | .no _ => 17
def conflM (l : List Tk) (res : List St) (start : Int) : Option (List Nat) ⊕ Unit := match findM l res start 1000 with
 | .ok _ => .inr ()
 | .out => .inl none
 | .no _ => .inl ((conflL l res start (List.range l.length) fun _ => true).map (keptL l.length))
theorem updK_self {keep : Nat → Bool} {i : Nat} {v : Bool} : updK keep i v i = v := by unfold updK; rw [if_pos rfl]
theorem some_all (l : List Tk) (hv : ∀ i, i < l.length → ∀ j ∈ (tkAt l i).af, 0 ≤ j ∧ j.toNat < i) : someM l (fun _ => true) = l := by
 have hn : ∀ j, numK (fun _ => true) j = j := fun j => by unfold numK keptL; rw [List.filter_eq_self.2 (fun _ _ => rfl)]; simp
 have hk : keptL l.length (fun _ => true) = List.range l.length := by unfold keptL; rw [List.filter_eq_self.2 (fun _ _ => rfl)]
 unfold someM
 rw [hk]
 apply List.ext_getElem
 ·simp
 ·intro i h1 h2
  rw [List.getElem_map, List.getElem_range]
  have ht : tkAt l i = l[i] := by unfold tkAt; rw [List.getD_eq_getElem?_getD, List.getElem?_eq_getElem h2]; rfl
  have haf : ((tkAt l i).af.filter fun _ => true).map (fun j => (numK (fun _ => true) j.toNat : Int)) = (tkAt l i).af := by
   rw [List.filter_eq_self.2 (fun _ _ => rfl)]
   conv => rhs; rw [← List.map_id (tkAt l i).af]
   refine List.map_congr_left fun j hj => ?_
   rw [hn, Int.toNat_of_nonneg (hv i h2 j hj).1]
   rfl
  unfold tkCut
  rw [haf, ht]
theorem confl_min {l : List Tk} {res : List St} {start : Int} (hv : TkV l res) (hl : l.length ≤ 5) {c : List Nat} (h : conflM l res start = .inl (some c)) :
  ∃ keep, c = keptL l.length keep ∧ c ≠ [] ∧ (∃ lf, findM (someM l keep) res start 1000 = .no lf) ∧ ∀ i ∈ c, ∃ a, findM (someM l (updK keep i false)) res start 1000 = .ok a := by
 unfold conflM at h
 cases hf : findM l res start 1000 with
 | ok a => rw [hf] at h; cases h
 | out => rw [hf] at h; simp at h
 | no lf =>
  rw [hf] at h
  simp only [Sum.inl.injEq] at h
  cases hc : conflL l res start (List.range l.length) fun _ => true with
  | none => rw [hc] at h; cases h
  | some keep =>
   rw [hc] at h
   have h : some (keptL l.length keep) = some c := h
   obtain rfl := Option.some.inj h
   have hno : ∀ b, ¬ FeasK l res start (fun _ => true) b := fun b hb => by
    have := some_of hv hb
    rw [some_all l hv.af] at this
    exact find_no hv this hf
   obtain ⟨g1, _, g3⟩ := confl_spec hv hl _ hno hc
   refine ⟨keep, rfl, fun he => ?_, ?_, fun i hi => ?_⟩
   ·have hk : ∀ i, i < l.length → keep i = true → False := fun i hi hk => by
     have : i ∈ keptL l.length keep := kept_mem.2 ⟨hi, hk⟩
     rw [he] at this
     simp at this
    exact g1 (fun _ => (0, 0)) ⟨fun i hi hk' => (hk i hi hk').elim, fun i hi hk' => (hk i hi hk').elim, fun i k hi _ hk' => (hk i hi hk').elim⟩
   ·rcases find_some (l := l) (start := start) (most := 1000) (keep := keep) hv hl (by omega) with ⟨_, b, hb⟩ | ⟨hno', _⟩
    ·exact absurd hb (g1 b)
    ·exact hno'
   ·obtain ⟨hi1, hi2⟩ := kept_mem.1 hi
    obtain ⟨b, hb⟩ := g3 i (List.mem_range.2 hi1) hi2
    rcases find_some (l := l) (start := start) (most := 1000) (keep := updK keep i false) hv hl (by omega) with ⟨ha, _⟩ | ⟨_, hno'⟩
    ·exact ha
    ·exact absurd hb (hno' b)
end Wk
end Go.Proofs.YtlbjfbpejomkmaaGreat
namespace Go.Proofs.YtlbjfbpejomkmaaGreat
namespace Wk

def Agree (d : List Bool) (a am : List Sp) : Prop := am.length = a.length ∧ ∀ i, dAt d i = true → spAt am i = spAt a i
theorem Agree.refl (d : List Bool) (a : List Sp) : Agree d a a := ⟨rfl, fun _ _ => rfl⟩
theorem Agree.trans {d : List Bool} {a b c : List Sp} (h : Agree d a b) (h' : Agree d b c) : Agree d a c := ⟨h'.1.trans h.1, fun i hi => (h'.2 i hi).trans (h.2 i hi)⟩
theorem Agree.set {d : List Bool} {a am : List Sp} (h : Agree d a am) {i : Nat} (s : Sp) (hi : i < a.length) (hd : i < d.length) : Agree (d.set i true) (a.set i s) (am.set i s) := by
 refine ⟨by rw [List.length_set, List.length_set]; exact h.1, fun k hk => ?_⟩
 unfold spAt
 rw [getD_setL _ _ _ _ _ (by rw [h.1]; exact hi), getD_setL _ _ _ _ _ hi]
 split
 ·rfl
 ·rename_i hne
  unfold dAt at hk
  rw [getD_setL _ _ _ _ _ hd, if_neg hne] at hk
  exact h.2 k hk
theorem Agree.back {d : List Bool} {a am : List Sp} {i : Nat} {s : Sp} (h : Agree (d.set i true) (a.set i s) am) (hd : dAt d i = false) (hl : i < d.length) (hi : i < a.length) : Agree d a am := by
 refine ⟨by have := h.1; rwa [List.length_set] at this, fun k hk => ?_⟩
 have hne : k ≠ i := fun e => by rw [e, hd] at hk; cases hk
 have := h.2 k (by unfold dAt; rw [getD_setL _ _ _ _ _ hl, if_neg hne]; exact hk)
 rw [this]
 unfold spAt
 rw [getD_setL _ _ _ _ _ hi, if_neg hne]
theorem agree_all {d : List Bool} {a am : List Sp} (h : Agree d a am) (hd : d.count false = 0) (hl : d.length = a.length) : am = a := by
 apply List.ext_getElem h.1
 intro i h1 h2
 have := h.2 i (count_none hd (by omega))
 unfold spAt at this
 rw [List.getD_eq_getElem?_getD, List.getD_eq_getElem?_getD, List.getElem?_eq_getElem h1, List.getElem?_eq_getElem h2] at this
 simpa using this
def fromU (start : Int) (e : List Int) (a : List Sp) (t : Tk) (k : Nat) : Int := (t.af.take k).foldl (fun x j => max x (a.getD j.toNat (0, 0)).2) (max start (e.getD t.rs.toNat 0))
theorem fromU_zero (start : Int) (e : List Int) (a : List Sp) (t : Tk) : fromU start e a t 0 = max start (e.getD t.rs.toNat 0) := rfl
theorem fromU_succ {start : Int} {e : List Int} {a : List Sp} {t : Tk} {k : Nat} (hk : k < t.af.length) : fromU start e a t (k + 1) = max (fromU start e a t k) (spAt a (t.af.getD k 0).toNat).2 := by
 unfold fromU
 rw [List.take_add_one, List.getElem?_eq_getElem hk, Option.toList_some, List.foldl_append]
 simp only [List.foldl_cons, List.foldl_nil]
 rw [List.getD_eq_getElem?_getD (l := t.af), List.getElem?_eq_getElem hk]
 rfl
theorem fromU_all {start : Int} {e : List Int} {a : List Sp} {t : Tk} : fromU start e a t t.af.length = fromM start e a t := by
 unfold fromU fromM
 rw [List.take_length]
theorem from_line {start : Int} {e : List Int} {a : List Sp} {t : Tk} (h1 : start ≤ 4398046511104) (h2 : e.getD t.rs.toNat 0 ≤ 4398046511104) (h3 : ∀ j ∈ t.af, (spAt a j.toNat).2 ≤ 4398046511104) : fromM start e a t ≤ 4398046511104 := from_le h1 h2 h3

/-! ## one step of the search, as the program takes it -/
theorem try_out {rec : List Bool → List Int → List Sp → Int → Rs} {l : List Tk} {res : List St} {start : Int} {d : List Bool} {e : List Int} {a : List Sp} {i : Nat} {q : List Nat} : tryM rec l res start d e a (i :: q) 0 = .out := by
 unfold tryM
 rw [if_pos rfl]
theorem try_skip {rec : List Bool → List Int → List Sp → Int → Rs} {l : List Tk} {res : List St} {start : Int} {d : List Bool} {e : List Int} {a : List Sp} {i : Nat} {q : List Nat} {left : Int} (h0 : left ≠ 0)
  (h : ∀ s, earlM (setOf l res i) (tkAt l i).wk (fromM start e a (tkAt l i)) = some s → dueOf l i < s.2) : tryM rec l res start d e a (i :: q) left = tryM rec l res start d e a q (left - 1) := by
 conv => lhs; unfold tryM
 rw [if_neg h0]
 split
 ·rfl
 ·rename_i s hs
  have := h s hs
  rw [if_pos (show (tkAt l i).du < s.2 from this)]
theorem try_go {rec : List Bool → List Int → List Sp → Int → Rs} {l : List Tk} {res : List St} {start : Int} {d : List Bool} {e : List Int} {a : List Sp} {i : Nat} {q : List Nat} {left : Int} {s : Sp} (h0 : left ≠ 0)
  (h : earlM (setOf l res i) (tkAt l i).wk (fromM start e a (tkAt l i)) = some s) (hd : ¬ dueOf l i < s.2) : tryM rec l res start d e a (i :: q) left =
   match rec (d.set i true) (e.set (reOf l i) s.2) (a.set i s) (left - 1) with
   | .no left' => tryM rec l res start d e a q left'
   | x => x := by
 conv => lhs; unfold tryM
 unfold setOf reOf at h
 rw [if_neg h0, h]
 simp only
 rw [if_neg (show ¬ (tkAt l i).du < s.2 from hd)]
 rfl
end Wk
end Go.Proofs.YtlbjfbpejomkmaaGreat
