import Derived.Test.YtmfdnbfjdhlonaaGreatDoorWkBd
import Derived.Test.YtmfdnbfjdhlonaaGreatDoorWkPn
import Derived.Test.YtmfdnbfjdhlonaaGreatDoorWkBg
/- periodic.limited. -/
namespace Go.Proofs.YtmfdnbfjdhlonaaGreatDoor
open Go.RowKit Wk

def put2 (W : World) (b : Nat) (u0 u1 : Value) : World := (W.setCell ⟨b, 0, none⟩ u0).setCell ⟨b, 1, none⟩ u1
def Box2 (W : World) (b : Nat) (x0 x1 : Value) : Prop := (W.cell? ⟨b, 0, none⟩ = some x0 ∧ W.cell? ⟨b, 1, none⟩ = some x1) ∧ W.frozen? ⟨b, 0, none⟩ = false ∧ W.frozen? ⟨b, 1, none⟩ = false
theorem Box2.below {W X : World} {b : Nat} {x0 x1 : Value} (h : Box2 W b x0 x1) (hX : Below W.heap.size W X) : Box2 X b x0 x1 :=
 ⟨⟨keepCell hX h.1.1, keepCell hX h.1.2⟩, keepFrozen hX h.1.1 h.2.1, keepFrozen hX h.1.2 h.2.2⟩
theorem Box2.put {W : World} {b : Nat} {x0 x1 : Value} (h : Box2 W b x0 x1) (u0 u1 : Value) : (put2 W b u0 u1).cell? ⟨b, 0, none⟩ = some u0 ∧ (put2 W b u0 u1).cell? ⟨b, 1, none⟩ = some u1 := by
 refine ⟨?_, ?_⟩ <;> simp [put2, go_sem, h.1.1, h.1.2]
theorem put2_below {B : Nat} {w W : World} {b : Nat} (u0 u1 : Value) (h : Below B w W) (hb : B ≤ b) : Below B w (put2 W b u0 u1) :=
 (h.setCell (p := ⟨b, 0, none⟩) hb _).setCell (p := ⟨b, 1, none⟩) hb _
theorem put2_own {B : Nat} {W : World} {b : Nat} {v : Value} {l : List Sp} (u0 u1 : Value) (h : OwnS W B v l) (hb : b < B) : OwnS (put2 W b u0 u1) B v l :=
 (h.setCell hb _).setCell hb _
theorem box2_new (W : World) (x0 x1 : Value) (t : TypeId) : Box2 (W.alloc (.cells #[x0, x1] t)) W.heap.size x0 x1 := by
 refine ⟨⟨?_, ?_⟩, ?_, ?_⟩ <;> simp [go_sem]

def limM (m : Int) (L : List Sp) : Per × Int := if 2000 < (cutM L (leastM L m)).length then ((0, []), 5) else ((leastM L m, cutM L (leastM L m)), 0)
def PrPost (r : Per × Int) (w : World) (e : Ending) (w' : World) : Prop := ∃ v', e = .returned (.tuple #[.agg #[.int .i64 r.1.1, v'], .int .i64 r.2]) ∧ OwnS w' w.heap.size v' r.1.2 ∧ Below w.heap.size w w'

set_option maxRecDepth 100000 in
set_option maxHeartbeats 1000000 in
theorem limited_any (m : Int) (v : Value) (L : List Sp) (w : World) (h : RdS w v L) (hv : Canon L ∧ Bnd L ∧ L.length ≤ 4096) (h1 : 1 ≤ m) (h2 : m ≤ 12622780800) (hin : inside m L) :
  Calls Tryz.prog 73 #[.int .i64 m, v] w (PrPost (limM m L) w) := by
 have H1 := Lib.hid (fun W h => least_any v L m W h hv h1 h2 hin)
 obtain ⟨a, c, rfl⟩ := h.form
 obtain ⟨W, hWe⟩ : ∃ W, w.alloc (.cells #[.int .i64 0, .slice none 0 0] 29) = W := ⟨_, rfl⟩
 have hB0 : Below w.heap.size w W := by rw [← hWe]; exact (Below.refl _ w).alloc (Nat.le_refl _) _
 have hBX : Box2 W w.heap.size (.int .i64 0) (.slice none 0 0) := by rw [← hWe]; exact box2_new _ _ _ _
 have hsz : W.heap.size = w.heap.size + 1 := by rw [← hWe]; simp
 have HR := Lib.hid (keepRd hB0 h)
 have HE := Lib.hid hWe
 have hlL := hv.2.2
 clear hWe h hv hin
 have hcl : (cutM L (leastM L m)).length ≤ L.length := cutT_len L (leastM L m) L.length |> fun h => by rwa [cutT_full L (leastM L m) L.length (Nat.le_refl _)] at h
 go_enter Tryz.func73, Tryz.ntmps73
 go_wp2_with fail
 rw [HE.out]
 go_wp2_with fail
 refine (H1.out _ HR.out).mono ?_
 rintro e w1 ⟨v1, rfl, ho, hb1⟩
 have HLI : Hid (limM m L = if 2000 < (cutM L (leastM L m)).length then ((0, []), 5) else ((leastM L m, cutM L (leastM L m)), 0)) := rfl
 obtain ⟨C, hC⟩ : ∃ C, cutM L (leastM L m) = C := ⟨_, rfl⟩
 obtain ⟨P, hP⟩ : ∃ P, leastM L m = P := ⟨_, rfl⟩
 rw [hC] at ho HLI hcl
 rw [hP] at HLI ⊢
 clear hC hP
 obtain ⟨a1, n1, rfl, _⟩ := ho.form
 have hb2 : Below w1.heap.size w1 (w1.alloc (.cells #[.int .i64 P, .slice a1 C.length n1] 29)) := (Below.refl _ w1).alloc (Nat.le_refl _) _
 have hB2 := keepBelow (keepBelow hB0 hb1) hb2
 have hBX2 := (hBX.below hb1).below hb2
 have hO2 := ho.below hb2
 have hBY : Box2 (w1.alloc (.cells #[.int .i64 P, .slice a1 C.length n1] 29)) w1.heap.size (.int .i64 P) (.slice a1 C.length n1) := box2_new _ _ _ _
 clear hb2
 obtain ⟨⟨c0, c1⟩, f0, f1⟩ := hBX2
 obtain ⟨⟨d0, d1⟩, _, _⟩ := hBY
 have HBX2 : Hid (Box2 (w1.alloc (.cells #[.int .i64 P, .slice a1 C.length n1] 29)) w.heap.size (.int .i64 0) (.slice none 0 0)) := ⟨⟨c0, c1⟩, f0, f1⟩
 by_cases h5 : 2000 < C.length
 ·have HL2 : Hid (limM m L = ((0, []), 5)) := by have := HLI.out; rwa [if_pos h5] at this
  go_wp2
  change bodyPost _ _ _ _ _ (put2 (w1.alloc (.cells #[.int .i64 P, .slice a1 C.length n1] 29)) w.heap.size (.int .i64 0) (.slice none 0 0))
  obtain ⟨r0, r1⟩ := HBX2.out.put (.int .i64 0) (.slice none 0 0)
  have hBZ := put2_below (.int .i64 0) (.slice none 0 0) hB2 (b := w.heap.size) (Nat.le_refl _)
  generalize put2 (w1.alloc (.cells #[.int .i64 P, .slice a1 C.length n1] 29)) w.heap.size (.int .i64 0) (.slice none 0 0) = Z at *
  refine bodyPost_ret (v := .tuple #[.agg #[.int .i64 0, .slice none 0 0], .int .i64 5]) (by simp [results, Tryz.results73, go_sem, r0, r1]) rfl ?_
  show PrPost (limM m L) w _ _
  rw [HL2.out]
  exact ⟨_, rfl, OwnS.nil _ _, hBZ⟩
 ·have HL2 : Hid (limM m L = ((P, C), 0)) := by have := HLI.out; rwa [if_neg h5] at this
  go_wp2
  change bodyPost _ _ _ _ _ (put2 (w1.alloc (.cells #[.int .i64 P, .slice a1 C.length n1] 29)) w.heap.size (.int .i64 P) (.slice a1 C.length n1))
  obtain ⟨r0, r1⟩ := HBX2.out.put (.int .i64 P) (.slice a1 C.length n1)
  have hBZ := put2_below (.int .i64 P) (.slice a1 C.length n1) hB2 (b := w.heap.size) (Nat.le_refl _)
  have hOZ := put2_own (.int .i64 P) (.slice a1 C.length n1) hO2 (B := W.heap.size) (b := w.heap.size) (by omega)
  generalize put2 (w1.alloc (.cells #[.int .i64 P, .slice a1 C.length n1] 29)) w.heap.size (.int .i64 P) (.slice a1 C.length n1) = Z at *
  refine bodyPost_ret (v := .tuple #[.agg #[.int .i64 P, .slice a1 C.length n1], .int .i64 0]) (by simp [results, Tryz.results73, go_sem, r0, r1]) rfl ?_
  show PrPost (limM m L) w _ _
  rw [HL2.out]
  exact ⟨_, rfl, hOZ.mono (by omega), hBZ⟩
end Go.Proofs.YtmfdnbfjdhlonaaGreatDoor
namespace Go.Proofs.YtmfdnbfjdhlonaaGreatDoor
open Go.RowKit Wk

theorem inL_perm {a b : List Sp} (h : a.Perm b) (x : Int) : inL a x = inL b x := by
 induction h with
 | nil => rfl
 | cons s _ ih => simp only [inL, ih]
 | swap s t l => simp only [inL]; rw [← Bool.or_assoc, ← Bool.or_assoc, Bool.or_comm (_ && _) (_ && _)]
 | trans _ _ h1 h2 => exact h1.trans h2
theorem join_perm {L L' : List Sp} (hp : L'.Perm L) (hs : L'.Pairwise (fun a b => a.1 ≤ b.1)) (hpos : ∀ s ∈ L, s.1 < s.2) : Canon (joinL L') ∧ (∀ x, inL (joinL L') x = inL L x) ∧ (joinL L').length ≤ L.length := by
 obtain ⟨h1, h2⟩ := joinL_ok (fun s hs => hpos s (hp.mem_iff.1 hs)) hs
 refine ⟨h1, fun x => by rw [h2, inL_perm hp], ?_⟩
 have := joinL_len L' L'.length (Nat.le_refl _)
 rw [List.take_length, hp.length_eq] at this
 exact this
theorem own_one (W : World) {B : Nat} (hB : B ≤ W.heap.size) (x y : Int) : OwnS (W.alloc (.cells #[.int .i64 x, .int .i64 y] 41)) B (.slice (some ⟨W.heap.size, 0, none⟩) 1 1) [(x, y)] :=
 ⟨rfl, .inr ⟨W.heap.size, 1, #[.int .i64 x, .int .i64 y], rfl, hB, by show (W.heap.push _)[W.heap.size]? = _; simp, by simp, by decide, rfl, rfl⟩⟩
end Go.Proofs.YtmfdnbfjdhlonaaGreatDoor
