import Derived.Test.YtmfdnbfjdhlonaaGreatDoorWkBth
import Derived.Test.YtmfdnbfjdhlonaaGreatDoorWkRfB
/- The reference's Combine of periodic sets. -/
namespace Go.Proofs.YtmfdnbfjdhlonaaGreatDoor
open Go.RowKit Wk

def lm13 (P : Int) (L : List Sp) : Per × Int := if 2000 < L.length then ((0, []), 5) else ((P, L), 0)
set_option maxHeartbeats 1000000 in
theorem lim13_any (P : Int) (v : Value) (L : List Sp) (B : Nat) (w : World) (h : OwnS w B v L) (_hB : B ≤ w.heap.size) (hl : L.length ≤ 100000) :
  Calls Tryz.prog 78 #[.agg #[.int .i64 P, v]] w fun e w' => (∃ v', e = .returned (.tuple #[.agg #[.int .i64 (lm13 P L).1.1, v'], .int .i64 (lm13 P L).2]) ∧ OwnS w' B v' (lm13 P L).1.2) ∧ Below w.heap.size w w' := by
 have HO := Lib.hid h
 obtain ⟨a, c, rfl, _⟩ := h.form
 have hb1 := (Below.refl w.heap.size w).alloc (Nat.le_refl _) (.cells #[.int .i64 P, .slice a L.length c] 29)
 have hs1 : w.heap.size ≤ (w.alloc (.cells #[.int .i64 P, .slice a L.length c] 29)).heap.size := hb1.size
 have hb2 := hb1.alloc hs1 (.cells #[.int .i64 0, .slice none 0 0] 29)
 have hb3 := hb1.alloc hs1 (.cells #[.int .i64 P, .slice a L.length c] 29)
 obtain ⟨⟨z0, z1⟩, _⟩ := box2_new (w.alloc (.cells #[.int .i64 P, .slice a L.length c] 29)) (.int .i64 0) (.slice none 0 0) 29
 obtain ⟨⟨y0, y1⟩, _⟩ := box2_new (w.alloc (.cells #[.int .i64 P, .slice a L.length c] 29)) (.int .i64 P) (.slice a L.length c) 29
 have hsz : (w.alloc (.cells #[.int .i64 P, .slice a L.length c] 29)).heap.size = w.heap.size + 1 := by simp
 rw [hsz] at z0 z1 y0 y1
 clear h
 by_cases h5 : 2000 < L.length
 ·have HM : Hid (lm13 P L = ((0, []), 5)) := by unfold Hid lm13; rw [if_pos h5]
  go_enter Tryz.func78, Tryz.ntmps78
  go_wp2
  generalize (w.alloc (.cells #[.int .i64 P, .slice a L.length c] 29)).alloc (.cells #[.int .i64 0, .slice none 0 0] 29) = Z at *
  refine bodyPost_ret (v := .tuple #[.agg #[.int .i64 0, .slice none 0 0], .int .i64 5]) (by simp [results, Tryz.results78, go_sem, z0, z1]) rfl ?_
  rw [HM.out]
  exact ⟨⟨_, rfl, OwnS.nil _ _⟩, hb2⟩
 ·have HM : Hid (lm13 P L = ((P, L), 0)) := by unfold Hid lm13; rw [if_neg h5]
  go_enter Tryz.func78, Tryz.ntmps78
  go_wp2
  generalize (w.alloc (.cells #[.int .i64 P, .slice a L.length c] 29)).alloc (.cells #[.int .i64 P, .slice a L.length c] 29) = Z at *
  refine bodyPost_ret (v := .tuple #[.agg #[.int .i64 P, .slice a L.length c], .int .i64 0]) (by simp [results, Tryz.results78, go_sem, y0, y1]) rfl ?_
  rw [HM.out]
  exact ⟨⟨_, rfl, HO.out.below hb3⟩, hb3⟩

end Go.Proofs.YtmfdnbfjdhlonaaGreatDoor
