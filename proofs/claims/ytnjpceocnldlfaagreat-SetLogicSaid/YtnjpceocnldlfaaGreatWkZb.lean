import Derived.Test.YtnjpceocnldlfaaGreatWkLq
/- A box of zeroes, and a set stored in it. -/
namespace Go.Proofs.YtnjpceocnldlfaaGreat
open Go.RowKit Wk

def ZB (W : World) (b : Nat) : Prop := Set7 W b (.int .i64 0) (.slice none 0 0) (.int .i64 0) (.slice none 0 0) (.int .i64 0) (.int .i64 0) (.slice none 0 0) ∧ Zero7 W b
theorem ZB.new (X : World) : ZB (X.alloc (.cells #[.int .i64 0, .slice none 0 0, .int .i64 0, .slice none 0 0, .int .i64 0, .int .i64 0, .slice none 0 0] 26)) X.heap.size := ⟨set7_new _ _ _ _ _ _ _ _, zero7_new X⟩
theorem ZB.below {W X : World} {b : Nat} (h : ZB W b) (hb : Below W.heap.size W X) : ZB X b := ⟨h.1.below hb, h.2.below (World.block_lt_of_cell? W ⟨b, 0, none⟩ h.1.1.1) hb⟩
theorem set7_put {W : World} {b : Nat} {x0 x1 x2 x3 x4 x5 x6 : Value} (h : Set7 W b x0 x1 x2 x3 x4 x5 x6) (u0 u1 u2 u3 u4 u5 u6 : Value) : Set7 (put7 W b u0 u1 u2 u3 u4 u5 u6) b u0 u1 u2 u3 u4 u5 u6 := by
  obtain ⟨⟨h0, h1, h2, h3, h4, h5, h6⟩, k0, k1, k2, k3, k4, k5, k6⟩ := h
  refine ⟨put7_at u0 u1 u2 u3 u4 u5 u6 h0 h1 h2 h3 h4 h5 h6, ?_, ?_, ?_, ?_, ?_, ?_, ?_⟩ <;> simp [put7, go_sem, k0, k1, k2, k3, k4, k5, k6]
end Go.Proofs.YtnjpceocnldlfaaGreat
