import Derived.Test.YtkfonfheakpcbaaGreatWkPair
import Derived.Deep.RegionWith
/- timeset: pure. -/
namespace Go.Proofs.YtkfonfheakpcbaaGreat
open Go.RowKit Wk

def PuPost (P : Int) (v : Value) (l : List Sp) (w : World) (e : Ending) (w' : World) : Prop :=
  ∃ vr, e = .returned (.agg #[.int .i64 P, v, .int .i64 P, vr, .int .i64 0, .int .i64 0, .slice none 0 0]) ∧ OwnS w' w.heap.size vr l ∧ Below w.heap.size w w'

/-- seven stores -/
def put7 (W : World) (b : Nat) (u0 u1 u2 u3 u4 u5 u6 : Value) : World := (((((((W.setCell ⟨b, 0, none⟩ u0).setCell ⟨b, 1, none⟩ u1).setCell ⟨b, 2, none⟩ u2).setCell ⟨b, 3, none⟩ u3).setCell ⟨b, 4, none⟩ u4).setCell ⟨b, 5, none⟩ u5).setCell ⟨b, 6, none⟩ u6)
theorem put7_at {W : World} {b : Nat} (u0 u1 u2 u3 u4 u5 u6 : Value) {x0 x1 x2 x3 x4 x5 x6 : Value} (h0 : W.cell? ⟨b, 0, none⟩ = some x0) (h1 : W.cell? ⟨b, 1, none⟩ = some x1) (h2 : W.cell? ⟨b, 2, none⟩ = some x2) (h3 : W.cell? ⟨b, 3, none⟩ = some x3) (h4 : W.cell? ⟨b, 4, none⟩ = some x4) (h5 : W.cell? ⟨b, 5, none⟩ = some x5) (h6 : W.cell? ⟨b, 6, none⟩ = some x6) :
    (put7 W b u0 u1 u2 u3 u4 u5 u6).cell? ⟨b, 0, none⟩ = some u0 ∧ (put7 W b u0 u1 u2 u3 u4 u5 u6).cell? ⟨b, 1, none⟩ = some u1 ∧ (put7 W b u0 u1 u2 u3 u4 u5 u6).cell? ⟨b, 2, none⟩ = some u2 ∧ (put7 W b u0 u1 u2 u3 u4 u5 u6).cell? ⟨b, 3, none⟩ = some u3 ∧ (put7 W b u0 u1 u2 u3 u4 u5 u6).cell? ⟨b, 4, none⟩ = some u4 ∧ (put7 W b u0 u1 u2 u3 u4 u5 u6).cell? ⟨b, 5, none⟩ = some u5 ∧ (put7 W b u0 u1 u2 u3 u4 u5 u6).cell? ⟨b, 6, none⟩ = some u6 := by
  refine ⟨?_, ?_, ?_, ?_, ?_, ?_, ?_⟩ <;> simp [put7, go_sem, h0, h1, h2, h3, h4, h5, h6]
theorem put7_below {B : Nat} {w W : World} {b : Nat} (u0 u1 u2 u3 u4 u5 u6 : Value) (h : Below B w W) (hb : B ≤ b) : Below B w (put7 W b u0 u1 u2 u3 u4 u5 u6) := by
  unfold put7
  exact ((((((h.setCell (p := ⟨b, 0, none⟩) hb _).setCell (p := ⟨b, 1, none⟩) hb _).setCell (p := ⟨b, 2, none⟩) hb _).setCell (p := ⟨b, 3, none⟩) hb _).setCell (p := ⟨b, 4, none⟩) hb _).setCell (p := ⟨b, 5, none⟩) hb _).setCell (p := ⟨b, 6, none⟩) hb _
theorem put7_own {B : Nat} {W : World} {b : Nat} {v : Value} {l : List Sp} (u0 u1 u2 u3 u4 u5 u6 : Value) (h : OwnS W B v l) (hb : b < B) : OwnS (put7 W b u0 u1 u2 u3 u4 u5 u6) B v l := by
  unfold put7
  exact ((((((h.setCell hb _).setCell hb _).setCell hb _).setCell hb _).setCell hb _).setCell hb _).setCell hb _

set_option maxHeartbeats 1000000 in
theorem pure_any (P : Int) (v : Value) (l : List Sp) (w : World) (h : RdS w v l) :
    Calls Tryz.prog 108 #[.agg #[.int .i64 P, v]] w (PuPost P v l w) := by
  have HD := Lib.hid h
  obtain ⟨a, c, rfl⟩ := h.form
  have hlen : l.length ≤ 8796093022208 := by obtain ⟨_, _, _, h1, _⟩ := h; exact h1
  obtain ⟨W, hWe⟩ : ∃ W, (w.alloc (.cells #[.int .i64 P, .slice a l.length c] 24)).alloc (.cells #[.int .i64 0, .slice none 0 0, .int .i64 0, .slice none 0 0, .int .i64 0, .int .i64 0, .slice none 0 0] 26) = W := ⟨_, rfl⟩
  have hB0 : Below w.heap.size w W := by rw [← hWe]; exact ((Below.refl _ w).alloc (Nat.le_refl _) _).alloc (by simp) _
  have hsz : W.heap.size = w.heap.size + 1 + 1 := by rw [← hWe]; simp
  have HA : Hid (∀ X, Below W.heap.size W X → X.cell? ⟨w.heap.size, 0, none⟩ = some (.int .i64 P) ∧ X.cell? ⟨w.heap.size, 1, none⟩ = some (.slice a l.length c) ∧
      X.cell? ⟨w.heap.size + 1, 0, none⟩ = some (.int .i64 0) ∧ X.frozen? ⟨w.heap.size + 1, 0, none⟩ = false ∧
      X.cell? ⟨w.heap.size + 1, 1, none⟩ = some (.slice none 0 0) ∧ X.frozen? ⟨w.heap.size + 1, 1, none⟩ = false ∧
      X.cell? ⟨w.heap.size + 1, 2, none⟩ = some (.int .i64 0) ∧ X.frozen? ⟨w.heap.size + 1, 2, none⟩ = false ∧
      X.cell? ⟨w.heap.size + 1, 3, none⟩ = some (.slice none 0 0) ∧ X.frozen? ⟨w.heap.size + 1, 3, none⟩ = false ∧
      X.cell? ⟨w.heap.size + 1, 4, none⟩ = some (.int .i64 0) ∧ X.frozen? ⟨w.heap.size + 1, 4, none⟩ = false ∧
      X.cell? ⟨w.heap.size + 1, 5, none⟩ = some (.int .i64 0) ∧ X.frozen? ⟨w.heap.size + 1, 5, none⟩ = false ∧
      X.cell? ⟨w.heap.size + 1, 6, none⟩ = some (.slice none 0 0) ∧ X.frozen? ⟨w.heap.size + 1, 6, none⟩ = false) := by
    intro X hX
    have hx : ∀ o, X.cell? ⟨w.heap.size + 1, o, none⟩ = W.cell? ⟨w.heap.size + 1, o, none⟩ := fun o => hX.cell (p := ⟨w.heap.size + 1, o, none⟩) (by show w.heap.size + 1 < W.heap.size; omega)
    have hf : ∀ o, X.frozen? ⟨w.heap.size + 1, o, none⟩ = W.frozen? ⟨w.heap.size + 1, o, none⟩ := fun o => hX.frozen (p := ⟨w.heap.size + 1, o, none⟩) (by show w.heap.size + 1 < W.heap.size; omega)
    have hy : ∀ o, X.cell? ⟨w.heap.size, o, none⟩ = W.cell? ⟨w.heap.size, o, none⟩ := fun o => hX.cell (p := ⟨w.heap.size, o, none⟩) (by show w.heap.size < W.heap.size; omega)
    simp only [hx, hf, hy]
    rw [← hWe]
    refine ⟨?_, ?_, ?_, ?_, ?_, ?_, ?_, ?_, ?_, ?_, ?_, ?_, ?_, ?_, ?_, ?_⟩ <;> simp [go_sem]
  have H1 := Lib.hid (fun W h => copy_any P (.slice a l.length c) l W h)
  have HR1 := Lib.hid (keepRd hB0 h)
  have HE := Lib.hid hWe
  clear hWe h
  go_enter Tryz.func108, Tryz.ntmps108
  go_wp2_with fail
  rw [HE.out]
  go_wp2_with fail
  have hbd : Below W.heap.size W W.drew := (Below.refl _ _).drew
  obtain ⟨A0, A1, _⟩ := HA.out W (Below.refl _ _)
  go_region_with (first
      | (go_at_call 109; refine (H1.out _ (keepRd hbd HR1.out)).mono ?_; rintro e w1 ⟨v1, rfl, ho, hb1⟩; have hbX := keepBelow hbd hb1; obtain ⟨B0, B1, C0, K0, C1, K1, C2, K2, C3, K3, C4, K4, C5, K5, C6, K6⟩ := HA.out _ hbX; obtain ⟨a1, cc1, rfl, _⟩ := ho.form; have HO := Lib.hid ho; clear ho))
  all_goals go_wp2
  all_goals
    have hsd : W.drew.heap.size = W.heap.size := rfl
    change bodyPost _ _ _ _ _ (put7 w1 (w.heap.size + 1) (.int .i64 P) (.slice a l.length c) (.int .i64 P) (.slice a1 l.length cc1) (.int .i64 0) (.int .i64 0) (.slice none 0 0))
    obtain ⟨r0, r1, r2, r3, r4, r5, r6⟩ := put7_at (.int .i64 P) (.slice a l.length c) (.int .i64 P) (.slice a1 l.length cc1) (.int .i64 0) (.int .i64 0) (.slice none 0 0) C0 C1 C2 C3 C4 C5 C6
    have hBZ := put7_below (.int .i64 P) (.slice a l.length c) (.int .i64 P) (.slice a1 l.length cc1) (.int .i64 0) (.int .i64 0) (.slice none 0 0) (keepBelow hB0 hbX) (b := w.heap.size + 1) (by omega)
    have hOZ := put7_own (.int .i64 P) (.slice a l.length c) (.int .i64 P) (.slice a1 l.length cc1) (.int .i64 0) (.int .i64 0) (.slice none 0 0) HO.out (b := w.heap.size + 1) (by omega)
    generalize put7 w1 (w.heap.size + 1) (.int .i64 P) (.slice a l.length c) (.int .i64 P) (.slice a1 l.length cc1) (.int .i64 0) (.int .i64 0) (.slice none 0 0) = Z at *
    refine bodyPost_ret (v := .agg #[.int .i64 P, .slice a l.length c, .int .i64 P, .slice a1 l.length cc1, .int .i64 0, .int .i64 0, .slice none 0 0]) (by simp [results, Tryz.results108, go_sem, r0, r1, r2, r3, r4, r5, r6]) rfl ?_
    exact ⟨_, rfl, hOZ.mono (by omega), hBZ⟩
end Go.Proofs.YtkfonfheakpcbaaGreat
