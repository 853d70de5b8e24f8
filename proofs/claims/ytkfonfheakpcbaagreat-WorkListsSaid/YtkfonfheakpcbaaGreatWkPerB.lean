import Derived.Test.YtkfonfheakpcbaaGreatWkPer
import Derived.Test.YtkfonfheakpcbaaGreatWkPl
import Derived.Test.YtkfonfheakpcbaaGreatWkInt
/- periodic.Equal, has, Has. -/
namespace Go.Proofs.YtkfonfheakpcbaaGreat
open Go.RowKit Wk

set_option maxHeartbeats 1000000 in
theorem pequal_any (P1 P2 : Int) (v1 v2 : Value) (l1 l2 : List Sp) (w : World) (h1 : RdS w v1 l1) (h2 : RdS w v2 l2) :
    Calls Tryz.prog 79 #[.agg #[.int .i64 P1, v1], .agg #[.int .i64 P2, v2]] w fun e w' => e = .returned (.bool (peB P1 l1 P2 l2)) ∧ Below w.heap.size w w' := by
  have H1 := Lib.hid (fun W h => pvalid_any P1 v1 l1 W h)
  have H2 := Lib.hid (fun W h => pvalid_any P2 v2 l2 W h)
  have H3 := Lib.hid (fun W h h' => requal_any v1 v2 l1 l2 W h h')
  have hW : Below w.heap.size w ((w.alloc (.cells #[.int .i64 P1, v1] 24)).alloc (.cells #[.int .i64 P2, v2] 24)) := ((Below.refl _ _).alloc (Nat.le_refl _) _).alloc (by simp) _
  obtain ⟨W, hWe⟩ : ∃ W, (w.alloc (.cells #[.int .i64 P1, v1] 24)).alloc (.cells #[.int .i64 P2, v2] 24) = W := ⟨_, rfl⟩
  have c0 : W.cell? ⟨w.heap.size, 0, none⟩ = some (.int .i64 P1) := by rw [← hWe]; simp [go_sem]
  have c1 : W.cell? ⟨w.heap.size, 1, none⟩ = some v1 := by rw [← hWe]; simp [go_sem]
  have c2 : W.cell? ⟨w.heap.size + 1, 0, none⟩ = some (.int .i64 P2) := by rw [← hWe]; simp [go_sem]
  have c3 : W.cell? ⟨w.heap.size + 1, 1, none⟩ = some v2 := by rw [← hWe]; simp [go_sem]
  rw [hWe] at hW
  have R1 := Lib.hid (h1.below (Nat.le_refl _) hW)
  have R2 := Lib.hid (h2.below (Nat.le_refl _) hW)
  have HE := Lib.hid hWe
  clear hWe
  obtain ⟨a1, n1, rfl, hl1, _⟩ := h1
  obtain ⟨a2, n2, rfl, hl2, _⟩ := h2
  generalize hp1 : pvB P1 l1 = p1 at *
  generalize hp2 : pvB P2 l2 = p2 at *
  have HP1 := Lib.hid hp1
  have HP2 := Lib.hid hp2
  clear hp1 hp2
  go_enter Tryz.func79, Tryz.ntmps79
  go_wp2_with fail
  rw [HE.out]
  refine (H1.out _ R1.out).mono ?_
  rintro e w1 ⟨rfl, hb1⟩
  obtain ⟨q1, _⟩ := bcell hb1
  have a0 := (q1 _ _ (World.block_lt_of_cell? W _ c0)).trans c0
  have a1' := (q1 _ _ (World.block_lt_of_cell? W _ c1)).trans c1
  have a2' := (q1 _ _ (World.block_lt_of_cell? W _ c2)).trans c2
  have a3 := (q1 _ _ (World.block_lt_of_cell? W _ c3)).trans c3
  have hB1 := keepBelow hW hb1
  have S1 := Lib.hid (keepRd hb1 R1.out)
  have S2 := Lib.hid (keepRd hb1 R2.out)
  clear q1 hb1
  cases p1 with
  | false =>
    go_wp2
    go_ret
    exact ⟨ret_bool (by unfold peB; rw [HP1.out]; rfl), hB1⟩
  | true =>
    go_wp2_with fail
    refine (H2.out _ S2.out).mono ?_
    rintro e w2 ⟨rfl, hb2⟩
    obtain ⟨q2, _⟩ := bcell hb2
    have b0 := (q2 _ _ (World.block_lt_of_cell? w1 _ a0)).trans a0
    have b1 := (q2 _ _ (World.block_lt_of_cell? w1 _ a1')).trans a1'
    have b2 := (q2 _ _ (World.block_lt_of_cell? w1 _ a2')).trans a2'
    have b3 := (q2 _ _ (World.block_lt_of_cell? w1 _ a3)).trans a3
    have hB2 := keepBelow hB1 hb2
    have T1 := Lib.hid (keepRd hb2 S1.out)
    have T2 := Lib.hid (keepRd hb2 S2.out)
    clear q2 hb2
    cases p2 with
    | false =>
      go_wp2
      go_ret
      exact ⟨ret_bool (by unfold peB; rw [HP1.out, HP2.out]; rfl), hB2⟩
    | true =>
      by_cases hpp : P1 = P2
      · have g0 : (P1 == P2) = true := by simpa using hpp
        have HPP := Lib.hid hpp
        clear hpp
        go_wp2_with fail
        refine (H3.out _ T1.out T2.out).mono ?_
        rintro e w3 ⟨rfl, hb3⟩
        have hB3 := keepBelow hB2 hb3
        go_wp2
        go_ret
        exact ⟨ret_bool (by unfold peB; rw [HP1.out, HP2.out, (rvB_of_pvB HP1.out).1, (rvB_of_pvB HP2.out).1, g0]; rfl), hB3⟩
      · have g0 : (P1 == P2) = false := by simpa using hpp
        clear hpp
        go_wp2
        go_ret
        exact ⟨ret_bool (by unfold peB; rw [HP1.out, HP2.out, g0]; rfl), hB2⟩

set_option maxHeartbeats 1000000 in
theorem phas_any (P x : Int) (v : Value) (l : List Sp) (w : World) (h : RdS w v l) (hv : pvB P l = true) (hx1 : -1152921504606846976 ≤ x) (hx2 : x ≤ 1152921504606846976) :
    Calls Tryz.prog 186 #[.agg #[.int .i64 P, v], .int .i64 x] w fun e w' => e = .returned (.bool (hasP (P, l) x)) ∧ Below w.heap.size w w' := by
  obtain ⟨hr, hP1, hP2, hin⟩ := rvB_of_pvB hv
  have hcan := (canon_of_rvB hr).1
  have H1 := Lib.hid (fun W => imod_any x P W hP1 (by omega) hx1 hx2)
  have H2 := Lib.hid (fun W h => bs_per v l (x - x / P * P) W h hcan)
  have HD := Lib.hid h
  obtain ⟨a, c, rfl, hl, hc⟩ := h
  clear hv hr hin
  have e0 : (w.alloc (.cells #[.int .i64 P, .slice a l.length c] 24)).cell? ⟨w.heap.size, 0, none⟩ = some (.int .i64 P) := by simp [go_sem]
  have e1 : (w.alloc (.cells #[.int .i64 P, .slice a l.length c] 24)).cell? ⟨w.heap.size, 1, none⟩ = some (.slice a l.length c) := by simp [go_sem]
  have hB0 : Below w.heap.size w (w.alloc (.cells #[.int .i64 P, .slice a l.length c] 24)) := (Below.refl _ _).alloc (Nat.le_refl _) _
  have HR := Lib.hid (HD.out.below (Nat.le_refl _) hB0)
  generalize hWe : w.alloc (.cells #[.int .i64 P, .slice a l.length c] 24) = W at *
  have HE := Lib.hid hWe
  clear hWe
  have HX : Hid (hasP (P, l) x = inL l (x - x / P * P)) := rfl
  generalize hrr : x - x / P * P = r at *
  clear hrr
  go_enter Tryz.func186, Tryz.ntmps186
  go_wp2_with fail
  rw [HE.out]
  refine (H1.out _).mono ?_
  rintro e w1 ⟨rfl, hb1⟩
  have a0 := keepCell hb1 e0
  have a1 := keepCell hb1 e1
  have hB1 := keepBelow hB0 hb1
  have HR1 := Lib.hid (keepRd hb1 HR.out)
  clear hb1
  go_wp2_with fail
  refine (H2.out _ HR1.out).mono ?_
  rintro e w2 ⟨i, hi, rfl, hb2⟩
  have b0 := keepCell hb2 a0
  have b1 := keepCell hb2 a1
  have hB2 := keepBelow hB1 hb2
  have HI := Lib.hid (inL_srch hcan hi)
  have hil := hi.1
  clear hb2 hi
  by_cases hlt : i < l.length
  · obtain ⟨b, o, y, z, rfl, hbw, HXY, d1, d2⟩ := rd_at (k := i) hc hB2 hlt
    clear hc
    go_wp2
    go_ret
    exact ⟨ret_bool (by rw [HX.out, HI.out, HXY.out]; simp [hlt]), hB2⟩
  · clear hc
    go_wp2
    go_ret
    exact ⟨ret_bool (by rw [HX.out, HI.out]; simp [hlt]), hB2⟩

set_option maxHeartbeats 1000000 in
theorem pHas_any (P x : Int) (v : Value) (l : List Sp) (w : World) (h : RdS w v l) (hv : pvB P l = true) (hx1 : -1152921504606846976 ≤ x) (hx2 : x ≤ 1152921504606846976) :
    Calls Tryz.prog 185 #[.agg #[.int .i64 P, v], .int .i64 x] w fun e w' => e = .returned (.bool (hasP (P, l) x)) ∧ Below w.heap.size w w' := by
  have H1 := Lib.hid (fun W h => pvalid_any P v l W h)
  have H2 := Lib.hid (fun W h => phas_any P x v l W h hv hx1 hx2)
  rw [hv] at H1
  have HD := Lib.hid h
  obtain ⟨a, c, rfl, hl, hc⟩ := h
  clear hc hv
  have e0 : (w.alloc (.cells #[.int .i64 P, .slice a l.length c] 24)).cell? ⟨w.heap.size, 0, none⟩ = some (.int .i64 P) := by simp [go_sem]
  have e1 : (w.alloc (.cells #[.int .i64 P, .slice a l.length c] 24)).cell? ⟨w.heap.size, 1, none⟩ = some (.slice a l.length c) := by simp [go_sem]
  have hB0 : Below w.heap.size w (w.alloc (.cells #[.int .i64 P, .slice a l.length c] 24)) := (Below.refl _ _).alloc (Nat.le_refl _) _
  have HR := Lib.hid (HD.out.below (Nat.le_refl _) hB0)
  generalize hWe : w.alloc (.cells #[.int .i64 P, .slice a l.length c] 24) = W at *
  have HE := Lib.hid hWe
  clear hWe
  go_enter Tryz.func185, Tryz.ntmps185
  go_wp2_with fail
  rw [HE.out]
  refine (H1.out _ HR.out).mono ?_
  rintro e w1 ⟨rfl, hb1⟩
  have a0 := keepCell hb1 e0
  have a1 := keepCell hb1 e1
  have hB1 := keepBelow hB0 hb1
  have HR1 := Lib.hid (keepRd hb1 HR.out)
  clear hb1
  go_wp2_with fail
  refine (H2.out _ HR1.out).mono ?_
  rintro e w2 ⟨rfl, hb2⟩
  go_wp2
  go_ret
  exact ⟨rfl, keepBelow hB1 hb2⟩
end Go.Proofs.YtkfonfheakpcbaaGreat
