import Derived.Test.YtkfonfheakpcbaaGreatWkMem
/- timeset: line, given. -/
namespace Go.Proofs.YtkfonfheakpcbaaGreat
open Go.RowKit Wk

theorem tline_any (x : Int) (w : World) :
    Calls Tryz.prog 85 #[.int .i64 x] w fun e w' => e = .returned (.bool (lineB x)) ∧ w = w' := by
  go_enter Tryz.func85, Tryz.ntmps85
  go_wp2
  all_goals go_ret
  all_goals exact ⟨ret_bool (by unfold lineB; simp_all; try omega), rfl⟩

set_option maxHeartbeats 2000000 in
theorem given_any (s : St) (vl vr vv : Value) (w : World) (h : RdSt w s vl vr vv) :
    Calls Tryz.prog 77 #[.agg #[.int .i64 s.lf.1, vl], .agg #[.int .i64 s.rt.1, vr], .int .i64 s.fr, .int .i64 s.to, vv] w fun e w' => e = .returned (.bool (givenB s)) ∧ Below w.heap.size w w' := by
  obtain ⟨⟨P, l⟩, ⟨Q, m⟩, f, t, k⟩ := s
  obtain ⟨h1, h2, h3⟩ := h
  simp only at h1 h2 h3 ⊢
  have HG : Hid (givenB ⟨(P, l), (Q, m), f, t, k⟩ = (pvB P l && pvB Q m && decide (f ≤ t) && lineB f && lineB t && rvB k && (decide (k = []) || (decide (f ≤ (k.getD 0 (0, 0)).1) && decide ((k.getD (k.length - 1) (0, 0)).2 ≤ t))))) := rfl
  have H1 := Lib.hid (fun W h => pvalid_any P vl l W h)
  have H2 := Lib.hid (fun W h => pvalid_any Q vr m W h)
  have H3 := Lib.hid (fun W => tline_any f W)
  have H4 := Lib.hid (fun W => tline_any t W)
  have H5 := Lib.hid (fun W h => rvalid_any vv k W h)
  generalize pvB P l = p1 at *
  generalize pvB Q m = p2 at *
  generalize lineB f = q1 at *
  generalize lineB t = q2 at *
  generalize rvB k = r at *
  obtain ⟨a1, n1, rfl⟩ := h1.form
  obtain ⟨a2, n2, rfl⟩ := h2.form
  obtain ⟨W, hWe⟩ : ∃ W, (w.alloc (.cells #[.int .i64 P, .slice a1 l.length n1] 24)).alloc (.cells #[.int .i64 Q, .slice a2 m.length n2] 24) = W := ⟨_, rfl⟩
  have hW : Below w.heap.size w W := by rw [← hWe]; exact ((Below.refl _ w).alloc (Nat.le_refl _) _).alloc (by simp) _
  have c0 : W.cell? ⟨w.heap.size, 0, none⟩ = some (.int .i64 P) := by rw [← hWe]; simp [go_sem]
  have c1 : W.cell? ⟨w.heap.size, 1, none⟩ = some (.slice a1 l.length n1) := by rw [← hWe]; simp [go_sem]
  have c2 : W.cell? ⟨w.heap.size + 1, 0, none⟩ = some (.int .i64 Q) := by rw [← hWe]; simp [go_sem]
  have c3 : W.cell? ⟨w.heap.size + 1, 1, none⟩ = some (.slice a2 m.length n2) := by rw [← hWe]; simp [go_sem]
  have R1 := Lib.hid (keepRd hW h1)
  have R2 := Lib.hid (keepRd hW h2)
  have R3 := Lib.hid (keepRd hW h3)
  have HE := Lib.hid hWe
  clear hWe h1 h2
  obtain ⟨a3, n3, rfl, hl3, hc3⟩ := h3
  have HC := Lib.hid hc3
  clear hc3
  go_enter Tryz.func77, Tryz.ntmps77
  go_wp2_with fail
  rw [HE.out]
  refine (H1.out _ R1.out).mono ?_
  rintro e w1 ⟨rfl, hb1⟩
  have d2 := keepCell hb1 c2
  have d3 := keepCell hb1 c3
  have hB1 := keepBelow hW hb1
  have S2 := Lib.hid (keepRd hb1 R2.out)
  have S3 := Lib.hid (keepRd hb1 R3.out)
  clear hb1
  cases p1 with
  | false =>
    go_wp2
    go_ret
    exact ⟨ret_bool (by rw [HG.out]; rfl), hB1⟩
  | true =>
  go_wp2_with fail
  refine (H2.out _ S2.out).mono ?_
  rintro e w2 ⟨rfl, hb2⟩
  have hB2 := keepBelow hB1 hb2
  have T3 := Lib.hid (keepRd hb2 S3.out)
  clear hb2 d2 d3 c0 c1 c2 c3
  cases p2 with
  | false =>
    go_wp2
    go_ret
    exact ⟨ret_bool (by rw [HG.out]; rfl), hB2⟩
  | true =>
  cases hft : decide (f ≤ t) with
  | false =>
    have HF := Lib.hid hft
    go_wp2
    go_ret
    exact ⟨ret_bool (by rw [HG.out, HF.out]; rfl), hB2⟩
  | true =>
  have HF := Lib.hid hft
  go_wp2_with fail
  refine (H3.out _).mono ?_
  rintro e w3 ⟨rfl, rfl⟩
  cases q1 with
  | false =>
    go_wp2
    go_ret
    exact ⟨ret_bool (by rw [HG.out, HF.out]; rfl), hB2⟩
  | true =>
  go_wp2_with fail
  refine (H4.out _).mono ?_
  rintro e w3 ⟨rfl, rfl⟩
  cases q2 with
  | false =>
    go_wp2
    go_ret
    exact ⟨ret_bool (by rw [HG.out, HF.out]; rfl), hB2⟩
  | true =>
  go_wp2_with fail
  refine (H5.out _ T3.out).mono ?_
  rintro e w3 ⟨rfl, hb3⟩
  have hB3 := keepBelow hB2 hb3
  clear hb3
  cases r with
  | false =>
    go_wp2
    go_ret
    exact ⟨ret_bool (by rw [HG.out, HF.out]; rfl), hB3⟩
  | true =>
  by_cases h0 : 0 < k.length
  · obtain ⟨b, o, rfl, hbw, e1, e2, e3⟩ := rd_ends HC.out h0
    have f1 := (hB3.cell (p := ⟨b, o, none⟩) hbw).trans e1
    have f3 := (hB3.cell (p := ⟨b, o + (k.length - 1) * 2 + 1, none⟩) hbw).trans e3
    have g0 : (((k.length : Int)) == 0) = false := by simp; intro e; simp [e] at h0
    have gx : IntKind.i64.wrap ((k.length : Int) - 1) = (k.length : Int) - 1 := by rw [IntKind.wrap_i64]; omega
    have gn : ((k.length : Int) - 1).toNat = k.length - 1 := by omega
    have HK : Hid (decide (k = []) = false) := by
      unfold Hid
      rw [decide_eq_false_iff_not]
      intro e
      rw [e] at h0
      simp at h0
    have HX : Hid ((k.getD 0 (0, 0)).1 = firstFr k ∧ (k.getD (k.length - 1) (0, 0)).2 = lastTo k) := ⟨rfl, rfl⟩
    clear e1 e2 e3
    cases hu : decide (f ≤ firstFr k) with
    | false =>
      have HU := Lib.hid hu
      go_wp2
      go_ret
      exact ⟨ret_bool (by rw [HG.out, HF.out, HK.out, HX.out.1, HU.out]; rfl), hB3⟩
    | true =>
      have HU := Lib.hid hu
      cases hv : decide (lastTo k ≤ t) with
      | false =>
        have HV := Lib.hid hv
        go_wp2
        go_ret
        exact ⟨ret_bool (by rw [HG.out, HF.out, HK.out, HX.out.1, HX.out.2, HU.out, HV.out]; rfl), hB3⟩
      | true =>
        have HV := Lib.hid hv
        go_wp2
        go_ret
        exact ⟨ret_bool (by rw [HG.out, HF.out, HK.out, HX.out.1, HX.out.2, HU.out, HV.out]; rfl), hB3⟩
  · obtain rfl : k = [] := List.eq_nil_of_length_eq_zero (by omega)
    go_wp2
    go_ret
    exact ⟨ret_bool (by rw [HG.out, HF.out]; rfl), hB3⟩
end Go.Proofs.YtkfonfheakpcbaaGreat
