import Derived.Test.YtkfonfheakpcbaaGreatWkHrs
import Derived.Test.YtkfonfheakpcbaaGreatWkSub
import Derived.Test.YtkfonfheakpcbaaGreatWkRfD
/- The law WorkDeadlines. -/
namespace Go.Proofs.YtkfonfheakpcbaaGreat
open Go.RowKit Wk

set_option maxRecDepth 100000 in
set_option maxHeartbeats 8000000 in
theorem law_WorkDeadlines (s : St) (vl vr vv : Value) (t n cut : Int) (w : World) (h : RdSt w s vl vr vv) :
    Calls Tryz.prog 3 #[.agg #[.int .i64 s.lf.1, vl, .int .i64 s.rt.1, vr, .int .i64 s.fr, .int .i64 s.to, vv], .int .i64 t, .int .i64 n, .int .i64 cut] w fun e w' => e = .returned (.bool true) ∧ Below w.heap.size w w' := by
  have HA := Lib.hid (fun W => awake_any W)
  have HLG := Lib.hid (fun W h => large_any s vl vr vv W h)
  have K1 := Lib.hid (fun W h => wDeadline_any s vl vr vv t n cut W h)
  have K2 := Lib.hid (fun W h => deadline26_any s vl vr vv t n cut W h)
  generalize DlM (VB s) s t n cut = p at *
  obtain ⟨p1, p2⟩ := p
  generalize largeB s = lg at *
  have HR0 := Lib.hid h
  obtain ⟨a1, n1, rfl⟩ := h.1.form
  obtain ⟨a2, n2, rfl⟩ := h.2.1.form
  obtain ⟨a3, n3, rfl⟩ := h.2.2.form
  clear h
  obtain ⟨W, hWe⟩ : ∃ W, w.alloc (.cells #[.int .i64 s.lf.1, .slice a1 s.lf.2.length n1, .int .i64 s.rt.1, .slice a2 s.rt.2.length n2, .int .i64 s.fr, .int .i64 s.to, .slice a3 s.l.length n3] 26) = W := ⟨_, rfl⟩
  have hW : Below w.heap.size w W := by rw [← hWe]; exact (Below.refl _ w).alloc (Nat.le_refl _) _
  have HX : Hid (Set7 W w.heap.size (.int .i64 s.lf.1) (.slice a1 s.lf.2.length n1) (.int .i64 s.rt.1) (.slice a2 s.rt.2.length n2) (.int .i64 s.fr) (.int .i64 s.to) (.slice a3 s.l.length n3)) := by
    rw [← hWe]
    refine ⟨⟨?_, ?_, ?_, ?_, ?_, ?_, ?_⟩, ?_, ?_, ?_, ?_, ?_, ?_, ?_⟩ <;> simp [go_sem]
  have HR := Lib.hid (keepSt hW HR0.out)
  have HE := Lib.hid hWe
  clear hWe
  obtain ⟨⟨B0, B1, B2, B3, B4, B5, B6⟩, _⟩ := HX.out
  go_enter Tryz.func3, Tryz.ntmps3
  go_wp2_with fail
  rw [HE.out]
  go_wp2_with fail
  refine (HA.out _).mono ?_
  rintro e w1 ⟨rfl, hb1⟩
  have HX1 := Lib.hid (HX.out.below hb1)
  have HR1 := Lib.hid (keepSt hb1 HR.out)
  have hB1 := keepBelow hW hb1
  clear hb1 B0 B1 B2 B3 B4 B5 B6 HX HR HE HA
  obtain ⟨⟨B0, B1, B2, B3, B4, B5, B6⟩, _⟩ := HX1.out
  go_wp2_with fail
  refine (HLG.out _ HR1.out).mono ?_
  rintro e w2 ⟨rfl, hb2⟩
  have HX2 := Lib.hid (HX1.out.below hb2)
  have HR2 := Lib.hid (keepSt hb2 HR1.out)
  have hB2 := keepBelow hB1 hb2
  clear hb2 B0 B1 B2 B3 B4 B5 B6 HX1 HR1 HLG
  obtain ⟨⟨B0, B1, B2, B3, B4, B5, B6⟩, _⟩ := HX2.out
  cases lg with
  | true =>
    go_wp2
    go_ret
    exact ⟨rfl, hB2⟩
  | false =>
  go_wp2_with fail
  refine (K1.out _ HR2.out).mono ?_
  rintro e' w3 ⟨rfl, hb3⟩
  have HX3 := Lib.hid (HX2.out.below hb3)
  have HR3 := Lib.hid (keepSt hb3 HR2.out)
  have hB3 := keepBelow hB2 hb3
  clear hb3 B0 B1 B2 B3 B4 B5 B6 HX2 HR2
  obtain ⟨⟨B0, B1, B2, B3, B4, B5, B6⟩, _⟩ := HX3.out
  go_wp2_with fail
  refine (K2.out _ HR3.out).mono ?_
  rintro e' w4 ⟨rfl, hb4⟩
  have HX4 := Lib.hid (HX3.out.below hb4)
  have HR4 := Lib.hid (keepSt hb4 HR3.out)
  have hB4 := keepBelow hB3 hb4
  clear hb4 B0 B1 B2 B3 B4 B5 B6 HX3 HR3
  obtain ⟨⟨B0, B1, B2, B3, B4, B5, B6⟩, _⟩ := HX4.out
  clear B0 B1 B2 B3 B4 B5 B6
  have t0 : ((p1 : Int) == p1) = true := by simp
  have t1 : ((p2 : Int) == p2) = true := by simp
  go_wp2
  go_ret
  exact ⟨rfl, hB4⟩
end Go.Proofs.YtkfonfheakpcbaaGreat
