import Derived.Test.YtmfdnbfjdhlonaaGreatDoorWkForm
/- timeset: Valid, Has. -/
namespace Go.Proofs.YtmfdnbfjdhlonaaGreatDoor
open Go.RowKit Wk

theorem VB_given {s : St} (h : givenB s = false) : VB s = false := by unfold VB; rw [h]; rfl
theorem VB_eq {s T : St} {E : Int} (h : givenB s = true) (hf : formF s = (T, E)) : VB s = ((E == 0) && (T.fr == s.fr) && (T.to == s.to) && peB s.lf.1 s.lf.2 T.lf.1 T.lf.2 && peB s.rt.1 s.rt.2 T.rt.1 T.rt.2 && decide (T.l = s.l)) := by
 unfold VB; rw [h, hf, Bool.true_and]

set_option maxRecDepth 100000 in
set_option maxHeartbeats 4000000 in
theorem tvalid_any (s : St) (vl vr vv : Value) (w : World) (h : RdSt w s vl vr vv) :
  Calls Tryz.prog 44 #[.agg #[.int .i64 s.lf.1, vl, .int .i64 s.rt.1, vr, .int .i64 s.fr, .int .i64 s.to, vv]] w fun e w' => e = .returned (.bool (VB s)) ∧ Below w.heap.size w w' := by
 have H1 := Lib.hid (fun W h => given_any s vl vr vv W h)
 have H2 := Lib.hid (fun (hg : givenB s = true) W h => form_any s vl vr vv W h (okS_of_givenB hg))
 have HV1 := Lib.hid (fun h => VB_given (s := s) h)
 have HV2 := Lib.hid (fun T E h hf => VB_eq (s := s) (T := T) (E := E) h hf)
 generalize VB s = vb at *
 obtain ⟨g, hg⟩ : ∃ g, givenB s = g := ⟨_, rfl⟩
 rw [hg] at H1
 have HG := Lib.hid hg
 clear hg
 obtain ⟨⟨P, l⟩, ⟨Q, m⟩, f, t, k⟩ := s
 simp only at H1 H2 HV1 HV2 ⊢
 have HR0 := Lib.hid h
 obtain ⟨a1, n1, rfl⟩ := h.1.form
 obtain ⟨a2, n2, rfl⟩ := h.2.1.form
 obtain ⟨a3, n3, rfl⟩ := h.2.2.form
 clear h
 obtain ⟨W, hWe⟩ : ∃ W, w.alloc (.cells #[.int .i64 P, .slice a1 l.length n1, .int .i64 Q, .slice a2 m.length n2, .int .i64 f, .int .i64 t, .slice a3 k.length n3] 31) = W := ⟨_, rfl⟩
 have hW : Below w.heap.size w W := by rw [← hWe]; exact (Below.refl _ w).alloc (Nat.le_refl _) _
 have HX : Hid (Set7 W w.heap.size (.int .i64 P) (.slice a1 l.length n1) (.int .i64 Q) (.slice a2 m.length n2) (.int .i64 f) (.int .i64 t) (.slice a3 k.length n3)) := by
  rw [← hWe]
  refine ⟨⟨?_, ?_, ?_, ?_, ?_, ?_, ?_⟩, ?_, ?_, ?_, ?_, ?_, ?_, ?_⟩ <;> simp [go_sem]
 have HR := Lib.hid (keepSt hW HR0.out)
 have HE := Lib.hid hWe
 clear hWe
 obtain ⟨⟨B0, B1, B2, B3, B4, B5, B6⟩, _⟩ := HX.out
 go_enter Tryz.func44, Tryz.ntmps44
 go_wp2_with fail
 rw [HE.out]
 go_wp2_with fail
 refine (H1.out _ HR.out).mono ?_
 rintro e w1 ⟨rfl, hb1⟩
 have HX1 := Lib.hid (HX.out.below hb1)
 have HR1 := Lib.hid (keepSt hb1 HR.out)
 have hB1 := keepBelow hW hb1
 clear hb1 B0 B1 B2 B3 B4 B5 B6 HX HR HE hW
 cases g with
 | false =>
  go_wp2
  go_ret
  exact ⟨ret_bool (HV1.out HG.out).symm, hB1⟩
 | true =>
 obtain ⟨⟨B0, B1, B2, B3, B4, B5, B6⟩, _⟩ := HX1.out
 go_wp2_with fail
 refine (H2.out HG.out _ HR1.out).mono ?_
 rintro e w2 ⟨v1, v2, v3, rfl, hr2, hb2⟩
 have HX2 := Lib.hid (HX1.out.below hb2)
 have HR2 := Lib.hid (keepSt hb2 HR1.out)
 have hB2 := keepBelow hB1 hb2
 have HT := Lib.hid hr2
 clear hb2 hr2 B0 B1 B2 B3 B4 B5 B6 HX1 HR1 hB1
 obtain ⟨⟨T, E⟩, hTE⟩ : ∃ x, formF ⟨(P, l), (Q, m), f, t, k⟩ = x := ⟨_, rfl⟩
 have HVV := Lib.hid (HV2.out T E HG.out hTE)
 rw [hTE] at HT ⊢
 clear hTE HV1 HV2 H1 H2 HG
 obtain ⟨⟨P', l'⟩, ⟨Q', m'⟩, f', t', k'⟩ := T
 simp only at HT HVV ⊢
 obtain ⟨a1', n1', rfl⟩ := HT.out.1.form
 obtain ⟨a2', n2', rfl⟩ := HT.out.2.1.form
 obtain ⟨a3', n3', rfl⟩ := HT.out.2.2.form
 obtain ⟨W3, hW3⟩ : ∃ W, w2.alloc (.cells #[.int .i64 P', .slice a1' l'.length n1', .int .i64 Q', .slice a2' m'.length n2', .int .i64 f', .int .i64 t', .slice a3' k'.length n3'] 31) = W := ⟨_, rfl⟩
 have hb3 : Below w2.heap.size w2 W3 := by rw [← hW3]; exact (Below.refl _ w2).alloc (Nat.le_refl _) _
 have HY : Hid (Set7 W3 w2.heap.size (.int .i64 P') (.slice a1' l'.length n1') (.int .i64 Q') (.slice a2' m'.length n2') (.int .i64 f') (.int .i64 t') (.slice a3' k'.length n3')) := by
  rw [← hW3]
  refine ⟨⟨?_, ?_, ?_, ?_, ?_, ?_, ?_⟩, ?_, ?_, ?_, ?_, ?_, ?_, ?_⟩ <;> simp [go_sem]
 have HX3 := Lib.hid (HX2.out.below hb3)
 have HR3 := Lib.hid (keepSt hb3 HR2.out)
 have HT3 := Lib.hid (keepSt hb3 HT.out)
 have hB3 := keepBelow hB2 hb3
 have HE3 := Lib.hid hW3
 clear hb3 hW3 HX2 HR2 HT hB2
 have K1 := Lib.hid (fun W h h' => pequal_any P P' (.slice a1 l.length n1) (.slice a1' l'.length n1') l l' W h h')
 have K2 := Lib.hid (fun W h h' => pequal_any Q Q' (.slice a2 m.length n2) (.slice a2' m'.length n2') m m' W h h')
 have K3 := Lib.hid (fun W h h' => seq_any (.slice a3' k'.length n3') (.slice a3 k.length n3) k' k W h h')
 generalize peB P l P' l' = q1 at *
 generalize peB Q m Q' m' = q2 at *
 generalize decide (k' = k) = q3 at *
 obtain ⟨⟨B0, B1, B2, B3, B4, B5, B6⟩, _⟩ := HX3.out
 obtain ⟨⟨D0, D1, D2, D3, D4, D5, D6⟩, _⟩ := HY.out
 rw [← HE3.out] at B0 B1 B2 B3 B4 B5 B6 D0 D1 D2 D3 D4 D5 D6
 cases g1 : E == 0 with
 | false =>
  have G1 := Lib.hid g1
  go_wp2_with (fail)
  rw [HE3.out]
  go_ret
  exact ⟨ret_bool (by rw [HVV.out, G1.out]; simp), hB3⟩
 | true =>
 have G1 := Lib.hid g1
 cases g2 : f' == f with
 | false =>
  have G2 := Lib.hid g2
  go_wp2_with (fail)
  rw [HE3.out]
  go_ret
  exact ⟨ret_bool (by rw [HVV.out, G2.out]; simp), hB3⟩
 | true =>
 have G2 := Lib.hid g2
 cases g3 : t' == t with
 | false =>
  have G3 := Lib.hid g3
  go_wp2_with (fail)
  rw [HE3.out]
  go_ret
  exact ⟨ret_bool (by rw [HVV.out, G3.out]; simp), hB3⟩
 | true =>
 have G3 := Lib.hid g3
 go_wp2_with fail
 rw [HE3.out]
 refine (K1.out _ HR3.out.1 HT3.out.1).mono ?_
 rintro e w4 ⟨rfl, hb4⟩
 have hB4 := keepBelow hB3 hb4
 have HR4 := Lib.hid (keepSt hb4 HR3.out)
 have HT4 := Lib.hid (keepSt hb4 HT3.out)
 have HX4 := Lib.hid (HX3.out.below hb4)
 have HY4 := Lib.hid (HY.out.below hb4)
 clear hb4 B0 B1 B2 B3 B4 B5 B6 D0 D1 D2 D3 D4 D5 D6 HE3 HX3 HY HR3 HT3
 cases q1 with
 | false =>
  go_wp2
  go_ret
  exact ⟨ret_bool (by rw [HVV.out]; simp), hB4⟩
 | true =>
 obtain ⟨⟨B0, B1, B2, B3, B4, B5, B6⟩, _⟩ := HX4.out
 obtain ⟨⟨D0, D1, D2, D3, D4, D5, D6⟩, _⟩ := HY4.out
 go_wp2_with fail
 refine (K2.out _ HR4.out.2.1 HT4.out.2.1).mono ?_
 rintro e w5 ⟨rfl, hb5⟩
 have hB5 := keepBelow hB4 hb5
 have HR5 := Lib.hid (keepSt hb5 HR4.out)
 have HT5 := Lib.hid (keepSt hb5 HT4.out)
 have HX5 := Lib.hid (HX4.out.below hb5)
 have HY5 := Lib.hid (HY4.out.below hb5)
 clear hb5 B0 B1 B2 B3 B4 B5 B6 D0 D1 D2 D3 D4 D5 D6 HX4 HY4 HR4 HT4
 cases q2 with
 | false =>
  go_wp2
  go_ret
  exact ⟨ret_bool (by rw [HVV.out]; simp), hB5⟩
 | true =>
 obtain ⟨⟨B0, B1, B2, B3, B4, B5, B6⟩, _⟩ := HX5.out
 obtain ⟨⟨D0, D1, D2, D3, D4, D5, D6⟩, _⟩ := HY5.out
 go_wp2_with fail
 refine (K3.out _ HT5.out.2.2 HR5.out.2.2).mono ?_
 rintro e w6 ⟨rfl, hb6⟩
 have hB6 := keepBelow hB5 hb6
 go_wp2
 go_ret
 exact ⟨ret_bool (by rw [HVV.out, G1.out, G2.out, G3.out]; simp), hB6⟩

set_option maxHeartbeats 1000000 in
theorem thas_any (s : St) (vl vr vv : Value) (x : Int) (w : World) (h : RdSt w s vl vr vv) (hx1 : -1152921504606846976 ≤ x) (hx2 : x ≤ 1152921504606846976) :
  Calls Tryz.prog 18 #[.agg #[.int .i64 s.lf.1, vl, .int .i64 s.rt.1, vr, .int .i64 s.fr, .int .i64 s.to, vv], .int .i64 x] w fun e w' => e = .returned (.bool (VB s && hasS s x)) ∧ Below w.heap.size w w' := by
 have H1 := Lib.hid (fun W h => tvalid_any s vl vr vv W h)
 have H2 := Lib.hid (fun (hg : VB s = true) W h => whas_any s vl vr vv x W h (okS_of_VB hg) hx1 hx2)
 obtain ⟨g, hg⟩ : ∃ g, VB s = g := ⟨_, rfl⟩
 rw [hg] at H1 ⊢
 have HG := Lib.hid hg
 clear hg
 obtain ⟨hh, hhe⟩ : ∃ hh, hasS s x = hh := ⟨_, rfl⟩
 rw [hhe] at H2 ⊢
 clear hhe
 obtain ⟨⟨P, l⟩, ⟨Q, m⟩, f, t, k⟩ := s
 have HR0 := Lib.hid h
 obtain ⟨a1, n1, rfl⟩ := h.1.form
 obtain ⟨a2, n2, rfl⟩ := h.2.1.form
 obtain ⟨a3, n3, rfl⟩ := h.2.2.form
 clear h
 simp only at H1 H2 ⊢
 obtain ⟨W, hWe⟩ : ∃ W, w.alloc (.cells #[.int .i64 P, .slice a1 l.length n1, .int .i64 Q, .slice a2 m.length n2, .int .i64 f, .int .i64 t, .slice a3 k.length n3] 31) = W := ⟨_, rfl⟩
 have hW : Below w.heap.size w W := by rw [← hWe]; exact (Below.refl _ w).alloc (Nat.le_refl _) _
 have HX : Hid (Set7 W w.heap.size (.int .i64 P) (.slice a1 l.length n1) (.int .i64 Q) (.slice a2 m.length n2) (.int .i64 f) (.int .i64 t) (.slice a3 k.length n3)) := by
  rw [← hWe]
  refine ⟨⟨?_, ?_, ?_, ?_, ?_, ?_, ?_⟩, ?_, ?_, ?_, ?_, ?_, ?_, ?_⟩ <;> simp [go_sem]
 have HR := Lib.hid (keepSt hW HR0.out)
 have HE := Lib.hid hWe
 clear hWe
 obtain ⟨⟨B0, B1, B2, B3, B4, B5, B6⟩, _⟩ := HX.out
 go_enter Tryz.func18, Tryz.ntmps18
 go_wp2_with fail
 rw [HE.out]
 go_wp2_with fail
 refine (H1.out _ HR.out).mono ?_
 rintro e w1 ⟨rfl, hb1⟩
 have HX1 := Lib.hid (HX.out.below hb1)
 have HR1 := Lib.hid (keepSt hb1 HR.out)
 have hB1 := keepBelow hW hb1
 clear hb1 B0 B1 B2 B3 B4 B5 B6 HX HR HE hW
 cases g with
 | false =>
  go_wp2
  go_ret
  exact ⟨rfl, hB1⟩
 | true =>
 obtain ⟨⟨B0, B1, B2, B3, B4, B5, B6⟩, _⟩ := HX1.out
 go_wp2_with fail
 refine (H2.out HG.out _ HR1.out).mono ?_
 rintro e w2 ⟨rfl, hb2⟩
 go_wp2
 go_ret
 exact ⟨ret_bool (by simp), keepBelow hB1 hb2⟩
end Go.Proofs.YtmfdnbfjdhlonaaGreatDoor
