import Derived.Test.YtmfdnbfjdhlonaaGreatDoorWkUn
import Derived.Test.YtmfdnbfjdhlonaaGreatDoorWkBf
import Derived.Test.YtmfdnbfjdhlonaaGreatDoorWkPn
/- periodic.Of at no span; timeset.From, timeset.Of. -/
namespace Go.Proofs.YtmfdnbfjdhlonaaGreatDoor
open Go.RowKit Wk

def ofM (s : St) : St × Int := if givenB s = true then formF s else (noSt, 1)
set_option maxRecDepth 100000 in
set_option maxHeartbeats 2000000 in
theorem tof_any (s : St) (al ar av : Value) (w : World) (h : RdSt w s al ar av) :
  Calls Tryz.prog 70 #[.agg #[.int .i64 s.lf.1, al], .agg #[.int .i64 s.rt.1, ar], .int .i64 s.fr, .int .i64 s.to, av] w (TsPost (ofM s) w) := by
 have HG := Lib.hid (fun W h => given_any s al ar av W h)
 have HF := Lib.hid (fun hg W h => form_any s al ar av W h (okS_of_givenB hg))
 have HRA := Lib.hid h
 obtain ⟨a1, n1, rfl⟩ := h.1.form
 obtain ⟨a2, n2, rfl⟩ := h.2.1.form
 obtain ⟨a3, n3, rfl⟩ := h.2.2.form
 obtain ⟨W, hWe⟩ : ∃ W, ((w.alloc (.cells #[.int .i64 s.lf.1, .slice a1 s.lf.2.length n1] 29)).alloc (.cells #[.int .i64 s.rt.1, .slice a2 s.rt.2.length n2] 29)).alloc (.cells #[.int .i64 0, .slice none 0 0, .int .i64 0, .slice none 0 0, .int .i64 0, .int .i64 0, .slice none 0 0] 31) = W := ⟨_, rfl⟩
 have hW : Below w.heap.size w W := by rw [← hWe]; exact (((Below.refl _ w).alloc (Nat.le_refl _) _).alloc (by simp) _).alloc (by simp; omega) _
 have c0 : W.cell? ⟨w.heap.size, 0, none⟩ = some (.int .i64 s.lf.1) := by rw [← hWe]; simp [go_sem]
 have c1 : W.cell? ⟨w.heap.size, 1, none⟩ = some (.slice a1 s.lf.2.length n1) := by rw [← hWe]; simp [go_sem]
 have c2 : W.cell? ⟨w.heap.size + 1, 0, none⟩ = some (.int .i64 s.rt.1) := by rw [← hWe]; simp [go_sem]
 have c3 : W.cell? ⟨w.heap.size + 1, 1, none⟩ = some (.slice a2 s.rt.2.length n2) := by rw [← hWe]; simp [go_sem]
 have HXZ : Hid (Set7 W (w.heap.size + 1 + 1) (.int .i64 0) (.slice none 0 0) (.int .i64 0) (.slice none 0 0) (.int .i64 0) (.int .i64 0) (.slice none 0 0)) := by
  rw [← hWe]
  refine ⟨⟨?_, ?_, ?_, ?_, ?_, ?_, ?_⟩, ?_, ?_, ?_, ?_, ?_, ?_, ?_⟩ <;> simp [go_sem]
 have HZZ : Hid (Zero7 W (w.heap.size + 1 + 1)) := by
  unfold Hid
  rw [← hWe]
  have := zero7_new ((w.alloc (.cells #[.int .i64 s.lf.1, .slice a1 s.lf.2.length n1] 29)).alloc (.cells #[.int .i64 s.rt.1, .slice a2 s.rt.2.length n2] 29))
  simpa using this
 have HA := Lib.hid (keepSt hW HRA.out)
 have HE := Lib.hid hWe
 clear hWe h HRA
 obtain ⟨g, hg⟩ : ∃ g, givenB s = g := ⟨_, rfl⟩
 rw [hg] at HG
 have HGG := Lib.hid hg
 clear hg
 go_enter Tryz.func70, Tryz.ntmps70
 go_wp2_with fail
 rw [HE.out]
 go_wp2_with fail
 refine (HG.out _ HA.out).mono ?_
 rintro e w1 ⟨rfl, hb1⟩
 have hbe := keepBelow hW hb1
 have d0 := keepCell hb1 c0
 have d1 := keepCell hb1 c1
 have d2 := keepCell hb1 c2
 have d3 := keepCell hb1 c3
 have HA1 := Lib.hid (keepSt hb1 HA.out)
 have HXZ1 := Lib.hid (HXZ.out.below hb1)
 have HZZ1 := Lib.hid (HZZ.out.below (World.block_lt_of_cell? W ⟨(w.heap.size + 1 + 1), 0, none⟩ HXZ.out.1.1) hb1)
 clear hb1 c0 c1 c2 c3 HA HXZ HZZ
 cases g with
 | false =>
  have HM : Hid (ofM s = (noSt, 1)) := by unfold Hid ofM; rw [if_neg (by rw [HGG.out]; simp)]
  obtain ⟨⟨Z0, Z1, Z2, Z3, Z4, Z5, Z6⟩, K0, K1, K2, K3, K4, K5, K6⟩ := HXZ1.out
  go_wp2
  change bodyPost _ _ _ _ _ (put7 w1 (w.heap.size + 1 + 1) (.int .i64 0) (.slice none 0 0) (.int .i64 0) (.slice none 0 0) (.int .i64 0) (.int .i64 0) (.slice none 0 0))
  obtain ⟨r0, r1, r2, r3, r4, r5, r6⟩ := put7_at (.int .i64 0) (.slice none 0 0) (.int .i64 0) (.slice none 0 0) (.int .i64 0) (.int .i64 0) (.slice none 0 0) Z0 Z1 Z2 Z3 Z4 Z5 Z6
  have hBZ := put7_below (.int .i64 0) (.slice none 0 0) (.int .i64 0) (.slice none 0 0) (.int .i64 0) (.int .i64 0) (.slice none 0 0) hbe (b := (w.heap.size + 1 + 1)) (by omega)
  generalize put7 w1 (w.heap.size + 1 + 1) (.int .i64 0) (.slice none 0 0) (.int .i64 0) (.slice none 0 0) (.int .i64 0) (.int .i64 0) (.slice none 0 0) = Z at *
  refine bodyPost_ret (v := .tuple #[.agg #[.int .i64 0, .slice none 0 0, .int .i64 0, .slice none 0 0, .int .i64 0, .int .i64 0, .slice none 0 0], .int .i64 1]) (by simp [results, Tryz.results70, go_sem, r0, r1, r2, r3, r4, r5, r6]) rfl ?_
  show TsPost _ w _ _
  rw [HM.out]
  exact ⟨_, _, _, rfl, rdst_no _, hBZ⟩
 | true =>
  have HM : Hid (ofM s = formF s) := by unfold Hid ofM; rw [if_pos HGG.out]
  have HPO := Lib.hid (pos_form (okS_of_givenB HGG.out))
  have HFF := Lib.hid (fun W h => HF.out HGG.out W h)
  go_wp2_with fail
  refine (HFF.out _ HA1.out).mono ?_
  rintro e w2 ⟨vl, vr, vv, rfl, hr, hb2⟩
  obtain ⟨T, hT⟩ : ∃ T, formF s = T := ⟨_, rfl⟩
  rw [hT] at HPO HM hr ⊢
  clear hT
  have hbe := keepBelow hbe hb2
  have HXZ2 := Lib.hid (HXZ1.out.below hb2)
  have HZZ2 := Lib.hid (HZZ1.out.below (World.block_lt_of_cell? w1 ⟨(w.heap.size + 1 + 1), 0, none⟩ HXZ1.out.1.1) hb2)
  obtain ⟨⟨Z0, Z1, Z2, Z3, Z4, Z5, Z6⟩, K0, K1, K2, K3, K4, K5, K6⟩ := HXZ2.out
  obtain ⟨c1, d1, rfl⟩ := hr.1.form
  obtain ⟨c2, d2, rfl⟩ := hr.2.1.form
  obtain ⟨c3, d3, rfl⟩ := hr.2.2.form
  have HRR := Lib.hid hr
  clear hb2 hr
  go_wp2
  change bodyPost _ _ _ _ _ (put7 w2 (w.heap.size + 1 + 1) (.int .i64 T.1.lf.1) (.slice c1 T.1.lf.2.length d1) (.int .i64 T.1.rt.1) (.slice c2 T.1.rt.2.length d2) (.int .i64 T.1.fr) (.int .i64 T.1.to) (.slice c3 T.1.l.length d3))
  obtain ⟨r0, r1, r2, r3, r4, r5, r6⟩ := put7_at (.int .i64 T.1.lf.1) (.slice c1 T.1.lf.2.length d1) (.int .i64 T.1.rt.1) (.slice c2 T.1.rt.2.length d2) (.int .i64 T.1.fr) (.int .i64 T.1.to) (.slice c3 T.1.l.length d3) Z0 Z1 Z2 Z3 Z4 Z5 Z6
  have hBZ := put7_below (.int .i64 T.1.lf.1) (.slice c1 T.1.lf.2.length d1) (.int .i64 T.1.rt.1) (.slice c2 T.1.rt.2.length d2) (.int .i64 T.1.fr) (.int .i64 T.1.to) (.slice c3 T.1.l.length d3) hbe (b := (w.heap.size + 1 + 1)) (by omega)
  have hRZ := HRR.out.put (.int .i64 T.1.lf.1) (.slice c1 T.1.lf.2.length d1) (.int .i64 T.1.rt.1) (.slice c2 T.1.rt.2.length d2) (.int .i64 T.1.fr) (.int .i64 T.1.to) (.slice c3 T.1.l.length d3) HPO.out HZZ2.out
  generalize put7 w2 (w.heap.size + 1 + 1) (.int .i64 T.1.lf.1) (.slice c1 T.1.lf.2.length d1) (.int .i64 T.1.rt.1) (.slice c2 T.1.rt.2.length d2) (.int .i64 T.1.fr) (.int .i64 T.1.to) (.slice c3 T.1.l.length d3) = Z at *
  refine bodyPost_ret (v := .tuple #[.agg #[.int .i64 T.1.lf.1, .slice c1 T.1.lf.2.length d1, .int .i64 T.1.rt.1, .slice c2 T.1.rt.2.length d2, .int .i64 T.1.fr, .int .i64 T.1.to, .slice c3 T.1.l.length d3], .int .i64 T.2]) (by simp [results, Tryz.results70, go_sem, r0, r1, r2, r3, r4, r5, r6]) rfl ?_
  show TsPost _ w _ _
  rw [HM.out]
  exact ⟨_, _, _, rfl, hRZ, hBZ⟩

end Go.Proofs.YtmfdnbfjdhlonaaGreatDoor
