import Derived.Test.YtnjpceocnldlfaaGreatWkCmN
import Derived.Test.YtnjpceocnldlfaaGreatWkCmU
import Derived.Test.YtnjpceocnldlfaaGreatWkCmM
/- timeset.Minus, out of combine. -/
namespace Go.Proofs.YtnjpceocnldlfaaGreat
open Go.RowKit Wk

set_option maxRecDepth 100000 in
set_option maxHeartbeats 4000000 in
theorem tMinus_any (a b : St) (al ar av bl br bv : Value) (w : World) (ha : RdSt w a al ar av) (hb : RdSt w b bl br bv) :
    Calls Tryz.prog 54 #[.agg #[.int .i64 a.lf.1, al, .int .i64 a.rt.1, ar, .int .i64 a.fr, .int .i64 a.to, av], .agg #[.int .i64 b.lf.1, bl, .int .i64 b.rt.1, br, .int .i64 b.fr, .int .i64 b.to, bv]] w (TsPost (combM 2 a b) w) := by
  have HCO := Lib.hid (fun W h h' => tcomb_Minus a b al ar av bl br bv W h h')
  have HPO : Hid (PosSt (combM 2 a b).1) := pos_comb
  have HRA := Lib.hid ha
  have HRB := Lib.hid hb
  obtain ⟨a1, n1, e1⟩ := ha.1.form
  obtain ⟨a2, n2, e2⟩ := ha.2.1.form
  obtain ⟨a3, n3, e3⟩ := ha.2.2.form
  obtain ⟨b1, m1, e4⟩ := hb.1.form
  obtain ⟨b2, m2, e5⟩ := hb.2.1.form
  obtain ⟨b3, m3, e6⟩ := hb.2.2.form
  subst e1 e2 e3 e4 e5 e6
  obtain ⟨W, hWe⟩ : ∃ W, ((w.alloc (.cells #[.int .i64 a.lf.1, .slice a1 a.lf.2.length n1, .int .i64 a.rt.1, .slice a2 a.rt.2.length n2, .int .i64 a.fr, .int .i64 a.to, .slice a3 a.l.length n3] 26)).alloc (.cells #[.int .i64 b.lf.1, .slice b1 b.lf.2.length m1, .int .i64 b.rt.1, .slice b2 b.rt.2.length m2, .int .i64 b.fr, .int .i64 b.to, .slice b3 b.l.length m3] 26)).alloc (.cells #[.int .i64 0, .slice none 0 0, .int .i64 0, .slice none 0 0, .int .i64 0, .int .i64 0, .slice none 0 0] 26) = W := ⟨_, rfl⟩
  have hW : Below w.heap.size w W := by rw [← hWe]; exact (((Below.refl _ w).alloc (Nat.le_refl _) _).alloc (by simp) _).alloc (by simp; omega) _
  have HXA : Hid (Set7 W w.heap.size (.int .i64 a.lf.1) (.slice a1 a.lf.2.length n1) (.int .i64 a.rt.1) (.slice a2 a.rt.2.length n2) (.int .i64 a.fr) (.int .i64 a.to) (.slice a3 a.l.length n3)) := by
    rw [← hWe]
    refine ⟨⟨?_, ?_, ?_, ?_, ?_, ?_, ?_⟩, ?_, ?_, ?_, ?_, ?_, ?_, ?_⟩ <;> simp [go_sem]
  have HXB : Hid (Set7 W (w.heap.size + 1) (.int .i64 b.lf.1) (.slice b1 b.lf.2.length m1) (.int .i64 b.rt.1) (.slice b2 b.rt.2.length m2) (.int .i64 b.fr) (.int .i64 b.to) (.slice b3 b.l.length m3)) := by
    rw [← hWe]
    refine ⟨⟨?_, ?_, ?_, ?_, ?_, ?_, ?_⟩, ?_, ?_, ?_, ?_, ?_, ?_, ?_⟩ <;> simp [go_sem]
  have HXZ : Hid (Set7 W (w.heap.size + 1 + 1) (.int .i64 0) (.slice none 0 0) (.int .i64 0) (.slice none 0 0) (.int .i64 0) (.int .i64 0) (.slice none 0 0)) := by
    rw [← hWe]
    refine ⟨⟨?_, ?_, ?_, ?_, ?_, ?_, ?_⟩, ?_, ?_, ?_, ?_, ?_, ?_, ?_⟩ <;> simp [go_sem]
  have HZZ : Hid (Zero7 W (w.heap.size + 1 + 1)) := by
    unfold Hid
    rw [← hWe]
    have := zero7_new ((w.alloc (.cells #[.int .i64 a.lf.1, .slice a1 a.lf.2.length n1, .int .i64 a.rt.1, .slice a2 a.rt.2.length n2, .int .i64 a.fr, .int .i64 a.to, .slice a3 a.l.length n3] 26)).alloc (.cells #[.int .i64 b.lf.1, .slice b1 b.lf.2.length m1, .int .i64 b.rt.1, .slice b2 b.rt.2.length m2, .int .i64 b.fr, .int .i64 b.to, .slice b3 b.l.length m3] 26))
    simpa using this
  have HA := Lib.hid (keepSt hW HRA.out)
  have HB := Lib.hid (keepSt hW HRB.out)
  have HE := Lib.hid hWe
  clear hWe ha hb HRA HRB
  obtain ⟨⟨A0, A1, A2, A3, A4, A5, A6⟩, _⟩ := HXA.out
  obtain ⟨⟨B0, B1, B2, B3, B4, B5, B6⟩, _⟩ := HXB.out
  obtain ⟨T, hT⟩ : ∃ T, combM 2 a b = T := ⟨_, rfl⟩
  rw [hT] at HCO HPO ⊢
  clear hT
  go_enter Tryz.func54, Tryz.ntmps54
  go_wp2_with fail
  rw [HE.out]
  go_wp2_with fail
  refine (HCO.out _ HA.out HB.out).mono ?_
  rintro e w1 ⟨vl, vr, vv, rfl, hr, hb1⟩
  have hbe := keepBelow hW hb1
  have HXZ1 := Lib.hid (HXZ.out.below hb1)
  have HZZ1 := Lib.hid (HZZ.out.below (World.block_lt_of_cell? W ⟨(w.heap.size + 1 + 1), 0, none⟩ HXZ.out.1.1) hb1)
  obtain ⟨⟨Z0, Z1, Z2, Z3, Z4, Z5, Z6⟩, K0, K1, K2, K3, K4, K5, K6⟩ := HXZ1.out
  obtain ⟨c1, d1, rfl⟩ := hr.1.form
  obtain ⟨c2, d2, rfl⟩ := hr.2.1.form
  obtain ⟨c3, d3, rfl⟩ := hr.2.2.form
  have HRR := Lib.hid hr
  clear hb1 hr A0 A1 A2 A3 A4 A5 A6 B0 B1 B2 B3 B4 B5 B6
  go_wp2
  change bodyPost _ _ _ _ _ (put7 w1 (w.heap.size + 1 + 1) (.int .i64 T.1.lf.1) (.slice c1 T.1.lf.2.length d1) (.int .i64 T.1.rt.1) (.slice c2 T.1.rt.2.length d2) (.int .i64 T.1.fr) (.int .i64 T.1.to) (.slice c3 T.1.l.length d3))
  obtain ⟨r0, r1, r2, r3, r4, r5, r6⟩ := put7_at (.int .i64 T.1.lf.1) (.slice c1 T.1.lf.2.length d1) (.int .i64 T.1.rt.1) (.slice c2 T.1.rt.2.length d2) (.int .i64 T.1.fr) (.int .i64 T.1.to) (.slice c3 T.1.l.length d3) Z0 Z1 Z2 Z3 Z4 Z5 Z6
  have hBZ := put7_below (.int .i64 T.1.lf.1) (.slice c1 T.1.lf.2.length d1) (.int .i64 T.1.rt.1) (.slice c2 T.1.rt.2.length d2) (.int .i64 T.1.fr) (.int .i64 T.1.to) (.slice c3 T.1.l.length d3) hbe (b := (w.heap.size + 1 + 1)) (by omega)
  have hRZ := HRR.out.put (.int .i64 T.1.lf.1) (.slice c1 T.1.lf.2.length d1) (.int .i64 T.1.rt.1) (.slice c2 T.1.rt.2.length d2) (.int .i64 T.1.fr) (.int .i64 T.1.to) (.slice c3 T.1.l.length d3) HPO.out HZZ1.out
  generalize put7 w1 (w.heap.size + 1 + 1) (.int .i64 T.1.lf.1) (.slice c1 T.1.lf.2.length d1) (.int .i64 T.1.rt.1) (.slice c2 T.1.rt.2.length d2) (.int .i64 T.1.fr) (.int .i64 T.1.to) (.slice c3 T.1.l.length d3) = Z at *
  refine bodyPost_ret (v := .tuple #[.agg #[.int .i64 T.1.lf.1, .slice c1 T.1.lf.2.length d1, .int .i64 T.1.rt.1, .slice c2 T.1.rt.2.length d2, .int .i64 T.1.fr, .int .i64 T.1.to, .slice c3 T.1.l.length d3], .int .i64 T.2]) (by simp [results, Tryz.results54, go_sem, r0, r1, r2, r3, r4, r5, r6]) rfl ?_
  exact ⟨_, _, _, rfl, hRZ, hBZ⟩

end Go.Proofs.YtnjpceocnldlfaaGreat
namespace Go.Proofs.YtnjpceocnldlfaaGreat
open Go.RowKit Wk

set_option maxRecDepth 100000 in
set_option maxHeartbeats 4000000 in
theorem tUnion_any (a b : St) (al ar av bl br bv : Value) (w : World) (ha : RdSt w a al ar av) (hb : RdSt w b bl br bv) :
    Calls Tryz.prog 36 #[.agg #[.int .i64 a.lf.1, al, .int .i64 a.rt.1, ar, .int .i64 a.fr, .int .i64 a.to, av], .agg #[.int .i64 b.lf.1, bl, .int .i64 b.rt.1, br, .int .i64 b.fr, .int .i64 b.to, bv]] w (TsPost (combM 0 a b) w) := by
  have HCO := Lib.hid (fun W h h' => tcomb_Union a b al ar av bl br bv W h h')
  have HPO : Hid (PosSt (combM 0 a b).1) := pos_comb
  have HRA := Lib.hid ha
  have HRB := Lib.hid hb
  obtain ⟨a1, n1, e1⟩ := ha.1.form
  obtain ⟨a2, n2, e2⟩ := ha.2.1.form
  obtain ⟨a3, n3, e3⟩ := ha.2.2.form
  obtain ⟨b1, m1, e4⟩ := hb.1.form
  obtain ⟨b2, m2, e5⟩ := hb.2.1.form
  obtain ⟨b3, m3, e6⟩ := hb.2.2.form
  subst e1 e2 e3 e4 e5 e6
  obtain ⟨W, hWe⟩ : ∃ W, ((w.alloc (.cells #[.int .i64 a.lf.1, .slice a1 a.lf.2.length n1, .int .i64 a.rt.1, .slice a2 a.rt.2.length n2, .int .i64 a.fr, .int .i64 a.to, .slice a3 a.l.length n3] 26)).alloc (.cells #[.int .i64 b.lf.1, .slice b1 b.lf.2.length m1, .int .i64 b.rt.1, .slice b2 b.rt.2.length m2, .int .i64 b.fr, .int .i64 b.to, .slice b3 b.l.length m3] 26)).alloc (.cells #[.int .i64 0, .slice none 0 0, .int .i64 0, .slice none 0 0, .int .i64 0, .int .i64 0, .slice none 0 0] 26) = W := ⟨_, rfl⟩
  have hW : Below w.heap.size w W := by rw [← hWe]; exact (((Below.refl _ w).alloc (Nat.le_refl _) _).alloc (by simp) _).alloc (by simp; omega) _
  have HXA : Hid (Set7 W w.heap.size (.int .i64 a.lf.1) (.slice a1 a.lf.2.length n1) (.int .i64 a.rt.1) (.slice a2 a.rt.2.length n2) (.int .i64 a.fr) (.int .i64 a.to) (.slice a3 a.l.length n3)) := by
    rw [← hWe]
    refine ⟨⟨?_, ?_, ?_, ?_, ?_, ?_, ?_⟩, ?_, ?_, ?_, ?_, ?_, ?_, ?_⟩ <;> simp [go_sem]
  have HXB : Hid (Set7 W (w.heap.size + 1) (.int .i64 b.lf.1) (.slice b1 b.lf.2.length m1) (.int .i64 b.rt.1) (.slice b2 b.rt.2.length m2) (.int .i64 b.fr) (.int .i64 b.to) (.slice b3 b.l.length m3)) := by
    rw [← hWe]
    refine ⟨⟨?_, ?_, ?_, ?_, ?_, ?_, ?_⟩, ?_, ?_, ?_, ?_, ?_, ?_, ?_⟩ <;> simp [go_sem]
  have HXZ : Hid (Set7 W (w.heap.size + 1 + 1) (.int .i64 0) (.slice none 0 0) (.int .i64 0) (.slice none 0 0) (.int .i64 0) (.int .i64 0) (.slice none 0 0)) := by
    rw [← hWe]
    refine ⟨⟨?_, ?_, ?_, ?_, ?_, ?_, ?_⟩, ?_, ?_, ?_, ?_, ?_, ?_, ?_⟩ <;> simp [go_sem]
  have HZZ : Hid (Zero7 W (w.heap.size + 1 + 1)) := by
    unfold Hid
    rw [← hWe]
    have := zero7_new ((w.alloc (.cells #[.int .i64 a.lf.1, .slice a1 a.lf.2.length n1, .int .i64 a.rt.1, .slice a2 a.rt.2.length n2, .int .i64 a.fr, .int .i64 a.to, .slice a3 a.l.length n3] 26)).alloc (.cells #[.int .i64 b.lf.1, .slice b1 b.lf.2.length m1, .int .i64 b.rt.1, .slice b2 b.rt.2.length m2, .int .i64 b.fr, .int .i64 b.to, .slice b3 b.l.length m3] 26))
    simpa using this
  have HA := Lib.hid (keepSt hW HRA.out)
  have HB := Lib.hid (keepSt hW HRB.out)
  have HE := Lib.hid hWe
  clear hWe ha hb HRA HRB
  obtain ⟨⟨A0, A1, A2, A3, A4, A5, A6⟩, _⟩ := HXA.out
  obtain ⟨⟨B0, B1, B2, B3, B4, B5, B6⟩, _⟩ := HXB.out
  obtain ⟨T, hT⟩ : ∃ T, combM 0 a b = T := ⟨_, rfl⟩
  rw [hT] at HCO HPO ⊢
  clear hT
  go_enter Tryz.func36, Tryz.ntmps36
  go_wp2_with fail
  rw [HE.out]
  go_wp2_with fail
  refine (HCO.out _ HA.out HB.out).mono ?_
  rintro e w1 ⟨vl, vr, vv, rfl, hr, hb1⟩
  have hbe := keepBelow hW hb1
  have HXZ1 := Lib.hid (HXZ.out.below hb1)
  have HZZ1 := Lib.hid (HZZ.out.below (World.block_lt_of_cell? W ⟨(w.heap.size + 1 + 1), 0, none⟩ HXZ.out.1.1) hb1)
  obtain ⟨⟨Z0, Z1, Z2, Z3, Z4, Z5, Z6⟩, K0, K1, K2, K3, K4, K5, K6⟩ := HXZ1.out
  obtain ⟨c1, d1, rfl⟩ := hr.1.form
  obtain ⟨c2, d2, rfl⟩ := hr.2.1.form
  obtain ⟨c3, d3, rfl⟩ := hr.2.2.form
  have HRR := Lib.hid hr
  clear hb1 hr A0 A1 A2 A3 A4 A5 A6 B0 B1 B2 B3 B4 B5 B6
  go_wp2
  change bodyPost _ _ _ _ _ (put7 w1 (w.heap.size + 1 + 1) (.int .i64 T.1.lf.1) (.slice c1 T.1.lf.2.length d1) (.int .i64 T.1.rt.1) (.slice c2 T.1.rt.2.length d2) (.int .i64 T.1.fr) (.int .i64 T.1.to) (.slice c3 T.1.l.length d3))
  obtain ⟨r0, r1, r2, r3, r4, r5, r6⟩ := put7_at (.int .i64 T.1.lf.1) (.slice c1 T.1.lf.2.length d1) (.int .i64 T.1.rt.1) (.slice c2 T.1.rt.2.length d2) (.int .i64 T.1.fr) (.int .i64 T.1.to) (.slice c3 T.1.l.length d3) Z0 Z1 Z2 Z3 Z4 Z5 Z6
  have hBZ := put7_below (.int .i64 T.1.lf.1) (.slice c1 T.1.lf.2.length d1) (.int .i64 T.1.rt.1) (.slice c2 T.1.rt.2.length d2) (.int .i64 T.1.fr) (.int .i64 T.1.to) (.slice c3 T.1.l.length d3) hbe (b := (w.heap.size + 1 + 1)) (by omega)
  have hRZ := HRR.out.put (.int .i64 T.1.lf.1) (.slice c1 T.1.lf.2.length d1) (.int .i64 T.1.rt.1) (.slice c2 T.1.rt.2.length d2) (.int .i64 T.1.fr) (.int .i64 T.1.to) (.slice c3 T.1.l.length d3) HPO.out HZZ1.out
  generalize put7 w1 (w.heap.size + 1 + 1) (.int .i64 T.1.lf.1) (.slice c1 T.1.lf.2.length d1) (.int .i64 T.1.rt.1) (.slice c2 T.1.rt.2.length d2) (.int .i64 T.1.fr) (.int .i64 T.1.to) (.slice c3 T.1.l.length d3) = Z at *
  refine bodyPost_ret (v := .tuple #[.agg #[.int .i64 T.1.lf.1, .slice c1 T.1.lf.2.length d1, .int .i64 T.1.rt.1, .slice c2 T.1.rt.2.length d2, .int .i64 T.1.fr, .int .i64 T.1.to, .slice c3 T.1.l.length d3], .int .i64 T.2]) (by simp [results, Tryz.results36, go_sem, r0, r1, r2, r3, r4, r5, r6]) rfl ?_
  exact ⟨_, _, _, rfl, hRZ, hBZ⟩

end Go.Proofs.YtnjpceocnldlfaaGreat
namespace Go.Proofs.YtnjpceocnldlfaaGreat
open Go.RowKit Wk

set_option maxRecDepth 100000 in
set_option maxHeartbeats 4000000 in
theorem tMeet_any (a b : St) (al ar av bl br bv : Value) (w : World) (ha : RdSt w a al ar av) (hb : RdSt w b bl br bv) :
    Calls Tryz.prog 53 #[.agg #[.int .i64 a.lf.1, al, .int .i64 a.rt.1, ar, .int .i64 a.fr, .int .i64 a.to, av], .agg #[.int .i64 b.lf.1, bl, .int .i64 b.rt.1, br, .int .i64 b.fr, .int .i64 b.to, bv]] w (TsPost (combM 1 a b) w) := by
  have HCO := Lib.hid (fun W h h' => tcomb_Meet a b al ar av bl br bv W h h')
  have HPO : Hid (PosSt (combM 1 a b).1) := pos_comb
  have HRA := Lib.hid ha
  have HRB := Lib.hid hb
  obtain ⟨a1, n1, e1⟩ := ha.1.form
  obtain ⟨a2, n2, e2⟩ := ha.2.1.form
  obtain ⟨a3, n3, e3⟩ := ha.2.2.form
  obtain ⟨b1, m1, e4⟩ := hb.1.form
  obtain ⟨b2, m2, e5⟩ := hb.2.1.form
  obtain ⟨b3, m3, e6⟩ := hb.2.2.form
  subst e1 e2 e3 e4 e5 e6
  obtain ⟨W, hWe⟩ : ∃ W, ((w.alloc (.cells #[.int .i64 a.lf.1, .slice a1 a.lf.2.length n1, .int .i64 a.rt.1, .slice a2 a.rt.2.length n2, .int .i64 a.fr, .int .i64 a.to, .slice a3 a.l.length n3] 26)).alloc (.cells #[.int .i64 b.lf.1, .slice b1 b.lf.2.length m1, .int .i64 b.rt.1, .slice b2 b.rt.2.length m2, .int .i64 b.fr, .int .i64 b.to, .slice b3 b.l.length m3] 26)).alloc (.cells #[.int .i64 0, .slice none 0 0, .int .i64 0, .slice none 0 0, .int .i64 0, .int .i64 0, .slice none 0 0] 26) = W := ⟨_, rfl⟩
  have hW : Below w.heap.size w W := by rw [← hWe]; exact (((Below.refl _ w).alloc (Nat.le_refl _) _).alloc (by simp) _).alloc (by simp; omega) _
  have HXA : Hid (Set7 W w.heap.size (.int .i64 a.lf.1) (.slice a1 a.lf.2.length n1) (.int .i64 a.rt.1) (.slice a2 a.rt.2.length n2) (.int .i64 a.fr) (.int .i64 a.to) (.slice a3 a.l.length n3)) := by
    rw [← hWe]
    refine ⟨⟨?_, ?_, ?_, ?_, ?_, ?_, ?_⟩, ?_, ?_, ?_, ?_, ?_, ?_, ?_⟩ <;> simp [go_sem]
  have HXB : Hid (Set7 W (w.heap.size + 1) (.int .i64 b.lf.1) (.slice b1 b.lf.2.length m1) (.int .i64 b.rt.1) (.slice b2 b.rt.2.length m2) (.int .i64 b.fr) (.int .i64 b.to) (.slice b3 b.l.length m3)) := by
    rw [← hWe]
    refine ⟨⟨?_, ?_, ?_, ?_, ?_, ?_, ?_⟩, ?_, ?_, ?_, ?_, ?_, ?_, ?_⟩ <;> simp [go_sem]
  have HXZ : Hid (Set7 W (w.heap.size + 1 + 1) (.int .i64 0) (.slice none 0 0) (.int .i64 0) (.slice none 0 0) (.int .i64 0) (.int .i64 0) (.slice none 0 0)) := by
    rw [← hWe]
    refine ⟨⟨?_, ?_, ?_, ?_, ?_, ?_, ?_⟩, ?_, ?_, ?_, ?_, ?_, ?_, ?_⟩ <;> simp [go_sem]
  have HZZ : Hid (Zero7 W (w.heap.size + 1 + 1)) := by
    unfold Hid
    rw [← hWe]
    have := zero7_new ((w.alloc (.cells #[.int .i64 a.lf.1, .slice a1 a.lf.2.length n1, .int .i64 a.rt.1, .slice a2 a.rt.2.length n2, .int .i64 a.fr, .int .i64 a.to, .slice a3 a.l.length n3] 26)).alloc (.cells #[.int .i64 b.lf.1, .slice b1 b.lf.2.length m1, .int .i64 b.rt.1, .slice b2 b.rt.2.length m2, .int .i64 b.fr, .int .i64 b.to, .slice b3 b.l.length m3] 26))
    simpa using this
  have HA := Lib.hid (keepSt hW HRA.out)
  have HB := Lib.hid (keepSt hW HRB.out)
  have HE := Lib.hid hWe
  clear hWe ha hb HRA HRB
  obtain ⟨⟨A0, A1, A2, A3, A4, A5, A6⟩, _⟩ := HXA.out
  obtain ⟨⟨B0, B1, B2, B3, B4, B5, B6⟩, _⟩ := HXB.out
  obtain ⟨T, hT⟩ : ∃ T, combM 1 a b = T := ⟨_, rfl⟩
  rw [hT] at HCO HPO ⊢
  clear hT
  go_enter Tryz.func53, Tryz.ntmps53
  go_wp2_with fail
  rw [HE.out]
  go_wp2_with fail
  refine (HCO.out _ HA.out HB.out).mono ?_
  rintro e w1 ⟨vl, vr, vv, rfl, hr, hb1⟩
  have hbe := keepBelow hW hb1
  have HXZ1 := Lib.hid (HXZ.out.below hb1)
  have HZZ1 := Lib.hid (HZZ.out.below (World.block_lt_of_cell? W ⟨(w.heap.size + 1 + 1), 0, none⟩ HXZ.out.1.1) hb1)
  obtain ⟨⟨Z0, Z1, Z2, Z3, Z4, Z5, Z6⟩, K0, K1, K2, K3, K4, K5, K6⟩ := HXZ1.out
  obtain ⟨c1, d1, rfl⟩ := hr.1.form
  obtain ⟨c2, d2, rfl⟩ := hr.2.1.form
  obtain ⟨c3, d3, rfl⟩ := hr.2.2.form
  have HRR := Lib.hid hr
  clear hb1 hr A0 A1 A2 A3 A4 A5 A6 B0 B1 B2 B3 B4 B5 B6
  go_wp2
  change bodyPost _ _ _ _ _ (put7 w1 (w.heap.size + 1 + 1) (.int .i64 T.1.lf.1) (.slice c1 T.1.lf.2.length d1) (.int .i64 T.1.rt.1) (.slice c2 T.1.rt.2.length d2) (.int .i64 T.1.fr) (.int .i64 T.1.to) (.slice c3 T.1.l.length d3))
  obtain ⟨r0, r1, r2, r3, r4, r5, r6⟩ := put7_at (.int .i64 T.1.lf.1) (.slice c1 T.1.lf.2.length d1) (.int .i64 T.1.rt.1) (.slice c2 T.1.rt.2.length d2) (.int .i64 T.1.fr) (.int .i64 T.1.to) (.slice c3 T.1.l.length d3) Z0 Z1 Z2 Z3 Z4 Z5 Z6
  have hBZ := put7_below (.int .i64 T.1.lf.1) (.slice c1 T.1.lf.2.length d1) (.int .i64 T.1.rt.1) (.slice c2 T.1.rt.2.length d2) (.int .i64 T.1.fr) (.int .i64 T.1.to) (.slice c3 T.1.l.length d3) hbe (b := (w.heap.size + 1 + 1)) (by omega)
  have hRZ := HRR.out.put (.int .i64 T.1.lf.1) (.slice c1 T.1.lf.2.length d1) (.int .i64 T.1.rt.1) (.slice c2 T.1.rt.2.length d2) (.int .i64 T.1.fr) (.int .i64 T.1.to) (.slice c3 T.1.l.length d3) HPO.out HZZ1.out
  generalize put7 w1 (w.heap.size + 1 + 1) (.int .i64 T.1.lf.1) (.slice c1 T.1.lf.2.length d1) (.int .i64 T.1.rt.1) (.slice c2 T.1.rt.2.length d2) (.int .i64 T.1.fr) (.int .i64 T.1.to) (.slice c3 T.1.l.length d3) = Z at *
  refine bodyPost_ret (v := .tuple #[.agg #[.int .i64 T.1.lf.1, .slice c1 T.1.lf.2.length d1, .int .i64 T.1.rt.1, .slice c2 T.1.rt.2.length d2, .int .i64 T.1.fr, .int .i64 T.1.to, .slice c3 T.1.l.length d3], .int .i64 T.2]) (by simp [results, Tryz.results53, go_sem, r0, r1, r2, r3, r4, r5, r6]) rfl ?_
  exact ⟨_, _, _, rfl, hRZ, hBZ⟩

end Go.Proofs.YtnjpceocnldlfaaGreat
