import Derived.Test.YtmfdnbfjdhlonaaGreatDoorWkRfB
import Derived.Test.YtmfdnbfjdhlonaaGreatDoorWkPl
import Derived.Test.YtmfdnbfjdhlonaaGreatDoorWkForm
import Derived.Test.YtmfdnbfjdhlonaaGreatDoorWkVal
/- The reference's Pure and Form. -/
namespace Go.Proofs.YtmfdnbfjdhlonaaGreatDoor
open Go.RowKit Wk

set_option maxHeartbeats 1000000 in
theorem pure14_any (P : Int) (v : Value) (l : List Sp) (w : World) (h : RdS w v l) :
  Calls Tryz.prog 38 #[.agg #[.int .i64 P, v]] w fun e w' => e = .returned (.agg #[.int .i64 P, v, .int .i64 P, v, .int .i64 0, .int .i64 0, .slice none 0 0]) ∧ Below w.heap.size w w' := by
 obtain ⟨a, c, rfl⟩ := h.form
 go_enter Tryz.func38, Tryz.ntmps38
 go_wp2
 refine bodyPost_ret (v := .agg #[.int .i64 P, .slice a l.length c, .int .i64 P, .slice a l.length c, .int .i64 0, .int .i64 0, .slice none 0 0]) (by simp [results, Tryz.results38, go_sem]) rfl ?_
 exact ⟨rfl, ((Below.refl _ w).alloc (Nat.le_refl _) _).alloc (by simp) _⟩


end Go.Proofs.YtmfdnbfjdhlonaaGreatDoor

namespace Go.Proofs.YtmfdnbfjdhlonaaGreatDoor
open Go.RowKit Wk

end Go.Proofs.YtmfdnbfjdhlonaaGreatDoor
namespace Go.Proofs.YtmfdnbfjdhlonaaGreatDoor
open Go.RowKit Wk

def sameB (s t : St) : Bool := ((((s.lf.1 == t.lf.1 && decide (s.lf.2 = t.lf.2)) && (s.rt.1 == t.rt.1 && decide (s.rt.2 = t.rt.2))) && (s.fr == t.fr)) && (s.to == t.to)) && decide (s.l = t.l)
set_option maxRecDepth 100000 in
set_option maxHeartbeats 4000000 in
theorem same14_any (s r : St) (vl vr vv ul ur uv : Value) (w : World) (h : RdSt w s vl vr vv) (h' : RdSt w r ul ur uv) :
  Calls Tryz.prog 13 #[stV s vl vr vv, stV r ul ur uv] w fun e w' => e = .returned (.bool (sameB s r)) ∧ Below w.heap.size w w' := by
 obtain ⟨⟨P, l⟩, ⟨Q, m⟩, f, t, k⟩ := s
 obtain ⟨⟨P', l'⟩, ⟨Q', m'⟩, f', t', k'⟩ := r
 obtain ⟨h1, h2, h3⟩ := h
 obtain ⟨h1', h2', h3'⟩ := h'
 simp only at h1 h2 h3 h1' h2' h3'
 unfold stV
 simp only
 have HSB : Hid (sameB ⟨(P, l), (Q, m), f, t, k⟩ ⟨(P', l'), (Q', m'), f', t', k'⟩ = (((((P == P' && decide (l = l')) && (Q == Q' && decide (m = m'))) && (f == f')) && (t == t')) && decide (k = k'))) := rfl
 have C1 := Lib.hid (fun W a b => equal13_any P P' vl ul l l' W a b)
 have C2 := Lib.hid (fun W a b => equal13_any Q Q' vr ur m m' W a b)
 have C3 := Lib.hid (fun W a b => same12_any vv uv k k' W a b)
 obtain ⟨g1, hg1⟩ : ∃ g, (P == P' && decide (l = l')) = g := ⟨_, rfl⟩
 obtain ⟨g2, hg2⟩ : ∃ g, (Q == Q' && decide (m = m')) = g := ⟨_, rfl⟩
 obtain ⟨g5, hg5⟩ : ∃ g, decide (k = k') = g := ⟨_, rfl⟩
 rw [hg1] at C1 HSB
 rw [hg2] at C2 HSB
 rw [hg5] at C3 HSB
 clear hg1 hg2 hg5
 have HR1 := Lib.hid h1
 have HR2 := Lib.hid h2
 have HR3 := Lib.hid h3
 have HR1' := Lib.hid h1'
 have HR2' := Lib.hid h2'
 have HR3' := Lib.hid h3'
 obtain ⟨a1, n1, rfl⟩ := h1.form
 obtain ⟨a2, n2, rfl⟩ := h2.form
 obtain ⟨a3, n3, rfl⟩ := h3.form
 obtain ⟨b1, o1, rfl⟩ := h1'.form
 obtain ⟨b2, o2, rfl⟩ := h2'.form
 obtain ⟨b3, o3, rfl⟩ := h3'.form
 clear h1 h2 h3 h1' h2' h3'
 obtain ⟨W, hWe⟩ : ∃ W, (w.alloc (.cells #[.int .i64 P, .slice a1 l.length n1, .int .i64 Q, .slice a2 m.length n2, .int .i64 f, .int .i64 t, .slice a3 k.length n3] 31)).alloc (.cells #[.int .i64 P', .slice b1 l'.length o1, .int .i64 Q', .slice b2 m'.length o2, .int .i64 f', .int .i64 t', .slice b3 k'.length o3] 31) = W := ⟨_, rfl⟩
 have hW : Below w.heap.size w W := by rw [← hWe]; exact ((Below.refl _ w).alloc (Nat.le_refl _) _).alloc (by simp) _
 have HX : Hid (Set7 W w.heap.size (.int .i64 P) (.slice a1 l.length n1) (.int .i64 Q) (.slice a2 m.length n2) (.int .i64 f) (.int .i64 t) (.slice a3 k.length n3)) := by
  rw [← hWe]
  refine ⟨⟨?_, ?_, ?_, ?_, ?_, ?_, ?_⟩, ?_, ?_, ?_, ?_, ?_, ?_, ?_⟩ <;> simp [go_sem]
 have HY : Hid (Set7 W (w.heap.size + 1) (.int .i64 P') (.slice b1 l'.length o1) (.int .i64 Q') (.slice b2 m'.length o2) (.int .i64 f') (.int .i64 t') (.slice b3 k'.length o3)) := by
  rw [← hWe]
  refine ⟨⟨?_, ?_, ?_, ?_, ?_, ?_, ?_⟩, ?_, ?_, ?_, ?_, ?_, ?_, ?_⟩ <;> simp [go_sem]
 have HE := Lib.hid hWe
 clear hWe
 have D1 := Lib.hid (C1.out W (keepRd hW HR1.out) (keepRd hW HR1'.out))
 cases g1 with
 | false =>
  obtain ⟨⟨B0, B1, B2, B3, B4, B5, B6⟩, _⟩ := HX.out
  obtain ⟨⟨E0, E1, E2, E3, E4, E5, E6⟩, _⟩ := HY.out
  rw [HSB.out]
  go_enter Tryz.func13, Tryz.ntmps13
  go_wp2_with fail
  rw [HE.out]
  go_wp2_with fail
  refine D1.out.mono ?_
  rintro e w1 ⟨rfl, hb1⟩
  have hB1 := keepBelow hW hb1
  clear B0 B1 B2 B3 B4 B5 B6 E0 E1 E2 E3 E4 E5 E6
  go_wp2
  go_ret
  exact ⟨rfl, hB1⟩
 | true =>
 have go2 : ∀ w1, Below W.heap.size W w1 → Below w.heap.size w w1 := fun w1 hb => keepBelow hW hb
 cases g2 with
 | false =>
  obtain ⟨⟨B0, B1, B2, B3, B4, B5, B6⟩, _⟩ := HX.out
  obtain ⟨⟨E0, E1, E2, E3, E4, E5, E6⟩, _⟩ := HY.out
  rw [HSB.out]
  go_enter Tryz.func13, Tryz.ntmps13
  go_wp2_with fail
  rw [HE.out]
  go_wp2_with fail
  refine D1.out.mono ?_
  rintro e w1 ⟨rfl, hb1⟩
  have hB1 := keepBelow hW hb1
  have HX1 := Lib.hid (HX.out.below hb1)
  have HY1 := Lib.hid (HY.out.below hb1)
  clear B0 B1 B2 B3 B4 B5 B6 E0 E1 E2 E3 E4 E5 E6
  obtain ⟨⟨B0, B1, B2, B3, B4, B5, B6⟩, _⟩ := HX1.out
  obtain ⟨⟨E0, E1, E2, E3, E4, E5, E6⟩, _⟩ := HY1.out
  go_wp2_with fail
  refine (C2.out _ (keepRd hB1 HR2.out) (keepRd hB1 HR2'.out)).mono ?_
  rintro e w2 ⟨rfl, hb2⟩
  have hB2 := keepBelow hB1 hb2
  clear B0 B1 B2 B3 B4 B5 B6 E0 E1 E2 E3 E4 E5 E6
  go_wp2
  go_ret
  exact ⟨rfl, hB2⟩
 | true =>
  cases g3 : (f == f') with
  | false =>
   rw [g3] at HSB
   obtain ⟨⟨B0, B1, B2, B3, B4, B5, B6⟩, _⟩ := HX.out
   obtain ⟨⟨E0, E1, E2, E3, E4, E5, E6⟩, _⟩ := HY.out
   rw [HSB.out]
   go_enter Tryz.func13, Tryz.ntmps13
   go_wp2_with fail
   rw [HE.out]
   go_wp2_with fail
   refine D1.out.mono ?_
   rintro e w1 ⟨rfl, hb1⟩
   have hB1 := keepBelow hW hb1
   have HX1 := Lib.hid (HX.out.below hb1)
   have HY1 := Lib.hid (HY.out.below hb1)
   clear B0 B1 B2 B3 B4 B5 B6 E0 E1 E2 E3 E4 E5 E6
   obtain ⟨⟨B0, B1, B2, B3, B4, B5, B6⟩, _⟩ := HX1.out
   obtain ⟨⟨E0, E1, E2, E3, E4, E5, E6⟩, _⟩ := HY1.out
   go_wp2_with fail
   refine (C2.out _ (keepRd hB1 HR2.out) (keepRd hB1 HR2'.out)).mono ?_
   rintro e w2 ⟨rfl, hb2⟩
   have hB2 := keepBelow hB1 hb2
   have HX2 := Lib.hid (HX1.out.below hb2)
   have HY2 := Lib.hid (HY1.out.below hb2)
   clear B0 B1 B2 B3 B4 B5 B6 E0 E1 E2 E3 E4 E5 E6
   obtain ⟨⟨B0, B1, B2, B3, B4, B5, B6⟩, _⟩ := HX2.out
   obtain ⟨⟨E0, E1, E2, E3, E4, E5, E6⟩, _⟩ := HY2.out
   go_wp2
   go_ret
   exact ⟨rfl, hB2⟩
  | true =>
   cases g4 : (t == t') with
   | false =>
    rw [g3, g4] at HSB
    obtain ⟨⟨B0, B1, B2, B3, B4, B5, B6⟩, _⟩ := HX.out
    obtain ⟨⟨E0, E1, E2, E3, E4, E5, E6⟩, _⟩ := HY.out
    rw [HSB.out]
    go_enter Tryz.func13, Tryz.ntmps13
    go_wp2_with fail
    rw [HE.out]
    go_wp2_with fail
    refine D1.out.mono ?_
    rintro e w1 ⟨rfl, hb1⟩
    have hB1 := keepBelow hW hb1
    have HX1 := Lib.hid (HX.out.below hb1)
    have HY1 := Lib.hid (HY.out.below hb1)
    clear B0 B1 B2 B3 B4 B5 B6 E0 E1 E2 E3 E4 E5 E6
    obtain ⟨⟨B0, B1, B2, B3, B4, B5, B6⟩, _⟩ := HX1.out
    obtain ⟨⟨E0, E1, E2, E3, E4, E5, E6⟩, _⟩ := HY1.out
    go_wp2_with fail
    refine (C2.out _ (keepRd hB1 HR2.out) (keepRd hB1 HR2'.out)).mono ?_
    rintro e w2 ⟨rfl, hb2⟩
    have hB2 := keepBelow hB1 hb2
    have HX2 := Lib.hid (HX1.out.below hb2)
    have HY2 := Lib.hid (HY1.out.below hb2)
    clear B0 B1 B2 B3 B4 B5 B6 E0 E1 E2 E3 E4 E5 E6
    obtain ⟨⟨B0, B1, B2, B3, B4, B5, B6⟩, _⟩ := HX2.out
    obtain ⟨⟨E0, E1, E2, E3, E4, E5, E6⟩, _⟩ := HY2.out
    go_wp2
    go_ret
    exact ⟨rfl, hB2⟩
   | true =>
    rw [g3, g4] at HSB
    obtain ⟨⟨B0, B1, B2, B3, B4, B5, B6⟩, _⟩ := HX.out
    obtain ⟨⟨E0, E1, E2, E3, E4, E5, E6⟩, _⟩ := HY.out
    rw [HSB.out]
    go_enter Tryz.func13, Tryz.ntmps13
    go_wp2_with fail
    rw [HE.out]
    go_wp2_with fail
    refine D1.out.mono ?_
    rintro e w1 ⟨rfl, hb1⟩
    have hB1 := keepBelow hW hb1
    have HX1 := Lib.hid (HX.out.below hb1)
    have HY1 := Lib.hid (HY.out.below hb1)
    clear B0 B1 B2 B3 B4 B5 B6 E0 E1 E2 E3 E4 E5 E6
    obtain ⟨⟨B0, B1, B2, B3, B4, B5, B6⟩, _⟩ := HX1.out
    obtain ⟨⟨E0, E1, E2, E3, E4, E5, E6⟩, _⟩ := HY1.out
    go_wp2_with fail
    refine (C2.out _ (keepRd hB1 HR2.out) (keepRd hB1 HR2'.out)).mono ?_
    rintro e w2 ⟨rfl, hb2⟩
    have hB2 := keepBelow hB1 hb2
    have HX2 := Lib.hid (HX1.out.below hb2)
    have HY2 := Lib.hid (HY1.out.below hb2)
    clear B0 B1 B2 B3 B4 B5 B6 E0 E1 E2 E3 E4 E5 E6
    obtain ⟨⟨B0, B1, B2, B3, B4, B5, B6⟩, _⟩ := HX2.out
    obtain ⟨⟨E0, E1, E2, E3, E4, E5, E6⟩, _⟩ := HY2.out
    go_wp2_with fail
    refine (C3.out _ (keepRd hB2 HR3.out) (keepRd hB2 HR3'.out)).mono ?_
    rintro e w3 ⟨rfl, hb3⟩
    have hB3 := keepBelow hB2 hb3
    go_wp2
    go_ret
    exact ⟨ret_bool (by simp), hB3⟩

end Go.Proofs.YtmfdnbfjdhlonaaGreatDoor
