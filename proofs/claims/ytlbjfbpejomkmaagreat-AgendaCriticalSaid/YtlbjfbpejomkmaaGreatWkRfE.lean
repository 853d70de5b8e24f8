import Derived.Test.YtlbjfbpejomkmaaGreatWkRfD
import Derived.Test.YtlbjfbpejomkmaaGreatWkPn
import Derived.Test.YtlbjfbpejomkmaaGreatWkWin
/- The reference's Has, Change, Next of a set; Measure, Open, Close. -/
namespace Go.Proofs.YtlbjfbpejomkmaaGreat
open Go.RowKit Wk

set_option maxHeartbeats 2000000 in
theorem has14_any (s : St) (vl vr vv : Value) (x : Int) (w : World) (h : RdSt w s vl vr vv) (hs : OkS s) (hx1 : -1152921504606846976 ≤ x) (hx2 : x ≤ 1152921504606846976) :
  Calls Tryz.prog 51 #[.agg #[.int .i64 s.lf.1, vl, .int .i64 s.rt.1, vr, .int .i64 s.fr, .int .i64 s.to, vv], .int .i64 x] w fun e w' => e = .returned (.bool (hasS s x)) ∧ Below w.heap.size w w' := by
 obtain ⟨_, hP1, hP2, _⟩ := rvB_of_pvB hs.lf
 obtain ⟨_, hQ1, hQ2, _⟩ := rvB_of_pvB hs.rt
 have C1 := Lib.hid (fun W (h : RdS W vl s.lf.2) => has13_any s.lf.1 x vl s.lf.2 W h hP1 hP2 hx1 hx2)
 have C2 := Lib.hid (fun W (h : RdS W vr s.rt.2) => has13_any s.rt.1 x vr s.rt.2 W h hQ1 hQ2 hx1 hx2)
 have C3 := Lib.hid (fun W (h : RdS W vv s.l) => in12_any vv s.l x W h)
 have hft := hs.ft
 have HHS : Hid (hasS s x = if x < s.fr then hasP s.lf x else if x < s.to then inL s.l x else hasP s.rt x) := rfl
 have HR0 := Lib.hid h
 obtain ⟨a1, n1, rfl⟩ := h.1.form
 obtain ⟨a2, n2, rfl⟩ := h.2.1.form
 obtain ⟨a3, n3, rfl⟩ := h.2.2.form
 clear h
 obtain ⟨W, hWe⟩ : ∃ W, w.alloc (.cells #[.int .i64 s.lf.1, .slice a1 s.lf.2.length n1, .int .i64 s.rt.1, .slice a2 s.rt.2.length n2, .int .i64 s.fr, .int .i64 s.to, .slice a3 s.l.length n3] 54) = W := ⟨_, rfl⟩
 have hW : Below w.heap.size w W := by rw [← hWe]; exact (Below.refl _ w).alloc (Nat.le_refl _) _
 have HX : Hid (Set7 W w.heap.size (.int .i64 s.lf.1) (.slice a1 s.lf.2.length n1) (.int .i64 s.rt.1) (.slice a2 s.rt.2.length n2) (.int .i64 s.fr) (.int .i64 s.to) (.slice a3 s.l.length n3)) := by
  rw [← hWe]
  refine ⟨⟨?_, ?_, ?_, ?_, ?_, ?_, ?_⟩, ?_, ?_, ?_, ?_, ?_, ?_, ?_⟩ <;> simp [go_sem]
 have HR := Lib.hid (keepSt hW HR0.out)
 have HE := Lib.hid hWe
 clear hWe
 obtain ⟨⟨B0, B1, B2, B3, B4, B5, B6⟩, _⟩ := HX.out
 by_cases h1 : x < s.fr
 ·have t1 : decide (x < s.fr) = true := by simpa using h1
  rw [if_pos h1] at HHS
  rw [HHS.out]
  clear h1
  go_enter Tryz.func51, Tryz.ntmps51
  go_wp2_with fail
  rw [HE.out]
  go_wp2_with fail
  refine (C1.out _ HR.out.1).mono ?_
  rintro e w1 ⟨rfl, hb1⟩
  have hB1 := keepBelow hW hb1
  clear B0 B1 B2 B3 B4 B5 B6
  go_wp2
  go_ret
  exact ⟨rfl, hB1⟩
 ·have t1 : decide (x < s.fr) = false := by simpa using h1
  rw [if_neg h1] at HHS
  clear h1
  by_cases h2 : x < s.to
  ·have t2 : decide (x < s.to) = true := by simpa using h2
   rw [if_pos h2] at HHS
   rw [HHS.out]
   clear h2
   go_enter Tryz.func51, Tryz.ntmps51
   go_wp2_with fail
   rw [HE.out]
   go_wp2_with fail
   refine (C3.out _ HR.out.2.2).mono ?_
   rintro e w1 ⟨rfl, hb1⟩
   have hB1 := keepBelow hW hb1
   clear B0 B1 B2 B3 B4 B5 B6
   go_wp2
   go_ret
   exact ⟨rfl, hB1⟩
  ·have t2 : decide (x < s.to) = false := by simpa using h2
   rw [if_neg h2] at HHS
   rw [HHS.out]
   clear h2
   go_enter Tryz.func51, Tryz.ntmps51
   go_wp2_with fail
   rw [HE.out]
   go_wp2_with fail
   refine (C2.out _ HR.out.2.1).mono ?_
   rintro e w1 ⟨rfl, hb1⟩
   have hB1 := keepBelow hW hb1
   clear B0 B1 B2 B3 B4 B5 B6
   go_wp2
   go_ret
   exact ⟨rfl, hB1⟩

set_option maxRecDepth 100000 in
set_option maxHeartbeats 8000000 in
theorem change14_any (s : St) (vl vr vv : Value) (x0 : Int) (w : World) (h : RdSt w s vl vr vv) (hs : OkS s) :
  Calls Tryz.prog 84 #[.agg #[.int .i64 s.lf.1, vl, .int .i64 s.rt.1, vr, .int .i64 s.fr, .int .i64 s.to, vv], .int .i64 x0] w (OpPost (ChSpec true s x0) w) := by
 have HOK := Lib.hid hs
 obtain ⟨hrl, hP1, hP2, _⟩ := rvB_of_pvB hs.lf
 obtain ⟨hrr, hQ1, hQ2, _⟩ := rvB_of_pvB hs.rt
 have hll := (canon_of_rvB hrl).2.2
 have hlr := (canon_of_rvB hrr).2.2
 have hGL := goodP_of_pvB hs.lf
 have hGR := goodP_of_pvB hs.rt
 have C0 := Lib.hid (fun W => line10_any x0 W)
 have C1 : Hid (∀ x W, RdS W vl s.lf.2 → -1152921504606846976 ≤ x → x ≤ 1152921504606846976 → Calls Tryz.prog 123 #[.agg #[.int .i64 s.lf.1, vl], .int .i64 x] W (AfPost s.lf.1 s.lf.2 x W)) := fun x W hr h1 h2 => after14_any s.lf.1 x vl s.lf.2 W hr hGL hP2 hll h1 h2
 have C2 : Hid (∀ x W, RdS W vr s.rt.2 → -1152921504606846976 ≤ x → x ≤ 1152921504606846976 → Calls Tryz.prog 123 #[.agg #[.int .i64 s.rt.1, vr], .int .i64 x] W (AfPost s.rt.1 s.rt.2 x W)) := fun x W hr h1 h2 => after14_any s.rt.1 x vr s.rt.2 W hr hGR hQ2 hlr h1 h2
 have C3 : Hid (∀ x W, RdSt W s vl vr vv → -1152921504606846976 ≤ x → x ≤ 1152921504606846976 → Calls Tryz.prog 51 #[.agg #[.int .i64 s.lf.1, vl, .int .i64 s.rt.1, vr, .int .i64 s.fr, .int .i64 s.to, vv], .int .i64 x] W fun e w' => e = .returned (.bool (hasS s x)) ∧ Below W.heap.size W w') := fun x W hr h1 h2 => has14_any s vl vr vv x W hr hs h1 h2
 have hft := hs.ft
 have hf1 := hs.f1
 have ht1 := hs.t1
 clear hrl hrr hGL hGR hs
 have HR0 := Lib.hid h
 obtain ⟨a1, n1, rfl⟩ := h.1.form
 obtain ⟨a2, n2, rfl⟩ := h.2.1.form
 obtain ⟨a3, n3, rfl⟩ := h.2.2.form
 clear h
 obtain ⟨W, hWe⟩ : ∃ W, w.alloc (.cells #[.int .i64 s.lf.1, .slice a1 s.lf.2.length n1, .int .i64 s.rt.1, .slice a2 s.rt.2.length n2, .int .i64 s.fr, .int .i64 s.to, .slice a3 s.l.length n3] 54) = W := ⟨_, rfl⟩
 have hW : Below w.heap.size w W := by rw [← hWe]; exact (Below.refl _ w).alloc (Nat.le_refl _) _
 have HX : Hid (Set7 W w.heap.size (.int .i64 s.lf.1) (.slice a1 s.lf.2.length n1) (.int .i64 s.rt.1) (.slice a2 s.rt.2.length n2) (.int .i64 s.fr) (.int .i64 s.to) (.slice a3 s.l.length n3)) := by
  rw [← hWe]
  refine ⟨⟨?_, ?_, ?_, ?_, ?_, ?_, ?_⟩, ?_, ?_, ?_, ?_, ?_, ?_, ?_⟩ <;> simp [go_sem]
 have HR := Lib.hid (keepSt hW HR0.out)
 have HE := Lib.hid hWe
 clear hWe
 have HRV := Lib.hid HR0.out.2.2
 obtain ⟨hl3, hc3⟩ : s.l.length ≤ 8796093022208 ∧ ∀ i, i < s.l.length → ∃ b o, a3 = some ⟨b, o, none⟩ ∧ w.cell? ⟨b, o + i * 2, none⟩ = some (.int .i64 (s.l.getD i (0, 0)).1) ∧ w.cell? ⟨b, o + i * 2 + 1, none⟩ = some (.int .i64 (s.l.getD i (0, 0)).2) := by
  obtain ⟨p, c, e, h1, h2⟩ := HRV.out
  cases e
  exact ⟨h1, h2⟩
 have HC := Lib.hid hc3
 clear hc3
 cases hlx : lineB x0 with
 | false =>
  rw [hlx] at C0
  have HLX := Lib.hid hlx
  clear hlx
  obtain ⟨⟨B0, B1, B2, B3, B4, B5, B6⟩, _⟩ := HX.out
  go_enter Tryz.func84, Tryz.ntmps84
  go_wp2_with fail
  rw [HE.out]
  go_wp2_with fail
  refine (C0.out _).mono ?_
  rintro e w1 ⟨rfl, rfl⟩
  go_wp2
  go_ret2
  exact ⟨none, by unfold ChSpec; rw [if_pos (.inl HLX.out)], rfl, hW⟩
 | true =>
 rw [hlx] at C0
 have hlb := (lineB_iff x0).1 hlx
 have HLX := Lib.hid hlx
 clear hlx
 have HCS : Hid (∀ r, (∃ q, NextC (hasS s) x0 q ∧ r = onLine q) → ChSpec true s x0 r) := fun r hr => by unfold ChSpec; rw [if_neg (by rw [HLX.out]; simp)]; exact hr
 obtain ⟨⟨B0, B1, B2, B3, B4, B5, B6⟩, _⟩ := HX.out
 go_enter Tryz.func84, Tryz.ntmps84
 go_wp2_with fail
 rw [HE.out]
 go_wp2_with fail
 refine (C0.out _).mono ?_
 rintro e w1 ⟨rfl, rfl⟩
 go_wp2_with fail
 go_loopw [1] (fun ux wr => ∃ x : Int, ux = .int .i64 x ∧ x0 ≤ x ∧ x ≤ 4398046511104 ∧ Hid (∀ z, x0 < z → z ≤ x → hasS s (z - 1) = hasS s z) ∧ Below W.heap.size W wr) (fun ux _ => (4398046511104 - intOf ux).toNat)
 case atStart => exact ⟨x0, rfl, Int.le_refl _, hlb.2, fun z h1 h2 => by omega, Below.refl _ _⟩
 case round =>
  obtain ⟨x, rfl, hx1, hx2, HXX, hB⟩ := hrel
  have hBw := keepBelow hW hB
  have HXr := Lib.hid (HX.out.below hB)
  have HRr := Lib.hid (keepSt hB HR.out)
  clear B0 B1 B2 B3 B4 B5 B6
  obtain ⟨⟨B0, B1, B2, B3, B4, B5, B6⟩, _⟩ := HXr.out
  go_wp2_with fail
  refine (C1.out x _ HRr.out.1 (by omega) (by omega)).mono ?_
  rintro e w2 ⟨c1, b1, rfl, N1, hb2⟩
  have HX2 := Lib.hid (HXr.out.below hb2)
  have HR2 := Lib.hid (keepSt hb2 HRr.out)
  have hB2 := keepBelow hB hb2
  have HN1 := Lib.hid N1
  have hc1 : b1 = true → x < c1 ∧ c1 ≤ x + s.lf.1 := N1.1
  clear B0 B1 B2 B3 B4 B5 B6 hb2 N1
  obtain ⟨⟨B0, B1, B2, B3, B4, B5, B6⟩, _⟩ := HX2.out
  obtain ⟨r, hr⟩ : ∃ r, (b1 && decide (c1 < s.fr)) = r := ⟨_, rfl⟩
  have HRR := Lib.hid hr
  clear hr
  go_upto_region 5 with fail
  go_cut [26] from 13 to 110 (fun t wx => t = .bool r ∧ Below w2.heap.size w2 wx)
  case first =>
   cases b1 with
   | false =>
    have e : r = false := HRR.out.symm
    subst e
    go_wp2_with fail
    go_meet
    case rel => exact ⟨rfl, Below.refl _ _⟩
   | true =>
    have e : decide (c1 < s.fr) = r := HRR.out
    go_wp2_with fail
    go_meet
    case rel => exact ⟨rfl, Below.refl _ _⟩
  case rest =>
  obtain ⟨rfl, hbx⟩ := hcut
  have HXx := Lib.hid (HX2.out.below hbx)
  have HRx := Lib.hid (keepSt hbx HR2.out)
  have hBx := keepBelow hB2 hbx
  clear B0 B1 B2 B3 B4 B5 B6 hbx HX2 HR2
  obtain ⟨⟨B0, B1, B2, B3, B4, B5, B6⟩, _⟩ := HXx.out
  go_upto_if 26 with fail
  go_cut [6] from 13 to 110 (fun u wx' => ∃ n : Int, u = .int .i64 n ∧ x < n ∧ n ≤ 4398046511105 ∧ Hid (b1 = true → c1 < s.fr → n ≤ c1) ∧ Below wc.heap.size wc wx')
  case first =>
   cases r with
   | false =>
    have HF : Hid (¬ (b1 = true ∧ c1 < s.fr)) := by
     have := HRR.out
     intro hh
     rw [hh.1, decide_eq_true hh.2] at this
     cases this
    go_wp2_with fail
    go_meet
    case rel => exact ⟨_, rfl, by omega, by omega, fun ha hb => absurd ⟨ha, hb⟩ HF.out, Below.refl _ _⟩
   | true =>
    have hT : b1 = true ∧ c1 < s.fr := by
     have := HRR.out
     simp at this
     exact this
    have hcc := hc1 hT.1
    have hT2 := hT.2
    clear hT
    go_wp2_with fail
    go_meet
    case rel => exact ⟨_, rfl, by omega, by omega, fun _ _ => by omega, Below.refl _ _⟩
  case rest =>
  obtain ⟨na, rfl, na1, na2, HNa, hb3⟩ := hcut
  have HX3 := Lib.hid (HXx.out.below hb3)
  have HR3 := Lib.hid (keepSt hb3 HRx.out)
  have hB3 := keepBelow hBx hb3
  clear B0 B1 B2 B3 B4 B5 B6 hb3 hc1 HXx HRx
  obtain ⟨⟨B0, B1, B2, B3, B4, B5, B6⟩, _⟩ := HX3.out
  obtain ⟨M, hM⟩ : ∃ M, max x s.to = M := ⟨_, rfl⟩
  have hMb : x ≤ M ∧ s.to ≤ M ∧ M ≤ 4398046511104 := by omega
  have HMM := Lib.hid hM
  have C2' := C2.out
  have K2 := Lib.hid (fun W hr => C2' M W hr (by omega) (by omega))
  clear C2'
  rw [← HMM.out] at K2
  clear hM
  have K2' := K2.out
  go_wp2_with fail
  refine (K2' _ HR3.out.2.1).mono ?_
  rw [HMM.out]
  clear K2'
  rintro e w4 ⟨c2, b2, rfl, N2, hb4⟩
  have HX4 := Lib.hid (HX3.out.below hb4)
  have HR4 := Lib.hid (keepSt hb4 HR3.out)
  have hB4 := keepBelow hB3 hb4
  have hc2 : b2 = true → M < c2 ∧ c2 ≤ M + s.rt.1 := N2.1
  have HN2 := Lib.hid N2
  rw [← HMM.out] at HN2
  clear B0 B1 B2 B3 B4 B5 B6 hb4 N2 HX3 HR3
  obtain ⟨⟨B0, B1, B2, B3, B4, B5, B6⟩, _⟩ := HX4.out
  go_upto_if 40 with fail
  go_cut [6] from 13 to 110 (fun u wx => ∃ n : Int, u = .int .i64 n ∧ x < n ∧ n ≤ na ∧ Hid (b2 = true → n ≤ c2) ∧ Below w4.heap.size w4 wx)
  case first =>
   cases b2 with
   | false =>
    go_wp2_with fail
    go_meet
    case rel => exact ⟨_, rfl, by omega, by omega, (fun hh => by cases hh), Below.refl _ _⟩
   | true =>
    have hcc := hc2 rfl
    go_wp2_with fail
    go_meet
    case rel => exact ⟨_, rfl, by omega, by omega, fun _ => by omega, Below.refl _ _⟩
  case rest =>
  obtain ⟨nb, rfl, nb1, nb2, HNb, hb5⟩ := hcut
  have HX5 := Lib.hid (HX4.out.below hb5)
  have HR5 := Lib.hid (keepSt hb5 HR4.out)
  have hB5 := keepBelow hB4 hb5
  clear B0 B1 B2 B3 B4 B5 B6 hb5 hc2 HX4 HR4
  obtain ⟨⟨B0, B1, B2, B3, B4, B5, B6⟩, _⟩ := HX5.out
  go_upto_if 47 with fail
  go_cut [6] from 13 to 110 (fun u wx => ∃ n : Int, u = .int .i64 n ∧ x < n ∧ n ≤ nb ∧ Hid (x < s.fr → n ≤ s.fr) ∧ Below wc.heap.size wc wx)
  case first =>
   by_cases g : x < s.fr
   ·have t1 : decide (x < s.fr) = true := by simpa using g
    go_wp2_with fail
    go_meet
    case rel => exact ⟨_, rfl, by omega, by omega, fun _ => by omega, Below.refl _ _⟩
   ·have t1 : decide (x < s.fr) = false := by simpa using g
    go_wp2_with fail
    go_meet
    case rel => exact ⟨_, rfl, by omega, by omega, fun hh => by omega, Below.refl _ _⟩
  case rest =>
  obtain ⟨nc, rfl, nc1, nc2, HNc, hb6⟩ := hcut
  have HX6 := Lib.hid (HX5.out.below hb6)
  have HR6 := Lib.hid (keepSt hb6 HR5.out)
  have hB6 := keepBelow hB5 hb6
  clear B0 B1 B2 B3 B4 B5 B6 hb6 HX5 HR5
  obtain ⟨⟨B0, B1, B2, B3, B4, B5, B6⟩, _⟩ := HX6.out
  go_upto_if 55 with fail
  go_cut [6] from 13 to 110 (fun u wx => ∃ n : Int, u = .int .i64 n ∧ x < n ∧ n ≤ nc ∧ Hid (x < s.to → n ≤ s.to) ∧ Below wc.heap.size wc wx)
  case first =>
   by_cases g : x < s.to
   ·have t1 : decide (x < s.to) = true := by simpa using g
    go_wp2_with fail
    go_meet
    case rel => exact ⟨_, rfl, by omega, by omega, fun _ => by omega, Below.refl _ _⟩
   ·have t1 : decide (x < s.to) = false := by simpa using g
    go_wp2_with fail
    go_meet
    case rel => exact ⟨_, rfl, by omega, by omega, fun hh => by omega, Below.refl _ _⟩
  case rest =>
  obtain ⟨nd, rfl, nd1, nd2, HNd, hb7⟩ := hcut
  have HX7 := Lib.hid (HX6.out.below hb7)
  have HR7 := Lib.hid (keepSt hb7 HR6.out)
  have hB7 := keepBelow hB6 hb7
  clear B0 B1 B2 B3 B4 B5 B6 hb7 HX6 HR6
  obtain ⟨⟨B0, B1, B2, B3, B4, B5, B6⟩, _⟩ := HX7.out
  go_wp2_with fail
  go_loopw [6, 9] (fun un vi w8 => ∃ (i : Nat) (n : Int), un = .int .i64 n ∧ vi = .int .i64 i ∧ i ≤ s.l.length ∧ x < n ∧ n ≤ nd ∧ Hid (∀ j, j < i → (x < (s.l.getD j (0, 0)).1 → n ≤ (s.l.getD j (0, 0)).1) ∧ (x < (s.l.getD j (0, 0)).2 → n ≤ (s.l.getD j (0, 0)).2)) ∧ Below wc.heap.size wc w8) (fun _ vi _ => s.l.length - (intOf vi).toNat)
  case atStart => exact ⟨0, nd, rfl, rfl, Nat.zero_le _, nd1, Int.le_refl _, fun j hj => by omega, Below.refl _ _⟩
  case round =>
   obtain ⟨i, nx, rfl, rfl, hi, hn1, hn2, HJ, hB8⟩ := hrel
   have HX8 := Lib.hid (HX7.out.below hB8)
   have HR8 := Lib.hid (keepSt hB8 HR7.out)
   have hBw8 := keepBelow hW (keepBelow hB7 hB8)
   clear B0 B1 B2 B3 B4 B5 B6
   obtain ⟨⟨B0, B1, B2, B3, B4, B5, B6⟩, _⟩ := HX8.out
   by_cases hli : i < s.l.length
   ·obtain ⟨bb, o, y1, y2, rfl, hbw, HXY, d1, d2⟩ := rd_at HC.out hBw8 hli
    have hli' : (i : Int) < (s.l.length : Int) := by omega
    have HJ2 : Hid (∀ n, n ≤ nx → (x < y1 → n ≤ y1) → (x < y2 → n ≤ y2) → Hid (∀ j, j < i + 1 → (x < (s.l.getD j (0, 0)).1 → n ≤ (s.l.getD j (0, 0)).1) ∧ (x < (s.l.getD j (0, 0)).2 → n ≤ (s.l.getD j (0, 0)).2))) := fun n a1 a2 a3 j hj => by
     rcases Nat.lt_succ_iff_lt_or_eq.1 hj with h | rfl
     ·have := HJ.out j h
      exact ⟨fun h1 => by have := this.1 h1; omega, fun h1 => by have := this.2 h1; omega⟩
     ·rw [HXY.out]
      exact ⟨fun h1 => by simp only at h1 ⊢; exact a2 h1, fun h1 => by simp only at h1 ⊢; exact a3 h1⟩
    by_cases t1 : x < y1
    ·have g1 : decide (x < y1) = true := by simpa using t1
     by_cases t3 : x < y2
     ·have g3 : decide (x < y2) = true := by simpa using t3
      go_wp2
      go_roundw
      case rel => exact ⟨i + 1, _, rfl, by go_num, by omega, by omega, by omega, HJ2.out _ (by omega) (fun _ => by omega) (fun _ => by omega), hB8⟩
      case measure => simp [intOf]; omega
     ·have g3 : decide (x < y2) = false := by simpa using t3
      go_wp2
      go_roundw
      case rel => exact ⟨i + 1, _, rfl, by go_num, by omega, by omega, by omega, HJ2.out _ (by omega) (fun _ => by omega) (fun _ => by omega), hB8⟩
      case measure => simp [intOf]; omega
    ·have g1 : decide (x < y1) = false := by simpa using t1
     by_cases t3 : x < y2
     ·have g3 : decide (x < y2) = true := by simpa using t3
      go_wp2
      go_roundw
      case rel => exact ⟨i + 1, _, rfl, by go_num, by omega, by omega, by omega, HJ2.out _ (by omega) (fun _ => by omega) (fun _ => by omega), hB8⟩
      case measure => simp [intOf]; omega
     ·have g3 : decide (x < y2) = false := by simpa using t3
      go_wp2
      go_roundw
      case rel => exact ⟨i + 1, _, rfl, by go_num, by omega, by omega, by omega, HJ2.out _ (by omega) (fun _ => by omega) (fun _ => by omega), hB8⟩
      case measure => simp [intOf]; omega
   ·have HEN : Hid (∀ e ∈ endsOf s.l, x < e → nx ≤ e) := ends_idx (Q := fun e => x < e → nx ≤ e) fun j hj => HJ.out j (by omega)
    have HGAP : Hid (∀ z, x < z → z < nx → hasS s (z - 1) = hasS s z) := change_gap HOK.out.good HN1.out HN2.out (fun a b => by have := HNa.out a b; omega) (fun a => by have := HNb.out a; omega) (fun a => by have := HNc.out a; omega) (fun a => by have := HNd.out a; omega) HEN.out
    have HALL : Hid (∀ z, x0 < z → z < nx → hasS s (z - 1) = hasS s z) := fun z h1 h2 => by
     by_cases hz : z ≤ x
     ·exact HXX.out z h1 hz
     ·exact HGAP.out z (by omega) h2
    have hB9 := keepBelow hB7 hB8
    by_cases hbig : 4398046511104 < nx
    ·have t1 : decide (4398046511104 < nx) = true := by simpa using hbig
     have HNO : Hid (∃ q, NextC (hasS s) x0 q ∧ (none : Option Int) = onLine q) := by
      obtain ⟨q, hq⟩ := next_ex (hasS s) x0
      refine ⟨q, hq, ?_⟩
      cases q with
      | none => rfl
      | some y =>
       have hy : 4398046511104 < y := by
        rcases Int.lt_or_le 4398046511104 y with h | h
        ·exact h
        ·exact absurd (HALL.out y hq.1 (by omega)) hq.2.1
       show none = if 4398046511104 < y then none else some y
       rw [if_pos hy]
     clear hbig
     go_wp2
     go_ret2
     exact ⟨none, HCS.out _ HNO.out, rfl, hBw8⟩
    ·have t1 : decide (4398046511104 < nx) = false := by simpa using hbig
     have e0 := ext_cell B0
     have e1 := ext_cell B1
     have e2 := ext_cell B2
     have e3 := ext_cell B3
     have e4 := ext_cell B4
     have e5 := ext_cell B5
     have e6 := ext_cell B6
     have HR9 : Hid (∀ X : Ext wr, RdSt (extOf wr X) s (.slice a1 s.lf.2.length n1) (.slice a2 s.rt.2.length n2) (.slice a3 s.l.length n3)) := fun X => ⟨ext_rd HR8.out.1 X, ext_rd HR8.out.2.1 X, ext_rd HR8.out.2.2 X⟩
     cases hd : (hasS s (nx - 1) == hasS s nx) with
     | true =>
      have HSE : Hid (hasS s (nx - 1) = hasS s nx) := by unfold Hid; simpa using hd
      have HX3 : Hid (∀ z, x0 < z → z ≤ nx → hasS s (z - 1) = hasS s z) := fun z h1 h2 => by
       by_cases hz : z = nx
       ·rw [hz]; exact HSE.out
       ·exact HALL.out z h1 (by omega)
      go_wp2_with fail
      refine wp_region_ext (by kernel_rfl) (by kernel_rfl) ?_
      iterate 8 (go_big_quiet_step ((go_at_call 51; refine calls_ext (C3.out _ _ (HR9.out _) (by omega) (by omega)))))
      refine wpQuiet_nil ?_
      intro w9 hb9
      have hB10 := keepBelow hB9 hb9
      clear e0 e1 e2 e3 e4 e5 e6 B0 B1 B2 B3 B4 B5 B6
      go_wp2
      go_roundw
      case rel => exact ⟨nx, rfl, by omega, by omega, HX3, hB10⟩
      case measure => simp [intOf]; omega
     | false =>
      have HSE : Hid (hasS s (nx - 1) ≠ hasS s nx) := by unfold Hid; simpa using hd
      have HYES : Hid (∃ q, NextC (hasS s) x0 q ∧ some nx = onLine q) := by
       refine ⟨some nx, ⟨by omega, HSE.out, fun z h1 h2 => HALL.out z h1 h2⟩, ?_⟩
       show some nx = if 4398046511104 < nx then none else some nx
       rw [if_neg hbig]
      go_wp2_with fail
      refine wp_region_ext (by kernel_rfl) (by kernel_rfl) ?_
      iterate 8 (go_big_quiet_step ((go_at_call 51; refine calls_ext (C3.out _ _ (HR9.out _) (by omega) (by omega)))))
      refine wpQuiet_nil ?_
      intro w9 hb9
      have hB10 := keepBelow hBw8 hb9
      clear e0 e1 e2 e3 e4 e5 e6 B0 B1 B2 B3 B4 B5 B6
      go_wp2
      go_ret2
      exact ⟨some nx, HCS.out _ HYES.out, rfl, hB10⟩
end Go.Proofs.YtlbjfbpejomkmaaGreat
namespace Go.Proofs.YtlbjfbpejomkmaaGreat
open Go.RowKit Wk

set_option maxRecDepth 100000 in
set_option maxHeartbeats 4000000 in
theorem next14_any (s : St) (vl vr vv : Value) (x : Int) (w : World) (h : RdSt w s vl vr vv) (hs : OkS s) :
  Calls Tryz.prog 83 #[.agg #[.int .i64 s.lf.1, vl, .int .i64 s.rt.1, vr, .int .i64 s.fr, .int .i64 s.to, vv], .int .i64 x] w (OpPost (NeSpec true s x) w) := by
 have C0 := Lib.hid (fun W => line10_any x W)
 have C1 := Lib.hid (fun W h h1 h2 => has14_any s vl vr vv x W h hs h1 h2)
 have C2 := Lib.hid (fun W h => change14_any s vl vr vv x W h hs)
 clear hs
 have HR0 := Lib.hid h
 obtain ⟨a1, n1, rfl⟩ := h.1.form
 obtain ⟨a2, n2, rfl⟩ := h.2.1.form
 obtain ⟨a3, n3, rfl⟩ := h.2.2.form
 clear h
 obtain ⟨W, hWe⟩ : ∃ W, w.alloc (.cells #[.int .i64 s.lf.1, .slice a1 s.lf.2.length n1, .int .i64 s.rt.1, .slice a2 s.rt.2.length n2, .int .i64 s.fr, .int .i64 s.to, .slice a3 s.l.length n3] 54) = W := ⟨_, rfl⟩
 have hW : Below w.heap.size w W := by rw [← hWe]; exact (Below.refl _ w).alloc (Nat.le_refl _) _
 have HX : Hid (Set7 W w.heap.size (.int .i64 s.lf.1) (.slice a1 s.lf.2.length n1) (.int .i64 s.rt.1) (.slice a2 s.rt.2.length n2) (.int .i64 s.fr) (.int .i64 s.to) (.slice a3 s.l.length n3)) := by
  rw [← hWe]
  refine ⟨⟨?_, ?_, ?_, ?_, ?_, ?_, ?_⟩, ?_, ?_, ?_, ?_, ?_, ?_, ?_⟩ <;> simp [go_sem]
 have HR := Lib.hid (keepSt hW HR0.out)
 have HE := Lib.hid hWe
 clear hWe
 obtain ⟨⟨B0, B1, B2, B3, B4, B5, B6⟩, _⟩ := HX.out
 cases hl : lineB x with
 | false =>
  have HP : Hid (NeSpec true s x none) := by unfold Hid NeSpec; rw [if_pos (.inl hl)]
  rw [hl] at C0
  clear hl
  go_enter Tryz.func83, Tryz.ntmps83
  go_wp2_with fail
  rw [HE.out]
  go_wp2_with fail
  refine (C0.out _).mono ?_
  rintro e w1 ⟨rfl, rfl⟩
  go_wp2
  go_ret2
  exact ⟨none, HP.out, rfl, hW⟩
 | true =>
  rw [hl] at C0
  have hlb := (lineB_iff x).1 hl
  have HL := Lib.hid hl
  clear hl
  cases hh : hasS s x with
  | true =>
   have HP : Hid (NeSpec true s x (some x)) := by unfold Hid NeSpec; rw [if_neg (by rw [HL.out]; simp), if_pos hh]
   rw [hh] at C1
   clear hh
   go_enter Tryz.func83, Tryz.ntmps83
   go_wp2_with fail
   rw [HE.out]
   go_wp2_with fail
   refine (C0.out _).mono ?_
   rintro e w1 ⟨rfl, rfl⟩
   go_wp2_with fail
   refine (C1.out _ HR.out (by omega) (by omega)).mono ?_
   rintro e w2 ⟨rfl, hb2⟩
   have hB2 := keepBelow hW hb2
   clear B0 B1 B2 B3 B4 B5 B6
   go_wp2
   go_ret2
   exact ⟨some x, HP.out, rfl, hB2⟩
  | false =>
   have HP : Hid (∀ r, ChSpec true s x r → NeSpec true s x r) := by
    intro r hr
    unfold NeSpec
    unfold ChSpec at hr
    rw [if_neg (by rw [HL.out]; simp)] at hr ⊢
    rw [if_neg (by rw [hh]; simp)]
    exact hr
   rw [hh] at C1
   clear hh
   go_enter Tryz.func83, Tryz.ntmps83
   go_wp2_with fail
   rw [HE.out]
   go_wp2_with fail
   refine (C0.out _).mono ?_
   rintro e w1 ⟨rfl, rfl⟩
   go_wp2_with fail
   refine (C1.out _ HR.out (by omega) (by omega)).mono ?_
   rintro e w2 ⟨rfl, hb2⟩
   have HX2 := Lib.hid (HX.out.below hb2)
   have HR2 := Lib.hid (keepSt hb2 HR.out)
   have hB2 := keepBelow hW hb2
   clear B0 B1 B2 B3 B4 B5 B6
   obtain ⟨⟨B0, B1, B2, B3, B4, B5, B6⟩, _⟩ := HX2.out
   go_wp2_with fail
   refine (C2.out _ HR2.out).mono ?_
   rintro e w3 ⟨r, hr, rfl, hb3⟩
   have hB3 := keepBelow hB2 hb3
   have HRS := Lib.hid hr
   clear B0 B1 B2 B3 B4 B5 B6 hr
   go_wp2
   go_ret2
   exact ⟨r, HP.out r HRS.out, rfl, hB3⟩

theorem onLine_uniq {h : Int → Bool} {x : Int} {r r' : Option Int} (h1 : ∃ q, NextC h x q ∧ r = onLine q) (h2 : ∃ q, NextC h x q ∧ r' = onLine q) : r = r' := by
 obtain ⟨q, a, rfl⟩ := h1
 obtain ⟨q', a', rfl⟩ := h2
 rw [next_uniq a a']
theorem neSpec_uniq {b : Bool} {s : St} {x : Int} {r r' : Option Int} (h1 : NeSpec b s x r) (h2 : NeSpec b s x r') : r = r' := by
 unfold NeSpec at h1 h2
 split at h1
 ·rename_i hc; rw [if_pos hc] at h2; rw [h1, h2]
 ·rename_i hc
  rw [if_neg hc] at h2
  split at h1
  ·rename_i hd; rw [if_pos hd] at h2; rw [h1, h2]
  ·rename_i hd; rw [if_neg hd] at h2; exact onLine_uniq h1 h2
end Go.Proofs.YtlbjfbpejomkmaaGreat
namespace Go.Proofs.YtlbjfbpejomkmaaGreat
open Go.RowKit Wk

theorem rdS_nil (w : World) : RdS w (.slice none 0 0) [] := ⟨none, 0, rfl, by simp, fun i hi => by simp at hi⟩

end Go.Proofs.YtlbjfbpejomkmaaGreat
