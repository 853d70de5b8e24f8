import Derived.Test.YtmfdnbfjdhlonaaGreatDoorWkQp
/- The law OpeningPointwise. -/
namespace Go.Proofs.YtmfdnbfjdhlonaaGreatDoor
open Go.RowKit Wk

set_option maxRecDepth 100000 in
set_option maxHeartbeats 8000000 in
theorem law_OpeningPointwise (v0 v1 v2 v3 v4 v5 v6 : Value) (H : List (List Sp)) (x1 x2 : Int) (w : World) (hg : Glob w) (h : RdH w [v0, v1, v2, v3, v4, v5, v6] H) (hx1 : -2147483648 ≤ x1) (hx2 : x1 ≤ 2147483647) (hx3 : 0 ≤ x2) (hx4 : x2 ≤ 4294967295) :
  Calls Tryz.prog 4 #[.agg #[v0, v1, v2, v3, v4, v5, v6], .int .i32 x1, .int .u32 x2] w fun e w' => e = .returned (.bool true) ∧ Below w.heap.size w w' := by
 have hH := h.2.1
 obtain ⟨d, hd⟩ : ∃ d, x1.tmod 100000 = d := ⟨_, rfl⟩
 obtain ⟨s, hs⟩ : ∃ s, x2.tmod 86400 = s := ⟨_, rfl⟩
 have hdb : -100000 < d ∧ d < 100000 := by
  rw [← hd]
  have := Int.lt_tmod_of_pos x1 (b := 100000) (by omega)
  have := Int.tmod_lt_of_pos x1 (b := 100000) (by omega)
  omega
 have hsb : 0 ≤ s ∧ s < 86400 := by
  rw [← hs]
  have := Int.tmod_nonneg 86400 hx3
  have := Int.tmod_lt_of_pos x2 (b := 86400) (by omega)
  omega
 obtain ⟨W, hWe⟩ : ∃ W, w.alloc (.cells #[v0, v1, v2, v3, v4, v5, v6] 25) = W := ⟨_, rfl⟩
 have hB0 : Below w.heap.size w W := by rw [← hWe]; exact (Below.refl _ w).alloc (Nat.le_refl _) _
 have c0 : W.cell? ⟨w.heap.size, 0, none⟩ = some v0 := by rw [← hWe]; simp [go_sem]
 have c1 : W.cell? ⟨w.heap.size, 1, none⟩ = some v1 := by rw [← hWe]; simp [go_sem]
 have c2 : W.cell? ⟨w.heap.size, 2, none⟩ = some v2 := by rw [← hWe]; simp [go_sem]
 have c3 : W.cell? ⟨w.heap.size, 3, none⟩ = some v3 := by rw [← hWe]; simp [go_sem]
 have c4 : W.cell? ⟨w.heap.size, 4, none⟩ = some v4 := by rw [← hWe]; simp [go_sem]
 have c5 : W.cell? ⟨w.heap.size, 5, none⟩ = some v5 := by rw [← hWe]; simp [go_sem]
 have c6 : W.cell? ⟨w.heap.size, 6, none⟩ = some v6 := by rw [← hWe]; simp [go_sem]
 have HR0 := Lib.hid (h.below hB0)
 have HAW := Lib.hid (awake27_any W (hg.below hB0))
 have HE := Lib.hid hWe
 have HHL := Lib.hid hH
 have HDB := Lib.hid hdb
 have HSB := Lib.hid hsb
 clear hWe h hg hdb hsb
 go_enter Tryz.func4, Tryz.ntmps4
 go_wp2_with fail
 rw [HE.out]
 go_wp2_with fail
 refine HAW.out.mono ?_
 rintro e w1 ⟨rfl, hb1⟩
 have HR1 := Lib.hid (HR0.out.below hb1)
 have HB1 := Lib.hid (keepBelow hB0 hb1)
 have d0 := keepCell hb1 c0
 have d1 := keepCell hb1 c1
 have d2 := keepCell hb1 c2
 have d3 := keepCell hb1 c3
 have d4 := keepCell hb1 c4
 have d5 := keepCell hb1 c5
 have d6 := keepCell hb1 c6
 have HFE := Lib.hid (fewH_any _ _ _ _ _ _ _ H w1 HR1.out)
 obtain ⟨q, hq⟩ : ∃ q, few30 H = q := ⟨_, rfl⟩
 rw [hq] at HFE
 clear hb1 hB0 HAW HE c0 c1 c2 c3 c4 c5 c6 hq
 go_wp2_with fail
 refine HFE.out.mono ?_
 rintro e w2 ⟨rfl, hb2⟩
 have HR2 := Lib.hid (HR1.out.below hb2)
 have HB2 := Lib.hid (keepBelow HB1.out hb2)
 have g0 := keepCell hb2 d0
 have g1 := keepCell hb2 d1
 have g2 := keepCell hb2 d2
 have g3 := keepCell hb2 d3
 have g4 := keepCell hb2 d4
 have g5 := keepCell hb2 d5
 have g6 := keepCell hb2 d6
 clear hb2 d0 d1 d2 d3 d4 d5 d6 HFE HR0
 cases q with
 | false =>
  go_wp2_with fail
  go_ret
  exact ⟨rfl, HB2.out⟩
 | true =>
  have HW := Lib.hid (week_any _ _ _ _ _ _ _ H w2 HR2.out)
  have hoN := @week_no 4 H
  have hoY := @week_has H HHL.out
  obtain ⟨⟨S, n⟩, hS⟩ : ∃ r, weekM 4 H = r := ⟨_, rfl⟩
  rw [hS] at HW hoN hoY
  obtain ⟨o, ho⟩ : ∃ o, okH H = o := ⟨_, rfl⟩
  have HON := Lib.hid hoN
  have HOY := Lib.hid hoY
  have HO := Lib.hid ho
  clear hS ho hoN hoY
  go_wp2_with fail
  refine HW.out.mono ?_
  rintro e w3 ⟨vl, vr, vv, rfl, hst, hb3⟩
  obtain ⟨l1, l2, l3⟩ := hst
  obtain ⟨a1, b1, rfl⟩ := l1.form
  obtain ⟨a2, b2, rfl⟩ := l2.form
  obtain ⟨a3, b3, rfl⟩ := l3.form
  have hbb : Below w3.heap.size w3 (w3.alloc (.cells #[.int .i64 S.lf.1, .slice a1 S.lf.2.length b1, .int .i64 S.rt.1, .slice a2 S.rt.2.length b2, .int .i64 S.fr, .int .i64 S.to, .slice a3 S.l.length b3] 31)) := (Below.refl _ _).alloc (Nat.le_refl _) _
  have s0 : (w3.alloc (.cells #[.int .i64 S.lf.1, .slice a1 S.lf.2.length b1, .int .i64 S.rt.1, .slice a2 S.rt.2.length b2, .int .i64 S.fr, .int .i64 S.to, .slice a3 S.l.length b3] 31)).cell? ⟨w3.heap.size, 0, none⟩ = some (.int .i64 S.lf.1) := by simp [go_sem]
  have s1 : (w3.alloc (.cells #[.int .i64 S.lf.1, .slice a1 S.lf.2.length b1, .int .i64 S.rt.1, .slice a2 S.rt.2.length b2, .int .i64 S.fr, .int .i64 S.to, .slice a3 S.l.length b3] 31)).cell? ⟨w3.heap.size, 1, none⟩ = some (.slice a1 S.lf.2.length b1) := by simp [go_sem]
  have s2 : (w3.alloc (.cells #[.int .i64 S.lf.1, .slice a1 S.lf.2.length b1, .int .i64 S.rt.1, .slice a2 S.rt.2.length b2, .int .i64 S.fr, .int .i64 S.to, .slice a3 S.l.length b3] 31)).cell? ⟨w3.heap.size, 2, none⟩ = some (.int .i64 S.rt.1) := by simp [go_sem]
  have s3 : (w3.alloc (.cells #[.int .i64 S.lf.1, .slice a1 S.lf.2.length b1, .int .i64 S.rt.1, .slice a2 S.rt.2.length b2, .int .i64 S.fr, .int .i64 S.to, .slice a3 S.l.length b3] 31)).cell? ⟨w3.heap.size, 3, none⟩ = some (.slice a2 S.rt.2.length b2) := by simp [go_sem]
  have s4 : (w3.alloc (.cells #[.int .i64 S.lf.1, .slice a1 S.lf.2.length b1, .int .i64 S.rt.1, .slice a2 S.rt.2.length b2, .int .i64 S.fr, .int .i64 S.to, .slice a3 S.l.length b3] 31)).cell? ⟨w3.heap.size, 4, none⟩ = some (.int .i64 S.fr) := by simp [go_sem]
  have s5 : (w3.alloc (.cells #[.int .i64 S.lf.1, .slice a1 S.lf.2.length b1, .int .i64 S.rt.1, .slice a2 S.rt.2.length b2, .int .i64 S.fr, .int .i64 S.to, .slice a3 S.l.length b3] 31)).cell? ⟨w3.heap.size, 5, none⟩ = some (.int .i64 S.to) := by simp [go_sem]
  have s6 : (w3.alloc (.cells #[.int .i64 S.lf.1, .slice a1 S.lf.2.length b1, .int .i64 S.rt.1, .slice a2 S.rt.2.length b2, .int .i64 S.fr, .int .i64 S.to, .slice a3 S.l.length b3] 31)).cell? ⟨w3.heap.size, 6, none⟩ = some (.slice a3 S.l.length b3) := by simp [go_sem]
  have HS3 : Hid (RdSt (w3.alloc (.cells #[.int .i64 S.lf.1, .slice a1 S.lf.2.length b1, .int .i64 S.rt.1, .slice a2 S.rt.2.length b2, .int .i64 S.fr, .int .i64 S.to, .slice a3 S.l.length b3] 31)) S (.slice a1 S.lf.2.length b1) (.slice a2 S.rt.2.length b2) (.slice a3 S.l.length b3)) := Lib.hid (keepSt hbb ⟨l1, l2, l3⟩)
  have HR3 := Lib.hid ((HR2.out.below hb3).below hbb)
  have HB3 := Lib.hid (keepBelow (keepBelow HB2.out hb3) hbb)
  have k0 := keepCell hbb (keepCell hb3 g0)
  have k1 := keepCell hbb (keepCell hb3 g1)
  have k2 := keepCell hbb (keepCell hb3 g2)
  have k3 := keepCell hbb (keepCell hb3 g3)
  have k4 := keepCell hbb (keepCell hb3 g4)
  have k5 := keepCell hbb (keepCell hb3 g5)
  have k6 := keepCell hbb (keepCell hb3 g6)
  clear hb3 hbb l1 l2 l3 g0 g1 g2 g3 g4 g5 g6 HW
  cases o with
  | false =>
   have hSn := HON.out HO.out
   have hn1 : (1 : Int) = n := (congrArg Prod.snd hSn).symm
   subst hn1
   clear hSn
   have HV := Lib.hid (ovalid_any _ _ _ _ _ _ _ H _ HR3.out)
   rw [HO.out] at HV
   clear s0 s1 s2 s3 s4 s5 s6
   go_wp2_with fail
   refine HV.out.mono ?_
   rintro e w4 ⟨rfl, hb4⟩
   go_wp2_with fail
   go_ret
   exact ⟨rfl, keepBelow HB3.out hb4⟩
  | true =>
   obtain ⟨hn0, hvb, hhas⟩ := HOY.out HO.out
   have hn0' : (0 : Int) = n := hn0.symm
   subst hn0'
   have hvb : VB S = true := hvb
   have hhas : ∀ x, hasS S x = onP 604800 (wkT 4 H 7) x := hhas
   have hok := (okH_iff HHL.out).1 HO.out
   have HTH : Hid (∀ t : Int, -1152921504606846976 ≤ t → t ≤ 1152921504606846976 → ∀ W vl vr vv, RdSt W S vl vr vv → Calls Tryz.prog 18 #[.agg #[.int .i64 S.lf.1, vl, .int .i64 S.rt.1, vr, .int .i64 S.fr, .int .i64 S.to, vv], .int .i64 t] W fun e w' => e = .returned (.bool (onP 604800 (wkT 4 H 7) t)) ∧ Below W.heap.size W w') := Lib.hid fun t ht1 ht2 W vl vr vv hr => by
    have := thas_any S vl vr vv t W hr ht1 ht2
    rw [hvb, hhas t] at this
    simpa using this
   have hdb := HDB.out
   have hsb := HSB.out
   have HPW := Lib.hid (pw_eq (H := H) (k := s) (d := d) hsb.1 hsb.2 hok)
   have w1' : IntKind.i64.wrap x1 = x1 := by rw [IntKind.wrap_i64]; omega
   have w2' : IntKind.i64.wrap x2 = x2 := by rw [IntKind.wrap_i64]; omega
   have w3' : IntKind.i64.wrap d = d := by rw [IntKind.wrap_i64]; omega
   have w4' : IntKind.i64.wrap s = s := by rw [IntKind.wrap_i64]; omega
   have w5' : IntKind.i64.wrap (d + 3) = d + 3 := by rw [IntKind.wrap_i64]; omega
   obtain ⟨j, hj⟩ : ∃ j, ((d + 3) % 7).toNat = j := ⟨_, rfl⟩
   have hj7 : j < 7 := by omega
   have e1' : IntKind.i64.wrap ((d + 3).tmod 7 + 7) = (d + 3).tmod 7 + 7 := by
    have := Int.lt_tmod_of_pos (d + 3) (b := 7) (by omega)
    have := Int.tmod_lt_of_pos (d + 3) (b := 7) (by omega)
    rw [IntKind.wrap_i64]; omega
   have e2' : ((d + 3).tmod 7 + 7).tmod 7 = (j : Int) := by
    have := Int.lt_tmod_of_pos (d + 3) (b := 7) (by omega)
    have := Int.tmod_lt_of_pos (d + 3) (b := 7) (by omega)
    rw [Int.tmod_eq_emod_of_nonneg (by omega), Int.add_emod_right]
    have h3 : (d + 3).tmod 7 % 7 = (d + 3) % 7 := by
     have := Int.tmod_def (d + 3) 7
     omega
    rw [h3]
    omega
   rw [hj] at HPW
   have hbx := (HR3.out.box k0 k1 k2 k3 k4 k5 k6)
   have hbw : Below ((w3.alloc (.cells #[.int .i64 S.lf.1, .slice a1 S.lf.2.length b1, .int .i64 S.rt.1, .slice a2 S.rt.2.length b2, .int .i64 S.fr, .int .i64 S.to, .slice a3 S.l.length b3] 31))).heap.size (w3.alloc (.cells #[.int .i64 S.lf.1, .slice a1 S.lf.2.length b1, .int .i64 S.rt.1, .slice a2 S.rt.2.length b2, .int .i64 S.fr, .int .i64 S.to, .slice a3 S.l.length b3] 31)) ((w3.alloc (.cells #[.int .i64 S.lf.1, .slice a1 S.lf.2.length b1, .int .i64 S.rt.1, .slice a2 S.rt.2.length b2, .int .i64 S.fr, .int .i64 S.to, .slice a3 S.l.length b3] 31)).alloc (.cells #[.int .i64 s] 3)) := (Below.refl _ _).alloc (Nat.le_refl _) _
   have hsz : ((w3.alloc (.cells #[.int .i64 S.lf.1, .slice a1 S.lf.2.length b1, .int .i64 S.rt.1, .slice a2 S.rt.2.length b2, .int .i64 S.fr, .int .i64 S.to, .slice a3 S.l.length b3] 31))).heap.size = w3.heap.size + 1 := by simp
   obtain ⟨la, lc, hcl, hrl⟩ := (hbx.below hbw) j hj7
   have hpk : (((w3.alloc (.cells #[.int .i64 S.lf.1, .slice a1 S.lf.2.length b1, .int .i64 S.rt.1, .slice a2 S.rt.2.length b2, .int .i64 S.fr, .int .i64 S.to, .slice a3 S.l.length b3] 31)).alloc (.cells #[.int .i64 s] 3))).cell? ⟨w3.heap.size + 1, 0, none⟩ = some (.int .i64 s) := by rw [← hsz]; simp [go_sem]
   obtain ⟨l, hl⟩ : ∃ l, H.getD j [] = l := ⟨_, rfl⟩
   rw [hl] at hcl hrl HPW
   have HCON := Lib.hid (con_pw (w3.heap.size + 1) (inSp s) _ l ((w3.alloc (.cells #[.int .i64 S.lf.1, .slice a1 S.lf.2.length b1, .int .i64 S.rt.1, .slice a2 S.rt.2.length b2, .int .i64 S.fr, .int .i64 S.to, .slice a3 S.l.length b3] 31)).alloc (.cells #[.int .i64 s] 3)) hrl (Lib.hid fun x hx W hW => pw1_any (w3.heap.size + 1) s x W (keepCell hW hpk)))
   obtain ⟨q, hq⟩ : ∃ q, l.any (inSp s) = q := ⟨_, rfl⟩
   rw [hq] at HCON HPW
   have hqq : (q == q) = true := by simp
   obtain ⟨tt, htt⟩ : ∃ t, d * 86400 + s = t := ⟨_, rfl⟩
   have htb : -10000000000 ≤ tt ∧ tt ≤ 10000000000 := by omega
   have hpp := onP_per (wkT 4 H 7) tt
   rw [htt] at HPW
   rw [HPW.out] at hpp
   have m1 : IntKind.i64.wrap (d * 86400) = d * 86400 := by rw [IntKind.wrap_i64]; omega
   have m2 : IntKind.i64.wrap (d * 86400 + s) = tt := by rw [IntKind.wrap_i64]; omega
   have m3 : IntKind.i64.wrap (tt + 604800) = tt + 604800 := by rw [IntKind.wrap_i64]; omega
   have m4 : IntKind.i64.wrap (tt - 604800) = tt - 604800 := by rw [IntKind.wrap_i64]; omega
   have HT1 := Lib.hid (fun W vl vr vv hr => HTH.out tt (by omega) (by omega) W vl vr vv hr)
   have HT2 := Lib.hid (fun W vl vr vv hr => HTH.out (tt + 604800) (by omega) (by omega) W vl vr vv hr)
   have HT3 := Lib.hid (fun W vl vr vv hr => HTH.out (tt - 604800) (by omega) (by omega) W vl vr vv hr)
   rw [HPW.out] at HT1
   rw [hpp.1] at HT2
   rw [hpp.2] at HT3
   have hjb : (j : Int) < 7 := by omega
   have HSW := Lib.hid (keepSt hbw HS3.out)
   have HBW := Lib.hid (keepBelow HB3.out hbw)
   have n0 := keepCell hbw s0
   have n1 := keepCell hbw s1
   have n2 := keepCell hbw s2
   have n3 := keepCell hbw s3
   have n4 := keepCell hbw s4
   have n5 := keepCell hbw s5
   have n6 := keepCell hbw s6
   have hlb : (l.length : Int) ≤ 8796093022208 := by obtain ⟨_, _, _, q, _⟩ := hrl; omega
   clear hok hvb hhas HR3 HON HOY hbx hrl hq hl htt hpp hj hdb hsb hbw HTH HPW htb hsz s0 s1 s2 s3 s4 s5 s6 k0 k1 k2 k3 k4 k5 k6
   go_wp2_with fail
   refine HCON.out.mono ?_
   rintro e w4 ⟨rfl, hb4⟩
   have HS4 := Lib.hid (keepSt hb4 HSW.out)
   have HB4 := Lib.hid (keepBelow HBW.out hb4)
   have hk4 := keepCell hb4 hpk
   have p0 := keepCell hb4 n0
   have p1 := keepCell hb4 n1
   have p2 := keepCell hb4 n2
   have p3 := keepCell hb4 n3
   have p4 := keepCell hb4 n4
   have p5 := keepCell hb4 n5
   have p6 := keepCell hb4 n6
   clear hb4 n0 n1 n2 n3 n4 n5 n6 hpk hcl
   go_wp2_with fail
   refine (HT1.out _ _ _ _ HS4.out).mono ?_
   rintro e w5 ⟨rfl, hb5⟩
   have HS5 := Lib.hid (keepSt hb5 HS4.out)
   have HB5 := Lib.hid (keepBelow HB4.out hb5)
   have r0 := keepCell hb5 p0
   have r1 := keepCell hb5 p1
   have r2 := keepCell hb5 p2
   have r3 := keepCell hb5 p3
   have r4 := keepCell hb5 p4
   have r5 := keepCell hb5 p5
   have r6 := keepCell hb5 p6
   clear hb5 p0 p1 p2 p3 p4 p5 p6
   go_wp2_with fail
   refine (HT2.out _ _ _ _ HS5.out).mono ?_
   rintro e w6 ⟨rfl, hb6⟩
   have HS6 := Lib.hid (keepSt hb6 HS5.out)
   have HB6 := Lib.hid (keepBelow HB5.out hb6)
   have t0 := keepCell hb6 r0
   have t1 := keepCell hb6 r1
   have t2 := keepCell hb6 r2
   have t3 := keepCell hb6 r3
   have t4 := keepCell hb6 r4
   have t5 := keepCell hb6 r5
   have t6 := keepCell hb6 r6
   clear hb6 r0 r1 r2 r3 r4 r5 r6
   go_wp2_with fail
   refine (HT3.out _ _ _ _ HS6.out).mono ?_
   rintro e w7 ⟨rfl, hb7⟩
   have HB7 := Lib.hid (keepBelow HB6.out hb7)
   clear hb7
   go_wp2_with fail
   go_ret
   exact ⟨rfl, HB7.out⟩
end Go.Proofs.YtmfdnbfjdhlonaaGreatDoor
