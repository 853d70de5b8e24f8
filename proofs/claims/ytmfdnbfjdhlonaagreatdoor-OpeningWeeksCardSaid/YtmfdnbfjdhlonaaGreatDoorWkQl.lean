import Derived.Test.YtmfdnbfjdhlonaaGreatDoorWkOqD
import Derived.Test.YtmfdnbfjdhlonaaGreatDoorWkQk
import Derived.Test.YtmfdnbfjdhlonaaGreatDoorWkRfC
/- The reference's Week. -/
namespace Go.Proofs.YtmfdnbfjdhlonaaGreatDoor
open Go.RowKit Wk

def BoxR (W : World) (b : Nat) (H : List (List Sp)) : Prop := ∀ k, k < 7 → ∃ a c, W.cell? ⟨b, k, none⟩ = some (.slice a (H.getD k []).length c) ∧ RdS W (.slice a (H.getD k []).length c) (H.getD k [])
theorem BoxR.below {W W' : World} {b : Nat} {H : List (List Sp)} (h : BoxR W b H) (hb : Below W.heap.size W W') : BoxR W' b H := fun k hk => let ⟨a, c, h1, h2⟩ := h k hk; ⟨a, c, keepCell hb h1, keepRd hb h2⟩
theorem RdH.box {W : World} {b : Nat} {v0 v1 v2 v3 v4 v5 v6 : Value} {H : List (List Sp)} (h : RdH W [v0, v1, v2, v3, v4, v5, v6] H) (c0 : W.cell? ⟨b, 0, none⟩ = some v0) (c1 : W.cell? ⟨b, 1, none⟩ = some v1) (c2 : W.cell? ⟨b, 2, none⟩ = some v2) (c3 : W.cell? ⟨b, 3, none⟩ = some v3) (c4 : W.cell? ⟨b, 4, none⟩ = some v4) (c5 : W.cell? ⟨b, 5, none⟩ = some v5) (c6 : W.cell? ⟨b, 6, none⟩ = some v6) : BoxR W b H := by
 have key : ∀ (k : Nat) (v : Value), W.cell? ⟨b, k, none⟩ = some v → RdS W v (H.getD k []) → ∃ a c, W.cell? ⟨b, k, none⟩ = some (.slice a (H.getD k []).length c) ∧ RdS W (.slice a (H.getD k []).length c) (H.getD k []) := fun k v hc hr => by
  obtain ⟨a, c, rfl⟩ := hr.form
  exact ⟨a, c, hc, hr⟩
 intro k hk
 rcases k with _ | _ | _ | _ | _ | _ | _ | k
 ·exact key 0 v0 c0 (h.2.2 0 (by omega))
 ·exact key 1 v1 c1 (h.2.2 1 (by omega))
 ·exact key 2 v2 c2 (h.2.2 2 (by omega))
 ·exact key 3 v3 c3 (h.2.2 3 (by omega))
 ·exact key 4 v4 c4 (h.2.2 4 (by omega))
 ·exact key 5 v5 c5 (h.2.2 5 (by omega))
 ·exact key 6 v6 c6 (h.2.2 6 (by omega))
 ·omega
theorem ts_pure {p : Per} {w w2 : World} {b b1 : Nat} {a1 : Option Addr} (h : RdS w2 (.slice a1 p.2.length b1) p.2) (hp : pvB p.1 p.2 = true) (hz : Zero7 w2 b) (hB : Below w.heap.size w w2) (hb : w.heap.size ≤ b) :
  TsPost (pureF p, 0) w (.returned (.tuple #[.agg #[.int .i64 p.1, .slice a1 p.2.length b1, .int .i64 p.1, .slice a1 p.2.length b1, .int .i64 0, .int .i64 0, .slice none 0 0], .int .i64 0])) (put7 w2 b (.int .i64 p.1) (.slice a1 p.2.length b1) (.int .i64 p.1) (.slice a1 p.2.length b1) (.int .i64 0) (.int .i64 0) (.slice none 0 0)) :=
 ⟨_, _, _, rfl, RdSt.put _ _ _ _ _ _ _ ⟨h, h, rd_none w2⟩ (pos_OkS (okS_of_VB (VB_pure hp))) hz, put7_below _ _ _ _ _ _ _ hB hb⟩
set_option maxRecDepth 100000 in
set_option maxHeartbeats 8000000 in
theorem week27_any (v0 v1 v2 v3 v4 v5 v6 : Value) (H : List (List Sp)) (w : World) (h : RdH w [v0, v1, v2, v3, v4, v5, v6] H) :
  Calls Tryz.prog 12 #[.agg #[v0, v1, v2, v3, v4, v5, v6]] w (TsPost (weekM (-3) H) w) := by
 have hH := h.2.1
 obtain ⟨R, hRT⟩ : ∃ R, weekM (-3) H = R := ⟨_, rfl⟩
 rw [hRT]
 have HRT := Lib.hid hRT
 clear hRT
 have HV := Lib.hid (fun W h => valid27_any v0 v1 v2 v3 v4 v5 v6 H W h)
 obtain ⟨q, hq⟩ : ∃ q, okH H = q := ⟨_, rfl⟩
 obtain ⟨W, hWe⟩ : ∃ W, (w.alloc (.cells #[v0, v1, v2, v3, v4, v5, v6] 25)).alloc (.cells #[.int .i64 0, .slice none 0 0, .int .i64 0, .slice none 0 0, .int .i64 0, .int .i64 0, .slice none 0 0] 31) = W := ⟨_, rfl⟩
 have hB0 : Below w.heap.size w W := by rw [← hWe]; exact ((Below.refl _ w).alloc (Nat.le_refl _) _).alloc (by simp) _
 have c0 : W.cell? ⟨w.heap.size, 0, none⟩ = some v0 := by rw [← hWe]; simp [go_sem]
 have c1 : W.cell? ⟨w.heap.size, 1, none⟩ = some v1 := by rw [← hWe]; simp [go_sem]
 have c2 : W.cell? ⟨w.heap.size, 2, none⟩ = some v2 := by rw [← hWe]; simp [go_sem]
 have c3 : W.cell? ⟨w.heap.size, 3, none⟩ = some v3 := by rw [← hWe]; simp [go_sem]
 have c4 : W.cell? ⟨w.heap.size, 4, none⟩ = some v4 := by rw [← hWe]; simp [go_sem]
 have c5 : W.cell? ⟨w.heap.size, 5, none⟩ = some v5 := by rw [← hWe]; simp [go_sem]
 have c6 : W.cell? ⟨w.heap.size, 6, none⟩ = some v6 := by rw [← hWe]; simp [go_sem]
 have HX : Hid (Set7 W (w.heap.size + 1) (.int .i64 0) (.slice none 0 0) (.int .i64 0) (.slice none 0 0) (.int .i64 0) (.int .i64 0) (.slice none 0 0)) := by
  rw [← hWe]
  refine Lib.hid ⟨⟨?_, ?_, ?_, ?_, ?_, ?_, ?_⟩, ?_, ?_, ?_, ?_, ?_, ?_, ?_⟩ <;> simp [go_sem]
 have HZ : Hid (Zero7 W (w.heap.size + 1)) := by
  unfold Hid
  rw [← hWe]
  have := zero7_new (w.alloc (.cells #[v0, v1, v2, v3, v4, v5, v6] 25))
  simpa using this
 have HRW := Lib.hid (h.below hB0)
 have HBR := Lib.hid (HRW.out.box c0 c1 c2 c3 c4 c5 c6)
 have HE := Lib.hid hWe
 have HQ := Lib.hid hq
 rw [hq] at HV
 clear hWe h hq
 go_enter Tryz.func12, Tryz.ntmps12
 go_wp2_with fail
 rw [HE.out]
 go_wp2_with fail
 refine (HV.out _ HRW.out).mono ?_
 rintro e w1 ⟨rfl, hb1⟩
 have HB1 := Lib.hid (keepBelow hB0 hb1)
 have HZ1 := Lib.hid (HZ.out.below (World.block_lt_of_cell? W ⟨w.heap.size + 1, 0, none⟩ HX.out.1.1) hb1)
 have HX1 := Lib.hid (HX.out.below hb1)
 have HR1 := Lib.hid (HBR.out.below hb1)
 have HS1 : Hid (w.heap.size + 1 < w1.heap.size) := Lib.hid (World.block_lt_of_cell? w1 ⟨w.heap.size + 1, 0, none⟩ HX1.out.1.1)
 clear hb1 hB0 HX HZ HRW HV HE HBR c0 c1 c2 c3 c4 c5 c6
 cases q with
 | false =>
  obtain ⟨⟨X0, X1, X2, X3, X4, X5, X6⟩, K0, K1, K2, K3, K4, K5, K6⟩ := HX1.out
  have hR1 : (noSt, (1 : Int)) = R := by rw [← HRT.out]; exact (week_no HQ.out).symm
  subst hR1
  go_wp2_with fail
  change bodyPost _ _ _ _ _ (put7 w1 (w.heap.size + 1) (.int .i64 0) (.slice none 0 0) (.int .i64 0) (.slice none 0 0) (.int .i64 0) (.int .i64 0) (.slice none 0 0))
  obtain ⟨r0, r1, r2, r3, r4, r5, r6⟩ := put7_at (.int .i64 0) (.slice none 0 0) (.int .i64 0) (.slice none 0 0) (.int .i64 0) (.int .i64 0) (.slice none 0 0) X0 X1 X2 X3 X4 X5 X6
  have hbz := put7_below (.int .i64 0) (.slice none 0 0) (.int .i64 0) (.slice none 0 0) (.int .i64 0) (.int .i64 0) (.slice none 0 0) HB1.out (b := (w.heap.size + 1)) (by omega)
  generalize put7 w1 (w.heap.size + 1) (.int .i64 0) (.slice none 0 0) (.int .i64 0) (.slice none 0 0) (.int .i64 0) (.int .i64 0) (.slice none 0 0) = Z at *
  refine bodyPost_ret (v := .tuple #[.agg #[.int .i64 0, .slice none 0 0, .int .i64 0, .slice none 0 0, .int .i64 0, .int .i64 0, .slice none 0 0], .int .i64 1]) (by simp [results, Tryz.results12, go_sem, r0, r1, r2, r3, r4, r5, r6]) rfl ?_
  exact set_no hbz
 | true =>
  have ho := (okH_iff hH).1 HQ.out
  have HL10 : Hid (∀ i, i < 7 → (H.getD i []).length ≤ 10) := Lib.hid fun i hi => (okl_iff (ho i hi)).1
  have HBD : Hid (∀ i, i < 7 → ∀ s ∈ H.getD i [], 0 ≤ s.1 ∧ s.1 < s.2 ∧ s.2 ≤ 86400) := Lib.hid fun i hi => (okl_iff (ho i hi)).2.2
  have hRW := HRT.out
  rw [week_of HQ.out] at hRW
  clear ho
  have HOK := Lib.hid (fun h0 => (ofPM_ok (P := 604800) (L := wkT (-3) H 7) (by omega) (by omega) h0).1)
  obtain ⟨⟨p, n⟩, hpn⟩ : ∃ r, ofPM 604800 (wkT (-3) H 7) = r := ⟨_, rfl⟩
  rw [hpn] at HOK hRW
  have HPL : Hid (p.2.length ≤ 1000000) := Lib.hid (by have := ofPM_len (P := 604800) (L := wkT (-3) H 7); rw [hpn] at this; exact Nat.le_trans this (by omega))
  have HPN := Lib.hid hpn
  have HRW := Lib.hid hRW
  clear hpn hRW
  go_wp2_with fail
  go_loopw [4, 5, 6, 7] (fun u4 u5 _ _ wr => ∃ k : Nat, u5 = .int .i64 k ∧ k ≤ 7 ∧ Hid (OwnS wr w1.heap.size u4 (wkT (-3) H k)) ∧ Hid (Below w1.heap.size w1 wr)) (fun _ u5 _ _ _ => 7 - (intOf u5).toNat)
  case atStart => exact ⟨0, rfl, by omega, Lib.hid (OwnS.nil _ _), Lib.hid (Below.refl _ _)⟩
  case round =>
   obtain ⟨k, rfl, hk, HO, HB⟩ := hrel
   by_cases hlt : k < 7
   ·have hlt' : (k : Int) < 7 := by omega
    have hl10 := HL10.out k hlt
    have hbd := HBD.out k hlt
    obtain ⟨la, lc, hcl, hrk⟩ := HR1.out k hlt
    obtain ⟨l, hl⟩ : ∃ l, H.getD k [] = l := ⟨_, rfl⟩
    rw [hl] at hrk hl10 hbd hcl
    have HLK := Lib.hid hl
    have HBL := Lib.hid hbd
    have HRK := Lib.hid hrk
    obtain ⟨-, -, -, hlb, -⟩ := hrk
    have HWL := Lib.hid (wkT_len (d0 := -3) HL10.out k (by omega))
    have s1 : IntKind.i64.wrap ((k : Int) - 3) = (k : Int) - 3 := by rw [IntKind.wrap_i64]; omega
    have s2 : IntKind.i64.wrap (((k : Int) - 3) * 86400) = ((k : Int) - 3) * 86400 := by rw [IntKind.wrap_i64]; omega
    have hD : 86400 * ((-3 : Int) + k) = ((k : Int) - 3) * 86400 := by omega
    have HD := Lib.hid hD
    clear hbd hl hD
    go_wp2_with fail
    generalize wr = Wo at *
    go_loopw [4, 7] (fun u4 u7 wr => ∃ j : Nat, u7 = .int .i64 j ∧ j ≤ l.length ∧ Hid (OwnS wr w1.heap.size u4 (wkT (-3) H k ++ shf (((k : Int) - 3) * 86400) (l.take j))) ∧ Hid (Below w1.heap.size w1 wr)) (fun _ u7 _ => l.length - (intOf u7).toNat)
    case atStart => exact ⟨0, rfl, Nat.zero_le _, Lib.hid (by simpa [shf] using HO.out), HB⟩
    case round =>
     obtain ⟨j, rfl, hj, HO2, HB2⟩ := hrel
     have hjb : (j : Int) ≤ 10 := by omega
     have hlb' : (l.length : Int) ≤ 10 := by omega
     have c0 := keepCell HB2.out hcl
     by_cases hjl : j < l.length
     ·have hjl' : (j : Int) < l.length := by omega
      obtain ⟨_, _, hq1, -, hc⟩ := HRK.out
      cases hq1
      obtain ⟨bb, o, x, y, rfl, hbw, HXY, e1, e2⟩ := rd_at hc HB2.out hjl
      have hxy := HBL.out _ (mem_of_getD HXY.out hjl)
      simp only at hxy
      have HTK := Lib.hid (shf_take (d := ((k : Int) - 3) * 86400) HXY.out hjl)
      have s3 : IntKind.i64.wrap (((k : Int) - 3) * 86400 + x) = ((k : Int) - 3) * 86400 + x := by rw [IntKind.wrap_i64]; omega
      have s4 : IntKind.i64.wrap (((k : Int) - 3) * 86400 + y) = ((k : Int) - 3) * 86400 + y := by rw [IntKind.wrap_i64]; omega
      have hBd : Below wr.heap.size wr wr.drew := (Below.refl _ _).drew
      have hod := HO2.out.below hBd
      have hBt := keepBelow HB2.out hBd
      have f0 := ext_cell c0
      have f1 := ext_cell e1
      have f2 := ext_cell e2
      have hll : (wkT (-3) H k ++ shf (((k : Int) - 3) * 86400) (l.take j)).length < 1000000000000 := by
       rw [List.length_append, shf_len, List.length_take]
       have := HWL.out
       omega
      clear hxy hc
      go_wp2_with fail
      go_region_law (refine step_app_span rfl (.tmp 30) (.tmp 52) rfl rfl hod hBt rfl (by simp) hll ?_; intro v1' w9 o1 bb1)
      all_goals go_wp2
      all_goals go_roundw
      all_goals first | (exact ⟨j + 1, by go_num, by omega, Lib.hid (by rw [HTK.out, ← List.append_assoc]; exact o1), Lib.hid bb1⟩) | (simp [intOf]; omega)
     ·have HF : Hid (OwnS wr w1.heap.size u4 (wkT (-3) H (k + 1))) := by
       have h := HO2.out
       rw [List.take_of_length_le (by omega)] at h
       refine Lib.hid ?_
       rw [wkT_succ, HLK.out, HD.out]
       exact h
      clear HO2
      go_wp2_with fail
      go_roundw
      case rel => exact ⟨k + 1, by go_num, by omega, HF, HB2⟩
      case measure => simp [intOf]; omega
   ·have hk7 : k = 7 := by omega
    subst hk7
    have hwl := wkT_len (d0 := -3) HL10.out 7 (by omega)
    have HRL := Lib.hid (HO.out.rd (by omega))
    have HPF := Lib.hid (rof13_any 604800 u4 (wkT (-3) H 7) wr HRL.out (by omega) (by omega))
    rw [HPN.out] at HPF
    clear hwl HO
    go_wp2_with fail
    refine HPF.out.mono ?_
    rintro e w2 ⟨v2, rfl, o2, hb2⟩
    have HR2 := Lib.hid (o2.rd (by have := HPL.out; simp only; omega))
    have HB2 := Lib.hid (keepBelow HB.out hb2)
    obtain ⟨a1, b1, rfl, _⟩ := o2.form
    have hba : Below w2.heap.size w2 (w2.alloc (.cells #[.int .i64 p.1, .slice a1 p.2.length b1] 29)) := (Below.refl _ _).alloc (Nat.le_refl _) _
    have HBA := Lib.hid hba
    have e0 : (w2.alloc (.cells #[.int .i64 p.1, .slice a1 p.2.length b1] 29)).cell? ⟨w2.heap.size, 0, none⟩ = some (.int .i64 p.1) := by simp [go_sem]
    have e1 : (w2.alloc (.cells #[.int .i64 p.1, .slice a1 p.2.length b1] 29)).cell? ⟨w2.heap.size, 1, none⟩ = some (.slice a1 p.2.length b1) := by simp [go_sem]
    have HRA := Lib.hid (keepRd hba HR2.out)
    clear o2 hb2 hba
    by_cases hn : n = 0
    ·subst hn
     have hR0 : (pureF p, (0 : Int)) = R := by rw [← HRW.out]; unfold pureE; rw [if_neg (by simp)]
     subst hR0
     have HPU := Lib.hid (fun W h => pure14_any p.1 (.slice a1 p.2.length b1) p.2 W h)
     go_wp2_with fail
     refine (HPU.out _ HRA.out).mono ?_
     rintro e w3 ⟨rfl, hb3⟩
     have HB3 := Lib.hid (keepBelow (keepBelow HB2.out HBA.out) hb3)
     have HB4 := Lib.hid (keepBelow HB1.out HB3.out)
     have HZ3 := Lib.hid (HZ1.out.below HS1.out HB3.out)
     have HR3 := Lib.hid (keepRd hb3 HRA.out)
     obtain ⟨⟨X0, X1, X2, X3, X4, X5, X6⟩, K0, K1, K2, K3, K4, K5, K6⟩ := HX1.out.below HB3.out
     clear hb3
     go_wp2_with fail
     change bodyPost _ _ _ _ _ (put7 w3 (w.heap.size + 1) (.int .i64 p.1) (.slice a1 p.2.length b1) (.int .i64 p.1) (.slice a1 p.2.length b1) (.int .i64 0) (.int .i64 0) (.slice none 0 0))
     obtain ⟨r0, r1, r2, r3, r4, r5, r6⟩ := put7_at (.int .i64 p.1) (.slice a1 p.2.length b1) (.int .i64 p.1) (.slice a1 p.2.length b1) (.int .i64 0) (.int .i64 0) (.slice none 0 0) X0 X1 X2 X3 X4 X5 X6
     have hfin := ts_pure (p := p) (b := w.heap.size + 1) HR3.out (HOK.out trivial) HZ3.out HB4.out (by omega)
     generalize put7 w3 (w.heap.size + 1) (.int .i64 p.1) (.slice a1 p.2.length b1) (.int .i64 p.1) (.slice a1 p.2.length b1) (.int .i64 0) (.int .i64 0) (.slice none 0 0) = Z at *
     refine bodyPost_ret (v := .tuple #[.agg #[.int .i64 p.1, .slice a1 p.2.length b1, .int .i64 p.1, .slice a1 p.2.length b1, .int .i64 0, .int .i64 0, .slice none 0 0], .int .i64 0]) (by simp [results, Tryz.results12, go_sem, r0, r1, r2, r3, r4, r5, r6]) rfl ?_
     exact hfin
    ·have hn1 : (n == 0) = false := by simpa using hn
     have hn2 : (n != 0) = true := by simpa using hn
     have hR0 : (noSt, n) = R := by rw [← HRW.out]; unfold pureE; rw [if_pos hn]
     subst hR0
     have HB3 := Lib.hid (keepBelow HB2.out HBA.out)
     have HB4 := Lib.hid (keepBelow HB1.out HB3.out)
     obtain ⟨⟨X0, X1, X2, X3, X4, X5, X6⟩, K0, K1, K2, K3, K4, K5, K6⟩ := HX1.out.below HB3.out
     go_wp2_with fail
     change bodyPost _ _ _ _ _ (put7 (w2.alloc (.cells #[.int .i64 p.1, .slice a1 p.2.length b1] 29)) (w.heap.size + 1) (.int .i64 0) (.slice none 0 0) (.int .i64 0) (.slice none 0 0) (.int .i64 0) (.int .i64 0) (.slice none 0 0))
     obtain ⟨r0, r1, r2, r3, r4, r5, r6⟩ := put7_at (.int .i64 0) (.slice none 0 0) (.int .i64 0) (.slice none 0 0) (.int .i64 0) (.int .i64 0) (.slice none 0 0) X0 X1 X2 X3 X4 X5 X6
     have hbz := put7_below (.int .i64 0) (.slice none 0 0) (.int .i64 0) (.slice none 0 0) (.int .i64 0) (.int .i64 0) (.slice none 0 0) HB4.out (b := (w.heap.size + 1)) (by omega)
     generalize put7 (w2.alloc (.cells #[.int .i64 p.1, .slice a1 p.2.length b1] 29)) (w.heap.size + 1) (.int .i64 0) (.slice none 0 0) (.int .i64 0) (.slice none 0 0) (.int .i64 0) (.int .i64 0) (.slice none 0 0) = Z at *
     refine bodyPost_ret (v := .tuple #[.agg #[.int .i64 0, .slice none 0 0, .int .i64 0, .slice none 0 0, .int .i64 0, .int .i64 0, .slice none 0 0], .int .i64 n]) (by simp [results, Tryz.results12, go_sem, r0, r1, r2, r3, r4, r5, r6]) rfl ?_
     exact set_no hbz
end Go.Proofs.YtmfdnbfjdhlonaaGreatDoor
