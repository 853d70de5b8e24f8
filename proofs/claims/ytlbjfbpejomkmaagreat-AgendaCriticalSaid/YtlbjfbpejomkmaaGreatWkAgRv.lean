import Derived.Test.YtlbjfbpejomkmaaGreatWkAgQf
import Derived.Test.YtlbjfbpejomkmaaGreatWkAgQh
import Derived.Test.YtlbjfbpejomkmaaGreatWkRfC
/- Agenda: the reference's Valid. -/
namespace Go.Proofs.YtlbjfbpejomkmaaGreat
open Go.RowKit Wk

theorem all_getD {α : Type} {l : List α} {f : α → Bool} {d : α} (h : ∀ i, i < l.length → f (l.getD i d) = true) : l.all f = true := by
 rw [List.all_eq_true]
 intro x hx
 obtain ⟨i, hi, rfl⟩ := List.mem_iff_getElem.1 hx
 have := h i hi
 rwa [List.getD_eq_getElem?_getD, List.getElem?_eq_getElem hi] at this
theorem all_no {α : Type} {l : List α} {f : α → Bool} {d : α} {i : Nat} (hi : i < l.length) (h : f (l.getD i d) = false) : l.all f = false := by
 rw [List.all_eq_false]
 exact ⟨_, getD_in hi, by rw [h]; exact Bool.false_ne_true⟩
set_option maxRecDepth 100000 in
set_option maxHeartbeats 8000000 in
theorem rvalid48_any (vl vR : Value) (L : List Kv) (R : List Sw) (w : World) (hL : RdK w vl L) (hR : RdR w vR R) :
  Calls Tryz.prog 15 #[vl, vR] w fun e w' => e = .returned (.bool (vldM (tks L) (sts R))) ∧ Below w.heap.size w w' := by
 have HV14 := Lib.hid (fun s vl vr vv W h => valid14_any s vl vr vv W h)
 obtain ⟨r, hr⟩ : ∃ r, vldM (tks L) (sts R) = r := ⟨_, rfl⟩
 rw [hr]
 have HR := Lib.hid hr
 have HL := Lib.hid hL
 have HRR := Lib.hid hR
 obtain ⟨al, cl, rfl, _, _⟩ := hL
 obtain ⟨aR, cR, rfl, _, _⟩ := hR
 clear hr
 go_enter Tryz.func15, Tryz.ntmps15
 by_cases h1 : 24 < L.length
 ·have g1 : decide (24 < (L.length : Int)) = true := by simp; omega
  have hr : r = false := by rw [← HR.out]; unfold vldM; rw [tks_length, decide_eq_false (by omega)]; rfl
  subst hr
  clear h1
  go_wp2
  go_ret
  exact ⟨rfl, Below.refl _ _⟩
 have g1 : decide (24 < (L.length : Int)) = false := by simp; omega
 have HL1 : Hid (L.length ≤ 24) := by unfold Hid; omega
 clear h1
 by_cases h2 : 24 < R.length
 ·have g2 : decide (24 < (R.length : Int)) = true := by simp; omega
  have hr : r = false := by rw [← HR.out]; unfold vldM; rw [sts_len, decide_eq_false (p := R.length ≤ 24) (by omega), Bool.and_false]; rfl
  subst hr
  clear h2
  go_wp2
  go_ret
  exact ⟨rfl, Below.refl _ _⟩
 have g2 : decide (24 < (R.length : Int)) = false := by simp; omega
 have HL2 : Hid (R.length ≤ 24) := by unfold Hid; omega
 clear h2
 go_wp2_with fail
 go_loopw [5] (fun u wr => ∃ k : Nat, u = .int .i64 k ∧ k ≤ R.length ∧ Hid (∀ i, i < k → VB ((sts R).getD i noSt) = true) ∧ Hid (Below w.heap.size w wr)) (fun u _ => R.length - (intOf u).toNat)
 case atStart => exact ⟨0, rfl, Nat.zero_le _, fun i hi => by omega, Below.refl _ _⟩
 case round =>
  obtain ⟨k, rfl, hk, HZ, HBr⟩ := hrel
  by_cases hlt : k < R.length
  ·obtain ⟨ar', cr', ea, _, hcr⟩ := HRR.out.below HBr.out
   cases ea
   obtain ⟨hr7, b, o, rfl, p0, p1, p2, p3, p4, p5, p6⟩ := hcr k hlt
   obtain ⟨x, hx⟩ : ∃ x, R.getD k sw0 = x := ⟨_, rfl⟩
   rw [hx] at hr7 p0 p1 p2 p3 p4 p5 p6
   have HC := Lib.hid (HV14.out x.1 _ _ _ wr hr7)
   have HXE : Hid ((sts R).getD k noSt = x.1) := by unfold Hid; rw [sts_at, hx]
   obtain ⟨a1, n1, e1⟩ := hr7.1.form
   obtain ⟨a2, n2, e2⟩ := hr7.2.1.form
   obtain ⟨a3, n3, e3⟩ := hr7.2.2.form
   rw [e1] at p1
   rw [e2] at p3
   rw [e3] at p6
   rw [e1, e2, e3] at HC
   obtain ⟨vb, hvb⟩ : ∃ vb, VB x.1 = vb := ⟨_, rfl⟩
   rw [hvb] at HC
   have HVB := Lib.hid hvb
   clear hcr hr7 hx e1 e2 e3 hvb
   go_wp2_with fail
   refine HC.out.mono ?_
   rintro e w2 ⟨rfl, hb2⟩
   have HB2 := Lib.hid (keepBelow HBr.out hb2)
   clear hb2 p0 p1 p2 p3 p4 p5 p6
   cases vb with
   | false =>
    have hr : r = false := by
     rw [← HR.out]
     unfold vldM
     rw [all_no (d := noSt) (i := k) (by rw [sts_len]; exact hlt) (by rw [HXE.out]; exact HVB.out), Bool.and_false]
     rfl
    subst hr
    go_wp2
    go_ret
    exact ⟨rfl, HB2.out⟩
   | true =>
    go_wp2
    go_roundw
    case rel =>
     refine ⟨k + 1, by go_num, by omega, fun i hi => ?_, HB2.out⟩
     rcases Nat.lt_succ_iff_lt_or_eq.1 hi with h | rfl
     ·exact HZ.out i h
     ·rw [HXE.out]; exact HVB.out
    case measure => simp [intOf]; omega
  ·have hkl : k = R.length := by omega
   subst hkl
   have HVA : Hid ((sts R).all VB = true) := all_getD (d := noSt) (fun i hi => HZ.out i (by rwa [sts_len] at hi))
   have HB1 := HBr
   clear HZ HBr
   go_wp2_with fail
   generalize wr = w1 at *
   have HLw := Lib.hid (HL.out.below HB1.out)
   go_loopw [6] (fun u wr => ∃ k : Nat, u = .int .i64 k ∧ k ≤ L.length ∧ Hid (∀ i, i < k → okT (tks L) (sts R).length i = true) ∧ Hid (Below w1.heap.size w1 wr)) (fun u _ => L.length - (intOf u).toNat)
   case atStart => exact ⟨0, rfl, Nat.zero_le _, fun i hi => by omega, Below.refl _ _⟩
   case round =>
    obtain ⟨k, rfl, hk, HZ, HBr⟩ := hrel
    by_cases hlt : k < L.length
    ·have hlt' : k < (tks L).length := by rw [tks_length]; exact hlt
     obtain ⟨al', cl', ea, _, hcl⟩ := HLw.out.below HBr.out
     cases ea
     obtain ⟨hj, bl, ol, rfl, p0, p1, p2, p3, p4⟩ := hcl k hlt
     obtain ⟨x, hx⟩ : ∃ x, L.getD k kv0 = x := ⟨_, rfl⟩
     rw [hx] at hj p0 p1 p2 p3 p4
     obtain ⟨a1, n1, e1⟩ := hj.form
     rw [e1] at p3 hj
     have HTA : Hid (tkAt (tks L) k = x.1) := by unfold Hid; rw [tks_at, hx]
     have HJ := Lib.hid hj
     have HB := Lib.hid (keepBelow HB1.out HBr.out)
     have HLT := Lib.hid hlt'
     clear hcl hx hj e1 hlt'
     go_upto_region 12 with fail
     obtain ⟨Y, hY⟩ : ∃ Y, wr.alloc (.cells #[.string x.1.nm, .int .i64 x.1.wk, .int .i64 x.1.rs, .slice a1 x.1.af.length n1, .int .i64 x.1.du] 44) = Y := ⟨_, rfl⟩
     rw [hY]
     have hbY : Below wr.heap.size wr Y := by rw [← hY]; exact (Below.refl _ _).alloc (Nat.le_refl _) _
     obtain ⟨tb, htb⟩ : ∃ tb, wr.heap.size = tb := ⟨_, rfl⟩
     rw [htb]
     have HT5 : Hid (Y.cell? ⟨tb, 0, none⟩ = some (.string x.1.nm) ∧ Y.cell? ⟨tb, 1, none⟩ = some (.int .i64 x.1.wk) ∧ Y.cell? ⟨tb, 2, none⟩ = some (.int .i64 x.1.rs) ∧ Y.cell? ⟨tb, 3, none⟩ = some (.slice a1 x.1.af.length n1) ∧ Y.cell? ⟨tb, 4, none⟩ = some (.int .i64 x.1.du)) := by
      rw [← hY, ← htb]
      refine ⟨?_, ?_, ?_, ?_, ?_⟩ <;> simp [go_sem]
     have HJY := Lib.hid (HJ.out.below hbY)
     have HBY := Lib.hid hbY
     have HLY := Lib.hid ((HLw.out.below HBr.out).below hbY)
     clear p0 p1 p2 p3 p4 hY hbY htb
     obtain ⟨t0, t1, t2, t3, t4⟩ := HT5.out
     by_cases q1 : x.1.nm.size < 1
     ·have g_q1 : decide ((x.1.nm.size : Int) < 1) = true := by simp; omega
      have hr : r = false := by rw [← HR.out]; exact vld_no HLT.out (ok_nm1 HTA.out q1)
      subst hr
      clear q1
      go_wp2
      go_ret
      exact ⟨rfl, keepBelow HB.out HBY.out⟩
     have g_q1 : decide ((x.1.nm.size : Int) < 1) = false := by simp; omega
     by_cases q2 : 30 < x.1.nm.size
     ·have g_q2 : decide (30 < (x.1.nm.size : Int)) = true := by simp; omega
      have hr : r = false := by rw [← HR.out]; exact vld_no HLT.out (ok_nm2 HTA.out q2)
      subst hr
      clear q2
      go_wp2
      go_ret
      exact ⟨rfl, keepBelow HB.out HBY.out⟩
     have g_q2 : decide (30 < (x.1.nm.size : Int)) = false := by simp; omega
     by_cases q4 : x.1.wk < 1
     ·have g_q4 : decide (x.1.wk < 1) = true := by simp; omega
      have hr : r = false := by rw [← HR.out]; exact vld_no HLT.out (ok_wk1 HTA.out q4)
      subst hr
      clear q4
      go_wp2
      go_ret
      exact ⟨rfl, keepBelow HB.out HBY.out⟩
     have g_q4 : decide (x.1.wk < 1) = false := by simp; omega
     by_cases q5 : 4398046511104 < x.1.wk
     ·have g_q5 : decide (4398046511104 < x.1.wk) = true := by simp; omega
      have hr : r = false := by rw [← HR.out]; exact vld_no HLT.out (ok_wk2 HTA.out q5)
      subst hr
      clear q5
      go_wp2
      go_ret
      exact ⟨rfl, keepBelow HB.out HBY.out⟩
     have g_q5 : decide (4398046511104 < x.1.wk) = false := by simp; omega
     by_cases q6 : x.1.rs < 0
     ·have g_q6 : decide (x.1.rs < 0) = true := by simp; omega
      have hr : r = false := by rw [← HR.out]; exact vld_no HLT.out (ok_rs1 HTA.out q6)
      subst hr
      clear q6
      go_wp2
      go_ret
      exact ⟨rfl, keepBelow HB.out HBY.out⟩
     have g_q6 : decide (x.1.rs < 0) = false := by simp; omega
     by_cases q7 : (R.length : Int) ≤ x.1.rs
     ·have g_q7 : decide ((R.length : Int) ≤ x.1.rs) = true := by simp; omega
      have hr : r = false := by rw [← HR.out]; exact vld_no HLT.out (ok_rs2 HTA.out (by rw [sts_len]; exact q7))
      subst hr
      clear q7
      go_wp2
      go_ret
      exact ⟨rfl, keepBelow HB.out HBY.out⟩
     have g_q7 : decide ((R.length : Int) ≤ x.1.rs) = false := by simp; omega
     obtain ⟨ln, hln⟩ : ∃ ln, lineB x.1.du = ln := ⟨_, rfl⟩
     have HLNE := Lib.hid hln
     have HLI := Lib.hid (fun W => line48_any x.1.du W)
     rw [hln] at HLI
     clear hln
     have HQ : Hid (1 ≤ x.1.nm.size ∧ x.1.nm.size ≤ 30 ∧ 1 ≤ x.1.wk ∧ x.1.wk ≤ 4398046511104 ∧ 0 ≤ x.1.rs ∧ x.1.rs < R.length) := by unfold Hid; omega
     cases ln with
     | false =>
      have hr : r = false := by rw [← HR.out]; exact vld_no HLT.out (ok_du HTA.out HLNE.out)
      subst hr
      go_wp2_with (first | (go_at_call 17; refine (HLI.out _).mono ?_; rintro e w' ⟨rfl, rfl⟩) | fail)
      go_ret
      exact ⟨rfl, keepBelow HB.out HBY.out⟩
     | true =>
     go_wp2_with (first | (go_at_call 17; refine (HLI.out _).mono ?_; rintro e w' ⟨rfl, rfl⟩) | fail)
     go_loopw [8] (fun u wr => ∃ j : Nat, u = .int .i64 j ∧ j ≤ k ∧ Hid (∀ i, i < j → (tkAt (tks L) i).nm ≠ x.1.nm) ∧ Hid (Below Y.heap.size Y wr)) (fun u _ => k - (intOf u).toNat)
     case atStart => exact ⟨0, rfl, Nat.zero_le _, fun i hi => by omega, Below.refl _ _⟩
     case round =>
      obtain ⟨j, rfl, hj, HZJ, HBJ⟩ := hrel
      by_cases hjk : j < k
      ·have hjl : j < L.length := by omega
       obtain ⟨al', cl', ea, _, hcl⟩ := (HLY.out.below HBJ.out)
       cases ea
       obtain ⟨_, bl2, ol2, ebl, p0, -, -, -, -⟩ := hcl j hjl
       cases ebl
       obtain ⟨y, hy⟩ : ∃ y, L.getD j kv0 = y := ⟨_, rfl⟩
       rw [hy] at p0
       have HTJ : Hid (tkAt (tks L) j = y.1) := by unfold Hid; rw [tks_at, hy]
       have e0 := ext_cell p0
       have t0 := ext_cell (keepCell HBJ.out HT5.out.1)
       have s4 : (j : Int) < (L.length : Int) := by omega
       clear hcl hy p0
       by_cases hnm : y.1.nm = x.1.nm
       ·have g1 : (y.1.nm.toList == x.1.nm.toList) = true := by rw [hnm]; exact beq_self_eq_true _
        have hr : r = false := by rw [← HR.out]; exact vld_no HLT.out (ok_nm3 HTA.out ⟨j, hjk, by rw [HTJ.out]; exact hnm⟩)
        subst hr
        clear hnm
        go_wp2_with fail
        refine wp_region_ext (by kernel_rfl) (by kernel_rfl) ?_
        iterate 8 (go_big_quiet_step (fail))
        refine wpQuiet_nil ?_
        intro w2 hb2
        go_wp2
        go_ret
        exact ⟨rfl, keepBelow (keepBelow (keepBelow HB.out HBY.out) HBJ.out) hb2⟩
       ·have g1 : (y.1.nm.toList == x.1.nm.toList) = false := by rw [beq_eq_false_iff_ne]; intro h; rw [ByteArray.toList_eq, ByteArray.toList_eq] at h; exact hnm (nm_eq (by rw [h]))
        have HNE : Hid (y.1.nm ≠ x.1.nm) := hnm
        clear hnm
        go_wp2_with fail
        refine wp_region_ext (by kernel_rfl) (by kernel_rfl) ?_
        iterate 8 (go_big_quiet_step (fail))
        refine wpQuiet_nil ?_
        intro w2 hb2
        have HB2 := Lib.hid (keepBelow HBJ.out hb2)
        clear hb2 e0 t0
        go_wp2
        go_roundw
        case rel =>
         refine ⟨j + 1, by go_num, by omega, fun i hi => ?_, HB2.out⟩
         rcases Nat.lt_succ_iff_lt_or_eq.1 hi with h | rfl
         ·exact HZJ.out i h
         ·rw [HTJ.out]; exact HNE.out
        case measure => simp [intOf]; omega
      ·have hjk : j = k := by omega
       subst hjk
       have HND : Hid (∀ i, i < j → (tkAt (tks L) i).nm ≠ x.1.nm) := HZJ.out
       go_wp2_with fail
       go_loopw [9] (fun u wr' => ∃ q : Nat, u = .int .i64 q ∧ q ≤ x.1.af.length ∧ Hid (∀ i, i < q → af1 j x.1.af i) ∧ Hid (Below Y.heap.size Y wr')) (fun u _ => x.1.af.length - (intOf u).toNat)
       case atStart => exact ⟨0, rfl, Nat.zero_le _, fun i hi => by omega, HBJ.out⟩
       case round =>
        obtain ⟨q, rfl, hq, HZQ, HBQ⟩ := hrel
        have t3 := keepCell HBQ.out HT5.out.2.2.2.1
        by_cases hqa : q < x.1.af.length
        ·obtain ⟨aj, cj, ea, hal, hcj⟩ := HJY.out.below HBQ.out
         cases ea
         obtain ⟨bj, oj, rfl, v1⟩ := hcj q hqa
         obtain ⟨z, hz⟩ : ∃ z, x.1.af.getD q 0 = z := ⟨_, rfl⟩
         rw [hz] at v1
         have HZE := Lib.hid hz
         have HCJ := Lib.hid hcj
         have f3 := ext_cell t3
         have e1 := ext_cell v1
         have s4 : (q : Int) < (x.1.af.length : Int) := by omega
         have HSZ := Lib.hid hal
         clear hcj hz hal v1
         by_cases hz0 : z < 0
         ·have g1 : decide (z < 0) = true := by simpa using hz0
          have hr : r = false := by rw [← HR.out]; exact vld_no HLT.out (ok_af HTA.out (afB_no hqa fun h => by have := h.1; rw [HZE.out] at this; omega))
          subst hr
          clear hz0
          go_wp2_with fail
          refine wp_region_ext (by kernel_rfl) (by kernel_rfl) ?_
          iterate 33 (go_big_quiet_step (fail))
          refine wpQuiet_nil ?_
          intro w2 hb2
          go_wp2
          go_ret
          exact ⟨rfl, keepBelow (keepBelow (keepBelow HB.out HBY.out) HBQ.out) hb2⟩
         have g1 : decide (z < 0) = false := by simpa using hz0
         by_cases hzj : (j : Int) ≤ z
         ·have g2 : decide ((j : Int) ≤ z) = true := by simpa using hzj
          have hr : r = false := by rw [← HR.out]; exact vld_no HLT.out (ok_af HTA.out (afB_no hqa fun h => by have := h.2.1; rw [HZE.out] at this; omega))
          subst hr
          clear hzj
          go_wp2_with fail
          refine wp_region_ext (by kernel_rfl) (by kernel_rfl) ?_
          iterate 33 (go_big_quiet_step (fail))
          refine wpQuiet_nil ?_
          intro w2 hb2
          go_wp2
          go_ret
          exact ⟨rfl, keepBelow (keepBelow (keepBelow HB.out HBY.out) HBQ.out) hb2⟩
         have g2 : decide ((j : Int) ≤ z) = false := by simpa using hzj
         rcases Nat.eq_zero_or_pos q with hq0 | hq0
         ·subst hq0
          have e1' : ∀ X, (extOf wr X).cell? ⟨bj, oj, none⟩ = some (.int .i64 z) := by simpa using e1
          have HA1 : Hid (af1 j x.1.af 0) := ⟨by rw [HZE.out]; omega, by rw [HZE.out]; omega, Or.inl rfl⟩
          clear hz0 hzj
          go_wp2_with fail
          refine wp_region_ext (by kernel_rfl) (by kernel_rfl) ?_
          iterate 33 (go_big_quiet_step (fail))
          refine wpQuiet_nil ?_
          intro w2 hb2
          have HB2 := Lib.hid (keepBelow HBQ.out hb2)
          clear hb2 e1 f3 t3
          go_wp2
          go_roundw
          case rel => exact ⟨1, by first | rfl | go_num, by omega, fun i hi => by (obtain rfl : i = 0 := by omega); exact HA1.out, HB2.out⟩
          case measure => simp [intOf]; omega
         obtain ⟨p, rfl⟩ : ∃ p, q = p + 1 := ⟨q - 1, by omega⟩
         obtain ⟨bj', oj', ee, v2⟩ := HCJ.out p (by omega)
         cases ee
         obtain ⟨y, hy⟩ : ∃ y, x.1.af.getD p 0 = y := ⟨_, rfl⟩
         rw [hy] at v2
         have HYE := Lib.hid hy
         have e2 := ext_cell v2
         have s1 : IntKind.i64.wrap (((p + 1 : Nat) : Int) - 1) = (p : Int) := by rw [IntKind.wrap_i64]; have := HSZ.out; omega
         have s5 : (p : Int) < (x.1.af.length : Int) := by omega
         have s1b : IntKind.i64.wrap (p : Int) = (p : Int) := by rw [IntKind.wrap_i64]; have := HSZ.out; omega
         have s6 : (p : Int) + 1 < (x.1.af.length : Int) := by omega
         have s7 : ((p : Int) + 1).toNat = p + 1 := by omega
         have s8 : (0 : Int) ≤ (p : Int) + 1 := by omega
         have g0 : decide (0 < ((p + 1 : Nat) : Int)) = true := by simp
         clear hy v2
         by_cases hzy : z ≤ y
         ·have g3 : decide (z ≤ y) = true := by simpa using hzy
          have hr : r = false := by rw [← HR.out]; exact vld_no HLT.out (ok_af HTA.out (afB_no hqa fun h => by have h := h.2.2.resolve_left (Nat.succ_ne_zero p); rw [HZE.out, Nat.add_sub_cancel, HYE.out] at h; omega))
          subst hr
          clear hzy hz0 hzj
          go_wp2_with fail
          refine wp_region_ext (by kernel_rfl) (by kernel_rfl) ?_
          iterate 33 (go_big_quiet_step (fail))
          refine wpQuiet_nil ?_
          intro w2 hb2
          go_wp2
          go_ret
          exact ⟨rfl, keepBelow (keepBelow (keepBelow HB.out HBY.out) HBQ.out) hb2⟩
         ·have g3 : decide (z ≤ y) = false := by simpa using hzy
          have HA1 : Hid (af1 j x.1.af (p + 1)) := ⟨by rw [HZE.out]; omega, by rw [HZE.out]; omega, Or.inr (by rw [Nat.add_sub_cancel, HYE.out, HZE.out]; omega)⟩
          clear hzy hz0 hzj
          go_wp2_with fail
          refine wp_region_ext (by kernel_rfl) (by kernel_rfl) ?_
          iterate 33 (go_big_quiet_step (fail))
          refine wpQuiet_nil ?_
          intro w2 hb2
          have HB2 := Lib.hid (keepBelow HBQ.out hb2)
          clear hb2 e1 e2 f3 t3 s1 s1b s7
          have hpb : (p : Int) ≤ 1152921504606846976 := by have := HSZ.out; omega
          go_wp2
          go_roundw
          case rel =>
           refine ⟨p + 1 + 1, by go_num, by omega, fun i hi => ?_, HB2.out⟩
           rcases Nat.lt_succ_iff_lt_or_eq.1 hi with h | rfl
           ·exact HZQ.out i h
           ·exact HA1.out
          case measure => simp [intOf]; omega
        ·have hqe : q = x.1.af.length := by omega
         subst hqe
         have HOK : Hid (okT (tks L) (sts R).length j = true) := by
          have h1 := HQ.out
          refine okT_iff.2 ?_
          rw [HTA.out, sts_len]
          exact ⟨h1.1, h1.2.1, HND.out, h1.2.2.1, h1.2.2.2.1, h1.2.2.2.2.1, h1.2.2.2.2.2, HLNE.out, afB_iff.2 HZQ.out⟩
         have HB2 := Lib.hid (keepBelow (keepBelow HBr.out HBY.out) HBQ.out)
         go_wp2
         go_roundw
         case rel =>
          refine ⟨j + 1, by go_num, by omega, fun i hi => ?_, HB2.out⟩
          rcases Nat.lt_succ_iff_lt_or_eq.1 hi with h | rfl
          ·exact HZ.out i h
          ·exact HOK.out
         case measure => simp [intOf]; omega
    ·have hkl : k = L.length := by omega
     subst hkl
     have hr : r = true := by rw [← HR.out]; exact vld_yes (by rw [tks_length]; exact HL1.out) (by rw [sts_len]; exact HL2.out) HVA.out (fun i hi => HZ.out i (by rwa [tks_length] at hi))
     subst hr
     have HB := Lib.hid (keepBelow HB1.out HBr.out)
     go_wp2
     go_ret
     exact ⟨rfl, HB.out⟩
end Go.Proofs.YtlbjfbpejomkmaaGreat
