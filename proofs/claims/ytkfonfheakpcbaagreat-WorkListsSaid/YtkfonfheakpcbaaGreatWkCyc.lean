import Derived.Test.YtkfonfheakpcbaaGreatWkPerB
import Derived.Test.YtkfonfheakpcbaaGreatWkPl
import Derived.Test.YtkfonfheakpcbaaGreatWkIns
/- timeset: a periodic set as a source: has, constant, changes, after. -/
namespace Go.Proofs.YtkfonfheakpcbaaGreat
open Go.RowKit Wk

/-- the places of a canonical list's first run, and of its last end, in a later world -/
theorem rd_ends {w : World} {a : Option Addr} {l : List Sp} (hc : ∀ i, i < l.length → ∃ b o, a = some ⟨b, o, none⟩ ∧
    w.cell? ⟨b, o + i * 2, none⟩ = some (.int .i64 (l.getD i (0, 0)).1) ∧ w.cell? ⟨b, o + i * 2 + 1, none⟩ = some (.int .i64 (l.getD i (0, 0)).2)) (h0 : 0 < l.length) :
    ∃ b o, a = some ⟨b, o, none⟩ ∧ b < w.heap.size ∧ w.cell? ⟨b, o, none⟩ = some (.int .i64 (firstFr l)) ∧ w.cell? ⟨b, o + 1, none⟩ = some (.int .i64 (l.getD 0 (0, 0)).2) ∧ w.cell? ⟨b, o + (l.length - 1) * 2 + 1, none⟩ = some (.int .i64 (lastTo l)) := by
  obtain ⟨b, o, e, c1, c2⟩ := hc 0 h0
  obtain ⟨b', o', e', _, c4⟩ := hc (l.length - 1) (by omega)
  subst e
  cases e'
  exact ⟨b, o, rfl, World.block_lt_of_cell? w _ c1, by simpa [firstFr] using c1, by simpa using c2, c4⟩

set_option maxHeartbeats 400000 in
theorem chas_any (P x : Int) (v : Value) (l : List Sp) (w : World) (h : RdS w v l) (hv : pvB P l = true) (hx1 : -1152921504606846976 ≤ x) (hx2 : x ≤ 1152921504606846976) :
    Calls Tryz.prog 184 #[.agg #[.int .i64 P, v], .int .i64 x] w fun e w' => e = .returned (.bool (hasP (P, l) x)) ∧ Below w.heap.size w w' := by
  have H := Lib.hid (fun W h => pHas_any P x v l W h hv hx1 hx2)
  have HD := Lib.hid h
  obtain ⟨a, c, rfl, hl, hc⟩ := h
  clear hc hv
  have hB0 : Below w.heap.size w (w.alloc (.cells #[.int .i64 P, .slice a l.length c] 110)) := (Below.refl _ _).alloc (Nat.le_refl _) _
  have HR := Lib.hid (keepRd hB0 HD.out)
  go_enter Tryz.func184, Tryz.ntmps184
  go_wp2_with fail
  refine (H.out _ HR.out).mono ?_
  rintro e w1 ⟨rfl, hb1⟩
  go_wp2
  go_ret
  exact ⟨rfl, keepBelow hB0 hb1⟩

set_option maxRecDepth 100000 in
set_option maxHeartbeats 1000000 in
theorem cconst_any (P : Int) (v : Value) (l : List Sp) (w : World) (h : RdS w v l) :
    Calls Tryz.prog 171 #[.agg #[.int .i64 P, v]] w fun e w' => e = .returned (.bool (constB P l)) ∧ Below w.heap.size w w' := by
  have HD := Lib.hid h
  obtain ⟨a, c, rfl, hl, hc⟩ := h
  obtain ⟨W, hWe⟩ : ∃ W, w.alloc (.cells #[.int .i64 P, .slice a l.length c] 110) = W := ⟨_, rfl⟩
  have hB0 : Below w.heap.size w W := by rw [← hWe]; exact (Below.refl _ _).alloc (Nat.le_refl _) _
  have e0 : ∀ X, (extOf W X).cell? ⟨w.heap.size, 0, none⟩ = some (.int .i64 P) := ext_cell (by rw [← hWe]; simp [go_sem])
  have e1 : ∀ X, (extOf W X).cell? ⟨w.heap.size, 1, none⟩ = some (.slice a l.length c) := ext_cell (by rw [← hWe]; simp [go_sem])
  have HE := Lib.hid hWe
  clear hWe
  by_cases h0 : 0 < l.length
  · obtain ⟨b, o, rfl, hbw, c1, c2, _⟩ := rd_ends hc h0
    have f1 : ∀ X, (extOf W X).cell? ⟨b, o, none⟩ = some (.int .i64 (firstFr l)) := ext_cell ((hB0.cell (p := ⟨b, o, none⟩) hbw).trans c1)
    obtain ⟨s2, hs2⟩ : ∃ s2, (l.getD 0 (0, 0)).2 = s2 := ⟨_, rfl⟩
    rw [hs2] at c2
    have f2 : ∀ X, (extOf W X).cell? ⟨b, o + 1, none⟩ = some (.int .i64 s2) := ext_cell ((hB0.cell (p := ⟨b, o + 1, none⟩) hbw).trans c2)
    have HS := Lib.hid hs2
    clear c1 c2 hc hs2
    have g0 : (((l.length : Int)) == 0) = false := by simp; intro e; simp [e] at h0
    have HC : Hid (constB P l = (decide (firstFr l = 0) && (s2 == P))) := by
      have : (l.length == 0) = false := by simp; intro e; simp [e] at h0
      unfold Hid constB; rw [this, HS.out, Bool.false_or]
    by_cases hf : firstFr l = 0
    · have g1 : (firstFr l == 0) = true := by simpa using hf
      have HF := Lib.hid hf
      clear hf
      go_enter Tryz.func171, Tryz.ntmps171
      go_wp2_with fail
      rw [HE.out]
      refine wp_region_ext (by kernel_rfl) (by kernel_rfl) ?_
      repeat (go_big_quiet_step (fail))
      refine wpQuiet_nil ?_
      intro w1 hb1
      go_wp2
      go_ret
      exact ⟨ret_bool (by rw [HC.out, HF.out]; simp), keepBelow hB0 hb1⟩
    · have g1 : (firstFr l == 0) = false := by simpa using hf
      have HF := Lib.hid hf
      clear hf
      go_enter Tryz.func171, Tryz.ntmps171
      go_wp2_with fail
      rw [HE.out]
      refine wp_region_ext (by kernel_rfl) (by kernel_rfl) ?_
      repeat (go_big_quiet_step (fail))
      refine wpQuiet_nil ?_
      intro w1 hb1
      go_wp2
      go_ret
      exact ⟨ret_bool (by rw [HC.out]; simp [HF.out]), keepBelow hB0 hb1⟩
  · clear hc
    have g0 : (((l.length : Int)) == 0) = true := by simp; exact List.eq_nil_of_length_eq_zero (by omega)
    have HC : Hid (constB P l = true) := by
      have : l = [] := List.eq_nil_of_length_eq_zero (by omega)
      unfold Hid constB; simp [this]
    go_enter Tryz.func171, Tryz.ntmps171
    go_wp2_with fail
    rw [HE.out]
    refine wp_region_ext (by kernel_rfl) (by kernel_rfl) ?_
    repeat (go_big_quiet_step (fail))
    refine wpQuiet_nil ?_
    intro w1 hb1
    go_wp2
    go_ret
    exact ⟨ret_bool HC.out.symm, keepBelow hB0 hb1⟩

theorem OwnI.ne_low {w : World} {B : Nat} {v : Value} {l : List Int} (h : OwnI w B v l) {b : Nat} (hb : b < B) : v.ownBlock ≠ some b := fun e => by have := (h.lt _ e).1; omega

def ChPost (P : Int) (l : List Sp) (w : World) (e : Ending) (w' : World) : Prop := ∃ v', e = .returned v' ∧ OwnI w' w.heap.size v' (chg2 l P) ∧ Below w.heap.size w w'

set_option maxRecDepth 100000 in
set_option maxHeartbeats 3000000 in
theorem cchg_any (P : Int) (v : Value) (l : List Sp) (w : World) (h : RdS w v l) (hv : pvB P l = true) :
    Calls Tryz.prog 172 #[.agg #[.int .i64 P, v]] w (ChPost P l w) := by
  obtain ⟨hrv, hP1, hP2, hin⟩ := rvB_of_pvB hv
  obtain ⟨hcan, hbd, hlen⟩ := canon_of_rvB hrv
  have HCN := Lib.hid hcan
  have HIN := Lib.hid hin
  obtain ⟨a, c, rfl, hl, hc⟩ := h
  obtain ⟨W, hWe⟩ : ∃ W, w.alloc (.cells #[.int .i64 P, .slice a l.length c] 110) = W := ⟨_, rfl⟩
  have hB0 : Below w.heap.size w W := by rw [← hWe]; exact (Below.refl _ _).alloc (Nat.le_refl _) _
  have P0 : W.cell? ⟨w.heap.size, 0, none⟩ = some (.int .i64 P) := by rw [← hWe]; simp [go_sem]
  have P1 : W.cell? ⟨w.heap.size, 1, none⟩ = some (.slice a l.length c) := by rw [← hWe]; simp [go_sem]
  have hW1 : W.heap.size = w.heap.size + 1 := by rw [← hWe]; simp
  have hWs : w.heap.size < W.heap.size := by omega
  have HE := Lib.hid hWe
  clear hWe hW1 hv hrv hcan hin
  go_enter Tryz.func172, Tryz.ntmps172
  go_wp2_with fail
  rw [HE.out]
  go_loopw [3, 15] (fun u i wr => ∃ k : Nat, k ≤ l.length ∧ i = .int .i64 k ∧ OwnI wr W.heap.size u (cT l P k) ∧ Below W.heap.size W wr) (fun _ i _ => l.length - (intOf i).toNat)
  case atStart => exact ⟨0, Nat.zero_le _, rfl, by rw [cT_zero]; exact OwnI.nil _ _, Below.refl _ _⟩
  case round =>
    obtain ⟨k, hk, rfl, ho, hB⟩ := hrel
    by_cases hlt : k < l.length
    · obtain ⟨b, o, rfl, hbw, _, _, _⟩ := rd_ends hc (by omega)
      have hBw : Below w.heap.size w wr := hB0.trans (hB.mono (by omega))
      obtain ⟨b', o', x, y, e', _, HXY, d1, d2⟩ := rd_at hc hBw hlt
      cases e'
      have HLC : Hid (∀ V, Below W.heap.size W V → V.cell? ⟨b, o, none⟩ = some (.int .i64 (firstFr l)) ∧ V.cell? ⟨b, o + (l.length - 1) * 2 + 1, none⟩ = some (.int .i64 (lastTo l))) := by
        intro V hV
        have hBV : Below w.heap.size w V := hB0.trans (hV.mono (by omega))
        obtain ⟨b2, o2, e2, hb2, c1, _, c3⟩ := rd_ends hc (by omega)
        cases e2
        exact ⟨(hBV.cell (p := ⟨b, o, none⟩) hb2).trans c1, (hBV.cell (p := ⟨b, o + (l.length - 1) * 2 + 1, none⟩) hb2).trans c3⟩
      obtain ⟨f0, t0⟩ := HLC.out _ hB
      have hsz := hB.size
      have hbr : b < wr.heap.size := by omega
      have q0 := (hB.cell (p := ⟨w.heap.size, 0, none⟩) hWs).trans P0
      have q1 := (hB.cell (p := ⟨w.heap.size, 1, none⟩) hWs).trans P1
      have hwr : w.heap.size < wr.heap.size := by omega
      have hne := ho.ne
      have hne0 := ho.ne_low hWs
      have hpos : 0 < l.length := by omega
      have hl1 := cT_len l P k
      have hl2 : (cT l P k ++ [x]).length ≤ 4002 := by simp only [List.length_append, List.length_cons, List.length_nil]; omega
      have yx : (wr.alloc (.cells #[.int .i64 x, .int .i64 y] 44)).cell? ⟨wr.heap.size, 0, none⟩ = some (.int .i64 x) := by simp [go_sem]
      have yy : (wr.alloc (.cells #[.int .i64 x, .int .i64 y] 44)).cell? ⟨wr.heap.size, 1, none⟩ = some (.int .i64 y) := by simp [go_sem]
      have x0 : ∀ X, (extOf (wr.alloc (.cells #[.int .i64 x, .int .i64 y] 44)) X).cell? ⟨wr.heap.size, 0, none⟩ = some (.int .i64 x) := ext_cell (by simp [go_sem])
      have x1 : ∀ X, (extOf (wr.alloc (.cells #[.int .i64 x, .int .i64 y] 44)) X).cell? ⟨w.heap.size, 0, none⟩ = some (.int .i64 P) := ext_cell ((World.cell?_alloc_past _ _ _ hwr).trans q0)
      have x2 : ∀ X, (extOf (wr.alloc (.cells #[.int .i64 x, .int .i64 y] 44)) X).cell? ⟨w.heap.size, 1, none⟩ = some (.slice (some ⟨b, o, none⟩) l.length c) := ext_cell ((World.cell?_alloc_past _ _ _ hwr).trans q1)
      have x3 : ∀ X, (extOf (wr.alloc (.cells #[.int .i64 x, .int .i64 y] 44)) X).cell? ⟨b, o + (l.length - 1) * 2 + 1, none⟩ = some (.int .i64 (lastTo l)) := ext_cell ((World.cell?_alloc_past _ _ _ hbr).trans t0)
      have hxf := canon_first HCN.out (mem_of_getD HXY.out hlt)
      have hyl := canon_last HCN.out (mem_of_getD HXY.out hlt)
      have HCC := Lib.hid hc
      simp only at hxf hyl
      clear hc
      by_cases hx0 : 0 < x
      · have g1 : decide (0 < x) = true := by simpa using hx0
        have HD : y < P → stepD (lastTo l) P (x, y) = [x, y] := fun h => by unfold stepD; simp [hx0, h]
        have HD' : ¬ y < P → stepD (lastTo l) P (x, y) = [x] := fun h => by unfold stepD; simp [hx0, h]
        have HD1 := Lib.hid HD
        have HD2 := Lib.hid HD'
        clear HD HD'
        by_cases hy : y < P
        · have HQ := Lib.hid (cT_lt HXY.out hlt hy)
          go_wp2_with fail
          refine wp_region_ext (by kernel_rfl) (by kernel_rfl) ?_
          repeat (go_big_quiet_step (fail))
          refine wpQuiet_nil ?_
          intro w1 hb1
          have o0 := (ho.alloc (.cells #[.int .i64 x, .int .i64 y] 44)).below hb1
          have b0 := (hB.alloc hsz (.cells #[.int .i64 x, .int .i64 y] 44)).trans (hb1.mono (by simp; omega))
          have hsz1 := b0.size
          have y1 := keepCell hb1 yy
          have y0 := keepCell hb1 yx
          have p0 := (b0.cell (p := ⟨w.heap.size, 0, none⟩) (by show w.heap.size < _; omega)).trans P0
          have p1 := (b0.cell (p := ⟨w.heap.size, 1, none⟩) (by show w.heap.size < _; omega)).trans P1
          have hf0 := (HLC.out _ b0).1
          go_wp2_with (first | (at_builtin; refine wpList_app_int rfl (.tmp 37) (.tmp 40) rfl rfl o0 b0 rfl (by simp) (by omega) ?_; intro v1 w2 o1 b1 k1 z1; have s1 := (k1 wr.heap.size 1 (by have := hb1.size; simp at this; omega) hne).trans y1; have p0' := (k1 w.heap.size 0 (by omega) hne0).trans p0; have p1' := (k1 w.heap.size 1 (by omega) hne0).trans p1; have hf1 := (HLC.out _ b1).1; clear k1) | (at_builtin; refine wpList_app_int rfl (.tmp 48) (.tmp 51) rfl rfl o1 b1 rfl (by simp) (by omega) ?_; intro v2 w3 o2 b2 k2 z2; clear k2))
          go_roundw
          case rel => exact ⟨k + 1, by omega, by go_num, by rw [HQ.out, HD1.out hy]; simpa using o2, b2⟩
          case measure => simp [intOf]; omega
        · obtain ⟨hk1, hyP, htP⟩ := last_of_ge HCN.out HIN.out HXY.out hlt hy
          have g2 : decide (y < P) = false := by simpa using hy
          have g3 : ((k : Int) == (l.length : Int) - 1) = true := by simp; omega
          by_cases hff : 0 < firstFr l
          · have HQ := Lib.hid (cT_wrap HCN.out HIN.out HXY.out hlt hy hff); have HDy := Lib.hid (HD2.out hy); clear hyP htP hk1
            go_wp2_with fail
            refine wp_region_ext (by kernel_rfl) (by kernel_rfl) ?_
            repeat (go_big_quiet_step (fail))
            refine wpQuiet_nil ?_
            intro w1 hb1
            have o0 := (ho.alloc (.cells #[.int .i64 x, .int .i64 y] 44)).below hb1
            have b0 := (hB.alloc hsz (.cells #[.int .i64 x, .int .i64 y] 44)).trans (hb1.mono (by simp; omega))
            have hsz1 := b0.size
            have y1 := keepCell hb1 yy
            have y0 := keepCell hb1 yx
            have p0 := (b0.cell (p := ⟨w.heap.size, 0, none⟩) (by show w.heap.size < _; omega)).trans P0
            have p1 := (b0.cell (p := ⟨w.heap.size, 1, none⟩) (by show w.heap.size < _; omega)).trans P1
            have hf0 := (HLC.out _ b0).1
            go_wp2_with (first | (at_builtin; refine wpList_app_int rfl (.tmp 37) (.tmp 40) rfl rfl o0 b0 rfl (by simp) (by omega) ?_; intro v1 w2 o1 b1 k1 z1; have s1 := (k1 wr.heap.size 1 (by have := hb1.size; simp at this; omega) hne).trans y1; have p0' := (k1 w.heap.size 0 (by omega) hne0).trans p0; have p1' := (k1 w.heap.size 1 (by omega) hne0).trans p1; have hf1 := (HLC.out _ b1).1; clear k1) | (go_at_call 176; refine (ins0_any v1 _ 0 W w2 o1 b1 (by simp) (by omega)).mono ?_; rintro e w3 ⟨v2, rfl, o2, b2⟩))
            go_roundw
            case rel => exact ⟨k + 1, by omega, by go_num, by rw [HQ.out, HDy.out]; simpa using o2, b2⟩
            case measure => simp [intOf]; omega
          · have HQ := Lib.hid (cT_nowrap (P := P) HXY.out hlt hff); have HDy := Lib.hid (HD2.out hy); clear hyP htP hk1
            go_wp2_with fail
            refine wp_region_ext (by kernel_rfl) (by kernel_rfl) ?_
            repeat (go_big_quiet_step (fail))
            refine wpQuiet_nil ?_
            intro w1 hb1
            have o0 := (ho.alloc (.cells #[.int .i64 x, .int .i64 y] 44)).below hb1
            have b0 := (hB.alloc hsz (.cells #[.int .i64 x, .int .i64 y] 44)).trans (hb1.mono (by simp; omega))
            have hsz1 := b0.size
            have y1 := keepCell hb1 yy
            have y0 := keepCell hb1 yx
            have p0 := (b0.cell (p := ⟨w.heap.size, 0, none⟩) (by show w.heap.size < _; omega)).trans P0
            have p1 := (b0.cell (p := ⟨w.heap.size, 1, none⟩) (by show w.heap.size < _; omega)).trans P1
            have hf0 := (HLC.out _ b0).1
            go_wp2_with ((at_builtin; refine wpList_app_int rfl (.tmp 37) (.tmp 40) rfl rfl o0 b0 rfl (by simp) (by omega) ?_; intro v1 w2 o1 b1 k1 z1; have s1 := (k1 wr.heap.size 1 (by have := hb1.size; simp at this; omega) hne).trans y1; have p0' := (k1 w.heap.size 0 (by omega) hne0).trans p0; have p1' := (k1 w.heap.size 1 (by omega) hne0).trans p1; have hf1 := (HLC.out _ b1).1; clear k1))
            go_roundw
            case rel => exact ⟨k + 1, by omega, by go_num, by rw [HQ.out, HDy.out]; simpa using o1, b1⟩
            case measure => simp [intOf]; omega
      · have g1 : decide (0 < x) = false := by simpa using hx0
        have hff : ¬ 0 < firstFr l := by omega
        by_cases htP : lastTo l < P
        · have hy : y < P := by omega
          have g4 : decide (lastTo l < P) = true := by simpa using htP
          have HQ := Lib.hid (cT_lt HXY.out hlt hy); have HDy : Hid (stepD (lastTo l) P (x, y) = [x, y]) := by unfold Hid stepD; simp [htP, hy]
          go_wp2_with fail
          refine wp_region_ext (by kernel_rfl) (by kernel_rfl) ?_
          repeat (go_big_quiet_step (fail))
          refine wpQuiet_nil ?_
          intro w1 hb1
          have o0 := (ho.alloc (.cells #[.int .i64 x, .int .i64 y] 44)).below hb1
          have b0 := (hB.alloc hsz (.cells #[.int .i64 x, .int .i64 y] 44)).trans (hb1.mono (by simp; omega))
          have hsz1 := b0.size
          have y1 := keepCell hb1 yy
          have y0 := keepCell hb1 yx
          have p0 := (b0.cell (p := ⟨w.heap.size, 0, none⟩) (by show w.heap.size < _; omega)).trans P0
          have p1 := (b0.cell (p := ⟨w.heap.size, 1, none⟩) (by show w.heap.size < _; omega)).trans P1
          have hf0 := (HLC.out _ b0).1
          go_wp2_with (first | (at_builtin; refine wpList_app_int rfl (.tmp 37) (.tmp 40) rfl rfl o0 b0 rfl (by simp) (by omega) ?_; intro v1 w2 o1 b1 k1 z1; have s1 := (k1 wr.heap.size 1 (by have := hb1.size; simp at this; omega) hne).trans y1; have p0' := (k1 w.heap.size 0 (by omega) hne0).trans p0; have p1' := (k1 w.heap.size 1 (by omega) hne0).trans p1; have hf1 := (HLC.out _ b1).1; clear k1) | (at_builtin; refine wpList_app_int rfl (.tmp 48) (.tmp 51) rfl rfl o1 b1 rfl (by simp) (by omega) ?_; intro v2 w3 o2 b2 k2 z2; clear k2))
          go_roundw
          case rel => exact ⟨k + 1, by omega, by go_num, by rw [HQ.out, HDy.out]; simpa using o2, b2⟩
          case measure => simp [intOf]; omega
        · have g4 : decide (lastTo l < P) = false := by simpa using htP
          by_cases hy : y < P
          · have HQ := Lib.hid (cT_lt HXY.out hlt hy); have HDy : Hid (stepD (lastTo l) P (x, y) = [y]) := by unfold Hid stepD; simp [hx0, htP, hy]
            go_wp2_with fail
            refine wp_region_ext (by kernel_rfl) (by kernel_rfl) ?_
            repeat (go_big_quiet_step (fail))
            refine wpQuiet_nil ?_
            intro w1 hb1
            have o0 := (ho.alloc (.cells #[.int .i64 x, .int .i64 y] 44)).below hb1
            have b0 := (hB.alloc hsz (.cells #[.int .i64 x, .int .i64 y] 44)).trans (hb1.mono (by simp; omega))
            have hsz1 := b0.size
            have y1 := keepCell hb1 yy
            have y0 := keepCell hb1 yx
            have p0 := (b0.cell (p := ⟨w.heap.size, 0, none⟩) (by show w.heap.size < _; omega)).trans P0
            have p1 := (b0.cell (p := ⟨w.heap.size, 1, none⟩) (by show w.heap.size < _; omega)).trans P1
            have hf0 := (HLC.out _ b0).1
            go_wp2_with ((at_builtin; refine wpList_app_int rfl (.tmp 48) (.tmp 51) rfl rfl o0 b0 rfl (by simp) (by omega) ?_; intro v2 w3 o2 b2 k2 z2; clear k2))
            go_roundw
            case rel => exact ⟨k + 1, by omega, by go_num, by rw [HQ.out, HDy.out]; simpa using o2, b2⟩
            case measure => simp [intOf]; omega
          · have HQ := Lib.hid (cT_nowrap (P := P) HXY.out hlt hff); have HDy : Hid (stepD (lastTo l) P (x, y) = []) := by unfold Hid stepD; simp [hx0, htP, hy]
            go_wp2_with fail
            refine wp_region_ext (by kernel_rfl) (by kernel_rfl) ?_
            repeat (go_big_quiet_step (fail))
            refine wpQuiet_nil ?_
            intro w1 hb1
            have o0 := (ho.alloc (.cells #[.int .i64 x, .int .i64 y] 44)).below hb1
            have b0 := (hB.alloc hsz (.cells #[.int .i64 x, .int .i64 y] 44)).trans (hb1.mono (by simp; omega))
            have hsz1 := b0.size
            have y1 := keepCell hb1 yy
            have y0 := keepCell hb1 yx
            have p0 := (b0.cell (p := ⟨w.heap.size, 0, none⟩) (by show w.heap.size < _; omega)).trans P0
            have p1 := (b0.cell (p := ⟨w.heap.size, 1, none⟩) (by show w.heap.size < _; omega)).trans P1
            have hf0 := (HLC.out _ b0).1
            go_wp2_with (fail)
            go_roundw
            case rel => exact ⟨k + 1, by omega, by go_num, by rw [HQ.out, HDy.out]; simpa using o0, b0⟩
            case measure => simp [intOf]; omega
    · obtain rfl : k = l.length := by omega
      rw [cT_full] at ho
      clear hc
      go_wp2
      go_ret
      exact ⟨_, rfl, ho.mono (by omega), hB0.trans (hB.mono (by omega))⟩
end Go.Proofs.YtkfonfheakpcbaaGreat
