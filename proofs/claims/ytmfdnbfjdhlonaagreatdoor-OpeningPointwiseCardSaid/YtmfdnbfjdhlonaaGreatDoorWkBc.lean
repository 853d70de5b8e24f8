import Derived.Test.YtmfdnbfjdhlonaaGreatDoorWkBb
import Derived.Test.YtmfdnbfjdhlonaaGreatDoorWkPl
/- timeset: a periodic set as a source: has, constant, changes, after. -/
namespace Go.Proofs.YtmfdnbfjdhlonaaGreatDoor
open Go.RowKit Wk

theorem rd_ends {w : World} {a : Option Addr} {l : List Sp} (hc : ∀ i, i < l.length → ∃ b o, a = some ⟨b, o, none⟩ ∧
  w.cell? ⟨b, o + i * 2, none⟩ = some (.int .i64 (l.getD i (0, 0)).1) ∧ w.cell? ⟨b, o + i * 2 + 1, none⟩ = some (.int .i64 (l.getD i (0, 0)).2)) (h0 : 0 < l.length) :
  ∃ b o, a = some ⟨b, o, none⟩ ∧ b < w.heap.size ∧ w.cell? ⟨b, o, none⟩ = some (.int .i64 (firstFr l)) ∧ w.cell? ⟨b, o + 1, none⟩ = some (.int .i64 (l.getD 0 (0, 0)).2) ∧ w.cell? ⟨b, o + (l.length - 1) * 2 + 1, none⟩ = some (.int .i64 (lastTo l)) := by
 obtain ⟨b, o, e, c1, c2⟩ := hc 0 h0
 obtain ⟨b', o', e', _, c4⟩ := hc (l.length - 1) (by omega)
 subst e
 cases e'
 exact ⟨b, o, rfl, World.block_lt_of_cell? w _ c1, by simpa [firstFr] using c1, by simpa using c2, c4⟩

set_option maxHeartbeats 400000 in
theorem chas_any (P x : Int) (v : Value) (l : List Sp) (w : World) (h : RdS w v l) (hv : pvB P l = true) (hx1 : -1152921504606846976 ≤ x) (hx2 : x ≤ 1152921504606846976) :
  Calls Tryz.prog 252 #[.agg #[.int .i64 P, v], .int .i64 x] w fun e w' => e = .returned (.bool (hasP (P, l) x)) ∧ Below w.heap.size w w' := by
 have H := Lib.hid (fun W h => pHas_any P x v l W h hv hx1 hx2)
 have HD := Lib.hid h
 obtain ⟨a, c, rfl, hl, hc⟩ := h
 clear hc hv
 have hB0 : Below w.heap.size w (w.alloc (.cells #[.int .i64 P, .slice a l.length c] 153)) := (Below.refl _ _).alloc (Nat.le_refl _) _
 have HR := Lib.hid (keepRd hB0 HD.out)
 go_enter Tryz.func252, Tryz.ntmps252
 go_wp2_with fail
 refine (H.out _ HR.out).mono ?_
 rintro e w1 ⟨rfl, hb1⟩
 go_wp2
 go_ret
 exact ⟨rfl, keepBelow hB0 hb1⟩

set_option maxRecDepth 100000 in
set_option maxHeartbeats 1000000 in
theorem cconst_any (P : Int) (v : Value) (l : List Sp) (w : World) (h : RdS w v l) :
  Calls Tryz.prog 238 #[.agg #[.int .i64 P, v]] w fun e w' => e = .returned (.bool (constB P l)) ∧ Below w.heap.size w w' := by
 have HD := Lib.hid h
 obtain ⟨a, c, rfl, hl, hc⟩ := h
 obtain ⟨W, hWe⟩ : ∃ W, w.alloc (.cells #[.int .i64 P, .slice a l.length c] 153) = W := ⟨_, rfl⟩
 have hB0 : Below w.heap.size w W := by rw [← hWe]; exact (Below.refl _ _).alloc (Nat.le_refl _) _
 have e0 : ∀ X, (extOf W X).cell? ⟨w.heap.size, 0, none⟩ = some (.int .i64 P) := ext_cell (by rw [← hWe]; simp [go_sem])
 have e1 : ∀ X, (extOf W X).cell? ⟨w.heap.size, 1, none⟩ = some (.slice a l.length c) := ext_cell (by rw [← hWe]; simp [go_sem])
 have HE := Lib.hid hWe
 clear hWe
 by_cases h0 : 0 < l.length
 ·obtain ⟨b, o, rfl, hbw, c1, c2, _⟩ := rd_ends hc h0
  have f1 : ∀ X, (extOf W X).cell? ⟨b, o, none⟩ = some (.int .i64 (firstFr l)) := ext_cell ((hB0.cell (p := ⟨b, o, none⟩) hbw).trans c1)
  obtain ⟨s2, hs2⟩ : ∃ s2, (l.getD 0 (0, 0)).2 = s2 := ⟨_, rfl⟩
  rw [hs2] at c2
  have f2 : ∀ X, (extOf W X).cell? ⟨b, o + 1, none⟩ = some (.int .i64 s2) := ext_cell ((hB0.cell (p := ⟨b, o + 1, none⟩) hbw).trans c2)
  have HS := Lib.hid hs2
  clear c1 c2 hc hs2
  have g0 : (((l.length : Int)) == 0) = false := by simp; intro e; simp [e] at h0
  have HC : Hid (constB P l = (decide (firstFr l = 0) && (s2 == P))) := by
   have : (l.length == 0) = false := by simp; intro e; simp [e] at h0
   unfold Hid constB; rw [this, HS.out, Bool.false_or]
  by_cases hf : firstFr l = 0
  ·have g1 : (firstFr l == 0) = true := by simpa using hf
   have HF := Lib.hid hf
   clear hf
   go_enter Tryz.func238, Tryz.ntmps238
   go_wp2_with fail
   rw [HE.out]
   refine wp_region_ext (by kernel_rfl) (by kernel_rfl) ?_
   repeat (go_big_quiet_step (fail))
   refine wpQuiet_nil ?_
   intro w1 hb1
   go_wp2
   go_ret
   exact ⟨ret_bool (by rw [HC.out, HF.out]; simp), keepBelow hB0 hb1⟩
  ·have g1 : (firstFr l == 0) = false := by simpa using hf
   have HF := Lib.hid hf
   clear hf
   go_enter Tryz.func238, Tryz.ntmps238
   go_wp2_with fail
   rw [HE.out]
   refine wp_region_ext (by kernel_rfl) (by kernel_rfl) ?_
   repeat (go_big_quiet_step (fail))
   refine wpQuiet_nil ?_
   intro w1 hb1
   go_wp2
   go_ret
   exact ⟨ret_bool (by rw [HC.out]; simp [HF.out]), keepBelow hB0 hb1⟩
 ·clear hc
  have g0 : (((l.length : Int)) == 0) = true := by simp; exact List.eq_nil_of_length_eq_zero (by omega)
  have HC : Hid (constB P l = true) := by
   have : l = [] := List.eq_nil_of_length_eq_zero (by omega)
   unfold Hid constB; simp [this]
  go_enter Tryz.func238, Tryz.ntmps238
  go_wp2_with fail
  rw [HE.out]
  refine wp_region_ext (by kernel_rfl) (by kernel_rfl) ?_
  repeat (go_big_quiet_step (fail))
  refine wpQuiet_nil ?_
  intro w1 hb1
  go_wp2
  go_ret
  exact ⟨ret_bool HC.out.symm, keepBelow hB0 hb1⟩

theorem OwnI.ne_low {w : World} {B : Nat} {v : Value} {l : List Int} (h : OwnI w B v l) {b : Nat} (hb : b < B) : v.ownBlock ≠ some b := fun e => by have := (h.lt _ e).1; omega

def ChPost (P : Int) (l : List Sp) (w : World) (e : Ending) (w' : World) : Prop := ∃ v', e = .returned v' ∧ OwnI w' w.heap.size v' (chg2 l P) ∧ Below w.heap.size w w'

set_option maxRecDepth 100000 in
set_option maxHeartbeats 3000000 in
theorem cchg_any (P : Int) (v : Value) (l : List Sp) (w : World) (h : RdS w v l) (hv : pvB P l = true) :
  Calls Tryz.prog 239 #[.agg #[.int .i64 P, v]] w (ChPost P l w) := by
 obtain ⟨hrv, hP1, hP2, hin⟩ := rvB_of_pvB hv
 obtain ⟨hcan, hbd, hlen⟩ := canon_of_rvB hrv
 have HCN := Lib.hid hcan
 have HIN := Lib.hid hin
 obtain ⟨a, c, rfl, hl, hc⟩ := h
 obtain ⟨W, hWe⟩ : ∃ W, w.alloc (.cells #[.int .i64 P, .slice a l.length c] 153) = W := ⟨_, rfl⟩
 have hB0 : Below w.heap.size w W := by rw [← hWe]; exact (Below.refl _ _).alloc (Nat.le_refl _) _
 have P0 : W.cell? ⟨w.heap.size, 0, none⟩ = some (.int .i64 P) := by rw [← hWe]; simp [go_sem]
 have P1 : W.cell? ⟨w.heap.size, 1, none⟩ = some (.slice a l.length c) := by rw [← hWe]; simp [go_sem]
 have hW1 : W.heap.size = w.heap.size + 1 := by rw [← hWe]; simp
 have hWs : w.heap.size < W.heap.size := by omega
 have HE := Lib.hid hWe
 clear hWe hW1 hv hrv hcan hin
 go_enter Tryz.func239, Tryz.ntmps239
 go_wp2_with fail
 rw [HE.out]
 go_loopw [3, 15] (fun u i wr => ∃ k : Nat, k ≤ l.length ∧ i = .int .i64 k ∧ OwnI wr W.heap.size u (cT l P k) ∧ Below W.heap.size W wr) (fun _ i _ => l.length - (intOf i).toNat)
 case atStart => exact ⟨0, Nat.zero_le _, rfl, by rw [cT_zero]; exact OwnI.nil _ _, Below.refl _ _⟩
 case round =>
  obtain ⟨k, hk, rfl, ho, hB⟩ := hrel
  by_cases hlt : k < l.length
  ·obtain ⟨b, o, rfl, hbw, _, _, _⟩ := rd_ends hc (by omega)
   have hBw : Below w.heap.size w wr := hB0.trans (hB.mono (by omega))
   obtain ⟨b', o', x, y, e', _, HXY, d1, d2⟩ := rd_at hc hBw hlt
   cases e'
   have HLC : Hid (∀ V, Below W.heap.size W V → V.cell? ⟨b, o, none⟩ = some (.int .i64 (firstFr l)) ∧ V.cell? ⟨b, o + (l.length - 1) * 2 + 1, none⟩ = some (.int .i64 (lastTo l))) := by
    intro V hV
    have hBV : Below w.heap.size w V := hB0.trans (hV.mono (by omega))
    obtain ⟨b2, o2, e2, hb2, c1, _, c3⟩ := rd_ends hc (by omega)
    cases e2
    exact ⟨(hBV.cell (p := ⟨b, o, none⟩) hb2).trans c1, (hBV.cell (p := ⟨b, o + (l.length - 1) * 2 + 1, none⟩) hb2).trans c3⟩
   obtain ⟨f0, t0⟩ := HLC.out _ hB
   have hsz := hB.size
   have hbr : b < wr.heap.size := by omega
   have q0 := (hB.cell (p := ⟨w.heap.size, 0, none⟩) hWs).trans P0
   have q1 := (hB.cell (p := ⟨w.heap.size, 1, none⟩) hWs).trans P1
   have hwr : w.heap.size < wr.heap.size := by omega
   have hne := ho.ne
   have hne0 := ho.ne_low hWs
   have hpos : 0 < l.length := by omega
   have hl1 := cT_len l P k
   have hl2 : (cT l P k ++ [x]).length ≤ 4002 := by simp only [List.length_append, List.length_cons, List.length_nil]; omega
   have yx : (wr.alloc (.cells #[.int .i64 x, .int .i64 y] 41)).cell? ⟨wr.heap.size, 0, none⟩ = some (.int .i64 x) := by simp [go_sem]
   have yy : (wr.alloc (.cells #[.int .i64 x, .int .i64 y] 41)).cell? ⟨wr.heap.size, 1, none⟩ = some (.int .i64 y) := by simp [go_sem]
   have x0 : ∀ X, (extOf (wr.alloc (.cells #[.int .i64 x, .int .i64 y] 41)) X).cell? ⟨wr.heap.size, 0, none⟩ = some (.int .i64 x) := ext_cell (by simp [go_sem])
   have x1 : ∀ X, (extOf (wr.alloc (.cells #[.int .i64 x, .int .i64 y] 41)) X).cell? ⟨w.heap.size, 0, none⟩ = some (.int .i64 P) := ext_cell ((World.cell?_alloc_past _ _ _ hwr).trans q0)
   have x2 : ∀ X, (extOf (wr.alloc (.cells #[.int .i64 x, .int .i64 y] 41)) X).cell? ⟨w.heap.size, 1, none⟩ = some (.slice (some ⟨b, o, none⟩) l.length c) := ext_cell ((World.cell?_alloc_past _ _ _ hwr).trans q1)
   have x3 : ∀ X, (extOf (wr.alloc (.cells #[.int .i64 x, .int .i64 y] 41)) X).cell? ⟨b, o + (l.length - 1) * 2 + 1, none⟩ = some (.int .i64 (lastTo l)) := ext_cell ((World.cell?_alloc_past _ _ _ hbr).trans t0)
   have hxf := canon_first HCN.out (mem_of_getD HXY.out hlt)
   have hyl := canon_last HCN.out (mem_of_getD HXY.out hlt)
   have HCC := Lib.hid hc
   simp only at hxf hyl
   clear hc
   by_cases hx0 : 0 < x
   ·have g1 : decide (0 < x) = true := by simpa using hx0
    have HD : y < P → stepD (lastTo l) P (x, y) = [x, y] := fun h => by unfold stepD; simp [hx0, h]
    have HD' : ¬ y < P → stepD (lastTo l) P (x, y) = [x] := fun h => by unfold stepD; simp [hx0, h]
    have HD1 := Lib.hid HD
    have HD2 := Lib.hid HD'
    clear HD HD'
    by_cases hy : y < P
    ·have HQ := Lib.hid (cT_lt HXY.out hlt hy)
     go_wp2_with fail
     refine wp_region_ext (by kernel_rfl) (by kernel_rfl) ?_
     repeat (go_big_quiet_step (fail))
     refine wpQuiet_nil ?_
     intro w1 hb1
     have o0 := (ho.alloc (.cells #[.int .i64 x, .int .i64 y] 41)).below hb1
     have b0 := (hB.alloc hsz (.cells #[.int .i64 x, .int .i64 y] 41)).trans (hb1.mono (by simp; omega))
     have hsz1 := b0.size
     have y1 := keepCell hb1 yy
     have y0 := keepCell hb1 yx
     have p0 := (b0.cell (p := ⟨w.heap.size, 0, none⟩) (by show w.heap.size < _; omega)).trans P0
     have p1 := (b0.cell (p := ⟨w.heap.size, 1, none⟩) (by show w.heap.size < _; omega)).trans P1
     have hf0 := (HLC.out _ b0).1
     go_wp2_with (first | (at_builtin; refine wpList_app_int rfl (.tmp 37) (.tmp 40) rfl rfl o0 b0 rfl (by simp) (by omega) ?_; intro v1 w2 o1 b1 k1 z1; have s1 := (k1 wr.heap.size 1 (by have := hb1.size; simp at this; omega) hne).trans y1; have p0' := (k1 w.heap.size 0 (by omega) hne0).trans p0; have p1' := (k1 w.heap.size 1 (by omega) hne0).trans p1; have hf1 := (HLC.out _ b1).1; clear k1) | (at_builtin; refine wpList_app_int rfl (.tmp 48) (.tmp 51) rfl rfl o1 b1 rfl (by simp) (by omega) ?_; intro v2 w3 o2 b2 k2 z2; clear k2))
     go_roundw
     case rel => exact ⟨k + 1, by omega, by go_num, by rw [HQ.out, HD1.out hy]; simpa using o2, b2⟩
     case measure => simp [intOf]; omega
    ·obtain ⟨hk1, hyP, htP⟩ := last_of_ge HCN.out HIN.out HXY.out hlt hy
     have g2 : decide (y < P) = false := by simpa using hy
     have g3 : ((k : Int) == (l.length : Int) - 1) = true := by simp; omega
     by_cases hff : 0 < firstFr l
     ·have HQ := Lib.hid (cT_wrap HCN.out HIN.out HXY.out hlt hy hff); have HDy := Lib.hid (HD2.out hy); clear hyP htP hk1
      go_wp2_with fail
      refine wp_region_ext (by kernel_rfl) (by kernel_rfl) ?_
      repeat (go_big_quiet_step (fail))
      refine wpQuiet_nil ?_
      intro w1 hb1
      have o0 := (ho.alloc (.cells #[.int .i64 x, .int .i64 y] 41)).below hb1
      have b0 := (hB.alloc hsz (.cells #[.int .i64 x, .int .i64 y] 41)).trans (hb1.mono (by simp; omega))
      have hsz1 := b0.size
      have y1 := keepCell hb1 yy
      have y0 := keepCell hb1 yx
      have p0 := (b0.cell (p := ⟨w.heap.size, 0, none⟩) (by show w.heap.size < _; omega)).trans P0
      have p1 := (b0.cell (p := ⟨w.heap.size, 1, none⟩) (by show w.heap.size < _; omega)).trans P1
      have hf0 := (HLC.out _ b0).1
      go_wp2_with (first | (at_builtin; refine wpList_app_int rfl (.tmp 37) (.tmp 40) rfl rfl o0 b0 rfl (by simp) (by omega) ?_; intro v1 w2 o1 b1 k1 z1; have s1 := (k1 wr.heap.size 1 (by have := hb1.size; simp at this; omega) hne).trans y1; have p0' := (k1 w.heap.size 0 (by omega) hne0).trans p0; have p1' := (k1 w.heap.size 1 (by omega) hne0).trans p1; have hf1 := (HLC.out _ b1).1; clear k1) | (go_at_call 243; refine (ins0_any v1 _ 0 W w2 o1 b1 (by simp) (by omega)).mono ?_; rintro e w3 ⟨v2, rfl, o2, b2⟩))
      go_roundw
      case rel => exact ⟨k + 1, by omega, by go_num, by rw [HQ.out, HDy.out]; simpa using o2, b2⟩
      case measure => simp [intOf]; omega
     ·have HQ := Lib.hid (cT_nowrap (P := P) HXY.out hlt hff); have HDy := Lib.hid (HD2.out hy); clear hyP htP hk1
      go_wp2_with fail
      refine wp_region_ext (by kernel_rfl) (by kernel_rfl) ?_
      repeat (go_big_quiet_step (fail))
      refine wpQuiet_nil ?_
      intro w1 hb1
      have o0 := (ho.alloc (.cells #[.int .i64 x, .int .i64 y] 41)).below hb1
      have b0 := (hB.alloc hsz (.cells #[.int .i64 x, .int .i64 y] 41)).trans (hb1.mono (by simp; omega))
      have hsz1 := b0.size
      have y1 := keepCell hb1 yy
      have y0 := keepCell hb1 yx
      have p0 := (b0.cell (p := ⟨w.heap.size, 0, none⟩) (by show w.heap.size < _; omega)).trans P0
      have p1 := (b0.cell (p := ⟨w.heap.size, 1, none⟩) (by show w.heap.size < _; omega)).trans P1
      have hf0 := (HLC.out _ b0).1
      go_wp2_with ((at_builtin; refine wpList_app_int rfl (.tmp 37) (.tmp 40) rfl rfl o0 b0 rfl (by simp) (by omega) ?_; intro v1 w2 o1 b1 k1 z1; have s1 := (k1 wr.heap.size 1 (by have := hb1.size; simp at this; omega) hne).trans y1; have p0' := (k1 w.heap.size 0 (by omega) hne0).trans p0; have p1' := (k1 w.heap.size 1 (by omega) hne0).trans p1; have hf1 := (HLC.out _ b1).1; clear k1))
      go_roundw
      case rel => exact ⟨k + 1, by omega, by go_num, by rw [HQ.out, HDy.out]; simpa using o1, b1⟩
      case measure => simp [intOf]; omega
   ·have g1 : decide (0 < x) = false := by simpa using hx0
    have hff : ¬ 0 < firstFr l := by omega
    by_cases htP : lastTo l < P
    ·have hy : y < P := by omega
     have g4 : decide (lastTo l < P) = true := by simpa using htP
     have HQ := Lib.hid (cT_lt HXY.out hlt hy); have HDy : Hid (stepD (lastTo l) P (x, y) = [x, y]) := by unfold Hid stepD; simp [htP, hy]
     go_wp2_with fail
     refine wp_region_ext (by kernel_rfl) (by kernel_rfl) ?_
     repeat (go_big_quiet_step (fail))
     refine wpQuiet_nil ?_
     intro w1 hb1
     have o0 := (ho.alloc (.cells #[.int .i64 x, .int .i64 y] 41)).below hb1
     have b0 := (hB.alloc hsz (.cells #[.int .i64 x, .int .i64 y] 41)).trans (hb1.mono (by simp; omega))
     have hsz1 := b0.size
     have y1 := keepCell hb1 yy
     have y0 := keepCell hb1 yx
     have p0 := (b0.cell (p := ⟨w.heap.size, 0, none⟩) (by show w.heap.size < _; omega)).trans P0
     have p1 := (b0.cell (p := ⟨w.heap.size, 1, none⟩) (by show w.heap.size < _; omega)).trans P1
     have hf0 := (HLC.out _ b0).1
     go_wp2_with (first | (at_builtin; refine wpList_app_int rfl (.tmp 37) (.tmp 40) rfl rfl o0 b0 rfl (by simp) (by omega) ?_; intro v1 w2 o1 b1 k1 z1; have s1 := (k1 wr.heap.size 1 (by have := hb1.size; simp at this; omega) hne).trans y1; have p0' := (k1 w.heap.size 0 (by omega) hne0).trans p0; have p1' := (k1 w.heap.size 1 (by omega) hne0).trans p1; have hf1 := (HLC.out _ b1).1; clear k1) | (at_builtin; refine wpList_app_int rfl (.tmp 48) (.tmp 51) rfl rfl o1 b1 rfl (by simp) (by omega) ?_; intro v2 w3 o2 b2 k2 z2; clear k2))
     go_roundw
     case rel => exact ⟨k + 1, by omega, by go_num, by rw [HQ.out, HDy.out]; simpa using o2, b2⟩
     case measure => simp [intOf]; omega
    ·have g4 : decide (lastTo l < P) = false := by simpa using htP
     by_cases hy : y < P
     ·have HQ := Lib.hid (cT_lt HXY.out hlt hy); have HDy : Hid (stepD (lastTo l) P (x, y) = [y]) := by unfold Hid stepD; simp [hx0, htP, hy]
      go_wp2_with fail
      refine wp_region_ext (by kernel_rfl) (by kernel_rfl) ?_
      repeat (go_big_quiet_step (fail))
      refine wpQuiet_nil ?_
      intro w1 hb1
      have o0 := (ho.alloc (.cells #[.int .i64 x, .int .i64 y] 41)).below hb1
      have b0 := (hB.alloc hsz (.cells #[.int .i64 x, .int .i64 y] 41)).trans (hb1.mono (by simp; omega))
      have hsz1 := b0.size
      have y1 := keepCell hb1 yy
      have y0 := keepCell hb1 yx
      have p0 := (b0.cell (p := ⟨w.heap.size, 0, none⟩) (by show w.heap.size < _; omega)).trans P0
      have p1 := (b0.cell (p := ⟨w.heap.size, 1, none⟩) (by show w.heap.size < _; omega)).trans P1
      have hf0 := (HLC.out _ b0).1
      go_wp2_with ((at_builtin; refine wpList_app_int rfl (.tmp 48) (.tmp 51) rfl rfl o0 b0 rfl (by simp) (by omega) ?_; intro v2 w3 o2 b2 k2 z2; clear k2))
      go_roundw
      case rel => exact ⟨k + 1, by omega, by go_num, by rw [HQ.out, HDy.out]; simpa using o2, b2⟩
      case measure => simp [intOf]; omega
     ·have HQ := Lib.hid (cT_nowrap (P := P) HXY.out hlt hff); have HDy : Hid (stepD (lastTo l) P (x, y) = []) := by unfold Hid stepD; simp [hx0, htP, hy]
      go_wp2_with fail
      refine wp_region_ext (by kernel_rfl) (by kernel_rfl) ?_
      repeat (go_big_quiet_step (fail))
      refine wpQuiet_nil ?_
      intro w1 hb1
      have o0 := (ho.alloc (.cells #[.int .i64 x, .int .i64 y] 41)).below hb1
      have b0 := (hB.alloc hsz (.cells #[.int .i64 x, .int .i64 y] 41)).trans (hb1.mono (by simp; omega))
      have hsz1 := b0.size
      have y1 := keepCell hb1 yy
      have y0 := keepCell hb1 yx
      have p0 := (b0.cell (p := ⟨w.heap.size, 0, none⟩) (by show w.heap.size < _; omega)).trans P0
      have p1 := (b0.cell (p := ⟨w.heap.size, 1, none⟩) (by show w.heap.size < _; omega)).trans P1
      have hf0 := (HLC.out _ b0).1
      go_wp2_with (fail)
      go_roundw
      case rel => exact ⟨k + 1, by omega, by go_num, by rw [HQ.out, HDy.out]; simpa using o0, b0⟩
      case measure => simp [intOf]; omega
  ·obtain rfl : k = l.length := by omega
   rw [cT_full] at ho
   clear hc
   go_wp2
   go_ret
   exact ⟨_, rfl, ho.mono (by omega), hB0.trans (hB.mono (by omega))⟩
end Go.Proofs.YtmfdnbfjdhlonaaGreatDoor
namespace Go.Proofs.YtmfdnbfjdhlonaaGreatDoor
open Go.RowKit Wk

def NxPost (h : Int → Bool) (x : Int) (w : World) (e : Ending) (w' : World) : Prop := ∃ r : Option Int, NextC h x r ∧ e = .returned (.tuple #[.int .i64 (r.getD 0), .bool r.isSome]) ∧ Below w.heap.size w w'
def PvPost (h : Int → Bool) (x : Int) (w : World) (e : Ending) (w' : World) : Prop := ∃ r : Option Int, PrevC h x r ∧ e = .returned (.tuple #[.int .i64 (r.getD 0), .bool r.isSome]) ∧ Below w.heap.size w w'
set_option maxRecDepth 100000 in
set_option maxHeartbeats 2000000 in
theorem cafter_any (P x : Int) (v : Value) (l : List Sp) (w : World) (h : RdS w v l) (hv : pvB P l = true) (hx1 : -1152921504606846976 ≤ x) (hx2 : x ≤ 1152921504606846976) :
    Calls Tryz.prog 251 #[.agg #[.int .i64 P, v], .int .i64 x] w (NxPost (hasP (P, l)) x w) := by
  obtain ⟨hrv, hP1, hP2, hin⟩ := rvB_of_pvB hv
  have hlen := (canon_of_rvB hrv).2.2
  have HG := Lib.hid (goodP_of_pvB hv)
  have H1 := Lib.hid (fun W h => cconst_any P v l W h)
  have H2 := Lib.hid (fun W h => cchg_any P v l W h hv)
  have H3 := Lib.hid (fun W => tfloor_any x P W hP1 (by omega) hx1 hx2)
  have HD := Lib.hid h
  obtain ⟨a, c, rfl, hl, hc⟩ := h
  clear hc hv hrv hin
  obtain ⟨W, hWe⟩ : ∃ W, w.alloc (.cells #[.int .i64 P, .slice a l.length c] 153) = W := ⟨_, rfl⟩
  have hB0 : Below w.heap.size w W := by rw [← hWe]; exact (Below.refl _ _).alloc (Nat.le_refl _) _
  have P0 : W.cell? ⟨w.heap.size, 0, none⟩ = some (.int .i64 P) := by rw [← hWe]; simp [go_sem]
  have P1 : W.cell? ⟨w.heap.size, 1, none⟩ = some (.slice a l.length c) := by rw [← hWe]; simp [go_sem]
  have HR := Lib.hid (keepRd hB0 HD.out)
  have HE := Lib.hid hWe
  clear hWe
  have hm := mod_lo x hP1
  obtain ⟨bs, hbs⟩ : ∃ bs, x / P * P = bs := ⟨_, rfl⟩
  cases hcb : constB P l with
  | true =>
    rw [hcb] at H1
    have HN : Hid (NextC (hasP (P, l)) x none) := fun z _ => const_yes HG.out hcb z
    clear hcb hbs hm
    go_enter Tryz.func251, Tryz.ntmps251
    go_wp2_with fail
    rw [HE.out]
    refine (H1.out _ HR.out).mono ?_
    rintro e w1 ⟨rfl, hb1⟩
    go_wp2
    go_ret2
    exact ⟨none, HN.out, rfl, keepBelow hB0 hb1⟩
  | false =>
    rw [hcb] at H1
    have HNE := Lib.hid (const_no HG.out hcb)
    clear hcb
    go_enter Tryz.func251, Tryz.ntmps251
    go_wp2_with fail
    rw [HE.out]
    refine (H1.out _ HR.out).mono ?_
    rintro e w1 ⟨rfl, hb1⟩
    have a0 := keepCell hb1 P0
    have a1 := keepCell hb1 P1
    have hB1 := keepBelow hB0 hb1
    have HR1 := Lib.hid (keepRd hb1 HR.out)
    clear hb1 P0 P1
    go_wp2_with fail
    refine (H2.out _ HR1.out).mono ?_
    rintro e w2 ⟨v6, rfl, ho, hb2⟩
    have b0 := keepCell hb2 a0
    have b1 := keepCell hb2 a1
    have hB2 := keepBelow hB1 hb2
    have HO := Lib.hid ho
    clear hb2 a0 a1
    obtain ⟨a6, c6, rfl, hce⟩ := ho.form
    have hl2 := chg2_len l P
    obtain ⟨L, hL⟩ : ∃ L, chg2 l P = L := ⟨_, rfl⟩
    have HLb : Hid (∀ j, j < L.length → 0 ≤ L.getD j 0 ∧ L.getD j 0 < P) := by
      intro j hj
      have := (chg2_mem HG.out (L.getD j 0)).1 (by simp only [hL]; exact getD_mem hj)
      exact ⟨this.1, this.2.1⟩
    rw [hL] at hce hl2 ⊢
    have HLL := Lib.hid hL
    clear hL ho
    have e0 := ext_cell b0
    have e1 := ext_cell b1
    have hbd1 : -1152921517229627776 ≤ x / P * P := by omega
    have hbd2 : x / P * P ≤ 1152921504606846976 := by omega
    go_wp2_with fail
    refine wp_region_ext (by kernel_rfl) (by kernel_rfl) ?_
    repeat (go_big_quiet_step ((go_at_call 240; refine calls_ext_same (H3.out _))))
    refine wpQuiet_nil ?_
    intro w3 hb3
    have hB3 := keepBelow hB2 hb3
    have d0 := keepCell hb3 b0
    have hce3 : ∀ i, i < L.length → ∃ g, a6 = some ⟨g, 0, none⟩ ∧ w3.cell? ⟨g, i, none⟩ = some (.int .i64 (L.getD i 0)) := by
      intro i hi
      obtain ⟨g, e, hg, hcc⟩ := hce i hi
      exact ⟨g, e, keepCell hb3 hcc⟩
    clear e0 e1 hb3 hce b0 b1
    rw [hbs] at hbd1 hbd2 hm
    have HBS := Lib.hid hbs
    clear hbs
    go_wp2_with fail
    go_loopw [25] (fun i wr => ∃ k : Nat, k ≤ L.length ∧ i = .int .i64 k ∧ Hid (∀ j, j < k → bs + L.getD j 0 ≤ x) ∧ w3 = wr) (fun i _ => L.length - (intOf i).toNat)
    case atStart => exact ⟨0, Nat.zero_le _, rfl, (fun j hj => by omega), rfl⟩
    case round =>
      obtain ⟨k, hk, rfl, HK, rfl⟩ := hrel
      by_cases hlt : k < L.length
      · obtain ⟨g, rfl, d1⟩ := hce3 k hlt
        have hy := HLb.out k hlt
        obtain ⟨y, hye⟩ : ∃ y, L.getD k 0 = y := ⟨_, rfl⟩
        rw [hye] at d1 hy
        have HY := Lib.hid hye
        clear hye hce3
        by_cases hxy : x < bs + y
        · go_wp2
          go_ret2
          exact ⟨some (bs + y), by have hn := next_in HG.out (x := x) (k := k) (by simp only [HLL.out]; exact hlt) (by simp only [HLL.out, HBS.out, HY.out]; exact hxy) (by simp only [HLL.out, HBS.out]; exact HK.out)
                                   simp only [HLL.out, HBS.out, HY.out] at hn; exact hn, rfl, hB3⟩
        · go_wp2
          go_roundw
          case rel => exact ⟨k + 1, by omega, by go_num, (fun j hj => by
            rcases Nat.lt_succ_iff_lt_or_eq.1 hj with h | rfl
            · exact HK.out j h
            · rw [HY.out]; omega), trivial⟩
          case measure => simp [intOf]; omega
      · have hL0 : 0 < L.length := List.length_pos_iff.2 (by rw [← HLL.out]; exact HNE.out)
        obtain ⟨g, rfl, d1⟩ := hce3 0 hL0
        have hy := HLb.out 0 hL0
        obtain ⟨y, hye⟩ : ∃ y, L.getD 0 0 = y := ⟨_, rfl⟩
        rw [hye] at d1 hy
        have HY := Lib.hid hye
        clear hye hce3
        have e0 := ext_cell d0
        have e1 := ext_cell d1
        go_wp2_with fail
        refine wp_region_ext (by kernel_rfl) (by kernel_rfl) ?_
        repeat (go_big_quiet_step (fail))
        refine wpQuiet_nil ?_
        intro w4 hb4
        go_wp2
        go_ret2
        exact ⟨some (bs + P + y), by have hn := next_out HG.out (x := x) HNE.out (by simp only [HLL.out, HBS.out]; exact fun j hj => HK.out j (by omega))
                                     simp only [HLL.out, HBS.out, HY.out] at hn; exact hn, rfl, keepBelow hB3 hb4⟩
end Go.Proofs.YtmfdnbfjdhlonaaGreatDoor
namespace Go.Proofs.YtmfdnbfjdhlonaaGreatDoor
open Go.RowKit Wk

set_option maxHeartbeats 400000 in
theorem bhas_any (x : Int) (v : Value) (l : List Sp) (w : World) (h : RdS w v l) (hv : rvB l = true) :
  Calls Tryz.prog 258 #[v, .int .i64 x] w fun e w' => e = .returned (.bool (inL l x)) ∧ Below w.heap.size w w' := by
 have H := Lib.hid (rhas_any v l x w h hv)
 clear h hv
 go_enter Tryz.func258, Tryz.ntmps258
 go_wp2_with fail
 refine H.out.mono ?_
 rintro e w1 ⟨rfl, hb1⟩
 go_wp2
 go_ret
 exact ⟨rfl, hb1⟩

set_option maxHeartbeats 1000000 in
theorem bafter_any (x : Int) (v : Value) (l : List Sp) (w : World) (h : RdS w v l) (hcan : Canon l) :
  Calls Tryz.prog 257 #[v, .int .i64 x] w (NxPost (inL l) x w) := by
 have HCN := Lib.hid hcan
 obtain ⟨a, c, rfl, hl, hc⟩ := h
 have i0 : ∀ (W : World) (x y : Int), (Instr.index 248 (.agg #[.int .i64 x, .int .i64 y]) (.int .i64 0)).run Tryz.prog W = .ok (.int .i64 x) W := fun _ _ _ => by kernel_rfl
 have i1 : ∀ (W : World) (x y : Int), (Instr.index 248 (.agg #[.int .i64 x, .int .i64 y]) (.int .i64 1)).run Tryz.prog W = .ok (.int .i64 y) W := fun _ _ _ => by kernel_rfl
 clear hcan
 go_enter Tryz.func257, Tryz.ntmps257
 go_wp2_with fail
 go_loopw [12] (fun i wr => ∃ k : Nat, k ≤ l.length ∧ i = .int .i64 k ∧ Hid (∀ j, j < k → (l.getD j (0, 0)).2 ≤ x) ∧ Below w.heap.size w wr) (fun i _ => l.length - (intOf i).toNat)
 case atStart => exact ⟨0, Nat.zero_le _, rfl, (fun j hj => by omega), Below.refl _ _⟩
 case round =>
  obtain ⟨k, hk, rfl, HK, hB⟩ := hrel
  by_cases hlt : k < l.length
  ·obtain ⟨b, o, y, z, rfl, hbw, HXY, d1, d2⟩ := rd_at hc hB hlt
   have hp := idx_pos HCN.out hlt
   rw [HXY.out] at hp
   simp only at hp
   have HC := Lib.hid hc
   have hsz := hB.size
   have hBa : Below w.heap.size w (wr.alloc (.cells #[.int .i64 y, .int .i64 z] 41)) := hB.alloc hsz _
   clear hc
   go_wp2_with fail
   generalize wr.alloc (.cells #[.int .i64 y, .int .i64 z] 41) = wo at *
   go_loopw [21] (fun i wr2 => ∃ m : Nat, m ≤ 2 ∧ i = .int .i64 m ∧ (0 < m → y ≤ x) ∧ (1 < m → z ≤ x) ∧ wo = wr2) (fun i _ => 2 - (intOf i).toNat)
   case atStart => exact ⟨0, by omega, rfl, (fun h => by omega), (fun h => by omega), rfl⟩
   case round =>
    obtain ⟨m, hm, rfl, hm1, hm2, rfl⟩ := hrel
    rcases (by omega : m = 0 ∨ m = 1 ∨ m = 2) with rfl | rfl | rfl
    ·clear hm1 hm2
     by_cases hxy : x < y
     ·go_wp2
      go_ret2
      exact ⟨some y, bnext_fr HCN.out hlt HXY.out HK.out hxy, rfl, hBa⟩
     ·go_wp2
      go_roundw
      case rel => exact ⟨1, by omega, rfl, (fun _ => by omega), (fun h => by omega), trivial⟩
      case measure => simp [intOf]
    ·have hy := hm1 (by omega)
     clear hm1 hm2
     by_cases hxz : x < z
     ·go_wp2
      go_ret2
      exact ⟨some z, bnext_to HCN.out hlt HXY.out HK.out hy hxz, rfl, hBa⟩
     ·go_wp2
      go_roundw
      case rel => exact ⟨2, by omega, rfl, (fun _ => by omega), (fun h => by omega), trivial⟩
      case measure => simp [intOf]
    ·have hz := hm2 (by omega)
     clear hm1 hm2
     go_wp2
     go_roundw
     case rel => exact ⟨k + 1, by omega, by go_num, (fun j hj => by
      rcases Nat.lt_succ_iff_lt_or_eq.1 hj with h | rfl
      ·exact HK.out j h
      ·rw [HXY.out]; exact hz), hBa⟩
     case measure => simp [intOf]; omega
  ·clear hc
   go_wp2
   go_ret2
   exact ⟨none, bnext_no HCN.out (fun j hj => HK.out j (by omega)), rfl, hB⟩
end Go.Proofs.YtmfdnbfjdhlonaaGreatDoor
namespace Go.Proofs.YtmfdnbfjdhlonaaGreatDoor
open Go.RowKit Wk

theorem m_chas (W : World) (p : Int) (a : Option Addr) (n c : Nat) : (method 357 153 (.agg #[.int .i64 p, .slice a n c]) "civiltime/timeset.has").run Tryz.prog W = .ok (252, .agg #[.int .i64 p, .slice a n c]) W := by kernel_rfl
theorem m_bhas (W : World) (a : Option Addr) (n c : Nat) : (method 357 154 (.slice a n c) "civiltime/timeset.has").run Tryz.prog W = .ok (258, .slice a n c) W := by kernel_rfl
theorem m_cafter (W : World) (p : Int) (a : Option Addr) (n c : Nat) : (method 357 153 (.agg #[.int .i64 p, .slice a n c]) "civiltime/timeset.after").run Tryz.prog W = .ok (251, .agg #[.int .i64 p, .slice a n c]) W := by kernel_rfl
theorem m_bafter (W : World) (a : Option Addr) (n c : Nat) : (method 357 154 (.slice a n c) "civiltime/timeset.after").run Tryz.prog W = .ok (257, .slice a n c) W := by kernel_rfl

def RdSt (w : World) (s : St) (vl vr vv : Value) : Prop := RdS w vl s.lf.2 ∧ RdS w vr s.rt.2 ∧ RdS w vv s.l
theorem keepSt {W w' : World} {s : St} {vl vr vv : Value} (hb : Below W.heap.size W w') (h : RdSt W s vl vr vv) : RdSt w' s vl vr vv := ⟨keepRd hb h.1, keepRd hb h.2.1, keepRd hb h.2.2⟩
theorem RdS.form {w : World} {v : Value} {l : List Sp} (h : RdS w v l) : ∃ a c, v = .slice a l.length c := let ⟨a, c, e, _⟩ := h; ⟨a, c, e⟩
def partV (s : St) (vl vr vv : Value) (x : Int) : Value :=
 if x < s.fr then .iface 153 (.agg #[.int .i64 s.lf.1, vl]) else if x < s.to then .iface 154 vv else .iface 153 (.agg #[.int .i64 s.rt.1, vr])

set_option maxHeartbeats 1000000 in
theorem wpart_any (s : St) (vl vr vv : Value) (x : Int) (w : World) (h : RdSt w s vl vr vv) :
  Calls Tryz.prog 86 #[.agg #[.int .i64 s.lf.1, vl, .int .i64 s.rt.1, vr, .int .i64 s.fr, .int .i64 s.to, vv], .int .i64 x] w fun e w' => e = .returned (partV s vl vr vv x) ∧ Below w.heap.size w w' := by
 obtain ⟨al, cl, rfl⟩ := h.1.form
 obtain ⟨ar, cr, rfl⟩ := h.2.1.form
 obtain ⟨av, cv, rfl⟩ := h.2.2.form
 clear h
 obtain ⟨⟨lp, ll⟩, ⟨rp, rl⟩, fr, tt, l⟩ := s
 unfold partV
 simp only
 by_cases h1 : x < fr
 ·rw [if_pos h1]
  go_enter Tryz.func86, Tryz.ntmps86
  go_wp2
  go_ret
  exact ⟨rfl, (Below.refl _ _).alloc (Nat.le_refl _) _⟩
 ·rw [if_neg h1]
  by_cases h2 : x < tt
  ·rw [if_pos h2]
   go_enter Tryz.func86, Tryz.ntmps86
   go_wp2
   go_ret
   exact ⟨rfl, (Below.refl _ _).alloc (Nat.le_refl _) _⟩
  ·rw [if_neg h2]
   go_enter Tryz.func86, Tryz.ntmps86
   go_wp2
   go_ret
   exact ⟨rfl, (Below.refl _ _).alloc (Nat.le_refl _) _⟩

set_option maxRecDepth 100000 in
set_option maxHeartbeats 1000000 in
theorem whas_any (s : St) (vl vr vv : Value) (x : Int) (w : World) (h : RdSt w s vl vr vv) (hs : OkS s) (hx1 : -1152921504606846976 ≤ x) (hx2 : x ≤ 1152921504606846976) :
  Calls Tryz.prog 45 #[.agg #[.int .i64 s.lf.1, vl, .int .i64 s.rt.1, vr, .int .i64 s.fr, .int .i64 s.to, vv], .int .i64 x] w fun e w' => e = .returned (.bool (hasS s x)) ∧ Below w.heap.size w w' := by
 have H1 := Lib.hid (fun W h => wpart_any s vl vr vv x W h)
 have H2 := Lib.hid (fun W h => chas_any s.lf.1 x vl s.lf.2 W h hs.lf hx1 hx2)
 have H3 := Lib.hid (fun W h => bhas_any x vv s.l W h hs.l)
 have H4 := Lib.hid (fun W h => chas_any s.rt.1 x vr s.rt.2 W h hs.rt hx1 hx2)
 have hft := hs.ft
 have HD := Lib.hid h
 obtain ⟨al, cl, rfl⟩ := h.1.form
 obtain ⟨ar, cr, rfl⟩ := h.2.1.form
 obtain ⟨av, cv, rfl⟩ := h.2.2.form
 clear h hs
 have q1 := m_chas
 have q2 := m_bhas
 go_enter Tryz.func45, Tryz.ntmps45
 go_wp2_with fail
 refine (H1.out _ (keepSt ((Below.refl _ w).alloc (Nat.le_refl _) _) HD.out)).mono ?_
 rintro e w1 ⟨rfl, hb1⟩
 have hB1 := keepBelow ((Below.refl _ w).alloc (Nat.le_refl _) _) hb1
 have HR1 := Lib.hid (keepSt hB1 HD.out)
 clear hb1
 unfold partV
 by_cases h1 : x < s.fr
 ·rw [if_pos h1]
  have HX := Lib.hid (hasS_lf h1)
  go_wp2_with fail
  refine (H2.out _ HR1.out.1).mono ?_
  rintro e w2 ⟨rfl, hb2⟩
  go_wp2
  go_ret
  exact ⟨ret_bool HX.out.symm, keepBelow hB1 hb2⟩
 ·rw [if_neg h1]
  by_cases h2 : x < s.to
  ·rw [if_pos h2]
   have HX := Lib.hid (hasS_mid (by omega) h2)
   go_wp2_with fail
   refine (H3.out _ HR1.out.2.2).mono ?_
   rintro e w2 ⟨rfl, hb2⟩
   go_wp2
   go_ret
   exact ⟨ret_bool HX.out.symm, keepBelow hB1 hb2⟩
  ·rw [if_neg h2]
   have HX := Lib.hid (hasS_rt hft (by omega : s.to ≤ x))
   go_wp2_with fail
   refine (H4.out _ HR1.out.2.1).mono ?_
   rintro e w2 ⟨rfl, hb2⟩
   go_wp2
   go_ret
   exact ⟨ret_bool HX.out.symm, keepBelow hB1 hb2⟩

set_option maxRecDepth 100000 in
set_option maxHeartbeats 1000000 in
theorem wjoint_any (s : St) (vl vr vv : Value) (x : Int) (w : World) (h : RdSt w s vl vr vv) (hs : OkS s) (hx1 : -1152921504606846975 ≤ x) (hx2 : x ≤ 1152921504606846976) :
  Calls Tryz.prog 235 #[.agg #[.int .i64 s.lf.1, vl, .int .i64 s.rt.1, vr, .int .i64 s.fr, .int .i64 s.to, vv], .int .i64 x] w fun e w' => e = .returned (.bool (hasS s (x - 1) != hasS s x)) ∧ Below w.heap.size w w' := by
 have H1 := Lib.hid (fun y W h h1 h2 => whas_any s vl vr vv y W h hs h1 h2)
 have HD := Lib.hid h
 obtain ⟨al, cl, rfl⟩ := h.1.form
 obtain ⟨ar, cr, rfl⟩ := h.2.1.form
 obtain ⟨av, cv, rfl⟩ := h.2.2.form
 clear h hs
 obtain ⟨W, hWe⟩ : ∃ W, w.alloc (.cells #[.int .i64 s.lf.1, .slice al s.lf.2.length cl, .int .i64 s.rt.1, .slice ar s.rt.2.length cr, .int .i64 s.fr, .int .i64 s.to, .slice av s.l.length cv] 83) = W := ⟨_, rfl⟩
 have hB0 : Below w.heap.size w W := by rw [← hWe]; exact (Below.refl _ _).alloc (Nat.le_refl _) _
 have c0 : ∀ X, (extOf W X).cell? ⟨w.heap.size, 0, none⟩ = some (.int .i64 s.lf.1) := ext_cell (by rw [← hWe]; simp [go_sem])
 have c1 : ∀ X, (extOf W X).cell? ⟨w.heap.size, 1, none⟩ = some (.slice al s.lf.2.length cl) := ext_cell (by rw [← hWe]; simp [go_sem])
 have c2 : ∀ X, (extOf W X).cell? ⟨w.heap.size, 2, none⟩ = some (.int .i64 s.rt.1) := ext_cell (by rw [← hWe]; simp [go_sem])
 have c3 : ∀ X, (extOf W X).cell? ⟨w.heap.size, 3, none⟩ = some (.slice ar s.rt.2.length cr) := ext_cell (by rw [← hWe]; simp [go_sem])
 have c4 : ∀ X, (extOf W X).cell? ⟨w.heap.size, 4, none⟩ = some (.int .i64 s.fr) := ext_cell (by rw [← hWe]; simp [go_sem])
 have c5 : ∀ X, (extOf W X).cell? ⟨w.heap.size, 5, none⟩ = some (.int .i64 s.to) := ext_cell (by rw [← hWe]; simp [go_sem])
 have c6 : ∀ X, (extOf W X).cell? ⟨w.heap.size, 6, none⟩ = some (.slice av s.l.length cv) := ext_cell (by rw [← hWe]; simp [go_sem])
 have HE := Lib.hid hWe
 clear hWe
 have HR := Lib.hid (fun X => keepSt (extOf_below W X) (keepSt hB0 HD.out))
 have hq : IntKind.i64.wrap (x - 1) = x - 1 := IntWalk.i64_in _ (by omega)
 go_enter Tryz.func235, Tryz.ntmps235
 go_wp2_with fail
 rw [HE.out]
 refine wp_region_ext (by kernel_rfl) (by kernel_rfl) ?_
 repeat (go_big_quiet_step ((go_at_call 45; refine calls_ext (H1.out _ _ (HR.out _) (by omega) (by omega)))))
 refine wpQuiet_nil ?_
 intro w1 hb1
 go_wp2
 go_ret
 exact ⟨rfl, keepBelow hB0 hb1⟩
end Go.Proofs.YtmfdnbfjdhlonaaGreatDoor
namespace Go.Proofs.YtmfdnbfjdhlonaaGreatDoor
open Go.RowKit Wk

set_option maxRecDepth 100000 in
set_option maxHeartbeats 4000000 in
theorem wafter_any (s : St) (vl vr vv : Value) (x : Int) (w : World) (h : RdSt w s vl vr vv) (hs : OkS s) (hx1 : -1152921504606846976 ≤ x) (hx2 : x ≤ 1152921504606846976) :
  Calls Tryz.prog 233 #[.agg #[.int .i64 s.lf.1, vl, .int .i64 s.rt.1, vr, .int .i64 s.fr, .int .i64 s.to, vv], .int .i64 x] w (NxPost (hasS s) x w) := by
 have H1 := Lib.hid (fun y W h => wpart_any s vl vr vv y W h)
 have H2 := Lib.hid (fun y W h h1 h2 => cafter_any s.lf.1 y vl s.lf.2 W h hs.lf h1 h2)
 have H3 := Lib.hid (fun y W h => bafter_any y vv s.l W h (canon_of_rvB hs.l).1)
 have H4 := Lib.hid (fun y W h h1 h2 => cafter_any s.rt.1 y vr s.rt.2 W h hs.rt h1 h2)
 have H5 := Lib.hid (fun y W h h1 h2 => wjoint_any s vl vr vv y W h hs h1 h2)
 have hft := hs.ft
 have hf1 := hs.f1
 have ht1 := hs.t1
 have HD := Lib.hid h
 obtain ⟨al, cl, rfl⟩ := h.1.form
 obtain ⟨ar, cr, rfl⟩ := h.2.1.form
 obtain ⟨av, cv, rfl⟩ := h.2.2.form
 clear h hs
 obtain ⟨W, hWe⟩ : ∃ W, w.alloc (.cells #[.int .i64 s.lf.1, .slice al s.lf.2.length cl, .int .i64 s.rt.1, .slice ar s.rt.2.length cr, .int .i64 s.fr, .int .i64 s.to, .slice av s.l.length cv] 83) = W := ⟨_, rfl⟩
 have hB0 : Below w.heap.size w W := by rw [← hWe]; exact (Below.refl _ _).alloc (Nat.le_refl _) _
 have HCC : Hid (∀ V, Below W.heap.size W V → V.cell? ⟨w.heap.size, 0, none⟩ = some (.int .i64 s.lf.1) ∧ V.cell? ⟨w.heap.size, 1, none⟩ = some (.slice al s.lf.2.length cl) ∧ V.cell? ⟨w.heap.size, 2, none⟩ = some (.int .i64 s.rt.1) ∧
   V.cell? ⟨w.heap.size, 3, none⟩ = some (.slice ar s.rt.2.length cr) ∧ V.cell? ⟨w.heap.size, 4, none⟩ = some (.int .i64 s.fr) ∧ V.cell? ⟨w.heap.size, 5, none⟩ = some (.int .i64 s.to) ∧ V.cell? ⟨w.heap.size, 6, none⟩ = some (.slice av s.l.length cv)) := by
  intro V hV
  refine ⟨keepCell hV ?_, keepCell hV ?_, keepCell hV ?_, keepCell hV ?_, keepCell hV ?_, keepCell hV ?_, keepCell hV ?_⟩ <;> (rw [← hWe]; simp [go_sem])
 have HE := Lib.hid hWe
 clear hWe
 have HR := Lib.hid (fun V (hV : Below W.heap.size W V) => keepSt hV (keepSt hB0 HD.out))
 have q1 := m_cafter
 have q2 := m_bafter
 go_enter Tryz.func233, Tryz.ntmps233
 go_wp2_with fail
 rw [HE.out]
 go_loopw [1] (fun u wr => ∃ y : Int, u = .int .i64 y ∧ x ≤ y ∧ -1152921504606846976 ≤ y ∧ y ≤ 1152921504606846976 ∧ Hid (∀ r, NextC (hasS s) y r → NextC (hasS s) x r) ∧ Below W.heap.size W wr) (fun u _ => (s.to - intOf u).toNat)
 case atStart => exact ⟨x, rfl, by omega, hx1, hx2, (fun r h => h), Below.refl _ _⟩
 case round =>
  obtain ⟨y, rfl, hxy, hy1, hy2, HN, hB⟩ := hrel
  obtain ⟨c0, c1, c2, c3, c4, c5, c6⟩ := HCC.out _ hB
  go_wp2_with fail
  refine (H1.out y _ (HR.out _ hB)).mono ?_
  rintro e w1 ⟨rfl, hb1⟩
  have hB1 := keepBelow hB hb1
  clear c0 c1 c2 c3 c4 c5 c6 hb1
  unfold partV
  by_cases h1 : y < s.fr
  ·rw [if_pos h1]
   have HG := Lib.hid (fun z (_ : y ≤ z) (h2 : z < s.fr) => hasS_lf (s := s) h2)
   go_wp2_with fail
   refine (H2.out y _ (HR.out _ hB1).1 hy1 hy2).mono ?_
   rintro e w2 ⟨r, hr, rfl, hb2⟩
   have hB2 := keepBelow hB1 hb2
   have HX := Lib.hid hr
   clear hr hb2
   obtain ⟨c0, c1, c2, c3, c4, c5, c6⟩ := HCC.out _ hB2
   have HCP : Hid ((∀ k, r = some k → s.fr ≤ k) → ∀ z, y < z → z < s.fr → hasS s (z - 1) = hasS s z) := fun hk => const_part HG.out HX.out hk
   cases hr : r with
   | some k =>
    rw [hr] at HX
    by_cases hk : k < s.fr
    ·have HY : Hid (NextC (hasS s) x (some k)) := HN.out _ (next_part HG.out HX.out hk)
     clear hr
     have g1 : decide (k < s.fr) = true := by simpa using hk
     go_wp2
     go_ret2
     exact ⟨some k, HY.out, rfl, hB0.trans (hB2.mono hB0.size)⟩
    ·have HC := Lib.hid (HCP.out (fun k' e => by rw [hr] at e; cases e; omega))
     clear hr HCP
     have g1 : decide (k < s.fr) = false := by simpa using hk
     cases hj : (hasS s (s.fr - 1) != hasS s s.fr) with
     | true =>
      have HY : Hid (NextC (hasS s) x (some s.fr)) := HN.out _ (next_edge (by omega) HC.out (by simpa using hj))
      have HJ := Lib.hid (fun V h => H5.out s.fr V h (by omega) (by omega))
      rw [hj] at HJ
      clear hj
      go_wp2_with fail
      refine (HJ.out _ (HR.out _ hB2)).mono ?_
      rintro e w3 ⟨rfl, hb3⟩
      have hB3 := keepBelow hB2 hb3
      go_wp2
      go_ret2
      exact ⟨some s.fr, HY.out, rfl, hB0.trans (hB3.mono hB0.size)⟩
     | false =>
      have HY : Hid (∀ r, NextC (hasS s) s.fr r → NextC (hasS s) x r) := fun r h => HN.out r (next_over (by omega) HC.out (by simpa using hj) h)
      have HJ := Lib.hid (fun V h => H5.out s.fr V h (by omega) (by omega))
      rw [hj] at HJ
      clear hj
      go_wp2_with fail
      refine (HJ.out _ (HR.out _ hB2)).mono ?_
      rintro e w3 ⟨rfl, hb3⟩
      have hB3 := keepBelow hB2 hb3
      go_wp2
      go_roundw
      case rel => exact ⟨s.fr, rfl, by omega, by omega, by omega, HY.out, hB3⟩
      case measure => simp [intOf]; omega
   | none =>
    have HC := Lib.hid (HCP.out (fun k' e => by rw [hr] at e; cases e))
    clear hr HCP
    cases hj : (hasS s (s.fr - 1) != hasS s s.fr) with
    | true =>
     have HY : Hid (NextC (hasS s) x (some s.fr)) := HN.out _ (next_edge (by omega) HC.out (by simpa using hj))
     have HJ := Lib.hid (fun V h => H5.out s.fr V h (by omega) (by omega))
     rw [hj] at HJ
     clear hj
     go_wp2_with fail
     refine (HJ.out _ (HR.out _ hB2)).mono ?_
     rintro e w3 ⟨rfl, hb3⟩
     have hB3 := keepBelow hB2 hb3
     go_wp2
     go_ret2
     exact ⟨some s.fr, HY.out, rfl, hB0.trans (hB3.mono hB0.size)⟩
    | false =>
     have HY : Hid (∀ r, NextC (hasS s) s.fr r → NextC (hasS s) x r) := fun r h => HN.out r (next_over (by omega) HC.out (by simpa using hj) h)
     have HJ := Lib.hid (fun V h => H5.out s.fr V h (by omega) (by omega))
     rw [hj] at HJ
     clear hj
     go_wp2_with fail
     refine (HJ.out _ (HR.out _ hB2)).mono ?_
     rintro e w3 ⟨rfl, hb3⟩
     have hB3 := keepBelow hB2 hb3
     go_wp2
     go_roundw
     case rel => exact ⟨s.fr, rfl, by omega, by omega, by omega, HY.out, hB3⟩
     case measure => simp [intOf]; omega
  ·rw [if_neg h1]
   by_cases h2 : y < s.to
   ·rw [if_pos h2]
    have HG := Lib.hid (fun z (h3 : y ≤ z) (h4 : z < s.to) => hasS_mid (s := s) (by omega) h4)
    go_wp2_with fail
    refine (H3.out y _ (HR.out _ hB1).2.2).mono ?_
    rintro e w2 ⟨r, hr, rfl, hb2⟩
    have hB2 := keepBelow hB1 hb2
    have HX := Lib.hid hr
    clear hr hb2
    obtain ⟨c0, c1, c2, c3, c4, c5, c6⟩ := HCC.out _ hB2
    have HCP : Hid ((∀ k, r = some k → s.to ≤ k) → ∀ z, y < z → z < s.to → hasS s (z - 1) = hasS s z) := fun hk => const_part HG.out HX.out hk
    cases hr : r with
    | some k =>
     rw [hr] at HX
     by_cases hk : k < s.to
     ·have HY : Hid (NextC (hasS s) x (some k)) := HN.out _ (next_part HG.out HX.out hk)
      clear hr
      have g1 : decide (k < s.to) = true := by simpa using hk
      go_wp2
      go_ret2
      exact ⟨some k, HY.out, rfl, hB0.trans (hB2.mono hB0.size)⟩
     ·have HC := Lib.hid (HCP.out (fun k' e => by rw [hr] at e; cases e; omega))
      clear hr HCP
      have g1 : decide (k < s.to) = false := by simpa using hk
      cases hj : (hasS s (s.to - 1) != hasS s s.to) with
      | true =>
       have HY : Hid (NextC (hasS s) x (some s.to)) := HN.out _ (next_edge (by omega) HC.out (by simpa using hj))
       have HJ := Lib.hid (fun V h => H5.out s.to V h (by omega) (by omega))
       rw [hj] at HJ
       clear hj
       go_wp2_with fail
       refine (HJ.out _ (HR.out _ hB2)).mono ?_
       rintro e w3 ⟨rfl, hb3⟩
       have hB3 := keepBelow hB2 hb3
       go_wp2
       go_ret2
       exact ⟨some s.to, HY.out, rfl, hB0.trans (hB3.mono hB0.size)⟩
      | false =>
       have HY : Hid (∀ r, NextC (hasS s) s.to r → NextC (hasS s) x r) := fun r h => HN.out r (next_over (by omega) HC.out (by simpa using hj) h)
       have HJ := Lib.hid (fun V h => H5.out s.to V h (by omega) (by omega))
       rw [hj] at HJ
       clear hj
       go_wp2_with fail
       refine (HJ.out _ (HR.out _ hB2)).mono ?_
       rintro e w3 ⟨rfl, hb3⟩
       have hB3 := keepBelow hB2 hb3
       go_wp2
       go_roundw
       case rel => exact ⟨s.to, rfl, by omega, by omega, by omega, HY.out, hB3⟩
       case measure => simp [intOf]; omega
    | none =>
     have HC := Lib.hid (HCP.out (fun k' e => by rw [hr] at e; cases e))
     clear hr HCP
     cases hj : (hasS s (s.to - 1) != hasS s s.to) with
     | true =>
      have HY : Hid (NextC (hasS s) x (some s.to)) := HN.out _ (next_edge (by omega) HC.out (by simpa using hj))
      have HJ := Lib.hid (fun V h => H5.out s.to V h (by omega) (by omega))
      rw [hj] at HJ
      clear hj
      go_wp2_with fail
      refine (HJ.out _ (HR.out _ hB2)).mono ?_
      rintro e w3 ⟨rfl, hb3⟩
      have hB3 := keepBelow hB2 hb3
      go_wp2
      go_ret2
      exact ⟨some s.to, HY.out, rfl, hB0.trans (hB3.mono hB0.size)⟩
     | false =>
      have HY : Hid (∀ r, NextC (hasS s) s.to r → NextC (hasS s) x r) := fun r h => HN.out r (next_over (by omega) HC.out (by simpa using hj) h)
      have HJ := Lib.hid (fun V h => H5.out s.to V h (by omega) (by omega))
      rw [hj] at HJ
      clear hj
      go_wp2_with fail
      refine (HJ.out _ (HR.out _ hB2)).mono ?_
      rintro e w3 ⟨rfl, hb3⟩
      have hB3 := keepBelow hB2 hb3
      go_wp2
      go_roundw
      case rel => exact ⟨s.to, rfl, by omega, by omega, by omega, HY.out, hB3⟩
      case measure => simp [intOf]; omega
   ·rw [if_neg h2]
    go_wp2_with fail
    refine (H4.out y _ (HR.out _ hB1).2.1 hy1 hy2).mono ?_
    rintro e w2 ⟨r, hr, rfl, hb2⟩
    have hB2 := keepBelow hB1 hb2
    have HY : Hid (NextC (hasS s) x r) := HN.out r (by
     have hh : ∀ z, y ≤ z → hasS s z = hasP s.rt z := fun z hz => hasS_rt hft (by omega)
     cases r with
     | none => intro z hz; rw [hh (z - 1) (by omega), hh z (by omega)]; exact hr z hz
     | some k =>
      obtain ⟨k1, k2, k3⟩ := hr
      refine ⟨k1, ?_, ?_⟩
      ·rw [hh (k - 1) (by omega), hh k (by omega)]; exact k2
      ·intro z z1 z2; rw [hh (z - 1) (by omega), hh z (by omega)]; exact k3 z z1 z2)
    clear hr hb2
    obtain ⟨c0, c1, c2, c3, c4, c5, c6⟩ := HCC.out _ hB2
    go_wp2
    go_ret2
    exact ⟨r, HY.out, rfl, hB0.trans (hB2.mono hB0.size)⟩
end Go.Proofs.YtmfdnbfjdhlonaaGreatDoor
