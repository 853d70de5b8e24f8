import Derived.Test.YtnjpceocnldlfaaGreatWkRfB
import Derived.Test.YtnjpceocnldlfaaGreatWkRpm
import Derived.Test.YtnjpceocnldlfaaGreatWkTq
import Derived.Test.YtnjpceocnldlfaaGreatWkLF1
/- timeset.clip. -/
namespace Go.Proofs.YtnjpceocnldlfaaGreat
open Go.RowKit Wk

set_option maxRecDepth 100000 in
set_option maxHeartbeats 4000000 in
theorem tclip_any (v : Value) (l : List Sp) (f t : Int) (w : World) (h : RdS w v l) (hll : l.length ≤ 100000000000) :
    Calls Tryz.prog 92 #[v, .int .i64 f, .int .i64 t] w (Cp14Post l f t w) := by
  obtain ⟨a, ca, rfl, hl, hc⟩ := h
  have HC := Lib.hid hc
  clear hc
  go_enter Tryz.func92, Tryz.ntmps92
  go_wp2_with fail
  go_loopw [7, 13] (fun u vi wr => ∃ k : Nat, vi = .int .i64 k ∧ k ≤ l.length ∧ OwnS wr w.heap.size u (clipM (l.take k) f t) ∧ Below w.heap.size w wr) (fun _ vi _ => l.length - (intOf vi).toNat)
  case atStart => exact ⟨0, rfl, Nat.zero_le _, OwnS.nil _ _, Below.refl _ _⟩
  case round =>
    obtain ⟨k, rfl, hk, ho, hB⟩ := hrel
    by_cases hlt : k < l.length
    · obtain ⟨bb, o, x, y, rfl, hbw, HXY, d1, d2⟩ := rd_at HC.out hB hlt
      have HS := Lib.hid (clip_succ (f := f) (t := t) HXY.out hlt)
      have hlen := clip_len (l.take k) f t
      have hlen2 := List.length_take_le k l
      obtain ⟨L, hL⟩ : ∃ L, clipM (l.take k) f t = L := ⟨_, rfl⟩
      rw [hL] at ho hlen HS
      have hlt' : (k : Int) < (l.length : Int) := by omega
      obtain ⟨X, hX⟩ : ∃ X, max x f = X := ⟨_, rfl⟩
      obtain ⟨Y, hY⟩ : ∃ Y, min y t = Y := ⟨_, rfl⟩
      rw [hX, hY] at HS
      have HHX := Lib.hid hX
      have HHY := Lib.hid hY
      clear hL hX hY
      obtain ⟨W1, hW1⟩ : ∃ W1, wr.alloc (.cells #[.int .i64 x, .int .i64 y] 40) = W1 := ⟨_, rfl⟩
      have hb1 : Below wr.heap.size wr W1 := by rw [← hW1]; exact (Below.refl _ _).alloc (Nat.le_refl _) _
      have c0 : W1.cell? ⟨wr.heap.size, 0, none⟩ = some (.int .i64 x) := by rw [← hW1]; simp [go_sem]
      have c1 : W1.cell? ⟨wr.heap.size, 1, none⟩ = some (.int .i64 y) := by rw [← hW1]; simp [go_sem]
      have HE1 := Lib.hid hW1
      clear hW1
      go_upto_region 5 with fail
      rw [HE1.out]
      go_cut [10] from 17 to 26 (fun p wx => p = .pointer (some ⟨W1.heap.size, 0, none⟩) ∧ wx.cell? ⟨W1.heap.size, 0, none⟩ = some (.int .i64 X) ∧ wx.cell? ⟨W1.heap.size, 1, none⟩ = some (.int .i64 Y) ∧ Below W1.heap.size W1 wx)
      case first =>
        go_wp2_with fail
        all_goals go_meet
        all_goals exact ⟨rfl, by rw [← HHX.out]; simp [go_sem]; try omega, by rw [← HHY.out]; simp [go_sem]; try omega, (Below.refl _ W1).alloc (Nat.le_refl _) _⟩
      case rest =>
      obtain ⟨rfl, p0, p1, hbc⟩ := hcut
      have hbc := keepBelow hb1 hbc
      have hBn := keepBelow hB hbc
      have ho5 := ho.below hbc
      clear d1 d2 ho hbc hb1 c0 c1
      by_cases hxy : X < Y
      · have t1 : decide (X < Y) = true := by simpa using hxy
        rw [if_pos hxy] at HS
        clear hxy
        go_wp2_with (at_builtin; refine wpList_app_span rfl (.tmp 31) (.tmp 33) rfl rfl ho5 hBn rfl rfl (by omega) ?_; intro v1 w6 o1 b1 k1 z1'; clear k1)
        go_roundw
        case rel => exact ⟨k + 1, by go_num, by omega, by rw [HS.out]; exact o1, b1⟩
        case measure => simp [intOf]; omega
      · have t1 : decide (X < Y) = false := by simpa using hxy
        rw [if_neg hxy, List.append_nil] at HS
        clear hxy
        go_wp2
        go_roundw
        case rel => exact ⟨k + 1, by go_num, by omega, by rw [HS.out]; exact ho5, hBn⟩
        case measure => simp [intOf]; omega
    · have e : l.take k = l := List.take_of_length_le (by omega)
      rw [e] at ho
      go_wp2
      go_ret
      exact ⟨_, rfl, ho, hB⟩
end Go.Proofs.YtnjpceocnldlfaaGreat
namespace Go.Proofs.YtnjpceocnldlfaaGreat
open Go.RowKit Wk

namespace Wk
theorem clip_self {l : List Sp} {f t : Int} (hr : rvB l = true) (ho : outB (f, t) l = false) : clipM l f t = l := by
  have hc := (canon_of_rvB hr).1
  refine canon_ext (clip_canon hc) hc fun x => ?_
  rw [clip_in]
  cases hx : inL l x with
  | false => simp
  | true =>
    obtain ⟨s, hs, h1, h2⟩ := inL_mem hx
    have h0 : 0 < l.length := List.length_pos_of_mem hs
    unfold outB at ho
    rw [decide_eq_true h0, Bool.true_and, Bool.or_eq_false_iff, decide_eq_false_iff_not, decide_eq_false_iff_not] at ho
    have a1 := canon_first hc hs
    have a2 := canon_last hc hs
    simp only at ho
    rw [decide_eq_true (by omega : f ≤ x), decide_eq_true (by omega : x < t)]
    rfl
def badB (s : St) (i : Sp) (l : List Sp) : Bool := ((!VB s || !ivB i) || !rvB l) || outB i l
theorem badB_iff {s : St} {i : Sp} {l : List Sp} : badB s i l = true ↔ (VB s = false ∨ ivB i = false ∨ rvB l = false ∨ outB i l = true) := by
  unfold badB
  rw [Bool.or_eq_true, Bool.or_eq_true, Bool.or_eq_true, Bool.not_eq_true', Bool.not_eq_true', Bool.not_eq_true', or_assoc, or_assoc]
theorem pos_from {l : List Sp} : PosSt (fromM l).1 := by
  unfold fromM
  split
  · exact pos_no
  · split
    · exact ⟨fun x h => by simp [pureF] at h, fun x h => by simp [pureF] at h, fun x h => by simp [pureF] at h⟩
    · exact ⟨fun x h => by simp at h, fun x h => by simp at h, canon_pos (runs_can l)⟩
end Wk
theorem rd_oneS (W : World) (x y : Int) : RdS (W.alloc (.cells #[.int .i64 x, .int .i64 y] 40)) (.slice (some ⟨W.heap.size, 0, none⟩) 1 1) [(x, y)] := (own_one W (Nat.le_refl _) x y).rd (by simp)

set_option maxRecDepth 100000 in
set_option maxHeartbeats 16000000 in
theorem treplace_any (s : St) (al ar av : Value) (f t : Int) (vl : Value) (l : List Sp) (w : World) (h : RdSt w s al ar av) (hl : RdS w vl l) (hll : l.length ≤ 1000000) :
    Calls Tryz.prog 40 #[.agg #[.int .i64 s.lf.1, al, .int .i64 s.rt.1, ar, .int .i64 s.fr, .int .i64 s.to, av], .agg #[.int .i64 f, .int .i64 t], vl] w (TsPost (replM s (f, t) l) w) := by
  have HV := Lib.hid (fun W h => tvalid_any s al ar av W h)
  have HI := Lib.hid (fun W => ivalid_any f t W)
  have HR := Lib.hid (fun W h => rvalid_any vl l W h)
  have HFR := Lib.hid (fun v k W h hl => from_any v k W h hl)
  have HCP := Lib.hid (fun W h => tclip_any vl l f t W h (by omega))
  have HMI := Lib.hid (fun T bl br bv W h h' => tMinus_any s T al ar av bl br bv W h h')
  have HUN := Lib.hid (fun T U al ar av bl br bv W h h' => tUnion_any T U al ar av bl br bv W h h')
  have HRA := Lib.hid h
  have HRL := Lib.hid hl
  obtain ⟨a1, an1, e1⟩ := h.1.form
  obtain ⟨a2, an2, e2⟩ := h.2.1.form
  obtain ⟨a3, an3, e3⟩ := h.2.2.form
  subst e1 e2 e3
  obtain ⟨pl, cl, rfl⟩ := hl.form
  clear h hl
  obtain ⟨W, hWe⟩ : ∃ W, ((w.alloc (.cells #[.int .i64 s.lf.1, (.slice a1 s.lf.2.length an1), .int .i64 s.rt.1, (.slice a2 s.rt.2.length an2), .int .i64 s.fr, .int .i64 s.to, (.slice a3 s.l.length an3)] 26)).alloc (.cells #[.int .i64 f, .int .i64 t] 40)).alloc (.cells #[.int .i64 0, .slice none 0 0, .int .i64 0, .slice none 0 0, .int .i64 0, .int .i64 0, .slice none 0 0] 26) = W := ⟨_, rfl⟩
  have hW : Below w.heap.size w W := by rw [← hWe]; exact (((Below.refl _ w).alloc (Nat.le_refl _) _).alloc (by simp) _).alloc (by simp; omega) _
  have HX : Hid (Set7 W w.heap.size (.int .i64 s.lf.1) (.slice a1 s.lf.2.length an1) (.int .i64 s.rt.1) (.slice a2 s.rt.2.length an2) (.int .i64 s.fr) (.int .i64 s.to) (.slice a3 s.l.length an3) ∧ Box2 W (w.heap.size + 1) (.int .i64 f) (.int .i64 t) ∧ Set7 W (w.heap.size + 1 + 1) (.int .i64 0) (.slice none 0 0) (.int .i64 0) (.slice none 0 0) (.int .i64 0) (.int .i64 0) (.slice none 0 0) ∧ Zero7 W (w.heap.size + 1 + 1) ∧ RdSt W s (.slice a1 s.lf.2.length an1) (.slice a2 s.rt.2.length an2) (.slice a3 s.l.length an3) ∧ RdS W (.slice pl l.length cl) l ∧ Below w.heap.size w W) := by
    refine ⟨?_, ?_, ?_, ?_, keepSt hW HRA.out, keepRd hW HRL.out, hW⟩
    · rw [← hWe]
      refine ⟨⟨?_, ?_, ?_, ?_, ?_, ?_, ?_⟩, ?_, ?_, ?_, ?_, ?_, ?_, ?_⟩ <;> simp [go_sem]
    · rw [← hWe]
      refine ⟨⟨?_, ?_⟩, ?_, ?_⟩ <;> simp [go_sem]
    · rw [← hWe]
      refine ⟨⟨?_, ?_, ?_, ?_, ?_, ?_, ?_⟩, ?_, ?_, ?_, ?_, ?_, ?_, ?_⟩ <;> simp [go_sem]
    · rw [← hWe]
      have := zero7_new ((w.alloc (.cells #[.int .i64 s.lf.1, (.slice a1 s.lf.2.length an1), .int .i64 s.rt.1, (.slice a2 s.rt.2.length an2), .int .i64 s.fr, .int .i64 s.to, (.slice a3 s.l.length an3)] 26)).alloc (.cells #[.int .i64 f, .int .i64 t] 40))
      simpa using this
  have HE := Lib.hid hWe
  clear hWe hW HRA HRL
  obtain ⟨g1, hg1⟩ : ∃ g, VB s = g := ⟨_, rfl⟩
  obtain ⟨g2, hg2⟩ : ∃ g, ivB (f, t) = g := ⟨_, rfl⟩
  obtain ⟨g3, hg3⟩ : ∃ g, rvB l = g := ⟨_, rfl⟩
  obtain ⟨bad, hbad⟩ : ∃ b, badB s (f, t) l = b := ⟨_, rfl⟩
  rw [hg1] at HV
  rw [hg2] at HI
  rw [hg3] at HR
  have HG := Lib.hid (And.intro hg1 (And.intro hg2 hg3))
  have HBD := Lib.hid hbad
  have HBV : Hid (bad = (((!g1 || !g2) || !g3) || (decide (0 < l.length) && (decide (firstFr l < f) || decide (t < lastTo l))))) := by unfold Hid; rw [← hbad, ← hg1, ← hg2, ← hg3]; rfl
  clear hg1 hg2 hg3 hbad
  obtain ⟨⟨⟨A0, A1, A2, A3, A4, A5, A6⟩, -⟩, ⟨⟨S0, S1⟩, -⟩, -, -, -, -, hbe⟩ := HX.out
  go_enter Tryz.func40, Tryz.ntmps40
  go_wp2_with fail
  rw [HE.out]
  go_upto_region 1 with fail
  go_cut [50] from 12 to 51 (fun c wx => c = .bool bad ∧ Below W.heap.size W wx)
  case first =>
    have HVE : Hid (∀ X : Ext W, Calls Tryz.prog 20 #[.agg #[.int .i64 s.lf.1, (.slice a1 s.lf.2.length an1), .int .i64 s.rt.1, (.slice a2 s.rt.2.length an2), .int .i64 s.fr, .int .i64 s.to, (.slice a3 s.l.length an3)]] (extOf W X) fun e w' => e = .returned (.bool g1) ∧ Below (extOf W X).heap.size (extOf W X) w') := fun X => HV.out _ ⟨ext_rd HX.out.2.2.2.2.1.1 X, ext_rd HX.out.2.2.2.2.1.2.1 X, ext_rd HX.out.2.2.2.2.1.2.2 X⟩
    have HRE : Hid (∀ X : Ext W, Calls Tryz.prog 91 #[.slice pl l.length cl] (extOf W X) fun e w' => e = .returned (.bool g3) ∧ Below (extOf W X).heap.size (extOf W X) w') := fun X => HR.out _ (ext_rd HX.out.2.2.2.2.2.1 X)
    have e0 := ext_cell A0
    have e1 := ext_cell A1
    have e2 := ext_cell A2
    have e3 := ext_cell A3
    have e4 := ext_cell A4
    have e5 := ext_cell A5
    have e6 := ext_cell A6
    have q0 := ext_cell S0
    have q1 := ext_cell S1
    have HRDL := Lib.hid HX.out.2.2.2.2.2.1
    clear A0 A1 A2 A3 A4 A5 A6 S0 S1 hbe
    cases g1 with
    | false =>
      have HB : Hid (Value.bool true = .bool bad) := by unfold Hid; rw [HBV.out]; rfl
      go_wp2_with fail
      refine wp_region_ext (by kernel_rfl) (by kernel_rfl) ?_
      iterate 39 (go_big_quiet_step ((first | (go_at_call 20; refine calls_ext (HVE.out _)) | (go_at_call 70; refine calls_ext (HI.out _)) | (go_at_call 91; refine calls_ext (HRE.out _)))))
      refine wpQuiet_nil ?_
      intro w9 hb9
      go_wp2_with fail
      go_meet
      exact ⟨HB.out, hb9⟩
    | true =>
    cases g2 with
    | false =>
      have HB : Hid (Value.bool true = .bool bad) := by unfold Hid; rw [HBV.out]; rfl
      go_wp2_with fail
      refine wp_region_ext (by kernel_rfl) (by kernel_rfl) ?_
      iterate 39 (go_big_quiet_step ((first | (go_at_call 20; refine calls_ext (HVE.out _)) | (go_at_call 70; refine calls_ext (HI.out _)) | (go_at_call 91; refine calls_ext (HRE.out _)))))
      refine wpQuiet_nil ?_
      intro w9 hb9
      go_wp2_with fail
      go_meet
      exact ⟨HB.out, hb9⟩
    | true =>
    cases g3 with
    | false =>
      have HB : Hid (Value.bool true = .bool bad) := by unfold Hid; rw [HBV.out]; rfl
      go_wp2_with fail
      refine wp_region_ext (by kernel_rfl) (by kernel_rfl) ?_
      iterate 39 (go_big_quiet_step ((first | (go_at_call 20; refine calls_ext (HVE.out _)) | (go_at_call 70; refine calls_ext (HI.out _)) | (go_at_call 91; refine calls_ext (HRE.out _)))))
      refine wpQuiet_nil ?_
      intro w9 hb9
      go_wp2_with fail
      go_meet
      exact ⟨HB.out, hb9⟩
    | true =>
    by_cases h0 : 0 < l.length
    · obtain ⟨pa, pb, hpc⟩ := HRDL.out
      obtain ⟨ee, hl1, hc⟩ := hpc
      injection ee with e1' e2' e3'
      subst e1' e3'
      obtain ⟨b, o, rfl, hbw, k1, k2, k3⟩ := rd_ends hc h0
      have x1 := ext_cell k1
      have x3 := ext_cell k3
      have t0 : decide ((0 : Int) < (l.length : Int)) = true := decide_eq_true (by omega)
      have t0' : decide (0 < l.length) = true := decide_eq_true h0
      have s1 : IntKind.i64.wrap ((l.length : Int) - 1) = (l.length : Int) - 1 := by rw [IntKind.wrap_i64]; omega
      have s2 : ((l.length : Int) - 1).toNat = l.length - 1 := by omega
      have s3 : (0 : Int) ≤ (l.length : Int) - 1 := by omega
      have s4 : (l.length : Int) - 1 < (l.length : Int) := by omega
      have s5 : (0 : Int) < (l.length : Int) := by omega
      have HH0 := Lib.hid h0
      have HLL := Lib.hid (And.intro hl1 (And.intro k2 hc))
      clear h0 k1 k2 k3 hc hl1
      cases hu : decide (firstFr l < f) with
      | true =>
        have HB : Hid (Value.bool true = .bool bad) := by unfold Hid; rw [HBV.out, hu, decide_eq_true HH0.out]; rfl
        go_wp2_with fail
        refine wp_region_ext (by kernel_rfl) (by kernel_rfl) ?_
        iterate 39 (go_big_quiet_step ((first | (go_at_call 20; refine calls_ext (HVE.out _)) | (go_at_call 70; refine calls_ext (HI.out _)) | (go_at_call 91; refine calls_ext (HRE.out _)))))
        refine wpQuiet_nil ?_
        intro w9 hb9
        go_wp2_with fail
        go_meet
        exact ⟨HB.out, hb9⟩
      | false =>
        cases hv : decide (t < lastTo l) with
        | true =>
          have HB : Hid (Value.bool true = .bool bad) := by unfold Hid; rw [HBV.out, hu, hv, decide_eq_true HH0.out]; rfl
          go_wp2_with fail
          refine wp_region_ext (by kernel_rfl) (by kernel_rfl) ?_
          iterate 39 (go_big_quiet_step ((first | (go_at_call 20; refine calls_ext (HVE.out _)) | (go_at_call 70; refine calls_ext (HI.out _)) | (go_at_call 91; refine calls_ext (HRE.out _)))))
          refine wpQuiet_nil ?_
          intro w9 hb9
          go_wp2_with fail
          go_meet
          exact ⟨HB.out, hb9⟩
        | false =>
          have HB : Hid (Value.bool false = .bool bad) := by unfold Hid; rw [HBV.out, hu, hv, decide_eq_true HH0.out]; rfl
          go_wp2_with fail
          refine wp_region_ext (by kernel_rfl) (by kernel_rfl) ?_
          iterate 39 (go_big_quiet_step ((first | (go_at_call 20; refine calls_ext (HVE.out _)) | (go_at_call 70; refine calls_ext (HI.out _)) | (go_at_call 91; refine calls_ext (HRE.out _)))))
          refine wpQuiet_nil ?_
          intro w9 hb9
          go_wp2_with fail
          go_meet
          exact ⟨HB.out, hb9⟩
    · have HB : Hid (Value.bool false = .bool bad) := by unfold Hid; rw [HBV.out, decide_eq_false h0]; rfl
      have h1 : l = [] := List.eq_nil_of_length_eq_zero (by omega)
      subst h1
      clear h0
      go_wp2_with fail
      refine wp_region_ext (by kernel_rfl) (by kernel_rfl) ?_
      iterate 39 (go_big_quiet_step ((first | (go_at_call 20; refine calls_ext (HVE.out _)) | (go_at_call 70; refine calls_ext (HI.out _)) | (go_at_call 91; refine calls_ext (HRE.out _)))))
      refine wpQuiet_nil ?_
      intro w9 hb9
      go_wp2_with fail
      go_meet
      exact ⟨HB.out, hb9⟩
  case rest =>
  obtain ⟨rfl, hb⟩ := hcut
  have HX1 := Lib.hid (And.intro (HX.out.1.below hb) (And.intro (HX.out.2.1.below hb) (And.intro (HX.out.2.2.1.below hb) (And.intro (HX.out.2.2.2.1.below (World.block_lt_of_cell? _ ⟨w.heap.size + 1 + 1, 0, none⟩ HX.out.2.2.1.1.1) hb) (And.intro (keepSt hb HX.out.2.2.2.2.1) (And.intro (keepRd hb HX.out.2.2.2.2.2.1) (keepBelow HX.out.2.2.2.2.2.2 hb)))))))
  clear A0 A1 A2 A3 A4 A5 A6 S0 S1 hbe hb
  obtain ⟨⟨⟨A0, A1, A2, A3, A4, A5, A6⟩, -⟩, ⟨⟨S0, S1⟩, -⟩, -, -, -, -, hbe⟩ := HX1.out
  generalize wc = w1 at *
  cases bad with
  | true =>
    have HM : Hid (replM s (f, t) l = (noSt, 1)) := repl_bad (badB_iff.1 HBD.out)
    obtain ⟨⟨Z0, Z1, Z2, Z3, Z4, Z5, Z6⟩, K0, K1, K2, K3, K4, K5, K6⟩ := HX1.out.2.2.1
    go_wp2
    change bodyPost _ _ _ _ _ (put7 w1 (w.heap.size + 1 + 1) (.int .i64 0) (.slice none 0 0) (.int .i64 0) (.slice none 0 0) (.int .i64 0) (.int .i64 0) (.slice none 0 0))
    obtain ⟨r0, r1, r2, r3, r4, r5, r6⟩ := put7_at (.int .i64 0) (.slice none 0 0) (.int .i64 0) (.slice none 0 0) (.int .i64 0) (.int .i64 0) (.slice none 0 0) Z0 Z1 Z2 Z3 Z4 Z5 Z6
    have hBZ := put7_below (.int .i64 0) (.slice none 0 0) (.int .i64 0) (.slice none 0 0) (.int .i64 0) (.int .i64 0) (.slice none 0 0) hbe (b := (w.heap.size + 1 + 1)) (by omega)
    have hRZ : RdSt (put7 w1 (w.heap.size + 1 + 1) (.int .i64 0) (.slice none 0 0) (.int .i64 0) (.slice none 0 0) (.int .i64 0) (.int .i64 0) (.slice none 0 0)) noSt (.slice none 0 0) (.slice none 0 0) (.slice none 0 0) := rdst_no _
    generalize put7 w1 (w.heap.size + 1 + 1) (.int .i64 0) (.slice none 0 0) (.int .i64 0) (.slice none 0 0) (.int .i64 0) (.int .i64 0) (.slice none 0 0) = Z at *
    refine bodyPost_ret (v := .tuple #[.agg #[.int .i64 0, .slice none 0 0, .int .i64 0, .slice none 0 0, .int .i64 0, .int .i64 0, .slice none 0 0], .int .i64 1]) (by simp [results, Tryz.results40, go_sem, r0, r1, r2, r3, r4, r5, r6]) rfl ?_
    show TsPost _ w _ _
    rw [HM.out]
    exact ⟨_, _, _, rfl, hRZ, hBZ⟩
  | false =>
  have hnb : ¬(VB s = false ∨ ivB (f, t) = false ∨ rvB l = false ∨ outB (f, t) l = true) := fun hh => by have := badB_iff.2 hh; rw [HBD.out] at this; cases this
  have hv1 : VB s = true := by cases hh : VB s with | true => rfl | false => exact absurd (.inl hh) hnb
  have hv2 : ivB (f, t) = true := by cases hh : ivB (f, t) with | true => rfl | false => exact absurd (.inr (.inl hh)) hnb
  have hv3 : rvB l = true := by cases hh : rvB l with | true => rfl | false => exact absurd (.inr (.inr (.inl hh))) hnb
  have hv4 : outB (f, t) l = false := by cases hh : outB (f, t) l with | false => rfl | true => exact absurd (.inr (.inr (.inr hh))) hnb
  have HVV := Lib.hid (And.intro hv1 (And.intro hv2 (And.intro hv3 hv4)))
  clear hnb hv1 hv2 hv3 hv4
  have hb := (Below.refl w1.heap.size w1).alloc (Nat.le_refl _) (.cells #[.int .i64 f, .int .i64 t] 40)
  have HO1 := Lib.hid (rd_oneS w1 f t)
  have HX2 := Lib.hid (And.intro (HX1.out.1.below hb) (And.intro (HX1.out.2.1.below hb) (And.intro (HX1.out.2.2.1.below hb) (And.intro (HX1.out.2.2.2.1.below (World.block_lt_of_cell? _ ⟨w.heap.size + 1 + 1, 0, none⟩ HX1.out.2.2.1.1.1) hb) (And.intro (keepSt hb HX1.out.2.2.2.2.1) (And.intro (keepRd hb HX1.out.2.2.2.2.2.1) (keepBelow HX1.out.2.2.2.2.2.2 hb)))))))
  clear hb
  have HF1 : Hid (Calls Tryz.prog 38 #[.slice (some ⟨w1.heap.size, 0, none⟩) 1 1] (w1.alloc (.cells #[.int .i64 f, .int .i64 t] 40)) (TsPost (holeF (f, t), 0) (w1.alloc (.cells #[.int .i64 f, .int .i64 t] 40)))) := by
    have := HFR.out _ [(f, t)] _ HO1.out (by simp)
    rw [from_one HVV.out.2.1] at this
    exact this
  obtain ⟨T, hT⟩ : ∃ T, holeF (f, t) = T := ⟨_, rfl⟩
  have HTT := Lib.hid hT
  rw [hT] at HF1
  clear hT
  go_wp2_with fail
  refine HF1.out.mono ?_
  rintro e w2 ⟨vl2, vr2, vv2, rfl, hr, hb⟩
  obtain ⟨c1, cm1, rfl⟩ := hr.1.form
  obtain ⟨c2, cm2, rfl⟩ := hr.2.1.form
  obtain ⟨c3, cm3, rfl⟩ := hr.2.2.form
  have HX3 := Lib.hid (And.intro (HX2.out.1.below hb) (And.intro (HX2.out.2.1.below hb) (And.intro (HX2.out.2.2.1.below hb) (And.intro (HX2.out.2.2.2.1.below (World.block_lt_of_cell? _ ⟨w.heap.size + 1 + 1, 0, none⟩ HX2.out.2.2.1.1.1) hb) (And.intro (keepSt hb HX2.out.2.2.2.2.1) (And.intro (keepRd hb HX2.out.2.2.2.2.2.1) (keepBelow HX2.out.2.2.2.2.2.2 hb)))))))
  clear A0 A1 A2 A3 A4 A5 A6 S0 S1 hbe hb HX1 HX2 HO1 HF1
  have hb := (Below.refl w2.heap.size w2).alloc (Nat.le_refl _) (.cells #[.int .i64 T.lf.1, .slice c1 T.lf.2.length cm1, .int .i64 T.rt.1, .slice c2 T.rt.2.length cm2, .int .i64 T.fr, .int .i64 T.to, .slice c3 T.l.length cm3] 26)
  have HX4 := Lib.hid (And.intro (HX3.out.1.below hb) (And.intro (HX3.out.2.1.below hb) (And.intro (HX3.out.2.2.1.below hb) (And.intro (HX3.out.2.2.2.1.below (World.block_lt_of_cell? _ ⟨w.heap.size + 1 + 1, 0, none⟩ HX3.out.2.2.1.1.1) hb) (And.intro (keepSt hb HX3.out.2.2.2.2.1) (And.intro (keepRd hb HX3.out.2.2.2.2.2.1) (keepBelow HX3.out.2.2.2.2.2.2 hb)))))))
  have HN4 := Lib.hid (And.intro (set7_new w2 (.int .i64 T.lf.1) (.slice c1 T.lf.2.length cm1) (.int .i64 T.rt.1) (.slice c2 T.rt.2.length cm2) (.int .i64 T.fr) (.int .i64 T.to) (.slice c3 T.l.length cm3)) (keepSt hb hr))
  clear hb hr HX3
  obtain ⟨⟨⟨A0, A1, A2, A3, A4, A5, A6⟩, -⟩, ⟨⟨S0, S1⟩, -⟩, -, -, -, -, hbe⟩ := HX4.out
  obtain ⟨⟨⟨C0, C1, C2, C3, C4, C5, C6⟩, _⟩, _⟩ := HN4.out
  obtain ⟨⟨U, E⟩, hU⟩ : ∃ U, combM 2 s T = U := ⟨_, rfl⟩
  have HUU := Lib.hid hU
  have HM2 := Lib.hid (HMI.out T _ _ _ _ HX4.out.2.2.2.2.1 HN4.out.2)
  rw [hU] at HM2
  clear hU
  go_wp2_with fail
  refine HM2.out.mono ?_
  rintro e w3 hpost
  obtain ⟨vl3, vr3, vv3, rfl, hr, hb⟩ : ∃ vl vr vv, e = .returned (.tuple #[.agg #[.int .i64 U.lf.1, vl, .int .i64 U.rt.1, vr, .int .i64 U.fr, .int .i64 U.to, vv], .int .i64 E]) ∧ RdSt w3 U vl vr vv ∧ Below _ _ w3 := hpost
  obtain ⟨d1, dm1, rfl⟩ := hr.1.form
  obtain ⟨d2, dm2, rfl⟩ := hr.2.1.form
  obtain ⟨d3, dm3, rfl⟩ := hr.2.2.form
  have HX5 := Lib.hid (And.intro (HX4.out.1.below hb) (And.intro (HX4.out.2.1.below hb) (And.intro (HX4.out.2.2.1.below hb) (And.intro (HX4.out.2.2.2.1.below (World.block_lt_of_cell? _ ⟨w.heap.size + 1 + 1, 0, none⟩ HX4.out.2.2.1.1.1) hb) (And.intro (keepSt hb HX4.out.2.2.2.2.1) (And.intro (keepRd hb HX4.out.2.2.2.2.2.1) (keepBelow HX4.out.2.2.2.2.2.2 hb)))))))
  clear A0 A1 A2 A3 A4 A5 A6 S0 S1 hbe hb HX4 HM2 C0 C1 C2 C3 C4 C5 C6 HN4
  have hb := (Below.refl w3.heap.size w3).alloc (Nat.le_refl _) (.cells #[.int .i64 U.lf.1, .slice d1 U.lf.2.length dm1, .int .i64 U.rt.1, .slice d2 U.rt.2.length dm2, .int .i64 U.fr, .int .i64 U.to, .slice d3 U.l.length dm3] 26)
  have HX6 := Lib.hid (And.intro (HX5.out.1.below hb) (And.intro (HX5.out.2.1.below hb) (And.intro (HX5.out.2.2.1.below hb) (And.intro (HX5.out.2.2.2.1.below (World.block_lt_of_cell? _ ⟨w.heap.size + 1 + 1, 0, none⟩ HX5.out.2.2.1.1.1) hb) (And.intro (keepSt hb HX5.out.2.2.2.2.1) (And.intro (keepRd hb HX5.out.2.2.2.2.2.1) (keepBelow HX5.out.2.2.2.2.2.2 hb)))))))
  have HN6 := Lib.hid (And.intro (set7_new w3 (.int .i64 U.lf.1) (.slice d1 U.lf.2.length dm1) (.int .i64 U.rt.1) (.slice d2 U.rt.2.length dm2) (.int .i64 U.fr) (.int .i64 U.to) (.slice d3 U.l.length dm3)) (keepSt hb hr))
  clear hb hr HX5
  obtain ⟨⟨⟨A0, A1, A2, A3, A4, A5, A6⟩, -⟩, ⟨⟨S0, S1⟩, -⟩, -, -, -, -, hbe⟩ := HX6.out
  obtain ⟨⟨⟨D0, D1, D2, D3, D4, D5, D6⟩, _⟩, _⟩ := HN6.out
  obtain ⟨W6, hW6⟩ : ∃ W6, w3.alloc (.cells #[.int .i64 U.lf.1, .slice d1 U.lf.2.length dm1, .int .i64 U.rt.1, .slice d2 U.rt.2.length dm2, .int .i64 U.fr, .int .i64 U.to, .slice d3 U.l.length dm3] 26) = W6 := ⟨_, rfl⟩
  have HE6 := Lib.hid hW6
  by_cases hE : E = 0
  case neg =>
    have t1 : (E != 0) = true := by simpa using hE
    have HM : Hid (replM s (f, t) l = (noSt, E)) := repl_hole HVV.out.1 HVV.out.2.1 HVV.out.2.2.1 HVV.out.2.2.2 (by rw [HTT.out, HUU.out]) hE
    clear hE
    obtain ⟨⟨Z0, Z1, Z2, Z3, Z4, Z5, Z6⟩, K0, K1, K2, K3, K4, K5, K6⟩ := HX6.out.2.2.1
    rw [hW6] at Z0 Z1 Z2 Z3 Z4 Z5 Z6 K0 K1 K2 K3 K4 K5 K6 hbe
    go_upto_region 8 with fail
    try rw [HE6.out]
    go_wp2
    change bodyPost _ _ _ _ _ (put7 W6 (w.heap.size + 1 + 1) (.int .i64 0) (.slice none 0 0) (.int .i64 0) (.slice none 0 0) (.int .i64 0) (.int .i64 0) (.slice none 0 0))
    obtain ⟨r0, r1, r2, r3, r4, r5, r6⟩ := put7_at (.int .i64 0) (.slice none 0 0) (.int .i64 0) (.slice none 0 0) (.int .i64 0) (.int .i64 0) (.slice none 0 0) Z0 Z1 Z2 Z3 Z4 Z5 Z6
    have hBZ := put7_below (.int .i64 0) (.slice none 0 0) (.int .i64 0) (.slice none 0 0) (.int .i64 0) (.int .i64 0) (.slice none 0 0) hbe (b := (w.heap.size + 1 + 1)) (by omega)
    have hRZ : RdSt (put7 W6 (w.heap.size + 1 + 1) (.int .i64 0) (.slice none 0 0) (.int .i64 0) (.slice none 0 0) (.int .i64 0) (.int .i64 0) (.slice none 0 0)) noSt (.slice none 0 0) (.slice none 0 0) (.slice none 0 0) := rdst_no _
    generalize put7 W6 (w.heap.size + 1 + 1) (.int .i64 0) (.slice none 0 0) (.int .i64 0) (.slice none 0 0) (.int .i64 0) (.int .i64 0) (.slice none 0 0) = Z at *
    refine bodyPost_ret (v := .tuple #[.agg #[.int .i64 0, .slice none 0 0, .int .i64 0, .slice none 0 0, .int .i64 0, .int .i64 0, .slice none 0 0], .int .i64 E]) (by simp [results, Tryz.results40, go_sem, r0, r1, r2, r3, r4, r5, r6]) rfl ?_
    show TsPost _ w _ _
    rw [HM.out]
    exact ⟨_, _, _, rfl, hRZ, hBZ⟩
  subst hE
  clear hW6 HE6 W6
  have HCC := Lib.hid (HCP.out _ HX6.out.2.2.2.2.2.1)
  have hcs : clipM l f t = l := clip_self HVV.out.2.2.1 HVV.out.2.2.2
  have HCD : Hid (Calls Tryz.prog 92 #[.slice pl l.length cl, .int .i64 f, .int .i64 t] (w3.alloc (.cells #[.int .i64 U.lf.1, .slice d1 U.lf.2.length dm1, .int .i64 U.rt.1, .slice d2 U.rt.2.length dm2, .int .i64 U.fr, .int .i64 U.to, .slice d3 U.l.length dm3] 26)) fun e w' => ∃ v, e = .returned v ∧ OwnS w' (w3.alloc (.cells #[.int .i64 U.lf.1, .slice d1 U.lf.2.length dm1, .int .i64 U.rt.1, .slice d2 U.rt.2.length dm2, .int .i64 U.fr, .int .i64 U.to, .slice d3 U.l.length dm3] 26)).heap.size v l ∧ Below (w3.alloc (.cells #[.int .i64 U.lf.1, .slice d1 U.lf.2.length dm1, .int .i64 U.rt.1, .slice d2 U.rt.2.length dm2, .int .i64 U.fr, .int .i64 U.to, .slice d3 U.l.length dm3] 26)).heap.size (w3.alloc (.cells #[.int .i64 U.lf.1, .slice d1 U.lf.2.length dm1, .int .i64 U.rt.1, .slice d2 U.rt.2.length dm2, .int .i64 U.fr, .int .i64 U.to, .slice d3 U.l.length dm3] 26)) w') := HCC.out.mono fun e w' hh => by
    obtain ⟨u, e1, e2, e3⟩ := hh
    rw [hcs] at e2
    exact ⟨u, e1, e2, e3⟩
  clear HCC hcs
  go_wp2_with fail
  refine HCD.out.mono ?_
  rintro e w4 ⟨u4, rfl, o4, hb⟩
  have HX7 := Lib.hid (And.intro (HX6.out.1.below hb) (And.intro (HX6.out.2.1.below hb) (And.intro (HX6.out.2.2.1.below hb) (And.intro (HX6.out.2.2.2.1.below (World.block_lt_of_cell? _ ⟨w.heap.size + 1 + 1, 0, none⟩ HX6.out.2.2.1.1.1) hb) (And.intro (keepSt hb HX6.out.2.2.2.2.1) (And.intro (keepRd hb HX6.out.2.2.2.2.2.1) (keepBelow HX6.out.2.2.2.2.2.2 hb)))))))
  have HN7 := Lib.hid (And.intro (HN6.out.1.below hb) (keepSt hb HN6.out.2))
  have HRC := Lib.hid (o4.rd (by omega))
  clear A0 A1 A2 A3 A4 A5 A6 S0 S1 hbe D0 D1 D2 D3 D4 D5 D6 hb HX6 HN6 HCD o4
  obtain ⟨⟨⟨A0, A1, A2, A3, A4, A5, A6⟩, -⟩, ⟨⟨S0, S1⟩, -⟩, -, -, -, -, hbe⟩ := HX7.out
  obtain ⟨⟨⟨D0, D1, D2, D3, D4, D5, D6⟩, _⟩, _⟩ := HN7.out
  obtain ⟨V, hV⟩ : ∃ V, (fromM l).1 = V := ⟨_, rfl⟩
  have hfe : (fromM l).2 = 0 := (from_rv HVV.out.2.2.1).1
  have HFF : Hid (fromM l = (V, 0)) := by unfold Hid; rw [← hV, ← hfe]
  have HVP : Hid (PosSt V) := by unfold Hid; rw [← hV]; exact pos_from
  have HF3 := Lib.hid (HFR.out _ l _ HRC.out (by omega))
  rw [HFF.out] at HF3
  clear hV hfe
  go_wp2_with fail
  refine HF3.out.mono ?_
  rintro e w5 ⟨vl5, vr5, vv5, rfl, hr, hb⟩
  obtain ⟨i1, im1, rfl⟩ := hr.1.form
  obtain ⟨i2, im2, rfl⟩ := hr.2.1.form
  obtain ⟨i3, im3, rfl⟩ := hr.2.2.form
  have HX8 := Lib.hid (And.intro (HX7.out.1.below hb) (And.intro (HX7.out.2.1.below hb) (And.intro (HX7.out.2.2.1.below hb) (And.intro (HX7.out.2.2.2.1.below (World.block_lt_of_cell? _ ⟨w.heap.size + 1 + 1, 0, none⟩ HX7.out.2.2.1.1.1) hb) (And.intro (keepSt hb HX7.out.2.2.2.2.1) (And.intro (keepRd hb HX7.out.2.2.2.2.2.1) (keepBelow HX7.out.2.2.2.2.2.2 hb)))))))
  have HN8 := Lib.hid (And.intro (HN7.out.1.below hb) (keepSt hb HN7.out.2))
  clear A0 A1 A2 A3 A4 A5 A6 S0 S1 hbe D0 D1 D2 D3 D4 D5 D6 hb HX7 HN7 HF3
  have hb := (Below.refl w5.heap.size w5).alloc (Nat.le_refl _) (.cells #[.int .i64 V.lf.1, .slice i1 V.lf.2.length im1, .int .i64 V.rt.1, .slice i2 V.rt.2.length im2, .int .i64 V.fr, .int .i64 V.to, .slice i3 V.l.length im3] 26)
  have HX9 := Lib.hid (And.intro (HX8.out.1.below hb) (And.intro (HX8.out.2.1.below hb) (And.intro (HX8.out.2.2.1.below hb) (And.intro (HX8.out.2.2.2.1.below (World.block_lt_of_cell? _ ⟨w.heap.size + 1 + 1, 0, none⟩ HX8.out.2.2.1.1.1) hb) (And.intro (keepSt hb HX8.out.2.2.2.2.1) (And.intro (keepRd hb HX8.out.2.2.2.2.2.1) (keepBelow HX8.out.2.2.2.2.2.2 hb)))))))
  have HN9 := Lib.hid (And.intro (HN8.out.1.below hb) (keepSt hb HN8.out.2))
  have HI9 := Lib.hid (And.intro (set7_new w5 (.int .i64 V.lf.1) (.slice i1 V.lf.2.length im1) (.int .i64 V.rt.1) (.slice i2 V.rt.2.length im2) (.int .i64 V.fr) (.int .i64 V.to) (.slice i3 V.l.length im3)) (keepSt hb hr))
  clear hb hr HX8 HN8
  obtain ⟨⟨⟨A0, A1, A2, A3, A4, A5, A6⟩, -⟩, ⟨⟨S0, S1⟩, -⟩, -, -, -, -, hbe⟩ := HX9.out
  obtain ⟨⟨⟨D0, D1, D2, D3, D4, D5, D6⟩, _⟩, _⟩ := HN9.out
  obtain ⟨⟨⟨I0, I1, I2, I3, I4, I5, I6⟩, _⟩, _⟩ := HI9.out
  have HM : Hid (replM s (f, t) l = combM 0 U V) := by
    unfold Hid
    rw [repl_fill HVV.out.1 HVV.out.2.1 HVV.out.2.2.1 HVV.out.2.2.2 (by rw [HTT.out]; exact HUU.out), HFF.out]
  have HPP : Hid (PosSt (combM 0 U V).1) := pos_comb
  obtain ⟨Y, hY⟩ : ∃ Y, combM 0 U V = Y := ⟨_, rfl⟩
  have HU5 := Lib.hid (HUN.out U V _ _ _ _ _ _ _ HN9.out.2 HI9.out.2)
  rw [hY] at HU5 HM HPP
  clear hY
  go_wp2_with fail
  refine HU5.out.mono ?_
  rintro e w6 ⟨vl6, vr6, vv6, rfl, hr, hb⟩
  obtain ⟨j1, jm1, rfl⟩ := hr.1.form
  obtain ⟨j2, jm2, rfl⟩ := hr.2.1.form
  obtain ⟨j3, jm3, rfl⟩ := hr.2.2.form
  have HXa := Lib.hid (And.intro (HX9.out.1.below hb) (And.intro (HX9.out.2.1.below hb) (And.intro (HX9.out.2.2.1.below hb) (And.intro (HX9.out.2.2.2.1.below (World.block_lt_of_cell? _ ⟨w.heap.size + 1 + 1, 0, none⟩ HX9.out.2.2.1.1.1) hb) (And.intro (keepSt hb HX9.out.2.2.2.2.1) (And.intro (keepRd hb HX9.out.2.2.2.2.2.1) (keepBelow HX9.out.2.2.2.2.2.2 hb)))))))
  have HRR := Lib.hid hr
  clear A0 A1 A2 A3 A4 A5 A6 S0 S1 hbe D0 D1 D2 D3 D4 D5 D6 I0 I1 I2 I3 I4 I5 I6 hb hr HX9 HN9 HI9 HU5
  have hbe := HXa.out.2.2.2.2.2.2
  obtain ⟨⟨Z0, Z1, Z2, Z3, Z4, Z5, Z6⟩, K0, K1, K2, K3, K4, K5, K6⟩ := HXa.out.2.2.1
  go_wp2
  change bodyPost _ _ _ _ _ (put7 w6 (w.heap.size + 1 + 1) (.int .i64 Y.1.lf.1) (.slice j1 Y.1.lf.2.length jm1) (.int .i64 Y.1.rt.1) (.slice j2 Y.1.rt.2.length jm2) (.int .i64 Y.1.fr) (.int .i64 Y.1.to) (.slice j3 Y.1.l.length jm3))
  obtain ⟨r0, r1, r2, r3, r4, r5, r6⟩ := put7_at (.int .i64 Y.1.lf.1) (.slice j1 Y.1.lf.2.length jm1) (.int .i64 Y.1.rt.1) (.slice j2 Y.1.rt.2.length jm2) (.int .i64 Y.1.fr) (.int .i64 Y.1.to) (.slice j3 Y.1.l.length jm3) Z0 Z1 Z2 Z3 Z4 Z5 Z6
  have hBZ := put7_below (.int .i64 Y.1.lf.1) (.slice j1 Y.1.lf.2.length jm1) (.int .i64 Y.1.rt.1) (.slice j2 Y.1.rt.2.length jm2) (.int .i64 Y.1.fr) (.int .i64 Y.1.to) (.slice j3 Y.1.l.length jm3) hbe (b := (w.heap.size + 1 + 1)) (by omega)
  have hRZ := HRR.out.put (.int .i64 Y.1.lf.1) (.slice j1 Y.1.lf.2.length jm1) (.int .i64 Y.1.rt.1) (.slice j2 Y.1.rt.2.length jm2) (.int .i64 Y.1.fr) (.int .i64 Y.1.to) (.slice j3 Y.1.l.length jm3) HPP.out HXa.out.2.2.2.1
  generalize put7 w6 (w.heap.size + 1 + 1) (.int .i64 Y.1.lf.1) (.slice j1 Y.1.lf.2.length jm1) (.int .i64 Y.1.rt.1) (.slice j2 Y.1.rt.2.length jm2) (.int .i64 Y.1.fr) (.int .i64 Y.1.to) (.slice j3 Y.1.l.length jm3) = Z at *
  refine bodyPost_ret (v := .tuple #[.agg #[.int .i64 Y.1.lf.1, .slice j1 Y.1.lf.2.length jm1, .int .i64 Y.1.rt.1, .slice j2 Y.1.rt.2.length jm2, .int .i64 Y.1.fr, .int .i64 Y.1.to, .slice j3 Y.1.l.length jm3], .int .i64 Y.2]) (by simp [results, Tryz.results40, go_sem, r0, r1, r2, r3, r4, r5, r6]) rfl ?_
  show TsPost _ w _ _
  rw [HM.out]
  exact ⟨_, _, _, rfl, hRZ, hBZ⟩
end Go.Proofs.YtnjpceocnldlfaaGreat
