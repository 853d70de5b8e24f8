import Derived.Test.YtnjpceocnldlfaaGreatWkRfD
import Derived.Test.YtnjpceocnldlfaaGreatWkPn
import Derived.Test.YtnjpceocnldlfaaGreatWkWin
/- The reference's Has, Change, Next of a set; Measure, Open, Close. -/
namespace Go.Proofs.YtnjpceocnldlfaaGreat
open Go.RowKit Wk

end Go.Proofs.YtnjpceocnldlfaaGreat
namespace Go.Proofs.YtnjpceocnldlfaaGreat
open Go.RowKit Wk

end Go.Proofs.YtnjpceocnldlfaaGreat
namespace Go.Proofs.YtnjpceocnldlfaaGreat
open Go.RowKit Wk

def w13M (P : Int) (l : List Sp) (f t : Int) : List Sp × Int := if (memF (hasP (P, l)) f (t - f).toNat).length ≤ 2000 then (memF (hasP (P, l)) f (t - f).toNat, 0) else ([], 5)
def W13Post (P : Int) (l : List Sp) (f t : Int) (w : World) (e : Ending) (w' : World) : Prop := ∃ v, e = .returned (.tuple #[v, .int .i64 (w13M P l f t).2]) ∧ RdS w' v (w13M P l f t).1 ∧ Below w.heap.size w w'
theorem w13_ok {P : Int} {l L : List Sp} {f t : Int} (h : L = memF (hasP (P, l)) f (t - f).toNat) (hl : L.length ≤ 2000) : w13M P l f t = (L, 0) := by
  unfold w13M
  rw [← h, if_pos hl]
theorem w13_full {P : Int} {l : List Sp} {f t : Int} (h : 2000 < (memF (hasP (P, l)) f (t - f).toNat).length) : w13M P l f t = ([], 5) := by
  unfold w13M
  rw [if_neg (by omega)]
theorem rdS_nil (w : World) : RdS w (.slice none 0 0) [] := ⟨none, 0, rfl, by simp, fun i hi => by simp at hi⟩

set_option maxRecDepth 100000 in
set_option maxHeartbeats 8000000 in
theorem window13_any (P f t : Int) (v : Value) (l : List Sp) (w : World) (h : RdS w v l) (hv : pvB P l = true) (hiv : ivB (f, t) = true) :
    Calls Tryz.prog 73 #[.agg #[.int .i64 P, v], .agg #[.int .i64 f, .int .i64 t]] w (W13Post P l f t w) := by
  obtain ⟨hrv, hP1, hP2, _⟩ := rvB_of_pvB hv
  have hll := (canon_of_rvB hrv).2.2
  have hft := (ivB_iff (f, t)).1 hiv
  simp only at hft
  have hf1 := hft.1
  have hft2 := hft.2.1
  have ht1 := hft.2.2
  clear hft
  have HG := Lib.hid (goodP_of_pvB hv)
  have C1 : Hid (∀ W, RdS W v l → Calls Tryz.prog 35 #[.agg #[.int .i64 P, v]] W fun e w' => e = .returned (.bool true) ∧ Below W.heap.size W w') := fun W hr => by
    have := pv13_any P v l W hr
    rw [hv] at this
    exact this
  have C2 : Hid (∀ W, Calls Tryz.prog 125 #[.agg #[.int .i64 f, .int .i64 t]] W fun e w' => e = .returned (.bool true) ∧ Below W.heap.size W w') := fun W => by
    have := pspan_any f t W
    rw [hiv] at this
    exact this
  have HMD := Lib.hid (fun W => rmod_any f P W hP1 (by omega) (by omega) (by omega))
  have r0 := Int.emod_nonneg f (b := P) (by omega)
  have r1 := Int.emod_lt_of_pos f (b := P) (by omega)
  have HST := Lib.hid (WInv.start (P := P) (l := l) hP1 hft2)
  obtain ⟨r, hr⟩ : ∃ r, f % P = r := ⟨_, rfl⟩
  rw [hr] at r0 r1 HMD HST
  clear hr hv hiv hrv
  have HD := Lib.hid h
  obtain ⟨a, c, rfl, hl, hc⟩ := h
  obtain ⟨W, hWe⟩ : ∃ W, (w.alloc (.cells #[.int .i64 P, .slice a l.length c] 24)).alloc (.cells #[.int .i64 f, .int .i64 t] 40) = W := ⟨_, rfl⟩
  have hW : Below w.heap.size w W := by rw [← hWe]; exact ((Below.refl _ _).alloc (Nat.le_refl _) _).alloc (by simp) _
  have d0 : W.cell? ⟨w.heap.size, 0, none⟩ = some (.int .i64 P) := by rw [← hWe]; simp [go_sem]
  have d1 : W.cell? ⟨w.heap.size, 1, none⟩ = some (.slice a l.length c) := by rw [← hWe]; simp [go_sem]
  have d2 : W.cell? ⟨w.heap.size + 1, 0, none⟩ = some (.int .i64 f) := by rw [← hWe]; simp [go_sem]
  have d3 : W.cell? ⟨w.heap.size + 1, 1, none⟩ = some (.int .i64 t) := by rw [← hWe]; simp [go_sem]
  have HE := Lib.hid hWe
  have HC := Lib.hid hc
  clear hWe hc
  go_enter Tryz.func73, Tryz.ntmps73
  go_wp2_with fail
  rw [HE.out]
  go_wp2_with fail
  refine (C1.out W (keepRd hW HD.out)).mono ?_
  rintro e w1 ⟨rfl, hb1⟩
  have e0 := keepCell hb1 d0
  have e1 := keepCell hb1 d1
  have e2 := keepCell hb1 d2
  have e3 := keepCell hb1 d3
  have hB1 := keepBelow hW hb1
  clear d0 d1 d2 d3 hb1
  go_wp2_with fail
  refine (C2.out _).mono ?_
  rintro e w2 ⟨rfl, hb2⟩
  have d0 := keepCell hb2 e0
  have d1 := keepCell hb2 e1
  have d2 := keepCell hb2 e2
  have d3 := keepCell hb2 e3
  have hB2 := keepBelow hB1 hb2
  clear e0 e1 e2 e3 hb2 C1 C2
  by_cases hl0 : l.length = 0
  · have e : l = [] := List.length_eq_zero_iff.1 hl0
    subst e
    have hM : Hid (w13M P [] f t = ([], 0)) := w13_ok (memF_none f _).symm (by simp)
    simp only [List.length_nil] at d1
    go_wp2
    go_ret2
    exact ⟨.slice none 0 0, by rw [hM.out]; rfl, by rw [hM.out]; exact rdS_nil _, hB2⟩
  have t0 : ((l.length : Int) == 0) = false := by simpa using hl0
  have hl1 : 0 < l.length := by omega
  by_cases hp : P = 1
  · have hM : Hid (w13M P l f t = ([(f, t)], 0)) := w13_ok (memF_all hft2 (fun x => by subst hp; exact one_all HG.out hl1 x)).symm (by simp)
    have t1 : (P == 1) = true := by simpa using hp
    clear hp hl0
    go_wp2
    go_ret2
    refine ⟨.slice (some ⟨w2.heap.size, 0, none⟩) 1 1, by rw [hM.out]; rfl, ?_, hB2.alloc hB2.size _⟩
    rw [hM.out]
    refine ⟨_, 1, rfl, by simp, fun i hi => ?_⟩
    have : i = 0 := by simp at hi; exact hi
    subst this
    exact ⟨_, 0, rfl, by simp, by simp⟩
  have t1 : (P == 1) = false := by simpa using hp
  clear hp hl0
  have e0 := ext_cell d0
  have e1 := ext_cell d1
  have e2 := ext_cell d2
  have e3 := ext_cell d3
  go_wp2_with fail
  refine wp_region_ext (by kernel_rfl) (by kernel_rfl) ?_
  iterate 9 (go_big_quiet_step ((go_at_call 120; refine calls_ext (HMD.out _))))
  refine wpQuiet_nil ?_
  intro w3 hb3
  have k0 := keepCell hb3 d0
  have k1 := keepCell hb3 d1
  have k2 := keepCell hb3 d2
  have k3 := keepCell hb3 d3
  have hB3 := keepBelow hB2 hb3
  clear e0 e1 e2 e3 d0 d1 d2 d3 hb3 HMD
  go_wp2_with fail
  go_loopw [6, 7] (fun u at' wr => ∃ (A : Int) (L : List Sp), at' = .int .i64 A ∧ f - P ≤ A ∧ A ≤ t + P ∧ OwnS wr w3.heap.size u L ∧ Hid (WInv P l f t L A 0) ∧ L.length ≤ 2000 ∧ Below w3.heap.size w3 wr) (fun _ at' _ => (t + P - intOf at').toNat)
  case atStart => exact ⟨f - r, [], rfl, by omega, by omega, OwnS.nil _ _, HST.out, by simp, Below.refl _ _⟩
  case round =>
    obtain ⟨A, L, rfl, hA0, hA1, ho, HS, hLL, hB⟩ := hrel
    have m0 := keepCell hB k0
    have m1 := keepCell hB k1
    have m2 := keepCell hB k2
    have m3 := keepCell hB k3
    by_cases hlt : A < t
    · go_wp2_with fail
      go_loopw [6, 8] (fun u vi w4 => ∃ (i : Nat) (L : List Sp), vi = .int .i64 i ∧ i ≤ l.length ∧ OwnS w4 w3.heap.size u L ∧ Hid (WInv P l f t L A i) ∧ L.length ≤ 2000 + i ∧ Below w3.heap.size w3 w4) (fun _ vi _ => l.length - (intOf vi).toNat)
      case atStart => exact ⟨0, L, rfl, Nat.zero_le _, ho, HS, hLL, hB⟩
      case round =>
        obtain ⟨i, L, rfl, hi, ho, HS, hLi, hB⟩ := hrel
        have m0 := keepCell hB k0
        have m1 := keepCell hB k1
        have m2 := keepCell hB k2
        have m3 := keepCell hB k3
        have hBw := keepBelow hB3 hB
        by_cases hli : i < l.length
        · obtain ⟨bb, o, x, y, rfl, hbw, HXY, d1, d2⟩ := rd_at HC.out hBw hli
          have hin := HG.out.ins _ (mem_of_getD HXY.out hli)
          simp only at hin
          have hx0 := hin.1
          have hy0 := hin.2
          have hxy := canon_pos HG.out.canon _ (mem_of_getD HXY.out hli)
          simp only at hxy
          have HLI := Lib.hid hli
          have hli' : (i : Int) < (l.length : Int) := by omega
          have s1 : IntKind.i64.wrap (x + A) = x + A := by rw [IntKind.wrap_i64]; omega
          have s2 : IntKind.i64.wrap (y + A) = y + A := by rw [IntKind.wrap_i64]; omega
          obtain ⟨X, hX⟩ : ∃ X, max (x + A) f = X := ⟨_, rfl⟩
          obtain ⟨Y, hY⟩ : ∃ Y, min (y + A) t = Y := ⟨_, rfl⟩
          have HHX := Lib.hid hX
          have HHY := Lib.hid hY
          clear hX hY hin
          go_upto_region 14 with fail
          go_cut [9, 10] from 44 to 102 (fun u9 u10 wx => u9 = .int .i64 X ∧ u10 = .int .i64 Y ∧ Below wr.heap.size wr wx)
          case first =>
            go_region
            all_goals (go_wp2_with fail; go_meet; case rel => exact ⟨by rw [← HHX.out], by rw [← HHY.out], (Below.refl _ wr).drew⟩)
          case rest =>
          obtain ⟨rfl, rfl, hbc⟩ := hcut
          have hBn := keepBelow hB hbc
          have ho5 := ho.below hbc
          clear hbc m0 m1 m2 m3 d1 d2 ho
          by_cases hYX : Y ≤ X
          · have t2 : decide (Y ≤ X) = true := by simpa using hYX
            have HS2 : Hid (WInv P l f t L A (i + 1)) := HS.out.skip HG.out HLI.out HXY.out (by rw [HHX.out, HHY.out]; exact hYX)
            clear hYX
            go_wp2
            go_roundw
            case rel => exact ⟨i + 1, L, by go_num, by omega, ho5, HS2, by omega, hBn⟩
            case measure => simp [intOf]; omega
          · have t2 : decide (Y ≤ X) = false := by simpa using hYX
            have HXYlt : Hid (max (x + A) f < min (y + A) t) := by unfold Hid; rw [HHX.out, HHY.out]; omega
            clear hYX
            by_cases hL0 : 0 < L.length
            · obtain ⟨K, y1, z1, rfl⟩ : ∃ K y1 z1, L = K ++ [(y1, z1)] := ⟨_, _, _, snoc_of_pos hL0⟩
              have hlK : (K ++ [(y1, z1)]).length = K.length + 1 := by simp
              obtain ⟨a8, c8, rfl, hf8⟩ := ho5.form
              obtain ⟨g8, rfl, _, _, cl⟩ := hf8 K.length (by omega)
              simp only [List.getD_eq_getElem?_getD, List.getElem?_concat_length, Option.getD_some] at cl
              rw [hlK] at hLi ho5
              obtain ⟨n, hn⟩ : ∃ n, K.length = n := ⟨_, rfl⟩
              have HKm := Lib.hid hn
              rw [hn] at cl hlK hLi
              have hnb : n + 1 ≤ 4000 := by omega
              have t3 : decide ((0 : Int) < ((n + 1 : Nat) : Int)) = true := decide_eq_true (by omega)
              clear hL0 hf8 hn
              rw [hlK]
              have HF8 := ho5.frozen (n * 2 + 1)
              have HST2 := Lib.hid (ho5.setLast Y)
              rw [HKm.out] at HST2
              by_cases hz1 : z1 = X
              · have t4 : (z1 == X) = true := by simpa using hz1
                have HS2 : Hid (WInv P l f t (K ++ [(y1, Y)]) A (i + 1)) := by
                  have h2 := WInv.ext HG.out HS.out HLI.out HXY.out HXYlt.out (by rw [hz1, HHX.out])
                  rw [HHY.out] at h2
                  exact h2
                have HBE : Hid (Below w3.heap.size w3 (wc.setCell ⟨g8, n * 2 + 1, none⟩ (.int .i64 Y))) := hBn.grown HST2.out.2 hBn.size (fun x hx => by cases hx; exact (ho5.lt _ rfl).1)
                have hl2 : (K ++ [(y1, Y)]).length ≤ 2000 + (i + 1) := by rw [List.length_append, HKm.out]; simp; omega
                rw [HKm.out] at ho5
                clear hz1
                go_wp2
                go_roundw
                case rel => exact ⟨i + 1, K ++ [(y1, Y)], by go_num, by omega, HST2.out.1, HS2, hl2, HBE.out⟩
                case measure => simp [intOf]; omega
              · have t4 : (z1 == X) = false := by simpa using hz1
                have HS2 : Hid (WInv P l f t ((K ++ [(y1, z1)]) ++ [(X, Y)]) A (i + 1)) := by
                  have h2 := WInv.new HG.out HS.out HLI.out HXY.out HXYlt.out (.inr (by rw [hlK, HHX.out]; simp [HKm.out.symm]; exact hz1))
                  rw [HHX.out, HHY.out] at h2
                  exact h2
                have hl3 : (K ++ [(y1, z1)]).length < 1000000000000 := by rw [hlK]; omega
                have hl2 : ((K ++ [(y1, z1)]) ++ [(X, Y)]).length ≤ 2000 + (i + 1) := by rw [List.length_append, hlK]; simp; omega
                rw [HKm.out] at ho5
                clear hz1
                go_wp2_with (at_builtin; refine wpList_app_span rfl (.tmp 97) (.tmp 101) rfl rfl ho5 hBn rfl rfl hl3 ?_; intro v1 w6 o1 b1 k1 z1'; clear k1)
                go_roundw
                case rel => exact ⟨i + 1, _, by go_num, by omega, o1, HS2, hl2, b1⟩
                case measure => simp [intOf]; omega
            · obtain rfl : L = [] := List.length_eq_zero_iff.1 (by omega)
              obtain ⟨a8, c8, e8, _⟩ := ho5.form
              rw [List.length_nil] at e8
              subst e8
              have HS2 : Hid (WInv P l f t ([] ++ [(X, Y)]) A (i + 1)) := by
                have h2 := WInv.new HG.out HS.out HLI.out HXY.out HXYlt.out (.inl rfl)
                rw [HHX.out, HHY.out] at h2
                exact h2
              clear hL0
              go_wp2_with (at_builtin; refine wpList_app_span rfl (.tmp 97) (.tmp 101) rfl rfl ho5 hBn rfl rfl (by simp) ?_; intro v1 w6 o1 b1 k1 z1'; clear k1)
              go_roundw
              case rel => exact ⟨i + 1, _, by go_num, by omega, o1, HS2, by simp; omega, b1⟩
              case measure => simp [intOf]; omega
        · have e : i = l.length := by omega
          have HSL : Hid (WInv P l f t L A l.length) := by unfold Hid; rw [← e]; exact HS.out
          clear e
          obtain ⟨a8, c8, rfl, _⟩ := ho.form
          by_cases hfull : 2000 < L.length
          · have HM : Hid (w13M P l f t = ([], 5)) := w13_full (HSL.out.full hft2 hfull)
            have t2 : decide ((2000 : Int) < (L.length : Int)) = true := decide_eq_true (by omega)
            clear hfull
            go_wp2
            go_ret2
            exact ⟨.slice none 0 0, by rw [HM.out]; rfl, by rw [HM.out]; exact rdS_nil _, hBw⟩
          · have t2 : decide ((2000 : Int) < (L.length : Int)) = false := decide_eq_false (by omega)
            have HN : Hid (WInv P l f t L (A + P) 0) := HSL.out.round HG.out
            have hfl : L.length ≤ 2000 := by omega
            clear hfull
            go_wp2
            go_roundw
            case rel => exact ⟨A + P, L, by go_num, by omega, by omega, ho, HN, hfl, hB⟩
            case measure => simp [intOf]; omega
    · have HM : Hid (w13M P l f t = (L, 0)) := w13_ok (HS.out.done hft2 (by omega)) hLL
      have hr := ho.rd (by omega)
      go_wp2
      go_ret2
      exact ⟨_, by rw [HM.out]; rfl, by rw [HM.out]; exact hr, keepBelow hB3 hB⟩
end Go.Proofs.YtnjpceocnldlfaaGreat
