import Derived.Test.YtnjpceocnldlfaaGreatWkBh
import Derived.Test.YtnjpceocnldlfaaGreatWkIlc
import Derived.Test.YtnjpceocnldlfaaGreatWkBi
import Derived.Deep.RegionWith
/- periodic.both. -/
namespace Go.Proofs.YtnjpceocnldlfaaGreat
open Go.RowKit Wk

theorem bothM_err {kind P Q : Int} {l k : List Sp} {e : Int} (h1 : pvB P l = true) (h2 : pvB Q k = true) (he : (pairR P l.length Q k.length).2 = e) (h0 : e ≠ 0) : bothM kind (P, l) (Q, k) = ((0, []), e) := by
  unfold bothM
  simp only [h1, h2]
  rw [if_neg (by simp), if_pos (by rw [he]; exact h0), he]
theorem bothM_lim {kind P Q M : Int} {l k L X Y : List Sp} (h1 : pvB P l = true) (h2 : pvB Q k = true) (he : pairR P l.length Q k.length = (M, 0)) (hM : 1 ≤ M) (hx : SprP P l M X) (hy : SprP Q k M Y) (hc : Canon L) (hv : ∀ x, inL L x = ruleB kind (inL X x) (inL Y x)) :
    bothM kind (P, l) (Q, k) = limM M L ∧ inside M L := by
  have hL := spr_rule (kind := kind) (p := (P, l)) (q := (Q, k)) (by omega) hx hy hc hv
  refine ⟨?_, inside_of_in hc fun x hx' => ?_⟩
  · unfold bothM
    simp only [h1, h2]
    rw [if_neg (by simp), if_neg (by rw [he]; simp), he]
    unfold perM limM
    rw [hL]
  · rw [hv x, hx.2, hy.2] at hx'
    cases hb : (decide (0 ≤ x) && decide (x < M)) with
    | true => simpa using hb
    | false => rw [hb] at hx'; simp [rule_ff] at hx'
theorem Bnd_spr {P M : Int} {l X : List Sp} (h : SprP P l M X) (hM : M ≤ 12622780800) : Bnd X := fun s hs => by
  have h1 := h.inside s hs
  have h2 := canon_pos h.1 s hs
  omega
theorem Bnd_ins {M : Int} {X : List Sp} (hc : Canon X) (h : inside M X) (hM : M ≤ 12622780800) : Bnd X := fun s hs => by
  have h1 := h s hs
  have h2 := canon_pos hc s hs
  omega

set_option maxRecDepth 100000 in
set_option maxHeartbeats 8000000 in
theorem both_any (kind : Int) (fv : Value) (hcb : ∀ va vb a b W, RdS W va a → RdS W vb b → Canon a → Canon b → Bnd a → Bnd b → a.length ≤ 1000000 → b.length ≤ 1000000 → Calls Tryz.prog 151 #[va, vb, fv] W (PcPost kind a b W))
    (P Q : Int) (v k : Value) (l m : List Sp) (w : World) (h1 : RdS w v l) (h2 : RdS w k m) :
    Calls Tryz.prog 134 #[.agg #[.int .i64 P, v], .agg #[.int .i64 Q, k], fv] w (PrPost (bothM kind (P, l) (Q, m)) w) := by
  have HV1 := Lib.hid (fun W h => pvalid_any P v l W h)
  have HV2 := Lib.hid (fun W h => pvalid_any Q k m W h)
  have HCB := Lib.hid hcb
  clear hcb
  have hr1 := h1
  have hr2 := h2
  obtain ⟨a1, d1, rfl⟩ := h1.form
  obtain ⟨a2, d2, rfl⟩ := h2.form
  obtain ⟨W, hWe⟩ : ∃ W, ((w.alloc (.cells #[.int .i64 P, .slice a1 l.length d1] 24)).alloc (.cells #[.int .i64 Q, .slice a2 m.length d2] 24)).alloc (.cells #[.int .i64 0, .slice none 0 0] 24) = W := ⟨_, rfl⟩
  have hW : Below w.heap.size w W := by rw [← hWe]; exact (((Below.refl _ _).alloc (Nat.le_refl _) _).alloc (by simp) _).alloc (by simp; omega) _
  have hWs : W.heap.size = w.heap.size + 1 + 1 + 1 := by rw [← hWe]; simp
  have c0 : W.cell? ⟨w.heap.size, 0, none⟩ = some (.int .i64 P) := by rw [← hWe]; simp [go_sem]
  have c1 : W.cell? ⟨w.heap.size, 1, none⟩ = some (.slice a1 l.length d1) := by rw [← hWe]; simp [go_sem]
  have c2 : W.cell? ⟨w.heap.size + 1, 0, none⟩ = some (.int .i64 Q) := by rw [← hWe]; simp [go_sem]
  have c3 : W.cell? ⟨w.heap.size + 1, 1, none⟩ = some (.slice a2 m.length d2) := by rw [← hWe]; simp [go_sem]
  have hBX : Box2 W (w.heap.size + 1 + 1) (.int .i64 0) (.slice none 0 0) := by
    rw [← hWe]
    refine ⟨⟨?_, ?_⟩, ?_, ?_⟩ <;> simp [go_sem]
  have HE := Lib.hid hWe
  have HR1 := Lib.hid (keepRd hW hr1)
  have HR2 := Lib.hid (keepRd hW hr2)
  have HWS := Lib.hid hWs
  clear hWe h1 h2 hr1 hr2 hWs
  cases g1 : pvB P l with
  | false =>
    have hM : bothM kind (P, l) (Q, m) = ((0, []), 1) := by unfold bothM; simp only [g1]; rw [if_pos (by simp)]
    have HM := Lib.hid hM
    rw [g1] at HV1
    clear g1 hM
    go_enter Tryz.func134, Tryz.ntmps134
    go_wp2_with fail
    rw [HE.out]
    go_wp2_with fail
    refine (HV1.out _ HR1.out).mono ?_
    rintro e w1 ⟨rfl, hb1⟩
    have hBn := keepBelow hW hb1
    obtain ⟨⟨e0, e1⟩, f0, f1⟩ := hBX.below hb1
    have HB := Lib.hid (hBX.below hb1)
    clear hb1 hBX c0 c1 c2 c3
    go_wp2
    change bodyPost _ _ _ _ _ (put2 w1 (w.heap.size + 1 + 1) (.int .i64 0) (.slice none 0 0))
    obtain ⟨r0, r1⟩ := HB.out.put (.int .i64 0) (.slice none 0 0)
    have hBZ := put2_below (.int .i64 0) (.slice none 0 0) hBn (b := w.heap.size + 1 + 1) (by omega)
    generalize put2 w1 (w.heap.size + 1 + 1) (.int .i64 0) (.slice none 0 0) = Z at *
    refine bodyPost_ret (v := .tuple #[.agg #[.int .i64 0, .slice none 0 0], .int .i64 1]) (by simp [results, Tryz.results134, go_sem, r0, r1]) rfl ?_
    show PrPost _ w _ _
    rw [HM.out]
    exact ⟨_, rfl, OwnS.nil _ _, hBZ⟩
  | true =>
  rw [g1] at HV1
  cases g2 : pvB Q m with
  | false =>
    have hM : bothM kind (P, l) (Q, m) = ((0, []), 1) := by unfold bothM; simp only [g2]; rw [if_pos (by simp)]
    have HM := Lib.hid hM
    rw [g2] at HV2
    clear g1 g2 hM
    go_enter Tryz.func134, Tryz.ntmps134
    go_wp2_with fail
    rw [HE.out]
    go_wp2_with fail
    refine (HV1.out _ HR1.out).mono ?_
    rintro e w1 ⟨rfl, hb1⟩
    have hBn := keepBelow hW hb1
    have HRn := Lib.hid (keepRd hb1 HR2.out)
    have j2 := keepCell hb1 c2
    have j3 := keepCell hb1 c3
    have hBX1 := hBX.below hb1
    clear hb1 hBX c0 c1 c2 c3
    go_wp2_with fail
    refine (HV2.out _ HRn.out).mono ?_
    rintro e w2 ⟨rfl, hb2⟩
    have hBm := keepBelow hBn hb2
    obtain ⟨⟨e0, e1⟩, f0, f1⟩ := hBX1.below hb2
    have HB := Lib.hid (hBX1.below hb2)
    clear hb2 hBX1 j2 j3
    go_wp2
    change bodyPost _ _ _ _ _ (put2 w2 (w.heap.size + 1 + 1) (.int .i64 0) (.slice none 0 0))
    obtain ⟨r0, r1⟩ := HB.out.put (.int .i64 0) (.slice none 0 0)
    have hBZ := put2_below (.int .i64 0) (.slice none 0 0) hBm (b := w.heap.size + 1 + 1) (by omega)
    generalize put2 w2 (w.heap.size + 1 + 1) (.int .i64 0) (.slice none 0 0) = Z at *
    refine bodyPost_ret (v := .tuple #[.agg #[.int .i64 0, .slice none 0 0], .int .i64 1]) (by simp [results, Tryz.results134, go_sem, r0, r1]) rfl ?_
    show PrPost _ w _ _
    rw [HM.out]
    exact ⟨_, rfl, OwnS.nil _ _, hBZ⟩
  | true =>
  rw [g2] at HV2
  obtain ⟨hrv1, hP1, hP2, _⟩ := rvB_of_pvB g1
  obtain ⟨hrv2, hQ1, hQ2, _⟩ := rvB_of_pvB g2
  have hl1 := (canon_of_rvB hrv1).2.2
  have hl2 := (canon_of_rvB hrv2).2.2
  have HG1 := Lib.hid g1
  have HG2 := Lib.hid g2
  have HL := Lib.hid (fun W => ilcm_any P Q W hP1 hP2 hQ1 hQ2)
  obtain ⟨_, _, b3⟩ := mulM_bd hP1 hQ1
  have HPR : Hid (pairR P l.length Q m.length = if 12622780800 < mulM P Q then (0, 9) else if 2000 < mulM P Q / P * l.length + mulM P Q / Q * m.length then (0, 5) else (mulM P Q, 0)) := rfl
  obtain ⟨cP, hcP⟩ := mulM_left (P := P) (Q := Q)
  obtain ⟨cQ, hcQ⟩ := mulM_right (P := P) (Q := Q)
  obtain ⟨M, hM⟩ : ∃ M, mulM P Q = M := ⟨_, rfl⟩
  rw [hM] at HL HPR b3 hcP hcQ
  have hcP0 : 0 ≤ cP := by
    rcases Int.lt_or_le cP 0 with h | h
    · have : cP * P ≤ 0 := Int.mul_nonpos_of_nonpos_of_nonneg (by omega) (by omega)
      omega
    · exact h
  have hcQ0 : 0 ≤ cQ := by
    rcases Int.lt_or_le cQ 0 with h | h
    · have : cQ * Q ≤ 0 := Int.mul_nonpos_of_nonpos_of_nonneg (by omega) (by omega)
      omega
    · exact h
  have HCP : Hid (M = (cP.toNat : Int) * P ∧ M = (cQ.toNat : Int) * Q ∧ M / P = (cP.toNat : Int) ∧ M / Q = (cQ.toNat : Int)) := by
    unfold Hid
    rw [Int.toNat_of_nonneg hcP0, Int.toNat_of_nonneg hcQ0]
    exact ⟨hcP, hcQ, by rw [hcP]; exact Int.mul_ediv_cancel _ (by omega), by rw [hcQ]; exact Int.mul_ediv_cancel _ (by omega)⟩
  clear hM hcP hcQ hcP0 hcQ0 hrv1 hrv2 g1 g2
  by_cases hbig : M ≤ 9223372036854775807
  · have e0 : imulM M = (M, 0) := by unfold imulM; rw [if_pos hbig]
    rw [e0] at HL
    simp only at HL
    clear e0
    cases t1 : decide (12622780800 < M) with
    | true =>
      rw [if_pos (by simpa using t1)] at HPR
      have HM := Lib.hid (bothM_err (kind := kind) HG1.out HG2.out (e := 9) (by rw [HPR.out]) (by decide))
      go_enter Tryz.func134, Tryz.ntmps134
      go_wp2_with fail
      rw [HE.out]
      go_wp2_with fail
      refine (HV1.out _ HR1.out).mono ?_
      rintro e w1 ⟨rfl, hb1⟩
      have hBn := keepBelow hW hb1
      have HRn := Lib.hid (keepRd hb1 HR2.out)
      have j0 := keepCell hb1 c0
      have j2 := keepCell hb1 c2
      have j3 := keepCell hb1 c3
      have hBX1 := hBX.below hb1
      clear hb1 hBX c0 c1 c2 c3
      go_wp2_with fail
      refine (HV2.out _ HRn.out).mono ?_
      rintro e w2 ⟨rfl, hb2⟩
      have hBm := keepBelow hBn hb2
      have i0 := keepCell hb2 j0
      have i2 := keepCell hb2 j2
      have hBX2 := hBX1.below hb2
      clear hb2 hBX1 j0 j2 j3
      go_wp2_with fail
      refine (HL.out _).mono ?_
      rintro e w3 ⟨rfl, hb3⟩
      have hB3 := keepBelow hBm hb3
      obtain ⟨⟨e0, e1⟩, f0, f1⟩ := hBX2.below hb3
      have HB := Lib.hid (hBX2.below hb3)
      clear hb3 hBX2 i0 i2
      go_wp2
      change bodyPost _ _ _ _ _ (put2 w3 (w.heap.size + 1 + 1) (.int .i64 0) (.slice none 0 0))
      obtain ⟨r0, r1⟩ := HB.out.put (.int .i64 0) (.slice none 0 0)
      have hBZ := put2_below (.int .i64 0) (.slice none 0 0) hB3 (b := w.heap.size + 1 + 1) (by omega)
      generalize put2 w3 (w.heap.size + 1 + 1) (.int .i64 0) (.slice none 0 0) = Z at *
      refine bodyPost_ret (v := .tuple #[.agg #[.int .i64 0, .slice none 0 0], .int .i64 9]) (by simp [results, Tryz.results134, go_sem, r0, r1]) rfl ?_
      show PrPost _ w _ _
      rw [HM.out]
      exact ⟨_, rfl, OwnS.nil _ _, hBZ⟩
    | false =>
      rw [if_neg (by simpa using t1)] at HPR
      have hM2 : M ≤ 12622780800 := by simpa using t1
      have hx0 := Int.ediv_nonneg (a := M) (b := P) (by omega) (by omega)
      have hx1 : M / P ≤ M := Int.ediv_le_self _ (by omega)
      have hy0 := Int.ediv_nonneg (a := M) (b := Q) (by omega) (by omega)
      have hy1 : M / Q ≤ M := Int.ediv_le_self _ (by omega)
      obtain ⟨X, hX⟩ : ∃ X, M / P = X := ⟨_, rfl⟩
      obtain ⟨Y, hY⟩ : ∃ Y, M / Q = Y := ⟨_, rfl⟩
      rw [hX] at hx0 hx1 HPR
      rw [hY] at hy0 hy1 HPR
      have HXE := Lib.hid (And.intro hX hY)
      have hp1 : 0 ≤ X * (l.length : Int) := Int.mul_nonneg hx0 (by omega)
      have hp2 : X * (l.length : Int) ≤ 12622780800 * 2000 := Int.mul_le_mul (by omega) (by omega) (by omega) (by omega)
      have hp3 : 0 ≤ Y * (m.length : Int) := Int.mul_nonneg hy0 (by omega)
      have hp4 : Y * (m.length : Int) ≤ 12622780800 * 2000 := Int.mul_le_mul (by omega) (by omega) (by omega) (by omega)
      obtain ⟨A, hA⟩ : ∃ A, X * (l.length : Int) = A := ⟨_, rfl⟩
      obtain ⟨B, hB⟩ : ∃ B, Y * (m.length : Int) = B := ⟨_, rfl⟩
      rw [hA] at hp1 hp2 HPR
      rw [hB] at hp3 hp4 HPR
      have HAE := Lib.hid (And.intro hA hB)
      have s1 : IntKind.i64.wrap A = A := by rw [IntKind.wrap_i64]; omega
      have s2 : IntKind.i64.wrap B = B := by rw [IntKind.wrap_i64]; omega
      have s3 : IntKind.i64.wrap (A + B) = A + B := by rw [IntKind.wrap_i64]; omega
      have hMP : Int.tdiv M P = X := by rw [Int.tdiv_eq_ediv_of_nonneg (by omega)]; exact hX
      have hMQ : Int.tdiv M Q = Y := by rw [Int.tdiv_eq_ediv_of_nonneg (by omega)]; exact hY
      cases t2 : decide (2000 < A + B) with
      | true =>
        rw [if_pos (by simpa using t2)] at HPR
        have HM := Lib.hid (bothM_err (kind := kind) HG1.out HG2.out (e := 5) (by rw [HPR.out]) (by decide))
        go_enter Tryz.func134, Tryz.ntmps134
        go_wp2_with fail
        rw [HE.out]
        go_wp2_with fail
        refine (HV1.out _ HR1.out).mono ?_
        rintro e w1 ⟨rfl, hb1⟩
        have hBn := keepBelow hW hb1
        have HRn := Lib.hid (keepRd hb1 HR2.out)
        have j0 := keepCell hb1 c0
        have j1 := keepCell hb1 c1
        have j2 := keepCell hb1 c2
        have j3 := keepCell hb1 c3
        have hBX1 := hBX.below hb1
        clear hb1 hBX c0 c1 c2 c3
        go_wp2_with fail
        refine (HV2.out _ HRn.out).mono ?_
        rintro e w2 ⟨rfl, hb2⟩
        have hBm := keepBelow hBn hb2
        have i0 := keepCell hb2 j0
        have i1 := keepCell hb2 j1
        have i2 := keepCell hb2 j2
        have i3 := keepCell hb2 j3
        have hBX2 := hBX1.below hb2
        clear hb2 hBX1 j0 j1 j2 j3
        go_wp2_with fail
        refine (HL.out _).mono ?_
        rintro e w3 ⟨rfl, hb3⟩
        have hB3 := keepBelow hBm hb3
        have e0 := ext_cell (keepCell hb3 i0)
        have e1 := ext_cell (keepCell hb3 i1)
        have e2 := ext_cell (keepCell hb3 i2)
        have e3 := ext_cell (keepCell hb3 i3)
        have hBX3 := hBX2.below hb3
        clear hb3 hBX2 i0 i1 i2 i3
        go_wp2_with fail
        refine wp_region_ext (by kernel_rfl) (by kernel_rfl) ?_
        iterate 18 (go_big_quiet_step (fail))
        refine wpQuiet_nil ?_
        intro w4 hb4
        have hB4 := keepBelow hB3 hb4
        obtain ⟨⟨k0, k1⟩, f0, f1⟩ := hBX3.below hb4
        have HB := Lib.hid (hBX3.below hb4)
        clear hb4 hBX3 e0 e1 e2 e3
        go_wp2
        change bodyPost _ _ _ _ _ (put2 w4 (w.heap.size + 1 + 1) (.int .i64 0) (.slice none 0 0))
        obtain ⟨r0, r1⟩ := HB.out.put (.int .i64 0) (.slice none 0 0)
        have hBZ := put2_below (.int .i64 0) (.slice none 0 0) hB4 (b := w.heap.size + 1 + 1) (by omega)
        generalize put2 w4 (w.heap.size + 1 + 1) (.int .i64 0) (.slice none 0 0) = Z at *
        refine bodyPost_ret (v := .tuple #[.agg #[.int .i64 0, .slice none 0 0], .int .i64 5]) (by simp [results, Tryz.results134, go_sem, r0, r1]) rfl ?_
        show PrPost _ w _ _
        rw [HM.out]
        exact ⟨_, rfl, OwnS.nil _ _, hBZ⟩
      | false =>
        rw [if_neg (by simpa using t2)] at HPR
        have hAB : A + B ≤ 2000 := by simpa using t2
        have HLL : Hid (cP.toNat * l.length + cQ.toNat * m.length ≤ 2000) := by
          unfold Hid
          have q := HCP.out.2.2
          rw [HXE.out.1, HXE.out.2] at q
          have a := HAE.out
          rw [q.1, q.2] at a
          have a1 : ((cP.toNat * l.length : Nat) : Int) = A := by rw [Int.natCast_mul]; exact a.1
          have a2 : ((cQ.toNat * m.length : Nat) : Int) = B := by rw [Int.natCast_mul]; exact a.2
          omega
        have HS1 : Hid (∀ X, RdS X (.slice a1 l.length d1) l → Calls Tryz.prog 164 #[.agg #[.int .i64 P, .slice a1 l.length d1], .int .i64 M] X (SdPost P l M cP.toNat X)) :=
          fun X h => pspread_any P M cP.toNat _ l X h (goodP_of_pvB HG1.out) hP2 HCP.out.1 b3 hM2 (by have := HLL.out; omega)
        have HS2 : Hid (∀ X, RdS X (.slice a2 m.length d2) m → Calls Tryz.prog 164 #[.agg #[.int .i64 Q, .slice a2 m.length d2], .int .i64 M] X (SdPost Q m M cQ.toNat X)) :=
          fun X h => pspread_any Q M cQ.toNat _ m X h (goodP_of_pvB HG2.out) hQ2 HCP.out.2.1 b3 hM2 (by have := HLL.out; omega)
        go_enter Tryz.func134, Tryz.ntmps134
        go_wp2_with fail
        rw [HE.out]
        go_wp2_with fail
        refine (HV1.out _ HR1.out).mono ?_
        rintro e w1 ⟨rfl, hb1⟩
        have hBn := keepBelow hW hb1
        have HRm := Lib.hid (keepRd hb1 HR1.out)
        have HRn := Lib.hid (keepRd hb1 HR2.out)
        have j0 := keepCell hb1 c0
        have j1 := keepCell hb1 c1
        have j2 := keepCell hb1 c2
        have j3 := keepCell hb1 c3
        have hBX1 := hBX.below hb1
        clear hb1 hBX c0 c1 c2 c3
        go_wp2_with fail
        refine (HV2.out _ HRn.out).mono ?_
        rintro e w2 ⟨rfl, hb2⟩
        have hBm := keepBelow hBn hb2
        have HRp := Lib.hid (keepRd hb2 HRm.out)
        have HRq := Lib.hid (keepRd hb2 HRn.out)
        have i0 := keepCell hb2 j0
        have i1 := keepCell hb2 j1
        have i2 := keepCell hb2 j2
        have i3 := keepCell hb2 j3
        have hBX2 := hBX1.below hb2
        clear hb2 hBX1 j0 j1 j2 j3
        go_wp2_with fail
        refine (HL.out _).mono ?_
        rintro e w3 ⟨rfl, hb3⟩
        have hB3 := keepBelow hBm hb3
        have HRr := Lib.hid (keepRd hb3 HRp.out)
        have HRs := Lib.hid (keepRd hb3 HRq.out)
        have j0 := keepCell hb3 i0
        have j1 := keepCell hb3 i1
        have j2 := keepCell hb3 i2
        have j3 := keepCell hb3 i3
        have e0 := ext_cell j0
        have e1 := ext_cell j1
        have e2 := ext_cell j2
        have e3 := ext_cell j3
        have hBX3 := hBX2.below hb3
        clear hb3 hBX2 i0 i1 i2 i3
        go_wp2_with fail
        refine wp_region_ext (by kernel_rfl) (by kernel_rfl) ?_
        iterate 18 (go_big_quiet_step (fail))
        refine wpQuiet_nil ?_
        intro w4 hb4
        have hB4 := keepBelow hB3 hb4
        have HRt := Lib.hid (keepRd hb4 HRr.out)
        have HRu := Lib.hid (keepRd hb4 HRs.out)
        have c0 := keepCell hb4 j0
        have c1 := keepCell hb4 j1
        have c2 := keepCell hb4 j2
        have c3 := keepCell hb4 j3
        have HBX := Lib.hid (hBX3.below hb4)
        have HSZ : Hid (w.heap.size + 1 + 1 < w4.heap.size) := World.block_lt_of_cell? w4 ⟨w.heap.size + 1 + 1, 0, none⟩ HBX.out.1.1
        clear hb4 hBX3 e0 e1 e2 e3 j0 j1 j2 j3
        have hd : Below w4.heap.size w4 w4.drew := (Below.refl _ w4).drew
        have HC : Hid (∀ X, Below w4.heap.size w4 X → X.cell? ⟨w.heap.size, 0, none⟩ = some (.int .i64 P) ∧ X.cell? ⟨w.heap.size, 1, none⟩ = some (.slice a1 l.length d1) ∧ X.cell? ⟨w.heap.size + 1, 0, none⟩ = some (.int .i64 Q) ∧ X.cell? ⟨w.heap.size + 1, 1, none⟩ = some (.slice a2 m.length d2)) := fun X hX => ⟨keepCell hX c0, keepCell hX c1, keepCell hX c2, keepCell hX c3⟩
        obtain ⟨n0, n1, n2, n3⟩ := HC.out _ hd
        have RD1 := keepRd hd HRt.out
        have RD2 := keepRd hd HRu.out
        have HT := Lib.hid (And.intro b3 hM2)
        go_wp2_with fail
        go_region_with (first
          | (go_at_call_of 164 (Value.agg #[Value.int IntKind.i64 P, Value.slice a1 l.length d1]); refine (HS1.out _ (by (first | with_reducible exact RD1 | with_reducible exact keepRd hfB HRt.out))).mono ?_; rintro e' wA ⟨vA, XA, rfl, oA, sA, lA, bA⟩; have hfA : Below w4.heap.size w4 wA := keepBelow (by (first | with_reducible exact hd | with_reducible exact hfB)) bA; have RA := Lib.hid (oA.rd (by have := HLL.out; omega)); have SA := Lib.hid (And.intro sA lA); (first | (have RB2 := Lib.hid (keepRd bA RB.out)) | skip); obtain ⟨cA0, cA1, cA2, cA3⟩ := HC.out _ hfA; clear bA oA sA lA)
          | (go_at_call_of 164 (Value.agg #[Value.int IntKind.i64 Q, Value.slice a2 m.length d2]); refine (HS2.out _ (by (first | with_reducible exact RD2 | with_reducible exact keepRd hfA HRu.out))).mono ?_; rintro e' wB ⟨vB, XB, rfl, oB, sB, lB, bB⟩; have hfB : Below w4.heap.size w4 wB := keepBelow (by (first | with_reducible exact hd | with_reducible exact hfA)) bB; have RB := Lib.hid (oB.rd (by have := HLL.out; omega)); have SB := Lib.hid (And.intro sB lB); (first | (have RA2 := Lib.hid (keepRd bB RA.out)) | skip); obtain ⟨cB0, cB1, cB2, cB3⟩ := HC.out _ hfB; clear bB oB sB lB)
          | (go_at_call 151; refine (HCB.out _ _ _ _ _ (by (first | with_reducible exact RA2.out | with_reducible exact RA.out)) (by (first | with_reducible exact RB2.out | with_reducible exact RB.out)) SA.out.1.1 SB.out.1.1 (Bnd_spr SA.out.1 HT.out.2) (Bnd_spr SB.out.1 HT.out.2) (by have := SA.out.2; have := HLL.out; omega) (by have := SB.out.2; have := HLL.out; omega)).mono ?_; rintro e' wC ⟨vC, L, rfl, oC, cC, hC, lC, bC⟩; have hfC : Below w4.heap.size w4 wC := keepBelow (by (first | with_reducible exact hfB | with_reducible exact hfA)) bC; have HLM := Lib.hid (bothM_lim HG1.out HG2.out HPR.out HT.out.1 SA.out.1 SB.out.1 cC hC); have HLN : Hid (L.length ≤ 4096) := (by have := SA.out.2; have := SB.out.2; have := HLL.out; unfold Hid; omega); have RC := Lib.hid (oC.rd (by have := HLN.out; omega)); have CC := Lib.hid cC; clear bC oC cC hC lC)
          | (go_at_call 145; refine (limited_any M _ L _ RC.out ⟨CC.out, Bnd_ins CC.out HLM.out.2 HT.out.2, HLN.out⟩ HT.out.1 HT.out.2 HLM.out.2).mono ?_; rintro e' wD ⟨vD, rfl, oD, bD⟩; obtain ⟨pD, nD, rfl, _⟩ := oD.form; have hfD : Below w4.heap.size w4 wD := keepBelow hfC bD; obtain ⟨⟨z0, z1⟩, f0, f1⟩ := HBX.out.below hfD; have OD := Lib.hid oD; have SC := Lib.hid hfC.size; clear bD oD))
        all_goals go_wp2
        all_goals
          change bodyPost _ _ _ _ _ (put2 wD (w.heap.size + 1 + 1) (.int .i64 (limM M L).1.1) (.slice pD (limM M L).1.2.length nD))
          obtain ⟨r0, r1⟩ := (HBX.out.below hfD).put (.int .i64 (limM M L).1.1) (.slice pD (limM M L).1.2.length nD)
          have hBZ := put2_below (.int .i64 (limM M L).1.1) (.slice pD (limM M L).1.2.length nD) (keepBelow hB4 hfD) (b := w.heap.size + 1 + 1) (by omega)
          have hOZ := put2_own (.int .i64 (limM M L).1.1) (.slice pD (limM M L).1.2.length nD) OD.out (b := w.heap.size + 1 + 1) (by have := SC.out; have := HSZ.out; omega)
          generalize put2 wD (w.heap.size + 1 + 1) (.int .i64 (limM M L).1.1) (.slice pD (limM M L).1.2.length nD) = Z at *
          refine bodyPost_ret (v := .tuple #[.agg #[.int .i64 (limM M L).1.1, .slice pD (limM M L).1.2.length nD], .int .i64 (limM M L).2]) (by simp [results, Tryz.results134, go_sem, r0, r1]) rfl ?_
          show PrPost _ w _ _
          rw [HLM.out.1]
          exact ⟨_, rfl, hOZ.mono (by have := SC.out; have := HSZ.out; omega), hBZ⟩
  · have e0 : imulM M = (0, 9) := by unfold imulM; rw [if_neg hbig]
    rw [e0] at HL
    simp only at HL
    rw [if_pos (by omega)] at HPR
    have HM := Lib.hid (bothM_err (kind := kind) HG1.out HG2.out (e := 9) (by rw [HPR.out]) (by decide))
    clear e0
    go_enter Tryz.func134, Tryz.ntmps134
    go_wp2_with fail
    rw [HE.out]
    go_wp2_with fail
    refine (HV1.out _ HR1.out).mono ?_
    rintro e w1 ⟨rfl, hb1⟩
    have hBn := keepBelow hW hb1
    have HRn := Lib.hid (keepRd hb1 HR2.out)
    have j0 := keepCell hb1 c0
    have j2 := keepCell hb1 c2
    have j3 := keepCell hb1 c3
    have hBX1 := hBX.below hb1
    clear hb1 hBX c0 c1 c2 c3
    go_wp2_with fail
    refine (HV2.out _ HRn.out).mono ?_
    rintro e w2 ⟨rfl, hb2⟩
    have hBm := keepBelow hBn hb2
    have i0 := keepCell hb2 j0
    have i2 := keepCell hb2 j2
    have hBX2 := hBX1.below hb2
    clear hb2 hBX1 j0 j2 j3
    go_wp2_with fail
    refine (HL.out _).mono ?_
    rintro e w3 ⟨rfl, hb3⟩
    have hB3 := keepBelow hBm hb3
    obtain ⟨⟨e0, e1⟩, f0, f1⟩ := hBX2.below hb3
    have HB := Lib.hid (hBX2.below hb3)
    clear hb3 hBX2 i0 i2
    go_wp2
    change bodyPost _ _ _ _ _ (put2 w3 (w.heap.size + 1 + 1) (.int .i64 0) (.slice none 0 0))
    obtain ⟨r0, r1⟩ := HB.out.put (.int .i64 0) (.slice none 0 0)
    have hBZ := put2_below (.int .i64 0) (.slice none 0 0) hB3 (b := w.heap.size + 1 + 1) (by omega)
    generalize put2 w3 (w.heap.size + 1 + 1) (.int .i64 0) (.slice none 0 0) = Z at *
    refine bodyPost_ret (v := .tuple #[.agg #[.int .i64 0, .slice none 0 0], .int .i64 9]) (by simp [results, Tryz.results134, go_sem, r0, r1]) rfl ?_
    show PrPost _ w _ _
    rw [HM.out]
    exact ⟨_, rfl, OwnS.nil _ _, hBZ⟩
end Go.Proofs.YtnjpceocnldlfaaGreat
