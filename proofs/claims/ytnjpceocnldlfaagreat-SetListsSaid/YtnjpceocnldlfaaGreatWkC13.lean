import Derived.Test.YtnjpceocnldlfaaGreatWkBth
import Derived.Test.YtnjpceocnldlfaaGreatWkRfB
/- The reference's Combine of periodic sets. -/
namespace Go.Proofs.YtnjpceocnldlfaaGreat
open Go.RowKit Wk

def lm13 (P : Int) (L : List Sp) : Per × Int := if 2000 < L.length then ((0, []), 5) else ((P, L), 0)
set_option maxHeartbeats 1000000 in
theorem lim13_any (P : Int) (v : Value) (L : List Sp) (B : Nat) (w : World) (h : OwnS w B v L) (hB : B ≤ w.heap.size) (hl : L.length ≤ 100000) :
    Calls Tryz.prog 85 #[.agg #[.int .i64 P, v]] w fun e w' => (∃ v', e = .returned (.tuple #[.agg #[.int .i64 (lm13 P L).1.1, v'], .int .i64 (lm13 P L).2]) ∧ OwnS w' B v' (lm13 P L).1.2) ∧ Below w.heap.size w w' := by
  have HO := Lib.hid h
  obtain ⟨a, c, rfl, _⟩ := h.form
  have hb1 := (Below.refl w.heap.size w).alloc (Nat.le_refl _) (.cells #[.int .i64 P, .slice a L.length c] 24)
  have hs1 : w.heap.size ≤ (w.alloc (.cells #[.int .i64 P, .slice a L.length c] 24)).heap.size := hb1.size
  have hb2 := hb1.alloc hs1 (.cells #[.int .i64 0, .slice none 0 0] 24)
  have hb3 := hb1.alloc hs1 (.cells #[.int .i64 P, .slice a L.length c] 24)
  obtain ⟨⟨z0, z1⟩, _⟩ := box2_new (w.alloc (.cells #[.int .i64 P, .slice a L.length c] 24)) (.int .i64 0) (.slice none 0 0) 24
  obtain ⟨⟨y0, y1⟩, _⟩ := box2_new (w.alloc (.cells #[.int .i64 P, .slice a L.length c] 24)) (.int .i64 P) (.slice a L.length c) 24
  have hsz : (w.alloc (.cells #[.int .i64 P, .slice a L.length c] 24)).heap.size = w.heap.size + 1 := by simp
  rw [hsz] at z0 z1 y0 y1
  clear h
  by_cases h5 : 2000 < L.length
  · have HM : Hid (lm13 P L = ((0, []), 5)) := by unfold Hid lm13; rw [if_pos h5]
    go_enter Tryz.func85, Tryz.ntmps85
    go_wp2
    generalize (w.alloc (.cells #[.int .i64 P, .slice a L.length c] 24)).alloc (.cells #[.int .i64 0, .slice none 0 0] 24) = Z at *
    refine bodyPost_ret (v := .tuple #[.agg #[.int .i64 0, .slice none 0 0], .int .i64 5]) (by simp [results, Tryz.results85, go_sem, z0, z1]) rfl ?_
    rw [HM.out]
    exact ⟨⟨_, rfl, OwnS.nil _ _⟩, hb2⟩
  · have HM : Hid (lm13 P L = ((P, L), 0)) := by unfold Hid lm13; rw [if_neg h5]
    go_enter Tryz.func85, Tryz.ntmps85
    go_wp2
    generalize (w.alloc (.cells #[.int .i64 P, .slice a L.length c] 24)).alloc (.cells #[.int .i64 P, .slice a L.length c] 24) = Z at *
    refine bodyPost_ret (v := .tuple #[.agg #[.int .i64 P, .slice a L.length c], .int .i64 0]) (by simp [results, Tryz.results85, go_sem, y0, y1]) rfl ?_
    rw [HM.out]
    exact ⟨⟨_, rfl, HO.out.below hb3⟩, hb3⟩

set_option maxRecDepth 100000 in
set_option maxHeartbeats 8000000 in
theorem comb13_any (kind : Int) (P Q : Int) (v k : Value) (l m : List Sp) (w : World) (h1 : RdS w v l) (h2 : RdS w k m) :
    Calls Tryz.prog 37 #[.agg #[.int .i64 P, v], .agg #[.int .i64 Q, k], .int .i64 kind] w (PrPost (bothM kind (P, l) (Q, m)) w) := by
  have HV1 := Lib.hid (fun W h => pv13_any P v l W h)
  have HV2 := Lib.hid (fun W h => pv13_any Q k m W h)
  have hr1 := h1
  have hr2 := h2
  obtain ⟨a1, d1, rfl⟩ := h1.form
  obtain ⟨a2, d2, rfl⟩ := h2.form
  obtain ⟨W, hWe⟩ : ∃ W, ((w.alloc (.cells #[.int .i64 P, .slice a1 l.length d1] 24)).alloc (.cells #[.int .i64 Q, .slice a2 m.length d2] 24)).alloc (.cells #[.int .i64 0, .slice none 0 0] 24) = W := ⟨_, rfl⟩
  have hW : Below w.heap.size w W := by rw [← hWe]; exact (((Below.refl _ _).alloc (Nat.le_refl _) _).alloc (by simp) _).alloc (by simp; omega) _
  have hWs : W.heap.size = w.heap.size + 1 + 1 + 1 := by rw [← hWe]; simp
  have c0 : W.cell? ⟨w.heap.size, 0, none⟩ = some (.int .i64 P) := by rw [← hWe]; simp [go_sem]
  have c1 : W.cell? ⟨w.heap.size, 1, none⟩ = some (.slice a1 l.length d1) := by rw [← hWe]; simp [go_sem]
  have c2 : W.cell? ⟨w.heap.size + 1, 0, none⟩ = some (.int .i64 Q) := by rw [← hWe]; simp [go_sem]
  have c3 : W.cell? ⟨w.heap.size + 1, 1, none⟩ = some (.slice a2 m.length d2) := by rw [← hWe]; simp [go_sem]
  have hBX : Box2 W (w.heap.size + 1 + 1) (.int .i64 0) (.slice none 0 0) := by
    rw [← hWe]
    refine ⟨⟨?_, ?_⟩, ?_, ?_⟩ <;> simp [go_sem]
  have HE := Lib.hid hWe
  have HR1 := Lib.hid (keepRd hW hr1)
  have HR2 := Lib.hid (keepRd hW hr2)
  have HWS := Lib.hid hWs
  clear hWe h1 h2 hr1 hr2 hWs
  cases g1 : pvB P l with
  | false =>
    have hM : bothM kind (P, l) (Q, m) = ((0, []), 1) := by unfold bothM; simp only [g1]; rw [if_pos (by simp)]
    have HM := Lib.hid hM
    rw [g1] at HV1
    clear g1 hM
    go_enter Tryz.func37, Tryz.ntmps37
    go_wp2_with fail
    rw [HE.out]
    go_wp2_with fail
    refine (HV1.out _ HR1.out).mono ?_
    rintro e w1 ⟨rfl, hb1⟩
    have hBn := keepBelow hW hb1
    obtain ⟨⟨e0, e1⟩, f0, f1⟩ := hBX.below hb1
    have HB := Lib.hid (hBX.below hb1)
    clear hb1 hBX c0 c1 c2 c3
    go_wp2
    change bodyPost _ _ _ _ _ (put2 w1 (w.heap.size + 1 + 1) (.int .i64 0) (.slice none 0 0))
    obtain ⟨r0, r1⟩ := HB.out.put (.int .i64 0) (.slice none 0 0)
    have hBZ := put2_below (.int .i64 0) (.slice none 0 0) hBn (b := w.heap.size + 1 + 1) (by omega)
    generalize put2 w1 (w.heap.size + 1 + 1) (.int .i64 0) (.slice none 0 0) = Z at *
    refine bodyPost_ret (v := .tuple #[.agg #[.int .i64 0, .slice none 0 0], .int .i64 1]) (by simp [results, Tryz.results37, go_sem, r0, r1]) rfl ?_
    show PrPost _ w _ _
    rw [HM.out]
    exact ⟨_, rfl, OwnS.nil _ _, hBZ⟩
  | true =>
  rw [g1] at HV1
  cases g2 : pvB Q m with
  | false =>
    have hM : bothM kind (P, l) (Q, m) = ((0, []), 1) := by unfold bothM; simp only [g2]; rw [if_pos (by simp)]
    have HM := Lib.hid hM
    rw [g2] at HV2
    clear g1 g2 hM
    go_enter Tryz.func37, Tryz.ntmps37
    go_wp2_with fail
    rw [HE.out]
    go_wp2_with fail
    refine (HV1.out _ HR1.out).mono ?_
    rintro e w1 ⟨rfl, hb1⟩
    have hBn := keepBelow hW hb1
    have HRn := Lib.hid (keepRd hb1 HR2.out)
    have j2 := keepCell hb1 c2
    have j3 := keepCell hb1 c3
    have hBX1 := hBX.below hb1
    clear hb1 hBX c0 c1 c2 c3
    go_wp2_with fail
    refine (HV2.out _ HRn.out).mono ?_
    rintro e w2 ⟨rfl, hb2⟩
    have hBm := keepBelow hBn hb2
    obtain ⟨⟨e0, e1⟩, f0, f1⟩ := hBX1.below hb2
    have HB := Lib.hid (hBX1.below hb2)
    clear hb2 hBX1 j2 j3
    go_wp2
    change bodyPost _ _ _ _ _ (put2 w2 (w.heap.size + 1 + 1) (.int .i64 0) (.slice none 0 0))
    obtain ⟨r0, r1⟩ := HB.out.put (.int .i64 0) (.slice none 0 0)
    have hBZ := put2_below (.int .i64 0) (.slice none 0 0) hBm (b := w.heap.size + 1 + 1) (by omega)
    generalize put2 w2 (w.heap.size + 1 + 1) (.int .i64 0) (.slice none 0 0) = Z at *
    refine bodyPost_ret (v := .tuple #[.agg #[.int .i64 0, .slice none 0 0], .int .i64 1]) (by simp [results, Tryz.results37, go_sem, r0, r1]) rfl ?_
    show PrPost _ w _ _
    rw [HM.out]
    exact ⟨_, rfl, OwnS.nil _ _, hBZ⟩
  | true =>
  rw [g2] at HV2
  obtain ⟨hrv1, hP1, hP2, _⟩ := rvB_of_pvB g1
  obtain ⟨hrv2, hQ1, hQ2, _⟩ := rvB_of_pvB g2
  have hl1 := (canon_of_rvB hrv1).2.2
  have hl2 := (canon_of_rvB hrv2).2.2
  have HG1 := Lib.hid g1
  have HG2 := Lib.hid g2
  have HL := Lib.hid (fun W h h' => pair13_any P Q (.slice a1 l.length d1) (.slice a2 m.length d2) l m W h h' hP1 hP2 hQ1 hQ2 hl1 hl2)
  obtain ⟨⟨M, e0⟩, hpr⟩ : ∃ r, pairR P l.length Q m.length = r := ⟨_, rfl⟩
  rw [hpr] at HL
  have HPR := Lib.hid hpr
  simp only at HL
  clear hpr
  go_enter Tryz.func37, Tryz.ntmps37
  go_wp2_with fail
  rw [HE.out]
  go_wp2_with fail
  refine (HV1.out _ HR1.out).mono ?_
  rintro e w1 ⟨rfl, hb1⟩
  have hBn := keepBelow hW hb1
  have HRm := Lib.hid (keepRd hb1 HR1.out)
  have HRn := Lib.hid (keepRd hb1 HR2.out)
  have j0 := keepCell hb1 c0
  have j1 := keepCell hb1 c1
  have j2 := keepCell hb1 c2
  have j3 := keepCell hb1 c3
  have hBX1 := hBX.below hb1
  clear hb1 hBX c0 c1 c2 c3
  go_wp2_with fail
  refine (HV2.out _ HRn.out).mono ?_
  rintro e w2 ⟨rfl, hb2⟩
  have hBm := keepBelow hBn hb2
  have HRp := Lib.hid (keepRd hb2 HRm.out)
  have HRq := Lib.hid (keepRd hb2 HRn.out)
  have i0 := keepCell hb2 j0
  have i1 := keepCell hb2 j1
  have i2 := keepCell hb2 j2
  have i3 := keepCell hb2 j3
  have hBX2 := hBX1.below hb2
  clear hb2 hBX1 j0 j1 j2 j3
  go_wp2_with fail
  refine (HL.out _ HRp.out HRq.out).mono ?_
  rintro e w4 ⟨rfl, hb4⟩
  have hB4 := keepBelow hBm hb4
  have HRt := Lib.hid (keepRd hb4 HRp.out)
  have HRu := Lib.hid (keepRd hb4 HRq.out)
  have c0 := keepCell hb4 i0
  have c1 := keepCell hb4 i1
  have c2 := keepCell hb4 i2
  have c3 := keepCell hb4 i3
  have HBX := Lib.hid (hBX2.below hb4)
  clear hb4 hBX2 i0 i1 i2 i3
  by_cases he : e0 ≠ 0
  · have HM := Lib.hid (bothM_err (kind := kind) HG1.out HG2.out (e := e0) (by rw [HPR.out]) he)
    have t1 : (e0 != 0) = true := by simpa using he
    obtain ⟨⟨k0, k1⟩, f0, f1⟩ := HBX.out
    clear he
    go_wp2
    change bodyPost _ _ _ _ _ (put2 w4 (w.heap.size + 1 + 1) (.int .i64 0) (.slice none 0 0))
    obtain ⟨r0, r1⟩ := HBX.out.put (.int .i64 0) (.slice none 0 0)
    have hBZ := put2_below (.int .i64 0) (.slice none 0 0) hB4 (b := w.heap.size + 1 + 1) (by omega)
    generalize put2 w4 (w.heap.size + 1 + 1) (.int .i64 0) (.slice none 0 0) = Z at *
    refine bodyPost_ret (v := .tuple #[.agg #[.int .i64 0, .slice none 0 0], .int .i64 e0]) (by simp [results, Tryz.results37, go_sem, r0, r1]) rfl ?_
    show PrPost _ w _ _
    rw [HM.out]
    exact ⟨_, rfl, OwnS.nil _ _, hBZ⟩
  have he : e0 = 0 := by omega
  subst he
  have hplc := pair_lcm (P := P) (Q := Q) (la := l.length) (lb := m.length) hP1 hQ1 (by rw [HPR.out])
  rw [HPR.out] at hplc
  obtain ⟨hMe, b3, hM2, hsum⟩ := hplc
  simp only at hMe
  obtain ⟨cP, hcP⟩ := mulM_left (P := P) (Q := Q)
  obtain ⟨cQ, hcQ⟩ := mulM_right (P := P) (Q := Q)
  rw [← hMe] at b3 hM2 hsum hcP hcQ
  have hcP0 : 0 ≤ cP := by
    rcases Int.lt_or_le cP 0 with h | h
    · have : cP * P ≤ 0 := Int.mul_nonpos_of_nonpos_of_nonneg (by omega) (by omega)
      omega
    · exact h
  have hcQ0 : 0 ≤ cQ := by
    rcases Int.lt_or_le cQ 0 with h | h
    · have : cQ * Q ≤ 0 := Int.mul_nonpos_of_nonpos_of_nonneg (by omega) (by omega)
      omega
    · exact h
  have hdP : M / P = cP := by rw [hcP]; exact Int.mul_ediv_cancel _ (by omega)
  have hdQ : M / Q = cQ := by rw [hcQ]; exact Int.mul_ediv_cancel _ (by omega)
  have HLL : Hid (cP.toNat * l.length + cQ.toNat * m.length ≤ 2000) := by
    unfold Hid
    rw [hdP, hdQ] at hsum
    have a1 : ((cP.toNat * l.length : Nat) : Int) = cP * l.length := by rw [Int.natCast_mul, Int.toNat_of_nonneg hcP0]
    have a2 : ((cQ.toNat * m.length : Nat) : Int) = cQ * m.length := by rw [Int.natCast_mul, Int.toNat_of_nonneg hcQ0]
    omega
  have HCP : Hid (M = (cP.toNat : Int) * P ∧ M = (cQ.toNat : Int) * Q) := by
    unfold Hid
    rw [Int.toNat_of_nonneg hcP0, Int.toNat_of_nonneg hcQ0]
    exact ⟨hcP, hcQ⟩
  clear hMe hsum hcP hcQ hcP0 hcQ0 hdP hdQ
  have HS1 : Hid (∀ X, RdS X (.slice a1 l.length d1) l → Calls Tryz.prog 86 #[.agg #[.int .i64 P, .slice a1 l.length d1], .int .i64 M] X (SpPost P l M X)) :=
    fun X h => spread_any P M cP.toNat _ l X h (goodP_of_pvB HG1.out) hP2 HCP.out.1 b3 hM2 (by have := HLL.out; omega)
  have HS2 : Hid (∀ X, RdS X (.slice a2 m.length d2) m → Calls Tryz.prog 86 #[.agg #[.int .i64 Q, .slice a2 m.length d2], .int .i64 M] X (SpPost Q m M X)) :=
    fun X h => spread_any Q M cQ.toNat _ m X h (goodP_of_pvB HG2.out) hQ2 HCP.out.2 b3 hM2 (by have := HLL.out; omega)
  have HSZ : Hid (w.heap.size + 1 + 1 < w4.heap.size) := World.block_lt_of_cell? w4 ⟨w.heap.size + 1 + 1, 0, none⟩ HBX.out.1.1
  have hd : Below w4.heap.size w4 w4.drew := (Below.refl _ w4).drew
  have HC : Hid (∀ X, Below w4.heap.size w4 X → X.cell? ⟨w.heap.size, 0, none⟩ = some (.int .i64 P) ∧ X.cell? ⟨w.heap.size, 1, none⟩ = some (.slice a1 l.length d1) ∧ X.cell? ⟨w.heap.size + 1, 0, none⟩ = some (.int .i64 Q) ∧ X.cell? ⟨w.heap.size + 1, 1, none⟩ = some (.slice a2 m.length d2)) := fun X hX => ⟨keepCell hX c0, keepCell hX c1, keepCell hX c2, keepCell hX c3⟩
  obtain ⟨n0, n1, n2, n3⟩ := HC.out _ hd
  have RD1 := keepRd hd HRt.out
  have RD2 := keepRd hd HRu.out
  have HT := Lib.hid (And.intro b3 hM2)
  have hP1' := Lib.hid hP1
  go_wp2_with fail
  go_region_with (first
    | (go_at_call_of 86 (Value.agg #[Value.int IntKind.i64 P, Value.slice a1 l.length d1]); refine (HS1.out _ (by (first | with_reducible exact RD1 | with_reducible exact keepRd hfB HRt.out))).mono ?_; rintro e' wA ⟨vA, XA, rfl, rA, sA, lA, bA⟩; have hfA : Below w4.heap.size w4 wA := keepBelow (by (first | with_reducible exact hd | with_reducible exact hfB)) bA; have RA := Lib.hid rA; have SA := Lib.hid (And.intro sA lA); (first | (have RB2 := Lib.hid (keepRd bA RB.out)) | skip); obtain ⟨cA0, cA1, cA2, cA3⟩ := HC.out _ hfA; clear bA rA sA lA)
    | (go_at_call_of 86 (Value.agg #[Value.int IntKind.i64 Q, Value.slice a2 m.length d2]); refine (HS2.out _ (by (first | with_reducible exact RD2 | with_reducible exact keepRd hfA HRu.out))).mono ?_; rintro e' wB ⟨vB, XB, rfl, rB, sB, lB, bB⟩; have hfB : Below w4.heap.size w4 wB := keepBelow (by (first | with_reducible exact hd | with_reducible exact hfA)) bB; have RB := Lib.hid rB; have SB := Lib.hid (And.intro sB lB); (first | (have RA2 := Lib.hid (keepRd bB RA.out)) | skip); obtain ⟨cB0, cB1, cB2, cB3⟩ := HC.out _ hfB; clear bB rB sB lB)
    | (go_at_call 74; refine (lists_any _ _ _ _ _ _ (by (first | with_reducible exact RA2.out | with_reducible exact RA.out)) (by (first | with_reducible exact RB2.out | with_reducible exact RB.out)) (by have := SA.out.2; omega) (by have := SB.out.2; omega) SA.out.1.1 SB.out.1.1).mono ?_; rintro e' wC ⟨vC, L, rfl, oC, cC, hC, lC, bC⟩; have hfC : Below w4.heap.size w4 wC := keepBelow (by (first | with_reducible exact hfB | with_reducible exact hfA)) bC; have HLM := Lib.hid (bothM_lim (kind := kind) HG1.out HG2.out HPR.out HT.out.1 SA.out.1 SB.out.1 cC hC); have HLN : Hid (L.length ≤ 8000) := (by have := SA.out.2; have := SB.out.2; unfold Hid; omega); have RC := Lib.hid (oC.rd (by have := HLN.out; omega)); have CC := Lib.hid cC; clear bC oC cC hC lC)
    | (go_at_call 80; refine (rleast_any _ L M _ RC.out ⟨HT.out.1, CC.out, HLM.out.2⟩ (by have := HLN.out; omega) HT.out.2).mono ?_; rintro e' wL ⟨vL, rfl, oL, bL⟩; have hfL : Below w4.heap.size w4 wL := keepBelow hfC bL; have hcl : (cutM L (leastM L M)).length ≤ L.length := (by have := cutT_len L (leastM L M) L.length; rwa [cutT_full L (leastM L M) L.length (Nat.le_refl _)] at this); have HCLn := Lib.hid hcl; have OL := Lib.hid oL; have SL := Lib.hid bL.size; have SC := Lib.hid hfC.size; clear bL oL hcl)
    | (go_at_call 85; refine (lim13_any _ _ (cutM L (leastM L M)) wC.heap.size _ OL.out SL.out (by have := HLN.out; have := HCLn.out; omega)).mono ?_; rintro e' wD ⟨⟨vD, rfl, oD⟩, bD⟩; obtain ⟨pD, nD, rfl, _⟩ := oD.form; have hfD : Below w4.heap.size w4 wD := keepBelow hfL bD; obtain ⟨⟨z0, z1⟩, f0, f1⟩ := HBX.out.below hfD; have OD := Lib.hid oD; clear bD oD))
  all_goals go_wp2
  all_goals
    have HLQ : Hid (lm13 (leastM L M) (cutM L (leastM L M)) = limM M L) := rfl
    change bodyPost _ _ _ _ _ (put2 wD (w.heap.size + 1 + 1) (.int .i64 (lm13 (leastM L M) (cutM L (leastM L M))).1.1) (.slice pD (lm13 (leastM L M) (cutM L (leastM L M))).1.2.length nD))
    rw [HLQ.out] at OD ⊢
    obtain ⟨r0, r1⟩ := (HBX.out.below hfD).put (.int .i64 (limM M L).1.1) (.slice pD (limM M L).1.2.length nD)
    have hBZ := put2_below (.int .i64 (limM M L).1.1) (.slice pD (limM M L).1.2.length nD) (keepBelow hB4 hfD) (b := w.heap.size + 1 + 1) (by omega)
    have hOZ := put2_own (.int .i64 (limM M L).1.1) (.slice pD (limM M L).1.2.length nD) OD.out (b := w.heap.size + 1 + 1) (by have := SC.out; have := HSZ.out; omega)
    generalize put2 wD (w.heap.size + 1 + 1) (.int .i64 (limM M L).1.1) (.slice pD (limM M L).1.2.length nD) = Z at *
    refine bodyPost_ret (v := .tuple #[.agg #[.int .i64 (limM M L).1.1, .slice pD (limM M L).1.2.length nD], .int .i64 (limM M L).2]) (by simp [results, Tryz.results37, go_sem, r0, r1]) rfl ?_
    show PrPost _ w _ _
    rw [HLM.out.1]
    exact ⟨_, rfl, hOZ.mono (by have := SC.out; have := HSZ.out; omega), hBZ⟩
end Go.Proofs.YtnjpceocnldlfaaGreat
