import Derived.Test.YtnjpceocnldlfaaGreatWkC13
import Derived.Test.YtnjpceocnldlfaaGreatWkPu
import Derived.Test.YtnjpceocnldlfaaGreatWkRof
import Derived.Test.YtnjpceocnldlfaaGreatWkBf
/- The reference's Not and Move of periodic sets. -/
namespace Go.Proofs.YtnjpceocnldlfaaGreat
open Go.RowKit Wk

set_option maxRecDepth 100000 in
set_option maxHeartbeats 4000000 in
theorem not13_any (P : Int) (v : Value) (l : List Sp) (w : World) (h1 : RdS w v l) :
    Calls Tryz.prog 105 #[.agg #[.int .i64 P, v]] w (PrPost (perNot (P, l)) w) := by
  have HV1 := Lib.hid (fun W h => pv13_any P v l W h)
  have hr1 := h1
  obtain ⟨a1, d1, rfl⟩ := h1.form
  obtain ⟨W, hWe⟩ : ∃ W, (w.alloc (.cells #[.int .i64 P, .slice a1 l.length d1] 24)).alloc (.cells #[.int .i64 0, .slice none 0 0] 24) = W := ⟨_, rfl⟩
  have hW : Below w.heap.size w W := by rw [← hWe]; exact ((Below.refl _ _).alloc (Nat.le_refl _) _).alloc (by simp) _
  have hWs : W.heap.size = w.heap.size + 1 + 1 := by rw [← hWe]; simp
  have c0 : W.cell? ⟨w.heap.size, 0, none⟩ = some (.int .i64 P) := by rw [← hWe]; simp [go_sem]
  have c1 : W.cell? ⟨w.heap.size, 1, none⟩ = some (.slice a1 l.length d1) := by rw [← hWe]; simp [go_sem]
  have hBX : Box2 W (w.heap.size + 1) (.int .i64 0) (.slice none 0 0) := by
    rw [← hWe]
    refine ⟨⟨?_, ?_⟩, ?_, ?_⟩ <;> simp [go_sem]
  have HE := Lib.hid hWe
  have HR1 := Lib.hid (keepRd hW hr1)
  have HWS := Lib.hid hWs
  clear hWe h1 hr1 hWs
  cases g1 : pvB P l with
  | false =>
    have hM : perNot (P, l) = ((0, []), 1) := by unfold perNot; simp only [g1]; rw [if_pos (by simp)]
    have HM := Lib.hid hM
    rw [g1] at HV1
    clear g1 hM
    go_enter Tryz.func105, Tryz.ntmps105
    go_wp2_with fail
    rw [HE.out]
    go_wp2_with fail
    refine (HV1.out _ HR1.out).mono ?_
    rintro e w1 ⟨rfl, hb1⟩
    have hBn := keepBelow hW hb1
    obtain ⟨⟨e0, e1⟩, f0, f1⟩ := hBX.below hb1
    have HB := Lib.hid (hBX.below hb1)
    clear hb1 hBX c0 c1
    go_wp2
    change bodyPost _ _ _ _ _ (put2 w1 (w.heap.size + 1) (.int .i64 0) (.slice none 0 0))
    obtain ⟨r0, r1⟩ := HB.out.put (.int .i64 0) (.slice none 0 0)
    have hBZ := put2_below (.int .i64 0) (.slice none 0 0) hBn (b := w.heap.size + 1) (by omega)
    generalize put2 w1 (w.heap.size + 1) (.int .i64 0) (.slice none 0 0) = Z at *
    refine bodyPost_ret (v := .tuple #[.agg #[.int .i64 0, .slice none 0 0], .int .i64 1]) (by simp [results, Tryz.results105, go_sem, r0, r1]) rfl ?_
    show PrPost _ w _ _
    rw [HM.out]
    exact ⟨_, rfl, OwnS.nil _ _, hBZ⟩
  | true =>
  rw [g1] at HV1
  obtain ⟨hrv1, hP1, hP2, _⟩ := rvB_of_pvB g1
  have hl1 := (canon_of_rvB hrv1).2.2
  have HG1 := Lib.hid g1
  have HCN : Hid (Canon l ∧ Bnd l ∧ Canon [(0, P)] ∧ Bnd [(0, P)]) := by
    refine ⟨(canon_of_rvB hrv1).1, (canon_of_rvB hrv1).2.1, by simp [Canon]; omega, fun s hs => ?_⟩
    simp only [List.mem_singleton] at hs
    subst hs
    simp only
    omega
  clear g1 hrv1
  go_enter Tryz.func105, Tryz.ntmps105
  go_wp2_with fail
  rw [HE.out]
  go_wp2_with fail
  refine (HV1.out _ HR1.out).mono ?_
  rintro e w1 ⟨rfl, hb1⟩
  have hBn := keepBelow hW hb1
  have HRn := Lib.hid (keepRd hb1 HR1.out)
  have j0 := keepCell hb1 c0
  have j1 := keepCell hb1 c1
  have HBX := Lib.hid (hBX.below hb1)
  clear hb1 hBX c0 c1
  go_wp2_with fail
  have hdw := (Below.refl w1.heap.size w1).alloc (Nat.le_refl _) (.cells #[.int .i64 0, .int .i64 P] 40)
  have k0 := keepCell hdw j0
  have k1 := keepCell hdw j1
  have hdd := (Below.refl (w1.alloc (.cells #[.int .i64 0, .int .i64 P] 40)).heap.size (w1.alloc (.cells #[.int .i64 0, .int .i64 P] 40))).drew
  have RN := Lib.hid (keepRd hdw.drew HRn.out)
  have ON := Lib.hid (keepRd hdd ((own_one w1 (B := 0) (Nat.zero_le _) 0 P).rd (by simp)))
  have HSZ : Hid (w.heap.size + 1 < w1.heap.size) := World.block_lt_of_cell? w1 ⟨w.heap.size + 1, 0, none⟩ HBX.out.1.1
  have HC : Hid (∀ X, Below w1.heap.size w1 X → X.cell? ⟨w.heap.size, 0, none⟩ = some (.int .i64 P) ∧ X.cell? ⟨w.heap.size, 1, none⟩ = some (.slice a1 l.length d1)) := fun X hX => ⟨keepCell hX j0, keepCell hX j1⟩
  have hdr := hdw.drew
  go_region_with (first
    | (go_at_call 74; refine (lists_any _ _ _ _ _ _ ON.out RN.out (by simp) (by omega) HCN.out.2.2.1 HCN.out.1).mono ?_; rintro e' wC ⟨vC, L, rfl, oC, cC, hC, lC, bC⟩; have hfC : Below w1.heap.size w1 wC := keepBelow hdr bC; have HLM := Lib.hid (perNot_lim HG1.out cC hC); have HLN : Hid (L.length ≤ 8000) := (by unfold Hid; simp at lC; omega); have RC := Lib.hid (oC.rd (by have := HLN.out; omega)); have CC := Lib.hid cC; obtain ⟨cC0, cC1⟩ := HC.out _ hfC; clear bC oC cC hC lC)
    | (go_at_call 80; refine (rleast_any _ L P _ RC.out ⟨hP1, CC.out, HLM.out.2⟩ (by have := HLN.out; omega) hP2).mono ?_; rintro e' wL ⟨vL, rfl, oL, bL⟩; have hfL : Below w1.heap.size w1 wL := keepBelow hfC bL; have hcl : (cutM L (leastM L P)).length ≤ L.length := (by have := cutT_len L (leastM L P) L.length; rwa [cutT_full L (leastM L P) L.length (Nat.le_refl _)] at this); have HCLn := Lib.hid hcl; have OL := Lib.hid oL; have SL := Lib.hid bL.size; have SC := Lib.hid hfC.size; clear bL oL hcl)
    | (go_at_call 85; refine (lim13_any _ _ (cutM L (leastM L P)) wC.heap.size _ OL.out SL.out (by have := HLN.out; have := HCLn.out; omega)).mono ?_; rintro e' wD ⟨⟨vD, rfl, oD⟩, bD⟩; obtain ⟨pD, nD, rfl, _⟩ := oD.form; have hfD : Below w1.heap.size w1 wD := keepBelow hfL bD; obtain ⟨⟨z0, z1⟩, f0, f1⟩ := HBX.out.below hfD; have OD := Lib.hid oD; clear bD oD))
  all_goals go_wp2
  all_goals
    have HLQ : Hid (lm13 (leastM L P) (cutM L (leastM L P)) = limM P L) := rfl
    change bodyPost _ _ _ _ _ (put2 wD (w.heap.size + 1) (.int .i64 (lm13 (leastM L P) (cutM L (leastM L P))).1.1) (.slice pD (lm13 (leastM L P) (cutM L (leastM L P))).1.2.length nD))
    rw [HLQ.out] at OD ⊢
    obtain ⟨r0, r1⟩ := (HBX.out.below hfD).put (.int .i64 (limM P L).1.1) (.slice pD (limM P L).1.2.length nD)
    have hBZ := put2_below (.int .i64 (limM P L).1.1) (.slice pD (limM P L).1.2.length nD) (keepBelow hBn hfD) (b := w.heap.size + 1) (by omega)
    have hOZ := put2_own (.int .i64 (limM P L).1.1) (.slice pD (limM P L).1.2.length nD) OD.out (b := w.heap.size + 1) (by have := SC.out; have := HSZ.out; omega)
    generalize put2 wD (w.heap.size + 1) (.int .i64 (limM P L).1.1) (.slice pD (limM P L).1.2.length nD) = Z at *
    refine bodyPost_ret (v := .tuple #[.agg #[.int .i64 (limM P L).1.1, .slice pD (limM P L).1.2.length nD], .int .i64 (limM P L).2]) (by simp [results, Tryz.results105, go_sem, r0, r1]) rfl ?_
    show PrPost _ w _ _
    rw [HLM.out.1]
    exact ⟨_, rfl, hOZ.mono (by have := SC.out; have := HSZ.out; omega), hBZ⟩
end Go.Proofs.YtnjpceocnldlfaaGreat
/- The reference's Move of a periodic set. -/
namespace Go.Proofs.YtnjpceocnldlfaaGreat
open Go.RowKit Wk

theorem zero2_new (W : World) : Zero7 (W.alloc (.cells #[.int .i64 0, .slice none 0 0] 24)) W.heap.size := by
  intro o x y h1 h2
  rcases (by omega : o = 0 ∨ o = 1 ∨ 2 ≤ o) with rfl | rfl | h
  · simp [go_sem] at h2
  · simp [go_sem] at h1
  · have e : (W.alloc (.cells #[.int .i64 0, .slice none 0 0] 24)).cell? ⟨W.heap.size, o, none⟩ = none := by
      simp [go_sem]
      exact h
    rw [e] at h1
    cases h1
theorem lim13_rd (P : Int) (v : Value) (L : List Sp) (w : World) (h : RdS w v L) :
    Calls Tryz.prog 85 #[.agg #[.int .i64 P, v]] w fun e w' => (∃ v', e = .returned (.tuple #[.agg #[.int .i64 (lm13 P L).1.1, v'], .int .i64 (lm13 P L).2]) ∧ RdS w' v' (lm13 P L).1.2) ∧ Below w.heap.size w w' := by
  have HO := Lib.hid h
  obtain ⟨a, c, rfl, hl, _⟩ := h
  have hb1 := (Below.refl w.heap.size w).alloc (Nat.le_refl _) (.cells #[.int .i64 P, .slice a L.length c] 24)
  have hs1 : w.heap.size ≤ (w.alloc (.cells #[.int .i64 P, .slice a L.length c] 24)).heap.size := hb1.size
  have hb2 := hb1.alloc hs1 (.cells #[.int .i64 0, .slice none 0 0] 24)
  have hb3 := hb1.alloc hs1 (.cells #[.int .i64 P, .slice a L.length c] 24)
  obtain ⟨⟨z0, z1⟩, _⟩ := box2_new (w.alloc (.cells #[.int .i64 P, .slice a L.length c] 24)) (.int .i64 0) (.slice none 0 0) 24
  obtain ⟨⟨y0, y1⟩, _⟩ := box2_new (w.alloc (.cells #[.int .i64 P, .slice a L.length c] 24)) (.int .i64 P) (.slice a L.length c) 24
  have hsz : (w.alloc (.cells #[.int .i64 P, .slice a L.length c] 24)).heap.size = w.heap.size + 1 := by simp
  rw [hsz] at z0 z1 y0 y1
  by_cases h5 : 2000 < L.length
  · have HM : Hid (lm13 P L = ((0, []), 5)) := by unfold Hid lm13; rw [if_pos h5]
    go_enter Tryz.func85, Tryz.ntmps85
    go_wp2
    generalize (w.alloc (.cells #[.int .i64 P, .slice a L.length c] 24)).alloc (.cells #[.int .i64 0, .slice none 0 0] 24) = Z at *
    refine bodyPost_ret (v := .tuple #[.agg #[.int .i64 0, .slice none 0 0], .int .i64 5]) (by simp [results, Tryz.results85, go_sem, z0, z1]) rfl ?_
    rw [HM.out]
    exact ⟨⟨_, rfl, rd_none _⟩, hb2⟩
  · have HM : Hid (lm13 P L = ((P, L), 0)) := by unfold Hid lm13; rw [if_neg h5]
    go_enter Tryz.func85, Tryz.ntmps85
    go_wp2
    generalize (w.alloc (.cells #[.int .i64 P, .slice a L.length c] 24)).alloc (.cells #[.int .i64 P, .slice a L.length c] 24) = Z at *
    refine bodyPost_ret (v := .tuple #[.agg #[.int .i64 P, .slice a L.length c], .int .i64 0]) (by simp [results, Tryz.results85, go_sem, y0, y1]) rfl ?_
    rw [HM.out]
    exact ⟨⟨_, rfl, keepRd hb3 HO.out⟩, hb3⟩

/-- a periodic set that can be read, and an error -/
def PqPost (r : Per × Int) (w : World) (e : Ending) (w' : World) : Prop := ∃ v', e = .returned (.tuple #[.agg #[.int .i64 r.1.1, v'], .int .i64 r.2]) ∧ RdS w' v' r.1.2 ∧ Below w.heap.size w w'

set_option maxRecDepth 100000 in
set_option maxHeartbeats 4000000 in
theorem move13_any (P k : Int) (v : Value) (l : List Sp) (w : World) (h1 : RdS w v l) :
    Calls Tryz.prog 109 #[.agg #[.int .i64 P, v], .int .i64 k] w (PqPost (perMove k (P, l)) w) := by
  have HV1 := Lib.hid (fun W h => pv13_any P v l W h)
  have hr1 := h1
  obtain ⟨a1, d1, rfl⟩ := h1.form
  obtain ⟨W, hWe⟩ : ∃ W, (w.alloc (.cells #[.int .i64 P, .slice a1 l.length d1] 24)).alloc (.cells #[.int .i64 0, .slice none 0 0] 24) = W := ⟨_, rfl⟩
  have hW : Below w.heap.size w W := by rw [← hWe]; exact ((Below.refl _ _).alloc (Nat.le_refl _) _).alloc (by simp) _
  have hWs : W.heap.size = w.heap.size + 1 + 1 := by rw [← hWe]; simp
  have c0 : W.cell? ⟨w.heap.size, 0, none⟩ = some (.int .i64 P) := by rw [← hWe]; simp [go_sem]
  have c1 : W.cell? ⟨w.heap.size, 1, none⟩ = some (.slice a1 l.length d1) := by rw [← hWe]; simp [go_sem]
  have hBX : Box2 W (w.heap.size + 1) (.int .i64 0) (.slice none 0 0) := by
    rw [← hWe]
    refine ⟨⟨?_, ?_⟩, ?_, ?_⟩ <;> simp [go_sem]
  have hZ7 : Zero7 W (w.heap.size + 1) := by
    have := zero2_new (w.alloc (.cells #[.int .i64 P, .slice a1 l.length d1] 24))
    rw [hWe] at this
    simpa using this
  have HZ7 := Lib.hid (And.intro hZ7 hWs)
  have HE := Lib.hid hWe
  have HR1 := Lib.hid (keepRd hW hr1)
  have HWS := Lib.hid hWs
  have hWs' := hWs
  clear hWe h1 hr1 hWs hZ7
  cases g1 : pvB P l with
  | false =>
    have hM : perMove k (P, l) = ((0, []), 1) := by unfold perMove; simp only [g1]; rw [if_pos (by simp)]
    have HM := Lib.hid hM
    rw [g1] at HV1
    clear g1 hM
    go_enter Tryz.func109, Tryz.ntmps109
    go_wp2_with fail
    rw [HE.out]
    go_wp2_with fail
    refine (HV1.out _ HR1.out).mono ?_
    rintro e w1 ⟨rfl, hb1⟩
    have hBn := keepBelow hW hb1
    obtain ⟨⟨e0, e1⟩, f0, f1⟩ := hBX.below hb1
    have HB := Lib.hid (hBX.below hb1)
    clear hb1 hBX c0 c1
    go_wp2
    change bodyPost _ _ _ _ _ (put2 w1 (w.heap.size + 1) (.int .i64 0) (.slice none 0 0))
    obtain ⟨r0, r1⟩ := HB.out.put (.int .i64 0) (.slice none 0 0)
    have hBZ := put2_below (.int .i64 0) (.slice none 0 0) hBn (b := w.heap.size + 1) (by omega)
    generalize put2 w1 (w.heap.size + 1) (.int .i64 0) (.slice none 0 0) = Z at *
    refine bodyPost_ret (v := .tuple #[.agg #[.int .i64 0, .slice none 0 0], .int .i64 1]) (by simp [results, Tryz.results109, go_sem, r0, r1]) rfl ?_
    show PqPost _ w _ _
    rw [HM.out]
    exact ⟨_, rfl, rd_none _, hBZ⟩
  | true =>
  rw [g1] at HV1
  obtain ⟨hrv1, hP1, hP2, _⟩ := rvB_of_pvB g1
  have hl1 := (canon_of_rvB hrv1).2.2
  have HG1 := Lib.hid g1
  clear hrv1
  by_cases hk : k < -4398046511104 ∨ 4398046511104 < k
  · have HM : Hid (perMove k (P, l) = ((0, []), 2)) := by unfold Hid perMove; simp only [g1]; rw [if_neg (by simp), if_pos hk]
    clear g1
    obtain ⟨t1, ht1⟩ : ∃ b, decide (k < -4398046511104) = b := ⟨_, rfl⟩
    cases t1 with
    | true =>
      clear hk
      go_enter Tryz.func109, Tryz.ntmps109
      go_wp2_with fail
      rw [HE.out]
      go_wp2_with fail
      refine (HV1.out _ HR1.out).mono ?_
      rintro e w1 ⟨rfl, hb1⟩
      have hBn := keepBelow hW hb1
      obtain ⟨⟨e0, e1⟩, f0, f1⟩ := hBX.below hb1
      have HB := Lib.hid (hBX.below hb1)
      clear hb1 hBX c0 c1
      go_wp2
      change bodyPost _ _ _ _ _ (put2 w1 (w.heap.size + 1) (.int .i64 0) (.slice none 0 0))
      obtain ⟨r0, r1⟩ := HB.out.put (.int .i64 0) (.slice none 0 0)
      have hBZ := put2_below (.int .i64 0) (.slice none 0 0) hBn (b := w.heap.size + 1) (by omega)
      generalize put2 w1 (w.heap.size + 1) (.int .i64 0) (.slice none 0 0) = Z at *
      refine bodyPost_ret (v := .tuple #[.agg #[.int .i64 0, .slice none 0 0], .int .i64 2]) (by simp [results, Tryz.results109, go_sem, r0, r1]) rfl ?_
      show PqPost _ w _ _
      rw [HM.out]
      exact ⟨_, rfl, rd_none _, hBZ⟩
    | false =>
      have ht2 : decide (4398046511104 < k) = true := by simp at ht1 ⊢; omega
      clear hk
      go_enter Tryz.func109, Tryz.ntmps109
      go_wp2_with fail
      rw [HE.out]
      go_wp2_with fail
      refine (HV1.out _ HR1.out).mono ?_
      rintro e w1 ⟨rfl, hb1⟩
      have hBn := keepBelow hW hb1
      obtain ⟨⟨e0, e1⟩, f0, f1⟩ := hBX.below hb1
      have HB := Lib.hid (hBX.below hb1)
      clear hb1 hBX c0 c1
      go_wp2
      change bodyPost _ _ _ _ _ (put2 w1 (w.heap.size + 1) (.int .i64 0) (.slice none 0 0))
      obtain ⟨r0, r1⟩ := HB.out.put (.int .i64 0) (.slice none 0 0)
      have hBZ := put2_below (.int .i64 0) (.slice none 0 0) hBn (b := w.heap.size + 1) (by omega)
      generalize put2 w1 (w.heap.size + 1) (.int .i64 0) (.slice none 0 0) = Z at *
      refine bodyPost_ret (v := .tuple #[.agg #[.int .i64 0, .slice none 0 0], .int .i64 2]) (by simp [results, Tryz.results109, go_sem, r0, r1]) rfl ?_
      show PqPost _ w _ _
      rw [HM.out]
      exact ⟨_, rfl, rd_none _, hBZ⟩
  · have ht1 : decide (k < -4398046511104) = false := by simp; omega
    have ht2 : decide (4398046511104 < k) = false := by simp; omega
    have hk1 : -4398046511104 ≤ k := by omega
    have hk2 : k ≤ 4398046511104 := by omega
    have HRO := Lib.hid (fun W h => rot_any (.slice a1 l.length d1) l P k W h (goodP_of_pvB HG1.out) (by omega) (by omega) (by omega) (by omega))
    clear g1 hk
    go_enter Tryz.func109, Tryz.ntmps109
    go_wp2_with fail
    rw [HE.out]
    go_wp2_with fail
    refine (HV1.out _ HR1.out).mono ?_
    rintro e w1 ⟨rfl, hb1⟩
    have hBn := keepBelow hW hb1
    have HRn := Lib.hid (keepRd hb1 HR1.out)
    have j0 := keepCell hb1 c0
    have j1 := keepCell hb1 c1
    have HBX := Lib.hid (hBX.below hb1)
    have HZ1 := Lib.hid (HZ7.out.1.below (by have := HWS.out; omega) hb1)
    have HSZ : Hid (w.heap.size + 1 < w1.heap.size) := World.block_lt_of_cell? w1 ⟨w.heap.size + 1, 0, none⟩ HBX.out.1.1
    have HC : Hid (∀ X, Below w1.heap.size w1 X → X.cell? ⟨w.heap.size, 0, none⟩ = some (.int .i64 P) ∧ X.cell? ⟨w.heap.size, 1, none⟩ = some (.slice a1 l.length d1)) := fun X hX => ⟨keepCell hX j0, keepCell hX j1⟩
    have hdr := (Below.refl w1.heap.size w1).drew
    have RN := Lib.hid (keepRd hdr HRn.out)
    obtain ⟨n0, n1⟩ := HC.out _ hdr
    clear hb1 hBX c0 c1
    go_wp2_with fail
    go_region_with (first
      | (go_at_call 132; refine (HRO.out _ RN.out).mono ?_; rintro e' wC ⟨vC, L, rfl, rC, hR, lC, bC⟩; obtain ⟨pC, nC, rfl⟩ := rC.form; have hfC : Below w1.heap.size w1 wC := keepBelow hdr bC; have HLM := Lib.hid (rot_move HG1.out hk1 hk2 hR); have RC := Lib.hid rC; have CC := Lib.hid hR; obtain ⟨cC0, cC1⟩ := HC.out _ hfC; clear bC rC hR lC)
      | (go_at_call 85; refine (lim13_rd P _ L _ RC.out).mono ?_; rintro e' wD ⟨⟨vD, rfl, rD⟩, bD⟩; obtain ⟨pD, nD, rfl⟩ := rD.form; have hfD : Below w1.heap.size w1 wD := keepBelow hfC bD; obtain ⟨⟨z0, z1⟩, f0, f1⟩ := HBX.out.below hfD; have RD := Lib.hid rD; clear bD rD))
    all_goals go_wp2
    all_goals
      have HLQ : Hid (lm13 P L = perMove k (P, l)) := HLM.out.1.symm
      have HPS : Hid (∀ s ∈ (lm13 P L).1.2, s.1 < s.2) := by
        unfold Hid lm13
        split
        · intro s hs; simp at hs
        · exact canon_pos CC.out.1
      change bodyPost _ _ _ _ _ (put2 wD (w.heap.size + 1) (.int .i64 (lm13 P L).1.1) (.slice pD (lm13 P L).1.2.length nD))
      obtain ⟨r0, r1⟩ := (HBX.out.below hfD).put (.int .i64 (lm13 P L).1.1) (.slice pD (lm13 P L).1.2.length nD)
      have hBZ := put2_below (.int .i64 (lm13 P L).1.1) (.slice pD (lm13 P L).1.2.length nD) (keepBelow hBn hfD) (b := w.heap.size + 1) (by omega)
      have hRX : RdX wD (w.heap.size + 1) (.slice pD (lm13 P L).1.2.length nD) (lm13 P L).1.2 := RdX.zero RD.out HPS.out (HZ1.out.below HSZ.out hfD)
      have hOZ : RdS (put2 wD (w.heap.size + 1) (.int .i64 (lm13 P L).1.1) (.slice pD (lm13 P L).1.2.length nD)) (.slice pD (lm13 P L).1.2.length nD) (lm13 P L).1.2 := ((hRX.setCell _).setCell _).rd
      generalize put2 wD (w.heap.size + 1) (.int .i64 (lm13 P L).1.1) (.slice pD (lm13 P L).1.2.length nD) = Z at *
      refine bodyPost_ret (v := .tuple #[.agg #[.int .i64 (lm13 P L).1.1, .slice pD (lm13 P L).1.2.length nD], .int .i64 (lm13 P L).2]) (by simp [results, Tryz.results109, go_sem, r0, r1]) rfl ?_
      show PqPost _ w _ _
      rw [← HLQ.out]
      exact ⟨_, rfl, hOZ, hBZ⟩
end Go.Proofs.YtnjpceocnldlfaaGreat
