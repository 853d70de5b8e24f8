import Derived.Test.YtnjpceocnldlfaaGreatWkRof
import Derived.Test.YtnjpceocnldlfaaGreatWkBf
import Derived.Test.YtnjpceocnldlfaaGreatWkPr
/- periodic.Of at no span; timeset.From, timeset.Of. -/
namespace Go.Proofs.YtnjpceocnldlfaaGreat
open Go.RowKit Wk

set_option maxRecDepth 100000 in
set_option maxHeartbeats 1000000 in
theorem fold_none (P : Int) (w : World) :
    Calls Tryz.prog 146 #[.int .i64 P, .slice none 0 0] w fun e w' => (∃ v, e = .returned v ∧ OwnS w' w.heap.size v []) ∧ Below w.heap.size w w' := by
  have HJ := Lib.hid (joined_own (.slice none 0 0) [] w w (OwnS.nil _ _) (Below.refl _ _) (fun s hs => by simp at hs) (by simp))
  go_enter Tryz.func146, Tryz.ntmps146
  go_wp2_with fail
  go_loopw [5, 12] (fun u v wr => u = .slice none 0 0 ∧ v = .int .i64 0 ∧ wr = w) (fun _ _ _ => 0)
  case atStart => exact ⟨rfl, rfl, rfl⟩
  case round =>
    obtain ⟨rfl, rfl, hw⟩ := hrel
    subst hw
    go_wp2_with fail
    refine HJ.out.mono ?_
    rintro e w1 ⟨v, L', rfl, o1, p1, _, b1⟩
    have e1 : L' = [] := List.Perm.eq_nil p1
    subst e1
    have HO := Lib.hid o1
    clear o1 p1
    go_wp2
    go_ret
    exact ⟨⟨_, rfl, HO.out⟩, b1⟩

theorem lim_none : limM 1 [] = ((1, []), 0) := by
  unfold limM
  rw [ak_least1]
  rfl
set_option maxRecDepth 100000 in
set_option maxHeartbeats 1000000 in
theorem perOf_none (w : World) : Calls Tryz.prog 88 #[.int .i64 1, .slice none 0 0] w (PrPost ((1, []), 0) w) := by
  have HCN := Lib.hid (fun W => conV_per (.slice none 0 0) [] W (rd_none W))
  have HFN := Lib.hid (fun W => fold_none 1 W)
  obtain ⟨W, hWe⟩ : ∃ W, w.alloc (.cells #[.int .i64 0, .slice none 0 0] 24) = W := ⟨_, rfl⟩
  have hB0 : Below w.heap.size w W := by rw [← hWe]; exact (Below.refl _ w).alloc (Nat.le_refl _) _
  have hBX : Box2 W w.heap.size (.int .i64 0) (.slice none 0 0) := by rw [← hWe]; exact box2_new _ _ _ _
  have hsz : W.heap.size = w.heap.size + 1 := by rw [← hWe]; simp
  have HE := Lib.hid hWe
  clear hWe
  have hA : allV ([] : List Sp) = true := rfl
  rw [hA] at HCN
  go_enter Tryz.func88, Tryz.ntmps88
  go_wp2_with fail
  rw [HE.out]
  go_wp2_with fail
  refine (HCN.out _).mono ?_
  rintro e w1 ⟨rfl, hb1⟩
  have hB1 := keepBelow hB0 hb1
  have hBX1 := hBX.below hb1
  go_wp2_with fail
  refine (HFN.out _).mono ?_
  rintro e w2 ⟨⟨v2, rfl, o2⟩, hb2⟩
  have hB2 := keepBelow hB1 hb2
  have hBX2 := hBX1.below hb2
  have hs1 := hb1.size
  have hs2 := hb2.size
  have hr2 := o2.rd (by simp)
  have HLI := Lib.hid (limited_any 1 v2 [] w2 hr2 ⟨trivial, fun s hs => by simp at hs, by simp⟩ (by omega) (by omega) (fun s hs => by simp at hs))
  rw [lim_none] at HLI
  clear o2 hb1 hb2 hr2 hBX hBX1
  go_wp2_with fail
  refine HLI.out.mono ?_
  rintro e w3 ⟨v3, rfl, o3, hb3⟩
  obtain ⟨p3, q3, rfl, _⟩ := o3.form
  have hB3 := keepBelow hB2 hb3
  have HBX3 := Lib.hid (hBX2.below hb3)
  obtain ⟨⟨z0, z1⟩, f0, f1⟩ := HBX3.out
  have HO3 := Lib.hid o3
  clear o3 hb3 hBX2
  simp only at HO3 ⊢
  go_wp2
  change bodyPost _ _ _ _ _ (put2 w3 w.heap.size (.int .i64 1) (.slice p3 ([] : List Sp).length q3))
  obtain ⟨r0, r1⟩ := HBX3.out.put (.int .i64 1) (.slice p3 ([] : List Sp).length q3)
  have hBZ := put2_below (.int .i64 1) (.slice p3 ([] : List Sp).length q3) hB3 (b := w.heap.size) (Nat.le_refl _)
  have hOZ := put2_own (.int .i64 1) (.slice p3 ([] : List Sp).length q3) HO3.out (b := w.heap.size) (by omega)
  generalize put2 w3 w.heap.size (.int .i64 1) (.slice p3 ([] : List Sp).length q3) = Z at *
  refine bodyPost_ret (v := .tuple #[.agg #[.int .i64 1, .slice p3 ([] : List Sp).length q3], .int .i64 0]) (by simp [results, Tryz.results88, go_sem, r0, r1]) rfl ?_
  exact ⟨_, rfl, hOZ.mono (by omega), hBZ⟩

def ofM (s : St) : St × Int := if givenB s = true then formF s else (noSt, 1)
set_option maxRecDepth 100000 in
set_option maxHeartbeats 2000000 in
theorem tof_any (s : St) (al ar av : Value) (w : World) (h : RdSt w s al ar av) :
    Calls Tryz.prog 17 #[.agg #[.int .i64 s.lf.1, al], .agg #[.int .i64 s.rt.1, ar], .int .i64 s.fr, .int .i64 s.to, av] w (TsPost (ofM s) w) := by
  have HG := Lib.hid (fun W h => given_any s al ar av W h)
  have HF := Lib.hid (fun hg W h => form_any s al ar av W h (okS_of_givenB hg))
  have HRA := Lib.hid h
  obtain ⟨a1, n1, rfl⟩ := h.1.form
  obtain ⟨a2, n2, rfl⟩ := h.2.1.form
  obtain ⟨a3, n3, rfl⟩ := h.2.2.form
  obtain ⟨W, hWe⟩ : ∃ W, ((w.alloc (.cells #[.int .i64 s.lf.1, .slice a1 s.lf.2.length n1] 24)).alloc (.cells #[.int .i64 s.rt.1, .slice a2 s.rt.2.length n2] 24)).alloc (.cells #[.int .i64 0, .slice none 0 0, .int .i64 0, .slice none 0 0, .int .i64 0, .int .i64 0, .slice none 0 0] 26) = W := ⟨_, rfl⟩
  have hW : Below w.heap.size w W := by rw [← hWe]; exact (((Below.refl _ w).alloc (Nat.le_refl _) _).alloc (by simp) _).alloc (by simp; omega) _
  have c0 : W.cell? ⟨w.heap.size, 0, none⟩ = some (.int .i64 s.lf.1) := by rw [← hWe]; simp [go_sem]
  have c1 : W.cell? ⟨w.heap.size, 1, none⟩ = some (.slice a1 s.lf.2.length n1) := by rw [← hWe]; simp [go_sem]
  have c2 : W.cell? ⟨w.heap.size + 1, 0, none⟩ = some (.int .i64 s.rt.1) := by rw [← hWe]; simp [go_sem]
  have c3 : W.cell? ⟨w.heap.size + 1, 1, none⟩ = some (.slice a2 s.rt.2.length n2) := by rw [← hWe]; simp [go_sem]
  have HXZ : Hid (Set7 W (w.heap.size + 1 + 1) (.int .i64 0) (.slice none 0 0) (.int .i64 0) (.slice none 0 0) (.int .i64 0) (.int .i64 0) (.slice none 0 0)) := by
    rw [← hWe]
    refine ⟨⟨?_, ?_, ?_, ?_, ?_, ?_, ?_⟩, ?_, ?_, ?_, ?_, ?_, ?_, ?_⟩ <;> simp [go_sem]
  have HZZ : Hid (Zero7 W (w.heap.size + 1 + 1)) := by
    unfold Hid
    rw [← hWe]
    have := zero7_new ((w.alloc (.cells #[.int .i64 s.lf.1, .slice a1 s.lf.2.length n1] 24)).alloc (.cells #[.int .i64 s.rt.1, .slice a2 s.rt.2.length n2] 24))
    simpa using this
  have HA := Lib.hid (keepSt hW HRA.out)
  have HE := Lib.hid hWe
  clear hWe h HRA
  obtain ⟨g, hg⟩ : ∃ g, givenB s = g := ⟨_, rfl⟩
  rw [hg] at HG
  have HGG := Lib.hid hg
  clear hg
  go_enter Tryz.func17, Tryz.ntmps17
  go_wp2_with fail
  rw [HE.out]
  go_wp2_with fail
  refine (HG.out _ HA.out).mono ?_
  rintro e w1 ⟨rfl, hb1⟩
  have hbe := keepBelow hW hb1
  have d0 := keepCell hb1 c0
  have d1 := keepCell hb1 c1
  have d2 := keepCell hb1 c2
  have d3 := keepCell hb1 c3
  have HA1 := Lib.hid (keepSt hb1 HA.out)
  have HXZ1 := Lib.hid (HXZ.out.below hb1)
  have HZZ1 := Lib.hid (HZZ.out.below (World.block_lt_of_cell? W ⟨(w.heap.size + 1 + 1), 0, none⟩ HXZ.out.1.1) hb1)
  clear hb1 c0 c1 c2 c3 HA HXZ HZZ
  cases g with
  | false =>
    have HM : Hid (ofM s = (noSt, 1)) := by unfold Hid ofM; rw [if_neg (by rw [HGG.out]; simp)]
    obtain ⟨⟨Z0, Z1, Z2, Z3, Z4, Z5, Z6⟩, K0, K1, K2, K3, K4, K5, K6⟩ := HXZ1.out
    go_wp2
    change bodyPost _ _ _ _ _ (put7 w1 (w.heap.size + 1 + 1) (.int .i64 0) (.slice none 0 0) (.int .i64 0) (.slice none 0 0) (.int .i64 0) (.int .i64 0) (.slice none 0 0))
    obtain ⟨r0, r1, r2, r3, r4, r5, r6⟩ := put7_at (.int .i64 0) (.slice none 0 0) (.int .i64 0) (.slice none 0 0) (.int .i64 0) (.int .i64 0) (.slice none 0 0) Z0 Z1 Z2 Z3 Z4 Z5 Z6
    have hBZ := put7_below (.int .i64 0) (.slice none 0 0) (.int .i64 0) (.slice none 0 0) (.int .i64 0) (.int .i64 0) (.slice none 0 0) hbe (b := (w.heap.size + 1 + 1)) (by omega)
    generalize put7 w1 (w.heap.size + 1 + 1) (.int .i64 0) (.slice none 0 0) (.int .i64 0) (.slice none 0 0) (.int .i64 0) (.int .i64 0) (.slice none 0 0) = Z at *
    refine bodyPost_ret (v := .tuple #[.agg #[.int .i64 0, .slice none 0 0, .int .i64 0, .slice none 0 0, .int .i64 0, .int .i64 0, .slice none 0 0], .int .i64 1]) (by simp [results, Tryz.results17, go_sem, r0, r1, r2, r3, r4, r5, r6]) rfl ?_
    show TsPost _ w _ _
    rw [HM.out]
    exact ⟨_, _, _, rfl, rdst_no _, hBZ⟩
  | true =>
    have HM : Hid (ofM s = formF s) := by unfold Hid ofM; rw [if_pos HGG.out]
    have HPO := Lib.hid (pos_form (okS_of_givenB HGG.out))
    have HFF := Lib.hid (fun W h => HF.out HGG.out W h)
    go_wp2_with fail
    refine (HFF.out _ HA1.out).mono ?_
    rintro e w2 ⟨vl, vr, vv, rfl, hr, hb2⟩
    obtain ⟨T, hT⟩ : ∃ T, formF s = T := ⟨_, rfl⟩
    rw [hT] at HPO HM hr ⊢
    clear hT
    have hbe := keepBelow hbe hb2
    have HXZ2 := Lib.hid (HXZ1.out.below hb2)
    have HZZ2 := Lib.hid (HZZ1.out.below (World.block_lt_of_cell? w1 ⟨(w.heap.size + 1 + 1), 0, none⟩ HXZ1.out.1.1) hb2)
    obtain ⟨⟨Z0, Z1, Z2, Z3, Z4, Z5, Z6⟩, K0, K1, K2, K3, K4, K5, K6⟩ := HXZ2.out
    obtain ⟨c1, d1, rfl⟩ := hr.1.form
    obtain ⟨c2, d2, rfl⟩ := hr.2.1.form
    obtain ⟨c3, d3, rfl⟩ := hr.2.2.form
    have HRR := Lib.hid hr
    clear hb2 hr
    go_wp2
    change bodyPost _ _ _ _ _ (put7 w2 (w.heap.size + 1 + 1) (.int .i64 T.1.lf.1) (.slice c1 T.1.lf.2.length d1) (.int .i64 T.1.rt.1) (.slice c2 T.1.rt.2.length d2) (.int .i64 T.1.fr) (.int .i64 T.1.to) (.slice c3 T.1.l.length d3))
    obtain ⟨r0, r1, r2, r3, r4, r5, r6⟩ := put7_at (.int .i64 T.1.lf.1) (.slice c1 T.1.lf.2.length d1) (.int .i64 T.1.rt.1) (.slice c2 T.1.rt.2.length d2) (.int .i64 T.1.fr) (.int .i64 T.1.to) (.slice c3 T.1.l.length d3) Z0 Z1 Z2 Z3 Z4 Z5 Z6
    have hBZ := put7_below (.int .i64 T.1.lf.1) (.slice c1 T.1.lf.2.length d1) (.int .i64 T.1.rt.1) (.slice c2 T.1.rt.2.length d2) (.int .i64 T.1.fr) (.int .i64 T.1.to) (.slice c3 T.1.l.length d3) hbe (b := (w.heap.size + 1 + 1)) (by omega)
    have hRZ := HRR.out.put (.int .i64 T.1.lf.1) (.slice c1 T.1.lf.2.length d1) (.int .i64 T.1.rt.1) (.slice c2 T.1.rt.2.length d2) (.int .i64 T.1.fr) (.int .i64 T.1.to) (.slice c3 T.1.l.length d3) HPO.out HZZ2.out
    generalize put7 w2 (w.heap.size + 1 + 1) (.int .i64 T.1.lf.1) (.slice c1 T.1.lf.2.length d1) (.int .i64 T.1.rt.1) (.slice c2 T.1.rt.2.length d2) (.int .i64 T.1.fr) (.int .i64 T.1.to) (.slice c3 T.1.l.length d3) = Z at *
    refine bodyPost_ret (v := .tuple #[.agg #[.int .i64 T.1.lf.1, .slice c1 T.1.lf.2.length d1, .int .i64 T.1.rt.1, .slice c2 T.1.rt.2.length d2, .int .i64 T.1.fr, .int .i64 T.1.to, .slice c3 T.1.l.length d3], .int .i64 T.2]) (by simp [results, Tryz.results17, go_sem, r0, r1, r2, r3, r4, r5, r6]) rfl ?_
    show TsPost _ w _ _
    rw [HM.out]
    exact ⟨_, _, _, rfl, hRZ, hBZ⟩

def fromM (l : List Sp) : St × Int :=
  if (runsOfM l).2 ≠ 0 then (noSt, (runsOfM l).2) else if (runsOfM l).1.length = 0 then (pureF (1, []), 0) else (⟨(1, []), (1, []), firstFr (runsOfM l).1, lastTo (runsOfM l).1, (runsOfM l).1⟩, 0)
theorem runs_len (l : List Sp) : (runsOfM l).1.length ≤ 2000 := by
  unfold runsOfM
  split
  · simp
  · unfold dnM
    split
    · simp
    · show (unL l).length ≤ 2000
      omega
theorem runs_can (l : List Sp) : Canon (runsOfM l).1 := by
  unfold runsOfM
  split
  · trivial
  · unfold dnM
    split
    · trivial
    · exact (memF_can _ _ _).1
set_option maxRecDepth 100000 in
set_option maxHeartbeats 4000000 in
theorem from_any (v : Value) (l : List Sp) (w : World) (h : RdS w v l) (hl : l.length ≤ 1000000) :
    Calls Tryz.prog 38 #[v] w (TsPost (fromM l) w) := by
  have HRO := Lib.hid (fun W h => runsOf_any v l W h hl)
  have HPN := Lib.hid (fun W => perOf_none W)
  have HR0 := Lib.hid h
  obtain ⟨aa, ca, rfl⟩ := h.form
  clear h
  have HFM : Hid (fromM l = if (runsOfM l).2 ≠ 0 then (noSt, (runsOfM l).2) else if (runsOfM l).1.length = 0 then (pureF (1, []), 0) else (⟨(1, []), (1, []), firstFr (runsOfM l).1, lastTo (runsOfM l).1, (runsOfM l).1⟩, 0)) := rfl
  have hrl := runs_len l
  have HRC := Lib.hid (runs_can l)
  have HROP : Hid (∀ W e w', RnOfPost l W e w' → ∃ v, e = .returned (.tuple #[v, .int .i64 (runsOfM l).2]) ∧ OwnS w' W.heap.size v (runsOfM l).1 ∧ Below W.heap.size W w') := fun _ _ _ h => h
  obtain ⟨⟨r, e0⟩, hr⟩ : ∃ r, runsOfM l = r := ⟨_, rfl⟩
  rw [hr] at HFM hrl HRC HROP
  simp only at HFM hrl HRC HROP
  clear hr
  obtain ⟨W, hWe⟩ : ∃ W, w.alloc (.cells #[.int .i64 0, .slice none 0 0, .int .i64 0, .slice none 0 0, .int .i64 0, .int .i64 0, .slice none 0 0] 26) = W := ⟨_, rfl⟩
  have hW : Below w.heap.size w W := by rw [← hWe]; exact (Below.refl _ w).alloc (Nat.le_refl _) _
  have HXZ : Hid (Set7 W w.heap.size (.int .i64 0) (.slice none 0 0) (.int .i64 0) (.slice none 0 0) (.int .i64 0) (.int .i64 0) (.slice none 0 0)) := by
    rw [← hWe]
    refine ⟨⟨?_, ?_, ?_, ?_, ?_, ?_, ?_⟩, ?_, ?_, ?_, ?_, ?_, ?_, ?_⟩ <;> simp [go_sem]
  have HZZ : Hid (Zero7 W w.heap.size) := by
    unfold Hid
    rw [← hWe]
    exact zero7_new w
  have HE := Lib.hid hWe
  have HR1 := Lib.hid (keepRd hW HR0.out)
  clear hWe
  go_enter Tryz.func38, Tryz.ntmps38
  go_wp2_with fail
  rw [HE.out]
  go_wp2_with fail
  refine (HRO.out _ HR1.out).mono ?_
  rintro e w1 hpost
  obtain ⟨vr, rfl, hor, hb1⟩ := HROP.out _ _ _ hpost
  clear hpost
  have hbe := keepBelow hW hb1
  have HXZ1 := Lib.hid (HXZ.out.below hb1)
  have HZZ1 := Lib.hid (HZZ.out.below (World.block_lt_of_cell? W ⟨w.heap.size, 0, none⟩ HXZ.out.1.1) hb1)
  obtain ⟨pr, qr, rfl, _⟩ := hor.form
  have HOR := Lib.hid hor
  clear hb1 hor HXZ HZZ HE
  by_cases he : e0 ≠ 0
  · have HM : Hid (fromM l = (noSt, e0)) := by have := HFM.out; rwa [if_pos he] at this
    have t1 : (e0 != 0) = true := by simpa using he
    obtain ⟨⟨Z0, Z1, Z2, Z3, Z4, Z5, Z6⟩, K0, K1, K2, K3, K4, K5, K6⟩ := HXZ1.out
    clear he
    go_wp2
    change bodyPost _ _ _ _ _ (put7 w1 w.heap.size (.int .i64 0) (.slice none 0 0) (.int .i64 0) (.slice none 0 0) (.int .i64 0) (.int .i64 0) (.slice none 0 0))
    obtain ⟨r0, r1, r2, r3, r4, r5, r6⟩ := put7_at (.int .i64 0) (.slice none 0 0) (.int .i64 0) (.slice none 0 0) (.int .i64 0) (.int .i64 0) (.slice none 0 0) Z0 Z1 Z2 Z3 Z4 Z5 Z6
    have hBZ := put7_below (.int .i64 0) (.slice none 0 0) (.int .i64 0) (.slice none 0 0) (.int .i64 0) (.int .i64 0) (.slice none 0 0) hbe (b := w.heap.size) (by omega)
    generalize put7 w1 w.heap.size (.int .i64 0) (.slice none 0 0) (.int .i64 0) (.slice none 0 0) (.int .i64 0) (.int .i64 0) (.slice none 0 0) = Z at *
    refine bodyPost_ret (v := .tuple #[.agg #[.int .i64 0, .slice none 0 0, .int .i64 0, .slice none 0 0, .int .i64 0, .int .i64 0, .slice none 0 0], .int .i64 e0]) (by simp [results, Tryz.results38, go_sem, r0, r1, r2, r3, r4, r5, r6]) rfl ?_
    show TsPost _ w _ _
    rw [HM.out]
    exact ⟨_, _, _, rfl, rdst_no _, hBZ⟩
  have he : e0 = 0 := by omega
  subst he
  go_wp2_with fail
  refine (HPN.out _).mono ?_
  rintro e w2 ⟨v2, rfl, o2, hb2⟩
  simp only at o2 ⊢
  obtain ⟨p2, q2, rfl, _⟩ := o2.form
  have hba := (Below.refl w2.heap.size w2).alloc (Nat.le_refl _) (.cells #[.int .i64 1, .slice p2 ([] : List Sp).length q2] 24)
  have hbe := keepBelow (keepBelow hbe hb2) hba
  have HXZ2 := Lib.hid ((HXZ1.out.below hb2).below hba)
  have HZZ2 := Lib.hid (HZZ1.out.below (World.block_lt_of_cell? w1 ⟨w.heap.size, 0, none⟩ HXZ1.out.1.1) (hb2.trans (hba.mono hb2.size)))
  have HN2 := Lib.hid ((o2.below hba).rd (by simp))
  have HOR2 := Lib.hid ((HOR.out.below hb2).below hba)
  have HB2 := Lib.hid (box2_new w2 (.int .i64 1) (.slice p2 ([] : List Sp).length q2) 24)
  simp only [List.length_nil] at hbe HXZ2 HZZ2 HN2 HOR2 HB2 ⊢
  obtain ⟨⟨b0, b1⟩, _⟩ := HB2.out
  clear hb2 hba o2
  by_cases hr0 : r.length = 0
  · have HM : Hid (fromM l = (pureF (1, []), 0)) := by have := HFM.out; rwa [if_neg (by simp), if_pos hr0] at this
    have HPU := Lib.hid (fun W h => pure_any 1 (.slice p2 0 q2) [] W h)
    have t1 : ((r.length : Int) == 0) = true := by simp [hr0]
    go_wp2_with fail
    refine (HPU.out _ HN2.out).mono ?_
    rintro e w3 ⟨v3, rfl, o3, hb3⟩
    obtain ⟨p3, q3, rfl, _⟩ := o3.form
    have hbe := keepBelow hbe hb3
    have HXZ3 := Lib.hid (HXZ2.out.below hb3)
    have HZZ3 := Lib.hid (HZZ2.out.below (World.block_lt_of_cell? _ ⟨w.heap.size, 0, none⟩ HXZ2.out.1.1) hb3)
    have HN3 := Lib.hid (keepRd hb3 HN2.out)
    have HN4 := Lib.hid (o3.rd (by simp))
    obtain ⟨⟨Z0, Z1, Z2, Z3, Z4, Z5, Z6⟩, K0, K1, K2, K3, K4, K5, K6⟩ := HXZ3.out
    simp only [List.length_nil] at HN4 ⊢
    clear hb3 o3 b0 b1
    go_wp2
    change bodyPost _ _ _ _ _ (put7 w3 w.heap.size (.int .i64 1) (.slice p2 0 q2) (.int .i64 1) (.slice p3 0 q3) (.int .i64 0) (.int .i64 0) (.slice none 0 0))
    obtain ⟨r0, r1, r2, r3, r4, r5, r6⟩ := put7_at (.int .i64 1) (.slice p2 0 q2) (.int .i64 1) (.slice p3 0 q3) (.int .i64 0) (.int .i64 0) (.slice none 0 0) Z0 Z1 Z2 Z3 Z4 Z5 Z6
    have hBZ := put7_below (.int .i64 1) (.slice p2 0 q2) (.int .i64 1) (.slice p3 0 q3) (.int .i64 0) (.int .i64 0) (.slice none 0 0) hbe (b := w.heap.size) (by omega)
    have hRZ := RdSt.put (s := pureF (1, [])) (.int .i64 1) (.slice p2 0 q2) (.int .i64 1) (.slice p3 0 q3) (.int .i64 0) (.int .i64 0) (.slice none 0 0) ⟨HN3.out, HN4.out, rd_none w3⟩ ⟨fun s hs => by simp [pureF] at hs, fun s hs => by simp [pureF] at hs, fun s hs => by simp [pureF] at hs⟩ HZZ3.out
    generalize put7 w3 w.heap.size (.int .i64 1) (.slice p2 0 q2) (.int .i64 1) (.slice p3 0 q3) (.int .i64 0) (.int .i64 0) (.slice none 0 0) = Z at *
    refine bodyPost_ret (v := .tuple #[.agg #[.int .i64 1, .slice p2 0 q2, .int .i64 1, .slice p3 0 q3, .int .i64 0, .int .i64 0, .slice none 0 0], .int .i64 0]) (by simp [results, Tryz.results38, go_sem, r0, r1, r2, r3, r4, r5, r6]) rfl ?_
    show TsPost _ w _ _
    rw [HM.out]
    exact ⟨_, _, _, rfl, hRZ, hBZ⟩
  · have HM : Hid (fromM l = (⟨(1, []), (1, []), firstFr r, lastTo r, r⟩, 0)) := by have := HFM.out; rwa [if_neg (by simp), if_neg hr0] at this
    have t1 : ((r.length : Int) == 0) = false := by simpa using hr0
    obtain ⟨ah, ch, eh, hfh⟩ := HOR2.out.form
    obtain ⟨g8, rfl, hg8, k0, k0'⟩ := hfh 0 (by omega)
    obtain ⟨g9, e9, _, k1', k1⟩ := hfh (r.length - 1) (by omega)
    cases e9
    injection eh with e81 e82 e83
    subst e81; subst e83
    clear hfh k0' k1' e82
    have hk0 : (r.getD 0 (0, 0)).1 = firstFr r := rfl
    have hk1 : (r.getD (r.length - 1) (0, 0)).2 = lastTo r := rfl
    rw [hk0] at k0
    rw [hk1] at k1
    obtain ⟨n, hn⟩ : ∃ n, r.length = n + 1 := ⟨r.length - 1, by omega⟩
    have HN := Lib.hid hn
    rw [show r.length - 1 = n by omega] at k1
    have hrl2 : n + 1 ≤ 2000 := by omega
    have HRR := Lib.hid (HOR2.out.rd (by omega))
    rw [hn] at HOR2 HRR t1 ⊢
    clear hn hrl hr0 hk0 hk1
    have hbd : Below (w2.alloc (.cells #[.int .i64 1, .slice p2 0 q2] 24)).heap.size (w2.alloc (.cells #[.int .i64 1, .slice p2 0 q2] 24)) (w2.alloc (.cells #[.int .i64 1, .slice p2 0 q2] 24)).drew := (Below.refl _ _).drew
    have j0 := keepCell hbd b0
    have j1 := keepCell hbd b1
    have j2 := keepCell hbd k0
    have j3 := keepCell hbd k1
    rw [Nat.zero_mul] at j2
    have hbe := keepBelow hbe hbd
    have HXZ3 := Lib.hid (HXZ2.out.below hbd)
    have HZZ3 := Lib.hid (HZZ2.out.below (World.block_lt_of_cell? _ ⟨w.heap.size, 0, none⟩ HXZ2.out.1.1) hbd)
    have HN3 := Lib.hid (keepRd hbd HN2.out)
    have HR3 := Lib.hid (keepRd hbd HRR.out)
    have s1 : IntKind.i64.wrap (n : Int) = n := by rw [IntKind.wrap_i64]; omega
    have s4 : (0 : Int) ≤ (n : Int) := by omega
    have s5 : (n : Int) < (n : Int) + 1 := by omega
    have s6 : (0 : Int) < (n : Int) + 1 := by omega
    obtain ⟨fr, hfr⟩ : ∃ x, firstFr r = x := ⟨_, rfl⟩
    obtain ⟨lt, hlt⟩ : ∃ x, lastTo r = x := ⟨_, rfl⟩
    rw [hfr] at HM j2
    rw [hlt] at HM j3
    clear hfr hlt k0 k1 b0 b1 hbd
    go_wp2_with fail
    refine wp_region_still_tail 15 (by kernel_rfl) (by kernel_rfl) ?_
    simp only [List.take_succ_cons, List.take_zero, List.drop_succ_cons, List.drop_zero]
    change wpStill _ _ (w2.alloc (.cells #[.int .i64 1, .slice p2 0 q2] 24)).drew _ _ _
    repeat still_step
    refine wpStill_nil ?_
    change wpList _ _ _ _ _ (w2.alloc (.cells #[.int .i64 1, .slice p2 0 q2] 24)).drew
    generalize (w2.alloc (.cells #[.int .i64 1, .slice p2 0 q2] 24)).drew = w6 at *
    obtain ⟨⟨Z0, Z1, Z2, Z3, Z4, Z5, Z6⟩, K0, K1, K2, K3, K4, K5, K6⟩ := HXZ3.out
    go_wp2
    change bodyPost _ _ _ _ _ (put7 w6 w.heap.size (.int .i64 1) (.slice p2 0 q2) (.int .i64 1) (.slice p2 0 q2) (.int .i64 fr) (.int .i64 lt) (.slice (some ⟨g8, 0, none⟩) (n + 1) qr))
    obtain ⟨r0, r1, r2, r3, r4, r5, r6⟩ := put7_at (.int .i64 1) (.slice p2 0 q2) (.int .i64 1) (.slice p2 0 q2) (.int .i64 fr) (.int .i64 lt) (.slice (some ⟨g8, 0, none⟩) (n + 1) qr) Z0 Z1 Z2 Z3 Z4 Z5 Z6
    have hBZ := put7_below (.int .i64 1) (.slice p2 0 q2) (.int .i64 1) (.slice p2 0 q2) (.int .i64 fr) (.int .i64 lt) (.slice (some ⟨g8, 0, none⟩) (n + 1) qr) hbe (b := w.heap.size) (by omega)
    have hRZ := RdSt.put (s := ⟨(1, []), (1, []), fr, lt, r⟩) (.int .i64 1) (.slice p2 0 q2) (.int .i64 1) (.slice p2 0 q2) (.int .i64 fr) (.int .i64 lt) (.slice (some ⟨g8, 0, none⟩) (n + 1) qr) ⟨HN3.out, HN3.out, HR3.out⟩ ⟨fun s hs => by simp at hs, fun s hs => by simp at hs, canon_pos HRC.out⟩ HZZ3.out
    generalize put7 w6 w.heap.size (.int .i64 1) (.slice p2 0 q2) (.int .i64 1) (.slice p2 0 q2) (.int .i64 fr) (.int .i64 lt) (.slice (some ⟨g8, 0, none⟩) (n + 1) qr) = Z at *
    refine bodyPost_ret (v := .tuple #[.agg #[.int .i64 1, .slice p2 0 q2, .int .i64 1, .slice p2 0 q2, .int .i64 fr, .int .i64 lt, .slice (some ⟨g8, 0, none⟩) (n + 1) qr], .int .i64 0]) (by simp [results, Tryz.results38, go_sem, r0, r1, r2, r3, r4, r5, r6]) rfl ?_
    show TsPost _ w _ _
    rw [HM.out]
    exact ⟨_, _, _, rfl, hRZ, hBZ⟩
end Go.Proofs.YtnjpceocnldlfaaGreat
