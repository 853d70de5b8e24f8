import Derived.Test.YtnjpceocnldlfaaGreatWkFrm
import Derived.Test.YtnjpceocnldlfaaGreatWkUn
import Derived.Test.YtnjpceocnldlfaaGreatWkRfC
import Derived.Test.YtnjpceocnldlfaaGreatWkTr
import Derived.Test.YtnjpceocnldlfaaGreatWkC13
import Derived.Test.YtnjpceocnldlfaaGreatWkNc
import Derived.Test.YtnjpceocnldlfaaGreatWkWnd
import Derived.Test.YtnjpceocnldlfaaGreatWkRpm
import Derived.Test.YtnjpceocnldlfaaGreatWkRPa
import Derived.Test.YtnjpceocnldlfaaGreatWkLF1
import Derived.Test.YtnjpceocnldlfaaGreatWkLq
import Derived.Test.YtnjpceocnldlfaaGreatWkLF2
/- The reference's From. -/
namespace Go.Proofs.YtnjpceocnldlfaaGreat
open Go.RowKit Wk

set_option maxRecDepth 100000 in
set_option maxHeartbeats 4000000 in
theorem rfrom14_any (v : Value) (l : List Sp) (w : World) (h : RdS w v l) (hz : ∀ n c, v = .slice none n c → c = 0) (hl : l.length ≤ 100000) :
    Calls Tryz.prog 39 #[v] w (TsPost (fromM l) w) := by
  have HRO := Lib.hid (fun W h => of12_any v l W h hz hl)
  have HR0 := Lib.hid h
  obtain ⟨aa, ca, rfl⟩ := h.form
  clear h hz
  have HFM : Hid (fromM l = if (runsOfM l).2 ≠ 0 then (noSt, (runsOfM l).2) else if (runsOfM l).1.length = 0 then (pureF (1, []), 0) else (⟨(1, []), (1, []), firstFr (runsOfM l).1, lastTo (runsOfM l).1, (runsOfM l).1⟩, 0)) := rfl
  have hrl := runs_len l
  have HRC := Lib.hid (runs_can l)
  have HROP : Hid (∀ W e w', RnOfPost l W e w' → ∃ v, e = .returned (.tuple #[v, .int .i64 (runsOfM l).2]) ∧ OwnS w' W.heap.size v (runsOfM l).1 ∧ Below W.heap.size W w') := fun _ _ _ h => h
  obtain ⟨⟨r, e0⟩, hr⟩ : ∃ r, runsOfM l = r := ⟨_, rfl⟩
  rw [hr] at HFM hrl HRC HROP
  simp only at HFM hrl HRC HROP
  clear hr
  obtain ⟨W, hWe⟩ : ∃ W, w.alloc (.cells #[.int .i64 0, .slice none 0 0, .int .i64 0, .slice none 0 0, .int .i64 0, .int .i64 0, .slice none 0 0] 26) = W := ⟨_, rfl⟩
  have hW : Below w.heap.size w W := by rw [← hWe]; exact (Below.refl _ w).alloc (Nat.le_refl _) _
  have HXZ : Hid (Set7 W w.heap.size (.int .i64 0) (.slice none 0 0) (.int .i64 0) (.slice none 0 0) (.int .i64 0) (.int .i64 0) (.slice none 0 0)) := by
    rw [← hWe]
    refine ⟨⟨?_, ?_, ?_, ?_, ?_, ?_, ?_⟩, ?_, ?_, ?_, ?_, ?_, ?_, ?_⟩ <;> simp [go_sem]
  have HZZ : Hid (Zero7 W w.heap.size) := by
    unfold Hid
    rw [← hWe]
    exact zero7_new w
  have HE := Lib.hid hWe
  have HR1 := Lib.hid (keepRd hW HR0.out)
  clear hWe
  go_enter Tryz.func39, Tryz.ntmps39
  go_wp2_with fail
  rw [HE.out]
  go_wp2_with fail
  refine (HRO.out _ HR1.out).mono ?_
  rintro e w1 hpost
  obtain ⟨vr, rfl, hor, hb1⟩ := HROP.out _ _ _ hpost
  clear hpost
  have hbe := keepBelow hW hb1
  have HXZ1 := Lib.hid (HXZ.out.below hb1)
  have HZZ1 := Lib.hid (HZZ.out.below (World.block_lt_of_cell? W ⟨w.heap.size, 0, none⟩ HXZ.out.1.1) hb1)
  obtain ⟨pr, qr, rfl, _⟩ := hor.form
  have HOR := Lib.hid hor
  clear hb1 hor HXZ HZZ HE
  by_cases he : e0 ≠ 0
  · have HM : Hid (fromM l = (noSt, e0)) := by have := HFM.out; rwa [if_pos he] at this
    have t1 : (e0 != 0) = true := by simpa using he
    obtain ⟨⟨Z0, Z1, Z2, Z3, Z4, Z5, Z6⟩, K0, K1, K2, K3, K4, K5, K6⟩ := HXZ1.out
    clear he
    go_wp2
    change bodyPost _ _ _ _ _ (put7 w1 w.heap.size (.int .i64 0) (.slice none 0 0) (.int .i64 0) (.slice none 0 0) (.int .i64 0) (.int .i64 0) (.slice none 0 0))
    obtain ⟨r0, r1, r2, r3, r4, r5, r6⟩ := put7_at (.int .i64 0) (.slice none 0 0) (.int .i64 0) (.slice none 0 0) (.int .i64 0) (.int .i64 0) (.slice none 0 0) Z0 Z1 Z2 Z3 Z4 Z5 Z6
    have hBZ := put7_below (.int .i64 0) (.slice none 0 0) (.int .i64 0) (.slice none 0 0) (.int .i64 0) (.int .i64 0) (.slice none 0 0) hbe (b := w.heap.size) (by omega)
    generalize put7 w1 w.heap.size (.int .i64 0) (.slice none 0 0) (.int .i64 0) (.slice none 0 0) (.int .i64 0) (.int .i64 0) (.slice none 0 0) = Z at *
    refine bodyPost_ret (v := .tuple #[.agg #[.int .i64 0, .slice none 0 0, .int .i64 0, .slice none 0 0, .int .i64 0, .int .i64 0, .slice none 0 0], .int .i64 e0]) (by simp [results, Tryz.results39, go_sem, r0, r1, r2, r3, r4, r5, r6]) rfl ?_
    show TsPost _ w _ _
    rw [HM.out]
    exact ⟨_, _, _, rfl, rdst_no _, hBZ⟩
  have he : e0 = 0 := by omega
  subst he
  have hb2 : Below w1.heap.size w1 w1 := Below.refl _ _
  have o2 : OwnS w1 w1.heap.size (.slice none 0 0) [] := OwnS.nil _ _
  have hba := (Below.refl w1.heap.size w1).alloc (Nat.le_refl _) (.cells #[.int .i64 1, .slice none ([] : List Sp).length 0] 24)
  have hbe := keepBelow (keepBelow hbe hb2) hba
  have HXZ2 := Lib.hid ((HXZ1.out.below hb2).below hba)
  have HZZ2 := Lib.hid (HZZ1.out.below (World.block_lt_of_cell? w1 ⟨w.heap.size, 0, none⟩ HXZ1.out.1.1) (hb2.trans (hba.mono hb2.size)))
  have HN2 := Lib.hid ((o2.below hba).rd (by simp))
  have HOR2 := Lib.hid ((HOR.out.below hb2).below hba)
  have HB2 := Lib.hid (box2_new w1 (.int .i64 1) (.slice none ([] : List Sp).length 0) 24)
  simp only [List.length_nil] at hbe HXZ2 HZZ2 HN2 HOR2 HB2 ⊢
  obtain ⟨⟨b0, b1⟩, _⟩ := HB2.out
  clear hb2 hba o2
  by_cases hr0 : r.length = 0
  · have HM : Hid (fromM l = (pureF (1, []), 0)) := by have := HFM.out; rwa [if_neg (by simp), if_pos hr0] at this
    have HPU := Lib.hid (fun W h => pure14_any 1 (.slice none 0 0) [] W h)
    have t1 : ((r.length : Int) == 0) = true := by simp [hr0]
    go_wp2_with fail
    refine (HPU.out _ HN2.out).mono ?_
    rintro e w3 ⟨rfl, hb3⟩
    have hbe := keepBelow hbe hb3
    have HXZ3 := Lib.hid (HXZ2.out.below hb3)
    have HZZ3 := Lib.hid (HZZ2.out.below (World.block_lt_of_cell? _ ⟨w.heap.size, 0, none⟩ HXZ2.out.1.1) hb3)
    have HN3 := Lib.hid (keepRd hb3 HN2.out)
    have HN4 := HN3
    obtain ⟨⟨Z0, Z1, Z2, Z3, Z4, Z5, Z6⟩, K0, K1, K2, K3, K4, K5, K6⟩ := HXZ3.out
    simp only at HN4 ⊢
    clear hb3 b0 b1
    go_wp2
    change bodyPost _ _ _ _ _ (put7 w3 w.heap.size (.int .i64 1) (.slice none 0 0) (.int .i64 1) (.slice none 0 0) (.int .i64 0) (.int .i64 0) (.slice none 0 0))
    obtain ⟨r0, r1, r2, r3, r4, r5, r6⟩ := put7_at (.int .i64 1) (.slice none 0 0) (.int .i64 1) (.slice none 0 0) (.int .i64 0) (.int .i64 0) (.slice none 0 0) Z0 Z1 Z2 Z3 Z4 Z5 Z6
    have hBZ := put7_below (.int .i64 1) (.slice none 0 0) (.int .i64 1) (.slice none 0 0) (.int .i64 0) (.int .i64 0) (.slice none 0 0) hbe (b := w.heap.size) (by omega)
    have hRZ := RdSt.put (s := pureF (1, [])) (.int .i64 1) (.slice none 0 0) (.int .i64 1) (.slice none 0 0) (.int .i64 0) (.int .i64 0) (.slice none 0 0) ⟨HN3.out, HN4.out, rd_none w3⟩ ⟨fun s hs => by simp [pureF] at hs, fun s hs => by simp [pureF] at hs, fun s hs => by simp [pureF] at hs⟩ HZZ3.out
    generalize put7 w3 w.heap.size (.int .i64 1) (.slice none 0 0) (.int .i64 1) (.slice none 0 0) (.int .i64 0) (.int .i64 0) (.slice none 0 0) = Z at *
    refine bodyPost_ret (v := .tuple #[.agg #[.int .i64 1, .slice none 0 0, .int .i64 1, .slice none 0 0, .int .i64 0, .int .i64 0, .slice none 0 0], .int .i64 0]) (by simp [results, Tryz.results39, go_sem, r0, r1, r2, r3, r4, r5, r6]) rfl ?_
    show TsPost _ w _ _
    rw [HM.out]
    exact ⟨_, _, _, rfl, hRZ, hBZ⟩
  · have HM : Hid (fromM l = (⟨(1, []), (1, []), firstFr r, lastTo r, r⟩, 0)) := by have := HFM.out; rwa [if_neg (by simp), if_neg hr0] at this
    have t1 : ((r.length : Int) == 0) = false := by simpa using hr0
    obtain ⟨ah, ch, eh, hfh⟩ := HOR2.out.form
    obtain ⟨g8, rfl, hg8, k0, k0'⟩ := hfh 0 (by omega)
    obtain ⟨g9, e9, _, k1', k1⟩ := hfh (r.length - 1) (by omega)
    cases e9
    injection eh with e81 e82 e83
    subst e81; subst e83
    clear hfh k0' k1' e82
    have hk0 : (r.getD 0 (0, 0)).1 = firstFr r := rfl
    have hk1 : (r.getD (r.length - 1) (0, 0)).2 = lastTo r := rfl
    rw [hk0] at k0
    rw [hk1] at k1
    obtain ⟨n, hn⟩ : ∃ n, r.length = n + 1 := ⟨r.length - 1, by omega⟩
    have HN := Lib.hid hn
    rw [show r.length - 1 = n by omega] at k1
    have hrl2 : n + 1 ≤ 2000 := by omega
    have HRR := Lib.hid (HOR2.out.rd (by omega))
    rw [hn] at HOR2 HRR t1 ⊢
    clear hn hrl hr0 hk0 hk1
    have hbd : Below (w1.alloc (.cells #[.int .i64 1, .slice none 0 0] 24)).heap.size (w1.alloc (.cells #[.int .i64 1, .slice none 0 0] 24)) (w1.alloc (.cells #[.int .i64 1, .slice none 0 0] 24)).drew := (Below.refl _ _).drew
    have j0 := keepCell hbd b0
    have j1 := keepCell hbd b1
    have j2 := keepCell hbd k0
    have j3 := keepCell hbd k1
    rw [Nat.zero_mul] at j2
    have hbe := keepBelow hbe hbd
    have HXZ3 := Lib.hid (HXZ2.out.below hbd)
    have HZZ3 := Lib.hid (HZZ2.out.below (World.block_lt_of_cell? _ ⟨w.heap.size, 0, none⟩ HXZ2.out.1.1) hbd)
    have HN3 := Lib.hid (keepRd hbd HN2.out)
    have HR3 := Lib.hid (keepRd hbd HRR.out)
    have s1 : IntKind.i64.wrap (n : Int) = n := by rw [IntKind.wrap_i64]; omega
    have s4 : (0 : Int) ≤ (n : Int) := by omega
    have s5 : (n : Int) < (n : Int) + 1 := by omega
    have s6 : (0 : Int) < (n : Int) + 1 := by omega
    obtain ⟨fr, hfr⟩ : ∃ x, firstFr r = x := ⟨_, rfl⟩
    obtain ⟨lt, hlt⟩ : ∃ x, lastTo r = x := ⟨_, rfl⟩
    rw [hfr] at HM j2
    rw [hlt] at HM j3
    clear hfr hlt k0 k1 b0 b1 hbd
    go_wp2_with fail
    refine wp_region_still_tail 15 (by kernel_rfl) (by kernel_rfl) ?_
    simp only [List.take_succ_cons, List.take_zero, List.drop_succ_cons, List.drop_zero]
    change wpStill _ _ (w1.alloc (.cells #[.int .i64 1, .slice none 0 0] 24)).drew _ _ _
    repeat still_step
    refine wpStill_nil ?_
    change wpList _ _ _ _ _ (w1.alloc (.cells #[.int .i64 1, .slice none 0 0] 24)).drew
    generalize (w1.alloc (.cells #[.int .i64 1, .slice none 0 0] 24)).drew = w6 at *
    obtain ⟨⟨Z0, Z1, Z2, Z3, Z4, Z5, Z6⟩, K0, K1, K2, K3, K4, K5, K6⟩ := HXZ3.out
    go_wp2
    change bodyPost _ _ _ _ _ (put7 w6 w.heap.size (.int .i64 1) (.slice none 0 0) (.int .i64 1) (.slice none 0 0) (.int .i64 fr) (.int .i64 lt) (.slice (some ⟨g8, 0, none⟩) (n + 1) qr))
    obtain ⟨r0, r1, r2, r3, r4, r5, r6⟩ := put7_at (.int .i64 1) (.slice none 0 0) (.int .i64 1) (.slice none 0 0) (.int .i64 fr) (.int .i64 lt) (.slice (some ⟨g8, 0, none⟩) (n + 1) qr) Z0 Z1 Z2 Z3 Z4 Z5 Z6
    have hBZ := put7_below (.int .i64 1) (.slice none 0 0) (.int .i64 1) (.slice none 0 0) (.int .i64 fr) (.int .i64 lt) (.slice (some ⟨g8, 0, none⟩) (n + 1) qr) hbe (b := w.heap.size) (by omega)
    have hRZ := RdSt.put (s := ⟨(1, []), (1, []), fr, lt, r⟩) (.int .i64 1) (.slice none 0 0) (.int .i64 1) (.slice none 0 0) (.int .i64 fr) (.int .i64 lt) (.slice (some ⟨g8, 0, none⟩) (n + 1) qr) ⟨HN3.out, HN3.out, HR3.out⟩ ⟨fun s hs => by simp at hs, fun s hs => by simp at hs, canon_pos HRC.out⟩ HZZ3.out
    generalize put7 w6 w.heap.size (.int .i64 1) (.slice none 0 0) (.int .i64 1) (.slice none 0 0) (.int .i64 fr) (.int .i64 lt) (.slice (some ⟨g8, 0, none⟩) (n + 1) qr) = Z at *
    refine bodyPost_ret (v := .tuple #[.agg #[.int .i64 1, .slice none 0 0, .int .i64 1, .slice none 0 0, .int .i64 fr, .int .i64 lt, .slice (some ⟨g8, 0, none⟩) (n + 1) qr], .int .i64 0]) (by simp [results, Tryz.results39, go_sem, r0, r1, r2, r3, r4, r5, r6]) rfl ?_
    show TsPost _ w _ _
    rw [HM.out]
    exact ⟨_, _, _, rfl, hRZ, hBZ⟩
end Go.Proofs.YtnjpceocnldlfaaGreat
namespace Go.Proofs.YtnjpceocnldlfaaGreat
open Go.RowKit Wk

set_option maxRecDepth 100000 in
set_option maxHeartbeats 16000000 in
theorem rcomb14_any (kind : Int) (a b : St) (al ar av bl br bv : Value) (w : World) (ha : RdSt w a al ar av) (hb : RdSt w b bl br bv) :
    Calls Tryz.prog 93 #[.agg #[.int .i64 a.lf.1, al, .int .i64 a.rt.1, ar, .int .i64 a.fr, .int .i64 a.to, av], .agg #[.int .i64 b.lf.1, bl, .int .i64 b.rt.1, br, .int .i64 b.fr, .int .i64 b.to, bv], .int .i64 kind] w (TsPost (combM kind a b) w) := by
  have HVA := Lib.hid (fun W h => valid14_any a al ar av W h)
  have HVB := Lib.hid (fun W h => valid14_any b bl br bv W h)
  have HPL := Lib.hid (fun W h h' => comb13_any kind a.lf.1 b.lf.1 al bl a.lf.2 b.lf.2 W h h')
  have HPR := Lib.hid (fun W h h' => comb13_any kind a.rt.1 b.rt.1 ar br a.rt.2 b.rt.2 W h h')
  have HIA := Lib.hid (fun W h h1 h2 => rpure14_any a al ar av W h h1 h2)
  have HIB := Lib.hid (fun W h h1 h2 => rpure14_any b bl br bv W h h1 h2)
  have HWA := Lib.hid (fun f t W h h1 h2 => window14_any a al ar av f t W h h1 h2)
  have HWB := Lib.hid (fun f t W h h1 h2 => window14_any b bl br bv f t W h h1 h2)
  have HRA := Lib.hid ha
  have HRB := Lib.hid hb
  obtain ⟨a1, n1, e1⟩ := ha.1.form
  obtain ⟨a2, n2, e2⟩ := ha.2.1.form
  obtain ⟨a3, n3, e3⟩ := ha.2.2.form
  obtain ⟨b1, m1, e4⟩ := hb.1.form
  obtain ⟨b2, m2, e5⟩ := hb.2.1.form
  obtain ⟨b3, m3, e6⟩ := hb.2.2.form
  subst e1 e2 e3 e4 e5 e6
  clear ha hb
  obtain ⟨W, hWe⟩ : ∃ W, ((w.alloc (.cells #[.int .i64 a.lf.1, (.slice a1 a.lf.2.length n1), .int .i64 a.rt.1, (.slice a2 a.rt.2.length n2), .int .i64 a.fr, .int .i64 a.to, (.slice a3 a.l.length n3)] 26)).alloc (.cells #[.int .i64 b.lf.1, (.slice b1 b.lf.2.length m1), .int .i64 b.rt.1, (.slice b2 b.rt.2.length m2), .int .i64 b.fr, .int .i64 b.to, (.slice b3 b.l.length m3)] 26)).alloc (.cells #[.int .i64 0, .slice none 0 0, .int .i64 0, .slice none 0 0, .int .i64 0, .int .i64 0, .slice none 0 0] 26) = W := ⟨_, rfl⟩
  have hW : Below w.heap.size w W := by rw [← hWe]; exact (((Below.refl _ w).alloc (Nat.le_refl _) _).alloc (by simp) _).alloc (by simp; omega) _
  have HX : Hid (Set7 W w.heap.size (.int .i64 a.lf.1) (.slice a1 a.lf.2.length n1) (.int .i64 a.rt.1) (.slice a2 a.rt.2.length n2) (.int .i64 a.fr) (.int .i64 a.to) (.slice a3 a.l.length n3) ∧ Set7 W (w.heap.size + 1) (.int .i64 b.lf.1) (.slice b1 b.lf.2.length m1) (.int .i64 b.rt.1) (.slice b2 b.rt.2.length m2) (.int .i64 b.fr) (.int .i64 b.to) (.slice b3 b.l.length m3) ∧ Set7 W (w.heap.size + 1 + 1) (.int .i64 0) (.slice none 0 0) (.int .i64 0) (.slice none 0 0) (.int .i64 0) (.int .i64 0) (.slice none 0 0) ∧ Zero7 W (w.heap.size + 1 + 1) ∧ RdSt W a (.slice a1 a.lf.2.length n1) (.slice a2 a.rt.2.length n2) (.slice a3 a.l.length n3) ∧ RdSt W b (.slice b1 b.lf.2.length m1) (.slice b2 b.rt.2.length m2) (.slice b3 b.l.length m3) ∧ Below w.heap.size w W) := by
    refine ⟨?_, ?_, ?_, ?_, keepSt hW HRA.out, keepSt hW HRB.out, hW⟩
    · rw [← hWe]
      refine ⟨⟨?_, ?_, ?_, ?_, ?_, ?_, ?_⟩, ?_, ?_, ?_, ?_, ?_, ?_, ?_⟩ <;> simp [go_sem]
    · rw [← hWe]
      refine ⟨⟨?_, ?_, ?_, ?_, ?_, ?_, ?_⟩, ?_, ?_, ?_, ?_, ?_, ?_, ?_⟩ <;> simp [go_sem]
    · rw [← hWe]
      refine ⟨⟨?_, ?_, ?_, ?_, ?_, ?_, ?_⟩, ?_, ?_, ?_, ?_, ?_, ?_, ?_⟩ <;> simp [go_sem]
    · rw [← hWe]
      have := zero7_new ((w.alloc (.cells #[.int .i64 a.lf.1, (.slice a1 a.lf.2.length n1), .int .i64 a.rt.1, (.slice a2 a.rt.2.length n2), .int .i64 a.fr, .int .i64 a.to, (.slice a3 a.l.length n3)] 26)).alloc (.cells #[.int .i64 b.lf.1, (.slice b1 b.lf.2.length m1), .int .i64 b.rt.1, (.slice b2 b.rt.2.length m2), .int .i64 b.fr, .int .i64 b.to, (.slice b3 b.l.length m3)] 26))
      simpa using this
  have HE := Lib.hid hWe
  clear hWe hW HRA HRB
  obtain ⟨ga, hga⟩ : ∃ g, VB a = g := ⟨_, rfl⟩
  obtain ⟨gb, hgb⟩ : ∃ g, VB b = g := ⟨_, rfl⟩
  rw [hga] at HVA
  rw [hgb] at HVB
  have HGA := Lib.hid hga
  have HGB := Lib.hid hgb
  clear hga hgb
  obtain ⟨⟨⟨A0, A1, A2, A3, A4, A5, A6⟩, -⟩, ⟨⟨B0, B1, B2, B3, B4, B5, B6⟩, -⟩, -, -, -, -, hbe⟩ := HX.out
  go_enter Tryz.func93, Tryz.ntmps93
  go_wp2_with fail
  rw [HE.out]
  go_wp2_with fail
  refine (HVA.out _ HX.out.2.2.2.2.1).mono ?_
  rintro e w1 ⟨rfl, hb⟩
  have HX1 := Lib.hid (And.intro (HX.out.1.below hb) (And.intro (HX.out.2.1.below hb) (And.intro (HX.out.2.2.1.below hb) (And.intro (HX.out.2.2.2.1.below (World.block_lt_of_cell? _ ⟨w.heap.size + 1 + 1, 0, none⟩ HX.out.2.2.1.1.1) hb) (And.intro (keepSt hb HX.out.2.2.2.2.1) (And.intro (keepSt hb HX.out.2.2.2.2.2.1) (keepBelow HX.out.2.2.2.2.2.2 hb)))))))
  clear A0 A1 A2 A3 A4 A5 A6 B0 B1 B2 B3 B4 B5 B6 hbe
  clear hb HX HE
  obtain ⟨⟨⟨A0, A1, A2, A3, A4, A5, A6⟩, -⟩, ⟨⟨B0, B1, B2, B3, B4, B5, B6⟩, -⟩, -, -, -, -, hbe⟩ := HX1.out
  cases ga with
  | false =>
    have HM := Lib.hid (comb_bad (kind := kind) (a := a) (b := b) (.inl HGA.out))
    obtain ⟨⟨Z0, Z1, Z2, Z3, Z4, Z5, Z6⟩, K0, K1, K2, K3, K4, K5, K6⟩ := HX1.out.2.2.1
    go_wp2
    change bodyPost _ _ _ _ _ (put7 w1 (w.heap.size + 1 + 1) (.int .i64 0) (.slice none 0 0) (.int .i64 0) (.slice none 0 0) (.int .i64 0) (.int .i64 0) (.slice none 0 0))
    obtain ⟨r0, r1, r2, r3, r4, r5, r6⟩ := put7_at (.int .i64 0) (.slice none 0 0) (.int .i64 0) (.slice none 0 0) (.int .i64 0) (.int .i64 0) (.slice none 0 0) Z0 Z1 Z2 Z3 Z4 Z5 Z6
    have hBZ := put7_below (.int .i64 0) (.slice none 0 0) (.int .i64 0) (.slice none 0 0) (.int .i64 0) (.int .i64 0) (.slice none 0 0) hbe (b := (w.heap.size + 1 + 1)) (by omega)
    have hRZ : RdSt (put7 w1 (w.heap.size + 1 + 1) (.int .i64 0) (.slice none 0 0) (.int .i64 0) (.slice none 0 0) (.int .i64 0) (.int .i64 0) (.slice none 0 0)) noSt (.slice none 0 0) (.slice none 0 0) (.slice none 0 0) := rdst_no _
    generalize put7 w1 (w.heap.size + 1 + 1) (.int .i64 0) (.slice none 0 0) (.int .i64 0) (.slice none 0 0) (.int .i64 0) (.int .i64 0) (.slice none 0 0) = Z at *
    refine bodyPost_ret (v := .tuple #[.agg #[.int .i64 0, .slice none 0 0, .int .i64 0, .slice none 0 0, .int .i64 0, .int .i64 0, .slice none 0 0], .int .i64 1]) (by simp [results, Tryz.results93, go_sem, r0, r1, r2, r3, r4, r5, r6]) rfl ?_
    show TsPost _ w _ _
    rw [HM.out]
    exact ⟨_, _, _, rfl, hRZ, hBZ⟩
  | true =>
  go_wp2_with fail
  refine (HVB.out _ HX1.out.2.2.2.2.2.1).mono ?_
  rintro e w2 ⟨rfl, hb⟩
  have HX2 := Lib.hid (And.intro (HX1.out.1.below hb) (And.intro (HX1.out.2.1.below hb) (And.intro (HX1.out.2.2.1.below hb) (And.intro (HX1.out.2.2.2.1.below (World.block_lt_of_cell? _ ⟨w.heap.size + 1 + 1, 0, none⟩ HX1.out.2.2.1.1.1) hb) (And.intro (keepSt hb HX1.out.2.2.2.2.1) (And.intro (keepSt hb HX1.out.2.2.2.2.2.1) (keepBelow HX1.out.2.2.2.2.2.2 hb)))))))
  clear A0 A1 A2 A3 A4 A5 A6 B0 B1 B2 B3 B4 B5 B6 hbe
  clear hb HX1
  obtain ⟨⟨⟨A0, A1, A2, A3, A4, A5, A6⟩, -⟩, ⟨⟨B0, B1, B2, B3, B4, B5, B6⟩, -⟩, -, -, -, -, hbe⟩ := HX2.out
  cases gb with
  | false =>
    have HM := Lib.hid (comb_bad (kind := kind) (a := a) (b := b) (.inr HGB.out))
    obtain ⟨⟨Z0, Z1, Z2, Z3, Z4, Z5, Z6⟩, K0, K1, K2, K3, K4, K5, K6⟩ := HX2.out.2.2.1
    go_wp2
    change bodyPost _ _ _ _ _ (put7 w2 (w.heap.size + 1 + 1) (.int .i64 0) (.slice none 0 0) (.int .i64 0) (.slice none 0 0) (.int .i64 0) (.int .i64 0) (.slice none 0 0))
    obtain ⟨r0, r1, r2, r3, r4, r5, r6⟩ := put7_at (.int .i64 0) (.slice none 0 0) (.int .i64 0) (.slice none 0 0) (.int .i64 0) (.int .i64 0) (.slice none 0 0) Z0 Z1 Z2 Z3 Z4 Z5 Z6
    have hBZ := put7_below (.int .i64 0) (.slice none 0 0) (.int .i64 0) (.slice none 0 0) (.int .i64 0) (.int .i64 0) (.slice none 0 0) hbe (b := (w.heap.size + 1 + 1)) (by omega)
    have hRZ : RdSt (put7 w2 (w.heap.size + 1 + 1) (.int .i64 0) (.slice none 0 0) (.int .i64 0) (.slice none 0 0) (.int .i64 0) (.int .i64 0) (.slice none 0 0)) noSt (.slice none 0 0) (.slice none 0 0) (.slice none 0 0) := rdst_no _
    generalize put7 w2 (w.heap.size + 1 + 1) (.int .i64 0) (.slice none 0 0) (.int .i64 0) (.slice none 0 0) (.int .i64 0) (.int .i64 0) (.slice none 0 0) = Z at *
    refine bodyPost_ret (v := .tuple #[.agg #[.int .i64 0, .slice none 0 0, .int .i64 0, .slice none 0 0, .int .i64 0, .int .i64 0, .slice none 0 0], .int .i64 1]) (by simp [results, Tryz.results93, go_sem, r0, r1, r2, r3, r4, r5, r6]) rfl ?_
    show TsPost _ w _ _
    rw [HM.out]
    exact ⟨_, _, _, rfl, hRZ, hBZ⟩
  | true =>
  go_wp2_with fail
  refine (HPL.out _ HX2.out.2.2.2.2.1.1 HX2.out.2.2.2.2.2.1.1).mono ?_
  rintro e w3 ⟨v1, rfl, o1, hb⟩
  obtain ⟨⟨⟨P1, l1⟩, e1⟩, hr1⟩ : ∃ r, bothM kind (a.lf.1, a.lf.2) (b.lf.1, b.lf.2) = r := ⟨_, rfl⟩
  rw [hr1] at o1 ⊢
  have HB1 : Hid (bothM kind a.lf b.lf = ((P1, l1), e1)) := hr1
  clear hr1
  simp only at o1 ⊢
  obtain ⟨p1, q1, rfl, _⟩ := o1.form
  have HXa := Lib.hid (And.intro (HX2.out.1.below hb) (And.intro (HX2.out.2.1.below hb) (And.intro (HX2.out.2.2.1.below hb) (And.intro (HX2.out.2.2.2.1.below (World.block_lt_of_cell? _ ⟨w.heap.size + 1 + 1, 0, none⟩ HX2.out.2.2.1.1.1) hb) (And.intro (keepSt hb HX2.out.2.2.2.2.1) (And.intro (keepSt hb HX2.out.2.2.2.2.2.1) (keepBelow HX2.out.2.2.2.2.2.2 hb)))))))
  clear A0 A1 A2 A3 A4 A5 A6 B0 B1 B2 B3 B4 B5 B6 hbe
  clear hb HX2
  have hb := (Below.refl w3.heap.size w3).alloc (Nat.le_refl _) (.cells #[.int .i64 P1, .slice p1 l1.length q1] 24)
  have HXb := Lib.hid (And.intro (HXa.out.1.below hb) (And.intro (HXa.out.2.1.below hb) (And.intro (HXa.out.2.2.1.below hb) (And.intro (HXa.out.2.2.2.1.below (World.block_lt_of_cell? _ ⟨w.heap.size + 1 + 1, 0, none⟩ HXa.out.2.2.1.1.1) hb) (And.intro (keepSt hb HXa.out.2.2.2.2.1) (And.intro (keepSt hb HXa.out.2.2.2.2.2.1) (keepBelow HXa.out.2.2.2.2.2.2 hb)))))))
  have HO1 := Lib.hid (o1.below hb)
  have HBX1 : Hid (Box2 (w3.alloc (.cells #[.int .i64 P1, .slice p1 l1.length q1] 24)) w3.heap.size (.int .i64 P1) (.slice p1 l1.length q1)) := box2_new _ _ _ _
  clear hb o1 HXa
  obtain ⟨⟨⟨A0, A1, A2, A3, A4, A5, A6⟩, -⟩, ⟨⟨B0, B1, B2, B3, B4, B5, B6⟩, -⟩, -, -, -, -, hbe⟩ := HXb.out
  by_cases h1 : e1 ≠ 0
  ·
    have HM := Lib.hid (comb_left (kind := kind) HGA.out HGB.out (by rw [HB1.out]) h1)
    have t1 : (e1 != 0) = true := by simpa using h1
    clear h1
    obtain ⟨⟨Z0, Z1, Z2, Z3, Z4, Z5, Z6⟩, K0, K1, K2, K3, K4, K5, K6⟩ := HXb.out.2.2.1
    go_wp2
    change bodyPost _ _ _ _ _ (put7 (w3.alloc (.cells #[.int .i64 P1, .slice p1 l1.length q1] 24)) (w.heap.size + 1 + 1) (.int .i64 0) (.slice none 0 0) (.int .i64 0) (.slice none 0 0) (.int .i64 0) (.int .i64 0) (.slice none 0 0))
    obtain ⟨r0, r1, r2, r3, r4, r5, r6⟩ := put7_at (.int .i64 0) (.slice none 0 0) (.int .i64 0) (.slice none 0 0) (.int .i64 0) (.int .i64 0) (.slice none 0 0) Z0 Z1 Z2 Z3 Z4 Z5 Z6
    have hBZ := put7_below (.int .i64 0) (.slice none 0 0) (.int .i64 0) (.slice none 0 0) (.int .i64 0) (.int .i64 0) (.slice none 0 0) hbe (b := (w.heap.size + 1 + 1)) (by omega)
    have hRZ : RdSt (put7 (w3.alloc (.cells #[.int .i64 P1, .slice p1 l1.length q1] 24)) (w.heap.size + 1 + 1) (.int .i64 0) (.slice none 0 0) (.int .i64 0) (.slice none 0 0) (.int .i64 0) (.int .i64 0) (.slice none 0 0)) noSt (.slice none 0 0) (.slice none 0 0) (.slice none 0 0) := rdst_no _
    generalize put7 (w3.alloc (.cells #[.int .i64 P1, .slice p1 l1.length q1] 24)) (w.heap.size + 1 + 1) (.int .i64 0) (.slice none 0 0) (.int .i64 0) (.slice none 0 0) (.int .i64 0) (.int .i64 0) (.slice none 0 0) = Z at *
    refine bodyPost_ret (v := .tuple #[.agg #[.int .i64 0, .slice none 0 0, .int .i64 0, .slice none 0 0, .int .i64 0, .int .i64 0, .slice none 0 0], .int .i64 e1]) (by simp [results, Tryz.results93, go_sem, r0, r1, r2, r3, r4, r5, r6]) rfl ?_
    show TsPost _ w _ _
    rw [HM.out]
    exact ⟨_, _, _, rfl, hRZ, hBZ⟩
  have h1 : e1 = 0 := by omega
  subst h1
  have HQ1 := Lib.hid (bothM_ok (kind := kind) (p := a.lf) (q := b.lf) (by rw [HB1.out]))
  rw [HB1.out] at HQ1
  have HL1 : Hid (l1.length ≤ 2000) := (canon_of_rvB (rvB_of_pvB HQ1.out.2.2.1).1).2.2
  have HR1 : Hid (RdS (w3.alloc (.cells #[.int .i64 P1, .slice p1 l1.length q1] 24)) (.slice p1 l1.length q1) l1) := HO1.out.rd (by have := HL1.out; omega)
  clear A0 A1 A2 A3 A4 A5 A6 B0 B1 B2 B3 B4 B5 B6 hbe
  have HY1 := Lib.hid (And.intro HXb.out.1 (And.intro HXb.out.2.1 (And.intro HXb.out.2.2.1 (And.intro HXb.out.2.2.2.1 (And.intro HXb.out.2.2.2.2.1 (And.intro HXb.out.2.2.2.2.2.1 (And.intro HBX1.out (And.intro HR1.out HXb.out.2.2.2.2.2.2))))))))
  clear HXb HO1 HBX1 HR1
  obtain ⟨⟨⟨A0, A1, A2, A3, A4, A5, A6⟩, -⟩, ⟨⟨B0, B1, B2, B3, B4, B5, B6⟩, -⟩, -, -, -, -, ⟨⟨x0, x1⟩, -⟩, -, hbe⟩ := HY1.out
  go_wp2_with fail
  refine (HPR.out _ HY1.out.2.2.2.2.1.2.1 HY1.out.2.2.2.2.2.1.2.1).mono ?_
  rintro e w4 ⟨v2, rfl, o2, hb⟩
  obtain ⟨⟨⟨P2, l2⟩, e2⟩, hr2⟩ : ∃ r, bothM kind (a.rt.1, a.rt.2) (b.rt.1, b.rt.2) = r := ⟨_, rfl⟩
  rw [hr2] at o2 ⊢
  have HB2 : Hid (bothM kind a.rt b.rt = ((P2, l2), e2)) := hr2
  clear hr2
  simp only at o2 ⊢
  obtain ⟨p2, q2, rfl, _⟩ := o2.form
  have HXa := Lib.hid (And.intro (HY1.out.1.below hb) (And.intro (HY1.out.2.1.below hb) (And.intro (HY1.out.2.2.1.below hb) (And.intro (HY1.out.2.2.2.1.below (World.block_lt_of_cell? _ ⟨w.heap.size + 1 + 1, 0, none⟩ HY1.out.2.2.1.1.1) hb) (And.intro (keepSt hb HY1.out.2.2.2.2.1) (And.intro (keepSt hb HY1.out.2.2.2.2.2.1) (And.intro (HY1.out.2.2.2.2.2.2.1.below hb) (And.intro (keepRd hb HY1.out.2.2.2.2.2.2.2.1) (keepBelow HY1.out.2.2.2.2.2.2.2.2 hb)))))))))
  clear A0 A1 A2 A3 A4 A5 A6 B0 B1 B2 B3 B4 B5 B6 x0 x1 hbe
  clear hb HY1
  have hb := (Below.refl w4.heap.size w4).alloc (Nat.le_refl _) (.cells #[.int .i64 P2, .slice p2 l2.length q2] 24)
  have HXb := Lib.hid (And.intro (HXa.out.1.below hb) (And.intro (HXa.out.2.1.below hb) (And.intro (HXa.out.2.2.1.below hb) (And.intro (HXa.out.2.2.2.1.below (World.block_lt_of_cell? _ ⟨w.heap.size + 1 + 1, 0, none⟩ HXa.out.2.2.1.1.1) hb) (And.intro (keepSt hb HXa.out.2.2.2.2.1) (And.intro (keepSt hb HXa.out.2.2.2.2.2.1) (And.intro (HXa.out.2.2.2.2.2.2.1.below hb) (And.intro (keepRd hb HXa.out.2.2.2.2.2.2.2.1) (keepBelow HXa.out.2.2.2.2.2.2.2.2 hb)))))))))
  have HO2 := Lib.hid (o2.below hb)
  have HBX2 : Hid (Box2 (w4.alloc (.cells #[.int .i64 P2, .slice p2 l2.length q2] 24)) w4.heap.size (.int .i64 P2) (.slice p2 l2.length q2)) := box2_new _ _ _ _
  clear hb o2 HXa
  obtain ⟨⟨⟨A0, A1, A2, A3, A4, A5, A6⟩, -⟩, ⟨⟨B0, B1, B2, B3, B4, B5, B6⟩, -⟩, -, -, -, -, ⟨⟨x0, x1⟩, -⟩, -, hbe⟩ := HXb.out
  by_cases h2 : e2 ≠ 0
  ·
    have HM := Lib.hid (comb_right (kind := kind) HGA.out HGB.out (by rw [HB1.out]) (by rw [HB2.out]) h2)
    have t1 : (e2 != 0) = true := by simpa using h2
    clear h2
    obtain ⟨⟨Z0, Z1, Z2, Z3, Z4, Z5, Z6⟩, K0, K1, K2, K3, K4, K5, K6⟩ := HXb.out.2.2.1
    go_wp2
    change bodyPost _ _ _ _ _ (put7 (w4.alloc (.cells #[.int .i64 P2, .slice p2 l2.length q2] 24)) (w.heap.size + 1 + 1) (.int .i64 0) (.slice none 0 0) (.int .i64 0) (.slice none 0 0) (.int .i64 0) (.int .i64 0) (.slice none 0 0))
    obtain ⟨r0, r1, r2, r3, r4, r5, r6⟩ := put7_at (.int .i64 0) (.slice none 0 0) (.int .i64 0) (.slice none 0 0) (.int .i64 0) (.int .i64 0) (.slice none 0 0) Z0 Z1 Z2 Z3 Z4 Z5 Z6
    have hBZ := put7_below (.int .i64 0) (.slice none 0 0) (.int .i64 0) (.slice none 0 0) (.int .i64 0) (.int .i64 0) (.slice none 0 0) hbe (b := (w.heap.size + 1 + 1)) (by omega)
    have hRZ : RdSt (put7 (w4.alloc (.cells #[.int .i64 P2, .slice p2 l2.length q2] 24)) (w.heap.size + 1 + 1) (.int .i64 0) (.slice none 0 0) (.int .i64 0) (.slice none 0 0) (.int .i64 0) (.int .i64 0) (.slice none 0 0)) noSt (.slice none 0 0) (.slice none 0 0) (.slice none 0 0) := rdst_no _
    generalize put7 (w4.alloc (.cells #[.int .i64 P2, .slice p2 l2.length q2] 24)) (w.heap.size + 1 + 1) (.int .i64 0) (.slice none 0 0) (.int .i64 0) (.slice none 0 0) (.int .i64 0) (.int .i64 0) (.slice none 0 0) = Z at *
    refine bodyPost_ret (v := .tuple #[.agg #[.int .i64 0, .slice none 0 0, .int .i64 0, .slice none 0 0, .int .i64 0, .int .i64 0, .slice none 0 0], .int .i64 e2]) (by simp [results, Tryz.results93, go_sem, r0, r1, r2, r3, r4, r5, r6]) rfl ?_
    show TsPost _ w _ _
    rw [HM.out]
    exact ⟨_, _, _, rfl, hRZ, hBZ⟩
  have h2 : e2 = 0 := by omega
  subst h2
  have HQ2 := Lib.hid (bothM_ok (kind := kind) (p := a.rt) (q := b.rt) (by rw [HB2.out]))
  rw [HB2.out] at HQ2
  have HL2 : Hid (l2.length ≤ 2000) := (canon_of_rvB (rvB_of_pvB HQ2.out.2.2.1).1).2.2
  have HR2 : Hid (RdS (w4.alloc (.cells #[.int .i64 P2, .slice p2 l2.length q2] 24)) (.slice p2 l2.length q2) l2) := HO2.out.rd (by have := HL2.out; omega)
  clear A0 A1 A2 A3 A4 A5 A6 B0 B1 B2 B3 B4 B5 B6 x0 x1 hbe
  have HY2 := Lib.hid (And.intro HXb.out.1 (And.intro HXb.out.2.1 (And.intro HXb.out.2.2.1 (And.intro HXb.out.2.2.2.1 (And.intro HXb.out.2.2.2.2.1 (And.intro HXb.out.2.2.2.2.2.1 (And.intro HXb.out.2.2.2.2.2.2.1 (And.intro HXb.out.2.2.2.2.2.2.2.1 (And.intro HBX2.out (And.intro HR2.out HXb.out.2.2.2.2.2.2.2.2))))))))))
  clear HXb HO2 HBX2 HR2
  obtain ⟨⟨⟨A0, A1, A2, A3, A4, A5, A6⟩, -⟩, ⟨⟨B0, B1, B2, B3, B4, B5, B6⟩, -⟩, -, -, -, -, ⟨⟨x0, x1⟩, -⟩, -, ⟨⟨y0, y1⟩, -⟩, -, hbe⟩ := HY2.out
  have HPP : Hid (∀ W, RdS W (.slice p1 l1.length q1) l1 → RdS W (.slice p2 l2.length q2) l2 → Calls Tryz.prog 106 #[.agg #[.int .i64 P1, .slice p1 l1.length q1], .agg #[.int .i64 P2, .slice p2 l2.length q2]] W fun e w' => ∃ mm, e = .returned (.tuple #[.int .i64 mm, .int .i64 (pairM P1 l1 P2 l2)]) ∧ Below W.heap.size W w') := fun W h h' => by
    have g1 := rvB_of_pvB HQ1.out.2.2.1
    have g2 := rvB_of_pvB HQ2.out.2.2.1
    have := pair14_any P1 P2 _ _ l1 l2 W h h' g1.2.1 g1.2.2.1 g2.2.1 g2.2.2.1 HL1.out HL2.out
    rw [pairQ_err HQ1.out.2.2.1 HQ2.out.2.2.1] at this
    exact this.mono fun e w' hh => ⟨_, hh.1, hh.2⟩
  obtain ⟨pe, hpe⟩ : ∃ pe, pairM P1 l1 P2 l2 = pe := ⟨_, rfl⟩
  rw [hpe] at HPP
  have HPE := Lib.hid hpe
  clear hpe
  go_wp2_with fail
  refine (HPP.out _ HY2.out.2.2.2.2.2.2.2.1 HY2.out.2.2.2.2.2.2.2.2.2.1).mono ?_
  rintro e w5 ⟨mm, rfl, hb⟩
  have HX5 := Lib.hid (And.intro (HY2.out.1.below hb) (And.intro (HY2.out.2.1.below hb) (And.intro (HY2.out.2.2.1.below hb) (And.intro (HY2.out.2.2.2.1.below (World.block_lt_of_cell? _ ⟨w.heap.size + 1 + 1, 0, none⟩ HY2.out.2.2.1.1.1) hb) (And.intro (keepSt hb HY2.out.2.2.2.2.1) (And.intro (keepSt hb HY2.out.2.2.2.2.2.1) (And.intro (HY2.out.2.2.2.2.2.2.1.below hb) (And.intro (keepRd hb HY2.out.2.2.2.2.2.2.2.1) (And.intro (HY2.out.2.2.2.2.2.2.2.2.1.below hb) (And.intro (keepRd hb HY2.out.2.2.2.2.2.2.2.2.2.1) (keepBelow HY2.out.2.2.2.2.2.2.2.2.2.2 hb)))))))))))
  clear A0 A1 A2 A3 A4 A5 A6 B0 B1 B2 B3 B4 B5 B6 x0 x1 y0 y1 hbe
  clear hb HY2
  obtain ⟨⟨⟨A0, A1, A2, A3, A4, A5, A6⟩, -⟩, ⟨⟨B0, B1, B2, B3, B4, B5, B6⟩, -⟩, -, -, -, -, ⟨⟨x0, x1⟩, -⟩, -, ⟨⟨y0, y1⟩, -⟩, -, hbe⟩ := HX5.out
  by_cases h3 : pe ≠ 0
  ·
    have HM := Lib.hid (comb_pair (kind := kind) HGA.out HGB.out HB1.out HB2.out HPE.out h3)
    have t1 : (pe != 0) = true := by simpa using h3
    clear h3
    obtain ⟨⟨Z0, Z1, Z2, Z3, Z4, Z5, Z6⟩, K0, K1, K2, K3, K4, K5, K6⟩ := HX5.out.2.2.1
    go_wp2
    change bodyPost _ _ _ _ _ (put7 w5 (w.heap.size + 1 + 1) (.int .i64 0) (.slice none 0 0) (.int .i64 0) (.slice none 0 0) (.int .i64 0) (.int .i64 0) (.slice none 0 0))
    obtain ⟨r0, r1, r2, r3, r4, r5, r6⟩ := put7_at (.int .i64 0) (.slice none 0 0) (.int .i64 0) (.slice none 0 0) (.int .i64 0) (.int .i64 0) (.slice none 0 0) Z0 Z1 Z2 Z3 Z4 Z5 Z6
    have hBZ := put7_below (.int .i64 0) (.slice none 0 0) (.int .i64 0) (.slice none 0 0) (.int .i64 0) (.int .i64 0) (.slice none 0 0) hbe (b := (w.heap.size + 1 + 1)) (by omega)
    have hRZ : RdSt (put7 w5 (w.heap.size + 1 + 1) (.int .i64 0) (.slice none 0 0) (.int .i64 0) (.slice none 0 0) (.int .i64 0) (.int .i64 0) (.slice none 0 0)) noSt (.slice none 0 0) (.slice none 0 0) (.slice none 0 0) := rdst_no _
    generalize put7 w5 (w.heap.size + 1 + 1) (.int .i64 0) (.slice none 0 0) (.int .i64 0) (.slice none 0 0) (.int .i64 0) (.int .i64 0) (.slice none 0 0) = Z at *
    refine bodyPost_ret (v := .tuple #[.agg #[.int .i64 0, .slice none 0 0, .int .i64 0, .slice none 0 0, .int .i64 0, .int .i64 0, .slice none 0 0], .int .i64 pe]) (by simp [results, Tryz.results93, go_sem, r0, r1, r2, r3, r4, r5, r6]) rfl ?_
    show TsPost _ w _ _
    rw [HM.out]
    exact ⟨_, _, _, rfl, hRZ, hBZ⟩
  have h3 : pe = 0 := by omega
  subst h3
  have HOA := Lib.hid (okS_of_VB HGA.out)
  have HOB := Lib.hid (okS_of_VB HGB.out)
  obtain ⟨pa, hpa⟩ : ∃ pa, pureB a = pa := ⟨_, rfl⟩
  obtain ⟨pb, hpb⟩ : ∃ pb, pureB b = pb := ⟨_, rfl⟩
  have HIA := Lib.hid (fun W h => HIA.out W h HOA.out.lf HOA.out.rt)
  have HIB := Lib.hid (fun W h => HIB.out W h HOB.out.lf HOB.out.rt)
  rw [hpa] at HIA
  rw [hpb] at HIB
  obtain ⟨f, hf⟩ : ∃ f, winL a b = f := ⟨_, rfl⟩
  obtain ⟨t, ht⟩ : ∃ t, winR a b = t := ⟨_, rfl⟩
  have HWL := Lib.hid hf
  have HWR := Lib.hid ht
  have HWO := Lib.hid (cwin_ok HOA.out HOB.out)
  rw [hf, ht] at HWO
  have HFV : Hid (f = (if pa = true then b.fr else if pb = true then a.fr else min a.fr b.fr) ∧ t = (if pa = true then b.to else if pb = true then a.to else max a.to b.to)) := by
    unfold Hid
    rw [← hf, ← ht, ← hpa, ← hpb]
    exact ⟨rfl, rfl⟩
  clear hf ht hpa hpb
  go_wp2_with fail
  refine (HIA.out _ HX5.out.2.2.2.2.1).mono ?_
  rintro e w6 ⟨rfl, hb⟩
  have HX6 := Lib.hid (And.intro (HX5.out.1.below hb) (And.intro (HX5.out.2.1.below hb) (And.intro (HX5.out.2.2.1.below hb) (And.intro (HX5.out.2.2.2.1.below (World.block_lt_of_cell? _ ⟨w.heap.size + 1 + 1, 0, none⟩ HX5.out.2.2.1.1.1) hb) (And.intro (keepSt hb HX5.out.2.2.2.2.1) (And.intro (keepSt hb HX5.out.2.2.2.2.2.1) (And.intro (HX5.out.2.2.2.2.2.2.1.below hb) (And.intro (keepRd hb HX5.out.2.2.2.2.2.2.2.1) (And.intro (HX5.out.2.2.2.2.2.2.2.2.1.below hb) (And.intro (keepRd hb HX5.out.2.2.2.2.2.2.2.2.2.1) (keepBelow HX5.out.2.2.2.2.2.2.2.2.2.2 hb)))))))))))
  clear A0 A1 A2 A3 A4 A5 A6 B0 B1 B2 B3 B4 B5 B6 x0 x1 y0 y1 hbe
  clear hb HX5
  obtain ⟨⟨⟨A0, A1, A2, A3, A4, A5, A6⟩, -⟩, ⟨⟨B0, B1, B2, B3, B4, B5, B6⟩, -⟩, -, -, -, -, ⟨⟨x0, x1⟩, -⟩, -, ⟨⟨y0, y1⟩, -⟩, -, hbe⟩ := HX6.out
  go_upto_if 66 with fail
  go_cut [13, 14] from 67 to 87 (fun u v wx => u = .int .i64 f ∧ v = .int .i64 t ∧ Below w6.heap.size w6 wx)
  case first =>
    cases pa with
    | true =>
      have hq : f = b.fr ∧ t = b.to := by have := HFV.out; simpa using this
      have HQ := Lib.hid hq
      clear hq
      go_wp2_with fail
      go_region
      all_goals (go_wp2_with fail; go_meet)
      all_goals (case rel => exact ⟨by rw [HQ.out.1], by rw [HQ.out.2], (Below.refl _ _).drew⟩)
    | false =>
      go_wp2_with fail
      refine (HIB.out _ HX6.out.2.2.2.2.2.1).mono ?_
      rintro e w7 ⟨rfl, hb⟩
      have HX7 := Lib.hid (And.intro (HX6.out.1.below hb) (And.intro (HX6.out.2.1.below hb) (And.intro (HX6.out.2.2.1.below hb) (And.intro (HX6.out.2.2.2.1.below (World.block_lt_of_cell? _ ⟨w.heap.size + 1 + 1, 0, none⟩ HX6.out.2.2.1.1.1) hb) (And.intro (keepSt hb HX6.out.2.2.2.2.1) (And.intro (keepSt hb HX6.out.2.2.2.2.2.1) (And.intro (HX6.out.2.2.2.2.2.2.1.below hb) (And.intro (keepRd hb HX6.out.2.2.2.2.2.2.2.1) (And.intro (HX6.out.2.2.2.2.2.2.2.2.1.below hb) (And.intro (keepRd hb HX6.out.2.2.2.2.2.2.2.2.2.1) (keepBelow HX6.out.2.2.2.2.2.2.2.2.2.2 hb)))))))))))
      clear A0 A1 A2 A3 A4 A5 A6 B0 B1 B2 B3 B4 B5 B6 x0 x1 y0 y1 hbe
      have HBB := Lib.hid hb
      clear hb HX6
      obtain ⟨⟨⟨A0, A1, A2, A3, A4, A5, A6⟩, -⟩, ⟨⟨B0, B1, B2, B3, B4, B5, B6⟩, -⟩, -, -, -, -, ⟨⟨x0, x1⟩, -⟩, -, ⟨⟨y0, y1⟩, -⟩, -, hbe⟩ := HX7.out
      cases pb with
      | true =>
        have hq : f = a.fr ∧ t = a.to := by have := HFV.out; simpa using this
        have HQ := Lib.hid hq
        clear hq
        go_wp2_with fail
        go_region
        all_goals (go_wp2_with fail; go_meet)
        all_goals (case rel => exact ⟨by rw [HQ.out.1], by rw [HQ.out.2], HBB.out.drew⟩)
      | false =>
        have hq : f = min a.fr b.fr ∧ t = max a.to b.to := by have := HFV.out; simpa using this
        have HQ := Lib.hid hq
        clear hq
        go_wp2_with fail
        go_region
        all_goals (go_wp2_with fail; go_meet)
        all_goals (case rel => exact ⟨by rw [HQ.out.1], by rw [HQ.out.2], HBB.out.drew⟩)
  case rest =>
  obtain ⟨rfl, rfl, hb⟩ := hcut
  have HX8 := Lib.hid (And.intro (HX6.out.1.below hb) (And.intro (HX6.out.2.1.below hb) (And.intro (HX6.out.2.2.1.below hb) (And.intro (HX6.out.2.2.2.1.below (World.block_lt_of_cell? _ ⟨w.heap.size + 1 + 1, 0, none⟩ HX6.out.2.2.1.1.1) hb) (And.intro (keepSt hb HX6.out.2.2.2.2.1) (And.intro (keepSt hb HX6.out.2.2.2.2.2.1) (And.intro (HX6.out.2.2.2.2.2.2.1.below hb) (And.intro (keepRd hb HX6.out.2.2.2.2.2.2.2.1) (And.intro (HX6.out.2.2.2.2.2.2.2.2.1.below hb) (And.intro (keepRd hb HX6.out.2.2.2.2.2.2.2.2.2.1) (keepBelow HX6.out.2.2.2.2.2.2.2.2.2.2 hb)))))))))))
  clear A0 A1 A2 A3 A4 A5 A6 B0 B1 B2 B3 B4 B5 B6 x0 x1 y0 y1 hbe
  clear hb HX6
  obtain ⟨⟨⟨A0, A1, A2, A3, A4, A5, A6⟩, -⟩, ⟨⟨B0, B1, B2, B3, B4, B5, B6⟩, -⟩, -, -, -, -, ⟨⟨x0, x1⟩, -⟩, -, ⟨⟨y0, y1⟩, -⟩, -, hbe⟩ := HX8.out
  generalize wc = w8 at *
  by_cases hft : f < t
  case neg =>
    have t1 : decide (f < t) = false := by simpa using hft
    have hfe : (t - f).toNat = 0 := by omega
    have HFO := Lib.hid (comb_form (kind := kind) HGA.out HGB.out HB1.out HB2.out HPE.out HWL.out HWR.out (by rw [hfe]; simp [memF]))
    have HOK : Hid (OkS ⟨(P1, l1), (P2, l2), f, t, memF (fun x => ruleB kind (hasS a x) (hasS b x)) f (t - f).toNat⟩) := comb_ok HQ1.out.2.2.1 HQ2.out.2.2.1 HWO.out.1 HWO.out.2.1 HWO.out.2.2 (by rw [hfe]; simp [memF])
    rw [hfe] at HFO HOK
    have e0 : memF (fun x => ruleB kind (hasS a x) (hasS b x)) f 0 = [] := rfl
    rw [e0] at HFO HOK
    have HRL := Lib.hid (rd_none w8)
    clear hft hfe e0

    have HF := Lib.hid (form14_any ⟨(P1, l1), (P2, l2), f, t, []⟩ (.slice p1 l1.length q1) (.slice p2 l2.length q2) (.slice none 0 0) w8 ⟨HX8.out.2.2.2.2.2.2.2.1, HX8.out.2.2.2.2.2.2.2.2.2.1, HRL.out⟩ HOK.out)
    obtain ⟨T, hT⟩ : ∃ T, formF ⟨(P1, l1), (P2, l2), f, t, []⟩ = T := ⟨_, rfl⟩
    have HPS : Hid (PosSt T.1) := by rw [← hT]; exact pos_form HOK.out
    have HMM : Hid (combM kind a b = T) := by unfold Hid; rw [HFO.out, hT]
    have HF' : Hid (Calls Tryz.prog 64 #[.agg #[.int .i64 P1, .slice p1 l1.length q1], .agg #[.int .i64 P2, .slice p2 l2.length q2], .int .i64 f, .int .i64 t, (.slice none 0 0)] w8 fun e w' => ∃ vl vr vv, e = .returned (.tuple #[.agg #[.int .i64 T.1.lf.1, vl, .int .i64 T.1.rt.1, vr, .int .i64 T.1.fr, .int .i64 T.1.to, vv], .int .i64 T.2]) ∧ RdSt w' T.1 vl vr vv ∧ Below w8.heap.size w8 w') := HF.out.mono fun e w' hh => by
      obtain ⟨vl, vr, vv, e1, e2, e3, _⟩ := hh
      rw [hT] at e1 e2
      exact ⟨vl, vr, vv, e1, e2, e3⟩
    clear hT HF
    go_wp2_with fail
    refine HF'.out.mono ?_
    rintro e wz ⟨vl, vr, vv, rfl, hr, hb⟩
    obtain ⟨j1, jm1, rfl⟩ := hr.1.form
    obtain ⟨j2, jm2, rfl⟩ := hr.2.1.form
    obtain ⟨j3, jm3, rfl⟩ := hr.2.2.form
    have HXz := Lib.hid (And.intro (HX8.out.1.below hb) (And.intro (HX8.out.2.1.below hb) (And.intro (HX8.out.2.2.1.below hb) (And.intro (HX8.out.2.2.2.1.below (World.block_lt_of_cell? _ ⟨w.heap.size + 1 + 1, 0, none⟩ HX8.out.2.2.1.1.1) hb) (And.intro (keepSt hb HX8.out.2.2.2.2.1) (And.intro (keepSt hb HX8.out.2.2.2.2.2.1) (And.intro (HX8.out.2.2.2.2.2.2.1.below hb) (And.intro (keepRd hb HX8.out.2.2.2.2.2.2.2.1) (And.intro (HX8.out.2.2.2.2.2.2.2.2.1.below hb) (And.intro (keepRd hb HX8.out.2.2.2.2.2.2.2.2.2.1) (keepBelow HX8.out.2.2.2.2.2.2.2.2.2.2 hb)))))))))))
    have HRR := Lib.hid hr
    clear A0 A1 A2 A3 A4 A5 A6 B0 B1 B2 B3 B4 B5 B6 x0 x1 y0 y1 hbe
    clear hb hr HX8 HF'
    have hbe := HXz.out.2.2.2.2.2.2.2.2.2.2
    obtain ⟨⟨Z0, Z1, Z2, Z3, Z4, Z5, Z6⟩, K0, K1, K2, K3, K4, K5, K6⟩ := HXz.out.2.2.1
    go_wp2
    change bodyPost _ _ _ _ _ (put7 wz (w.heap.size + 1 + 1) (.int .i64 T.1.lf.1) (.slice j1 T.1.lf.2.length jm1) (.int .i64 T.1.rt.1) (.slice j2 T.1.rt.2.length jm2) (.int .i64 T.1.fr) (.int .i64 T.1.to) (.slice j3 T.1.l.length jm3))
    obtain ⟨r0, r1, r2, r3, r4, r5, r6⟩ := put7_at (.int .i64 T.1.lf.1) (.slice j1 T.1.lf.2.length jm1) (.int .i64 T.1.rt.1) (.slice j2 T.1.rt.2.length jm2) (.int .i64 T.1.fr) (.int .i64 T.1.to) (.slice j3 T.1.l.length jm3) Z0 Z1 Z2 Z3 Z4 Z5 Z6
    have hBZ := put7_below (.int .i64 T.1.lf.1) (.slice j1 T.1.lf.2.length jm1) (.int .i64 T.1.rt.1) (.slice j2 T.1.rt.2.length jm2) (.int .i64 T.1.fr) (.int .i64 T.1.to) (.slice j3 T.1.l.length jm3) hbe (b := (w.heap.size + 1 + 1)) (by omega)
    have hRZ := HRR.out.put (.int .i64 T.1.lf.1) (.slice j1 T.1.lf.2.length jm1) (.int .i64 T.1.rt.1) (.slice j2 T.1.rt.2.length jm2) (.int .i64 T.1.fr) (.int .i64 T.1.to) (.slice j3 T.1.l.length jm3) HPS.out HXz.out.2.2.2.1
    generalize put7 wz (w.heap.size + 1 + 1) (.int .i64 T.1.lf.1) (.slice j1 T.1.lf.2.length jm1) (.int .i64 T.1.rt.1) (.slice j2 T.1.rt.2.length jm2) (.int .i64 T.1.fr) (.int .i64 T.1.to) (.slice j3 T.1.l.length jm3) = Z at *
    refine bodyPost_ret (v := .tuple #[.agg #[.int .i64 T.1.lf.1, .slice j1 T.1.lf.2.length jm1, .int .i64 T.1.rt.1, .slice j2 T.1.rt.2.length jm2, .int .i64 T.1.fr, .int .i64 T.1.to, .slice j3 T.1.l.length jm3], .int .i64 T.2]) (by simp [results, Tryz.results93, go_sem, r0, r1, r2, r3, r4, r5, r6]) rfl ?_
    show TsPost _ w _ _
    rw [HMM.out]
    exact ⟨_, _, _, rfl, hRZ, hBZ⟩
  have t1 : decide (f < t) = true := by simpa using hft
  have HIV : Hid (ivB (f, t) = true) := by rw [Hid, ivB_iff]; have := HWO.out; simp only; omega
  have HFT := Lib.hid hft
  clear hft
  obtain ⟨xa, hxa⟩ : ∃ x, memF (hasS a) f (t - f).toNat = x := ⟨_, rfl⟩
  have HWxa : Hid (winM true a f t = if xa.length ≤ 2000 then (xa, 0) else ([], 5)) := by
    unfold Hid winM
    rw [if_neg (by rw [HIV.out]; simp), hxa]
  have HExa := Lib.hid hxa
  clear hxa
  obtain ⟨xb, hxb⟩ : ∃ x, memF (hasS b) f (t - f).toNat = x := ⟨_, rfl⟩
  have HWxb : Hid (winM true b f t = if xb.length ≤ 2000 then (xb, 0) else ([], 5)) := by
    unfold Hid winM
    rw [if_neg (by rw [HIV.out]; simp), hxb]
  have HExb := Lib.hid hxb
  clear hxb

  have HCA := Lib.hid (HWA.out f t _ HX8.out.2.2.2.2.1 HOA.out HIV.out)
  by_cases h6 : xa.length ≤ 2000
  case neg =>
    have HWa' : winM true a f t = ([], 5) := by rw [HWxa.out, if_neg h6]
    have HM := Lib.hid (comb_full (kind := kind) HGA.out HGB.out HB1.out HB2.out HPE.out HWL.out HWR.out (by rw [HExa.out, HExb.out]; omega))
    have HCA' : Hid (Calls Tryz.prog 27 #[.agg #[.int .i64 a.lf.1, (.slice a1 a.lf.2.length n1), .int .i64 a.rt.1, (.slice a2 a.rt.2.length n2), .int .i64 a.fr, .int .i64 a.to, (.slice a3 a.l.length n3)], .agg #[.int .i64 f, .int .i64 t]] w8 fun e w' => ∃ u, e = .returned (.tuple #[u, .int .i64 5]) ∧ RdS w' u [] ∧ Below w8.heap.size w8 w') := HCA.out.mono fun e w' hh => by
      obtain ⟨u, e1, e2, e3⟩ := hh
      rw [HWa'] at e1 e2
      exact ⟨u, e1, e2, e3⟩
    clear HWa' h6
    go_wp2_with fail
    refine HCA'.out.mono ?_
    rintro e w9 ⟨u9, rfl, r9, hb⟩
    obtain ⟨p8, q8, rfl⟩ := r9.form
    have HX9 := Lib.hid (And.intro (HX8.out.1.below hb) (And.intro (HX8.out.2.1.below hb) (And.intro (HX8.out.2.2.1.below hb) (And.intro (HX8.out.2.2.2.1.below (World.block_lt_of_cell? _ ⟨w.heap.size + 1 + 1, 0, none⟩ HX8.out.2.2.1.1.1) hb) (And.intro (keepSt hb HX8.out.2.2.2.2.1) (And.intro (keepSt hb HX8.out.2.2.2.2.2.1) (And.intro (HX8.out.2.2.2.2.2.2.1.below hb) (And.intro (keepRd hb HX8.out.2.2.2.2.2.2.2.1) (And.intro (HX8.out.2.2.2.2.2.2.2.2.1.below hb) (And.intro (keepRd hb HX8.out.2.2.2.2.2.2.2.2.2.1) (keepBelow HX8.out.2.2.2.2.2.2.2.2.2.2 hb)))))))))))
    clear A0 A1 A2 A3 A4 A5 A6 B0 B1 B2 B3 B4 B5 B6 x0 x1 y0 y1 hbe
    clear hb r9 HX8 HCA'
    obtain ⟨⟨⟨A0, A1, A2, A3, A4, A5, A6⟩, -⟩, ⟨⟨B0, B1, B2, B3, B4, B5, B6⟩, -⟩, -, -, -, -, ⟨⟨x0, x1⟩, -⟩, -, ⟨⟨y0, y1⟩, -⟩, -, hbe⟩ := HX9.out
    have HCB := Lib.hid (HWB.out f t _ HX9.out.2.2.2.2.2.1 HOB.out HIV.out)
    go_wp2_with fail
    refine HCB.out.mono ?_
    rintro e wa hpost
    obtain ⟨u10, rfl, r10, hb⟩ : ∃ u, e = .returned (.tuple #[u, .int .i64 (winM true b f t).2]) ∧ RdS wa u (winM true b f t).1 ∧ Below _ _ wa := hpost
    obtain ⟨p9, q9, rfl⟩ := r10.form
    have HXa := Lib.hid (And.intro (HX9.out.1.below hb) (And.intro (HX9.out.2.1.below hb) (And.intro (HX9.out.2.2.1.below hb) (And.intro (HX9.out.2.2.2.1.below (World.block_lt_of_cell? _ ⟨w.heap.size + 1 + 1, 0, none⟩ HX9.out.2.2.1.1.1) hb) (And.intro (keepSt hb HX9.out.2.2.2.2.1) (And.intro (keepSt hb HX9.out.2.2.2.2.2.1) (And.intro (HX9.out.2.2.2.2.2.2.1.below hb) (And.intro (keepRd hb HX9.out.2.2.2.2.2.2.2.1) (And.intro (HX9.out.2.2.2.2.2.2.2.2.1.below hb) (And.intro (keepRd hb HX9.out.2.2.2.2.2.2.2.2.2.1) (keepBelow HX9.out.2.2.2.2.2.2.2.2.2.2 hb)))))))))))
    clear A0 A1 A2 A3 A4 A5 A6 B0 B1 B2 B3 B4 B5 B6 x0 x1 y0 y1 hbe
    clear hb r10 HX9 HCB
    obtain ⟨⟨⟨A0, A1, A2, A3, A4, A5, A6⟩, -⟩, ⟨⟨B0, B1, B2, B3, B4, B5, B6⟩, -⟩, -, -, -, -, ⟨⟨x0, x1⟩, -⟩, -, ⟨⟨y0, y1⟩, -⟩, -, hbe⟩ := HXa.out
    obtain ⟨⟨Z0, Z1, Z2, Z3, Z4, Z5, Z6⟩, K0, K1, K2, K3, K4, K5, K6⟩ := HXa.out.2.2.1
    go_wp2
    change bodyPost _ _ _ _ _ (put7 wa (w.heap.size + 1 + 1) (.int .i64 0) (.slice none 0 0) (.int .i64 0) (.slice none 0 0) (.int .i64 0) (.int .i64 0) (.slice none 0 0))
    obtain ⟨r0, r1, r2, r3, r4, r5, r6⟩ := put7_at (.int .i64 0) (.slice none 0 0) (.int .i64 0) (.slice none 0 0) (.int .i64 0) (.int .i64 0) (.slice none 0 0) Z0 Z1 Z2 Z3 Z4 Z5 Z6
    have hBZ := put7_below (.int .i64 0) (.slice none 0 0) (.int .i64 0) (.slice none 0 0) (.int .i64 0) (.int .i64 0) (.slice none 0 0) hbe (b := (w.heap.size + 1 + 1)) (by omega)
    have hRZ : RdSt (put7 wa (w.heap.size + 1 + 1) (.int .i64 0) (.slice none 0 0) (.int .i64 0) (.slice none 0 0) (.int .i64 0) (.int .i64 0) (.slice none 0 0)) noSt (.slice none 0 0) (.slice none 0 0) (.slice none 0 0) := rdst_no _
    generalize put7 wa (w.heap.size + 1 + 1) (.int .i64 0) (.slice none 0 0) (.int .i64 0) (.slice none 0 0) (.int .i64 0) (.int .i64 0) (.slice none 0 0) = Z at *
    refine bodyPost_ret (v := .tuple #[.agg #[.int .i64 0, .slice none 0 0, .int .i64 0, .slice none 0 0, .int .i64 0, .int .i64 0, .slice none 0 0], .int .i64 5]) (by simp [results, Tryz.results93, go_sem, r0, r1, r2, r3, r4, r5, r6]) rfl ?_
    show TsPost _ w _ _
    rw [HM.out]
    exact ⟨_, _, _, rfl, hRZ, hBZ⟩
  have HCA' : Hid (Calls Tryz.prog 27 #[.agg #[.int .i64 a.lf.1, (.slice a1 a.lf.2.length n1), .int .i64 a.rt.1, (.slice a2 a.rt.2.length n2), .int .i64 a.fr, .int .i64 a.to, (.slice a3 a.l.length n3)], .agg #[.int .i64 f, .int .i64 t]] w8 fun e w' => ∃ u, e = .returned (.tuple #[u, .int .i64 0]) ∧ RdS w' u xa ∧ Below w8.heap.size w8 w') := HCA.out.mono fun e w' hh => by
    obtain ⟨u, e1, e2, e3⟩ := hh
    rw [HWxa.out, if_pos h6] at e1 e2
    exact ⟨u, e1, e2, e3⟩
  have HN6 := Lib.hid h6
  clear h6 HCA
  go_wp2_with fail
  refine HCA'.out.mono ?_
  rintro e w9 ⟨u9, rfl, r9, hb⟩
  obtain ⟨p8, q8, rfl⟩ := r9.form
  have HX9 := Lib.hid (And.intro (HX8.out.1.below hb) (And.intro (HX8.out.2.1.below hb) (And.intro (HX8.out.2.2.1.below hb) (And.intro (HX8.out.2.2.2.1.below (World.block_lt_of_cell? _ ⟨w.heap.size + 1 + 1, 0, none⟩ HX8.out.2.2.1.1.1) hb) (And.intro (keepSt hb HX8.out.2.2.2.2.1) (And.intro (keepSt hb HX8.out.2.2.2.2.2.1) (And.intro (HX8.out.2.2.2.2.2.2.1.below hb) (And.intro (keepRd hb HX8.out.2.2.2.2.2.2.2.1) (And.intro (HX8.out.2.2.2.2.2.2.2.2.1.below hb) (And.intro (keepRd hb HX8.out.2.2.2.2.2.2.2.2.2.1) (keepBelow HX8.out.2.2.2.2.2.2.2.2.2.2 hb)))))))))))
  clear A0 A1 A2 A3 A4 A5 A6 B0 B1 B2 B3 B4 B5 B6 x0 x1 y0 y1 hbe
  have HX9b := Lib.hid (And.intro HX9.out.1 (And.intro HX9.out.2.1 (And.intro HX9.out.2.2.1 (And.intro HX9.out.2.2.2.1 (And.intro HX9.out.2.2.2.2.1 (And.intro HX9.out.2.2.2.2.2.1 (And.intro HX9.out.2.2.2.2.2.2.1 (And.intro HX9.out.2.2.2.2.2.2.2.1 (And.intro HX9.out.2.2.2.2.2.2.2.2.1 (And.intro HX9.out.2.2.2.2.2.2.2.2.2.1 (And.intro r9 HX9.out.2.2.2.2.2.2.2.2.2.2)))))))))))
  clear hb r9 HX8 HX9 HCA'
  obtain ⟨⟨⟨A0, A1, A2, A3, A4, A5, A6⟩, -⟩, ⟨⟨B0, B1, B2, B3, B4, B5, B6⟩, -⟩, -, -, -, -, ⟨⟨x0, x1⟩, -⟩, -, ⟨⟨y0, y1⟩, -⟩, -, -, hbe⟩ := HX9b.out
  have HCB := Lib.hid (HWB.out f t _ HX9b.out.2.2.2.2.2.1 HOB.out HIV.out)
  by_cases h7 : xb.length ≤ 2000
  case neg =>
    have HM := Lib.hid (comb_full (kind := kind) HGA.out HGB.out HB1.out HB2.out HPE.out HWL.out HWR.out (by rw [HExa.out, HExb.out]; omega))
    have HCB' : Hid (Calls Tryz.prog 27 #[.agg #[.int .i64 b.lf.1, (.slice b1 b.lf.2.length m1), .int .i64 b.rt.1, (.slice b2 b.rt.2.length m2), .int .i64 b.fr, .int .i64 b.to, (.slice b3 b.l.length m3)], .agg #[.int .i64 f, .int .i64 t]] w9 fun e w' => ∃ u, e = .returned (.tuple #[u, .int .i64 5]) ∧ RdS w' u [] ∧ Below w9.heap.size w9 w') := HCB.out.mono fun e w' hh => by
      obtain ⟨u, e1, e2, e3⟩ := hh
      rw [HWxb.out, if_neg h7] at e1 e2
      exact ⟨u, e1, e2, e3⟩
    clear h7 HCB
    go_wp2_with fail
    refine HCB'.out.mono ?_
    rintro e wa ⟨u10, rfl, r10, hb⟩
    obtain ⟨p9, q9, rfl⟩ := r10.form
    have HXa := Lib.hid (And.intro (HX9b.out.1.below hb) (And.intro (HX9b.out.2.1.below hb) (And.intro (HX9b.out.2.2.1.below hb) (And.intro (HX9b.out.2.2.2.1.below (World.block_lt_of_cell? _ ⟨w.heap.size + 1 + 1, 0, none⟩ HX9b.out.2.2.1.1.1) hb) (And.intro (keepSt hb HX9b.out.2.2.2.2.1) (And.intro (keepSt hb HX9b.out.2.2.2.2.2.1) (And.intro (HX9b.out.2.2.2.2.2.2.1.below hb) (And.intro (keepRd hb HX9b.out.2.2.2.2.2.2.2.1) (And.intro (HX9b.out.2.2.2.2.2.2.2.2.1.below hb) (And.intro (keepRd hb HX9b.out.2.2.2.2.2.2.2.2.2.1) (And.intro (keepRd hb HX9b.out.2.2.2.2.2.2.2.2.2.2.1) (keepBelow HX9b.out.2.2.2.2.2.2.2.2.2.2.2 hb))))))))))))
    clear A0 A1 A2 A3 A4 A5 A6 B0 B1 B2 B3 B4 B5 B6 x0 x1 y0 y1 hbe
    clear hb r10 HX9b HCB'
    obtain ⟨⟨⟨A0, A1, A2, A3, A4, A5, A6⟩, -⟩, ⟨⟨B0, B1, B2, B3, B4, B5, B6⟩, -⟩, -, -, -, -, ⟨⟨x0, x1⟩, -⟩, -, ⟨⟨y0, y1⟩, -⟩, -, -, hbe⟩ := HXa.out
    obtain ⟨⟨Z0, Z1, Z2, Z3, Z4, Z5, Z6⟩, K0, K1, K2, K3, K4, K5, K6⟩ := HXa.out.2.2.1
    go_wp2
    change bodyPost _ _ _ _ _ (put7 wa (w.heap.size + 1 + 1) (.int .i64 0) (.slice none 0 0) (.int .i64 0) (.slice none 0 0) (.int .i64 0) (.int .i64 0) (.slice none 0 0))
    obtain ⟨r0, r1, r2, r3, r4, r5, r6⟩ := put7_at (.int .i64 0) (.slice none 0 0) (.int .i64 0) (.slice none 0 0) (.int .i64 0) (.int .i64 0) (.slice none 0 0) Z0 Z1 Z2 Z3 Z4 Z5 Z6
    have hBZ := put7_below (.int .i64 0) (.slice none 0 0) (.int .i64 0) (.slice none 0 0) (.int .i64 0) (.int .i64 0) (.slice none 0 0) hbe (b := (w.heap.size + 1 + 1)) (by omega)
    have hRZ : RdSt (put7 wa (w.heap.size + 1 + 1) (.int .i64 0) (.slice none 0 0) (.int .i64 0) (.slice none 0 0) (.int .i64 0) (.int .i64 0) (.slice none 0 0)) noSt (.slice none 0 0) (.slice none 0 0) (.slice none 0 0) := rdst_no _
    generalize put7 wa (w.heap.size + 1 + 1) (.int .i64 0) (.slice none 0 0) (.int .i64 0) (.slice none 0 0) (.int .i64 0) (.int .i64 0) (.slice none 0 0) = Z at *
    refine bodyPost_ret (v := .tuple #[.agg #[.int .i64 0, .slice none 0 0, .int .i64 0, .slice none 0 0, .int .i64 0, .int .i64 0, .slice none 0 0], .int .i64 5]) (by simp [results, Tryz.results93, go_sem, r0, r1, r2, r3, r4, r5, r6]) rfl ?_
    show TsPost _ w _ _
    rw [HM.out]
    exact ⟨_, _, _, rfl, hRZ, hBZ⟩
  have HCB' : Hid (Calls Tryz.prog 27 #[.agg #[.int .i64 b.lf.1, (.slice b1 b.lf.2.length m1), .int .i64 b.rt.1, (.slice b2 b.rt.2.length m2), .int .i64 b.fr, .int .i64 b.to, (.slice b3 b.l.length m3)], .agg #[.int .i64 f, .int .i64 t]] w9 fun e w' => ∃ u, e = .returned (.tuple #[u, .int .i64 0]) ∧ RdS w' u xb ∧ Below w9.heap.size w9 w') := HCB.out.mono fun e w' hh => by
    obtain ⟨u, e1, e2, e3⟩ := hh
    rw [HWxb.out, if_pos h7] at e1 e2
    exact ⟨u, e1, e2, e3⟩
  have HN7 := Lib.hid h7
  clear h7 HCB
  go_wp2_with fail
  refine HCB'.out.mono ?_
  rintro e wa ⟨u10, rfl, r10, hb⟩
  obtain ⟨p9, q9, rfl⟩ := r10.form
  have HXa := Lib.hid (And.intro (HX9b.out.1.below hb) (And.intro (HX9b.out.2.1.below hb) (And.intro (HX9b.out.2.2.1.below hb) (And.intro (HX9b.out.2.2.2.1.below (World.block_lt_of_cell? _ ⟨w.heap.size + 1 + 1, 0, none⟩ HX9b.out.2.2.1.1.1) hb) (And.intro (keepSt hb HX9b.out.2.2.2.2.1) (And.intro (keepSt hb HX9b.out.2.2.2.2.2.1) (And.intro (HX9b.out.2.2.2.2.2.2.1.below hb) (And.intro (keepRd hb HX9b.out.2.2.2.2.2.2.2.1) (And.intro (HX9b.out.2.2.2.2.2.2.2.2.1.below hb) (And.intro (keepRd hb HX9b.out.2.2.2.2.2.2.2.2.2.1) (And.intro (keepRd hb HX9b.out.2.2.2.2.2.2.2.2.2.2.1) (keepBelow HX9b.out.2.2.2.2.2.2.2.2.2.2.2 hb))))))))))))
  clear A0 A1 A2 A3 A4 A5 A6 B0 B1 B2 B3 B4 B5 B6 x0 x1 y0 y1 hbe
  have HXab := Lib.hid (And.intro HXa.out.1 (And.intro HXa.out.2.1 (And.intro HXa.out.2.2.1 (And.intro HXa.out.2.2.2.1 (And.intro HXa.out.2.2.2.2.1 (And.intro HXa.out.2.2.2.2.2.1 (And.intro HXa.out.2.2.2.2.2.2.1 (And.intro HXa.out.2.2.2.2.2.2.2.1 (And.intro HXa.out.2.2.2.2.2.2.2.2.1 (And.intro HXa.out.2.2.2.2.2.2.2.2.2.1 (And.intro HXa.out.2.2.2.2.2.2.2.2.2.2.1 (And.intro r10 HXa.out.2.2.2.2.2.2.2.2.2.2.2))))))))))))
  clear hb r10 HX9b HXa HCB'
  obtain ⟨⟨⟨A0, A1, A2, A3, A4, A5, A6⟩, -⟩, ⟨⟨B0, B1, B2, B3, B4, B5, B6⟩, -⟩, -, -, -, -, ⟨⟨x0, x1⟩, -⟩, -, ⟨⟨y0, y1⟩, -⟩, -, -, -, hbe⟩ := HXab.out
  have h67 : xa.length ≤ 2000 ∧ xb.length ≤ 2000 := ⟨HN6.out, HN7.out⟩
  have s5 : IntKind.i64.wrap ((xa.length : Int) + (xb.length : Int)) = (xa.length : Int) + (xb.length : Int) := by rw [IntKind.wrap_i64]; omega
  by_cases h5 : ¬ xa.length + xb.length ≤ 2000
  ·
    have HM := Lib.hid (comb_full (kind := kind) HGA.out HGB.out HB1.out HB2.out HPE.out HWL.out HWR.out (by rw [HExa.out, HExb.out]; omega))
    have t5 : decide ((2000 : Int) < (xa.length : Int) + (xb.length : Int)) = true := by simp; omega
    clear h67
    obtain ⟨⟨Z0, Z1, Z2, Z3, Z4, Z5, Z6⟩, K0, K1, K2, K3, K4, K5, K6⟩ := HXab.out.2.2.1
    go_wp2
    change bodyPost _ _ _ _ _ (put7 wa (w.heap.size + 1 + 1) (.int .i64 0) (.slice none 0 0) (.int .i64 0) (.slice none 0 0) (.int .i64 0) (.int .i64 0) (.slice none 0 0))
    obtain ⟨r0, r1, r2, r3, r4, r5, r6⟩ := put7_at (.int .i64 0) (.slice none 0 0) (.int .i64 0) (.slice none 0 0) (.int .i64 0) (.int .i64 0) (.slice none 0 0) Z0 Z1 Z2 Z3 Z4 Z5 Z6
    have hBZ := put7_below (.int .i64 0) (.slice none 0 0) (.int .i64 0) (.slice none 0 0) (.int .i64 0) (.int .i64 0) (.slice none 0 0) hbe (b := (w.heap.size + 1 + 1)) (by omega)
    have hRZ : RdSt (put7 wa (w.heap.size + 1 + 1) (.int .i64 0) (.slice none 0 0) (.int .i64 0) (.slice none 0 0) (.int .i64 0) (.int .i64 0) (.slice none 0 0)) noSt (.slice none 0 0) (.slice none 0 0) (.slice none 0 0) := rdst_no _
    generalize put7 wa (w.heap.size + 1 + 1) (.int .i64 0) (.slice none 0 0) (.int .i64 0) (.slice none 0 0) (.int .i64 0) (.int .i64 0) (.slice none 0 0) = Z at *
    refine bodyPost_ret (v := .tuple #[.agg #[.int .i64 0, .slice none 0 0, .int .i64 0, .slice none 0 0, .int .i64 0, .int .i64 0, .slice none 0 0], .int .i64 5]) (by simp [results, Tryz.results93, go_sem, r0, r1, r2, r3, r4, r5, r6]) rfl ?_
    show TsPost _ w _ _
    rw [HM.out]
    exact ⟨_, _, _, rfl, hRZ, hBZ⟩
  have h5 : xa.length + xb.length ≤ 2000 := by omega
  have t5 : decide ((2000 : Int) < (xa.length : Int) + (xb.length : Int)) = false := by simp; omega
  have ca : Canon xa := by rw [← HExa.out]; exact (memF_can _ _ _).1
  have cb : Canon xb := by rw [← HExb.out]; exact (memF_can _ _ _).1
  have HLS := Lib.hid (lists_any (.slice p8 xa.length q8) (.slice p9 xb.length q9) xa xb kind wa HXab.out.2.2.2.2.2.2.2.2.2.2.1 HXab.out.2.2.2.2.2.2.2.2.2.2.2.1 (by omega) (by omega) ca cb)
  have HN5 := Lib.hid h5
  clear ca cb h67 h5
  go_wp2_with fail
  refine HLS.out.mono ?_
  rintro e wb ⟨v11, L, rfl, oL, cL, iL, nL, hb⟩
  have HXb := Lib.hid (And.intro (HXab.out.1.below hb) (And.intro (HXab.out.2.1.below hb) (And.intro (HXab.out.2.2.1.below hb) (And.intro (HXab.out.2.2.2.1.below (World.block_lt_of_cell? _ ⟨w.heap.size + 1 + 1, 0, none⟩ HXab.out.2.2.1.1.1) hb) (And.intro (keepSt hb HXab.out.2.2.2.2.1) (And.intro (keepSt hb HXab.out.2.2.2.2.2.1) (And.intro (HXab.out.2.2.2.2.2.2.1.below hb) (And.intro (keepRd hb HXab.out.2.2.2.2.2.2.2.1) (And.intro (HXab.out.2.2.2.2.2.2.2.2.1.below hb) (And.intro (keepRd hb HXab.out.2.2.2.2.2.2.2.2.2.1) (And.intro (keepRd hb HXab.out.2.2.2.2.2.2.2.2.2.2.1) (And.intro (keepRd hb HXab.out.2.2.2.2.2.2.2.2.2.2.2.1) (keepBelow HXab.out.2.2.2.2.2.2.2.2.2.2.2.2 hb)))))))))))))
  clear A0 A1 A2 A3 A4 A5 A6 B0 B1 B2 B3 B4 B5 B6 x0 x1 y0 y1 hbe
  have hLe : L = memF (fun x => ruleB kind (hasS a x) (hasS b x)) f (t - f).toNat := memF_rule (by have := HFT.out; omega) cL fun x => by rw [iL x, HExa.out, HExb.out]
  have HCL := Lib.hid (comb_lists (kind := kind) (ga := hasS a) (gb := hasS b) HWO.out.1 HWO.out.2.1 HWO.out.2.2 (by rw [HExa.out, HExb.out]; exact HN5.out))
  have hLl : L.length ≤ 2000 := by rw [hLe]; exact HCL.out.2
  have HFO := Lib.hid (comb_form (kind := kind) HGA.out HGB.out HB1.out HB2.out HPE.out HWL.out HWR.out (by rw [HExa.out, HExb.out]; have := HN5.out; omega))
  have HOK : Hid (OkS ⟨(P1, l1), (P2, l2), f, t, memF (fun x => ruleB kind (hasS a x) (hasS b x)) f (t - f).toNat⟩) := comb_ok HQ1.out.2.2.1 HQ2.out.2.2.1 HWO.out.1 HWO.out.2.1 HWO.out.2.2 (by rw [← hLe]; exact hLl)
  rw [← hLe] at HFO HOK
  have HRL := Lib.hid (oL.rd (by omega))
  obtain ⟨p11, q11, rfl, _⟩ := oL.form
  clear hb oL cL iL nL hLe hLl HXab HLS HCL s5 t5
  obtain ⟨⟨⟨A0, A1, A2, A3, A4, A5, A6⟩, -⟩, ⟨⟨B0, B1, B2, B3, B4, B5, B6⟩, -⟩, -, -, -, -, ⟨⟨x0, x1⟩, -⟩, -, ⟨⟨y0, y1⟩, -⟩, -, -, -, hbe⟩ := HXb.out

  have HF := Lib.hid (form14_any ⟨(P1, l1), (P2, l2), f, t, L⟩ (.slice p1 l1.length q1) (.slice p2 l2.length q2) (.slice p11 L.length q11) wb ⟨HXb.out.2.2.2.2.2.2.2.1, HXb.out.2.2.2.2.2.2.2.2.2.1, HRL.out⟩ HOK.out)
  obtain ⟨T, hT⟩ : ∃ T, formF ⟨(P1, l1), (P2, l2), f, t, L⟩ = T := ⟨_, rfl⟩
  have HPS : Hid (PosSt T.1) := by rw [← hT]; exact pos_form HOK.out
  have HMM : Hid (combM kind a b = T) := by unfold Hid; rw [HFO.out, hT]
  have HF' : Hid (Calls Tryz.prog 64 #[.agg #[.int .i64 P1, .slice p1 l1.length q1], .agg #[.int .i64 P2, .slice p2 l2.length q2], .int .i64 f, .int .i64 t, (.slice p11 L.length q11)] wb fun e w' => ∃ vl vr vv, e = .returned (.tuple #[.agg #[.int .i64 T.1.lf.1, vl, .int .i64 T.1.rt.1, vr, .int .i64 T.1.fr, .int .i64 T.1.to, vv], .int .i64 T.2]) ∧ RdSt w' T.1 vl vr vv ∧ Below wb.heap.size wb w') := HF.out.mono fun e w' hh => by
    obtain ⟨vl, vr, vv, e1, e2, e3, _⟩ := hh
    rw [hT] at e1 e2
    exact ⟨vl, vr, vv, e1, e2, e3⟩
  clear hT HF
  go_wp2_with fail
  refine HF'.out.mono ?_
  rintro e wz ⟨vl, vr, vv, rfl, hr, hb⟩
  obtain ⟨j1, jm1, rfl⟩ := hr.1.form
  obtain ⟨j2, jm2, rfl⟩ := hr.2.1.form
  obtain ⟨j3, jm3, rfl⟩ := hr.2.2.form
  have HXz := Lib.hid (And.intro (HXb.out.1.below hb) (And.intro (HXb.out.2.1.below hb) (And.intro (HXb.out.2.2.1.below hb) (And.intro (HXb.out.2.2.2.1.below (World.block_lt_of_cell? _ ⟨w.heap.size + 1 + 1, 0, none⟩ HXb.out.2.2.1.1.1) hb) (And.intro (keepSt hb HXb.out.2.2.2.2.1) (And.intro (keepSt hb HXb.out.2.2.2.2.2.1) (And.intro (HXb.out.2.2.2.2.2.2.1.below hb) (And.intro (keepRd hb HXb.out.2.2.2.2.2.2.2.1) (And.intro (HXb.out.2.2.2.2.2.2.2.2.1.below hb) (And.intro (keepRd hb HXb.out.2.2.2.2.2.2.2.2.2.1) (And.intro (keepRd hb HXb.out.2.2.2.2.2.2.2.2.2.2.1) (And.intro (keepRd hb HXb.out.2.2.2.2.2.2.2.2.2.2.2.1) (keepBelow HXb.out.2.2.2.2.2.2.2.2.2.2.2.2 hb)))))))))))))
  have HRR := Lib.hid hr
  clear A0 A1 A2 A3 A4 A5 A6 B0 B1 B2 B3 B4 B5 B6 x0 x1 y0 y1 hbe
  clear hb hr HXb HF'
  have hbe := HXz.out.2.2.2.2.2.2.2.2.2.2.2.2
  obtain ⟨⟨Z0, Z1, Z2, Z3, Z4, Z5, Z6⟩, K0, K1, K2, K3, K4, K5, K6⟩ := HXz.out.2.2.1
  go_wp2
  change bodyPost _ _ _ _ _ (put7 wz (w.heap.size + 1 + 1) (.int .i64 T.1.lf.1) (.slice j1 T.1.lf.2.length jm1) (.int .i64 T.1.rt.1) (.slice j2 T.1.rt.2.length jm2) (.int .i64 T.1.fr) (.int .i64 T.1.to) (.slice j3 T.1.l.length jm3))
  obtain ⟨r0, r1, r2, r3, r4, r5, r6⟩ := put7_at (.int .i64 T.1.lf.1) (.slice j1 T.1.lf.2.length jm1) (.int .i64 T.1.rt.1) (.slice j2 T.1.rt.2.length jm2) (.int .i64 T.1.fr) (.int .i64 T.1.to) (.slice j3 T.1.l.length jm3) Z0 Z1 Z2 Z3 Z4 Z5 Z6
  have hBZ := put7_below (.int .i64 T.1.lf.1) (.slice j1 T.1.lf.2.length jm1) (.int .i64 T.1.rt.1) (.slice j2 T.1.rt.2.length jm2) (.int .i64 T.1.fr) (.int .i64 T.1.to) (.slice j3 T.1.l.length jm3) hbe (b := (w.heap.size + 1 + 1)) (by omega)
  have hRZ := HRR.out.put (.int .i64 T.1.lf.1) (.slice j1 T.1.lf.2.length jm1) (.int .i64 T.1.rt.1) (.slice j2 T.1.rt.2.length jm2) (.int .i64 T.1.fr) (.int .i64 T.1.to) (.slice j3 T.1.l.length jm3) HPS.out HXz.out.2.2.2.1
  generalize put7 wz (w.heap.size + 1 + 1) (.int .i64 T.1.lf.1) (.slice j1 T.1.lf.2.length jm1) (.int .i64 T.1.rt.1) (.slice j2 T.1.rt.2.length jm2) (.int .i64 T.1.fr) (.int .i64 T.1.to) (.slice j3 T.1.l.length jm3) = Z at *
  refine bodyPost_ret (v := .tuple #[.agg #[.int .i64 T.1.lf.1, .slice j1 T.1.lf.2.length jm1, .int .i64 T.1.rt.1, .slice j2 T.1.rt.2.length jm2, .int .i64 T.1.fr, .int .i64 T.1.to, .slice j3 T.1.l.length jm3], .int .i64 T.2]) (by simp [results, Tryz.results93, go_sem, r0, r1, r2, r3, r4, r5, r6]) rfl ?_
  show TsPost _ w _ _
  rw [HMM.out]
  exact ⟨_, _, _, rfl, hRZ, hBZ⟩
end Go.Proofs.YtnjpceocnldlfaaGreat
namespace Go.Proofs.YtnjpceocnldlfaaGreat
open Go.RowKit Wk

set_option maxRecDepth 100000 in
set_option maxHeartbeats 16000000 in
theorem replace14_any (s : St) (al ar av : Value) (f t : Int) (vl : Value) (l : List Sp) (w : World) (h : RdSt w s al ar av) (hl : RdS w vl l) (hll : l.length ≤ 1000000) (hzz : ∀ n c, vl = .slice none n c → c = 0) (hl5 : l.length ≤ 100000) :
    Calls Tryz.prog 41 #[.agg #[.int .i64 s.lf.1, al, .int .i64 s.rt.1, ar, .int .i64 s.fr, .int .i64 s.to, av], .agg #[.int .i64 f, .int .i64 t], vl] w (TsPost (replM s (f, t) l) w) := by
  have HV := Lib.hid (fun W h => valid14_any s al ar av W h)
  have HI := Lib.hid (fun W => valid10_any f t W)
  have HR := Lib.hid (fun W h => rval_any vl l W h)
  have HFR := Lib.hid (fun v k W h hz hl => rfrom14_any v k W h hz hl)
  have HZZ := Lib.hid hzz
  have HMI := Lib.hid (fun T bl br bv W h h' => rcomb14_any 2 s T al ar av bl br bv W h h')
  have HUN := Lib.hid (fun T U al ar av bl br bv W h h' => rcomb14_any 0 T U al ar av bl br bv W h h')
  have HRA := Lib.hid h
  have HRL := Lib.hid hl
  obtain ⟨a1, an1, e1⟩ := h.1.form
  obtain ⟨a2, an2, e2⟩ := h.2.1.form
  obtain ⟨a3, an3, e3⟩ := h.2.2.form
  subst e1 e2 e3
  obtain ⟨pl, cl, rfl⟩ := hl.form
  clear h hl hzz
  obtain ⟨W, hWe⟩ : ∃ W, ((w.alloc (.cells #[.int .i64 s.lf.1, (.slice a1 s.lf.2.length an1), .int .i64 s.rt.1, (.slice a2 s.rt.2.length an2), .int .i64 s.fr, .int .i64 s.to, (.slice a3 s.l.length an3)] 26)).alloc (.cells #[.int .i64 f, .int .i64 t] 40)).alloc (.cells #[.int .i64 0, .slice none 0 0, .int .i64 0, .slice none 0 0, .int .i64 0, .int .i64 0, .slice none 0 0] 26) = W := ⟨_, rfl⟩
  have hW : Below w.heap.size w W := by rw [← hWe]; exact (((Below.refl _ w).alloc (Nat.le_refl _) _).alloc (by simp) _).alloc (by simp; omega) _
  have HX : Hid (Set7 W w.heap.size (.int .i64 s.lf.1) (.slice a1 s.lf.2.length an1) (.int .i64 s.rt.1) (.slice a2 s.rt.2.length an2) (.int .i64 s.fr) (.int .i64 s.to) (.slice a3 s.l.length an3) ∧ Box2 W (w.heap.size + 1) (.int .i64 f) (.int .i64 t) ∧ Set7 W (w.heap.size + 1 + 1) (.int .i64 0) (.slice none 0 0) (.int .i64 0) (.slice none 0 0) (.int .i64 0) (.int .i64 0) (.slice none 0 0) ∧ Zero7 W (w.heap.size + 1 + 1) ∧ RdSt W s (.slice a1 s.lf.2.length an1) (.slice a2 s.rt.2.length an2) (.slice a3 s.l.length an3) ∧ RdS W (.slice pl l.length cl) l ∧ Below w.heap.size w W) := by
    refine ⟨?_, ?_, ?_, ?_, keepSt hW HRA.out, keepRd hW HRL.out, hW⟩
    · rw [← hWe]
      refine ⟨⟨?_, ?_, ?_, ?_, ?_, ?_, ?_⟩, ?_, ?_, ?_, ?_, ?_, ?_, ?_⟩ <;> simp [go_sem]
    · rw [← hWe]
      refine ⟨⟨?_, ?_⟩, ?_, ?_⟩ <;> simp [go_sem]
    · rw [← hWe]
      refine ⟨⟨?_, ?_, ?_, ?_, ?_, ?_, ?_⟩, ?_, ?_, ?_, ?_, ?_, ?_, ?_⟩ <;> simp [go_sem]
    · rw [← hWe]
      have := zero7_new ((w.alloc (.cells #[.int .i64 s.lf.1, (.slice a1 s.lf.2.length an1), .int .i64 s.rt.1, (.slice a2 s.rt.2.length an2), .int .i64 s.fr, .int .i64 s.to, (.slice a3 s.l.length an3)] 26)).alloc (.cells #[.int .i64 f, .int .i64 t] 40))
      simpa using this
  have HE := Lib.hid hWe
  clear hWe hW HRA HRL
  obtain ⟨g1, hg1⟩ : ∃ g, VB s = g := ⟨_, rfl⟩
  obtain ⟨g2, hg2⟩ : ∃ g, ivB (f, t) = g := ⟨_, rfl⟩
  obtain ⟨g3, hg3⟩ : ∃ g, rvB l = g := ⟨_, rfl⟩
  obtain ⟨bad, hbad⟩ : ∃ b, badB s (f, t) l = b := ⟨_, rfl⟩
  rw [hg1] at HV
  rw [hg2] at HI
  rw [hg3] at HR
  have HG := Lib.hid (And.intro hg1 (And.intro hg2 hg3))
  have HBD := Lib.hid hbad
  have HBV : Hid (bad = (((!g1 || !g2) || !g3) || (decide (0 < l.length) && (decide (firstFr l < f) || decide (t < lastTo l))))) := by unfold Hid; rw [← hbad, ← hg1, ← hg2, ← hg3]; rfl
  clear hg1 hg2 hg3 hbad
  obtain ⟨⟨⟨A0, A1, A2, A3, A4, A5, A6⟩, -⟩, ⟨⟨S0, S1⟩, -⟩, -, -, -, -, hbe⟩ := HX.out
  go_enter Tryz.func41, Tryz.ntmps41
  go_wp2_with fail
  rw [HE.out]
  go_upto_region 1 with fail
  go_cut [52] from 14 to 53 (fun c wx => c = .bool bad ∧ Below W.heap.size W wx)
  case first =>
    have HVE : Hid (∀ X : Ext W, Calls Tryz.prog 16 #[.agg #[.int .i64 s.lf.1, (.slice a1 s.lf.2.length an1), .int .i64 s.rt.1, (.slice a2 s.rt.2.length an2), .int .i64 s.fr, .int .i64 s.to, (.slice a3 s.l.length an3)]] (extOf W X) fun e w' => e = .returned (.bool g1) ∧ Below (extOf W X).heap.size (extOf W X) w') := fun X => HV.out _ ⟨ext_rd HX.out.2.2.2.2.1.1 X, ext_rd HX.out.2.2.2.2.1.2.1 X, ext_rd HX.out.2.2.2.2.1.2.2 X⟩
    have HRE : Hid (∀ X : Ext W, Calls Tryz.prog 32 #[.slice pl l.length cl] (extOf W X) fun e w' => e = .returned (.bool g3) ∧ Below (extOf W X).heap.size (extOf W X) w') := fun X => HR.out _ (ext_rd HX.out.2.2.2.2.2.1 X)
    have e0 := ext_cell A0
    have e1 := ext_cell A1
    have e2 := ext_cell A2
    have e3 := ext_cell A3
    have e4 := ext_cell A4
    have e5 := ext_cell A5
    have e6 := ext_cell A6
    have q0 := ext_cell S0
    have q1 := ext_cell S1
    have HRDL := Lib.hid HX.out.2.2.2.2.2.1
    clear A0 A1 A2 A3 A4 A5 A6 S0 S1 hbe
    cases g1 with
    | false =>
      have HB : Hid (Value.bool true = .bool bad) := by unfold Hid; rw [HBV.out]; rfl
      go_wp2_with fail
      refine wp_region_ext (by kernel_rfl) (by kernel_rfl) ?_
      iterate 39 (go_big_quiet_step ((first | (go_at_call 16; refine calls_ext (HVE.out _)) | (go_at_call 26; refine calls_ext (HI.out _)) | (go_at_call 32; refine calls_ext (HRE.out _)))))
      refine wpQuiet_nil ?_
      intro w9 hb9
      go_wp2_with fail
      go_meet
      exact ⟨HB.out, hb9⟩
    | true =>
    cases g2 with
    | false =>
      have HB : Hid (Value.bool true = .bool bad) := by unfold Hid; rw [HBV.out]; rfl
      go_wp2_with fail
      refine wp_region_ext (by kernel_rfl) (by kernel_rfl) ?_
      iterate 39 (go_big_quiet_step ((first | (go_at_call 16; refine calls_ext (HVE.out _)) | (go_at_call 26; refine calls_ext (HI.out _)) | (go_at_call 32; refine calls_ext (HRE.out _)))))
      refine wpQuiet_nil ?_
      intro w9 hb9
      go_wp2_with fail
      go_meet
      exact ⟨HB.out, hb9⟩
    | true =>
    cases g3 with
    | false =>
      have HB : Hid (Value.bool true = .bool bad) := by unfold Hid; rw [HBV.out]; rfl
      go_wp2_with fail
      refine wp_region_ext (by kernel_rfl) (by kernel_rfl) ?_
      iterate 39 (go_big_quiet_step ((first | (go_at_call 16; refine calls_ext (HVE.out _)) | (go_at_call 26; refine calls_ext (HI.out _)) | (go_at_call 32; refine calls_ext (HRE.out _)))))
      refine wpQuiet_nil ?_
      intro w9 hb9
      go_wp2_with fail
      go_meet
      exact ⟨HB.out, hb9⟩
    | true =>
    by_cases h0 : 0 < l.length
    · obtain ⟨pa, pb, hpc⟩ := HRDL.out
      obtain ⟨ee, hl1, hc⟩ := hpc
      injection ee with e1' e2' e3'
      subst e1' e3'
      obtain ⟨b, o, rfl, hbw, k1, k2, k3⟩ := rd_ends hc h0
      have x1 := ext_cell k1
      have x3 := ext_cell k3
      have t0 : decide ((0 : Int) < (l.length : Int)) = true := decide_eq_true (by omega)
      have t0' : decide (0 < l.length) = true := decide_eq_true h0
      have s1 : IntKind.i64.wrap ((l.length : Int) - 1) = (l.length : Int) - 1 := by rw [IntKind.wrap_i64]; omega
      have s2 : ((l.length : Int) - 1).toNat = l.length - 1 := by omega
      have s3 : (0 : Int) ≤ (l.length : Int) - 1 := by omega
      have s4 : (l.length : Int) - 1 < (l.length : Int) := by omega
      have s5 : (0 : Int) < (l.length : Int) := by omega
      have HH0 := Lib.hid h0
      have HLL := Lib.hid (And.intro hl1 (And.intro k2 hc))
      clear h0 k1 k2 k3 hc hl1
      cases hu : decide (firstFr l < f) with
      | true =>
        have HB : Hid (Value.bool true = .bool bad) := by unfold Hid; rw [HBV.out, hu, decide_eq_true HH0.out]; rfl
        go_wp2_with fail
        refine wp_region_ext (by kernel_rfl) (by kernel_rfl) ?_
        iterate 39 (go_big_quiet_step ((first | (go_at_call 16; refine calls_ext (HVE.out _)) | (go_at_call 26; refine calls_ext (HI.out _)) | (go_at_call 32; refine calls_ext (HRE.out _)))))
        refine wpQuiet_nil ?_
        intro w9 hb9
        go_wp2_with fail
        go_meet
        exact ⟨HB.out, hb9⟩
      | false =>
        cases hv : decide (t < lastTo l) with
        | true =>
          have HB : Hid (Value.bool true = .bool bad) := by unfold Hid; rw [HBV.out, hu, hv, decide_eq_true HH0.out]; rfl
          go_wp2_with fail
          refine wp_region_ext (by kernel_rfl) (by kernel_rfl) ?_
          iterate 39 (go_big_quiet_step ((first | (go_at_call 16; refine calls_ext (HVE.out _)) | (go_at_call 26; refine calls_ext (HI.out _)) | (go_at_call 32; refine calls_ext (HRE.out _)))))
          refine wpQuiet_nil ?_
          intro w9 hb9
          go_wp2_with fail
          go_meet
          exact ⟨HB.out, hb9⟩
        | false =>
          have HB : Hid (Value.bool false = .bool bad) := by unfold Hid; rw [HBV.out, hu, hv, decide_eq_true HH0.out]; rfl
          go_wp2_with fail
          refine wp_region_ext (by kernel_rfl) (by kernel_rfl) ?_
          iterate 39 (go_big_quiet_step ((first | (go_at_call 16; refine calls_ext (HVE.out _)) | (go_at_call 26; refine calls_ext (HI.out _)) | (go_at_call 32; refine calls_ext (HRE.out _)))))
          refine wpQuiet_nil ?_
          intro w9 hb9
          go_wp2_with fail
          go_meet
          exact ⟨HB.out, hb9⟩
    · have HB : Hid (Value.bool false = .bool bad) := by unfold Hid; rw [HBV.out, decide_eq_false h0]; rfl
      have h1 : l = [] := List.eq_nil_of_length_eq_zero (by omega)
      subst h1
      clear h0
      go_wp2_with fail
      refine wp_region_ext (by kernel_rfl) (by kernel_rfl) ?_
      iterate 39 (go_big_quiet_step ((first | (go_at_call 16; refine calls_ext (HVE.out _)) | (go_at_call 26; refine calls_ext (HI.out _)) | (go_at_call 32; refine calls_ext (HRE.out _)))))
      refine wpQuiet_nil ?_
      intro w9 hb9
      go_wp2_with fail
      go_meet
      exact ⟨HB.out, hb9⟩
  case rest =>
  obtain ⟨rfl, hb⟩ := hcut
  have HX1 := Lib.hid (And.intro (HX.out.1.below hb) (And.intro (HX.out.2.1.below hb) (And.intro (HX.out.2.2.1.below hb) (And.intro (HX.out.2.2.2.1.below (World.block_lt_of_cell? _ ⟨w.heap.size + 1 + 1, 0, none⟩ HX.out.2.2.1.1.1) hb) (And.intro (keepSt hb HX.out.2.2.2.2.1) (And.intro (keepRd hb HX.out.2.2.2.2.2.1) (keepBelow HX.out.2.2.2.2.2.2 hb)))))))
  clear A0 A1 A2 A3 A4 A5 A6 S0 S1 hbe hb
  obtain ⟨⟨⟨A0, A1, A2, A3, A4, A5, A6⟩, -⟩, ⟨⟨S0, S1⟩, -⟩, -, -, -, -, hbe⟩ := HX1.out
  generalize wc = w1 at *
  cases bad with
  | true =>
    have HM : Hid (replM s (f, t) l = (noSt, 1)) := repl_bad (badB_iff.1 HBD.out)
    obtain ⟨⟨Z0, Z1, Z2, Z3, Z4, Z5, Z6⟩, K0, K1, K2, K3, K4, K5, K6⟩ := HX1.out.2.2.1
    go_wp2
    change bodyPost _ _ _ _ _ (put7 w1 (w.heap.size + 1 + 1) (.int .i64 0) (.slice none 0 0) (.int .i64 0) (.slice none 0 0) (.int .i64 0) (.int .i64 0) (.slice none 0 0))
    obtain ⟨r0, r1, r2, r3, r4, r5, r6⟩ := put7_at (.int .i64 0) (.slice none 0 0) (.int .i64 0) (.slice none 0 0) (.int .i64 0) (.int .i64 0) (.slice none 0 0) Z0 Z1 Z2 Z3 Z4 Z5 Z6
    have hBZ := put7_below (.int .i64 0) (.slice none 0 0) (.int .i64 0) (.slice none 0 0) (.int .i64 0) (.int .i64 0) (.slice none 0 0) hbe (b := (w.heap.size + 1 + 1)) (by omega)
    have hRZ : RdSt (put7 w1 (w.heap.size + 1 + 1) (.int .i64 0) (.slice none 0 0) (.int .i64 0) (.slice none 0 0) (.int .i64 0) (.int .i64 0) (.slice none 0 0)) noSt (.slice none 0 0) (.slice none 0 0) (.slice none 0 0) := rdst_no _
    generalize put7 w1 (w.heap.size + 1 + 1) (.int .i64 0) (.slice none 0 0) (.int .i64 0) (.slice none 0 0) (.int .i64 0) (.int .i64 0) (.slice none 0 0) = Z at *
    refine bodyPost_ret (v := .tuple #[.agg #[.int .i64 0, .slice none 0 0, .int .i64 0, .slice none 0 0, .int .i64 0, .int .i64 0, .slice none 0 0], .int .i64 1]) (by simp [results, Tryz.results41, go_sem, r0, r1, r2, r3, r4, r5, r6]) rfl ?_
    show TsPost _ w _ _
    rw [HM.out]
    exact ⟨_, _, _, rfl, hRZ, hBZ⟩
  | false =>
  have hnb : ¬(VB s = false ∨ ivB (f, t) = false ∨ rvB l = false ∨ outB (f, t) l = true) := fun hh => by have := badB_iff.2 hh; rw [HBD.out] at this; cases this
  have hv1 : VB s = true := by cases hh : VB s with | true => rfl | false => exact absurd (.inl hh) hnb
  have hv2 : ivB (f, t) = true := by cases hh : ivB (f, t) with | true => rfl | false => exact absurd (.inr (.inl hh)) hnb
  have hv3 : rvB l = true := by cases hh : rvB l with | true => rfl | false => exact absurd (.inr (.inr (.inl hh))) hnb
  have hv4 : outB (f, t) l = false := by cases hh : outB (f, t) l with | false => rfl | true => exact absurd (.inr (.inr (.inr hh))) hnb
  have HVV := Lib.hid (And.intro hv1 (And.intro hv2 (And.intro hv3 hv4)))
  clear hnb hv1 hv2 hv3 hv4
  have hb := (Below.refl w1.heap.size w1).alloc (Nat.le_refl _) (.cells #[.int .i64 f, .int .i64 t] 40)
  have HO1 := Lib.hid (rd_oneS w1 f t)
  have HX2 := Lib.hid (And.intro (HX1.out.1.below hb) (And.intro (HX1.out.2.1.below hb) (And.intro (HX1.out.2.2.1.below hb) (And.intro (HX1.out.2.2.2.1.below (World.block_lt_of_cell? _ ⟨w.heap.size + 1 + 1, 0, none⟩ HX1.out.2.2.1.1.1) hb) (And.intro (keepSt hb HX1.out.2.2.2.2.1) (And.intro (keepRd hb HX1.out.2.2.2.2.2.1) (keepBelow HX1.out.2.2.2.2.2.2 hb)))))))
  clear hb
  have HF1 : Hid (Calls Tryz.prog 39 #[.slice (some ⟨w1.heap.size, 0, none⟩) 1 1] (w1.alloc (.cells #[.int .i64 f, .int .i64 t] 40)) (TsPost (holeF (f, t), 0) (w1.alloc (.cells #[.int .i64 f, .int .i64 t] 40)))) := by
    have := HFR.out _ [(f, t)] _ HO1.out (by intro n c e; cases e) (by simp)
    rw [from_one HVV.out.2.1] at this
    exact this
  obtain ⟨T, hT⟩ : ∃ T, holeF (f, t) = T := ⟨_, rfl⟩
  have HTT := Lib.hid hT
  rw [hT] at HF1
  clear hT
  go_wp2_with fail
  refine HF1.out.mono ?_
  rintro e w2 ⟨vl2, vr2, vv2, rfl, hr, hb⟩
  obtain ⟨c1, cm1, rfl⟩ := hr.1.form
  obtain ⟨c2, cm2, rfl⟩ := hr.2.1.form
  obtain ⟨c3, cm3, rfl⟩ := hr.2.2.form
  have HX3 := Lib.hid (And.intro (HX2.out.1.below hb) (And.intro (HX2.out.2.1.below hb) (And.intro (HX2.out.2.2.1.below hb) (And.intro (HX2.out.2.2.2.1.below (World.block_lt_of_cell? _ ⟨w.heap.size + 1 + 1, 0, none⟩ HX2.out.2.2.1.1.1) hb) (And.intro (keepSt hb HX2.out.2.2.2.2.1) (And.intro (keepRd hb HX2.out.2.2.2.2.2.1) (keepBelow HX2.out.2.2.2.2.2.2 hb)))))))
  clear A0 A1 A2 A3 A4 A5 A6 S0 S1 hbe hb HX1 HX2 HO1 HF1
  have hb := (Below.refl w2.heap.size w2).alloc (Nat.le_refl _) (.cells #[.int .i64 T.lf.1, .slice c1 T.lf.2.length cm1, .int .i64 T.rt.1, .slice c2 T.rt.2.length cm2, .int .i64 T.fr, .int .i64 T.to, .slice c3 T.l.length cm3] 26)
  have HX4 := Lib.hid (And.intro (HX3.out.1.below hb) (And.intro (HX3.out.2.1.below hb) (And.intro (HX3.out.2.2.1.below hb) (And.intro (HX3.out.2.2.2.1.below (World.block_lt_of_cell? _ ⟨w.heap.size + 1 + 1, 0, none⟩ HX3.out.2.2.1.1.1) hb) (And.intro (keepSt hb HX3.out.2.2.2.2.1) (And.intro (keepRd hb HX3.out.2.2.2.2.2.1) (keepBelow HX3.out.2.2.2.2.2.2 hb)))))))
  have HN4 := Lib.hid (And.intro (set7_new w2 (.int .i64 T.lf.1) (.slice c1 T.lf.2.length cm1) (.int .i64 T.rt.1) (.slice c2 T.rt.2.length cm2) (.int .i64 T.fr) (.int .i64 T.to) (.slice c3 T.l.length cm3)) (keepSt hb hr))
  clear hb hr HX3
  obtain ⟨⟨⟨A0, A1, A2, A3, A4, A5, A6⟩, -⟩, ⟨⟨S0, S1⟩, -⟩, -, -, -, -, hbe⟩ := HX4.out
  obtain ⟨⟨⟨C0, C1, C2, C3, C4, C5, C6⟩, _⟩, _⟩ := HN4.out
  obtain ⟨⟨U, E⟩, hU⟩ : ∃ U, combM 2 s T = U := ⟨_, rfl⟩
  have HUU := Lib.hid hU
  have HM2 := Lib.hid (HMI.out T _ _ _ _ HX4.out.2.2.2.2.1 HN4.out.2)
  rw [hU] at HM2
  clear hU
  go_wp2_with fail
  refine HM2.out.mono ?_
  rintro e w3 hpost
  obtain ⟨vl3, vr3, vv3, rfl, hr, hb⟩ : ∃ vl vr vv, e = .returned (.tuple #[.agg #[.int .i64 U.lf.1, vl, .int .i64 U.rt.1, vr, .int .i64 U.fr, .int .i64 U.to, vv], .int .i64 E]) ∧ RdSt w3 U vl vr vv ∧ Below _ _ w3 := hpost
  obtain ⟨d1, dm1, rfl⟩ := hr.1.form
  obtain ⟨d2, dm2, rfl⟩ := hr.2.1.form
  obtain ⟨d3, dm3, rfl⟩ := hr.2.2.form
  have HX5 := Lib.hid (And.intro (HX4.out.1.below hb) (And.intro (HX4.out.2.1.below hb) (And.intro (HX4.out.2.2.1.below hb) (And.intro (HX4.out.2.2.2.1.below (World.block_lt_of_cell? _ ⟨w.heap.size + 1 + 1, 0, none⟩ HX4.out.2.2.1.1.1) hb) (And.intro (keepSt hb HX4.out.2.2.2.2.1) (And.intro (keepRd hb HX4.out.2.2.2.2.2.1) (keepBelow HX4.out.2.2.2.2.2.2 hb)))))))
  clear A0 A1 A2 A3 A4 A5 A6 S0 S1 hbe hb HX4 HM2 C0 C1 C2 C3 C4 C5 C6 HN4
  have hb := (Below.refl w3.heap.size w3).alloc (Nat.le_refl _) (.cells #[.int .i64 U.lf.1, .slice d1 U.lf.2.length dm1, .int .i64 U.rt.1, .slice d2 U.rt.2.length dm2, .int .i64 U.fr, .int .i64 U.to, .slice d3 U.l.length dm3] 26)
  have HX6 := Lib.hid (And.intro (HX5.out.1.below hb) (And.intro (HX5.out.2.1.below hb) (And.intro (HX5.out.2.2.1.below hb) (And.intro (HX5.out.2.2.2.1.below (World.block_lt_of_cell? _ ⟨w.heap.size + 1 + 1, 0, none⟩ HX5.out.2.2.1.1.1) hb) (And.intro (keepSt hb HX5.out.2.2.2.2.1) (And.intro (keepRd hb HX5.out.2.2.2.2.2.1) (keepBelow HX5.out.2.2.2.2.2.2 hb)))))))
  have HN6 := Lib.hid (And.intro (set7_new w3 (.int .i64 U.lf.1) (.slice d1 U.lf.2.length dm1) (.int .i64 U.rt.1) (.slice d2 U.rt.2.length dm2) (.int .i64 U.fr) (.int .i64 U.to) (.slice d3 U.l.length dm3)) (keepSt hb hr))
  clear hb hr HX5
  obtain ⟨⟨⟨A0, A1, A2, A3, A4, A5, A6⟩, -⟩, ⟨⟨S0, S1⟩, -⟩, -, -, -, -, hbe⟩ := HX6.out
  obtain ⟨⟨⟨D0, D1, D2, D3, D4, D5, D6⟩, _⟩, _⟩ := HN6.out
  obtain ⟨W6, hW6⟩ : ∃ W6, w3.alloc (.cells #[.int .i64 U.lf.1, .slice d1 U.lf.2.length dm1, .int .i64 U.rt.1, .slice d2 U.rt.2.length dm2, .int .i64 U.fr, .int .i64 U.to, .slice d3 U.l.length dm3] 26) = W6 := ⟨_, rfl⟩
  have HE6 := Lib.hid hW6
  by_cases hE : E = 0
  case neg =>
    have t1 : (E != 0) = true := by simpa using hE
    have HM : Hid (replM s (f, t) l = (noSt, E)) := repl_hole HVV.out.1 HVV.out.2.1 HVV.out.2.2.1 HVV.out.2.2.2 (by rw [HTT.out, HUU.out]) hE
    clear hE
    obtain ⟨⟨Z0, Z1, Z2, Z3, Z4, Z5, Z6⟩, K0, K1, K2, K3, K4, K5, K6⟩ := HX6.out.2.2.1
    rw [hW6] at Z0 Z1 Z2 Z3 Z4 Z5 Z6 K0 K1 K2 K3 K4 K5 K6 hbe
    go_upto_region 6 with fail
    try rw [HE6.out]
    go_wp2
    change bodyPost _ _ _ _ _ (put7 W6 (w.heap.size + 1 + 1) (.int .i64 0) (.slice none 0 0) (.int .i64 0) (.slice none 0 0) (.int .i64 0) (.int .i64 0) (.slice none 0 0))
    obtain ⟨r0, r1, r2, r3, r4, r5, r6⟩ := put7_at (.int .i64 0) (.slice none 0 0) (.int .i64 0) (.slice none 0 0) (.int .i64 0) (.int .i64 0) (.slice none 0 0) Z0 Z1 Z2 Z3 Z4 Z5 Z6
    have hBZ := put7_below (.int .i64 0) (.slice none 0 0) (.int .i64 0) (.slice none 0 0) (.int .i64 0) (.int .i64 0) (.slice none 0 0) hbe (b := (w.heap.size + 1 + 1)) (by omega)
    have hRZ : RdSt (put7 W6 (w.heap.size + 1 + 1) (.int .i64 0) (.slice none 0 0) (.int .i64 0) (.slice none 0 0) (.int .i64 0) (.int .i64 0) (.slice none 0 0)) noSt (.slice none 0 0) (.slice none 0 0) (.slice none 0 0) := rdst_no _
    generalize put7 W6 (w.heap.size + 1 + 1) (.int .i64 0) (.slice none 0 0) (.int .i64 0) (.slice none 0 0) (.int .i64 0) (.int .i64 0) (.slice none 0 0) = Z at *
    refine bodyPost_ret (v := .tuple #[.agg #[.int .i64 0, .slice none 0 0, .int .i64 0, .slice none 0 0, .int .i64 0, .int .i64 0, .slice none 0 0], .int .i64 E]) (by simp [results, Tryz.results41, go_sem, r0, r1, r2, r3, r4, r5, r6]) rfl ?_
    show TsPost _ w _ _
    rw [HM.out]
    exact ⟨_, _, _, rfl, hRZ, hBZ⟩
  subst hE
  clear hW6 HE6 W6
  have HX7 := HX6
  have HN7 := HN6
  obtain ⟨V, hV⟩ : ∃ V, (fromM l).1 = V := ⟨_, rfl⟩
  have hfe : (fromM l).2 = 0 := (from_rv HVV.out.2.2.1).1
  have HFF : Hid (fromM l = (V, 0)) := by unfold Hid; rw [← hV, ← hfe]
  have HVP : Hid (PosSt V) := by unfold Hid; rw [← hV]; exact pos_from
  have HF3 := Lib.hid (HFR.out _ l _ HX7.out.2.2.2.2.2.1 HZZ.out (by omega))
  rw [HFF.out] at HF3
  clear hV hfe
  go_wp2_with fail
  refine HF3.out.mono ?_
  rintro e w5 ⟨vl5, vr5, vv5, rfl, hr, hb⟩
  obtain ⟨i1, im1, rfl⟩ := hr.1.form
  obtain ⟨i2, im2, rfl⟩ := hr.2.1.form
  obtain ⟨i3, im3, rfl⟩ := hr.2.2.form
  have HX8 := Lib.hid (And.intro (HX7.out.1.below hb) (And.intro (HX7.out.2.1.below hb) (And.intro (HX7.out.2.2.1.below hb) (And.intro (HX7.out.2.2.2.1.below (World.block_lt_of_cell? _ ⟨w.heap.size + 1 + 1, 0, none⟩ HX7.out.2.2.1.1.1) hb) (And.intro (keepSt hb HX7.out.2.2.2.2.1) (And.intro (keepRd hb HX7.out.2.2.2.2.2.1) (keepBelow HX7.out.2.2.2.2.2.2 hb)))))))
  have HN8 := Lib.hid (And.intro (HN7.out.1.below hb) (keepSt hb HN7.out.2))
  clear A0 A1 A2 A3 A4 A5 A6 S0 S1 hbe D0 D1 D2 D3 D4 D5 D6 hb HX7 HN7 HF3
  have hb := (Below.refl w5.heap.size w5).alloc (Nat.le_refl _) (.cells #[.int .i64 V.lf.1, .slice i1 V.lf.2.length im1, .int .i64 V.rt.1, .slice i2 V.rt.2.length im2, .int .i64 V.fr, .int .i64 V.to, .slice i3 V.l.length im3] 26)
  have HX9 := Lib.hid (And.intro (HX8.out.1.below hb) (And.intro (HX8.out.2.1.below hb) (And.intro (HX8.out.2.2.1.below hb) (And.intro (HX8.out.2.2.2.1.below (World.block_lt_of_cell? _ ⟨w.heap.size + 1 + 1, 0, none⟩ HX8.out.2.2.1.1.1) hb) (And.intro (keepSt hb HX8.out.2.2.2.2.1) (And.intro (keepRd hb HX8.out.2.2.2.2.2.1) (keepBelow HX8.out.2.2.2.2.2.2 hb)))))))
  have HN9 := Lib.hid (And.intro (HN8.out.1.below hb) (keepSt hb HN8.out.2))
  have HI9 := Lib.hid (And.intro (set7_new w5 (.int .i64 V.lf.1) (.slice i1 V.lf.2.length im1) (.int .i64 V.rt.1) (.slice i2 V.rt.2.length im2) (.int .i64 V.fr) (.int .i64 V.to) (.slice i3 V.l.length im3)) (keepSt hb hr))
  clear hb hr HX8 HN8
  obtain ⟨⟨⟨A0, A1, A2, A3, A4, A5, A6⟩, -⟩, ⟨⟨S0, S1⟩, -⟩, -, -, -, -, hbe⟩ := HX9.out
  obtain ⟨⟨⟨D0, D1, D2, D3, D4, D5, D6⟩, _⟩, _⟩ := HN9.out
  obtain ⟨⟨⟨I0, I1, I2, I3, I4, I5, I6⟩, _⟩, _⟩ := HI9.out
  have HM : Hid (replM s (f, t) l = combM 0 U V) := by
    unfold Hid
    rw [repl_fill HVV.out.1 HVV.out.2.1 HVV.out.2.2.1 HVV.out.2.2.2 (by rw [HTT.out]; exact HUU.out), HFF.out]
  have HPP : Hid (PosSt (combM 0 U V).1) := pos_comb
  obtain ⟨Y, hY⟩ : ∃ Y, combM 0 U V = Y := ⟨_, rfl⟩
  have HU5 := Lib.hid (HUN.out U V _ _ _ _ _ _ _ HN9.out.2 HI9.out.2)
  rw [hY] at HU5 HM HPP
  clear hY
  go_wp2_with fail
  refine HU5.out.mono ?_
  rintro e w6 ⟨vl6, vr6, vv6, rfl, hr, hb⟩
  obtain ⟨j1, jm1, rfl⟩ := hr.1.form
  obtain ⟨j2, jm2, rfl⟩ := hr.2.1.form
  obtain ⟨j3, jm3, rfl⟩ := hr.2.2.form
  have HXa := Lib.hid (And.intro (HX9.out.1.below hb) (And.intro (HX9.out.2.1.below hb) (And.intro (HX9.out.2.2.1.below hb) (And.intro (HX9.out.2.2.2.1.below (World.block_lt_of_cell? _ ⟨w.heap.size + 1 + 1, 0, none⟩ HX9.out.2.2.1.1.1) hb) (And.intro (keepSt hb HX9.out.2.2.2.2.1) (And.intro (keepRd hb HX9.out.2.2.2.2.2.1) (keepBelow HX9.out.2.2.2.2.2.2 hb)))))))
  have HRR := Lib.hid hr
  clear A0 A1 A2 A3 A4 A5 A6 S0 S1 hbe D0 D1 D2 D3 D4 D5 D6 I0 I1 I2 I3 I4 I5 I6 hb hr HX9 HN9 HI9 HU5
  have hbe := HXa.out.2.2.2.2.2.2
  obtain ⟨⟨Z0, Z1, Z2, Z3, Z4, Z5, Z6⟩, K0, K1, K2, K3, K4, K5, K6⟩ := HXa.out.2.2.1
  go_wp2
  change bodyPost _ _ _ _ _ (put7 w6 (w.heap.size + 1 + 1) (.int .i64 Y.1.lf.1) (.slice j1 Y.1.lf.2.length jm1) (.int .i64 Y.1.rt.1) (.slice j2 Y.1.rt.2.length jm2) (.int .i64 Y.1.fr) (.int .i64 Y.1.to) (.slice j3 Y.1.l.length jm3))
  obtain ⟨r0, r1, r2, r3, r4, r5, r6⟩ := put7_at (.int .i64 Y.1.lf.1) (.slice j1 Y.1.lf.2.length jm1) (.int .i64 Y.1.rt.1) (.slice j2 Y.1.rt.2.length jm2) (.int .i64 Y.1.fr) (.int .i64 Y.1.to) (.slice j3 Y.1.l.length jm3) Z0 Z1 Z2 Z3 Z4 Z5 Z6
  have hBZ := put7_below (.int .i64 Y.1.lf.1) (.slice j1 Y.1.lf.2.length jm1) (.int .i64 Y.1.rt.1) (.slice j2 Y.1.rt.2.length jm2) (.int .i64 Y.1.fr) (.int .i64 Y.1.to) (.slice j3 Y.1.l.length jm3) hbe (b := (w.heap.size + 1 + 1)) (by omega)
  have hRZ := HRR.out.put (.int .i64 Y.1.lf.1) (.slice j1 Y.1.lf.2.length jm1) (.int .i64 Y.1.rt.1) (.slice j2 Y.1.rt.2.length jm2) (.int .i64 Y.1.fr) (.int .i64 Y.1.to) (.slice j3 Y.1.l.length jm3) HPP.out HXa.out.2.2.2.1
  generalize put7 w6 (w.heap.size + 1 + 1) (.int .i64 Y.1.lf.1) (.slice j1 Y.1.lf.2.length jm1) (.int .i64 Y.1.rt.1) (.slice j2 Y.1.rt.2.length jm2) (.int .i64 Y.1.fr) (.int .i64 Y.1.to) (.slice j3 Y.1.l.length jm3) = Z at *
  refine bodyPost_ret (v := .tuple #[.agg #[.int .i64 Y.1.lf.1, .slice j1 Y.1.lf.2.length jm1, .int .i64 Y.1.rt.1, .slice j2 Y.1.rt.2.length jm2, .int .i64 Y.1.fr, .int .i64 Y.1.to, .slice j3 Y.1.l.length jm3], .int .i64 Y.2]) (by simp [results, Tryz.results41, go_sem, r0, r1, r2, r3, r4, r5, r6]) rfl ?_
  show TsPost _ w _ _
  rw [HM.out]
  exact ⟨_, _, _, rfl, hRZ, hBZ⟩
end Go.Proofs.YtnjpceocnldlfaaGreat
namespace Go.Proofs.YtnjpceocnldlfaaGreat
open Go.RowKit Wk

set_option maxRecDepth 100000 in
set_option maxHeartbeats 16000000 in
theorem law_SetLists (a : St) (al ar av : Value) (v0 : Value) (l : List Sp) (f t : Int) (v3 : Value) (k : List Sp) (w : World) (ha : RdSt w a al ar av) (hl : RdS w v0 l) (hk : RdS w v3 k) (hz0 : ∀ n c, v0 = .slice none n c → c = 0) (hz3 : ∀ n c, v3 = .slice none n c → c = 0) :
    Calls Tryz.prog 7 #[v0, .agg #[.int .i64 a.lf.1, al, .int .i64 a.rt.1, ar, .int .i64 a.fr, .int .i64 a.to, av], .agg #[.int .i64 f, .int .i64 t], v3] w fun e w' => e = .returned (.bool true) ∧ Below w.heap.size w w' := by
  have HAW := Lib.hid (fun W => awake14_any W)
  have HLA := Lib.hid (fun v L W h => large14_any v L W h)
  have HF1 := Lib.hid (fun hn W h => from_any v0 l W h hn)
  have HF2 := Lib.hid (fun hn W h => rfrom14_any v0 l W h hz0 hn)
  have HR1 := Lib.hid (fun hn W h h' => treplace_any a al ar av f t v3 k W h h' hn)
  have HR2 := Lib.hid (fun hn hm W h h' => replace14_any a al ar av f t v3 k W h h' hn hz3 hm)
  have HSM := Lib.hid (fun T E al ar av bl br bv W h h' => same_any T E al ar av bl br bv W h h')
  have HRA := Lib.hid ha
  have HRL := Lib.hid hl
  have HRK := Lib.hid hk
  obtain ⟨a1, an1, e1⟩ := ha.1.form
  obtain ⟨a2, an2, e2⟩ := ha.2.1.form
  obtain ⟨a3, an3, e3⟩ := ha.2.2.form
  subst e1 e2 e3
  obtain ⟨pl, cl, rfl⟩ := hl.form
  obtain ⟨pk, ck, rfl⟩ := hk.form
  clear ha hl hk hz0 hz3
  obtain ⟨W, hWe⟩ : ∃ W, (w.alloc (.cells #[.int .i64 a.lf.1, (.slice a1 a.lf.2.length an1), .int .i64 a.rt.1, (.slice a2 a.rt.2.length an2), .int .i64 a.fr, .int .i64 a.to, (.slice a3 a.l.length an3)] 26)).alloc (.cells #[.int .i64 f, .int .i64 t] 40) = W := ⟨_, rfl⟩
  have hW : Below w.heap.size w W := by rw [← hWe]; exact ((Below.refl _ w).alloc (Nat.le_refl _) _).alloc (by simp) _
  have HX : Hid (Set7 W w.heap.size (.int .i64 a.lf.1) (.slice a1 a.lf.2.length an1) (.int .i64 a.rt.1) (.slice a2 a.rt.2.length an2) (.int .i64 a.fr) (.int .i64 a.to) (.slice a3 a.l.length an3) ∧ Box2 W (w.heap.size + 1) (.int .i64 f) (.int .i64 t) ∧ RdSt W a (.slice a1 a.lf.2.length an1) (.slice a2 a.rt.2.length an2) (.slice a3 a.l.length an3) ∧ RdS W (.slice pl l.length cl) l ∧ RdS W (.slice pk k.length ck) k ∧ Below w.heap.size w W) := by
    refine ⟨?_, ?_, keepSt hW HRA.out, keepRd hW HRL.out, keepRd hW HRK.out, hW⟩
    · rw [← hWe]
      refine ⟨⟨?_, ?_, ?_, ?_, ?_, ?_, ?_⟩, ?_, ?_, ?_, ?_, ?_, ?_, ?_⟩ <;> simp [go_sem]
    · rw [← hWe]
      refine ⟨⟨?_, ?_⟩, ?_, ?_⟩ <;> simp [go_sem]
  have HE := Lib.hid hWe
  clear hWe hW HRA HRL HRK
  obtain ⟨⟨⟨A0, A1, A2, A3, A4, A5, A6⟩, -⟩, ⟨⟨S0, S1⟩, -⟩, -, -, -, hbe⟩ := HX.out
  go_enter Tryz.func7, Tryz.ntmps7
  go_wp2_with fail
  rw [HE.out]
  go_wp2_with fail
  refine (HAW.out _).mono ?_
  rintro e w1 ⟨rfl, hb⟩
  have HX1 := Lib.hid (And.intro (HX.out.1.below hb) (And.intro (HX.out.2.1.below hb) (And.intro (keepSt hb HX.out.2.2.1) (And.intro (keepRd hb HX.out.2.2.2.1) (And.intro (keepRd hb HX.out.2.2.2.2.1) (keepBelow HX.out.2.2.2.2.2 hb))))))
  clear A0 A1 A2 A3 A4 A5 A6 S0 S1 hbe
  obtain ⟨⟨⟨A0, A1, A2, A3, A4, A5, A6⟩, -⟩, ⟨⟨S0, S1⟩, -⟩, -, -, -, hbe⟩ := HX1.out
  clear hb
  have HT1 := Lib.hid (rdT_one HX1.out.2.2.1)
  have hb := (Below.refl w1.heap.size w1).alloc (Nat.le_refl _) (.cells #[.int .i64 a.lf.1, (.slice a1 a.lf.2.length an1), .int .i64 a.rt.1, (.slice a2 a.rt.2.length an2), .int .i64 a.fr, .int .i64 a.to, (.slice a3 a.l.length an3)] 26)
  have HX1' := Lib.hid (And.intro (HX1.out.1.below hb) (And.intro (HX1.out.2.1.below hb) (And.intro (keepSt hb HX1.out.2.2.1) (And.intro (keepRd hb HX1.out.2.2.2.1) (And.intro (keepRd hb HX1.out.2.2.2.2.1) (keepBelow HX1.out.2.2.2.2.2 hb))))))
  go_wp2_with fail
  refine (HLA.out _ _ _ HT1.out).mono ?_
  rintro e w2 ⟨rfl, hb⟩
  have HX2 := Lib.hid (And.intro (HX1'.out.1.below hb) (And.intro (HX1'.out.2.1.below hb) (And.intro (keepSt hb HX1'.out.2.2.1) (And.intro (keepRd hb HX1'.out.2.2.2.1) (And.intro (keepRd hb HX1'.out.2.2.2.2.1) (keepBelow HX1'.out.2.2.2.2.2 hb))))))
  clear A0 A1 A2 A3 A4 A5 A6 S0 S1 hbe
  obtain ⟨⟨⟨A0, A1, A2, A3, A4, A5, A6⟩, -⟩, ⟨⟨S0, S1⟩, -⟩, -, -, -, hbe⟩ := HX2.out
  clear hb HT1
  obtain ⟨lg, hlg⟩ : ∃ g, anyL [(a, .slice a1 a.lf.2.length an1, .slice a2 a.rt.2.length an2, .slice a3 a.l.length an3)] = g := ⟨_, rfl⟩
  rw [hlg]
  clear hlg
  cases lg with
  | true =>
    go_wp2
    go_ret
    exact ⟨rfl, hbe⟩
  | false =>
  by_cases g1 : ¬ l.length ≤ 100
  · have t1 : decide ((100 : Int) < (l.length : Int)) = true := decide_eq_true (by omega)
    have t1' : decide (100 < l.length) = true := decide_eq_true (by omega)
    clear g1
    go_wp2
    go_ret
    exact ⟨rfl, hbe⟩
  have g1 : l.length ≤ 100 := by omega
  have t1 : decide ((100 : Int) < (l.length : Int)) = false := decide_eq_false (by omega)
  have t1' : decide (100 < l.length) = false := decide_eq_false (by omega)
  by_cases g2 : ¬ k.length ≤ 100
  · have t2 : decide ((100 : Int) < (k.length : Int)) = true := decide_eq_true (by omega)
    have t2' : decide (100 < k.length) = true := decide_eq_true (by omega)
    clear g1 g2
    go_wp2
    go_ret
    exact ⟨rfl, hbe⟩
  have g2 : k.length ≤ 100 := by omega
  have t2 : decide ((100 : Int) < (k.length : Int)) = false := decide_eq_false (by omega)
  have t2' : decide (100 < k.length) = false := decide_eq_false (by omega)
  have HF1 := Lib.hid (HF1.out (by omega))
  have HF2 := Lib.hid (HF2.out (by omega))
  have HR1 := Lib.hid (HR1.out (by omega))
  have HR2 := Lib.hid (HR2.out (by omega) (by omega))
  clear g1 g2
  obtain ⟨⟨T, E⟩, hT⟩ : ∃ T, fromM l = T := ⟨_, rfl⟩
  obtain ⟨⟨U, D⟩, hU⟩ : ∃ U, replM a (f, t) k = U := ⟨_, rfl⟩
  rw [hT] at HF1 HF2
  rw [hU] at HR1 HR2
  clear hT hU
  go_wp2_with fail
  refine (HF1.out _ HX2.out.2.2.2.1).mono ?_
  rintro e w3 hpost
  obtain ⟨vl, vr, vv, rfl, hr, hb⟩ : ∃ vl vr vv, e = .returned (.tuple #[.agg #[.int .i64 T.lf.1, vl, .int .i64 T.rt.1, vr, .int .i64 T.fr, .int .i64 T.to, vv], .int .i64 E]) ∧ RdSt w3 T vl vr vv ∧ Below _ _ w3 := hpost
  obtain ⟨c1, cm1, rfl⟩ := hr.1.form
  obtain ⟨c2, cm2, rfl⟩ := hr.2.1.form
  obtain ⟨c3, cm3, rfl⟩ := hr.2.2.form
  have HY3 := Lib.hid (And.intro (HX2.out.1.below hb) (And.intro (HX2.out.2.1.below hb) (And.intro (keepSt hb HX2.out.2.2.1) (And.intro (keepRd hb HX2.out.2.2.2.1) (And.intro (keepRd hb HX2.out.2.2.2.2.1) (keepBelow HX2.out.2.2.2.2.2 hb))))))
  clear A0 A1 A2 A3 A4 A5 A6 S0 S1 hbe
  clear hb
  have hb := (Below.refl w3.heap.size w3).alloc (Nat.le_refl _) (.cells #[.int .i64 T.lf.1, .slice c1 T.lf.2.length cm1, .int .i64 T.rt.1, .slice c2 T.rt.2.length cm2, .int .i64 T.fr, .int .i64 T.to, .slice c3 T.l.length cm3] 26)
  have HZ3 := Lib.hid (And.intro (HY3.out.1.below hb) (And.intro (HY3.out.2.1.below hb) (And.intro (keepSt hb HY3.out.2.2.1) (And.intro (keepRd hb HY3.out.2.2.2.1) (And.intro (keepRd hb HY3.out.2.2.2.2.1) (keepBelow HY3.out.2.2.2.2.2 hb))))))
  have HN3 := Lib.hid (And.intro (set7_new w3 (.int .i64 T.lf.1) (.slice c1 T.lf.2.length cm1) (.int .i64 T.rt.1) (.slice c2 T.rt.2.length cm2) (.int .i64 T.fr) (.int .i64 T.to) (.slice c3 T.l.length cm3)) (keepSt hb hr))
  have HK3 := Lib.hid (And.intro HZ3.out.1 (And.intro HZ3.out.2.1 (And.intro HZ3.out.2.2.1 (And.intro HZ3.out.2.2.2.1 (And.intro HZ3.out.2.2.2.2.1 (And.intro HN3.out.1 (And.intro HN3.out.2 HZ3.out.2.2.2.2.2)))))))
  clear hb hr HY3 HZ3 HN3 HX2 HF1
  obtain ⟨⟨⟨A0, A1, A2, A3, A4, A5, A6⟩, -⟩, ⟨⟨S0, S1⟩, -⟩, -, -, -, ⟨⟨C0, C1, C2, C3, C4, C5, C6⟩, -⟩, -, hbe⟩ := HK3.out
  go_wp2_with fail
  refine (HF2.out _ HK3.out.2.2.2.1).mono ?_
  rintro e w4 hpost
  obtain ⟨vl, vr, vv, rfl, hr, hb⟩ : ∃ vl vr vv, e = .returned (.tuple #[.agg #[.int .i64 T.lf.1, vl, .int .i64 T.rt.1, vr, .int .i64 T.fr, .int .i64 T.to, vv], .int .i64 E]) ∧ RdSt w4 T vl vr vv ∧ Below _ _ w4 := hpost
  obtain ⟨d1, dm1, rfl⟩ := hr.1.form
  obtain ⟨d2, dm2, rfl⟩ := hr.2.1.form
  obtain ⟨d3, dm3, rfl⟩ := hr.2.2.form
  have HY4 := Lib.hid (And.intro (HK3.out.1.below hb) (And.intro (HK3.out.2.1.below hb) (And.intro (keepSt hb HK3.out.2.2.1) (And.intro (keepRd hb HK3.out.2.2.2.1) (And.intro (keepRd hb HK3.out.2.2.2.2.1) (And.intro (HK3.out.2.2.2.2.2.1.below hb) (And.intro (keepSt hb HK3.out.2.2.2.2.2.2.1) (keepBelow HK3.out.2.2.2.2.2.2.2 hb))))))))
  clear A0 A1 A2 A3 A4 A5 A6 S0 S1 C0 C1 C2 C3 C4 C5 C6 hbe
  clear hb
  have hb := (Below.refl w4.heap.size w4).alloc (Nat.le_refl _) (.cells #[.int .i64 T.lf.1, .slice d1 T.lf.2.length dm1, .int .i64 T.rt.1, .slice d2 T.rt.2.length dm2, .int .i64 T.fr, .int .i64 T.to, .slice d3 T.l.length dm3] 26)
  have HZ4 := Lib.hid (And.intro (HY4.out.1.below hb) (And.intro (HY4.out.2.1.below hb) (And.intro (keepSt hb HY4.out.2.2.1) (And.intro (keepRd hb HY4.out.2.2.2.1) (And.intro (keepRd hb HY4.out.2.2.2.2.1) (And.intro (HY4.out.2.2.2.2.2.1.below hb) (And.intro (keepSt hb HY4.out.2.2.2.2.2.2.1) (keepBelow HY4.out.2.2.2.2.2.2.2 hb))))))))
  have HN4 := Lib.hid (And.intro (set7_new w4 (.int .i64 T.lf.1) (.slice d1 T.lf.2.length dm1) (.int .i64 T.rt.1) (.slice d2 T.rt.2.length dm2) (.int .i64 T.fr) (.int .i64 T.to) (.slice d3 T.l.length dm3)) (keepSt hb hr))
  have HK4 := Lib.hid (And.intro HZ4.out.1 (And.intro HZ4.out.2.1 (And.intro HZ4.out.2.2.1 (And.intro HZ4.out.2.2.2.1 (And.intro HZ4.out.2.2.2.2.1 (And.intro HZ4.out.2.2.2.2.2.1 (And.intro HZ4.out.2.2.2.2.2.2.1 (And.intro HN4.out.1 (And.intro HN4.out.2 HZ4.out.2.2.2.2.2.2.2)))))))))
  clear hb hr HY4 HZ4 HN4 HK3 HF2
  obtain ⟨⟨⟨A0, A1, A2, A3, A4, A5, A6⟩, -⟩, ⟨⟨S0, S1⟩, -⟩, -, -, -, ⟨⟨C0, C1, C2, C3, C4, C5, C6⟩, -⟩, -, ⟨⟨D0, D1, D2, D3, D4, D5, D6⟩, -⟩, -, hbe⟩ := HK4.out
  go_wp2_with fail
  refine (HR1.out _ HK4.out.2.2.1 HK4.out.2.2.2.2.1).mono ?_
  rintro e w5 hpost
  obtain ⟨vl, vr, vv, rfl, hr, hb⟩ : ∃ vl vr vv, e = .returned (.tuple #[.agg #[.int .i64 U.lf.1, vl, .int .i64 U.rt.1, vr, .int .i64 U.fr, .int .i64 U.to, vv], .int .i64 D]) ∧ RdSt w5 U vl vr vv ∧ Below _ _ w5 := hpost
  obtain ⟨i1, im1, rfl⟩ := hr.1.form
  obtain ⟨i2, im2, rfl⟩ := hr.2.1.form
  obtain ⟨i3, im3, rfl⟩ := hr.2.2.form
  have HY5 := Lib.hid (And.intro (HK4.out.1.below hb) (And.intro (HK4.out.2.1.below hb) (And.intro (keepSt hb HK4.out.2.2.1) (And.intro (keepRd hb HK4.out.2.2.2.1) (And.intro (keepRd hb HK4.out.2.2.2.2.1) (And.intro (HK4.out.2.2.2.2.2.1.below hb) (And.intro (keepSt hb HK4.out.2.2.2.2.2.2.1) (And.intro (HK4.out.2.2.2.2.2.2.2.1.below hb) (And.intro (keepSt hb HK4.out.2.2.2.2.2.2.2.2.1) (keepBelow HK4.out.2.2.2.2.2.2.2.2.2 hb))))))))))
  clear A0 A1 A2 A3 A4 A5 A6 S0 S1 C0 C1 C2 C3 C4 C5 C6 D0 D1 D2 D3 D4 D5 D6 hbe
  clear hb
  have hb := (Below.refl w5.heap.size w5).alloc (Nat.le_refl _) (.cells #[.int .i64 U.lf.1, .slice i1 U.lf.2.length im1, .int .i64 U.rt.1, .slice i2 U.rt.2.length im2, .int .i64 U.fr, .int .i64 U.to, .slice i3 U.l.length im3] 26)
  have HZ5 := Lib.hid (And.intro (HY5.out.1.below hb) (And.intro (HY5.out.2.1.below hb) (And.intro (keepSt hb HY5.out.2.2.1) (And.intro (keepRd hb HY5.out.2.2.2.1) (And.intro (keepRd hb HY5.out.2.2.2.2.1) (And.intro (HY5.out.2.2.2.2.2.1.below hb) (And.intro (keepSt hb HY5.out.2.2.2.2.2.2.1) (And.intro (HY5.out.2.2.2.2.2.2.2.1.below hb) (And.intro (keepSt hb HY5.out.2.2.2.2.2.2.2.2.1) (keepBelow HY5.out.2.2.2.2.2.2.2.2.2 hb))))))))))
  have HN5 := Lib.hid (And.intro (set7_new w5 (.int .i64 U.lf.1) (.slice i1 U.lf.2.length im1) (.int .i64 U.rt.1) (.slice i2 U.rt.2.length im2) (.int .i64 U.fr) (.int .i64 U.to) (.slice i3 U.l.length im3)) (keepSt hb hr))
  have HK5 := Lib.hid (And.intro HZ5.out.1 (And.intro HZ5.out.2.1 (And.intro HZ5.out.2.2.1 (And.intro HZ5.out.2.2.2.1 (And.intro HZ5.out.2.2.2.2.1 (And.intro HZ5.out.2.2.2.2.2.1 (And.intro HZ5.out.2.2.2.2.2.2.1 (And.intro HZ5.out.2.2.2.2.2.2.2.1 (And.intro HZ5.out.2.2.2.2.2.2.2.2.1 (And.intro HN5.out.1 (And.intro HN5.out.2 HZ5.out.2.2.2.2.2.2.2.2.2)))))))))))
  clear hb hr HY5 HZ5 HN5 HK4 HR1
  obtain ⟨⟨⟨A0, A1, A2, A3, A4, A5, A6⟩, -⟩, ⟨⟨S0, S1⟩, -⟩, -, -, -, ⟨⟨C0, C1, C2, C3, C4, C5, C6⟩, -⟩, -, ⟨⟨D0, D1, D2, D3, D4, D5, D6⟩, -⟩, -, ⟨⟨I0, I1, I2, I3, I4, I5, I6⟩, -⟩, -, hbe⟩ := HK5.out
  go_wp2_with fail
  refine (HR2.out _ HK5.out.2.2.1 HK5.out.2.2.2.2.1).mono ?_
  rintro e w6 hpost
  obtain ⟨vl, vr, vv, rfl, hr, hb⟩ : ∃ vl vr vv, e = .returned (.tuple #[.agg #[.int .i64 U.lf.1, vl, .int .i64 U.rt.1, vr, .int .i64 U.fr, .int .i64 U.to, vv], .int .i64 D]) ∧ RdSt w6 U vl vr vv ∧ Below _ _ w6 := hpost
  obtain ⟨j1, jm1, rfl⟩ := hr.1.form
  obtain ⟨j2, jm2, rfl⟩ := hr.2.1.form
  obtain ⟨j3, jm3, rfl⟩ := hr.2.2.form
  have HY6 := Lib.hid (And.intro (HK5.out.1.below hb) (And.intro (HK5.out.2.1.below hb) (And.intro (keepSt hb HK5.out.2.2.1) (And.intro (keepRd hb HK5.out.2.2.2.1) (And.intro (keepRd hb HK5.out.2.2.2.2.1) (And.intro (HK5.out.2.2.2.2.2.1.below hb) (And.intro (keepSt hb HK5.out.2.2.2.2.2.2.1) (And.intro (HK5.out.2.2.2.2.2.2.2.1.below hb) (And.intro (keepSt hb HK5.out.2.2.2.2.2.2.2.2.1) (And.intro (HK5.out.2.2.2.2.2.2.2.2.2.1.below hb) (And.intro (keepSt hb HK5.out.2.2.2.2.2.2.2.2.2.2.1) (keepBelow HK5.out.2.2.2.2.2.2.2.2.2.2.2 hb))))))))))))
  clear A0 A1 A2 A3 A4 A5 A6 S0 S1 C0 C1 C2 C3 C4 C5 C6 D0 D1 D2 D3 D4 D5 D6 I0 I1 I2 I3 I4 I5 I6 hbe
  clear hb
  have hb := (Below.refl w6.heap.size w6).alloc (Nat.le_refl _) (.cells #[.int .i64 U.lf.1, .slice j1 U.lf.2.length jm1, .int .i64 U.rt.1, .slice j2 U.rt.2.length jm2, .int .i64 U.fr, .int .i64 U.to, .slice j3 U.l.length jm3] 26)
  have HZ6 := Lib.hid (And.intro (HY6.out.1.below hb) (And.intro (HY6.out.2.1.below hb) (And.intro (keepSt hb HY6.out.2.2.1) (And.intro (keepRd hb HY6.out.2.2.2.1) (And.intro (keepRd hb HY6.out.2.2.2.2.1) (And.intro (HY6.out.2.2.2.2.2.1.below hb) (And.intro (keepSt hb HY6.out.2.2.2.2.2.2.1) (And.intro (HY6.out.2.2.2.2.2.2.2.1.below hb) (And.intro (keepSt hb HY6.out.2.2.2.2.2.2.2.2.1) (And.intro (HY6.out.2.2.2.2.2.2.2.2.2.1.below hb) (And.intro (keepSt hb HY6.out.2.2.2.2.2.2.2.2.2.2.1) (keepBelow HY6.out.2.2.2.2.2.2.2.2.2.2.2 hb))))))))))))
  have HN6 := Lib.hid (And.intro (set7_new w6 (.int .i64 U.lf.1) (.slice j1 U.lf.2.length jm1) (.int .i64 U.rt.1) (.slice j2 U.rt.2.length jm2) (.int .i64 U.fr) (.int .i64 U.to) (.slice j3 U.l.length jm3)) (keepSt hb hr))
  have HK6 := Lib.hid (And.intro HZ6.out.1 (And.intro HZ6.out.2.1 (And.intro HZ6.out.2.2.1 (And.intro HZ6.out.2.2.2.1 (And.intro HZ6.out.2.2.2.2.1 (And.intro HZ6.out.2.2.2.2.2.1 (And.intro HZ6.out.2.2.2.2.2.2.1 (And.intro HZ6.out.2.2.2.2.2.2.2.1 (And.intro HZ6.out.2.2.2.2.2.2.2.2.1 (And.intro HZ6.out.2.2.2.2.2.2.2.2.2.1 (And.intro HZ6.out.2.2.2.2.2.2.2.2.2.2.1 (And.intro HN6.out.1 (And.intro HN6.out.2 HZ6.out.2.2.2.2.2.2.2.2.2.2.2)))))))))))))
  clear hb hr HY6 HZ6 HN6 HK5 HR2
  obtain ⟨⟨⟨A0, A1, A2, A3, A4, A5, A6⟩, -⟩, ⟨⟨S0, S1⟩, -⟩, -, -, -, ⟨⟨C0, C1, C2, C3, C4, C5, C6⟩, -⟩, -, ⟨⟨D0, D1, D2, D3, D4, D5, D6⟩, -⟩, -, ⟨⟨I0, I1, I2, I3, I4, I5, I6⟩, -⟩, -, ⟨⟨J0, J1, J2, J3, J4, J5, J6⟩, -⟩, -, hbe⟩ := HK6.out
  go_wp2_with fail
  refine (HSM.out _ _ _ _ _ _ _ _ _ HK6.out.2.2.2.2.2.2.1 HK6.out.2.2.2.2.2.2.2.2.1).mono ?_
  rintro e w7 ⟨rfl, hb⟩
  have HK7 := Lib.hid (And.intro (HK6.out.1.below hb) (And.intro (HK6.out.2.1.below hb) (And.intro (keepSt hb HK6.out.2.2.1) (And.intro (keepRd hb HK6.out.2.2.2.1) (And.intro (keepRd hb HK6.out.2.2.2.2.1) (And.intro (HK6.out.2.2.2.2.2.1.below hb) (And.intro (keepSt hb HK6.out.2.2.2.2.2.2.1) (And.intro (HK6.out.2.2.2.2.2.2.2.1.below hb) (And.intro (keepSt hb HK6.out.2.2.2.2.2.2.2.2.1) (And.intro (HK6.out.2.2.2.2.2.2.2.2.2.1.below hb) (And.intro (keepSt hb HK6.out.2.2.2.2.2.2.2.2.2.2.1) (And.intro (HK6.out.2.2.2.2.2.2.2.2.2.2.2.1.below hb) (And.intro (keepSt hb HK6.out.2.2.2.2.2.2.2.2.2.2.2.2.1) (keepBelow HK6.out.2.2.2.2.2.2.2.2.2.2.2.2.2 hb))))))))))))))
  clear A0 A1 A2 A3 A4 A5 A6 S0 S1 C0 C1 C2 C3 C4 C5 C6 D0 D1 D2 D3 D4 D5 D6 I0 I1 I2 I3 I4 I5 I6 J0 J1 J2 J3 J4 J5 J6 hbe
  obtain ⟨⟨⟨A0, A1, A2, A3, A4, A5, A6⟩, -⟩, ⟨⟨S0, S1⟩, -⟩, -, -, -, ⟨⟨C0, C1, C2, C3, C4, C5, C6⟩, -⟩, -, ⟨⟨D0, D1, D2, D3, D4, D5, D6⟩, -⟩, -, ⟨⟨I0, I1, I2, I3, I4, I5, I6⟩, -⟩, -, ⟨⟨J0, J1, J2, J3, J4, J5, J6⟩, -⟩, -, hbe⟩ := HK7.out
  clear hb
  go_wp2_with fail
  refine (HSM.out _ _ _ _ _ _ _ _ _ HK7.out.2.2.2.2.2.2.2.2.2.2.1 HK7.out.2.2.2.2.2.2.2.2.2.2.2.2.1).mono ?_
  rintro e w8 ⟨rfl, hb⟩
  have hbe := keepBelow hbe hb
  go_wp2
  go_ret
  exact ⟨rfl, hbe⟩
end Go.Proofs.YtnjpceocnldlfaaGreat
