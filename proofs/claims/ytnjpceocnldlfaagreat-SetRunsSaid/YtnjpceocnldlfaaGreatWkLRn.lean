import Derived.Test.YtnjpceocnldlfaaGreatWkPx
import Derived.Test.YtnjpceocnldlfaaGreatWkUn
import Derived.Test.YtnjpceocnldlfaaGreatWkLq
import Derived.Test.YtnjpceocnldlfaaGreatWkLF2
/- The law SetRuns. -/
namespace Go.Proofs.YtnjpceocnldlfaaGreat
open Go.RowKit Wk

set_option maxRecDepth 100000 in
set_option maxHeartbeats 16000000 in
theorem law_SetRuns (a : St) (al ar av : Value) (p q r x : Int) (w : World) (ha : RdSt w a al ar av) :
    Calls Tryz.prog 5 #[.agg #[.int .i64 a.lf.1, al, .int .i64 a.rt.1, ar, .int .i64 a.fr, .int .i64 a.to, av], .int .i64 p, .int .i64 q, .int .i64 r, .int .i64 x] w fun e w' => e = .returned (.bool true) ∧ Below w.heap.size w w' := by
  have HAW := Lib.hid (fun W => awake14_any W)
  have HLA := Lib.hid (fun v L W h => large14_any v L W h)
  have HSP := Lib.hid (fun x y W => lspan_any x y W)
  have HW1 : Hid (∀ W, RdSt W a al ar av → Calls Tryz.prog 25 #[.agg #[.int .i64 a.lf.1, al, .int .i64 a.rt.1, ar, .int .i64 a.fr, .int .i64 a.to, av], .agg #[.int .i64 p, .int .i64 r]] W (WiPost (VB a) a p r W)) := fun W h => window_any a al ar av p r W h
  have HW2 : Hid (∀ W, RdSt W a al ar av → Calls Tryz.prog 25 #[.agg #[.int .i64 a.lf.1, al, .int .i64 a.rt.1, ar, .int .i64 a.fr, .int .i64 a.to, av], .agg #[.int .i64 p, .int .i64 q]] W (WiPost (VB a) a p q W)) := fun W h => window_any a al ar av p q W h
  have HW3 : Hid (∀ W, RdSt W a al ar av → Calls Tryz.prog 25 #[.agg #[.int .i64 a.lf.1, al, .int .i64 a.rt.1, ar, .int .i64 a.fr, .int .i64 a.to, av], .agg #[.int .i64 q, .int .i64 r]] W (WiPost (VB a) a q r W)) := fun W h => window_any a al ar av q r W h
  have HSQ := Lib.hid (fun v1 v2 l1 l2 W h h' => seq_any v1 v2 l1 l2 W h h')
  have HCL := Lib.hid (fun v l W h => clone_any v l W h)
  have HO12 := Lib.hid (fun v l W h hz hl => of12_any v l W h hz hl)
  have HVA := Lib.hid (fun v l W h => rval_any v l W h)
  have HIN := Lib.hid (fun v l z W h => in12_any v l z W h)
  have HTH := Lib.hid (fun h1 h2 W h => thas_any a al ar av x W h h1 h2)
  have HRA := Lib.hid ha
  obtain ⟨a1, an1, e1⟩ := ha.1.form
  obtain ⟨a2, an2, e2⟩ := ha.2.1.form
  obtain ⟨a3, an3, e3⟩ := ha.2.2.form
  subst e1 e2 e3
  clear ha
  obtain ⟨W, hWe⟩ : ∃ W, w.alloc (.cells #[.int .i64 a.lf.1, (.slice a1 a.lf.2.length an1), .int .i64 a.rt.1, (.slice a2 a.rt.2.length an2), .int .i64 a.fr, .int .i64 a.to, (.slice a3 a.l.length an3)] 26) = W := ⟨_, rfl⟩
  have hW : Below w.heap.size w W := by rw [← hWe]; exact (Below.refl _ w).alloc (Nat.le_refl _) _
  have HX : Hid (Set7 W w.heap.size (.int .i64 a.lf.1) (.slice a1 a.lf.2.length an1) (.int .i64 a.rt.1) (.slice a2 a.rt.2.length an2) (.int .i64 a.fr) (.int .i64 a.to) (.slice a3 a.l.length an3) ∧ RdSt W a (.slice a1 a.lf.2.length an1) (.slice a2 a.rt.2.length an2) (.slice a3 a.l.length an3) ∧ Below w.heap.size w W) := by
    refine ⟨?_, keepSt hW HRA.out, hW⟩
    rw [← hWe]
    refine ⟨⟨?_, ?_, ?_, ?_, ?_, ?_, ?_⟩, ?_, ?_, ?_, ?_, ?_, ?_, ?_⟩ <;> simp [go_sem]
  have HE := Lib.hid hWe
  clear hWe hW
  obtain ⟨⟨⟨A0, A1, A2, A3, A4, A5, A6⟩, _⟩, _, hbe⟩ := HX.out
  go_enter Tryz.func5, Tryz.ntmps5
  go_wp2_with fail
  rw [HE.out]
  go_wp2_with fail
  refine (HAW.out _).mono ?_
  rintro e w1 ⟨rfl, hb⟩
  have HX1 := Lib.hid (And.intro (HX.out.1.below hb) (And.intro (keepSt hb HX.out.2.1) (keepBelow HX.out.2.2 hb)))
  clear A0 A1 A2 A3 A4 A5 A6 hbe
  obtain ⟨⟨⟨A0, A1, A2, A3, A4, A5, A6⟩, _⟩, _, hbe⟩ := HX1.out
  clear hb
  have HT1 := Lib.hid (rdT_one HX1.out.2.1)
  have hb := (Below.refl w1.heap.size w1).alloc (Nat.le_refl _) (.cells #[.int .i64 a.lf.1, (.slice a1 a.lf.2.length an1), .int .i64 a.rt.1, (.slice a2 a.rt.2.length an2), .int .i64 a.fr, .int .i64 a.to, (.slice a3 a.l.length an3)] 26)
  have HX1' := Lib.hid (And.intro (HX1.out.1.below hb) (And.intro (keepSt hb HX1.out.2.1) (keepBelow HX1.out.2.2 hb)))
  go_wp2_with fail
  refine (HLA.out _ _ _ HT1.out).mono ?_
  rintro e w2 ⟨rfl, hb⟩
  have HX2 := Lib.hid (And.intro (HX1'.out.1.below hb) (And.intro (keepSt hb HX1'.out.2.1) (keepBelow HX1'.out.2.2 hb)))
  clear A0 A1 A2 A3 A4 A5 A6 hbe
  obtain ⟨⟨⟨A0, A1, A2, A3, A4, A5, A6⟩, _⟩, _, hbe⟩ := HX2.out
  clear hb HT1
  obtain ⟨lg, hlg⟩ : ∃ g, anyL [(a, .slice a1 a.lf.2.length an1, .slice a2 a.rt.2.length an2, .slice a3 a.l.length an3)] = g := ⟨_, rfl⟩
  rw [hlg]
  clear hlg
  cases lg with
  | true =>
    go_wp2
    go_ret
    exact ⟨rfl, hbe⟩
  | false =>
  cases tx1 : decide (q ≤ p) with
  | true =>
    go_wp2
    go_ret
    exact ⟨rfl, hbe⟩
  | false =>
  cases tx2 : decide (r ≤ q) with
  | true =>
    go_wp2
    go_ret
    exact ⟨rfl, hbe⟩
  | false =>
  have gpq : p < q := by simpa using tx1
  have gqr : q < r := by simpa using tx2
  have HGG := Lib.hid (And.intro gpq gqr)
  clear gpq gqr
  obtain ⟨⟨L1, E1⟩, hM1⟩ : ∃ M, winM (VB a) a p r = M := ⟨_, rfl⟩
  have HM1 := Lib.hid hM1
  have HP1 : Hid (∀ W, RdSt W a (.slice a1 a.lf.2.length an1) (.slice a2 a.rt.2.length an2) (.slice a3 a.l.length an3) → Calls Tryz.prog 25 #[.agg #[.int .i64 a.lf.1, (.slice a1 a.lf.2.length an1), .int .i64 a.rt.1, (.slice a2 a.rt.2.length an2), .int .i64 a.fr, .int .i64 a.to, (.slice a3 a.l.length an3)], .agg #[.int .i64 p, .int .i64 r]] W fun e w' => ∃ u, e = .returned (.tuple #[u, .int .i64 E1]) ∧ OwnS w' W.heap.size u L1 ∧ Below W.heap.size W w') := fun W h => (HW1.out W h).mono fun e w' hh => by
    obtain ⟨u, e1, e2, e3⟩ := hh
    rw [hM1] at e1 e2
    exact ⟨u, e1, e2, e3⟩
  clear hM1
  go_upto_region 5 with fail
  go_cut [11, 12] from 35 to 43 (fun u f wx => f = .int .i64 E1 ∧ OwnS wx w2.heap.size u L1 ∧ Below w2.heap.size w2 wx)
  case first =>
    have hd : Below w2.heap.size w2 w2.drew := (Below.refl _ w2).drew
    have D0 := keepCell hd A0
    have D1 := keepCell hd A1
    have D2 := keepCell hd A2
    have D3 := keepCell hd A3
    have D4 := keepCell hd A4
    have D5 := keepCell hd A5
    have D6 := keepCell hd A6
    have HRD := Lib.hid HX2.out.2.1
    have HCA : Hid (∀ X, Below w2.heap.size w2 X → X.cell? ⟨w.heap.size, 0, none⟩ = w2.cell? ⟨w.heap.size, 0, none⟩ ∧ X.cell? ⟨w.heap.size, 1, none⟩ = w2.cell? ⟨w.heap.size, 1, none⟩ ∧ X.cell? ⟨w.heap.size, 2, none⟩ = w2.cell? ⟨w.heap.size, 2, none⟩ ∧ X.cell? ⟨w.heap.size, 3, none⟩ = w2.cell? ⟨w.heap.size, 3, none⟩ ∧ X.cell? ⟨w.heap.size, 4, none⟩ = w2.cell? ⟨w.heap.size, 4, none⟩ ∧ X.cell? ⟨w.heap.size, 5, none⟩ = w2.cell? ⟨w.heap.size, 5, none⟩ ∧ X.cell? ⟨w.heap.size, 6, none⟩ = w2.cell? ⟨w.heap.size, 6, none⟩) := fun X hX => ⟨(by rw [A0]; exact keepCell hX A0), (by rw [A1]; exact keepCell hX A1), (by rw [A2]; exact keepCell hX A2), (by rw [A3]; exact keepCell hX A3), (by rw [A4]; exact keepCell hX A4), (by rw [A5]; exact keepCell hX A5), (by rw [A6]; exact keepCell hX A6)⟩
    clear A0 A1 A2 A3 A4 A5 A6 hbe
    go_region_with (first
      | (go_at_call 29; refine (HSP.out _ _ _).mono ?_; rintro e' wS ⟨rfl, bS⟩; have hfS : Below w2.heap.size w2 wS := keepBelow hd bS; have S0 := keepCell bS D0; have S1 := keepCell bS D1; have S2 := keepCell bS D2; have S3 := keepCell bS D3; have S4 := keepCell bS D4; have S5 := keepCell bS D5; have S6 := keepCell bS D6; have HSS := Lib.hid bS.size; clear bS)
      | (go_at_call 25; refine (HP1.out _ (keepSt hfS HRD.out)).mono ?_; rintro e' wW ⟨u, rfl, oW, bW⟩; have hfW : Below w2.heap.size w2 wW := keepBelow hfS bW; have OW := Lib.hid oW; have HSZ := Lib.hid hfS.size; clear bW oW))
    all_goals (go_wp2_with fail; go_meet)
    all_goals exact ⟨rfl, OW.out.mono HSZ.out, hfW⟩
  case rest =>
  obtain ⟨rfl, ho, hb⟩ := hcut
  have HX3 := Lib.hid (And.intro (HX2.out.1.below hb) (And.intro (keepSt hb HX2.out.2.1) (keepBelow HX2.out.2.2 hb)))
  have HOW1 := Lib.hid ho
  obtain ⟨pa1, pc1, epa, _⟩ := ho.form
  subst epa
  clear A0 A1 A2 A3 A4 A5 A6 hbe hb ho
  obtain ⟨⟨⟨A0, A1, A2, A3, A4, A5, A6⟩, _⟩, _, hbe⟩ := HX3.out
  generalize wc = w3 at *
  obtain ⟨⟨L2, E2⟩, hM2⟩ : ∃ M, winM (VB a) a p q = M := ⟨_, rfl⟩
  have HM2 := Lib.hid hM2
  have HP2 : Hid (∀ W, RdSt W a (.slice a1 a.lf.2.length an1) (.slice a2 a.rt.2.length an2) (.slice a3 a.l.length an3) → Calls Tryz.prog 25 #[.agg #[.int .i64 a.lf.1, (.slice a1 a.lf.2.length an1), .int .i64 a.rt.1, (.slice a2 a.rt.2.length an2), .int .i64 a.fr, .int .i64 a.to, (.slice a3 a.l.length an3)], .agg #[.int .i64 p, .int .i64 q]] W fun e w' => ∃ u, e = .returned (.tuple #[u, .int .i64 E2]) ∧ OwnS w' W.heap.size u L2 ∧ Below W.heap.size W w') := fun W h => (HW2.out W h).mono fun e w' hh => by
    obtain ⟨u, e1, e2, e3⟩ := hh
    rw [hM2] at e1 e2
    exact ⟨u, e1, e2, e3⟩
  clear hM2
  go_upto_region 6 with fail
  go_cut [13, 14] from 43 to 51 (fun u f wx => f = .int .i64 E2 ∧ OwnS wx w3.heap.size u L2 ∧ Below w3.heap.size w3 wx)
  case first =>
    have hd : Below w3.heap.size w3 w3.drew := (Below.refl _ w3).drew
    have D0 := keepCell hd A0
    have D1 := keepCell hd A1
    have D2 := keepCell hd A2
    have D3 := keepCell hd A3
    have D4 := keepCell hd A4
    have D5 := keepCell hd A5
    have D6 := keepCell hd A6
    have HRD := Lib.hid HX3.out.2.1
    have HCA : Hid (∀ X, Below w3.heap.size w3 X → X.cell? ⟨w.heap.size, 0, none⟩ = w3.cell? ⟨w.heap.size, 0, none⟩ ∧ X.cell? ⟨w.heap.size, 1, none⟩ = w3.cell? ⟨w.heap.size, 1, none⟩ ∧ X.cell? ⟨w.heap.size, 2, none⟩ = w3.cell? ⟨w.heap.size, 2, none⟩ ∧ X.cell? ⟨w.heap.size, 3, none⟩ = w3.cell? ⟨w.heap.size, 3, none⟩ ∧ X.cell? ⟨w.heap.size, 4, none⟩ = w3.cell? ⟨w.heap.size, 4, none⟩ ∧ X.cell? ⟨w.heap.size, 5, none⟩ = w3.cell? ⟨w.heap.size, 5, none⟩ ∧ X.cell? ⟨w.heap.size, 6, none⟩ = w3.cell? ⟨w.heap.size, 6, none⟩) := fun X hX => ⟨(by rw [A0]; exact keepCell hX A0), (by rw [A1]; exact keepCell hX A1), (by rw [A2]; exact keepCell hX A2), (by rw [A3]; exact keepCell hX A3), (by rw [A4]; exact keepCell hX A4), (by rw [A5]; exact keepCell hX A5), (by rw [A6]; exact keepCell hX A6)⟩
    clear A0 A1 A2 A3 A4 A5 A6 hbe
    go_region_with (first
      | (go_at_call 29; refine (HSP.out _ _ _).mono ?_; rintro e' wS ⟨rfl, bS⟩; have hfS : Below w3.heap.size w3 wS := keepBelow hd bS; have S0 := keepCell bS D0; have S1 := keepCell bS D1; have S2 := keepCell bS D2; have S3 := keepCell bS D3; have S4 := keepCell bS D4; have S5 := keepCell bS D5; have S6 := keepCell bS D6; have HSS := Lib.hid bS.size; clear bS)
      | (go_at_call 25; refine (HP2.out _ (keepSt hfS HRD.out)).mono ?_; rintro e' wW ⟨u, rfl, oW, bW⟩; have hfW : Below w3.heap.size w3 wW := keepBelow hfS bW; have OW := Lib.hid oW; have HSZ := Lib.hid hfS.size; clear bW oW))
    all_goals (go_wp2_with fail; go_meet)
    all_goals exact ⟨rfl, OW.out.mono HSZ.out, hfW⟩
  case rest =>
  obtain ⟨rfl, ho, hb⟩ := hcut
  have HX4 := Lib.hid (And.intro (HX3.out.1.below hb) (And.intro (keepSt hb HX3.out.2.1) (keepBelow HX3.out.2.2 hb)))
  have HOW2 := Lib.hid ho
  have HOW1 := Lib.hid (HOW1.out.below hb)
  obtain ⟨pa2, pc2, epa, _⟩ := ho.form
  subst epa
  clear A0 A1 A2 A3 A4 A5 A6 hbe hb ho
  obtain ⟨⟨⟨A0, A1, A2, A3, A4, A5, A6⟩, _⟩, _, hbe⟩ := HX4.out
  generalize wc = w4 at *
  obtain ⟨⟨L3, E3⟩, hM3⟩ : ∃ M, winM (VB a) a q r = M := ⟨_, rfl⟩
  have HM3 := Lib.hid hM3
  have HP3 : Hid (∀ W, RdSt W a (.slice a1 a.lf.2.length an1) (.slice a2 a.rt.2.length an2) (.slice a3 a.l.length an3) → Calls Tryz.prog 25 #[.agg #[.int .i64 a.lf.1, (.slice a1 a.lf.2.length an1), .int .i64 a.rt.1, (.slice a2 a.rt.2.length an2), .int .i64 a.fr, .int .i64 a.to, (.slice a3 a.l.length an3)], .agg #[.int .i64 q, .int .i64 r]] W fun e w' => ∃ u, e = .returned (.tuple #[u, .int .i64 E3]) ∧ OwnS w' W.heap.size u L3 ∧ Below W.heap.size W w') := fun W h => (HW3.out W h).mono fun e w' hh => by
    obtain ⟨u, e1, e2, e3⟩ := hh
    rw [hM3] at e1 e2
    exact ⟨u, e1, e2, e3⟩
  clear hM3
  go_upto_region 7 with fail
  go_cut [15, 16] from 51 to 59 (fun u f wx => f = .int .i64 E3 ∧ OwnS wx w4.heap.size u L3 ∧ Below w4.heap.size w4 wx)
  case first =>
    have hd : Below w4.heap.size w4 w4.drew := (Below.refl _ w4).drew
    have D0 := keepCell hd A0
    have D1 := keepCell hd A1
    have D2 := keepCell hd A2
    have D3 := keepCell hd A3
    have D4 := keepCell hd A4
    have D5 := keepCell hd A5
    have D6 := keepCell hd A6
    have HRD := Lib.hid HX4.out.2.1
    have HCA : Hid (∀ X, Below w4.heap.size w4 X → X.cell? ⟨w.heap.size, 0, none⟩ = w4.cell? ⟨w.heap.size, 0, none⟩ ∧ X.cell? ⟨w.heap.size, 1, none⟩ = w4.cell? ⟨w.heap.size, 1, none⟩ ∧ X.cell? ⟨w.heap.size, 2, none⟩ = w4.cell? ⟨w.heap.size, 2, none⟩ ∧ X.cell? ⟨w.heap.size, 3, none⟩ = w4.cell? ⟨w.heap.size, 3, none⟩ ∧ X.cell? ⟨w.heap.size, 4, none⟩ = w4.cell? ⟨w.heap.size, 4, none⟩ ∧ X.cell? ⟨w.heap.size, 5, none⟩ = w4.cell? ⟨w.heap.size, 5, none⟩ ∧ X.cell? ⟨w.heap.size, 6, none⟩ = w4.cell? ⟨w.heap.size, 6, none⟩) := fun X hX => ⟨(by rw [A0]; exact keepCell hX A0), (by rw [A1]; exact keepCell hX A1), (by rw [A2]; exact keepCell hX A2), (by rw [A3]; exact keepCell hX A3), (by rw [A4]; exact keepCell hX A4), (by rw [A5]; exact keepCell hX A5), (by rw [A6]; exact keepCell hX A6)⟩
    clear A0 A1 A2 A3 A4 A5 A6 hbe
    go_region_with (first
      | (go_at_call 29; refine (HSP.out _ _ _).mono ?_; rintro e' wS ⟨rfl, bS⟩; have hfS : Below w4.heap.size w4 wS := keepBelow hd bS; have S0 := keepCell bS D0; have S1 := keepCell bS D1; have S2 := keepCell bS D2; have S3 := keepCell bS D3; have S4 := keepCell bS D4; have S5 := keepCell bS D5; have S6 := keepCell bS D6; have HSS := Lib.hid bS.size; clear bS)
      | (go_at_call 25; refine (HP3.out _ (keepSt hfS HRD.out)).mono ?_; rintro e' wW ⟨u, rfl, oW, bW⟩; have hfW : Below w4.heap.size w4 wW := keepBelow hfS bW; have OW := Lib.hid oW; have HSZ := Lib.hid hfS.size; clear bW oW))
    all_goals (go_wp2_with fail; go_meet)
    all_goals exact ⟨rfl, OW.out.mono HSZ.out, hfW⟩
  case rest =>
  obtain ⟨rfl, ho, hb⟩ := hcut
  have HX5 := Lib.hid (And.intro (HX4.out.1.below hb) (And.intro (keepSt hb HX4.out.2.1) (keepBelow HX4.out.2.2 hb)))
  have HOW3 := Lib.hid ho
  have HOW1 := Lib.hid (HOW1.out.below hb)
  have HOW2 := Lib.hid (HOW2.out.below hb)
  obtain ⟨pa3, pc3, epa, _⟩ := ho.form
  subst epa
  clear A0 A1 A2 A3 A4 A5 A6 hbe hb ho
  obtain ⟨⟨⟨A0, A1, A2, A3, A4, A5, A6⟩, _⟩, _, hbe⟩ := HX5.out
  generalize wc = w5 at *
  by_cases g1 : E1 = 0
  case neg =>
    have t1 : (E1 != 0) = true := by simpa using g1
    clear g1
    go_wp2
    go_ret
    exact ⟨rfl, hbe⟩
  by_cases g2 : E2 = 0
  case neg =>
    have t2 : (E2 != 0) = true := by simpa using g2
    subst g1
    clear g2
    go_wp2
    go_ret
    exact ⟨rfl, hbe⟩
  by_cases g3 : E3 = 0
  case neg =>
    have t3 : (E3 != 0) = true := by simpa using g3
    subst g1 g2
    clear g3
    go_wp2
    go_ret
    exact ⟨rfl, hbe⟩
  subst g1 g2 g3
  have hz1 := win_zero (g := VB a) (s := a) (f := p) (t := r) (by rw [HM1.out])
  have hz2 := win_zero (g := VB a) (s := a) (f := p) (t := q) (by rw [HM2.out])
  have hz3 := win_zero (g := VB a) (s := a) (f := q) (t := r) (by rw [HM3.out])
  rw [HM1.out] at hz1
  rw [HM2.out] at hz2
  rw [HM3.out] at hz3
  obtain ⟨hva, hi1, hl1, hn1⟩ := hz1
  obtain ⟨_, hi2, hl2, hn2⟩ := hz2
  obtain ⟨_, hi3, hl3, hn3⟩ := hz3
  simp only at hl1 hl2 hl3
  rw [← hl1] at hn1
  rw [← hl2] at hn2
  rw [← hl3] at hn3
  have hiv := (ivB_iff _).1 hi1
  simp only at hiv
  have hjn := runs_join (h := hasS a) HGG.out.1 HGG.out.2 hiv.1 hiv.2.2 (by rw [← hl2]; exact hn2) (by rw [← hl3]; exact hn3) (by rw [← hl1]; exact hn1)
  rw [← hl1, ← hl2, ← hl3] at hjn
  have HJ := Lib.hid hjn
  have hrv : rvB L1 = true := by rw [hl1]; exact memF_rv (by omega) hiv.1 hiv.2.2 (by rw [← hl1]; exact hn1)
  have HRV := Lib.hid hrv
  have HIX : Hid (inL L1 x = ((decide (p ≤ x) && decide (x < r)) && hasS a x)) := by unfold Hid; rw [hl1]; exact memF_in (by omega) x
  have HVB := Lib.hid hva
  have HIV := Lib.hid hiv
  clear hjn hrv hva hiv hl1 hl2 hl3 hi1 hi2 hi3
  have HR2 := Lib.hid (HOW2.out.rd (by omega))
  go_wp2_with fail
  refine (HCL.out _ _ _ HR2.out).mono ?_
  rintro e w6 ⟨vc, rfl, oc, hb⟩
  have HX6 := Lib.hid (And.intro (HX5.out.1.below hb) (And.intro (keepSt hb HX5.out.2.1) (keepBelow HX5.out.2.2 hb)))
  have HOW3 := Lib.hid (HOW3.out.below hb)
  have HR3 := Lib.hid (HOW3.out.rd (by omega))
  have hz3 : pa3 = none → pc3 = 0 := by
    rcases HOW3.out.2 with ⟨ee, _⟩ | ⟨g, cap, cur, ee, _⟩
    · injection ee with e1 e2 e3; exact fun _ => e3
    · injection ee with e1 e2 e3; intro h; rw [h] at e1; cases e1
  have HZ3 := Lib.hid hz3
  have HOC := Lib.hid oc
  have HOWa := Lib.hid (HOW1.out)
  have HBC := Lib.hid hb
  clear hz3 oc A0 A1 A2 A3 A4 A5 A6 hbe
  obtain ⟨⟨⟨A0, A1, A2, A3, A4, A5, A6⟩, _⟩, _, hbe⟩ := HX6.out
  clear hb
  go_wp2_with (at_builtin; refine wpList_app_spans (w0 := w5) (N := L3) rfl (.tmp 71) (.tmp 72) rfl rfl HOC.out HBC.out rfl rfl HR3.out HZ3.out (by omega) ?_; intro v7 w7 o7 b7)
  have HX7 : Hid (Set7 w7 w.heap.size (.int .i64 a.lf.1) (.slice a1 a.lf.2.length an1) (.int .i64 a.rt.1) (.slice a2 a.rt.2.length an2) (.int .i64 a.fr) (.int .i64 a.to) (.slice a3 a.l.length an3) ∧ RdSt w7 a (.slice a1 a.lf.2.length an1) (.slice a2 a.rt.2.length an2) (.slice a3 a.l.length an3) ∧ Below w.heap.size w w7) := ⟨HX5.out.1.below b7, keepSt b7 HX5.out.2.1, keepBelow HX5.out.2.2 b7⟩
  have HOW7 : Hid (OwnS w7 w2.heap.size (.slice pa1 L1.length pc1) L1) := HOWa.out.below b7
  have HO7 := Lib.hid o7
  obtain ⟨p7, q7, e7, _⟩ := o7.form
  subst e7
  have hz7 : ∀ n c, (Value.slice p7 (L2 ++ L3).length q7) = .slice none n c → c = 0 := by
    intro n c hn
    rcases HO7.out.2 with ⟨ee, _⟩ | ⟨g, cap, cur, ee, _⟩
    · injection ee with e1 e2 e3; injection hn with e4 e5 e6; omega
    · injection ee with e1 e2 e3; injection hn with e4 e5 e6; rw [e4] at e1; cases e1
  have HR7 := Lib.hid (o7.rd (by rw [List.length_append]; omega))
  have HOF := Lib.hid (HO12.out _ (L2 ++ L3) w7 HR7.out hz7 (by rw [List.length_append]; omega))
  have HOF' : Hid (Calls Tryz.prog 30 #[.slice p7 (L2 ++ L3).length q7] w7 fun e w' => ∃ u, e = .returned (.tuple #[u, .int .i64 0]) ∧ OwnS w' w7.heap.size u L1 ∧ Below w7.heap.size w7 w') := HOF.out.mono fun e w' hh => by
    obtain ⟨u, e1, e2, e3⟩ := hh
    rw [HJ.out] at e1 e2
    exact ⟨u, e1, e2, e3⟩
  clear hz7 o7 b7 HOF A0 A1 A2 A3 A4 A5 A6 hbe
  obtain ⟨⟨⟨A0, A1, A2, A3, A4, A5, A6⟩, _⟩, _, hbe⟩ := HX7.out
  go_wp2_with fail
  refine HOF'.out.mono ?_
  rintro e w8 ⟨u8, rfl, o8, hb⟩
  have HX8 := Lib.hid (And.intro (HX7.out.1.below hb) (And.intro (keepSt hb HX7.out.2.1) (keepBelow HX7.out.2.2 hb)))
  have HOW8 := Lib.hid (HOW7.out.below hb)
  obtain ⟨p8, q8, e8, _⟩ := o8.form
  subst e8
  have HJD := Lib.hid o8
  clear o8 A0 A1 A2 A3 A4 A5 A6 hbe hb
  obtain ⟨⟨⟨A0, A1, A2, A3, A4, A5, A6⟩, _⟩, _, hbe⟩ := HX8.out
  obtain ⟨iq, hiq⟩ : ∃ b, inL L1 x = b := ⟨_, rfl⟩
  have HII := Lib.hid hiq
  rw [hiq] at HIX
  clear hiq
  go_upto_region 11 with fail
  go_cut [19] from 77 to 90 (fun u wx => u = .bool iq ∧ Below w8.heap.size w8 wx)
  case first =>
    cases c1 : decide (p ≤ x) with
    | false =>
      have hq : iq = false := by have := HIX.out; rw [c1] at this; simpa using this
      subst hq
      go_wp2
      go_meet
      exact ⟨rfl, Below.refl _ _⟩
    | true =>
    cases c2 : decide (x < r) with
    | false =>
      have hq : iq = false := by have := HIX.out; rw [c2] at this; simpa using this
      subst hq
      go_wp2
      go_meet
      exact ⟨rfl, Below.refl _ _⟩
    | true =>
      have hq : iq = hasS a x := by have := HIX.out; rw [c1, c2] at this; simpa using this
      have hx1 : p ≤ x := by simpa using c1
      have hx2 : x < r := by simpa using c2
      have HT := Lib.hid (HTH.out (by have := HIV.out; omega) (by have := HIV.out; omega) w8 HX8.out.2.1)
      rw [HVB.out, ← hq, Bool.true_and] at HT
      clear hx1 hx2 hq
      go_wp2_with fail
      refine HT.out.mono ?_
      rintro e w9 ⟨rfl, hb9⟩
      go_wp2
      go_meet
      exact ⟨rfl, hb9⟩
  case rest =>
  obtain ⟨rfl, hb⟩ := hcut
  have HX9 := Lib.hid (And.intro (HX8.out.1.below hb) (And.intro (keepSt hb HX8.out.2.1) (keepBelow HX8.out.2.2 hb)))
  have HR1 := Lib.hid ((HOW8.out.below hb).rd (by omega))
  have HRJ := Lib.hid ((HJD.out.below hb).rd (by omega))
  clear A0 A1 A2 A3 A4 A5 A6 hbe hb
  obtain ⟨⟨⟨A0, A1, A2, A3, A4, A5, A6⟩, _⟩, _, hbe⟩ := HX9.out
  generalize wc = w9 at *
  go_wp2_with fail
  refine (HSQ.out _ _ _ _ _ HRJ.out HR1.out).mono ?_
  rintro e w10 ⟨rfl, hb⟩
  rw [decide_eq_true (rfl : L1 = L1)]
  have hbe := keepBelow hbe hb
  have HR1 := Lib.hid (keepRd hb HR1.out)
  clear hb
  have HV10 := Lib.hid (HVA.out _ _ _ HR1.out)
  rw [HRV.out] at HV10
  go_wp2_with fail
  refine HV10.out.mono ?_
  rintro e w11 ⟨rfl, hb⟩
  have hbe := keepBelow hbe hb
  have HR1 := Lib.hid (keepRd hb HR1.out)
  clear hb
  have HI11 := Lib.hid (HIN.out _ _ x _ HR1.out)
  rw [HII.out] at HI11
  go_wp2_with fail
  refine HI11.out.mono ?_
  rintro e w12 ⟨rfl, hb⟩
  have hbe := keepBelow hbe hb
  have tt : (iq == iq) = true := by simp
  go_wp2
  go_ret
  exact ⟨rfl, hbe⟩
end Go.Proofs.YtnjpceocnldlfaaGreat
