import Derived.Test.YtnjpceocnldlfaaGreatWkPx
import Derived.Test.YtnjpceocnldlfaaGreatWkTr
import Derived.Test.YtnjpceocnldlfaaGreatWkLq
import Derived.Test.YtnjpceocnldlfaaGreatWkLF2
/- The law SetUnique. -/
namespace Go.Proofs.YtnjpceocnldlfaaGreat
open Go.RowKit Wk

/-- a box of zeroes -/
def ZB (W : World) (b : Nat) : Prop := Set7 W b (.int .i64 0) (.slice none 0 0) (.int .i64 0) (.slice none 0 0) (.int .i64 0) (.int .i64 0) (.slice none 0 0) ∧ Zero7 W b
theorem ZB.new (X : World) : ZB (X.alloc (.cells #[.int .i64 0, .slice none 0 0, .int .i64 0, .slice none 0 0, .int .i64 0, .int .i64 0, .slice none 0 0] 26)) X.heap.size := ⟨set7_new _ _ _ _ _ _ _ _, zero7_new X⟩
theorem ZB.new1 (X : World) : ZB (X.alloc (.cells #[.int .i64 0, .slice none 0 0, .int .i64 0, .slice none 0 0, .int .i64 0, .int .i64 0, .slice none 0 0] 26)).drew X.heap.size := ZB.new X
theorem ZB.below {W X : World} {b : Nat} (h : ZB W b) (hb : Below W.heap.size W X) : ZB X b := ⟨h.1.below hb, h.2.below (World.block_lt_of_cell? W ⟨b, 0, none⟩ h.1.1.1) hb⟩
theorem set7_put {W : World} {b : Nat} {x0 x1 x2 x3 x4 x5 x6 : Value} (h : Set7 W b x0 x1 x2 x3 x4 x5 x6) (u0 u1 u2 u3 u4 u5 u6 : Value) : Set7 (put7 W b u0 u1 u2 u3 u4 u5 u6) b u0 u1 u2 u3 u4 u5 u6 := by
  obtain ⟨⟨h0, h1, h2, h3, h4, h5, h6⟩, k0, k1, k2, k3, k4, k5, k6⟩ := h
  refine ⟨put7_at u0 u1 u2 u3 u4 u5 u6 h0 h1 h2 h3 h4 h5 h6, ?_, ?_, ?_, ?_, ?_, ?_, ?_⟩ <;> simp [put7, go_sem, k0, k1, k2, k3, k4, k5, k6]
theorem pos_repl {s : St} {i : Sp} {l : List Sp} : PosSt (replM s i l).1 := by
  unfold replM
  split
  · exact pos_no
  · split
    · exact pos_no
    · exact pos_comb
theorem repl_twice {s h c : St} {f t : Int} {l : List Sp} (h1 : replM s (f, t) [] = (h, 0)) (h2 : replM h (f, t) l = (c, 0)) (hl : ∀ x, inL l x = ((decide (f ≤ x) && decide (x < t)) && hasS s x)) : eqTB c s = true := by
  obtain ⟨v1, v2, _, p1⟩ := repl_has h1
  obtain ⟨v3, v4, _, p2⟩ := repl_has h2
  refine eqT_ext v4 v1 fun x => ?_
  rw [p2, p1, hl]
  by_cases hx : f ≤ x ∧ x < t
  · rw [if_pos hx, decide_eq_true hx.1, decide_eq_true hx.2]; rfl
  · rw [if_neg hx, if_neg hx]
theorem chain_below {w W : World} {b : Nat} {u0 u1 u2 u3 u4 u5 u6 : Value} (h : Below w.heap.size w W) (hb : w.heap.size ≤ b) : Below w.heap.size w (((((((W.setCell ⟨b, 0, none⟩ u0).setCell ⟨b, 1, none⟩ u1).setCell ⟨b, 2, none⟩ u2).setCell ⟨b, 3, none⟩ u3).setCell ⟨b, 4, none⟩ u4).setCell ⟨b, 5, none⟩ u5).setCell ⟨b, 6, none⟩ u6) := put7_below u0 u1 u2 u3 u4 u5 u6 h hb
theorem chain_set {W : World} {b : Nat} {u0 u1 u2 u3 u4 u5 u6 : Value} (h : ZB W b) : Set7 (((((((W.setCell ⟨b, 0, none⟩ u0).setCell ⟨b, 1, none⟩ u1).setCell ⟨b, 2, none⟩ u2).setCell ⟨b, 3, none⟩ u3).setCell ⟨b, 4, none⟩ u4).setCell ⟨b, 5, none⟩ u5).setCell ⟨b, 6, none⟩ u6) b u0 u1 u2 u3 u4 u5 u6 := set7_put h.1 u0 u1 u2 u3 u4 u5 u6
theorem chain_rd {W : World} {b : Nat} {u0 u1 u2 u3 u4 u5 u6 : Value} {s : St} {vl vr vv : Value} (h : RdSt W s vl vr vv) (hp : PosSt s) (hz : ZB W b) : RdSt (((((((W.setCell ⟨b, 0, none⟩ u0).setCell ⟨b, 1, none⟩ u1).setCell ⟨b, 2, none⟩ u2).setCell ⟨b, 3, none⟩ u3).setCell ⟨b, 4, none⟩ u4).setCell ⟨b, 5, none⟩ u5).setCell ⟨b, 6, none⟩ u6) s vl vr vv := h.put u0 u1 u2 u3 u4 u5 u6 hp hz.2

set_option maxRecDepth 100000 in
set_option maxHeartbeats 32000000 in
theorem law_SetUnique (a : St) (al ar av : Value) (n1 n2 : Int) (w : World) (ha : RdSt w a al ar av) (hn1 : 0 ≤ n1) (hn2 : n1 ≤ 255) (hn3 : 0 ≤ n2) (hn4 : n2 ≤ 255) :
    Calls Tryz.prog 10 #[.agg #[.int .i64 a.lf.1, al, .int .i64 a.rt.1, ar, .int .i64 a.fr, .int .i64 a.to, av], .int .u8 n1, .int .u8 n2] w fun e w' => e = .returned (.bool true) ∧ Below w.heap.size w w' := by
  have HAW := Lib.hid (fun W => awake14_any W)
  have HLA := Lib.hid (fun v L W h => large14_any v L W h)
  have HSP := Lib.hid (fun x y W => lspan_any x y W)
  have HVR := Lib.hid (fun W h => valid14_any a al ar av W h)
  have HRA := Lib.hid ha
  obtain ⟨a1, an1, e1⟩ := ha.1.form
  obtain ⟨a2, an2, e2⟩ := ha.2.1.form
  obtain ⟨a3, an3, e3⟩ := ha.2.2.form
  subst e1 e2 e3
  clear ha
  obtain ⟨W, hWe⟩ : ∃ W, w.alloc (.cells #[.int .i64 a.lf.1, (.slice a1 a.lf.2.length an1), .int .i64 a.rt.1, (.slice a2 a.rt.2.length an2), .int .i64 a.fr, .int .i64 a.to, (.slice a3 a.l.length an3)] 26) = W := ⟨_, rfl⟩
  have hW : Below w.heap.size w W := by rw [← hWe]; exact (Below.refl _ w).alloc (Nat.le_refl _) _
  have HX : Hid (Set7 W w.heap.size (.int .i64 a.lf.1) (.slice a1 a.lf.2.length an1) (.int .i64 a.rt.1) (.slice a2 a.rt.2.length an2) (.int .i64 a.fr) (.int .i64 a.to) (.slice a3 a.l.length an3) ∧ RdSt W a (.slice a1 a.lf.2.length an1) (.slice a2 a.rt.2.length an2) (.slice a3 a.l.length an3) ∧ Below w.heap.size w W) := by
    refine ⟨?_, keepSt hW HRA.out, hW⟩
    rw [← hWe]
    refine ⟨⟨?_, ?_, ?_, ?_, ?_, ?_, ?_⟩, ?_, ?_, ?_, ?_, ?_, ?_, ?_⟩ <;> simp [go_sem]
  have HE := Lib.hid hWe
  clear hWe hW
  obtain ⟨⟨⟨A0, A1, A2, A3, A4, A5, A6⟩, -⟩, -, hbe⟩ := HX.out
  go_enter Tryz.func10, Tryz.ntmps10
  go_wp2_with fail
  rw [HE.out]
  go_wp2_with fail
  refine (HAW.out _).mono ?_
  rintro e w1 ⟨rfl, hb⟩
  have HX1 := Lib.hid (And.intro (HX.out.1.below hb) (And.intro (keepSt hb HX.out.2.1) (keepBelow HX.out.2.2 hb)))
  clear A0 A1 A2 A3 A4 A5 A6 hbe
  obtain ⟨⟨⟨A0, A1, A2, A3, A4, A5, A6⟩, -⟩, -, hbe⟩ := HX1.out
  clear hb
  have HT1 := Lib.hid (rdT_one HX1.out.2.1)
  have hb := (Below.refl w1.heap.size w1).alloc (Nat.le_refl _) (.cells #[.int .i64 a.lf.1, (.slice a1 a.lf.2.length an1), .int .i64 a.rt.1, (.slice a2 a.rt.2.length an2), .int .i64 a.fr, .int .i64 a.to, (.slice a3 a.l.length an3)] 26)
  have HX1' := Lib.hid (And.intro (HX1.out.1.below hb) (And.intro (keepSt hb HX1.out.2.1) (keepBelow HX1.out.2.2 hb)))
  go_wp2_with fail
  refine (HLA.out _ _ _ HT1.out).mono ?_
  rintro e w2 ⟨rfl, hb⟩
  have HX2 := Lib.hid (And.intro (HX1'.out.1.below hb) (And.intro (keepSt hb HX1'.out.2.1) (keepBelow HX1'.out.2.2 hb)))
  clear A0 A1 A2 A3 A4 A5 A6 hbe
  obtain ⟨⟨⟨A0, A1, A2, A3, A4, A5, A6⟩, -⟩, -, hbe⟩ := HX2.out
  clear hb HT1
  obtain ⟨lg, hlg⟩ : ∃ g, anyL [(a, .slice a1 a.lf.2.length an1, .slice a2 a.rt.2.length an2, .slice a3 a.l.length an3)] = g := ⟨_, rfl⟩
  rw [hlg]
  clear hlg
  cases lg with
  | true =>
    go_wp2
    go_ret
    exact ⟨rfl, hbe⟩
  | false =>
  obtain ⟨g, hg⟩ : ∃ g, VB a = g := ⟨_, rfl⟩
  rw [hg] at HVR
  have HGV := Lib.hid hg
  clear hg
  go_wp2_with fail
  refine (HVR.out _ HX2.out.2.1).mono ?_
  rintro e w3 ⟨rfl, hb⟩
  have HX3 := Lib.hid (And.intro (HX2.out.1.below hb) (And.intro (keepSt hb HX2.out.2.1) (keepBelow HX2.out.2.2 hb)))
  clear A0 A1 A2 A3 A4 A5 A6 hbe
  obtain ⟨⟨⟨A0, A1, A2, A3, A4, A5, A6⟩, -⟩, -, hbe⟩ := HX3.out
  clear hb
  cases g with
  | false =>
    go_wp2
    go_ret
    exact ⟨rfl, hbe⟩
  | true =>
  cases tx1 : decide (a.fr < -10000) with
  | true =>
    go_wp2
    go_ret
    exact ⟨rfl, hbe⟩
  | false =>
  cases tx2 : decide (10000 < a.to) with
  | true =>
    go_wp2
    go_ret
    exact ⟨rfl, hbe⟩
  | false =>
  have gb1 : -10000 ≤ a.fr := by simpa using tx1
  have gb2 : a.to ≤ 10000 := by simpa using tx2
  have gft := (okS_of_VB HGV.out).ft
  have s1 : IntKind.i64.wrap n1 = n1 := by rw [IntKind.wrap_i64]; omega
  have s2 : IntKind.i64.wrap n2 = n2 := by rw [IntKind.wrap_i64]; omega
  have s3 : IntKind.i64.wrap (a.fr - n1) = a.fr - n1 := by rw [IntKind.wrap_i64]; omega
  have s4 : IntKind.i64.wrap (a.to + n2) = a.to + n2 := by rw [IntKind.wrap_i64]; omega
  have HNN := Lib.hid (And.intro gb1 (And.intro gb2 (And.intro gft (And.intro hn1 (And.intro hn2 (And.intro hn3 hn4))))))
  clear gb1 gb2 gft hn1 hn2 hn3 hn4
  go_upto_region 5 with fail
  go_cut [7, 8] from 37 to 47 (fun u y wx => u = .int .i64 (a.fr - n1) ∧ y = .int .i64 (a.to + n2) ∧ Below w3.heap.size w3 wx)
  case first =>
    have e0 := ext_cell A4
    have e1 := ext_cell A5
    clear A0 A1 A2 A3 A4 A5 A6 hbe
    go_wp2_with fail
    refine wp_region_ext (by kernel_rfl) (by kernel_rfl) ?_
    iterate 12 (go_big_quiet_step (fail))
    refine wpQuiet_nil ?_
    intro w9 hb9
    go_wp2_with fail
    go_meet
    exact ⟨rfl, rfl, hb9⟩
  case rest =>
  obtain ⟨rfl, rfl, hb⟩ := hcut
  have HX4 := Lib.hid (And.intro (HX3.out.1.below hb) (And.intro (keepSt hb HX3.out.2.1) (keepBelow HX3.out.2.2 hb)))
  clear A0 A1 A2 A3 A4 A5 A6 hbe hb s1 s2 s3 s4 tx1 tx2
  obtain ⟨⟨⟨A0, A1, A2, A3, A4, A5, A6⟩, -⟩, -, hbe⟩ := HX4.out
  generalize wc = w4 at *
  have hF : a.fr - n1 ≤ a.fr ∧ -10255 ≤ a.fr - n1 := by have := HNN.out; omega
  have hT : a.to ≤ a.to + n2 ∧ a.to + n2 ≤ 10255 := by have := HNN.out; omega
  obtain ⟨F, hFe⟩ : ∃ F, a.fr - n1 = F := ⟨_, rfl⟩
  obtain ⟨T, hTe⟩ : ∃ T, a.to + n2 = T := ⟨_, rfl⟩
  rw [hFe] at hF ⊢
  rw [hTe] at hT ⊢
  have HFT := Lib.hid (And.intro hF hT)
  clear hFe hTe hF hT
  by_cases hq : F = T
  · have t1 : (F == T) = true := by simpa using hq
    subst hq
    go_wp2
    go_ret
    exact ⟨rfl, hbe⟩
  have t1 : (F == T) = false := by simpa using hq
  have hlt : F < T := by have := HFT.out; have := HNN.out; omega
  have HLT := Lib.hid hlt
  clear hq hlt
  have HWN : Hid (∀ W, RdSt W a (.slice a1 a.lf.2.length an1) (.slice a2 a.rt.2.length an2) (.slice a3 a.l.length an3) → Calls Tryz.prog 25 #[.agg #[.int .i64 a.lf.1, (.slice a1 a.lf.2.length an1), .int .i64 a.rt.1, (.slice a2 a.rt.2.length an2), .int .i64 a.fr, .int .i64 a.to, (.slice a3 a.l.length an3)], .agg #[.int .i64 F, .int .i64 T]] W (WiPost true a F T W)) := fun W h => by
    have := window_any a _ _ _ F T W h
    rw [HGV.out] at this
    exact this
  obtain ⟨⟨L, E⟩, hM⟩ : ∃ M, winM true a F T = M := ⟨_, rfl⟩
  have HM := Lib.hid hM
  have HP : Hid (∀ W, RdSt W a (.slice a1 a.lf.2.length an1) (.slice a2 a.rt.2.length an2) (.slice a3 a.l.length an3) → Calls Tryz.prog 25 #[.agg #[.int .i64 a.lf.1, (.slice a1 a.lf.2.length an1), .int .i64 a.rt.1, (.slice a2 a.rt.2.length an2), .int .i64 a.fr, .int .i64 a.to, (.slice a3 a.l.length an3)], .agg #[.int .i64 F, .int .i64 T]] W fun e w' => ∃ u, e = .returned (.tuple #[u, .int .i64 E]) ∧ OwnS w' W.heap.size u L ∧ Below W.heap.size W w') := fun W h => (HWN.out W h).mono fun e w' hh => by
    obtain ⟨u, e1, e2, e3⟩ := hh
    rw [hM] at e1 e2
    exact ⟨u, e1, e2, e3⟩
  clear hM HWN
  go_upto_region 8 with fail
  go_cut [9, 10] from 50 to 58 (fun u f wx => f = .int .i64 E ∧ OwnS wx w4.heap.size u L ∧ Below w4.heap.size w4 wx)
  case first =>
    have hd : Below w4.heap.size w4 w4.drew := (Below.refl _ w4).drew
    have HRD := Lib.hid HX4.out.2.1
    have D0 := keepCell hd A0
    have D1 := keepCell hd A1
    have D2 := keepCell hd A2
    have D3 := keepCell hd A3
    have D4 := keepCell hd A4
    have D5 := keepCell hd A5
    have D6 := keepCell hd A6
    clear A0 A1 A2 A3 A4 A5 A6 hbe
    go_region_with (first
      | (go_at_call 29; refine (HSP.out _ _ _).mono ?_; rintro e' wS ⟨rfl, bS⟩; have hfS : Below w4.heap.size w4 wS := keepBelow hd bS; have S0 := keepCell bS D0; have S1 := keepCell bS D1; have S2 := keepCell bS D2; have S3 := keepCell bS D3; have S4 := keepCell bS D4; have S5 := keepCell bS D5; have S6 := keepCell bS D6; have HSS := Lib.hid bS.size; clear bS)
      | (go_at_call 25; refine (HP.out _ (keepSt hfS HRD.out)).mono ?_; rintro e' wW ⟨u, rfl, oW, bW⟩; have hfW : Below w4.heap.size w4 wW := keepBelow hfS bW; have OW := Lib.hid oW; have HSZ := Lib.hid hfS.size; clear bW oW))
    all_goals (go_wp2_with fail; go_meet)
    all_goals exact ⟨rfl, OW.out.mono HSZ.out, hfW⟩
  case rest =>
  obtain ⟨rfl, ho, hb⟩ := hcut
  have HX5 := Lib.hid (And.intro (HX4.out.1.below hb) (And.intro (keepSt hb HX4.out.2.1) (keepBelow HX4.out.2.2 hb)))
  have HOW := Lib.hid ho
  obtain ⟨pa, pc, epa, _⟩ := ho.form
  subst epa
  clear A0 A1 A2 A3 A4 A5 A6 hbe hb ho
  obtain ⟨⟨⟨A0, A1, A2, A3, A4, A5, A6⟩, -⟩, -, hbe⟩ := HX5.out
  generalize wc = w5 at *
  by_cases g1 : E = 0
  case neg =>
    have t2 : (E != 0) = true := by simpa using g1
    clear g1
    go_wp2
    go_ret
    exact ⟨rfl, hbe⟩
  subst g1
  have hz1 := win_zero (g := true) (s := a) (f := F) (t := T) (by rw [HM.out])
  rw [HM.out] at hz1
  obtain ⟨_, hi1, hl1, hn1⟩ := hz1
  simp only at hl1
  have hL2 : L.length ≤ 2000 := by rw [hl1]; exact hn1
  have hof := of_window HGV.out HFT.out.1.1 HFT.out.2.1 HLT.out (by have := HFT.out; omega) (by have := HFT.out; omega) hn1
  rw [← hl1] at hof
  have hrl : rvB L = true := by rw [hl1]; exact memF_rv (by have := HLT.out; omega) (by have := HFT.out; omega) (by have := HFT.out; omega) hn1
  have HLL := Lib.hid (And.intro hl1 (And.intro hrl hi1))
  have HRL := Lib.hid (HOW.out.rd (by omega))
  have HO5 : Hid (Calls Tryz.prog 17 #[.agg #[.int .i64 a.lf.1, .slice a1 a.lf.2.length an1], .agg #[.int .i64 a.rt.1, .slice a2 a.rt.2.length an2], .int .i64 F, .int .i64 T, .slice pa L.length pc] w5 (TsPost (a, 0) w5)) := by
    have := tof_any ⟨a.lf, a.rt, F, T, L⟩ (.slice a1 a.lf.2.length an1) (.slice a2 a.rt.2.length an2) (.slice pa L.length pc) w5 ⟨HX5.out.2.1.1, HX5.out.2.1.2.1, HRL.out⟩
    rw [hof] at this
    exact this
  clear hof hrl hl1 hn1 hi1
  go_wp2_with fail
  refine HO5.out.mono ?_
  rintro e w6 hpost
  obtain ⟨vl, vr, vv, rfl, hr, hb⟩ : ∃ vl vr vv, e = .returned (.tuple #[.agg #[.int .i64 a.lf.1, vl, .int .i64 a.rt.1, vr, .int .i64 a.fr, .int .i64 a.to, vv], .int .i64 0]) ∧ RdSt w6 a vl vr vv ∧ Below _ _ w6 := hpost
  obtain ⟨c1, cm1, rfl⟩ := hr.1.form
  obtain ⟨c2, cm2, rfl⟩ := hr.2.1.form
  obtain ⟨c3, cm3, rfl⟩ := hr.2.2.form
  have HX6 := Lib.hid (And.intro (HX5.out.1.below hb) (And.intro (keepSt hb HX5.out.2.1) (keepBelow HX5.out.2.2 hb)))
  have HRL6 := Lib.hid (keepRd hb HRL.out)
  clear A0 A1 A2 A3 A4 A5 A6 hbe hb HX5 HO5 HRL
  have hb := (Below.refl w6.heap.size w6).alloc (Nat.le_refl _) (.cells #[.int .i64 a.lf.1, .slice c1 a.lf.2.length cm1, .int .i64 a.rt.1, .slice c2 a.rt.2.length cm2, .int .i64 a.fr, .int .i64 a.to, .slice c3 a.l.length cm3] 26)
  have HX7 := Lib.hid (And.intro (HX6.out.1.below hb) (And.intro (keepSt hb HX6.out.2.1) (keepBelow HX6.out.2.2 hb)))
  have HRL7 := Lib.hid (keepRd hb HRL6.out)
  have HN7 := Lib.hid (And.intro (set7_new w6 (.int .i64 a.lf.1) (.slice c1 a.lf.2.length cm1) (.int .i64 a.rt.1) (.slice c2 a.rt.2.length cm2) (.int .i64 a.fr) (.int .i64 a.to) (.slice c3 a.l.length cm3)) (keepSt hb hr))
  clear hb hr HX6 HRL6
  obtain ⟨⟨⟨A0, A1, A2, A3, A4, A5, A6⟩, -⟩, -, hbe⟩ := HX7.out
  obtain ⟨⟨⟨C0, C1, C2, C3, C4, C5, C6⟩, _⟩, _⟩ := HN7.out
  have HEQ := Lib.hid (tequal_any a a _ _ _ _ _ _ _ HX7.out.2.1 HN7.out.2)
  rw [eqT_self HGV.out] at HEQ
  go_wp2_with fail
  refine HEQ.out.mono ?_
  rintro e w8 ⟨rfl, hb⟩
  have HX8 := Lib.hid (And.intro (HX7.out.1.below hb) (And.intro (keepSt hb HX7.out.2.1) (keepBelow HX7.out.2.2 hb)))
  have HRL8 := Lib.hid (keepRd hb HRL7.out)
  clear A0 A1 A2 A3 A4 A5 A6 hbe C0 C1 C2 C3 C4 C5 C6 hb HX7 HRL7 HN7 HEQ
  obtain ⟨⟨⟨A0, A1, A2, A3, A4, A5, A6⟩, -⟩, -, hbe⟩ := HX8.out
  have HRP1 : Hid (∀ W, RdSt W a (.slice a1 a.lf.2.length an1) (.slice a2 a.rt.2.length an2) (.slice a3 a.l.length an3) → Calls Tryz.prog 40 #[.agg #[.int .i64 a.lf.1, (.slice a1 a.lf.2.length an1), .int .i64 a.rt.1, (.slice a2 a.rt.2.length an2), .int .i64 a.fr, .int .i64 a.to, (.slice a3 a.l.length an3)], .agg #[.int .i64 F, .int .i64 T], .slice none 0 0] W (TsPost (replM a (F, T) []) W)) := fun W h => treplace_any a _ _ _ F T _ [] W h (rd_none W) (by simp)
  obtain ⟨⟨H, E1⟩, hH⟩ : ∃ M, replM a (F, T) [] = M := ⟨_, rfl⟩
  have HRM1 := Lib.hid hH
  have HPS1 : Hid (PosSt H) := by have := pos_repl (s := a) (i := (F, T)) (l := []); rw [hH] at this; exact this
  rw [hH] at HRP1
  clear hH
  go_upto_region 14 with fail
  go_cut [13, 14] from 79 to 87 (fun p e wx => e = .int .i64 E1 ∧ ∃ bx h1 hm1 h2 hm2 h3 hm3, p = .pointer (some ⟨bx, 0, none⟩) ∧ Set7 wx bx (.int .i64 H.lf.1) (.slice h1 H.lf.2.length hm1) (.int .i64 H.rt.1) (.slice h2 H.rt.2.length hm2) (.int .i64 H.fr) (.int .i64 H.to) (.slice h3 H.l.length hm3) ∧ RdSt wx H (.slice h1 H.lf.2.length hm1) (.slice h2 H.rt.2.length hm2) (.slice h3 H.l.length hm3) ∧ Below w8.heap.size w8 wx)
  case first =>
    have hd : Below w8.heap.size w8 w8.drew := (Below.refl _ w8).drew
    have HCA : Hid (∀ X, Below w8.heap.size w8 X → X.cell? ⟨w.heap.size, 0, none⟩ = some (.int .i64 a.lf.1) ∧ X.cell? ⟨w.heap.size, 1, none⟩ = some (.slice a1 a.lf.2.length an1) ∧ X.cell? ⟨w.heap.size, 2, none⟩ = some (.int .i64 a.rt.1) ∧ X.cell? ⟨w.heap.size, 3, none⟩ = some (.slice a2 a.rt.2.length an2) ∧ X.cell? ⟨w.heap.size, 4, none⟩ = some (.int .i64 a.fr) ∧ X.cell? ⟨w.heap.size, 5, none⟩ = some (.int .i64 a.to) ∧ X.cell? ⟨w.heap.size, 6, none⟩ = some (.slice a3 a.l.length an3) ∧ Below w8.heap.size w8 X) := fun X hX => ⟨keepCell hX A0, keepCell hX A1, keepCell hX A2, keepCell hX A3, keepCell hX A4, keepCell hX A5, keepCell hX A6, hX⟩
    have HRD := Lib.hid HX8.out.2.1
    have HRK : Hid (∀ X, Below w8.heap.size w8 X → RdSt X a (.slice a1 a.lf.2.length an1) (.slice a2 a.rt.2.length an2) (.slice a3 a.l.length an3)) := fun X hX => keepSt hX HRD.out
    clear A0 A1 A2 A3 A4 A5 A6 hbe HRD
    go_region_held3 (fun w' => w'.cell? ⟨w.heap.size, 0, none⟩ = some (.int .i64 a.lf.1) ∧ w'.cell? ⟨w.heap.size, 1, none⟩ = some (.slice a1 a.lf.2.length an1) ∧ w'.cell? ⟨w.heap.size, 2, none⟩ = some (.int .i64 a.rt.1) ∧ w'.cell? ⟨w.heap.size, 3, none⟩ = some (.slice a2 a.rt.2.length an2) ∧ w'.cell? ⟨w.heap.size, 4, none⟩ = some (.int .i64 a.fr) ∧ w'.cell? ⟨w.heap.size, 5, none⟩ = some (.int .i64 a.to) ∧ w'.cell? ⟨w.heap.size, 6, none⟩ = some (.slice a3 a.l.length an3) ∧ Below w8.heap.size w8 w')
      (first | with_reducible exact HCA.out _ hd | with_reducible exact HCA.out _ hfS | with_reducible exact HCA.out _ hfR | with_reducible exact HCA.out _ (hd.alloc (Nat.le_refl _) _) | with_reducible exact HCA.out _ ((Below.refl _ w8).alloc (Nat.le_refl _) _).drew | with_reducible exact HCA.out _ (hfS.alloc hfS.size _) | with_reducible exact HCA.out _ (hfR.alloc hfR.size _) | with_reducible exact HCA.out _ (chain_below hfR (Nat.le_refl _)) | with_reducible exact HCA.out _ (chain_below hfR hfS.size))
      (first
        | (go_at_call 29; refine (HSP.out _ _ _).mono ?_; rintro e' wS ⟨rfl, bS⟩; have hfS : Below w8.heap.size w8 wS := keepBelow (by first | with_reducible exact hd | with_reducible exact (hd.alloc (Nat.le_refl _) _) | with_reducible exact ((Below.refl _ w8).alloc (Nat.le_refl _) _).drew) bS; (first | (have BX := Lib.hid ((ZB.new _).below bS)) | (have BX := Lib.hid ((ZB.new1 _).below bS)) | skip); clear bS)
        | (go_at_call 40; refine (HRP1.out _ (HRK.out _ (by first | with_reducible exact hfS | with_reducible exact (hfS.alloc hfS.size _)))).mono ?_; rintro e' wR hpost; obtain ⟨vl, vr, vv, rfl, hr, bR⟩ : ∃ vl vr vv, e' = .returned (.tuple #[.agg #[.int .i64 H.lf.1, vl, .int .i64 H.rt.1, vr, .int .i64 H.fr, .int .i64 H.to, vv], .int .i64 E1]) ∧ RdSt wR H vl vr vv ∧ Below _ _ wR := hpost; obtain ⟨h1, hm1, rfl⟩ := hr.1.form; obtain ⟨h2, hm2, rfl⟩ := hr.2.1.form; obtain ⟨h3, hm3, rfl⟩ := hr.2.2.form; have hfR : Below w8.heap.size w8 wR := keepBelow (by first | with_reducible exact hfS | with_reducible exact (hfS.alloc hfS.size _)) bR; (first | (have BX := Lib.hid (BX.out.below bR)) | (have BX := Lib.hid ((ZB.new _).below bR)) | (have BX := Lib.hid ((ZB.new1 _).below bR)) | skip); (first | (obtain ⟨⟨⟨Z0, Z1, Z2, Z3, Z4, Z5, Z6⟩, K0, K1, K2, K3, K4, K5, K6⟩, _⟩ := BX.out) | skip); have HRR := Lib.hid hr; clear bR hr))
    all_goals (go_wp2_with fail; go_meet)
    all_goals first
      | with_reducible exact ⟨rfl, _, _, _, _, _, _, _, rfl, set7_new _ _ _ _ _ _ _ _, keepSt ((Below.refl _ _).alloc (Nat.le_refl _) _) HRR.out, hfR.alloc hfR.size _⟩
      | with_reducible exact ⟨rfl, _, _, _, _, _, _, _, rfl, chain_set BX.out, chain_rd HRR.out HPS1.out BX.out, chain_below hfR hfS.size⟩
      | with_reducible exact ⟨rfl, _, _, _, _, _, _, _, rfl, chain_set BX.out, chain_rd HRR.out HPS1.out BX.out, chain_below hfR (Nat.le_refl _)⟩
  case rest =>
  obtain ⟨rfl, bx, h1, hm1, h2, hm2, h3, hm3, rfl, hs7, hrd, hb⟩ := hcut
  have HX9 := Lib.hid (And.intro (HX8.out.1.below hb) (And.intro (keepSt hb HX8.out.2.1) (And.intro hs7 (And.intro hrd (keepBelow HX8.out.2.2 hb)))))
  have HRL9 := Lib.hid (keepRd hb HRL8.out)
  clear A0 A1 A2 A3 A4 A5 A6 hbe hb hs7 hrd HX8 HRL8 HRP1
  obtain ⟨⟨⟨A0, A1, A2, A3, A4, A5, A6⟩, -⟩, -, ⟨⟨H0, H1, H2, H3, H4, H5, H6⟩, -⟩, -, hbe⟩ := HX9.out
  generalize wc = w9 at *
  have HRP2 : Hid (∀ W, RdSt W H (.slice h1 H.lf.2.length hm1) (.slice h2 H.rt.2.length hm2) (.slice h3 H.l.length hm3) → RdS W (.slice pa L.length pc) L → Calls Tryz.prog 40 #[.agg #[.int .i64 H.lf.1, .slice h1 H.lf.2.length hm1, .int .i64 H.rt.1, .slice h2 H.rt.2.length hm2, .int .i64 H.fr, .int .i64 H.to, .slice h3 H.l.length hm3], .agg #[.int .i64 F, .int .i64 T], .slice pa L.length pc] W (TsPost (replM H (F, T) L) W)) := fun W h h' => treplace_any H _ _ _ F T _ L W h h' (by omega)
  obtain ⟨⟨V, E2⟩, hV⟩ : ∃ M, replM H (F, T) L = M := ⟨_, rfl⟩
  have HRM2 := Lib.hid hV
  have HPS2 : Hid (PosSt V) := by have := pos_repl (s := H) (i := (F, T)) (l := L); rw [hV] at this; exact this
  rw [hV] at HRP2
  clear hV
  have HRLK : Hid (∀ X, Below w9.heap.size w9 X → RdS X (.slice pa L.length pc) L) := fun X hX => keepRd hX HRL9.out
  go_upto_region 15 with fail
  go_cut [15, 16] from 87 to 96 (fun p e wx => e = .int .i64 E2 ∧ ∃ bx j1 jm1 j2 jm2 j3 jm3, p = .pointer (some ⟨bx, 0, none⟩) ∧ Set7 wx bx (.int .i64 V.lf.1) (.slice j1 V.lf.2.length jm1) (.int .i64 V.rt.1) (.slice j2 V.rt.2.length jm2) (.int .i64 V.fr) (.int .i64 V.to) (.slice j3 V.l.length jm3) ∧ RdSt wx V (.slice j1 V.lf.2.length jm1) (.slice j2 V.rt.2.length jm2) (.slice j3 V.l.length jm3) ∧ Below w9.heap.size w9 wx)
  case first =>
    have hd : Below w9.heap.size w9 w9.drew := (Below.refl _ w9).drew
    have HCA : Hid (∀ X, Below w9.heap.size w9 X → X.cell? ⟨bx, 0, none⟩ = some (.int .i64 H.lf.1) ∧ X.cell? ⟨bx, 1, none⟩ = some (.slice h1 H.lf.2.length hm1) ∧ X.cell? ⟨bx, 2, none⟩ = some (.int .i64 H.rt.1) ∧ X.cell? ⟨bx, 3, none⟩ = some (.slice h2 H.rt.2.length hm2) ∧ X.cell? ⟨bx, 4, none⟩ = some (.int .i64 H.fr) ∧ X.cell? ⟨bx, 5, none⟩ = some (.int .i64 H.to) ∧ X.cell? ⟨bx, 6, none⟩ = some (.slice h3 H.l.length hm3) ∧ Below w9.heap.size w9 X) := fun X hX => ⟨keepCell hX H0, keepCell hX H1, keepCell hX H2, keepCell hX H3, keepCell hX H4, keepCell hX H5, keepCell hX H6, hX⟩
    have HRD := Lib.hid HX9.out.2.2.2.1
    have HRK : Hid (∀ X, Below w9.heap.size w9 X → RdSt X H (.slice h1 H.lf.2.length hm1) (.slice h2 H.rt.2.length hm2) (.slice h3 H.l.length hm3)) := fun X hX => keepSt hX HRD.out
    clear A0 A1 A2 A3 A4 A5 A6 H0 H1 H2 H3 H4 H5 H6 hbe HRD
    go_region_held3 (fun w' => w'.cell? ⟨bx, 0, none⟩ = some (.int .i64 H.lf.1) ∧ w'.cell? ⟨bx, 1, none⟩ = some (.slice h1 H.lf.2.length hm1) ∧ w'.cell? ⟨bx, 2, none⟩ = some (.int .i64 H.rt.1) ∧ w'.cell? ⟨bx, 3, none⟩ = some (.slice h2 H.rt.2.length hm2) ∧ w'.cell? ⟨bx, 4, none⟩ = some (.int .i64 H.fr) ∧ w'.cell? ⟨bx, 5, none⟩ = some (.int .i64 H.to) ∧ w'.cell? ⟨bx, 6, none⟩ = some (.slice h3 H.l.length hm3) ∧ Below w9.heap.size w9 w')
      (first | with_reducible exact HCA.out _ hd | with_reducible exact HCA.out _ hfS | with_reducible exact HCA.out _ hfR | with_reducible exact HCA.out _ (hd.alloc (Nat.le_refl _) _) | with_reducible exact HCA.out _ ((Below.refl _ w9).alloc (Nat.le_refl _) _).drew | with_reducible exact HCA.out _ (hfS.alloc hfS.size _) | with_reducible exact HCA.out _ (hfR.alloc hfR.size _) | with_reducible exact HCA.out _ (chain_below hfR (Nat.le_refl _)) | with_reducible exact HCA.out _ (chain_below hfR hfS.size))
      (first
        | (go_at_call 29; refine (HSP.out _ _ _).mono ?_; rintro e' wS ⟨rfl, bS⟩; have hfS : Below w9.heap.size w9 wS := keepBelow (by first | with_reducible exact hd | with_reducible exact (hd.alloc (Nat.le_refl _) _) | with_reducible exact ((Below.refl _ w9).alloc (Nat.le_refl _) _).drew) bS; (first | (have BX := Lib.hid ((ZB.new _).below bS)) | (have BX := Lib.hid ((ZB.new1 _).below bS)) | skip); clear bS)
        | (go_at_call 40; refine (HRP2.out _ (HRK.out _ (by first | with_reducible exact hfS | with_reducible exact (hfS.alloc hfS.size _))) (HRLK.out _ (by first | with_reducible exact hfS | with_reducible exact (hfS.alloc hfS.size _)))).mono ?_; rintro e' wR hpost; obtain ⟨vl, vr, vv, rfl, hr, bR⟩ : ∃ vl vr vv, e' = .returned (.tuple #[.agg #[.int .i64 V.lf.1, vl, .int .i64 V.rt.1, vr, .int .i64 V.fr, .int .i64 V.to, vv], .int .i64 E2]) ∧ RdSt wR V vl vr vv ∧ Below _ _ wR := hpost; obtain ⟨j1, jm1, rfl⟩ := hr.1.form; obtain ⟨j2, jm2, rfl⟩ := hr.2.1.form; obtain ⟨j3, jm3, rfl⟩ := hr.2.2.form; have hfR : Below w9.heap.size w9 wR := keepBelow (by first | with_reducible exact hfS | with_reducible exact (hfS.alloc hfS.size _)) bR; (first | (have BX := Lib.hid (BX.out.below bR)) | (have BX := Lib.hid ((ZB.new _).below bR)) | (have BX := Lib.hid ((ZB.new1 _).below bR)) | skip); (first | (obtain ⟨⟨⟨Z0, Z1, Z2, Z3, Z4, Z5, Z6⟩, K0, K1, K2, K3, K4, K5, K6⟩, _⟩ := BX.out) | skip); have HRR := Lib.hid hr; clear bR hr))
    all_goals (go_wp2_with fail; go_meet)
    all_goals first
      | with_reducible exact ⟨rfl, _, _, _, _, _, _, _, rfl, set7_new _ _ _ _ _ _ _ _, keepSt ((Below.refl _ _).alloc (Nat.le_refl _) _) HRR.out, hfR.alloc hfR.size _⟩
      | with_reducible exact ⟨rfl, _, _, _, _, _, _, _, rfl, chain_set BX.out, chain_rd HRR.out HPS2.out BX.out, chain_below hfR hfS.size⟩
      | with_reducible exact ⟨rfl, _, _, _, _, _, _, _, rfl, chain_set BX.out, chain_rd HRR.out HPS2.out BX.out, chain_below hfR (Nat.le_refl _)⟩
  case rest =>
  obtain ⟨rfl, bv, j1, jm1, j2, jm2, j3, jm3, rfl, hs7, hrd, hb⟩ := hcut
  have HXa := Lib.hid (And.intro (HX9.out.1.below hb) (And.intro (keepSt hb HX9.out.2.1) (And.intro hs7 (And.intro hrd (keepBelow HX9.out.2.2.2.2 hb)))))
  clear A0 A1 A2 A3 A4 A5 A6 H0 H1 H2 H3 H4 H5 H6 hbe hb hs7 hrd HX9 HRP2 HRLK HRL9
  obtain ⟨⟨⟨A0, A1, A2, A3, A4, A5, A6⟩, -⟩, -, ⟨⟨V0, V1, V2, V3, V4, V5, V6⟩, -⟩, -, hbe⟩ := HXa.out
  generalize wc = wa at *
  by_cases e1 : E1 = 0
  case neg =>
    have t3 : (E1 != 0) = true := by simpa using e1
    clear e1
    go_wp2
    go_ret
    exact ⟨rfl, hbe⟩
  subst e1
  by_cases e2 : E2 = 0
  case neg =>
    have t3 : (E2 != 0) = true := by simpa using e2
    clear e2
    go_wp2
    go_ret
    exact ⟨rfl, hbe⟩
  subst e2
  have heq : eqTB V a = true := repl_twice HRM1.out HRM2.out fun x => by rw [HLL.out.1]; exact memF_in (by have := HLT.out; omega) x
  have HEQ2 := Lib.hid (tequal_any V a _ _ _ _ _ _ _ HXa.out.2.2.2.1 HXa.out.2.1)
  rw [heq] at HEQ2
  clear heq
  go_wp2_with fail
  refine HEQ2.out.mono ?_
  rintro e wb ⟨rfl, hb⟩
  have hbe := keepBelow hbe hb
  go_wp2
  go_ret
  exact ⟨rfl, hbe⟩
end Go.Proofs.YtnjpceocnldlfaaGreat
