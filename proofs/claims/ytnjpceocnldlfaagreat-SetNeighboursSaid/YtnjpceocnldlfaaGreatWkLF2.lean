import Derived.Test.YtnjpceocnldlfaaGreatWkLF1
import Derived.Test.YtnjpceocnldlfaaGreatWkWnd
import Derived.Test.YtnjpceocnldlfaaGreatWkRPa
/- The law SetWindows. -/
namespace Go.Proofs.YtnjpceocnldlfaaGreat
open Go.RowKit Wk

/-- one set is a slice of sets -/
theorem rdT_one {W : World} {a : St} {a1 a2 a3 : Value} (h : RdSt W a a1 a2 a3) :
    RdT (W.alloc (.cells #[.int .i64 a.lf.1, a1, .int .i64 a.rt.1, a2, .int .i64 a.fr, .int .i64 a.to, a3] 26)) (.slice (some ⟨W.heap.size, 0, none⟩) 1 1) [(a, a1, a2, a3)] := by
  have hb := (Below.refl W.heap.size W).alloc (Nat.le_refl _) (.cells #[.int .i64 a.lf.1, a1, .int .i64 a.rt.1, a2, .int .i64 a.fr, .int .i64 a.to, a3] 26)
  refine ⟨by simp, _, _, rfl, fun i x hx => ?_⟩
  rcases i with _ | i
  · simp at hx
    subst hx
    refine ⟨keepSt hb h, ?_, ?_, ?_, ?_, ?_, ?_, ?_⟩ <;> simp [go_sem]
  · simp at hx
theorem win_len (s : St) (f t : Int) : (winM true s f t).1.length ≤ 2000 := by
  unfold winM
  split
  · simp
  · split
    · assumption
    · simp

set_option maxRecDepth 100000 in
set_option maxHeartbeats 8000000 in
theorem law_SetWindows (a : St) (al ar av : Value) (f t : Int) (w : World) (ha : RdSt w a al ar av) :
    Calls Tryz.prog 4 #[.agg #[.int .i64 a.lf.1, al, .int .i64 a.rt.1, ar, .int .i64 a.fr, .int .i64 a.to, av], .agg #[.int .i64 f, .int .i64 t]] w fun e w' => e = .returned (.bool true) ∧ Below w.heap.size w w' := by
  have HAW := Lib.hid (fun W => awake14_any W)
  have HLA := Lib.hid (fun v L W h => large14_any v L W h)
  have HVR := Lib.hid (fun W h => valid14_any a al ar av W h)
  have HWT : Hid (∀ W, RdSt W a al ar av → Calls Tryz.prog 25 #[.agg #[.int .i64 a.lf.1, al, .int .i64 a.rt.1, ar, .int .i64 a.fr, .int .i64 a.to, av], .agg #[.int .i64 f, .int .i64 t]] W (WiPost (VB a) a f t W)) := fun W h => window_any a al ar av f t W h
  have HWR := Lib.hid (fun (hg : VB a = true) (hi : ivB (f, t) = true) W h => window14_any a al ar av f t W h (okS_of_VB hg) hi)
  have HIV := Lib.hid (fun W => valid10_any f t W)
  have HSQ := Lib.hid (fun v1 v2 l1 l2 W h h' => seq_any v1 v2 l1 l2 W h h')
  have HRA := Lib.hid ha
  obtain ⟨a1, an1, e1⟩ := ha.1.form
  obtain ⟨a2, an2, e2⟩ := ha.2.1.form
  obtain ⟨a3, an3, e3⟩ := ha.2.2.form
  subst e1 e2 e3
  clear ha
  obtain ⟨W, hWe⟩ : ∃ W, (w.alloc (.cells #[.int .i64 a.lf.1, (.slice a1 a.lf.2.length an1), .int .i64 a.rt.1, (.slice a2 a.rt.2.length an2), .int .i64 a.fr, .int .i64 a.to, (.slice a3 a.l.length an3)] 26)).alloc (.cells #[.int .i64 f, .int .i64 t] 40) = W := ⟨_, rfl⟩
  have hW : Below w.heap.size w W := by rw [← hWe]; exact ((Below.refl _ w).alloc (Nat.le_refl _) _).alloc (by simp) _
  have HX : Hid (Set7 W w.heap.size (.int .i64 a.lf.1) (.slice a1 a.lf.2.length an1) (.int .i64 a.rt.1) (.slice a2 a.rt.2.length an2) (.int .i64 a.fr) (.int .i64 a.to) (.slice a3 a.l.length an3) ∧ W.cell? ⟨w.heap.size + 1, 0, none⟩ = some (.int .i64 f) ∧ W.cell? ⟨w.heap.size + 1, 1, none⟩ = some (.int .i64 t) ∧ RdSt W a (.slice a1 a.lf.2.length an1) (.slice a2 a.rt.2.length an2) (.slice a3 a.l.length an3) ∧ Below w.heap.size w W) := by
    refine ⟨?_, ?_, ?_, keepSt hW HRA.out, hW⟩
    · rw [← hWe]
      refine ⟨⟨?_, ?_, ?_, ?_, ?_, ?_, ?_⟩, ?_, ?_, ?_, ?_, ?_, ?_, ?_⟩ <;> simp [go_sem]
    · rw [← hWe]; simp [go_sem]
    · rw [← hWe]; simp [go_sem]
  have HE := Lib.hid hWe
  clear hWe hW
  obtain ⟨ga, hga⟩ : ∃ g, VB a = g := ⟨_, rfl⟩
  rw [hga] at HVR HWT
  have HWR : Hid (ga = true → ivB (f, t) = true → ∀ W, RdSt W a (.slice a1 a.lf.2.length an1) (.slice a2 a.rt.2.length an2) (.slice a3 a.l.length an3) → Calls Tryz.prog 27 #[.agg #[.int .i64 a.lf.1, (.slice a1 a.lf.2.length an1), .int .i64 a.rt.1, (.slice a2 a.rt.2.length an2), .int .i64 a.fr, .int .i64 a.to, (.slice a3 a.l.length an3)], .agg #[.int .i64 f, .int .i64 t]] W (W14Post a f t W)) := fun hh hi W h => HWR.out (by rw [hga]; exact hh) hi W h
  clear hga
  obtain ⟨iv, hiv⟩ : ∃ iv, ivB (f, t) = iv := ⟨_, rfl⟩
  rw [hiv] at HIV HWR
  have HIB := Lib.hid hiv
  clear hiv
  obtain ⟨⟨⟨A0, A1, A2, A3, A4, A5, A6⟩, _⟩, S0, S1, _, hbe⟩ := HX.out
  go_enter Tryz.func4, Tryz.ntmps4
  go_wp2_with fail
  rw [HE.out]
  go_wp2_with fail
  refine (HAW.out _).mono ?_
  rintro e w1 ⟨rfl, hb⟩
  have HX1 := Lib.hid (And.intro (HX.out.1.below hb) (And.intro (keepCell hb HX.out.2.1) (And.intro (keepCell hb HX.out.2.2.1) (And.intro (keepSt hb HX.out.2.2.2.1) (keepBelow HX.out.2.2.2.2 hb)))))
  clear A0 A1 A2 A3 A4 A5 A6 S0 S1 hbe
  obtain ⟨⟨⟨A0, A1, A2, A3, A4, A5, A6⟩, _⟩, S0, S1, _, hbe⟩ := HX1.out
  clear hb
  have HT1 := Lib.hid (rdT_one HX1.out.2.2.2.1)
  have hb := (Below.refl w1.heap.size w1).alloc (Nat.le_refl _) (.cells #[.int .i64 a.lf.1, (.slice a1 a.lf.2.length an1), .int .i64 a.rt.1, (.slice a2 a.rt.2.length an2), .int .i64 a.fr, .int .i64 a.to, (.slice a3 a.l.length an3)] 26)
  have HX1' := Lib.hid (And.intro (HX1.out.1.below hb) (And.intro (keepCell hb HX1.out.2.1) (And.intro (keepCell hb HX1.out.2.2.1) (And.intro (keepSt hb HX1.out.2.2.2.1) (keepBelow HX1.out.2.2.2.2 hb)))))
  go_wp2_with fail
  refine (HLA.out _ _ _ HT1.out).mono ?_
  rintro e w2 ⟨rfl, hb⟩
  have HX2 := Lib.hid (And.intro (HX1'.out.1.below hb) (And.intro (keepCell hb HX1'.out.2.1) (And.intro (keepCell hb HX1'.out.2.2.1) (And.intro (keepSt hb HX1'.out.2.2.2.1) (keepBelow HX1'.out.2.2.2.2 hb)))))
  clear A0 A1 A2 A3 A4 A5 A6 S0 S1 hbe
  obtain ⟨⟨⟨A0, A1, A2, A3, A4, A5, A6⟩, _⟩, S0, S1, _, hbe⟩ := HX2.out
  clear hb HT1
  obtain ⟨lg, hlg⟩ : ∃ g, anyL [(a, .slice a1 a.lf.2.length an1, .slice a2 a.rt.2.length an2, .slice a3 a.l.length an3)] = g := ⟨_, rfl⟩
  rw [hlg]
  clear hlg
  cases lg with
  | true =>
    go_wp2
    go_ret
    exact ⟨rfl, hbe⟩
  | false =>
  go_wp2_with fail
  refine (HWT.out _ HX2.out.2.2.2.1).mono ?_
  rintro e w3 ⟨u, rfl, ho, hb⟩
  have HX3 := Lib.hid (And.intro (HX2.out.1.below hb) (And.intro (keepCell hb HX2.out.2.1) (And.intro (keepCell hb HX2.out.2.2.1) (And.intro (keepSt hb HX2.out.2.2.2.1) (keepBelow HX2.out.2.2.2.2 hb)))))
  obtain ⟨p3, q3, rfl, _⟩ := ho.form
  have HO := Lib.hid ho
  clear A0 A1 A2 A3 A4 A5 A6 S0 S1 hbe
  obtain ⟨⟨⟨A0, A1, A2, A3, A4, A5, A6⟩, _⟩, S0, S1, _, hbe⟩ := HX3.out
  clear hb ho
  go_wp2_with fail
  refine (HVR.out _ HX3.out.2.2.2.1).mono ?_
  rintro e w4 ⟨rfl, hb⟩
  have HX4 := Lib.hid (And.intro (HX3.out.1.below hb) (And.intro (keepCell hb HX3.out.2.1) (And.intro (keepCell hb HX3.out.2.2.1) (And.intro (keepSt hb HX3.out.2.2.2.1) (keepBelow HX3.out.2.2.2.2 hb)))))
  have HO := Lib.hid (HO.out.below hb)
  clear A0 A1 A2 A3 A4 A5 A6 S0 S1 hbe
  obtain ⟨⟨⟨A0, A1, A2, A3, A4, A5, A6⟩, _⟩, S0, S1, _, hbe⟩ := HX4.out
  clear hb
  cases ga with
  | false =>
    have HM : Hid (winM false a f t = ([], 1)) := by unfold Hid winM; rw [if_pos (.inl rfl)]
    rw [HM.out]
    go_wp2
    go_ret
    exact ⟨rfl, hbe⟩
  | true =>
  go_wp2_with fail
  refine (HIV.out _).mono ?_
  rintro e w5 ⟨rfl, hb⟩
  have HX5 := Lib.hid (And.intro (HX4.out.1.below hb) (And.intro (keepCell hb HX4.out.2.1) (And.intro (keepCell hb HX4.out.2.2.1) (And.intro (keepSt hb HX4.out.2.2.2.1) (keepBelow HX4.out.2.2.2.2 hb)))))
  have HO := Lib.hid (HO.out.below hb)
  clear A0 A1 A2 A3 A4 A5 A6 S0 S1 hbe
  obtain ⟨⟨⟨A0, A1, A2, A3, A4, A5, A6⟩, _⟩, S0, S1, _, hbe⟩ := HX5.out
  clear hb
  cases iv with
  | false =>
    have HM : Hid (winM true a f t = ([], 1)) := by unfold Hid winM; rw [if_pos (.inr HIB.out)]
    rw [HM.out]
    go_wp2
    go_ret
    exact ⟨rfl, hbe⟩
  | true =>
  have HWR' := Lib.hid (fun W h => HWR.out (by first | rfl | trivial) (by first | rfl | trivial) W h)
  go_wp2_with fail
  refine (HWR'.out _ HX5.out.2.2.2.1).mono ?_
  rintro e w6 ⟨u6, rfl, hr6, hb⟩
  have HX6 := Lib.hid (And.intro (HX5.out.1.below hb) (And.intro (keepCell hb HX5.out.2.1) (And.intro (keepCell hb HX5.out.2.2.1) (And.intro (keepSt hb HX5.out.2.2.2.1) (keepBelow HX5.out.2.2.2.2 hb)))))
  have HO := Lib.hid (HO.out.below hb)
  obtain ⟨p6, q6, rfl⟩ := hr6.form
  have HR6 := Lib.hid hr6
  clear A0 A1 A2 A3 A4 A5 A6 S0 S1 hbe
  obtain ⟨⟨⟨A0, A1, A2, A3, A4, A5, A6⟩, _⟩, S0, S1, _, hbe⟩ := HX6.out
  clear hb hr6
  have HR5 := Lib.hid (HO.out.rd (by have := win_len a f t; omega))
  obtain ⟨M, hM⟩ : ∃ M, winM true a f t = M := ⟨_, rfl⟩
  rw [hM] at HR5 HR6 ⊢
  clear hM HO
  have t1 : (M.2 == M.2) = true := by simp
  go_wp2_with fail
  refine (HSQ.out _ _ _ _ _ HR5.out HR6.out).mono ?_
  rintro e w7 ⟨rfl, hb⟩
  have hbe := keepBelow hbe hb
  go_wp2
  go_ret
  exact ⟨ret_bool (by simp), hbe⟩
end Go.Proofs.YtnjpceocnldlfaaGreat
