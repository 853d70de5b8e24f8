import Derived.Test.YtnjpceocnldlfaaGreatWkLF7
import Derived.Test.YtnjpceocnldlfaaGreatWkRpv
/- The law SetNeighbours. -/
namespace Go.Proofs.YtnjpceocnldlfaaGreat
open Go.RowKit Wk

set_option maxRecDepth 100000 in
set_option maxHeartbeats 16000000 in
theorem law_SetNeighbours (a : St) (al ar av : Value) (x : Int) (w : World) (ha : RdSt w a al ar av) :
    Calls Tryz.prog 8 #[.agg #[.int .i64 a.lf.1, al, .int .i64 a.rt.1, ar, .int .i64 a.fr, .int .i64 a.to, av], .int .i64 x] w fun e w' => e = .returned (.bool true) ∧ Below w.heap.size w w' := by
  have HAW := Lib.hid (fun W => awake14_any W)
  have HLA := Lib.hid (fun v L W h => large14_any v L W h)
  have HVR := Lib.hid (fun W h => valid14_any a al ar av W h)
  have HCH := Lib.hid (fun W h => tchange_any a al ar av x W h)
  have HNX := Lib.hid (fun W h => tnext_any a al ar av x W h)
  have HPV := Lib.hid (fun W h => tprev_any a al ar av x W h)
  have KCH := Lib.hid (fun (hv : VB a = true) W h => change14_any a al ar av x W h (okS_of_VB hv))
  have KNX := Lib.hid (fun (hv : VB a = true) W h => next14_any a al ar av x W h (okS_of_VB hv))
  have KPV := Lib.hid (fun (hv : VB a = true) W h => previous14_any a al ar av x W h (okS_of_VB hv))
  have HRA := Lib.hid ha
  obtain ⟨a1, an1, e1⟩ := ha.1.form
  obtain ⟨a2, an2, e2⟩ := ha.2.1.form
  obtain ⟨a3, an3, e3⟩ := ha.2.2.form
  subst e1 e2 e3
  clear ha
  obtain ⟨W, hWe⟩ : ∃ W, w.alloc (.cells #[.int .i64 a.lf.1, (.slice a1 a.lf.2.length an1), .int .i64 a.rt.1, (.slice a2 a.rt.2.length an2), .int .i64 a.fr, .int .i64 a.to, (.slice a3 a.l.length an3)] 26) = W := ⟨_, rfl⟩
  have hW : Below w.heap.size w W := by rw [← hWe]; exact (Below.refl _ w).alloc (Nat.le_refl _) _
  have HX : Hid (Set7 W w.heap.size (.int .i64 a.lf.1) (.slice a1 a.lf.2.length an1) (.int .i64 a.rt.1) (.slice a2 a.rt.2.length an2) (.int .i64 a.fr) (.int .i64 a.to) (.slice a3 a.l.length an3) ∧ RdSt W a (.slice a1 a.lf.2.length an1) (.slice a2 a.rt.2.length an2) (.slice a3 a.l.length an3) ∧ Below w.heap.size w W) := by
    refine ⟨?_, keepSt hW HRA.out, hW⟩
    rw [← hWe]
    refine ⟨⟨?_, ?_, ?_, ?_, ?_, ?_, ?_⟩, ?_, ?_, ?_, ?_, ?_, ?_, ?_⟩ <;> simp [go_sem]
  have HE := Lib.hid hWe
  clear hWe hW
  obtain ⟨ga, hga⟩ : ∃ g, VB a = g := ⟨_, rfl⟩
  rw [hga] at HVR HCH HNX HPV KCH KNX KPV
  clear hga
  obtain ⟨⟨⟨A0, A1, A2, A3, A4, A5, A6⟩, _⟩, _, hbe⟩ := HX.out
  go_enter Tryz.func8, Tryz.ntmps8
  go_wp2_with fail
  rw [HE.out]
  go_wp2_with fail
  refine (HAW.out _).mono ?_
  rintro e w1 ⟨rfl, hb⟩
  have HX1 := Lib.hid (And.intro (HX.out.1.below hb) (And.intro (keepSt hb HX.out.2.1) (keepBelow HX.out.2.2 hb)))
  clear A0 A1 A2 A3 A4 A5 A6 hbe
  obtain ⟨⟨⟨A0, A1, A2, A3, A4, A5, A6⟩, _⟩, _, hbe⟩ := HX1.out
  clear hb
  have HT1 := Lib.hid (rdT_one HX1.out.2.1)
  have hb := (Below.refl w1.heap.size w1).alloc (Nat.le_refl _) (.cells #[.int .i64 a.lf.1, (.slice a1 a.lf.2.length an1), .int .i64 a.rt.1, (.slice a2 a.rt.2.length an2), .int .i64 a.fr, .int .i64 a.to, (.slice a3 a.l.length an3)] 26)
  have HX1' := Lib.hid (And.intro (HX1.out.1.below hb) (And.intro (keepSt hb HX1.out.2.1) (keepBelow HX1.out.2.2 hb)))
  go_wp2_with fail
  refine (HLA.out _ _ _ HT1.out).mono ?_
  rintro e w2 ⟨rfl, hb⟩
  have HX2 := Lib.hid (And.intro (HX1'.out.1.below hb) (And.intro (keepSt hb HX1'.out.2.1) (keepBelow HX1'.out.2.2 hb)))
  clear A0 A1 A2 A3 A4 A5 A6 hbe
  obtain ⟨⟨⟨A0, A1, A2, A3, A4, A5, A6⟩, _⟩, _, hbe⟩ := HX2.out
  clear hb HT1
  obtain ⟨lg, hlg⟩ : ∃ g, anyL [(a, .slice a1 a.lf.2.length an1, .slice a2 a.rt.2.length an2, .slice a3 a.l.length an3)] = g := ⟨_, rfl⟩
  rw [hlg]
  clear hlg
  cases lg with
  | true =>
    go_wp2
    go_ret
    exact ⟨rfl, hbe⟩
  | false =>
  go_wp2_with fail
  refine (HNX.out _ HX2.out.2.1).mono ?_
  rintro e v1 ⟨rn, hrn, rfl, hb⟩
  have Hrn := Lib.hid hrn
  have HK1 := Lib.hid (And.intro (HX2.out.1.below hb) (And.intro (keepSt hb HX2.out.2.1) (keepBelow HX2.out.2.2 hb)))
  clear A0 A1 A2 A3 A4 A5 A6 hbe
  obtain ⟨⟨⟨A0, A1, A2, A3, A4, A5, A6⟩, _⟩, _, hbe⟩ := HK1.out
  clear hb hrn
  obtain ⟨n1, hn1⟩ : ∃ q, rn.getD 0 = q := ⟨_, rfl⟩
  obtain ⟨b1, hb1⟩ : ∃ q, rn.isSome = q := ⟨_, rfl⟩
  rw [hn1, hb1]
  have HN1 := Lib.hid (And.intro hn1 hb1)
  clear hn1 hb1

  go_wp2_with fail
  refine (HPV.out _ HK1.out.2.1).mono ?_
  rintro e v2 ⟨rp, hrp, rfl, hb⟩
  have Hrp := Lib.hid hrp
  have HK2 := Lib.hid (And.intro (HK1.out.1.below hb) (And.intro (keepSt hb HK1.out.2.1) (keepBelow HK1.out.2.2 hb)))
  clear A0 A1 A2 A3 A4 A5 A6 hbe
  obtain ⟨⟨⟨A0, A1, A2, A3, A4, A5, A6⟩, _⟩, _, hbe⟩ := HK2.out
  clear hb hrp
  obtain ⟨n2, hn2⟩ : ∃ q, rp.getD 0 = q := ⟨_, rfl⟩
  obtain ⟨b2, hb2⟩ : ∃ q, rp.isSome = q := ⟨_, rfl⟩
  rw [hn2, hb2]
  have HN2 := Lib.hid (And.intro hn2 hb2)
  clear hn2 hb2

  go_wp2_with fail
  refine (HCH.out _ HK2.out.2.1).mono ?_
  rintro e v3 ⟨rc, hrc, rfl, hb⟩
  have Hrc := Lib.hid hrc
  have HK3 := Lib.hid (And.intro (HK2.out.1.below hb) (And.intro (keepSt hb HK2.out.2.1) (keepBelow HK2.out.2.2 hb)))
  clear A0 A1 A2 A3 A4 A5 A6 hbe
  obtain ⟨⟨⟨A0, A1, A2, A3, A4, A5, A6⟩, _⟩, _, hbe⟩ := HK3.out
  clear hb hrc
  obtain ⟨n3, hn3⟩ : ∃ q, rc.getD 0 = q := ⟨_, rfl⟩
  obtain ⟨b3, hb3⟩ : ∃ q, rc.isSome = q := ⟨_, rfl⟩
  rw [hn3, hb3]
  have HN3 := Lib.hid (And.intro hn3 hb3)
  clear hn3 hb3

  go_wp2_with fail
  refine (HVR.out _ HK3.out.2.1).mono ?_
  rintro e w3 ⟨rfl, hb⟩
  have HX3 := Lib.hid (And.intro (HK3.out.1.below hb) (And.intro (keepSt hb HK3.out.2.1) (keepBelow HK3.out.2.2 hb)))
  clear A0 A1 A2 A3 A4 A5 A6 hbe
  obtain ⟨⟨⟨A0, A1, A2, A3, A4, A5, A6⟩, _⟩, _, hbe⟩ := HX3.out
  clear hb
  cases ga with
  | false =>
    have e1 : rn = none := by have := Hrn.out; unfold NeSpec at this; rwa [if_pos (.inr rfl)] at this
    have e2 : rp = none := by have := Hrp.out; unfold PvSpec at this; rwa [if_pos (.inr rfl)] at this
    have e3 : rc = none := by have := Hrc.out; unfold ChSpec at this; rwa [if_pos (.inr rfl)] at this
    subst e1 e2 e3
    obtain ⟨rfl, rfl⟩ := HN1.out
    obtain ⟨rfl, rfl⟩ := HN2.out
    obtain ⟨rfl, rfl⟩ := HN3.out
    go_wp2
    go_ret
    exact ⟨rfl, hbe⟩
  | true =>
  have K1 := Lib.hid (KNX.out rfl)
  have K2 := Lib.hid (KPV.out rfl)
  have K3 := Lib.hid (KCH.out rfl)
  go_wp2_with fail
  refine (K1.out _ HX3.out.2.1).mono ?_
  rintro e v4 ⟨rn2, hrn2, rfl, hb⟩
  have Hrn2 := Lib.hid hrn2
  have HK4 := Lib.hid (And.intro (HX3.out.1.below hb) (And.intro (keepSt hb HX3.out.2.1) (keepBelow HX3.out.2.2 hb)))
  clear A0 A1 A2 A3 A4 A5 A6 hbe
  obtain ⟨⟨⟨A0, A1, A2, A3, A4, A5, A6⟩, _⟩, _, hbe⟩ := HK4.out
  clear hb hrn2
  have he : rn2 = rn := neSpec_uniq Hrn2.out Hrn.out
  subst he
  rw [HN1.out.1, HN1.out.2]
  clear Hrn2

  go_wp2_with fail
  refine (K2.out _ HK4.out.2.1).mono ?_
  rintro e v5 ⟨rp2, hrp2, rfl, hb⟩
  have Hrp2 := Lib.hid hrp2
  have HK5 := Lib.hid (And.intro (HK4.out.1.below hb) (And.intro (keepSt hb HK4.out.2.1) (keepBelow HK4.out.2.2 hb)))
  clear A0 A1 A2 A3 A4 A5 A6 hbe
  obtain ⟨⟨⟨A0, A1, A2, A3, A4, A5, A6⟩, _⟩, _, hbe⟩ := HK5.out
  clear hb hrp2
  have he : rp2 = rp := pvSpec_uniq Hrp2.out Hrp.out
  subst he
  rw [HN2.out.1, HN2.out.2]
  clear Hrp2

  go_wp2_with fail
  refine (K3.out _ HK5.out.2.1).mono ?_
  rintro e v6 ⟨rc2, hrc2, rfl, hb⟩
  have Hrc2 := Lib.hid hrc2
  have HK6 := Lib.hid (And.intro (HK5.out.1.below hb) (And.intro (keepSt hb HK5.out.2.1) (keepBelow HK5.out.2.2 hb)))
  clear A0 A1 A2 A3 A4 A5 A6 hbe
  obtain ⟨⟨⟨A0, A1, A2, A3, A4, A5, A6⟩, _⟩, _, hbe⟩ := HK6.out
  clear hb hrc2
  have he : rc2 = rc := chSpec_uniq Hrc2.out Hrc.out
  subst he
  rw [HN3.out.1, HN3.out.2]
  clear Hrc2

  have t1 : (n1 == n1) = true := by simp
  have t2 : (n2 == n2) = true := by simp
  have t3 : (n3 == n3) = true := by simp
  have t4 : (b1 == b1) = true := by simp
  have t5 : (b2 == b2) = true := by simp
  have t6 : (b3 == b3) = true := by simp
  go_wp2
  go_ret
  exact ⟨rfl, hbe⟩
end Go.Proofs.YtnjpceocnldlfaaGreat
