import Derived.Test.YtnjpceocnldlfaaGreatWkPs
import Derived.Test.YtnjpceocnldlfaaGreatWkLF2
import Derived.Test.YtnjpceocnldlfaaGreatWkTpv
/- The law SetWalks. -/
namespace Go.Proofs.YtnjpceocnldlfaaGreat
open Go.RowKit Wk
namespace Wk
theorem walk_c {h : Int → Bool} {x c : Int} {q : Option Int} (hq : NextC h x q) (he : some c = onLine q) : (x < c ∧ c ≤ 4398046511104) ∧ h (c - 1) = h x ∧ h c = !(h x) ∧ ∀ y, x ≤ y → y < c → h y = h x := by
  cases q with
  | none => simp [onLine] at he
  | some y =>
    unfold onLine at he
    simp only at he
    split at he
    · simp at he
    · cases he
      obtain ⟨h1, h2, h3, h4⟩ := wlk_next_facts hq
      exact ⟨⟨h1, by omega⟩, h2, h3, h4⟩
theorem walk_c0 {h : Int → Bool} {x y : Int} {q : Option Int} (hq : NextC h x q) (he : none = onLine q) (h1 : x ≤ y) (h2 : y ≤ 4398046511104) : h y = h x := by
  cases q with
  | none => exact wlk_next_none hq y h1
  | some c =>
    unfold onLine at he
    simp only at he
    split at he
    · exact (wlk_next_facts hq).2.2.2 y h1 (by omega)
    · simp at he
theorem walk_n {h : Int → Bool} {x n y : Int} {q : Option Int} (hx : h x = false) (hq : NextC h x q) (he : some n = onLine q) : (x ≤ n ∧ n ≤ 4398046511104) ∧ h n = true ∧ (h y = true → x ≤ y → n ≤ y) := by
  obtain ⟨⟨h1, h2⟩, h3, h4, h5⟩ := walk_c hq he
  refine ⟨⟨by omega, h2⟩, by rw [h4, hx]; rfl, fun hy hxy => ?_⟩
  rcases Int.lt_or_le y n with h | h
  · have := h5 y hxy h
    rw [hy, hx] at this
    cases this
  · exact h
theorem walk_p {h : Int → Bool} {x p y : Int} {q : Option Int} (hx : h x = false) (hq : PrevC h x q) (he : some p = onLineP q) : (p ≤ x ∧ -4398046511104 ≤ p) ∧ h p = true ∧ (h y = true → y ≤ x → y ≤ p) := by
  cases q with
  | none => simp [onLineP] at he
  | some c =>
    unfold onLineP at he
    simp only at he
    split at he
    · simp at he
    · cases he
      obtain ⟨h1, h2, h3⟩ := wlk_prev_facts hq
      refine ⟨⟨by omega, by omega⟩, by rw [h2, hx]; rfl, fun hy hxy => ?_⟩
      rcases Int.lt_or_le (c - 1) y with h | h
      · have := h3 y (by omega) hxy
        rw [hy, hx] at this
        cases this
      · exact h
theorem walk_p0 {h : Int → Bool} {x y : Int} {q : Option Int} (hx : h x = false) (hq : PrevC h x q) (he : none = onLineP q) (h1 : y ≤ x) (h2 : -4398046511104 ≤ y) : h y = false := by
  cases q with
  | none => rw [wlk_prev_none hq y h1, hx]
  | some c =>
    unfold onLineP at he
    simp only at he
    split at he
    · rw [(wlk_prev_facts hq).2.2 y (by omega) h1, hx]
    · simp at he
end Wk

set_option maxRecDepth 100000 in
set_option maxHeartbeats 16000000 in
theorem law_SetWalks (a : St) (al ar av : Value) (x nr : Int) (w : World) (ha : RdSt w a al ar av) (hn1 : 0 ≤ nr) (hn2 : nr ≤ 255) :
    Calls Tryz.prog 9 #[.agg #[.int .i64 a.lf.1, al, .int .i64 a.rt.1, ar, .int .i64 a.fr, .int .i64 a.to, av], .int .i64 x, .int .u8 nr] w fun e w' => e = .returned (.bool true) ∧ Below w.heap.size w w' := by
  have HAW := Lib.hid (fun W => awake14_any W)
  have HLA := Lib.hid (fun v L W h => large14_any v L W h)
  have HVR := Lib.hid (fun W h => valid14_any a al ar av W h)
  have HHS0 := Lib.hid (fun z W h h1 h2 => thas_any a al ar av z W h h1 h2)
  have HCH := Lib.hid (fun W h => tchange_any a al ar av x W h)
  have HNX := Lib.hid (fun W h => tnext_any a al ar av x W h)
  have HPV := Lib.hid (fun W h => tprev_any a al ar av x W h)
  have HRA := Lib.hid ha
  obtain ⟨a1, an1, e1⟩ := ha.1.form
  obtain ⟨a2, an2, e2⟩ := ha.2.1.form
  obtain ⟨a3, an3, e3⟩ := ha.2.2.form
  subst e1 e2 e3
  clear ha
  obtain ⟨W, hWe⟩ : ∃ W, w.alloc (.cells #[.int .i64 a.lf.1, (.slice a1 a.lf.2.length an1), .int .i64 a.rt.1, (.slice a2 a.rt.2.length an2), .int .i64 a.fr, .int .i64 a.to, (.slice a3 a.l.length an3)] 26) = W := ⟨_, rfl⟩
  have hW : Below w.heap.size w W := by rw [← hWe]; exact (Below.refl _ w).alloc (Nat.le_refl _) _
  have HX : Hid (Set7 W w.heap.size (.int .i64 a.lf.1) (.slice a1 a.lf.2.length an1) (.int .i64 a.rt.1) (.slice a2 a.rt.2.length an2) (.int .i64 a.fr) (.int .i64 a.to) (.slice a3 a.l.length an3) ∧ RdSt W a (.slice a1 a.lf.2.length an1) (.slice a2 a.rt.2.length an2) (.slice a3 a.l.length an3) ∧ Below w.heap.size w W) := by
    refine ⟨?_, keepSt hW HRA.out, hW⟩
    rw [← hWe]
    refine ⟨⟨?_, ?_, ?_, ?_, ?_, ?_, ?_⟩, ?_, ?_, ?_, ?_, ?_, ?_, ?_⟩ <;> simp [go_sem]
  have HE := Lib.hid hWe
  clear hWe hW
  obtain ⟨ga, hga⟩ : ∃ g, VB a = g := ⟨_, rfl⟩
  rw [hga] at HVR HCH HNX HPV HHS0
  clear hga
  obtain ⟨⟨⟨A0, A1, A2, A3, A4, A5, A6⟩, _⟩, _, hbe⟩ := HX.out
  go_enter Tryz.func9, Tryz.ntmps9
  go_wp2_with fail
  rw [HE.out]
  go_wp2_with fail
  refine (HAW.out _).mono ?_
  rintro e w1 ⟨rfl, hb⟩
  have HX1 := Lib.hid (And.intro (HX.out.1.below hb) (And.intro (keepSt hb HX.out.2.1) (keepBelow HX.out.2.2 hb)))
  clear A0 A1 A2 A3 A4 A5 A6 hbe
  obtain ⟨⟨⟨A0, A1, A2, A3, A4, A5, A6⟩, _⟩, _, hbe⟩ := HX1.out
  clear hb
  have HT1 := Lib.hid (rdT_one HX1.out.2.1)
  have hb := (Below.refl w1.heap.size w1).alloc (Nat.le_refl _) (.cells #[.int .i64 a.lf.1, (.slice a1 a.lf.2.length an1), .int .i64 a.rt.1, (.slice a2 a.rt.2.length an2), .int .i64 a.fr, .int .i64 a.to, (.slice a3 a.l.length an3)] 26)
  have HX1' := Lib.hid (And.intro (HX1.out.1.below hb) (And.intro (keepSt hb HX1.out.2.1) (keepBelow HX1.out.2.2 hb)))
  go_wp2_with fail
  refine (HLA.out _ _ _ HT1.out).mono ?_
  rintro e w2 ⟨rfl, hb⟩
  have HX2 := Lib.hid (And.intro (HX1'.out.1.below hb) (And.intro (keepSt hb HX1'.out.2.1) (keepBelow HX1'.out.2.2 hb)))
  clear A0 A1 A2 A3 A4 A5 A6 hbe
  obtain ⟨⟨⟨A0, A1, A2, A3, A4, A5, A6⟩, _⟩, _, hbe⟩ := HX2.out
  clear hb HT1
  obtain ⟨lg, hlg⟩ : ∃ g, anyL [(a, .slice a1 a.lf.2.length an1, .slice a2 a.rt.2.length an2, .slice a3 a.l.length an3)] = g := ⟨_, rfl⟩
  rw [hlg]
  clear hlg
  cases lg with
  | true =>
    go_wp2
    go_ret
    exact ⟨rfl, hbe⟩
  | false =>
  go_wp2_with fail
  refine (HVR.out _ HX2.out.2.1).mono ?_
  rintro e w3 ⟨rfl, hb⟩
  have HX3 := Lib.hid (And.intro (HX2.out.1.below hb) (And.intro (keepSt hb HX2.out.2.1) (keepBelow HX2.out.2.2 hb)))
  clear A0 A1 A2 A3 A4 A5 A6 hbe
  obtain ⟨⟨⟨A0, A1, A2, A3, A4, A5, A6⟩, _⟩, _, hbe⟩ := HX3.out
  clear hb
  cases ga with
  | false =>
    go_wp2
    go_ret
    exact ⟨rfl, hbe⟩
  | true =>
  cases tx1 : decide (x < -10000) with
  | true =>
    go_wp2
    go_ret
    exact ⟨rfl, hbe⟩
  | false =>
  cases tx2 : decide (10000 < x) with
  | true =>
    go_wp2
    go_ret
    exact ⟨rfl, hbe⟩
  | false =>
  have hx1 : -10000 ≤ x := by simpa using tx1
  have hx2 : x ≤ 10000 := by simpa using tx2
  have HOL : Hid (¬ (lineB x = false ∨ true = false)) := by
    have : lineB x = true := (lineB_iff x).2 ⟨by omega, by omega⟩
    unfold Hid
    rw [this]
    simp
  have HHS : Hid (∀ z b, hasS a z = b → -1152921504606846976 ≤ z → z ≤ 1152921504606846976 → ∀ W, RdSt W a (.slice a1 a.lf.2.length an1) (.slice a2 a.rt.2.length an2) (.slice a3 a.l.length an3) → Calls Tryz.prog 21 #[.agg #[.int .i64 a.lf.1, (.slice a1 a.lf.2.length an1), .int .i64 a.rt.1, (.slice a2 a.rt.2.length an2), .int .i64 a.fr, .int .i64 a.to, (.slice a3 a.l.length an3)], .int .i64 z] W fun e w' => e = .returned (.bool b) ∧ Below W.heap.size W w') := by
    intro z b hb h1 h2 W h
    have := HHS0.out z W h h1 h2
    rw [hb] at this
    simpa using this
  clear HHS0
  have u1 : IntKind.i64.wrap nr = nr := by rw [IntKind.wrap_i64]; omega
  have u2 : IntKind.i64.wrap (x + nr) = x + nr := by rw [IntKind.wrap_i64]; omega
  have u3 : IntKind.i64.wrap (x - nr) = x - nr := by rw [IntKind.wrap_i64]; omega
  cases hin : hasS a x with
  | true =>
    have HIN := Lib.hid hin
    clear hin
    have HQ1 := Lib.hid (HHS.out (x) _ HIN.out (by omega) (by omega))
    go_wp2_with fail
    refine (HQ1.out _ HX3.out.2.1).mono ?_
    rintro e v1 ⟨rfl, hb⟩
    have HK1 := Lib.hid (And.intro (HX3.out.1.below hb) (And.intro (keepSt hb HX3.out.2.1) (keepBelow HX3.out.2.2 hb)))
    clear A0 A1 A2 A3 A4 A5 A6 hbe
    obtain ⟨⟨⟨A0, A1, A2, A3, A4, A5, A6⟩, _⟩, _, hbe⟩ := HK1.out
    clear hb HQ1
    go_wp2_with fail
    refine (HCH.out _ HK1.out.2.1).mono ?_
    rintro e v2 ⟨rc, hrc, rfl, hb⟩
    have Hrc := Lib.hid hrc
    have HK2 := Lib.hid (And.intro (HK1.out.1.below hb) (And.intro (keepSt hb HK1.out.2.1) (keepBelow HK1.out.2.2 hb)))
    clear A0 A1 A2 A3 A4 A5 A6 hbe
    obtain ⟨⟨⟨A0, A1, A2, A3, A4, A5, A6⟩, _⟩, _, hbe⟩ := HK2.out
    clear hb hrc
    have HC1 : Hid (∃ q, NextC (hasS a) x q ∧ rc = onLine q) := by have := Hrc.out; unfold ChSpec at this; rwa [if_neg HOL.out] at this
    clear Hrc
    cases rc with
    | none =>
      have HCY : Hid (hasS a (x + nr) = true) := by
        obtain ⟨q, hq, he⟩ := HC1.out
        exact (walk_c0 hq he (by omega) (by omega)).trans HIN.out
      have HQ3 := Lib.hid (HHS.out (x + nr) _ HCY.out (by omega) (by omega))
      go_wp2_with fail
      refine (HQ3.out _ HK2.out.2.1).mono ?_
      rintro e v3 ⟨rfl, hb⟩
      have HK3 := Lib.hid (And.intro (HK2.out.1.below hb) (And.intro (keepSt hb HK2.out.2.1) (keepBelow HK2.out.2.2 hb)))
      clear A0 A1 A2 A3 A4 A5 A6 hbe
      obtain ⟨⟨⟨A0, A1, A2, A3, A4, A5, A6⟩, _⟩, _, hbe⟩ := HK3.out
      clear hb HQ3

      go_wp2_with fail
      refine (HNX.out _ HK3.out.2.1).mono ?_
      rintro e v4 ⟨rn, hrn, rfl, hb⟩
      have Hrn := Lib.hid hrn
      have HK4 := Lib.hid (And.intro (HK3.out.1.below hb) (And.intro (keepSt hb HK3.out.2.1) (keepBelow HK3.out.2.2 hb)))
      clear A0 A1 A2 A3 A4 A5 A6 hbe
      obtain ⟨⟨⟨A0, A1, A2, A3, A4, A5, A6⟩, _⟩, _, hbe⟩ := HK4.out
      clear hb hrn
      have hrx : rn = some x := by have := Hrn.out; unfold NeSpec at this; rwa [if_neg HOL.out, if_pos HIN.out] at this
      subst hrx
      go_wp2_with fail
      refine (HPV.out _ HK4.out.2.1).mono ?_
      rintro e v5 ⟨rp, hrp, rfl, hb⟩
      have Hrp := Lib.hid hrp
      have HK5 := Lib.hid (And.intro (HK4.out.1.below hb) (And.intro (keepSt hb HK4.out.2.1) (keepBelow HK4.out.2.2 hb)))
      clear A0 A1 A2 A3 A4 A5 A6 hbe
      obtain ⟨⟨⟨A0, A1, A2, A3, A4, A5, A6⟩, _⟩, _, hbe⟩ := HK5.out
      clear hb hrp
      have hrx : rp = some x := by have := Hrp.out; unfold PvSpec at this; rwa [if_neg HOL.out, if_pos HIN.out] at this
      subst hrx
      clear Hrn Hrp
      have t1 : decide (x < x) = false := by simp
      have t2 : (x != x) = false := by simp
      have HQ6 := Lib.hid (HHS.out (x) _ HIN.out (by omega) (by omega))
      go_wp2_with fail
      refine (HQ6.out _ HK5.out.2.1).mono ?_
      rintro e v6 ⟨rfl, hb⟩
      have HK6 := Lib.hid (And.intro (HK5.out.1.below hb) (And.intro (keepSt hb HK5.out.2.1) (keepBelow HK5.out.2.2 hb)))
      clear A0 A1 A2 A3 A4 A5 A6 hbe
      obtain ⟨⟨⟨A0, A1, A2, A3, A4, A5, A6⟩, _⟩, _, hbe⟩ := HK6.out
      clear hb HQ6
      have HQ7 := Lib.hid (HHS.out (x) _ HIN.out (by omega) (by omega))
      go_wp2_with fail
      refine (HQ7.out _ HK6.out.2.1).mono ?_
      rintro e v7 ⟨rfl, hb⟩
      have HK7 := Lib.hid (And.intro (HK6.out.1.below hb) (And.intro (keepSt hb HK6.out.2.1) (keepBelow HK6.out.2.2 hb)))
      clear A0 A1 A2 A3 A4 A5 A6 hbe
      obtain ⟨⟨⟨A0, A1, A2, A3, A4, A5, A6⟩, _⟩, _, hbe⟩ := HK7.out
      clear hb HQ7
      cases hy1 : hasS a (x + nr) with
      | true =>
        have HY1 := Lib.hid hy1
        have t7 : decide (x + nr < x) = false := by simp; omega
        clear hy1
        have HQ8 := Lib.hid (HHS.out (x + nr) _ HY1.out (by omega) (by omega))
        go_wp2_with fail
        refine (HQ8.out _ HK7.out.2.1).mono ?_
        rintro e v8 ⟨rfl, hb⟩
        have HK8 := Lib.hid (And.intro (HK7.out.1.below hb) (And.intro (keepSt hb HK7.out.2.1) (keepBelow HK7.out.2.2 hb)))
        clear A0 A1 A2 A3 A4 A5 A6 hbe
        obtain ⟨⟨⟨A0, A1, A2, A3, A4, A5, A6⟩, _⟩, _, hbe⟩ := HK8.out
        clear hb HQ8
        cases hy2 : hasS a (x - nr) with
        | true =>
          have HY2 := Lib.hid hy2
          have t8 : decide (x - nr ≤ x) = true := by simp; omega
          clear hy2
          have HQ9 := Lib.hid (HHS.out (x - nr) _ HY2.out (by omega) (by omega))
          go_wp2_with fail
          refine (HQ9.out _ HK8.out.2.1).mono ?_
          rintro e v9 ⟨rfl, hb⟩
          have HK9 := Lib.hid (And.intro (HK8.out.1.below hb) (And.intro (keepSt hb HK8.out.2.1) (keepBelow HK8.out.2.2 hb)))
          clear A0 A1 A2 A3 A4 A5 A6 hbe
          obtain ⟨⟨⟨A0, A1, A2, A3, A4, A5, A6⟩, _⟩, _, hbe⟩ := HK9.out
          clear hb HQ9
          go_wp2
          go_ret
          exact ⟨rfl, hbe⟩
        | false =>
          have HY2 := Lib.hid hy2
          clear hy2
          have HQ10 := Lib.hid (HHS.out (x - nr) _ HY2.out (by omega) (by omega))
          go_wp2_with fail
          refine (HQ10.out _ HK8.out.2.1).mono ?_
          rintro e v10 ⟨rfl, hb⟩
          have HK10 := Lib.hid (And.intro (HK8.out.1.below hb) (And.intro (keepSt hb HK8.out.2.1) (keepBelow HK8.out.2.2 hb)))
          clear A0 A1 A2 A3 A4 A5 A6 hbe
          obtain ⟨⟨⟨A0, A1, A2, A3, A4, A5, A6⟩, _⟩, _, hbe⟩ := HK10.out
          clear hb HQ10
          go_wp2
          go_ret
          exact ⟨rfl, hbe⟩

      | false =>
        have HY1 := Lib.hid hy1
        clear hy1
        have HQ11 := Lib.hid (HHS.out (x + nr) _ HY1.out (by omega) (by omega))
        go_wp2_with fail
        refine (HQ11.out _ HK7.out.2.1).mono ?_
        rintro e v11 ⟨rfl, hb⟩
        have HK11 := Lib.hid (And.intro (HK7.out.1.below hb) (And.intro (keepSt hb HK7.out.2.1) (keepBelow HK7.out.2.2 hb)))
        clear A0 A1 A2 A3 A4 A5 A6 hbe
        obtain ⟨⟨⟨A0, A1, A2, A3, A4, A5, A6⟩, _⟩, _, hbe⟩ := HK11.out
        clear hb HQ11
        cases hy2 : hasS a (x - nr) with
        | true =>
          have HY2 := Lib.hid hy2
          have t8 : decide (x - nr ≤ x) = true := by simp; omega
          clear hy2
          have HQ12 := Lib.hid (HHS.out (x - nr) _ HY2.out (by omega) (by omega))
          go_wp2_with fail
          refine (HQ12.out _ HK11.out.2.1).mono ?_
          rintro e v12 ⟨rfl, hb⟩
          have HK12 := Lib.hid (And.intro (HK11.out.1.below hb) (And.intro (keepSt hb HK11.out.2.1) (keepBelow HK11.out.2.2 hb)))
          clear A0 A1 A2 A3 A4 A5 A6 hbe
          obtain ⟨⟨⟨A0, A1, A2, A3, A4, A5, A6⟩, _⟩, _, hbe⟩ := HK12.out
          clear hb HQ12
          go_wp2
          go_ret
          exact ⟨rfl, hbe⟩
        | false =>
          have HY2 := Lib.hid hy2
          clear hy2
          have HQ13 := Lib.hid (HHS.out (x - nr) _ HY2.out (by omega) (by omega))
          go_wp2_with fail
          refine (HQ13.out _ HK11.out.2.1).mono ?_
          rintro e v13 ⟨rfl, hb⟩
          have HK13 := Lib.hid (And.intro (HK11.out.1.below hb) (And.intro (keepSt hb HK11.out.2.1) (keepBelow HK11.out.2.2 hb)))
          clear A0 A1 A2 A3 A4 A5 A6 hbe
          obtain ⟨⟨⟨A0, A1, A2, A3, A4, A5, A6⟩, _⟩, _, hbe⟩ := HK13.out
          clear hb HQ13
          go_wp2
          go_ret
          exact ⟨rfl, hbe⟩

    | some c =>
      have hcf : (x < c ∧ c ≤ 4398046511104) ∧ hasS a (c - 1) = hasS a x ∧ hasS a c = !(hasS a x) ∧ ∀ y, x ≤ y → y < c → hasS a y = hasS a x := by
        obtain ⟨q, hq, he⟩ := HC1.out
        exact walk_c hq he
      have hcb := hcf.1
      have HC2 : Hid (hasS a (c - 1) = true) := hcf.2.1.trans HIN.out
      have HC3 : Hid (hasS a c = false) := by have := hcf.2.2.1; rw [HIN.out] at this; exact this
      have HC4 := Lib.hid hcf.2.2.2
      clear hcf
      have t5 : decide (c ≤ x) = false := by simp; omega
      have s1 : IntKind.i64.wrap (c - 1) = c - 1 := by rw [IntKind.wrap_i64]; omega
      have s2 : IntKind.i64.wrap (c - x) = c - x := by rw [IntKind.wrap_i64]; omega
      have HQ14 := Lib.hid (HHS.out (c - 1) _ HC2.out (by omega) (by omega))
      go_wp2_with fail
      refine (HQ14.out _ HK2.out.2.1).mono ?_
      rintro e v14 ⟨rfl, hb⟩
      have HK14 := Lib.hid (And.intro (HK2.out.1.below hb) (And.intro (keepSt hb HK2.out.2.1) (keepBelow HK2.out.2.2 hb)))
      clear A0 A1 A2 A3 A4 A5 A6 hbe
      obtain ⟨⟨⟨A0, A1, A2, A3, A4, A5, A6⟩, _⟩, _, hbe⟩ := HK14.out
      clear hb HQ14

      have HQ15 := Lib.hid (HHS.out (c) _ HC3.out (by omega) (by omega))
      go_wp2_with fail
      refine (HQ15.out _ HK14.out.2.1).mono ?_
      rintro e v15 ⟨rfl, hb⟩
      have HK15 := Lib.hid (And.intro (HK14.out.1.below hb) (And.intro (keepSt hb HK14.out.2.1) (keepBelow HK14.out.2.2 hb)))
      clear A0 A1 A2 A3 A4 A5 A6 hbe
      obtain ⟨⟨⟨A0, A1, A2, A3, A4, A5, A6⟩, _⟩, _, hbe⟩ := HK15.out
      clear hb HQ15

      obtain ⟨m, hm⟩ : ∃ m, min (c - x) 256 = m := ⟨_, rfl⟩
      have hm1 : 1 ≤ m := by omega
      have hm2 : m ≤ c - x := by omega
      have hm3 : m ≤ 256 := by omega
      have e0 := Int.emod_nonneg nr (b := m) (by omega)
      have e1 := Int.emod_lt_of_pos nr (b := m) (by omega)
      have e2 : Int.tmod nr m = nr % m := Int.tmod_eq_emod_of_nonneg (by omega)
      have HMM := Lib.hid hm
      obtain ⟨k, hk⟩ : ∃ k, nr % m = k := ⟨_, rfl⟩
      rw [hk] at e0 e1 e2
      have z1 : (m == 0) = false := by simp; omega
      have z2 : (m == -1) = false := by simp; omega
      have s3 : IntKind.i64.wrap k = k := by rw [IntKind.wrap_i64]; omega
      have s4 : IntKind.i64.wrap (x + k) = x + k := by rw [IntKind.wrap_i64]; omega
      have HC5 : Hid (hasS a (x + k) = true) := (HC4.out (x + k) (by omega) (by omega)).trans HIN.out
      have HQ16 := Lib.hid (HHS.out (x + k) _ HC5.out (by omega) (by omega))
      go_wp2_with fail
      refine (HQ16.out _ HK15.out.2.1).mono ?_
      rintro e v16 ⟨rfl, hb⟩
      have HK16 := Lib.hid (And.intro (HK15.out.1.below hb) (And.intro (keepSt hb HK15.out.2.1) (keepBelow HK15.out.2.2 hb)))
      clear A0 A1 A2 A3 A4 A5 A6 hbe
      obtain ⟨⟨⟨A0, A1, A2, A3, A4, A5, A6⟩, _⟩, _, hbe⟩ := HK16.out
      clear hb HQ16

      clear hm
      go_wp2_with fail
      refine (HNX.out _ HK16.out.2.1).mono ?_
      rintro e v17 ⟨rn, hrn, rfl, hb⟩
      have Hrn := Lib.hid hrn
      have HK17 := Lib.hid (And.intro (HK16.out.1.below hb) (And.intro (keepSt hb HK16.out.2.1) (keepBelow HK16.out.2.2 hb)))
      clear A0 A1 A2 A3 A4 A5 A6 hbe
      obtain ⟨⟨⟨A0, A1, A2, A3, A4, A5, A6⟩, _⟩, _, hbe⟩ := HK17.out
      clear hb hrn
      have hrx : rn = some x := by have := Hrn.out; unfold NeSpec at this; rwa [if_neg HOL.out, if_pos HIN.out] at this
      subst hrx
      go_wp2_with fail
      refine (HPV.out _ HK17.out.2.1).mono ?_
      rintro e v18 ⟨rp, hrp, rfl, hb⟩
      have Hrp := Lib.hid hrp
      have HK18 := Lib.hid (And.intro (HK17.out.1.below hb) (And.intro (keepSt hb HK17.out.2.1) (keepBelow HK17.out.2.2 hb)))
      clear A0 A1 A2 A3 A4 A5 A6 hbe
      obtain ⟨⟨⟨A0, A1, A2, A3, A4, A5, A6⟩, _⟩, _, hbe⟩ := HK18.out
      clear hb hrp
      have hrx : rp = some x := by have := Hrp.out; unfold PvSpec at this; rwa [if_neg HOL.out, if_pos HIN.out] at this
      subst hrx
      clear Hrn Hrp
      have t1 : decide (x < x) = false := by simp
      have t2 : (x != x) = false := by simp
      have HQ19 := Lib.hid (HHS.out (x) _ HIN.out (by omega) (by omega))
      go_wp2_with fail
      refine (HQ19.out _ HK18.out.2.1).mono ?_
      rintro e v19 ⟨rfl, hb⟩
      have HK19 := Lib.hid (And.intro (HK18.out.1.below hb) (And.intro (keepSt hb HK18.out.2.1) (keepBelow HK18.out.2.2 hb)))
      clear A0 A1 A2 A3 A4 A5 A6 hbe
      obtain ⟨⟨⟨A0, A1, A2, A3, A4, A5, A6⟩, _⟩, _, hbe⟩ := HK19.out
      clear hb HQ19
      have HQ20 := Lib.hid (HHS.out (x) _ HIN.out (by omega) (by omega))
      go_wp2_with fail
      refine (HQ20.out _ HK19.out.2.1).mono ?_
      rintro e v20 ⟨rfl, hb⟩
      have HK20 := Lib.hid (And.intro (HK19.out.1.below hb) (And.intro (keepSt hb HK19.out.2.1) (keepBelow HK19.out.2.2 hb)))
      clear A0 A1 A2 A3 A4 A5 A6 hbe
      obtain ⟨⟨⟨A0, A1, A2, A3, A4, A5, A6⟩, _⟩, _, hbe⟩ := HK20.out
      clear hb HQ20
      cases hy1 : hasS a (x + nr) with
      | true =>
        have HY1 := Lib.hid hy1
        have t7 : decide (x + nr < x) = false := by simp; omega
        clear hy1
        have HQ21 := Lib.hid (HHS.out (x + nr) _ HY1.out (by omega) (by omega))
        go_wp2_with fail
        refine (HQ21.out _ HK20.out.2.1).mono ?_
        rintro e v21 ⟨rfl, hb⟩
        have HK21 := Lib.hid (And.intro (HK20.out.1.below hb) (And.intro (keepSt hb HK20.out.2.1) (keepBelow HK20.out.2.2 hb)))
        clear A0 A1 A2 A3 A4 A5 A6 hbe
        obtain ⟨⟨⟨A0, A1, A2, A3, A4, A5, A6⟩, _⟩, _, hbe⟩ := HK21.out
        clear hb HQ21
        cases hy2 : hasS a (x - nr) with
        | true =>
          have HY2 := Lib.hid hy2
          have t8 : decide (x - nr ≤ x) = true := by simp; omega
          clear hy2
          have HQ22 := Lib.hid (HHS.out (x - nr) _ HY2.out (by omega) (by omega))
          go_wp2_with fail
          refine (HQ22.out _ HK21.out.2.1).mono ?_
          rintro e v22 ⟨rfl, hb⟩
          have HK22 := Lib.hid (And.intro (HK21.out.1.below hb) (And.intro (keepSt hb HK21.out.2.1) (keepBelow HK21.out.2.2 hb)))
          clear A0 A1 A2 A3 A4 A5 A6 hbe
          obtain ⟨⟨⟨A0, A1, A2, A3, A4, A5, A6⟩, _⟩, _, hbe⟩ := HK22.out
          clear hb HQ22
          go_wp2
          go_ret
          exact ⟨rfl, hbe⟩
        | false =>
          have HY2 := Lib.hid hy2
          clear hy2
          have HQ23 := Lib.hid (HHS.out (x - nr) _ HY2.out (by omega) (by omega))
          go_wp2_with fail
          refine (HQ23.out _ HK21.out.2.1).mono ?_
          rintro e v23 ⟨rfl, hb⟩
          have HK23 := Lib.hid (And.intro (HK21.out.1.below hb) (And.intro (keepSt hb HK21.out.2.1) (keepBelow HK21.out.2.2 hb)))
          clear A0 A1 A2 A3 A4 A5 A6 hbe
          obtain ⟨⟨⟨A0, A1, A2, A3, A4, A5, A6⟩, _⟩, _, hbe⟩ := HK23.out
          clear hb HQ23
          go_wp2
          go_ret
          exact ⟨rfl, hbe⟩

      | false =>
        have HY1 := Lib.hid hy1
        clear hy1
        have HQ24 := Lib.hid (HHS.out (x + nr) _ HY1.out (by omega) (by omega))
        go_wp2_with fail
        refine (HQ24.out _ HK20.out.2.1).mono ?_
        rintro e v24 ⟨rfl, hb⟩
        have HK24 := Lib.hid (And.intro (HK20.out.1.below hb) (And.intro (keepSt hb HK20.out.2.1) (keepBelow HK20.out.2.2 hb)))
        clear A0 A1 A2 A3 A4 A5 A6 hbe
        obtain ⟨⟨⟨A0, A1, A2, A3, A4, A5, A6⟩, _⟩, _, hbe⟩ := HK24.out
        clear hb HQ24
        cases hy2 : hasS a (x - nr) with
        | true =>
          have HY2 := Lib.hid hy2
          have t8 : decide (x - nr ≤ x) = true := by simp; omega
          clear hy2
          have HQ25 := Lib.hid (HHS.out (x - nr) _ HY2.out (by omega) (by omega))
          go_wp2_with fail
          refine (HQ25.out _ HK24.out.2.1).mono ?_
          rintro e v25 ⟨rfl, hb⟩
          have HK25 := Lib.hid (And.intro (HK24.out.1.below hb) (And.intro (keepSt hb HK24.out.2.1) (keepBelow HK24.out.2.2 hb)))
          clear A0 A1 A2 A3 A4 A5 A6 hbe
          obtain ⟨⟨⟨A0, A1, A2, A3, A4, A5, A6⟩, _⟩, _, hbe⟩ := HK25.out
          clear hb HQ25
          go_wp2
          go_ret
          exact ⟨rfl, hbe⟩
        | false =>
          have HY2 := Lib.hid hy2
          clear hy2
          have HQ26 := Lib.hid (HHS.out (x - nr) _ HY2.out (by omega) (by omega))
          go_wp2_with fail
          refine (HQ26.out _ HK24.out.2.1).mono ?_
          rintro e v26 ⟨rfl, hb⟩
          have HK26 := Lib.hid (And.intro (HK24.out.1.below hb) (And.intro (keepSt hb HK24.out.2.1) (keepBelow HK24.out.2.2 hb)))
          clear A0 A1 A2 A3 A4 A5 A6 hbe
          obtain ⟨⟨⟨A0, A1, A2, A3, A4, A5, A6⟩, _⟩, _, hbe⟩ := HK26.out
          clear hb HQ26
          go_wp2
          go_ret
          exact ⟨rfl, hbe⟩

  | false =>
    have HIN := Lib.hid hin
    clear hin
    have HQ27 := Lib.hid (HHS.out (x) _ HIN.out (by omega) (by omega))
    go_wp2_with fail
    refine (HQ27.out _ HX3.out.2.1).mono ?_
    rintro e v27 ⟨rfl, hb⟩
    have HK27 := Lib.hid (And.intro (HX3.out.1.below hb) (And.intro (keepSt hb HX3.out.2.1) (keepBelow HX3.out.2.2 hb)))
    clear A0 A1 A2 A3 A4 A5 A6 hbe
    obtain ⟨⟨⟨A0, A1, A2, A3, A4, A5, A6⟩, _⟩, _, hbe⟩ := HK27.out
    clear hb HQ27
    go_wp2_with fail
    refine (HCH.out _ HK27.out.2.1).mono ?_
    rintro e v28 ⟨rc, hrc, rfl, hb⟩
    have Hrc := Lib.hid hrc
    have HK28 := Lib.hid (And.intro (HK27.out.1.below hb) (And.intro (keepSt hb HK27.out.2.1) (keepBelow HK27.out.2.2 hb)))
    clear A0 A1 A2 A3 A4 A5 A6 hbe
    obtain ⟨⟨⟨A0, A1, A2, A3, A4, A5, A6⟩, _⟩, _, hbe⟩ := HK28.out
    clear hb hrc
    have HC1 : Hid (∃ q, NextC (hasS a) x q ∧ rc = onLine q) := by have := Hrc.out; unfold ChSpec at this; rwa [if_neg HOL.out] at this
    clear Hrc
    cases rc with
    | none =>
      have HCY : Hid (hasS a (x + nr) = false) := by
        obtain ⟨q, hq, he⟩ := HC1.out
        exact (walk_c0 hq he (by omega) (by omega)).trans HIN.out
      have HQ29 := Lib.hid (HHS.out (x + nr) _ HCY.out (by omega) (by omega))
      go_wp2_with fail
      refine (HQ29.out _ HK28.out.2.1).mono ?_
      rintro e v29 ⟨rfl, hb⟩
      have HK29 := Lib.hid (And.intro (HK28.out.1.below hb) (And.intro (keepSt hb HK28.out.2.1) (keepBelow HK28.out.2.2 hb)))
      clear A0 A1 A2 A3 A4 A5 A6 hbe
      obtain ⟨⟨⟨A0, A1, A2, A3, A4, A5, A6⟩, _⟩, _, hbe⟩ := HK29.out
      clear hb HQ29

      go_wp2_with fail
      refine (HNX.out _ HK29.out.2.1).mono ?_
      rintro e v30 ⟨rn, hrn, rfl, hb⟩
      have Hrn := Lib.hid hrn
      have HK30 := Lib.hid (And.intro (HK29.out.1.below hb) (And.intro (keepSt hb HK29.out.2.1) (keepBelow HK29.out.2.2 hb)))
      clear A0 A1 A2 A3 A4 A5 A6 hbe
      obtain ⟨⟨⟨A0, A1, A2, A3, A4, A5, A6⟩, _⟩, _, hbe⟩ := HK30.out
      clear hb hrn
      have HN1 : Hid (∃ q, NextC (hasS a) x q ∧ rn = onLine q) := by have := Hrn.out; unfold NeSpec at this; rwa [if_neg HOL.out, if_neg (by rw [HIN.out]; simp)] at this
      go_wp2_with fail
      refine (HPV.out _ HK30.out.2.1).mono ?_
      rintro e v31 ⟨rp, hrp, rfl, hb⟩
      have Hrp := Lib.hid hrp
      have HK31 := Lib.hid (And.intro (HK30.out.1.below hb) (And.intro (keepSt hb HK30.out.2.1) (keepBelow HK30.out.2.2 hb)))
      clear A0 A1 A2 A3 A4 A5 A6 hbe
      obtain ⟨⟨⟨A0, A1, A2, A3, A4, A5, A6⟩, _⟩, _, hbe⟩ := HK31.out
      clear hb hrp
      have HP1 : Hid (∃ q, PrevC (hasS a) x q ∧ rp = onLineP q) := by have := Hrp.out; unfold PvSpec at this; rwa [if_neg HOL.out, if_neg (by rw [HIN.out]; simp)] at this
      clear Hrn Hrp
      cases rn with
      | some n =>
        have hnf : (x ≤ n ∧ n ≤ 4398046511104) ∧ hasS a n = true ∧ (hasS a (x + nr) = true → x ≤ x + nr → n ≤ x + nr) := by
          obtain ⟨q, hq, he⟩ := HN1.out
          exact walk_n HIN.out hq he
        have hnb := hnf.1
        have HNF := Lib.hid hnf.2.1
        have HNY := Lib.hid hnf.2.2
        have t3 : decide (n < x) = false := by simp; omega
        clear hnf
        cases rp with
        | some p =>
          have hpf : (p ≤ x ∧ -4398046511104 ≤ p) ∧ hasS a p = true ∧ (hasS a (x - nr) = true → x - nr ≤ x → x - nr ≤ p) := by
            obtain ⟨q, hq, he⟩ := HP1.out
            exact walk_p HIN.out hq he
          have hpb := hpf.1
          have HPF := Lib.hid hpf.2.1
          have HPY := Lib.hid hpf.2.2
          have t4 : decide (x < p) = false := by simp; omega
          clear hpf
          have HQ32 := Lib.hid (HHS.out (n) _ HNF.out (by omega) (by omega))
          go_wp2_with fail
          refine (HQ32.out _ HK31.out.2.1).mono ?_
          rintro e v32 ⟨rfl, hb⟩
          have HK32 := Lib.hid (And.intro (HK31.out.1.below hb) (And.intro (keepSt hb HK31.out.2.1) (keepBelow HK31.out.2.2 hb)))
          clear A0 A1 A2 A3 A4 A5 A6 hbe
          obtain ⟨⟨⟨A0, A1, A2, A3, A4, A5, A6⟩, _⟩, _, hbe⟩ := HK32.out
          clear hb HQ32
          have HQ33 := Lib.hid (HHS.out (p) _ HPF.out (by omega) (by omega))
          go_wp2_with fail
          refine (HQ33.out _ HK32.out.2.1).mono ?_
          rintro e v33 ⟨rfl, hb⟩
          have HK33 := Lib.hid (And.intro (HK32.out.1.below hb) (And.intro (keepSt hb HK32.out.2.1) (keepBelow HK32.out.2.2 hb)))
          clear A0 A1 A2 A3 A4 A5 A6 hbe
          obtain ⟨⟨⟨A0, A1, A2, A3, A4, A5, A6⟩, _⟩, _, hbe⟩ := HK33.out
          clear hb HQ33
          cases hy1 : hasS a (x + nr) with
          | true =>
            have HY1 := Lib.hid hy1
            have t7 : decide (x + nr < n) = false := by have := HNY.out hy1 (by omega); simp; omega
            clear hy1
            have HQ34 := Lib.hid (HHS.out (x + nr) _ HY1.out (by omega) (by omega))
            go_wp2_with fail
            refine (HQ34.out _ HK33.out.2.1).mono ?_
            rintro e v34 ⟨rfl, hb⟩
            have HK34 := Lib.hid (And.intro (HK33.out.1.below hb) (And.intro (keepSt hb HK33.out.2.1) (keepBelow HK33.out.2.2 hb)))
            clear A0 A1 A2 A3 A4 A5 A6 hbe
            obtain ⟨⟨⟨A0, A1, A2, A3, A4, A5, A6⟩, _⟩, _, hbe⟩ := HK34.out
            clear hb HQ34
            cases hy2 : hasS a (x - nr) with
            | true =>
              have HY2 := Lib.hid hy2
              have t8 : decide (x - nr ≤ p) = true := by have := HPY.out hy2 (by omega); simp; omega
              clear hy2
              have HQ35 := Lib.hid (HHS.out (x - nr) _ HY2.out (by omega) (by omega))
              go_wp2_with fail
              refine (HQ35.out _ HK34.out.2.1).mono ?_
              rintro e v35 ⟨rfl, hb⟩
              have HK35 := Lib.hid (And.intro (HK34.out.1.below hb) (And.intro (keepSt hb HK34.out.2.1) (keepBelow HK34.out.2.2 hb)))
              clear A0 A1 A2 A3 A4 A5 A6 hbe
              obtain ⟨⟨⟨A0, A1, A2, A3, A4, A5, A6⟩, _⟩, _, hbe⟩ := HK35.out
              clear hb HQ35
              go_wp2
              go_ret
              exact ⟨rfl, hbe⟩
            | false =>
              have HY2 := Lib.hid hy2
              clear hy2
              have HQ36 := Lib.hid (HHS.out (x - nr) _ HY2.out (by omega) (by omega))
              go_wp2_with fail
              refine (HQ36.out _ HK34.out.2.1).mono ?_
              rintro e v36 ⟨rfl, hb⟩
              have HK36 := Lib.hid (And.intro (HK34.out.1.below hb) (And.intro (keepSt hb HK34.out.2.1) (keepBelow HK34.out.2.2 hb)))
              clear A0 A1 A2 A3 A4 A5 A6 hbe
              obtain ⟨⟨⟨A0, A1, A2, A3, A4, A5, A6⟩, _⟩, _, hbe⟩ := HK36.out
              clear hb HQ36
              go_wp2
              go_ret
              exact ⟨rfl, hbe⟩

          | false =>
            have HY1 := Lib.hid hy1
            clear hy1
            have HQ37 := Lib.hid (HHS.out (x + nr) _ HY1.out (by omega) (by omega))
            go_wp2_with fail
            refine (HQ37.out _ HK33.out.2.1).mono ?_
            rintro e v37 ⟨rfl, hb⟩
            have HK37 := Lib.hid (And.intro (HK33.out.1.below hb) (And.intro (keepSt hb HK33.out.2.1) (keepBelow HK33.out.2.2 hb)))
            clear A0 A1 A2 A3 A4 A5 A6 hbe
            obtain ⟨⟨⟨A0, A1, A2, A3, A4, A5, A6⟩, _⟩, _, hbe⟩ := HK37.out
            clear hb HQ37
            cases hy2 : hasS a (x - nr) with
            | true =>
              have HY2 := Lib.hid hy2
              have t8 : decide (x - nr ≤ p) = true := by have := HPY.out hy2 (by omega); simp; omega
              clear hy2
              have HQ38 := Lib.hid (HHS.out (x - nr) _ HY2.out (by omega) (by omega))
              go_wp2_with fail
              refine (HQ38.out _ HK37.out.2.1).mono ?_
              rintro e v38 ⟨rfl, hb⟩
              have HK38 := Lib.hid (And.intro (HK37.out.1.below hb) (And.intro (keepSt hb HK37.out.2.1) (keepBelow HK37.out.2.2 hb)))
              clear A0 A1 A2 A3 A4 A5 A6 hbe
              obtain ⟨⟨⟨A0, A1, A2, A3, A4, A5, A6⟩, _⟩, _, hbe⟩ := HK38.out
              clear hb HQ38
              go_wp2
              go_ret
              exact ⟨rfl, hbe⟩
            | false =>
              have HY2 := Lib.hid hy2
              clear hy2
              have HQ39 := Lib.hid (HHS.out (x - nr) _ HY2.out (by omega) (by omega))
              go_wp2_with fail
              refine (HQ39.out _ HK37.out.2.1).mono ?_
              rintro e v39 ⟨rfl, hb⟩
              have HK39 := Lib.hid (And.intro (HK37.out.1.below hb) (And.intro (keepSt hb HK37.out.2.1) (keepBelow HK37.out.2.2 hb)))
              clear A0 A1 A2 A3 A4 A5 A6 hbe
              obtain ⟨⟨⟨A0, A1, A2, A3, A4, A5, A6⟩, _⟩, _, hbe⟩ := HK39.out
              clear hb HQ39
              go_wp2
              go_ret
              exact ⟨rfl, hbe⟩

        | none =>
          have HPY : Hid (hasS a (x - nr) = false) := by
            obtain ⟨q, hq, he⟩ := HP1.out
            exact walk_p0 HIN.out hq he (by omega) (by omega)
          have HQ40 := Lib.hid (HHS.out (n) _ HNF.out (by omega) (by omega))
          go_wp2_with fail
          refine (HQ40.out _ HK31.out.2.1).mono ?_
          rintro e v40 ⟨rfl, hb⟩
          have HK40 := Lib.hid (And.intro (HK31.out.1.below hb) (And.intro (keepSt hb HK31.out.2.1) (keepBelow HK31.out.2.2 hb)))
          clear A0 A1 A2 A3 A4 A5 A6 hbe
          obtain ⟨⟨⟨A0, A1, A2, A3, A4, A5, A6⟩, _⟩, _, hbe⟩ := HK40.out
          clear hb HQ40
          cases hy1 : hasS a (x + nr) with
          | true =>
            have HY1 := Lib.hid hy1
            have t7 : decide (x + nr < n) = false := by have := HNY.out hy1 (by omega); simp; omega
            clear hy1
            have HQ41 := Lib.hid (HHS.out (x + nr) _ HY1.out (by omega) (by omega))
            go_wp2_with fail
            refine (HQ41.out _ HK40.out.2.1).mono ?_
            rintro e v41 ⟨rfl, hb⟩
            have HK41 := Lib.hid (And.intro (HK40.out.1.below hb) (And.intro (keepSt hb HK40.out.2.1) (keepBelow HK40.out.2.2 hb)))
            clear A0 A1 A2 A3 A4 A5 A6 hbe
            obtain ⟨⟨⟨A0, A1, A2, A3, A4, A5, A6⟩, _⟩, _, hbe⟩ := HK41.out
            clear hb HQ41
            cases hy2 : hasS a (x - nr) with
            | true =>
              have HY2 := Lib.hid hy2
              exact absurd hy2 (by have := HPY.out; rw [this]; simp)

            | false =>
              have HY2 := Lib.hid hy2
              clear hy2
              have HQ42 := Lib.hid (HHS.out (x - nr) _ HY2.out (by omega) (by omega))
              go_wp2_with fail
              refine (HQ42.out _ HK41.out.2.1).mono ?_
              rintro e v42 ⟨rfl, hb⟩
              have HK42 := Lib.hid (And.intro (HK41.out.1.below hb) (And.intro (keepSt hb HK41.out.2.1) (keepBelow HK41.out.2.2 hb)))
              clear A0 A1 A2 A3 A4 A5 A6 hbe
              obtain ⟨⟨⟨A0, A1, A2, A3, A4, A5, A6⟩, _⟩, _, hbe⟩ := HK42.out
              clear hb HQ42
              go_wp2
              go_ret
              exact ⟨rfl, hbe⟩

          | false =>
            have HY1 := Lib.hid hy1
            clear hy1
            have HQ43 := Lib.hid (HHS.out (x + nr) _ HY1.out (by omega) (by omega))
            go_wp2_with fail
            refine (HQ43.out _ HK40.out.2.1).mono ?_
            rintro e v43 ⟨rfl, hb⟩
            have HK43 := Lib.hid (And.intro (HK40.out.1.below hb) (And.intro (keepSt hb HK40.out.2.1) (keepBelow HK40.out.2.2 hb)))
            clear A0 A1 A2 A3 A4 A5 A6 hbe
            obtain ⟨⟨⟨A0, A1, A2, A3, A4, A5, A6⟩, _⟩, _, hbe⟩ := HK43.out
            clear hb HQ43
            cases hy2 : hasS a (x - nr) with
            | true =>
              have HY2 := Lib.hid hy2
              exact absurd hy2 (by have := HPY.out; rw [this]; simp)

            | false =>
              have HY2 := Lib.hid hy2
              clear hy2
              have HQ44 := Lib.hid (HHS.out (x - nr) _ HY2.out (by omega) (by omega))
              go_wp2_with fail
              refine (HQ44.out _ HK43.out.2.1).mono ?_
              rintro e v44 ⟨rfl, hb⟩
              have HK44 := Lib.hid (And.intro (HK43.out.1.below hb) (And.intro (keepSt hb HK43.out.2.1) (keepBelow HK43.out.2.2 hb)))
              clear A0 A1 A2 A3 A4 A5 A6 hbe
              obtain ⟨⟨⟨A0, A1, A2, A3, A4, A5, A6⟩, _⟩, _, hbe⟩ := HK44.out
              clear hb HQ44
              go_wp2
              go_ret
              exact ⟨rfl, hbe⟩

      | none =>
        have HNY : Hid (hasS a (x + nr) = false) := by
          obtain ⟨q, hq, he⟩ := HN1.out
          exact (walk_c0 hq he (by omega) (by omega)).trans HIN.out
        cases rp with
        | some p =>
          have hpf : (p ≤ x ∧ -4398046511104 ≤ p) ∧ hasS a p = true ∧ (hasS a (x - nr) = true → x - nr ≤ x → x - nr ≤ p) := by
            obtain ⟨q, hq, he⟩ := HP1.out
            exact walk_p HIN.out hq he
          have hpb := hpf.1
          have HPF := Lib.hid hpf.2.1
          have HPY := Lib.hid hpf.2.2
          have t4 : decide (x < p) = false := by simp; omega
          clear hpf
          have HQ45 := Lib.hid (HHS.out (p) _ HPF.out (by omega) (by omega))
          go_wp2_with fail
          refine (HQ45.out _ HK31.out.2.1).mono ?_
          rintro e v45 ⟨rfl, hb⟩
          have HK45 := Lib.hid (And.intro (HK31.out.1.below hb) (And.intro (keepSt hb HK31.out.2.1) (keepBelow HK31.out.2.2 hb)))
          clear A0 A1 A2 A3 A4 A5 A6 hbe
          obtain ⟨⟨⟨A0, A1, A2, A3, A4, A5, A6⟩, _⟩, _, hbe⟩ := HK45.out
          clear hb HQ45
          cases hy1 : hasS a (x + nr) with
          | true =>
            have HY1 := Lib.hid hy1
            exact absurd hy1 (by have := HNY.out; rw [this]; simp)

          | false =>
            have HY1 := Lib.hid hy1
            clear hy1
            have HQ46 := Lib.hid (HHS.out (x + nr) _ HY1.out (by omega) (by omega))
            go_wp2_with fail
            refine (HQ46.out _ HK45.out.2.1).mono ?_
            rintro e v46 ⟨rfl, hb⟩
            have HK46 := Lib.hid (And.intro (HK45.out.1.below hb) (And.intro (keepSt hb HK45.out.2.1) (keepBelow HK45.out.2.2 hb)))
            clear A0 A1 A2 A3 A4 A5 A6 hbe
            obtain ⟨⟨⟨A0, A1, A2, A3, A4, A5, A6⟩, _⟩, _, hbe⟩ := HK46.out
            clear hb HQ46
            cases hy2 : hasS a (x - nr) with
            | true =>
              have HY2 := Lib.hid hy2
              have t8 : decide (x - nr ≤ p) = true := by have := HPY.out hy2 (by omega); simp; omega
              clear hy2
              have HQ47 := Lib.hid (HHS.out (x - nr) _ HY2.out (by omega) (by omega))
              go_wp2_with fail
              refine (HQ47.out _ HK46.out.2.1).mono ?_
              rintro e v47 ⟨rfl, hb⟩
              have HK47 := Lib.hid (And.intro (HK46.out.1.below hb) (And.intro (keepSt hb HK46.out.2.1) (keepBelow HK46.out.2.2 hb)))
              clear A0 A1 A2 A3 A4 A5 A6 hbe
              obtain ⟨⟨⟨A0, A1, A2, A3, A4, A5, A6⟩, _⟩, _, hbe⟩ := HK47.out
              clear hb HQ47
              go_wp2
              go_ret
              exact ⟨rfl, hbe⟩
            | false =>
              have HY2 := Lib.hid hy2
              clear hy2
              have HQ48 := Lib.hid (HHS.out (x - nr) _ HY2.out (by omega) (by omega))
              go_wp2_with fail
              refine (HQ48.out _ HK46.out.2.1).mono ?_
              rintro e v48 ⟨rfl, hb⟩
              have HK48 := Lib.hid (And.intro (HK46.out.1.below hb) (And.intro (keepSt hb HK46.out.2.1) (keepBelow HK46.out.2.2 hb)))
              clear A0 A1 A2 A3 A4 A5 A6 hbe
              obtain ⟨⟨⟨A0, A1, A2, A3, A4, A5, A6⟩, _⟩, _, hbe⟩ := HK48.out
              clear hb HQ48
              go_wp2
              go_ret
              exact ⟨rfl, hbe⟩

        | none =>
          have HPY : Hid (hasS a (x - nr) = false) := by
            obtain ⟨q, hq, he⟩ := HP1.out
            exact walk_p0 HIN.out hq he (by omega) (by omega)
          cases hy1 : hasS a (x + nr) with
          | true =>
            have HY1 := Lib.hid hy1
            exact absurd hy1 (by have := HNY.out; rw [this]; simp)

          | false =>
            have HY1 := Lib.hid hy1
            clear hy1
            have HQ49 := Lib.hid (HHS.out (x + nr) _ HY1.out (by omega) (by omega))
            go_wp2_with fail
            refine (HQ49.out _ HK31.out.2.1).mono ?_
            rintro e v49 ⟨rfl, hb⟩
            have HK49 := Lib.hid (And.intro (HK31.out.1.below hb) (And.intro (keepSt hb HK31.out.2.1) (keepBelow HK31.out.2.2 hb)))
            clear A0 A1 A2 A3 A4 A5 A6 hbe
            obtain ⟨⟨⟨A0, A1, A2, A3, A4, A5, A6⟩, _⟩, _, hbe⟩ := HK49.out
            clear hb HQ49
            cases hy2 : hasS a (x - nr) with
            | true =>
              have HY2 := Lib.hid hy2
              exact absurd hy2 (by have := HPY.out; rw [this]; simp)

            | false =>
              have HY2 := Lib.hid hy2
              clear hy2
              have HQ50 := Lib.hid (HHS.out (x - nr) _ HY2.out (by omega) (by omega))
              go_wp2_with fail
              refine (HQ50.out _ HK49.out.2.1).mono ?_
              rintro e v50 ⟨rfl, hb⟩
              have HK50 := Lib.hid (And.intro (HK49.out.1.below hb) (And.intro (keepSt hb HK49.out.2.1) (keepBelow HK49.out.2.2 hb)))
              clear A0 A1 A2 A3 A4 A5 A6 hbe
              obtain ⟨⟨⟨A0, A1, A2, A3, A4, A5, A6⟩, _⟩, _, hbe⟩ := HK50.out
              clear hb HQ50
              go_wp2
              go_ret
              exact ⟨rfl, hbe⟩

    | some c =>
      have hcf : (x < c ∧ c ≤ 4398046511104) ∧ hasS a (c - 1) = hasS a x ∧ hasS a c = !(hasS a x) ∧ ∀ y, x ≤ y → y < c → hasS a y = hasS a x := by
        obtain ⟨q, hq, he⟩ := HC1.out
        exact walk_c hq he
      have hcb := hcf.1
      have HC2 : Hid (hasS a (c - 1) = false) := hcf.2.1.trans HIN.out
      have HC3 : Hid (hasS a c = true) := by have := hcf.2.2.1; rw [HIN.out] at this; exact this
      have HC4 := Lib.hid hcf.2.2.2
      clear hcf
      have t5 : decide (c ≤ x) = false := by simp; omega
      have s1 : IntKind.i64.wrap (c - 1) = c - 1 := by rw [IntKind.wrap_i64]; omega
      have s2 : IntKind.i64.wrap (c - x) = c - x := by rw [IntKind.wrap_i64]; omega
      have HQ51 := Lib.hid (HHS.out (c - 1) _ HC2.out (by omega) (by omega))
      go_wp2_with fail
      refine (HQ51.out _ HK28.out.2.1).mono ?_
      rintro e v51 ⟨rfl, hb⟩
      have HK51 := Lib.hid (And.intro (HK28.out.1.below hb) (And.intro (keepSt hb HK28.out.2.1) (keepBelow HK28.out.2.2 hb)))
      clear A0 A1 A2 A3 A4 A5 A6 hbe
      obtain ⟨⟨⟨A0, A1, A2, A3, A4, A5, A6⟩, _⟩, _, hbe⟩ := HK51.out
      clear hb HQ51

      have HQ52 := Lib.hid (HHS.out (c) _ HC3.out (by omega) (by omega))
      go_wp2_with fail
      refine (HQ52.out _ HK51.out.2.1).mono ?_
      rintro e v52 ⟨rfl, hb⟩
      have HK52 := Lib.hid (And.intro (HK51.out.1.below hb) (And.intro (keepSt hb HK51.out.2.1) (keepBelow HK51.out.2.2 hb)))
      clear A0 A1 A2 A3 A4 A5 A6 hbe
      obtain ⟨⟨⟨A0, A1, A2, A3, A4, A5, A6⟩, _⟩, _, hbe⟩ := HK52.out
      clear hb HQ52

      obtain ⟨m, hm⟩ : ∃ m, min (c - x) 256 = m := ⟨_, rfl⟩
      have hm1 : 1 ≤ m := by omega
      have hm2 : m ≤ c - x := by omega
      have hm3 : m ≤ 256 := by omega
      have e0 := Int.emod_nonneg nr (b := m) (by omega)
      have e1 := Int.emod_lt_of_pos nr (b := m) (by omega)
      have e2 : Int.tmod nr m = nr % m := Int.tmod_eq_emod_of_nonneg (by omega)
      have HMM := Lib.hid hm
      obtain ⟨k, hk⟩ : ∃ k, nr % m = k := ⟨_, rfl⟩
      rw [hk] at e0 e1 e2
      have z1 : (m == 0) = false := by simp; omega
      have z2 : (m == -1) = false := by simp; omega
      have s3 : IntKind.i64.wrap k = k := by rw [IntKind.wrap_i64]; omega
      have s4 : IntKind.i64.wrap (x + k) = x + k := by rw [IntKind.wrap_i64]; omega
      have HC5 : Hid (hasS a (x + k) = false) := (HC4.out (x + k) (by omega) (by omega)).trans HIN.out
      have HQ53 := Lib.hid (HHS.out (x + k) _ HC5.out (by omega) (by omega))
      go_wp2_with fail
      refine (HQ53.out _ HK52.out.2.1).mono ?_
      rintro e v53 ⟨rfl, hb⟩
      have HK53 := Lib.hid (And.intro (HK52.out.1.below hb) (And.intro (keepSt hb HK52.out.2.1) (keepBelow HK52.out.2.2 hb)))
      clear A0 A1 A2 A3 A4 A5 A6 hbe
      obtain ⟨⟨⟨A0, A1, A2, A3, A4, A5, A6⟩, _⟩, _, hbe⟩ := HK53.out
      clear hb HQ53

      clear hm
      go_wp2_with fail
      refine (HNX.out _ HK53.out.2.1).mono ?_
      rintro e v54 ⟨rn, hrn, rfl, hb⟩
      have Hrn := Lib.hid hrn
      have HK54 := Lib.hid (And.intro (HK53.out.1.below hb) (And.intro (keepSt hb HK53.out.2.1) (keepBelow HK53.out.2.2 hb)))
      clear A0 A1 A2 A3 A4 A5 A6 hbe
      obtain ⟨⟨⟨A0, A1, A2, A3, A4, A5, A6⟩, _⟩, _, hbe⟩ := HK54.out
      clear hb hrn
      have HN1 : Hid (∃ q, NextC (hasS a) x q ∧ rn = onLine q) := by have := Hrn.out; unfold NeSpec at this; rwa [if_neg HOL.out, if_neg (by rw [HIN.out]; simp)] at this
      go_wp2_with fail
      refine (HPV.out _ HK54.out.2.1).mono ?_
      rintro e v55 ⟨rp, hrp, rfl, hb⟩
      have Hrp := Lib.hid hrp
      have HK55 := Lib.hid (And.intro (HK54.out.1.below hb) (And.intro (keepSt hb HK54.out.2.1) (keepBelow HK54.out.2.2 hb)))
      clear A0 A1 A2 A3 A4 A5 A6 hbe
      obtain ⟨⟨⟨A0, A1, A2, A3, A4, A5, A6⟩, _⟩, _, hbe⟩ := HK55.out
      clear hb hrp
      have HP1 : Hid (∃ q, PrevC (hasS a) x q ∧ rp = onLineP q) := by have := Hrp.out; unfold PvSpec at this; rwa [if_neg HOL.out, if_neg (by rw [HIN.out]; simp)] at this
      clear Hrn Hrp
      cases rn with
      | some n =>
        have hnf : (x ≤ n ∧ n ≤ 4398046511104) ∧ hasS a n = true ∧ (hasS a (x + nr) = true → x ≤ x + nr → n ≤ x + nr) := by
          obtain ⟨q, hq, he⟩ := HN1.out
          exact walk_n HIN.out hq he
        have hnb := hnf.1
        have HNF := Lib.hid hnf.2.1
        have HNY := Lib.hid hnf.2.2
        have t3 : decide (n < x) = false := by simp; omega
        clear hnf
        cases rp with
        | some p =>
          have hpf : (p ≤ x ∧ -4398046511104 ≤ p) ∧ hasS a p = true ∧ (hasS a (x - nr) = true → x - nr ≤ x → x - nr ≤ p) := by
            obtain ⟨q, hq, he⟩ := HP1.out
            exact walk_p HIN.out hq he
          have hpb := hpf.1
          have HPF := Lib.hid hpf.2.1
          have HPY := Lib.hid hpf.2.2
          have t4 : decide (x < p) = false := by simp; omega
          clear hpf
          have HQ56 := Lib.hid (HHS.out (n) _ HNF.out (by omega) (by omega))
          go_wp2_with fail
          refine (HQ56.out _ HK55.out.2.1).mono ?_
          rintro e v56 ⟨rfl, hb⟩
          have HK56 := Lib.hid (And.intro (HK55.out.1.below hb) (And.intro (keepSt hb HK55.out.2.1) (keepBelow HK55.out.2.2 hb)))
          clear A0 A1 A2 A3 A4 A5 A6 hbe
          obtain ⟨⟨⟨A0, A1, A2, A3, A4, A5, A6⟩, _⟩, _, hbe⟩ := HK56.out
          clear hb HQ56
          have HQ57 := Lib.hid (HHS.out (p) _ HPF.out (by omega) (by omega))
          go_wp2_with fail
          refine (HQ57.out _ HK56.out.2.1).mono ?_
          rintro e v57 ⟨rfl, hb⟩
          have HK57 := Lib.hid (And.intro (HK56.out.1.below hb) (And.intro (keepSt hb HK56.out.2.1) (keepBelow HK56.out.2.2 hb)))
          clear A0 A1 A2 A3 A4 A5 A6 hbe
          obtain ⟨⟨⟨A0, A1, A2, A3, A4, A5, A6⟩, _⟩, _, hbe⟩ := HK57.out
          clear hb HQ57
          cases hy1 : hasS a (x + nr) with
          | true =>
            have HY1 := Lib.hid hy1
            have t7 : decide (x + nr < n) = false := by have := HNY.out hy1 (by omega); simp; omega
            clear hy1
            have HQ58 := Lib.hid (HHS.out (x + nr) _ HY1.out (by omega) (by omega))
            go_wp2_with fail
            refine (HQ58.out _ HK57.out.2.1).mono ?_
            rintro e v58 ⟨rfl, hb⟩
            have HK58 := Lib.hid (And.intro (HK57.out.1.below hb) (And.intro (keepSt hb HK57.out.2.1) (keepBelow HK57.out.2.2 hb)))
            clear A0 A1 A2 A3 A4 A5 A6 hbe
            obtain ⟨⟨⟨A0, A1, A2, A3, A4, A5, A6⟩, _⟩, _, hbe⟩ := HK58.out
            clear hb HQ58
            cases hy2 : hasS a (x - nr) with
            | true =>
              have HY2 := Lib.hid hy2
              have t8 : decide (x - nr ≤ p) = true := by have := HPY.out hy2 (by omega); simp; omega
              clear hy2
              have HQ59 := Lib.hid (HHS.out (x - nr) _ HY2.out (by omega) (by omega))
              go_wp2_with fail
              refine (HQ59.out _ HK58.out.2.1).mono ?_
              rintro e v59 ⟨rfl, hb⟩
              have HK59 := Lib.hid (And.intro (HK58.out.1.below hb) (And.intro (keepSt hb HK58.out.2.1) (keepBelow HK58.out.2.2 hb)))
              clear A0 A1 A2 A3 A4 A5 A6 hbe
              obtain ⟨⟨⟨A0, A1, A2, A3, A4, A5, A6⟩, _⟩, _, hbe⟩ := HK59.out
              clear hb HQ59
              go_wp2
              go_ret
              exact ⟨rfl, hbe⟩
            | false =>
              have HY2 := Lib.hid hy2
              clear hy2
              have HQ60 := Lib.hid (HHS.out (x - nr) _ HY2.out (by omega) (by omega))
              go_wp2_with fail
              refine (HQ60.out _ HK58.out.2.1).mono ?_
              rintro e v60 ⟨rfl, hb⟩
              have HK60 := Lib.hid (And.intro (HK58.out.1.below hb) (And.intro (keepSt hb HK58.out.2.1) (keepBelow HK58.out.2.2 hb)))
              clear A0 A1 A2 A3 A4 A5 A6 hbe
              obtain ⟨⟨⟨A0, A1, A2, A3, A4, A5, A6⟩, _⟩, _, hbe⟩ := HK60.out
              clear hb HQ60
              go_wp2
              go_ret
              exact ⟨rfl, hbe⟩

          | false =>
            have HY1 := Lib.hid hy1
            clear hy1
            have HQ61 := Lib.hid (HHS.out (x + nr) _ HY1.out (by omega) (by omega))
            go_wp2_with fail
            refine (HQ61.out _ HK57.out.2.1).mono ?_
            rintro e v61 ⟨rfl, hb⟩
            have HK61 := Lib.hid (And.intro (HK57.out.1.below hb) (And.intro (keepSt hb HK57.out.2.1) (keepBelow HK57.out.2.2 hb)))
            clear A0 A1 A2 A3 A4 A5 A6 hbe
            obtain ⟨⟨⟨A0, A1, A2, A3, A4, A5, A6⟩, _⟩, _, hbe⟩ := HK61.out
            clear hb HQ61
            cases hy2 : hasS a (x - nr) with
            | true =>
              have HY2 := Lib.hid hy2
              have t8 : decide (x - nr ≤ p) = true := by have := HPY.out hy2 (by omega); simp; omega
              clear hy2
              have HQ62 := Lib.hid (HHS.out (x - nr) _ HY2.out (by omega) (by omega))
              go_wp2_with fail
              refine (HQ62.out _ HK61.out.2.1).mono ?_
              rintro e v62 ⟨rfl, hb⟩
              have HK62 := Lib.hid (And.intro (HK61.out.1.below hb) (And.intro (keepSt hb HK61.out.2.1) (keepBelow HK61.out.2.2 hb)))
              clear A0 A1 A2 A3 A4 A5 A6 hbe
              obtain ⟨⟨⟨A0, A1, A2, A3, A4, A5, A6⟩, _⟩, _, hbe⟩ := HK62.out
              clear hb HQ62
              go_wp2
              go_ret
              exact ⟨rfl, hbe⟩
            | false =>
              have HY2 := Lib.hid hy2
              clear hy2
              have HQ63 := Lib.hid (HHS.out (x - nr) _ HY2.out (by omega) (by omega))
              go_wp2_with fail
              refine (HQ63.out _ HK61.out.2.1).mono ?_
              rintro e v63 ⟨rfl, hb⟩
              have HK63 := Lib.hid (And.intro (HK61.out.1.below hb) (And.intro (keepSt hb HK61.out.2.1) (keepBelow HK61.out.2.2 hb)))
              clear A0 A1 A2 A3 A4 A5 A6 hbe
              obtain ⟨⟨⟨A0, A1, A2, A3, A4, A5, A6⟩, _⟩, _, hbe⟩ := HK63.out
              clear hb HQ63
              go_wp2
              go_ret
              exact ⟨rfl, hbe⟩

        | none =>
          have HPY : Hid (hasS a (x - nr) = false) := by
            obtain ⟨q, hq, he⟩ := HP1.out
            exact walk_p0 HIN.out hq he (by omega) (by omega)
          have HQ64 := Lib.hid (HHS.out (n) _ HNF.out (by omega) (by omega))
          go_wp2_with fail
          refine (HQ64.out _ HK55.out.2.1).mono ?_
          rintro e v64 ⟨rfl, hb⟩
          have HK64 := Lib.hid (And.intro (HK55.out.1.below hb) (And.intro (keepSt hb HK55.out.2.1) (keepBelow HK55.out.2.2 hb)))
          clear A0 A1 A2 A3 A4 A5 A6 hbe
          obtain ⟨⟨⟨A0, A1, A2, A3, A4, A5, A6⟩, _⟩, _, hbe⟩ := HK64.out
          clear hb HQ64
          cases hy1 : hasS a (x + nr) with
          | true =>
            have HY1 := Lib.hid hy1
            have t7 : decide (x + nr < n) = false := by have := HNY.out hy1 (by omega); simp; omega
            clear hy1
            have HQ65 := Lib.hid (HHS.out (x + nr) _ HY1.out (by omega) (by omega))
            go_wp2_with fail
            refine (HQ65.out _ HK64.out.2.1).mono ?_
            rintro e v65 ⟨rfl, hb⟩
            have HK65 := Lib.hid (And.intro (HK64.out.1.below hb) (And.intro (keepSt hb HK64.out.2.1) (keepBelow HK64.out.2.2 hb)))
            clear A0 A1 A2 A3 A4 A5 A6 hbe
            obtain ⟨⟨⟨A0, A1, A2, A3, A4, A5, A6⟩, _⟩, _, hbe⟩ := HK65.out
            clear hb HQ65
            cases hy2 : hasS a (x - nr) with
            | true =>
              have HY2 := Lib.hid hy2
              exact absurd hy2 (by have := HPY.out; rw [this]; simp)

            | false =>
              have HY2 := Lib.hid hy2
              clear hy2
              have HQ66 := Lib.hid (HHS.out (x - nr) _ HY2.out (by omega) (by omega))
              go_wp2_with fail
              refine (HQ66.out _ HK65.out.2.1).mono ?_
              rintro e v66 ⟨rfl, hb⟩
              have HK66 := Lib.hid (And.intro (HK65.out.1.below hb) (And.intro (keepSt hb HK65.out.2.1) (keepBelow HK65.out.2.2 hb)))
              clear A0 A1 A2 A3 A4 A5 A6 hbe
              obtain ⟨⟨⟨A0, A1, A2, A3, A4, A5, A6⟩, _⟩, _, hbe⟩ := HK66.out
              clear hb HQ66
              go_wp2
              go_ret
              exact ⟨rfl, hbe⟩

          | false =>
            have HY1 := Lib.hid hy1
            clear hy1
            have HQ67 := Lib.hid (HHS.out (x + nr) _ HY1.out (by omega) (by omega))
            go_wp2_with fail
            refine (HQ67.out _ HK64.out.2.1).mono ?_
            rintro e v67 ⟨rfl, hb⟩
            have HK67 := Lib.hid (And.intro (HK64.out.1.below hb) (And.intro (keepSt hb HK64.out.2.1) (keepBelow HK64.out.2.2 hb)))
            clear A0 A1 A2 A3 A4 A5 A6 hbe
            obtain ⟨⟨⟨A0, A1, A2, A3, A4, A5, A6⟩, _⟩, _, hbe⟩ := HK67.out
            clear hb HQ67
            cases hy2 : hasS a (x - nr) with
            | true =>
              have HY2 := Lib.hid hy2
              exact absurd hy2 (by have := HPY.out; rw [this]; simp)

            | false =>
              have HY2 := Lib.hid hy2
              clear hy2
              have HQ68 := Lib.hid (HHS.out (x - nr) _ HY2.out (by omega) (by omega))
              go_wp2_with fail
              refine (HQ68.out _ HK67.out.2.1).mono ?_
              rintro e v68 ⟨rfl, hb⟩
              have HK68 := Lib.hid (And.intro (HK67.out.1.below hb) (And.intro (keepSt hb HK67.out.2.1) (keepBelow HK67.out.2.2 hb)))
              clear A0 A1 A2 A3 A4 A5 A6 hbe
              obtain ⟨⟨⟨A0, A1, A2, A3, A4, A5, A6⟩, _⟩, _, hbe⟩ := HK68.out
              clear hb HQ68
              go_wp2
              go_ret
              exact ⟨rfl, hbe⟩

      | none =>
        have HNY : Hid (hasS a (x + nr) = false) := by
          obtain ⟨q, hq, he⟩ := HN1.out
          exact (walk_c0 hq he (by omega) (by omega)).trans HIN.out
        cases rp with
        | some p =>
          have hpf : (p ≤ x ∧ -4398046511104 ≤ p) ∧ hasS a p = true ∧ (hasS a (x - nr) = true → x - nr ≤ x → x - nr ≤ p) := by
            obtain ⟨q, hq, he⟩ := HP1.out
            exact walk_p HIN.out hq he
          have hpb := hpf.1
          have HPF := Lib.hid hpf.2.1
          have HPY := Lib.hid hpf.2.2
          have t4 : decide (x < p) = false := by simp; omega
          clear hpf
          have HQ69 := Lib.hid (HHS.out (p) _ HPF.out (by omega) (by omega))
          go_wp2_with fail
          refine (HQ69.out _ HK55.out.2.1).mono ?_
          rintro e v69 ⟨rfl, hb⟩
          have HK69 := Lib.hid (And.intro (HK55.out.1.below hb) (And.intro (keepSt hb HK55.out.2.1) (keepBelow HK55.out.2.2 hb)))
          clear A0 A1 A2 A3 A4 A5 A6 hbe
          obtain ⟨⟨⟨A0, A1, A2, A3, A4, A5, A6⟩, _⟩, _, hbe⟩ := HK69.out
          clear hb HQ69
          cases hy1 : hasS a (x + nr) with
          | true =>
            have HY1 := Lib.hid hy1
            exact absurd hy1 (by have := HNY.out; rw [this]; simp)

          | false =>
            have HY1 := Lib.hid hy1
            clear hy1
            have HQ70 := Lib.hid (HHS.out (x + nr) _ HY1.out (by omega) (by omega))
            go_wp2_with fail
            refine (HQ70.out _ HK69.out.2.1).mono ?_
            rintro e v70 ⟨rfl, hb⟩
            have HK70 := Lib.hid (And.intro (HK69.out.1.below hb) (And.intro (keepSt hb HK69.out.2.1) (keepBelow HK69.out.2.2 hb)))
            clear A0 A1 A2 A3 A4 A5 A6 hbe
            obtain ⟨⟨⟨A0, A1, A2, A3, A4, A5, A6⟩, _⟩, _, hbe⟩ := HK70.out
            clear hb HQ70
            cases hy2 : hasS a (x - nr) with
            | true =>
              have HY2 := Lib.hid hy2
              have t8 : decide (x - nr ≤ p) = true := by have := HPY.out hy2 (by omega); simp; omega
              clear hy2
              have HQ71 := Lib.hid (HHS.out (x - nr) _ HY2.out (by omega) (by omega))
              go_wp2_with fail
              refine (HQ71.out _ HK70.out.2.1).mono ?_
              rintro e v71 ⟨rfl, hb⟩
              have HK71 := Lib.hid (And.intro (HK70.out.1.below hb) (And.intro (keepSt hb HK70.out.2.1) (keepBelow HK70.out.2.2 hb)))
              clear A0 A1 A2 A3 A4 A5 A6 hbe
              obtain ⟨⟨⟨A0, A1, A2, A3, A4, A5, A6⟩, _⟩, _, hbe⟩ := HK71.out
              clear hb HQ71
              go_wp2
              go_ret
              exact ⟨rfl, hbe⟩
            | false =>
              have HY2 := Lib.hid hy2
              clear hy2
              have HQ72 := Lib.hid (HHS.out (x - nr) _ HY2.out (by omega) (by omega))
              go_wp2_with fail
              refine (HQ72.out _ HK70.out.2.1).mono ?_
              rintro e v72 ⟨rfl, hb⟩
              have HK72 := Lib.hid (And.intro (HK70.out.1.below hb) (And.intro (keepSt hb HK70.out.2.1) (keepBelow HK70.out.2.2 hb)))
              clear A0 A1 A2 A3 A4 A5 A6 hbe
              obtain ⟨⟨⟨A0, A1, A2, A3, A4, A5, A6⟩, _⟩, _, hbe⟩ := HK72.out
              clear hb HQ72
              go_wp2
              go_ret
              exact ⟨rfl, hbe⟩

        | none =>
          have HPY : Hid (hasS a (x - nr) = false) := by
            obtain ⟨q, hq, he⟩ := HP1.out
            exact walk_p0 HIN.out hq he (by omega) (by omega)
          cases hy1 : hasS a (x + nr) with
          | true =>
            have HY1 := Lib.hid hy1
            exact absurd hy1 (by have := HNY.out; rw [this]; simp)

          | false =>
            have HY1 := Lib.hid hy1
            clear hy1
            have HQ73 := Lib.hid (HHS.out (x + nr) _ HY1.out (by omega) (by omega))
            go_wp2_with fail
            refine (HQ73.out _ HK55.out.2.1).mono ?_
            rintro e v73 ⟨rfl, hb⟩
            have HK73 := Lib.hid (And.intro (HK55.out.1.below hb) (And.intro (keepSt hb HK55.out.2.1) (keepBelow HK55.out.2.2 hb)))
            clear A0 A1 A2 A3 A4 A5 A6 hbe
            obtain ⟨⟨⟨A0, A1, A2, A3, A4, A5, A6⟩, _⟩, _, hbe⟩ := HK73.out
            clear hb HQ73
            cases hy2 : hasS a (x - nr) with
            | true =>
              have HY2 := Lib.hid hy2
              exact absurd hy2 (by have := HPY.out; rw [this]; simp)

            | false =>
              have HY2 := Lib.hid hy2
              clear hy2
              have HQ74 := Lib.hid (HHS.out (x - nr) _ HY2.out (by omega) (by omega))
              go_wp2_with fail
              refine (HQ74.out _ HK73.out.2.1).mono ?_
              rintro e v74 ⟨rfl, hb⟩
              have HK74 := Lib.hid (And.intro (HK73.out.1.below hb) (And.intro (keepSt hb HK73.out.2.1) (keepBelow HK73.out.2.2 hb)))
              clear A0 A1 A2 A3 A4 A5 A6 hbe
              obtain ⟨⟨⟨A0, A1, A2, A3, A4, A5, A6⟩, _⟩, _, hbe⟩ := HK74.out
              clear hb HQ74
              go_wp2
              go_ret
              exact ⟨rfl, hbe⟩

end Go.Proofs.YtnjpceocnldlfaaGreat
