import Derived.Test.YtmfdnbfjdhlonaaGreatDoorWkOqD
import Derived.Test.YtmfdnbfjdhlonaaGreatDoorWkOqC
/- what a week has; the example of the chapter. -/
namespace Go.Proofs.YtmfdnbfjdhlonaaGreatDoor
open Go.RowKit Wk Lib

theorem onP_mod (P : Int) (L : List Sp) (x : Int) : onP P L (x - x / P * P) = onP P L x := by
 unfold onP
 congr 1
 funext s
 rw [show x - x / P * P - s.1 = x - s.1 + P * (-(x / P)) by rw [Int.mul_neg, Int.mul_comm P]; omega, Int.add_mul_emod_self_left]
theorem has_ofPM {P : Int} {L : List Sp} (hP : 1 ≤ P) (hP2 : P ≤ 12622780800) (ha : allV L = true) (h : (ofPM P L).2 = 0) (x : Int) : hasP (ofPM P L).1 x = onP P L x := by
 rw [(ofPM_ok hP hP2 h).2]
 have hF := foldU_ok hP (fun s hs => (allV_bnd ha s hs).2.1)
 have hm := mod_lo x hP
 unfold hasP
 simp only
 rw [hF.2, decide_eq_true hm.1, decide_eq_true hm.2, onP_mod]
 rfl
theorem ofPM_small {P : Int} {L : List Sp} (hP : 1 ≤ P) (ha : allV L = true) (hl : L.length ≤ 1000) : (ofPM P L).2 = 0 := by
 rw [ofPM_good ha (by omega)]
 have h1 := foldU_len (P := P) hP (fun s hs => (allV_bnd ha s hs).2.1)
 have h2 : (cutM (foldU P L) (leastM (foldU P L) P)).length ≤ (foldU P L).length := by
  unfold cutM
  rw [List.length_map]
  exact List.length_filter_le _ _
 unfold limM
 rw [if_neg (by omega)]
theorem week_has {H : List (List Sp)} (hH : H.length = 7) (h : okH H = true) : (weekM 4 H).2 = 0 ∧ VB (weekM 4 H).1 = true ∧ ∀ x, hasS (weekM 4 H).1 x = onP 604800 (wkT 4 H 7) x := by
 have ho := (okH_iff hH).1 h
 have ha := wkT_allV (d0 := 4) (by omega) (by omega) ho
 have hl := wkT_len (d0 := 4) (fun i hi => (okl_iff (ho i hi)).1) 7 (by omega)
 have hz := ofPM_small (P := 604800) (by omega) ha (by omega)
 have hv := (ofPM_ok (P := 604800) (by omega) (by omega) hz).1
 have hh := has_ofPM (P := 604800) (by omega) (by omega) ha hz
 rw [week_of h]
 obtain ⟨⟨p, n⟩, hpn⟩ : ∃ r, ofPM 604800 (wkT 4 H 7) = r := ⟨_, rfl⟩
 rw [hpn] at hz hv hh ⊢
 simp only at hz hv hh
 subst hz
 have e : pureE (p, 0) = (pureF p, 0) := by unfold pureE; rw [if_neg (by simp)]
 rw [e]
 exact ⟨rfl, VB_pure hv, fun x => by rw [has_pure]; exact hh x⟩
theorem awH_ok : okH awH = true := by decide +kernel
theorem awH_in : onP 604800 (wkT 4 awH 7) 32400 = true ∧ onP 604800 (wkT 4 awH 7) 32399 = false := by decide +kernel
theorem any_wsu (l : List UInt8) : containsAny l [119, 115, 117] = l.any wsuB := by
 unfold containsAny
 induction l with
 | nil => rfl
 | cons b r ih =>
  rw [indexAny, List.any_cons, ← ih]
  have hb : ([119, 115, 117] : List UInt8).contains b = wsuB b := by simp only [wsuB, List.contains_cons, List.contains_nil, Bool.or_false]
  rw [hb]
  cases hw : wsuB b with
  | true => rfl
  | false =>
   simp only [Bool.false_or, Bool.false_eq_true, if_false]
   have hg := indexAny_ge [119, 115, 117] r
   by_cases h1 : indexAny r [119, 115, 117] = -1
   ·rw [h1]; rfl
   ·rw [if_neg (by simpa using h1)]
    congr 1
    apply propext
    constructor <;> intro h <;> omega
theorem cany_ascii {s : Bs} (h : ∀ b ∈ s, b.toNat < 128) (hl : s.length < 4294967281) : CAnyS s := fun T hT W => by
 have hTs : T.size < 4294967281 := by have := hT.1; rw [bs_len] at this; omega
 refine (Tryz.strings_ContainsAny_laid T ⟨#[119, 115, 117]⟩ W hTs (by decide) (fun j b hj => h b (hT.2 b (List.mem_of_getElem? hj))) (fun j b hj => ?_)).mono ?_
 ·have hj' : ([119, 115, 117] : List UInt8)[j]? = some b := hj
  have := List.mem_of_getElem? hj'
  simp at this
  rcases this with rfl | rfl | rfl <;> decide
 ·rintro e w' ⟨rfl, hb⟩
  exact ⟨by rw [show (⟨#[119, 115, 117]⟩ : ByteArray).data.toList = [119, 115, 117] from rfl, any_wsu], hb⟩
theorem cany_aw : CAnyS awT := cany_ascii (by decide +kernel) (by decide)
set_option maxRecDepth 100000 in
set_option maxHeartbeats 8000000 in
theorem awake27_any (w : World) (hg : Glob w) :
  Calls Tryz.prog 9 #[] w fun e w' => e = .returned (.bool true) ∧ Below w.heap.size w w' := by
 have HPA := Lib.hid (oparse_any ⟨awT.toArray⟩ (by decide) cany_aw w hg)
 rw [show bsO ⟨awT.toArray⟩ = awT from rfl, hours_awake] at HPA
 obtain ⟨k1, k2, k3⟩ := week_has (H := awH) rfl awH_ok
 obtain ⟨j1, j2⟩ := awH_in
 have h1 := k3 32400
 have h2 := k3 32399
 rw [j1] at h1
 rw [j2] at h2
 obtain ⟨⟨S, n⟩, hS⟩ : ∃ r, weekM 4 awH = r := ⟨_, rfl⟩
 rw [hS] at k1 k2 h1 h2
 simp only at k1 k2 h1 h2
 subst k1
 have HS := Lib.hid hS
 have HH1 : Hid (∀ vl vr vv W, RdSt W S vl vr vv → Calls Tryz.prog 18 #[.agg #[.int .i64 S.lf.1, vl, .int .i64 S.rt.1, vr, .int .i64 S.fr, .int .i64 S.to, vv], .int .i64 32400] W fun e w' => e = .returned (.bool true) ∧ Below W.heap.size W w') := Lib.hid fun vl vr vv W hr => by
  have := thas_any S vl vr vv 32400 W hr (by omega) (by omega)
  rw [k2, h1] at this
  exact this
 have HH2 : Hid (∀ vl vr vv W, RdSt W S vl vr vv → Calls Tryz.prog 18 #[.agg #[.int .i64 S.lf.1, vl, .int .i64 S.rt.1, vr, .int .i64 S.fr, .int .i64 S.to, vv], .int .i64 32399] W fun e w' => e = .returned (.bool false) ∧ Below W.heap.size W w') := Lib.hid fun vl vr vv W hr => by
  have := thas_any S vl vr vv 32399 W hr (by omega) (by omega)
  rw [k2, h2] at this
  exact this
 clear hS h1 h2 j1 j2 k2 k3
 go_enter Tryz.func9, Tryz.ntmps9
 go_wp2_with fail
 refine HPA.out.mono ?_
 rintro e w1 ⟨v0, v1, v2, v3, v4, v5, v6, rfl, hov, hb1⟩
 have hrd := OwnH.rd hov (by decide)
 obtain ⟨p0, q0, rfl⟩ : ∃ a c, v0 = .slice a (awH.getD 0 []).length c := (hrd.2.2 0 (by decide)).form
 obtain ⟨p1, q1, rfl⟩ : ∃ a c, v1 = .slice a (awH.getD 1 []).length c := (hrd.2.2 1 (by decide)).form
 obtain ⟨p2, q2, rfl⟩ : ∃ a c, v2 = .slice a (awH.getD 2 []).length c := (hrd.2.2 2 (by decide)).form
 obtain ⟨p3, q3, rfl⟩ : ∃ a c, v3 = .slice a (awH.getD 3 []).length c := (hrd.2.2 3 (by decide)).form
 obtain ⟨p4, q4, rfl⟩ : ∃ a c, v4 = .slice a (awH.getD 4 []).length c := (hrd.2.2 4 (by decide)).form
 obtain ⟨p5, q5, rfl⟩ : ∃ a c, v5 = .slice a (awH.getD 5 []).length c := (hrd.2.2 5 (by decide)).form
 obtain ⟨p6, q6, rfl⟩ : ∃ a c, v6 = .slice a (awH.getD 6 []).length c := (hrd.2.2 6 (by decide)).form
 simp only at hrd
 have hba : Below w1.heap.size w1 (w1.alloc (.cells #[.slice p0 (awH.getD 0 []).length q0, .slice p1 (awH.getD 1 []).length q1, .slice p2 (awH.getD 2 []).length q2, .slice p3 (awH.getD 3 []).length q3, .slice p4 (awH.getD 4 []).length q4, .slice p5 (awH.getD 5 []).length q5, .slice p6 (awH.getD 6 []).length q6] 25)) := (Below.refl _ _).alloc (Nat.le_refl _) _
 have HRA := Lib.hid (RdH.below hrd hba)
 have HBA := Lib.hid (keepBelow hb1 hba)
 have c0 : (w1.alloc (.cells #[.slice p0 (awH.getD 0 []).length q0, .slice p1 (awH.getD 1 []).length q1, .slice p2 (awH.getD 2 []).length q2, .slice p3 (awH.getD 3 []).length q3, .slice p4 (awH.getD 4 []).length q4, .slice p5 (awH.getD 5 []).length q5, .slice p6 (awH.getD 6 []).length q6] 25)).cell? ⟨w1.heap.size, 0, none⟩ = some (.slice p0 (awH.getD 0 []).length q0) := by simp [go_sem]
 have c1 : (w1.alloc (.cells #[.slice p0 (awH.getD 0 []).length q0, .slice p1 (awH.getD 1 []).length q1, .slice p2 (awH.getD 2 []).length q2, .slice p3 (awH.getD 3 []).length q3, .slice p4 (awH.getD 4 []).length q4, .slice p5 (awH.getD 5 []).length q5, .slice p6 (awH.getD 6 []).length q6] 25)).cell? ⟨w1.heap.size, 1, none⟩ = some (.slice p1 (awH.getD 1 []).length q1) := by simp [go_sem]
 have c2 : (w1.alloc (.cells #[.slice p0 (awH.getD 0 []).length q0, .slice p1 (awH.getD 1 []).length q1, .slice p2 (awH.getD 2 []).length q2, .slice p3 (awH.getD 3 []).length q3, .slice p4 (awH.getD 4 []).length q4, .slice p5 (awH.getD 5 []).length q5, .slice p6 (awH.getD 6 []).length q6] 25)).cell? ⟨w1.heap.size, 2, none⟩ = some (.slice p2 (awH.getD 2 []).length q2) := by simp [go_sem]
 have c3 : (w1.alloc (.cells #[.slice p0 (awH.getD 0 []).length q0, .slice p1 (awH.getD 1 []).length q1, .slice p2 (awH.getD 2 []).length q2, .slice p3 (awH.getD 3 []).length q3, .slice p4 (awH.getD 4 []).length q4, .slice p5 (awH.getD 5 []).length q5, .slice p6 (awH.getD 6 []).length q6] 25)).cell? ⟨w1.heap.size, 3, none⟩ = some (.slice p3 (awH.getD 3 []).length q3) := by simp [go_sem]
 have c4 : (w1.alloc (.cells #[.slice p0 (awH.getD 0 []).length q0, .slice p1 (awH.getD 1 []).length q1, .slice p2 (awH.getD 2 []).length q2, .slice p3 (awH.getD 3 []).length q3, .slice p4 (awH.getD 4 []).length q4, .slice p5 (awH.getD 5 []).length q5, .slice p6 (awH.getD 6 []).length q6] 25)).cell? ⟨w1.heap.size, 4, none⟩ = some (.slice p4 (awH.getD 4 []).length q4) := by simp [go_sem]
 have c5 : (w1.alloc (.cells #[.slice p0 (awH.getD 0 []).length q0, .slice p1 (awH.getD 1 []).length q1, .slice p2 (awH.getD 2 []).length q2, .slice p3 (awH.getD 3 []).length q3, .slice p4 (awH.getD 4 []).length q4, .slice p5 (awH.getD 5 []).length q5, .slice p6 (awH.getD 6 []).length q6] 25)).cell? ⟨w1.heap.size, 5, none⟩ = some (.slice p5 (awH.getD 5 []).length q5) := by simp [go_sem]
 have c6 : (w1.alloc (.cells #[.slice p0 (awH.getD 0 []).length q0, .slice p1 (awH.getD 1 []).length q1, .slice p2 (awH.getD 2 []).length q2, .slice p3 (awH.getD 3 []).length q3, .slice p4 (awH.getD 4 []).length q4, .slice p5 (awH.getD 5 []).length q5, .slice p6 (awH.getD 6 []).length q6] 25)).cell? ⟨w1.heap.size, 6, none⟩ = some (.slice p6 (awH.getD 6 []).length q6) := by simp [go_sem]
 have HWK := Lib.hid (week_any _ _ _ _ _ _ _ awH _ HRA.out)
 rw [HS.out] at HWK
 clear hba hb1 hrd hov HPA
 go_wp2_with fail
 refine HWK.out.mono ?_
 rintro e w2 ⟨vl, vr, vv, rfl, hst, hb2⟩
 obtain ⟨l1, l2, l3⟩ := hst
 obtain ⟨a1, b1, rfl⟩ := l1.form
 obtain ⟨a2, b2, rfl⟩ := l2.form
 obtain ⟨a3, b3, rfl⟩ := l3.form
 have hst : RdSt w2 S (.slice a1 S.lf.2.length b1) (.slice a2 S.rt.2.length b2) (.slice a3 S.l.length b3) := ⟨l1, l2, l3⟩
 have d5 := keepCell hb2 c5
 have HB2 := Lib.hid (keepBelow HBA.out hb2)
 have hbb : Below w2.heap.size w2 (w2.alloc (.cells #[.int .i64 S.lf.1, .slice a1 S.lf.2.length b1, .int .i64 S.rt.1, .slice a2 S.rt.2.length b2, .int .i64 S.fr, .int .i64 S.to, .slice a3 S.l.length b3] 31)) := (Below.refl _ _).alloc (Nat.le_refl _) _
 obtain ⟨W, hW⟩ : ∃ W, w2.alloc (.cells #[.int .i64 S.lf.1, .slice a1 S.lf.2.length b1, .int .i64 S.rt.1, .slice a2 S.rt.2.length b2, .int .i64 S.fr, .int .i64 S.to, .slice a3 S.l.length b3] 31) = W := ⟨_, rfl⟩
 have g0 : W.cell? ⟨w2.heap.size, 0, none⟩ = some (.int .i64 S.lf.1) := by rw [← hW]; simp [go_sem]
 have g1 : W.cell? ⟨w2.heap.size, 1, none⟩ = some (.slice a1 S.lf.2.length b1) := by rw [← hW]; simp [go_sem]
 have g2 : W.cell? ⟨w2.heap.size, 2, none⟩ = some (.int .i64 S.rt.1) := by rw [← hW]; simp [go_sem]
 have g3 : W.cell? ⟨w2.heap.size, 3, none⟩ = some (.slice a2 S.rt.2.length b2) := by rw [← hW]; simp [go_sem]
 have g4 : W.cell? ⟨w2.heap.size, 4, none⟩ = some (.int .i64 S.fr) := by rw [← hW]; simp [go_sem]
 have g5 : W.cell? ⟨w2.heap.size, 5, none⟩ = some (.int .i64 S.to) := by rw [← hW]; simp [go_sem]
 have g6 : W.cell? ⟨w2.heap.size, 6, none⟩ = some (.slice a3 S.l.length b3) := by rw [← hW]; simp [go_sem]
 rw [hW] at hbb
 have HE := Lib.hid hW
 have HSW := Lib.hid (keepSt hbb hst)
 have HBW := Lib.hid (keepBelow HB2.out hbb)
 have k5 := keepCell hbb d5
 have e5 : (awH.getD 5 []).length = 1 := rfl
 rw [e5] at k5
 clear hW hst l1 l2 l3 hbb hb2 c0 c1 c2 c3 c4 c5 c6 HWK d5
 go_wp2_with fail
 rw [HE.out]
 go_wp2_with fail
 refine (HH1.out _ _ _ _ HSW.out).mono ?_
 rintro e w3 ⟨rfl, hb3⟩
 have HS3 := Lib.hid (keepSt hb3 HSW.out)
 have m0 := keepCell hb3 g0
 have m1 := keepCell hb3 g1
 have m2 := keepCell hb3 g2
 have m3 := keepCell hb3 g3
 have m4 := keepCell hb3 g4
 have m5 := keepCell hb3 g5
 have m6 := keepCell hb3 g6
 have k6 := keepCell hb3 k5
 have HB3 := Lib.hid (keepBelow HBW.out hb3)
 clear hb3 g0 g1 g2 g3 g4 g5 g6 k5
 go_wp2_with fail
 refine (HH2.out _ _ _ _ HS3.out).mono ?_
 rintro e w4 ⟨rfl, hb4⟩
 have k7 := keepCell hb4 k6
 have HB4 := Lib.hid (keepBelow HB3.out hb4)
 clear hb4
 go_wp2_with fail
 go_ret
 exact ⟨rfl, HB4.out⟩
end Go.Proofs.YtmfdnbfjdhlonaaGreatDoor
