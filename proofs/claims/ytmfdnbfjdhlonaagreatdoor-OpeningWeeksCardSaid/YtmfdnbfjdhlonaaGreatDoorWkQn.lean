import Derived.Test.YtmfdnbfjdhlonaaGreatDoorWkQm
import Derived.Test.YtmfdnbfjdhlonaaGreatDoorWkQl
import Derived.Test.YtmfdnbfjdhlonaaGreatDoorWkRfC
/- few hours; the law OpeningWeeks. -/
namespace Go.Proofs.YtmfdnbfjdhlonaaGreatDoor
open Go.RowKit Wk

set_option maxRecDepth 100000 in
set_option maxHeartbeats 1000000 in
theorem few1_any (a : Option Addr) (n c : Nat) (w : World) :
  Calls Tryz.prog 34 #[.slice a n c] w fun e w' => e = .returned (.bool (decide ((30 : Int) < n))) ∧ w' = w := by
 go_enter Tryz.func34, Tryz.ntmps34
 go_wp2_with fail
 go_ret
 exact ⟨rfl, rfl⟩
def few30 (H : List (List Sp)) : Bool := H.all fun l => decide (l.length ≤ 30)
theorem few30_iff {H : List (List Sp)} (hH : H.length = 7) : few30 H = true ↔ ∀ k, k < 7 → (H.getD k []).length ≤ 30 := by
 unfold few30
 rw [List.all_eq_true]
 constructor
 ·intro h k hk
  have := h (H.getD k []) (by rw [List.getD_eq_getElem?_getD, List.getElem?_eq_getElem (by omega)]; exact List.getElem_mem _)
  simpa using this
 ·intro h x hx
  obtain ⟨i, hi, rfl⟩ := List.getElem_of_mem hx
  have := h i (by omega)
  rw [List.getD_eq_getElem?_getD, List.getElem?_eq_getElem hi] at this
  simpa using this
set_option maxRecDepth 100000 in
set_option maxHeartbeats 1000000 in
theorem idxH_any (b : Nat) (H : List (List Sp)) (w : World) (hH : H.length = 7) (h : BoxR w b H) :
  Calls Tryz.prog 69 #[.slice (some ⟨b, 0, none⟩) 7 7, .func (.func 34) #[] #[]] w fun e w' => (∃ r : Int, e = .returned (.int .i64 r) ∧ decide (0 ≤ r) = !few30 H) ∧ w' = w := by
 have HF := Lib.hid (fun a n c W => few1_any a n c W)
 have HB := Lib.hid h
 have HHL := Lib.hid hH
 clear h hH
 go_enter Tryz.func69, Tryz.ntmps69
 go_wp2_with fail
 go_loopw [5, 8] (fun _ u wr => ∃ k : Nat, u = .int .i64 k ∧ k ≤ 7 ∧ Hid (∀ j, j < k → (H.getD j []).length ≤ 30) ∧ wr = w) (fun _ u _ => 7 - (intOf u).toNat)
 case atStart => exact ⟨0, rfl, by omega, Lib.hid (fun j hj => absurd hj (by omega)), rfl⟩
 case round =>
  obtain ⟨k, rfl, hk, HZ, hw⟩ := hrel
  subst hw
  by_cases hlt : k < 7
  ·have hlt' : (k : Int) < 7 := by omega
   obtain ⟨a, c, hc, -⟩ := HB.out k hlt
   by_cases h30 : 30 < (H.getD k []).length
   ·have hd : decide ((30 : Int) < (H.getD k []).length) = true := decide_eq_true (by omega)
    have HFk := Lib.hid (HF.out a (H.getD k []).length c wr)
    rw [hd] at HFk
    have HN : Hid (few30 H = false) := Lib.hid (by
     cases e : few30 H with
     | false => rfl
     | true => have := (few30_iff HHL.out).1 e k hlt; omega)
    clear hd h30
    go_wp2_with (refine HFk.out.mono ?_; rintro e w1 ⟨rfl, hw⟩; rw [hw]; clear hw)
    go_ret
    exact ⟨⟨k, rfl, by rw [HN.out]; simp⟩, rfl⟩
   ·have hd : decide ((30 : Int) < (H.getD k []).length) = false := decide_eq_false (by omega)
    have HFk := Lib.hid (HF.out a (H.getD k []).length c wr)
    rw [hd] at HFk
    have HK := Lib.hid h30
    clear hd h30
    go_wp2_with (refine HFk.out.mono ?_; rintro e w1 ⟨rfl, hw⟩; rw [hw]; clear hw)
    go_roundw
    case rel =>
     refine ⟨k + 1, by go_num, by omega, Lib.hid fun j hj => ?_, trivial⟩
     rcases Nat.lt_succ_iff_lt_or_eq.1 hj with h | rfl
     ·exact HZ.out j h
     ·have := HK.out; omega
    case measure => simp [intOf]; omega
  ·have hk7 : k = 7 := by omega
   have HN : Hid (few30 H = true) := Lib.hid ((few30_iff HHL.out).2 fun j hj => HZ.out j (by omega))
   subst hk7
   go_wp2_with fail
   go_ret
   exact ⟨⟨-1, rfl, by rw [HN.out]; simp⟩, rfl⟩
set_option maxRecDepth 100000 in
set_option maxHeartbeats 1000000 in
theorem fewH_any (v0 v1 v2 v3 v4 v5 v6 : Value) (H : List (List Sp)) (w : World) (h : RdH w [v0, v1, v2, v3, v4, v5, v6] H) :
  Calls Tryz.prog 10 #[.agg #[v0, v1, v2, v3, v4, v5, v6]] w fun e w' => e = .returned (.bool (few30 H)) ∧ Below w.heap.size w w' := by
 obtain ⟨W, hWe⟩ : ∃ W, w.alloc (.cells #[v0, v1, v2, v3, v4, v5, v6] 25) = W := ⟨_, rfl⟩
 have hB0 : Below w.heap.size w W := by rw [← hWe]; exact (Below.refl _ w).alloc (Nat.le_refl _) _
 have c0 : W.cell? ⟨w.heap.size, 0, none⟩ = some v0 := by rw [← hWe]; simp [go_sem]
 have c1 : W.cell? ⟨w.heap.size, 1, none⟩ = some v1 := by rw [← hWe]; simp [go_sem]
 have c2 : W.cell? ⟨w.heap.size, 2, none⟩ = some v2 := by rw [← hWe]; simp [go_sem]
 have c3 : W.cell? ⟨w.heap.size, 3, none⟩ = some v3 := by rw [← hWe]; simp [go_sem]
 have c4 : W.cell? ⟨w.heap.size, 4, none⟩ = some v4 := by rw [← hWe]; simp [go_sem]
 have c5 : W.cell? ⟨w.heap.size, 5, none⟩ = some v5 := by rw [← hWe]; simp [go_sem]
 have c6 : W.cell? ⟨w.heap.size, 6, none⟩ = some v6 := by rw [← hWe]; simp [go_sem]
 have HBR := Lib.hid ((h.below hB0).box c0 c1 c2 c3 c4 c5 c6)
 have HIX := Lib.hid (idxH_any w.heap.size H W h.2.1 HBR.out)
 obtain ⟨q, hq⟩ : ∃ q, few30 H = q := ⟨_, rfl⟩
 rw [hq] at HIX ⊢
 have HC : Hid (Calls Tryz.prog 33 #[.slice (some ⟨w.heap.size, 0, none⟩) 7 7, .func (.func 34) #[] #[]] W fun e w' => e = .returned (.bool (!q)) ∧ w' = W) := by
  refine Lib.hid ?_
  go_enter Tryz.func33, Tryz.ntmps33
  go_wp2_with fail
  refine HIX.out.mono ?_
  rintro e w1 ⟨⟨r, rfl, hr⟩, hw⟩
  have HR := Lib.hid hr
  clear hr
  go_wp2_with fail
  go_ret
  exact ⟨ret_bool HR.out, by first | exact hw | rfl⟩
 have HE := Lib.hid hWe
 clear hWe c0 c1 c2 c3 c4 c5 c6 HIX HBR
 go_enter Tryz.func10, Tryz.ntmps10
 go_wp2_with fail
 rw [HE.out]
 go_wp2_with fail
 refine HC.out.mono ?_
 rintro e w1 ⟨rfl, hw⟩
 rw [hw]
 go_wp2_with fail
 go_ret
 exact ⟨ret_bool (by simp), hB0⟩
theorem sameB_self (s : St) : sameB s s = true := by unfold sameB; simp
set_option maxRecDepth 100000 in
set_option maxHeartbeats 8000000 in
theorem law_OpeningWeeks (v0 v1 v2 v3 v4 v5 v6 : Value) (H : List (List Sp)) (w : World) (hg : Glob w) (h : RdH w [v0, v1, v2, v3, v4, v5, v6] H) :
  Calls Tryz.prog 3 #[.agg #[v0, v1, v2, v3, v4, v5, v6]] w fun e w' => e = .returned (.bool true) ∧ Below w.heap.size w w' := by
 have hH := h.2.1
 obtain ⟨W, hWe⟩ : ∃ W, w.alloc (.cells #[v0, v1, v2, v3, v4, v5, v6] 25) = W := ⟨_, rfl⟩
 have hB0 : Below w.heap.size w W := by rw [← hWe]; exact (Below.refl _ w).alloc (Nat.le_refl _) _
 have c0 : W.cell? ⟨w.heap.size, 0, none⟩ = some v0 := by rw [← hWe]; simp [go_sem]
 have c1 : W.cell? ⟨w.heap.size, 1, none⟩ = some v1 := by rw [← hWe]; simp [go_sem]
 have c2 : W.cell? ⟨w.heap.size, 2, none⟩ = some v2 := by rw [← hWe]; simp [go_sem]
 have c3 : W.cell? ⟨w.heap.size, 3, none⟩ = some v3 := by rw [← hWe]; simp [go_sem]
 have c4 : W.cell? ⟨w.heap.size, 4, none⟩ = some v4 := by rw [← hWe]; simp [go_sem]
 have c5 : W.cell? ⟨w.heap.size, 5, none⟩ = some v5 := by rw [← hWe]; simp [go_sem]
 have c6 : W.cell? ⟨w.heap.size, 6, none⟩ = some v6 := by rw [← hWe]; simp [go_sem]
 have HR0 := Lib.hid (h.below hB0)
 have HAW := Lib.hid (awake27_any W (hg.below hB0))
 have HE := Lib.hid hWe
 have HHL := Lib.hid hH
 clear hWe h hg
 go_enter Tryz.func3, Tryz.ntmps3
 go_wp2_with fail
 rw [HE.out]
 go_wp2_with fail
 refine HAW.out.mono ?_
 rintro e w1 ⟨rfl, hb1⟩
 have HR1 := Lib.hid (HR0.out.below hb1)
 have HB1 := Lib.hid (keepBelow hB0 hb1)
 have d0 := keepCell hb1 c0
 have d1 := keepCell hb1 c1
 have d2 := keepCell hb1 c2
 have d3 := keepCell hb1 c3
 have d4 := keepCell hb1 c4
 have d5 := keepCell hb1 c5
 have d6 := keepCell hb1 c6
 have HFE := Lib.hid (fewH_any _ _ _ _ _ _ _ H w1 HR1.out)
 obtain ⟨q, hq⟩ : ∃ q, few30 H = q := ⟨_, rfl⟩
 rw [hq] at HFE
 clear hb1 hB0 HAW HE c0 c1 c2 c3 c4 c5 c6 hq
 go_wp2_with fail
 refine HFE.out.mono ?_
 rintro e w2 ⟨rfl, hb2⟩
 have HR2 := Lib.hid (HR1.out.below hb2)
 have HB2 := Lib.hid (keepBelow HB1.out hb2)
 have g0 := keepCell hb2 d0
 have g1 := keepCell hb2 d1
 have g2 := keepCell hb2 d2
 have g3 := keepCell hb2 d3
 have g4 := keepCell hb2 d4
 have g5 := keepCell hb2 d5
 have g6 := keepCell hb2 d6
 clear hb2 d0 d1 d2 d3 d4 d5 d6 HFE HR0
 cases q with
 | false =>
  go_wp2_with fail
  go_ret
  exact ⟨rfl, HB2.out⟩
 | true =>
  have HW := Lib.hid (week_any _ _ _ _ _ _ _ H w2 HR2.out)
  have hws := week_same HHL.out
  obtain ⟨⟨S, n⟩, hS⟩ : ∃ r, weekM 4 H = r := ⟨_, rfl⟩
  have HWR := Lib.hid (fun W h => week27_any _ _ _ _ _ _ _ H W (h : RdH W [v0, v1, v2, v3, v4, v5, v6] H))
  rw [← hws, hS] at HWR
  rw [hS] at HW
  clear hws hS
  go_wp2_with fail
  refine HW.out.mono ?_
  rintro e w3 ⟨vl, vr, vv, rfl, hst, hb3⟩
  obtain ⟨l1, l2, l3⟩ := hst
  obtain ⟨a1, b1, rfl⟩ := l1.form
  obtain ⟨a2, b2, rfl⟩ := l2.form
  obtain ⟨a3, b3, rfl⟩ := l3.form
  have hbb : Below w3.heap.size w3 (w3.alloc (.cells #[.int .i64 S.lf.1, .slice a1 S.lf.2.length b1, .int .i64 S.rt.1, .slice a2 S.rt.2.length b2, .int .i64 S.fr, .int .i64 S.to, .slice a3 S.l.length b3] 31)) := (Below.refl _ _).alloc (Nat.le_refl _) _
  have s0 : (w3.alloc (.cells #[.int .i64 S.lf.1, .slice a1 S.lf.2.length b1, .int .i64 S.rt.1, .slice a2 S.rt.2.length b2, .int .i64 S.fr, .int .i64 S.to, .slice a3 S.l.length b3] 31)).cell? ⟨w3.heap.size, 0, none⟩ = some (.int .i64 S.lf.1) := by simp [go_sem]
  have s1 : (w3.alloc (.cells #[.int .i64 S.lf.1, .slice a1 S.lf.2.length b1, .int .i64 S.rt.1, .slice a2 S.rt.2.length b2, .int .i64 S.fr, .int .i64 S.to, .slice a3 S.l.length b3] 31)).cell? ⟨w3.heap.size, 1, none⟩ = some (.slice a1 S.lf.2.length b1) := by simp [go_sem]
  have s2 : (w3.alloc (.cells #[.int .i64 S.lf.1, .slice a1 S.lf.2.length b1, .int .i64 S.rt.1, .slice a2 S.rt.2.length b2, .int .i64 S.fr, .int .i64 S.to, .slice a3 S.l.length b3] 31)).cell? ⟨w3.heap.size, 2, none⟩ = some (.int .i64 S.rt.1) := by simp [go_sem]
  have s3 : (w3.alloc (.cells #[.int .i64 S.lf.1, .slice a1 S.lf.2.length b1, .int .i64 S.rt.1, .slice a2 S.rt.2.length b2, .int .i64 S.fr, .int .i64 S.to, .slice a3 S.l.length b3] 31)).cell? ⟨w3.heap.size, 3, none⟩ = some (.slice a2 S.rt.2.length b2) := by simp [go_sem]
  have s4 : (w3.alloc (.cells #[.int .i64 S.lf.1, .slice a1 S.lf.2.length b1, .int .i64 S.rt.1, .slice a2 S.rt.2.length b2, .int .i64 S.fr, .int .i64 S.to, .slice a3 S.l.length b3] 31)).cell? ⟨w3.heap.size, 4, none⟩ = some (.int .i64 S.fr) := by simp [go_sem]
  have s5 : (w3.alloc (.cells #[.int .i64 S.lf.1, .slice a1 S.lf.2.length b1, .int .i64 S.rt.1, .slice a2 S.rt.2.length b2, .int .i64 S.fr, .int .i64 S.to, .slice a3 S.l.length b3] 31)).cell? ⟨w3.heap.size, 5, none⟩ = some (.int .i64 S.to) := by simp [go_sem]
  have s6 : (w3.alloc (.cells #[.int .i64 S.lf.1, .slice a1 S.lf.2.length b1, .int .i64 S.rt.1, .slice a2 S.rt.2.length b2, .int .i64 S.fr, .int .i64 S.to, .slice a3 S.l.length b3] 31)).cell? ⟨w3.heap.size, 6, none⟩ = some (.slice a3 S.l.length b3) := by simp [go_sem]
  have HS3 : Hid (RdSt (w3.alloc (.cells #[.int .i64 S.lf.1, .slice a1 S.lf.2.length b1, .int .i64 S.rt.1, .slice a2 S.rt.2.length b2, .int .i64 S.fr, .int .i64 S.to, .slice a3 S.l.length b3] 31)) S (.slice a1 S.lf.2.length b1) (.slice a2 S.rt.2.length b2) (.slice a3 S.l.length b3)) := Lib.hid (keepSt hbb ⟨l1, l2, l3⟩)
  have HR3 := Lib.hid ((HR2.out.below hb3).below hbb)
  have HB3 := Lib.hid (keepBelow (keepBelow HB2.out hb3) hbb)
  have k0 := keepCell hbb (keepCell hb3 g0)
  have k1 := keepCell hbb (keepCell hb3 g1)
  have k2 := keepCell hbb (keepCell hb3 g2)
  have k3 := keepCell hbb (keepCell hb3 g3)
  have k4 := keepCell hbb (keepCell hb3 g4)
  have k5 := keepCell hbb (keepCell hb3 g5)
  have k6 := keepCell hbb (keepCell hb3 g6)
  clear hb3 hbb l1 l2 l3 g0 g1 g2 g3 g4 g5 g6 HW
  have HWR2 := Lib.hid (HWR.out _ HR3.out)
  go_wp2_with fail
  refine HWR2.out.mono ?_
  rintro e w4 ⟨vl, vr, vv, rfl, hst, hb4⟩
  obtain ⟨l1, l2, l3⟩ := hst
  obtain ⟨a4, b4, rfl⟩ := l1.form
  obtain ⟨a5, b5, rfl⟩ := l2.form
  obtain ⟨a6, b6, rfl⟩ := l3.form
  have hbb : Below w4.heap.size w4 (w4.alloc (.cells #[.int .i64 S.lf.1, .slice a4 S.lf.2.length b4, .int .i64 S.rt.1, .slice a5 S.rt.2.length b5, .int .i64 S.fr, .int .i64 S.to, .slice a6 S.l.length b6] 31)) := (Below.refl _ _).alloc (Nat.le_refl _) _
  have t0 : (w4.alloc (.cells #[.int .i64 S.lf.1, .slice a4 S.lf.2.length b4, .int .i64 S.rt.1, .slice a5 S.rt.2.length b5, .int .i64 S.fr, .int .i64 S.to, .slice a6 S.l.length b6] 31)).cell? ⟨w4.heap.size, 0, none⟩ = some (.int .i64 S.lf.1) := by simp [go_sem]
  have t1 : (w4.alloc (.cells #[.int .i64 S.lf.1, .slice a4 S.lf.2.length b4, .int .i64 S.rt.1, .slice a5 S.rt.2.length b5, .int .i64 S.fr, .int .i64 S.to, .slice a6 S.l.length b6] 31)).cell? ⟨w4.heap.size, 1, none⟩ = some (.slice a4 S.lf.2.length b4) := by simp [go_sem]
  have t2 : (w4.alloc (.cells #[.int .i64 S.lf.1, .slice a4 S.lf.2.length b4, .int .i64 S.rt.1, .slice a5 S.rt.2.length b5, .int .i64 S.fr, .int .i64 S.to, .slice a6 S.l.length b6] 31)).cell? ⟨w4.heap.size, 2, none⟩ = some (.int .i64 S.rt.1) := by simp [go_sem]
  have t3 : (w4.alloc (.cells #[.int .i64 S.lf.1, .slice a4 S.lf.2.length b4, .int .i64 S.rt.1, .slice a5 S.rt.2.length b5, .int .i64 S.fr, .int .i64 S.to, .slice a6 S.l.length b6] 31)).cell? ⟨w4.heap.size, 3, none⟩ = some (.slice a5 S.rt.2.length b5) := by simp [go_sem]
  have t4 : (w4.alloc (.cells #[.int .i64 S.lf.1, .slice a4 S.lf.2.length b4, .int .i64 S.rt.1, .slice a5 S.rt.2.length b5, .int .i64 S.fr, .int .i64 S.to, .slice a6 S.l.length b6] 31)).cell? ⟨w4.heap.size, 4, none⟩ = some (.int .i64 S.fr) := by simp [go_sem]
  have t5 : (w4.alloc (.cells #[.int .i64 S.lf.1, .slice a4 S.lf.2.length b4, .int .i64 S.rt.1, .slice a5 S.rt.2.length b5, .int .i64 S.fr, .int .i64 S.to, .slice a6 S.l.length b6] 31)).cell? ⟨w4.heap.size, 5, none⟩ = some (.int .i64 S.to) := by simp [go_sem]
  have t6 : (w4.alloc (.cells #[.int .i64 S.lf.1, .slice a4 S.lf.2.length b4, .int .i64 S.rt.1, .slice a5 S.rt.2.length b5, .int .i64 S.fr, .int .i64 S.to, .slice a6 S.l.length b6] 31)).cell? ⟨w4.heap.size, 6, none⟩ = some (.slice a6 S.l.length b6) := by simp [go_sem]
  have HS4 : Hid (RdSt (w4.alloc (.cells #[.int .i64 S.lf.1, .slice a4 S.lf.2.length b4, .int .i64 S.rt.1, .slice a5 S.rt.2.length b5, .int .i64 S.fr, .int .i64 S.to, .slice a6 S.l.length b6] 31)) S (.slice a4 S.lf.2.length b4) (.slice a5 S.rt.2.length b5) (.slice a6 S.l.length b6)) := Lib.hid (keepSt hbb ⟨l1, l2, l3⟩)
  have HS5 := Lib.hid (keepSt hbb (keepSt hb4 HS3.out))
  have HR4 := Lib.hid ((HR3.out.below hb4).below hbb)
  have HB4 := Lib.hid (keepBelow (keepBelow HB3.out hb4) hbb)
  have x0 := ext_cell (keepCell hbb (keepCell hb4 k0))
  have x1 := ext_cell (keepCell hbb (keepCell hb4 k1))
  have x2 := ext_cell (keepCell hbb (keepCell hb4 k2))
  have x3 := ext_cell (keepCell hbb (keepCell hb4 k3))
  have x4 := ext_cell (keepCell hbb (keepCell hb4 k4))
  have x5 := ext_cell (keepCell hbb (keepCell hb4 k5))
  have x6 := ext_cell (keepCell hbb (keepCell hb4 k6))
  have y0 := ext_cell (keepCell hbb (keepCell hb4 s0))
  have y1 := ext_cell (keepCell hbb (keepCell hb4 s1))
  have y2 := ext_cell (keepCell hbb (keepCell hb4 s2))
  have y3 := ext_cell (keepCell hbb (keepCell hb4 s3))
  have y4 := ext_cell (keepCell hbb (keepCell hb4 s4))
  have y5 := ext_cell (keepCell hbb (keepCell hb4 s5))
  have y6 := ext_cell (keepCell hbb (keepCell hb4 s6))
  have z0 := ext_cell t0
  have z1 := ext_cell t1
  have z2 := ext_cell t2
  have z3 := ext_cell t3
  have z4 := ext_cell t4
  have z5 := ext_cell t5
  have z6 := ext_cell t6
  have HSM : Hid (∀ X : Ext (w4.alloc (.cells #[.int .i64 S.lf.1, .slice a4 S.lf.2.length b4, .int .i64 S.rt.1, .slice a5 S.rt.2.length b5, .int .i64 S.fr, .int .i64 S.to, .slice a6 S.l.length b6] 31)), Calls Tryz.prog 13 #[.agg #[.int .i64 S.lf.1, .slice a1 S.lf.2.length b1, .int .i64 S.rt.1, .slice a2 S.rt.2.length b2, .int .i64 S.fr, .int .i64 S.to, .slice a3 S.l.length b3], .agg #[.int .i64 S.lf.1, .slice a4 S.lf.2.length b4, .int .i64 S.rt.1, .slice a5 S.rt.2.length b5, .int .i64 S.fr, .int .i64 S.to, .slice a6 S.l.length b6]] (extOf _ X) fun e w' => e = .returned (.bool true) ∧ Below (extOf _ X).heap.size (extOf _ X) w') := Lib.hid fun X => by
   have := same14_any S S _ _ _ _ _ _ (extOf _ X) (keepSt X.2 HS5.out) (keepSt X.2 HS4.out)
   rw [sameB_self] at this
   exact this
  obtain ⟨o, ho⟩ : ∃ o, okH H = o := ⟨_, rfl⟩
  have HV1 := Lib.hid (fun X : Ext (w4.alloc (.cells #[.int .i64 S.lf.1, .slice a4 S.lf.2.length b4, .int .i64 S.rt.1, .slice a5 S.rt.2.length b5, .int .i64 S.fr, .int .i64 S.to, .slice a6 S.l.length b6] 31)) => ovalid_any _ _ _ _ _ _ _ H (extOf _ X) (HR4.out.below X.2))
  have HV2 := Lib.hid (fun X : Ext (w4.alloc (.cells #[.int .i64 S.lf.1, .slice a4 S.lf.2.length b4, .int .i64 S.rt.1, .slice a5 S.rt.2.length b5, .int .i64 S.fr, .int .i64 S.to, .slice a6 S.l.length b6] 31)) => valid27_any _ _ _ _ _ _ _ H (extOf _ X) (HR4.out.below X.2))
  rw [ho] at HV1 HV2
  have hnn : (n == n) = true := by simp
  have hoo : (o == o) = true := by simp
  clear hb4 hbb l1 l2 l3 k0 k1 k2 k3 k4 k5 k6 s0 s1 s2 s3 s4 s5 s6 t0 t1 t2 t3 t4 t5 t6 HWR HWR2 ho
  go_wp2_with fail
  refine wp_region_ext (by kernel_rfl) (by kernel_rfl) ?_
  repeat (go_big_quiet_step ((first | (go_at_call 13; refine calls_ext (HSM.out _)) | (go_at_call 14; refine calls_ext (HV1.out _)) | (go_at_call 15; refine calls_ext (HV2.out _)))))
  refine wpQuiet_nil ?_
  intro w9 hb9
  go_wp2
  go_ret
  exact ⟨rfl, HB4.out.trans (hb9.mono HB4.out.size)⟩
end Go.Proofs.YtmfdnbfjdhlonaaGreatDoor
