import Derived.Test.YtkfonfheakpcbaaGreatWkCom
/- timeset: pair, copyOf, pure. -/
namespace Go.Proofs.YtkfonfheakpcbaaGreat
open Go.RowKit Wk

set_option maxHeartbeats 1000000 in
theorem pair_any (P Q : Int) (v k : Value) (l m : List Sp) (w : World) (h1 : RdS w v l) (h2 : RdS w k m) (hv1 : pvB P l = true) (hv2 : pvB Q m = true) :
    Calls Tryz.prog 104 #[.agg #[.int .i64 P, v], .agg #[.int .i64 Q, k]] w fun e w' => e = .returned (.int .i64 (pairM P l Q m)) ∧ Below w.heap.size w w' := by
  obtain ⟨hrv1, hP1, hP2, _⟩ := rvB_of_pvB hv1
  obtain ⟨hrv2, hQ1, hQ2, _⟩ := rvB_of_pvB hv2
  have hl1 := (canon_of_rvB hrv1).2.2
  have hl2 := (canon_of_rvB hrv2).2.2
  have H1 := Lib.hid (fun W h h' => pequal_any P Q v k l m W h h')
  have H2 := Lib.hid (fun W => common_any P Q W hP1 hP2 hQ1 hQ2)
  clear hrv1 hrv2 hv1 hv2
  obtain ⟨a, c, rfl⟩ := h1.form
  obtain ⟨a', c', rfl⟩ := h2.form
  obtain ⟨W, hWe⟩ : ∃ W, (w.alloc (.cells #[.int .i64 P, .slice a l.length c] 24)).alloc (.cells #[.int .i64 Q, .slice a' m.length c'] 24) = W := ⟨_, rfl⟩
  have hB0 : Below w.heap.size w W := by rw [← hWe]; exact ((Below.refl _ w).alloc (Nat.le_refl _) _).alloc (by simp) _
  have c0 : W.cell? ⟨w.heap.size, 0, none⟩ = some (.int .i64 P) := by rw [← hWe]; simp [go_sem]
  have c1 : W.cell? ⟨w.heap.size, 1, none⟩ = some (.slice a l.length c) := by rw [← hWe]; simp [go_sem]
  have c2 : W.cell? ⟨w.heap.size + 1, 0, none⟩ = some (.int .i64 Q) := by rw [← hWe]; simp [go_sem]
  have c3 : W.cell? ⟨w.heap.size + 1, 1, none⟩ = some (.slice a' m.length c') := by rw [← hWe]; simp [go_sem]
  have HR1 := Lib.hid (keepRd hB0 h1)
  have HR2 := Lib.hid (keepRd hB0 h2)
  have HE := Lib.hid hWe
  clear hWe h1 h2
  cases he : peB P l Q m with
  | true =>
    have HP : Hid (pairM P l Q m = 0) := by unfold Hid pairM; rw [if_pos he]
    rw [he] at H1
    clear he
    go_enter Tryz.func104, Tryz.ntmps104
    go_wp2_with fail
    rw [HE.out]
    go_wp2_with fail
    refine (H1.out _ HR1.out HR2.out).mono ?_
    rintro e w1 ⟨rfl, hb1⟩
    go_wp2
    go_ret
    exact ⟨ret_int HP.out.symm, keepBelow hB0 hb1⟩
  | false =>
    have hcb := commonM_bd hP1 hQ1
    obtain ⟨cm, hcm⟩ : ∃ cm, commonM P Q = cm := ⟨_, rfl⟩
    rw [hcm] at hcb H2
    by_cases hbig : 12622780800 < cm
    · have HP : Hid (pairM P l Q m = 9) := by unfold Hid pairM; rw [he, hcm, if_neg (by simp), if_pos hbig]
      have g1 : decide (12622780800 < cm) = true := by simpa using hbig
      rw [he] at H1
      clear he
      go_enter Tryz.func104, Tryz.ntmps104
      go_wp2_with fail
      rw [HE.out]
      go_wp2_with fail
      refine (H1.out _ HR1.out HR2.out).mono ?_
      rintro e w1 ⟨rfl, hb1⟩
      have hB1 := keepBelow hB0 hb1
      have d0 := keepCell hb1 c0
      have d2 := keepCell hb1 c2
      clear hb1 c0 c1 c2 c3
      go_wp2_with fail
      refine (H2.out _).mono ?_
      rintro e w2 ⟨rfl, hb2⟩
      go_wp2
      go_ret
      exact ⟨ret_int HP.out.symm, keepBelow hB1 hb2⟩
    · have HP : Hid (pairM P l Q m = if 2000 < cm / P * l.length + cm / Q * m.length then 5 else 0) := by unfold Hid pairM; rw [he, hcm, if_neg (by simp), if_neg hbig]
      have g1 : decide (12622780800 < cm) = false := by simpa using hbig
      rw [he] at H1
      clear he
      have e1 : Int.tdiv cm P = cm / P := Int.tdiv_eq_ediv_of_nonneg (by omega)
      have e2 : Int.tdiv cm Q = cm / Q := Int.tdiv_eq_ediv_of_nonneg (by omega)
      have hP0 : (P == 0) = false := by simp; omega
      have hQ0 : (Q == 0) = false := by simp; omega
      obtain ⟨q, hq⟩ : ∃ q, cm / P = q := ⟨_, rfl⟩
      obtain ⟨r, hr⟩ : ∃ r, cm / Q = r := ⟨_, rfl⟩
      have hq0 : 0 ≤ q := by rw [← hq]; exact Int.ediv_nonneg (by omega) (by omega)
      have hqm : q ≤ cm := by rw [← hq]; exact Int.ediv_le_self _ (by omega)
      have hr0 : 0 ≤ r := by rw [← hr]; exact Int.ediv_nonneg (by omega) (by omega)
      have hrm : r ≤ cm := by rw [← hr]; exact Int.ediv_le_self _ (by omega)
      rw [hq] at e1 HP
      rw [hr] at e2 HP
      have p1 : q * l.length ≤ 12622780801 * 2000 := Int.mul_le_mul (by omega) (by omega) (by omega) (by omega)
      have p2 : r * m.length ≤ 12622780801 * 2000 := Int.mul_le_mul (by omega) (by omega) (by omega) (by omega)
      have p3 : 0 ≤ q * l.length := Int.mul_nonneg hq0 (by omega)
      have p4 : 0 ≤ r * m.length := Int.mul_nonneg hr0 (by omega)
      have s1 : IntKind.i64.wrap (q * l.length) = q * l.length := by rw [IntKind.wrap_i64]; omega
      have s2 : IntKind.i64.wrap (r * m.length) = r * m.length := by rw [IntKind.wrap_i64]; omega
      have s3 : IntKind.i64.wrap (q * l.length + r * m.length) = q * l.length + r * m.length := by rw [IntKind.wrap_i64]; omega
      clear hq hr hcm
      cases hd : decide (2000 < q * (l.length : Int) + r * (m.length : Int)) with
      | true =>
        rw [if_pos (by simpa using hd)] at HP
        go_enter Tryz.func104, Tryz.ntmps104
        go_wp2_with fail
        rw [HE.out]
        go_wp2_with fail
        refine (H1.out _ HR1.out HR2.out).mono ?_
        rintro e w1 ⟨rfl, hb1⟩
        have hB1 := keepBelow hB0 hb1
        have d0 := keepCell hb1 c0
        have d1 := keepCell hb1 c1
        have d2 := keepCell hb1 c2
        have d3 := keepCell hb1 c3
        clear hb1 c0 c1 c2 c3
        go_wp2_with fail
        refine (H2.out _).mono ?_
        rintro e w2 ⟨rfl, hb2⟩
        have hB2 := keepBelow hB1 hb2
        have t0 := ext_cell (keepCell hb2 d0)
        have t1 := ext_cell (keepCell hb2 d1)
        have t2 := ext_cell (keepCell hb2 d2)
        have t3 := ext_cell (keepCell hb2 d3)
        clear hb2 d0 d1 d2 d3
        go_wp2_with fail
        refine wp_region_ext (by kernel_rfl) (by kernel_rfl) ?_
        repeat (go_big_quiet_step (fail))
        refine wpQuiet_nil ?_
        intro w3 hb3
        go_wp2
        go_ret
        exact ⟨ret_int HP.out.symm, keepBelow hB2 hb3⟩
      | false =>
        rw [if_neg (by simpa using hd)] at HP
        go_enter Tryz.func104, Tryz.ntmps104
        go_wp2_with fail
        rw [HE.out]
        go_wp2_with fail
        refine (H1.out _ HR1.out HR2.out).mono ?_
        rintro e w1 ⟨rfl, hb1⟩
        have hB1 := keepBelow hB0 hb1
        have d0 := keepCell hb1 c0
        have d1 := keepCell hb1 c1
        have d2 := keepCell hb1 c2
        have d3 := keepCell hb1 c3
        clear hb1 c0 c1 c2 c3
        go_wp2_with fail
        refine (H2.out _).mono ?_
        rintro e w2 ⟨rfl, hb2⟩
        have hB2 := keepBelow hB1 hb2
        have t0 := ext_cell (keepCell hb2 d0)
        have t1 := ext_cell (keepCell hb2 d1)
        have t2 := ext_cell (keepCell hb2 d2)
        have t3 := ext_cell (keepCell hb2 d3)
        clear hb2 d0 d1 d2 d3
        go_wp2_with fail
        refine wp_region_ext (by kernel_rfl) (by kernel_rfl) ?_
        repeat (go_big_quiet_step (fail))
        refine wpQuiet_nil ?_
        intro w3 hb3
        go_wp2
        go_ret
        exact ⟨ret_int HP.out.symm, keepBelow hB2 hb3⟩

def CpPost (P : Int) (l : List Sp) (w : World) (e : Ending) (w' : World) : Prop := ∃ v', e = .returned (.agg #[.int .i64 P, v']) ∧ OwnS w' w.heap.size v' l ∧ Below w.heap.size w w'

set_option maxHeartbeats 1000000 in
theorem copy_any (P : Int) (v : Value) (l : List Sp) (w : World) (h : RdS w v l) :
    Calls Tryz.prog 109 #[.agg #[.int .i64 P, v]] w (CpPost P l w) := by
  have H1 := Lib.hid (fun W h => clone_any v l W h)
  obtain ⟨a, c, rfl⟩ := h.form
  obtain ⟨W, hWe⟩ : ∃ W, (w.alloc (.cells #[.int .i64 P, .slice a l.length c] 24)).alloc (.cells #[.int .i64 0, .slice none 0 0] 24) = W := ⟨_, rfl⟩
  have hB0 : Below w.heap.size w W := by rw [← hWe]; exact ((Below.refl _ w).alloc (Nat.le_refl _) _).alloc (by simp) _
  have c0 : W.cell? ⟨w.heap.size, 0, none⟩ = some (.int .i64 P) := by rw [← hWe]; simp [go_sem]
  have c1 : W.cell? ⟨w.heap.size, 1, none⟩ = some (.slice a l.length c) := by rw [← hWe]; simp [go_sem]
  have f1 : W.frozen? ⟨w.heap.size, 1, none⟩ = false := by rw [← hWe]; simp [go_sem]
  have c2 : W.cell? ⟨w.heap.size + 1, 0, none⟩ = some (.int .i64 0) := by rw [← hWe]; simp [go_sem]
  have c3 : W.cell? ⟨w.heap.size + 1, 1, none⟩ = some (.slice none 0 0) := by rw [← hWe]; simp [go_sem]
  have f2 : W.frozen? ⟨w.heap.size + 1, 0, none⟩ = false := by rw [← hWe]; simp [go_sem]
  have f3 : W.frozen? ⟨w.heap.size + 1, 1, none⟩ = false := by rw [← hWe]; simp [go_sem]
  have HR1 := Lib.hid (keepRd hB0 h)
  have HE := Lib.hid hWe
  clear hWe h
  go_enter Tryz.func109, Tryz.ntmps109
  go_wp2_with fail
  rw [HE.out]
  go_wp2_with fail
  refine (H1.out _ HR1.out).mono ?_
  rintro e w1 ⟨v1, rfl, ho, hb1⟩
  have hB1 := keepBelow hB0 hb1
  have d0 := keepCell hb1 c0
  have d1 := keepCell hb1 c1
  have d2 := keepCell hb1 c2
  have d3 := keepCell hb1 c3
  have k1 := (hb1.frozen (p := ⟨w.heap.size, 1, none⟩) (World.block_lt_of_cell? W _ c1)).trans f1
  have k2 := (hb1.frozen (p := ⟨w.heap.size + 1, 0, none⟩) (World.block_lt_of_cell? W _ c2)).trans f2
  have k3 := (hb1.frozen (p := ⟨w.heap.size + 1, 1, none⟩) (World.block_lt_of_cell? W _ c3)).trans f3
  have hlt := World.block_lt_of_cell? W _ c2
  obtain ⟨a1, cc1, rfl, _⟩ := ho.form
  have HO := Lib.hid (ho.mono (Nat.le_of_lt hlt))
  have HOo := Lib.hid ho
  clear hb1 c0 c1 c2 c3 f1 f2 f3 ho
  go_wp2
  obtain ⟨Z, hZ⟩ : ∃ Z, ((w1.setCell ⟨w.heap.size, 1, none⟩ (.slice a1 l.length cc1)).setCell ⟨w.heap.size + 1, 0, none⟩ (.int .i64 P)).setCell ⟨w.heap.size + 1, 1, none⟩ (.slice a1 l.length cc1) = Z := ⟨_, rfl⟩
  have r1 : Z.cell? ⟨w.heap.size + 1, 0, none⟩ = some (.int .i64 P) := by
    rw [← hZ]; simp [go_sem, d2]
  have r2 : Z.cell? ⟨w.heap.size + 1, 1, none⟩ = some (.slice a1 l.length cc1) := by
    rw [← hZ]; simp [go_sem, d3]
  have hBZ : Below w.heap.size w Z := by
    rw [← hZ]
    exact ((hB1.setCell (p := ⟨w.heap.size, 1, none⟩) (Nat.le_refl _) _).setCell (p := ⟨w.heap.size + 1, 0, none⟩) (by simp) _).setCell (p := ⟨w.heap.size + 1, 1, none⟩) (by simp) _
  have hOZ : OwnS Z w.heap.size (.slice a1 l.length cc1) l := by
    rw [← hZ]
    exact (((HOo.out.setCell (by omega) _).setCell hlt _).setCell hlt _).mono (by omega)
  rw [hZ]
  refine bodyPost_ret (v := .agg #[.int .i64 P, .slice a1 l.length cc1]) (by simp [results, Tryz.results109, go_sem, r1, r2]) rfl ?_
  exact ⟨_, rfl, hOZ, hBZ⟩
end Go.Proofs.YtkfonfheakpcbaaGreat
