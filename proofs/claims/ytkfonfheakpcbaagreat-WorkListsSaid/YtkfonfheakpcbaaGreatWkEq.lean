import Derived.Test.YtkfonfheakpcbaaGreatWkRuns
/- equality and copies of lists of runs. -/
namespace Go.Proofs.YtkfonfheakpcbaaGreat
open Go.RowKit Wk

theorem span_guard : Tryz.prog.eqGuardType Tryz.prog.depth 44 = false := by kernel_rfl
theorem span_neq (x y x' y' : Int) (w : World) : (binOp .neq 44 (.agg #[.int .i64 x, .int .i64 y]) (.agg #[.int .i64 x', .int .i64 y'])).run Tryz.prog w = .ok (.bool (!(x == x' && y == y'))) w := by
  have u3 := Tryz.underlying3
  have a3 := Tryz.isAgg3
  have z3 := Tryz.sizeOf3
  have hS : Tryz.prog.underlying 44 = some (.struct (Tryz.prog.fieldsOf 44)) := by kernel_rfl
  have hp : Tryz.prog.stoodInHeld 44 = false := by kernel_rfl
  rw [run_neq_struct, show (10000 : Nat) = 9999 + 1 from rfl, run_equalIn_agg w 9999 44 _ _ hS hp]
  simp only [Program.fieldsOf, Tryz.underlying44]
  go_simp
  by_cases h1 : x = x' <;> by_cases h2 : y = y' <;> simp [h1, h2]
theorem span_eql (x y x' y' : Int) (w : World) : (binOp .eql 44 (.agg #[.int .i64 x, .int .i64 y]) (.agg #[.int .i64 x', .int .i64 y'])).run Tryz.prog w = .ok (.bool (x == x' && y == y')) w := by
  have u3 := Tryz.underlying3
  have a3 := Tryz.isAgg3
  have z3 := Tryz.sizeOf3
  have hS : Tryz.prog.underlying 44 = some (.struct (Tryz.prog.fieldsOf 44)) := by kernel_rfl
  have hp : Tryz.prog.stoodInHeld 44 = false := by kernel_rfl
  rw [run_eql_struct, show (10000 : Nat) = 9999 + 1 from rfl, run_equalIn_agg w 9999 44 _ _ hS hp]
  simp only [Program.fieldsOf, Tryz.underlying44]
  go_simp
  by_cases h1 : x = x' <;> by_cases h2 : y = y' <;> simp [h1, h2]

theorem list_eq_of_getD {a b : List Sp} (hl : a.length = b.length) (h : ∀ j, j < a.length → a.getD j (0, 0) = b.getD j (0, 0)) : a = b := by
  apply List.ext_getElem hl
  intro i h1 h2
  have := h i h1
  simpa [List.getD_eq_getElem?_getD, List.getElem?_eq_getElem h1, List.getElem?_eq_getElem h2] using this

set_option maxHeartbeats 800000 in
theorem seq_any (v1 v2 : Value) (l1 l2 : List Sp) (w : World) (h1 : RdS w v1 l1) (h2 : RdS w v2 l2) :
    Calls Tryz.prog 32 #[v1, v2] w fun e w' => e = .returned (.bool (decide (l1 = l2))) ∧ Below w.heap.size w w' := by
  obtain ⟨a1, c1, rfl, hl1, hc1⟩ := h1
  obtain ⟨a2, c2, rfl, hl2, hc2⟩ := h2
  by_cases hn : l1.length = l2.length
  · have HN := Lib.hid hn
    have g0 : (((l1.length : Int)) == (l2.length : Int)) = true := by simp; omega
    have g1 : (((l1.length : Int)) != (l2.length : Int)) = false := by simp; omega
    have hle : l1.length ≤ l2.length := by omega
    clear hn
    go_enter Tryz.func32, Tryz.ntmps32
    go_wp2_with fail
    go_loopw [13] (fun i wr => ∃ k : Nat, k ≤ l1.length ∧ i = .int .i64 k ∧ Hid (∀ j, j < k → l1.getD j (0, 0) = l2.getD j (0, 0)) ∧ Below w.heap.size w wr) (fun i _ => l1.length - (intOf i).toNat)
    case atStart => exact ⟨0, Nat.zero_le _, rfl, fun j hj => by omega, Below.refl _ _⟩
    case round =>
      obtain ⟨k, hk, rfl, HK, hB⟩ := hrel
      by_cases hlt : k < l1.length
      · obtain ⟨b, o, x, y, rfl, hbw, HXY, d1, d2⟩ := rd_at hc1 hB hlt
        obtain ⟨b', o', x', y', rfl, hbw', HXY', d1', d2'⟩ := rd_at (k := k) hc2 hB (by omega)
        clear hc1 hc2
        have e1 := ext_cell d1
        have e2 := ext_cell d2
        have e1' := ext_cell d1'
        have e2' := ext_cell d2'
        have hsz := hB.size
        have hlt2 : k < l2.length := by omega
        have hg := span_guard
        have hq := span_neq x y x' y'
        by_cases he : (x == x' && y == y') = true
        · go_wp2_with fail
          refine wp_region_ext (by kernel_rfl) (by kernel_rfl) ?_
          repeat (go_big_quiet_step (fail))
          refine wpQuiet_nil ?_
          intro w1 hb1
          have hBn := hB.trans (hb1.mono hsz)
          go_wp2
          go_roundw
          case rel => exact ⟨k + 1, by omega, by go_num, (fun j hj => by
            rcases Nat.lt_succ_iff_lt_or_eq.1 hj with h | rfl
            · exact HK.out j h
            · rw [HXY.out, HXY'.out]; simp at he; rw [he.1, he.2]), hBn⟩
          case measure => simp [intOf]; omega
        · have he' : (x == x' && y == y') = false := by simpa using he
          clear he
          go_wp2_with fail
          refine wp_region_ext (by kernel_rfl) (by kernel_rfl) ?_
          repeat (go_big_quiet_step (fail))
          refine wpQuiet_nil ?_
          intro w1 hb1
          have hBn := hB.trans (hb1.mono hsz)
          go_wp2
          go_ret
          refine ⟨ret_bool ?_, hBn⟩
          symm
          rw [decide_eq_false_iff_not]
          intro e
          have h1 := HXY.out
          have h2 := HXY'.out
          rw [e] at h1
          rw [h1] at h2
          simp at h2 he'
          exact he' h2.1 h2.2
      · clear hc1 hc2
        go_wp2
        go_ret
        exact ⟨ret_bool (by symm; rw [decide_eq_true_iff]; exact list_eq_of_getD HN.out (fun j hj => HK.out j (by omega))), hB⟩
  · have HN := Lib.hid hn
    have g0 : (((l1.length : Int)) == (l2.length : Int)) = false := by simp; omega
    have g1 : (((l1.length : Int)) != (l2.length : Int)) = true := by simp; omega
    clear hn
    go_enter Tryz.func32, Tryz.ntmps32
    go_wp2
    go_ret
    exact ⟨ret_bool (by symm; rw [decide_eq_false_iff_not]; intro e; exact HN.out (by rw [e])), Below.refl _ _⟩

set_option maxHeartbeats 400000 in
theorem requal_any (v1 v2 : Value) (l1 l2 : List Sp) (w : World) (h1 : RdS w v1 l1) (h2 : RdS w v2 l2) :
    Calls Tryz.prog 110 #[v1, v2] w fun e w' => e = .returned (.bool ((rvB l1 && rvB l2) && decide (l1 = l2))) ∧ Below w.heap.size w w' := by
  have H1 := Lib.hid (rvalid_any v1 l1)
  have H2 := Lib.hid (rvalid_any v2 l2)
  have H3 := Lib.hid (seq_any v1 v2 l1 l2)
  have R1 := Lib.hid h1
  have R2 := Lib.hid h2
  clear h1 h2
  generalize hb1 : rvB l1 = b1 at *
  generalize hb2 : rvB l2 = b2 at *
  clear hb1 hb2
  go_enter Tryz.func110, Tryz.ntmps110
  go_wp2_with fail
  refine (H1.out _ R1.out).mono ?_
  rintro e w1 ⟨rfl, hb1⟩
  cases b1 with
  | false =>
    go_wp2
    go_ret
    exact ⟨rfl, hb1⟩
  | true =>
    go_wp2_with fail
    refine (H2.out _ (R2.out.below (Nat.le_refl _) hb1)).mono ?_
    rintro e w2 ⟨rfl, hb2⟩
    have hB := hb1.trans (hb2.mono hb1.size)
    cases b2 with
    | false =>
      go_wp2
      go_ret
      exact ⟨rfl, hB⟩
    | true =>
      go_wp2_with fail
      refine (H3.out _ (R1.out.below (Nat.le_refl _) hB) (R2.out.below (Nat.le_refl _) hB)).mono ?_
      rintro e w3 ⟨rfl, hb3⟩
      go_wp2
      go_ret
      exact ⟨by simp, hB.trans (hb3.mono hB.size)⟩
end Go.Proofs.YtkfonfheakpcbaaGreat
