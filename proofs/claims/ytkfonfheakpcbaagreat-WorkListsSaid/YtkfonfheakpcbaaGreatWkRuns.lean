import Derived.Test.YtkfonfheakpcbaaGreatWkBase
/- interval and runs: what the functions compute. -/
namespace Go.Proofs.YtkfonfheakpcbaaGreat
open Go.RowKit Wk

set_option maxHeartbeats 400000 in
theorem line_any (x : Int) (w : World) :
    Calls Tryz.prog 94 #[.int .i64 x] w fun e w' => e = .returned (.bool (lineB x)) ∧ w = w' := by
  go_enter Tryz.func94, Tryz.ntmps94
  go_wp2
  all_goals go_ret
  all_goals exact ⟨ret_bool (by rw [Bool.eq_iff_iff]; simp [lineB]; omega), rfl⟩

set_option maxHeartbeats 400000 in
theorem ivalid_any (x y : Int) (w : World) :
    Calls Tryz.prog 67 #[.agg #[.int .i64 x, .int .i64 y]] w fun e w' => e = .returned (.bool (ivB (x, y))) ∧ Below w.heap.size w w' := by
  go_enter Tryz.func67, Tryz.ntmps67
  go_wp2_with (go_at_call 94; refine (line_any _ _).mono ?_; rintro e w' ⟨rfl, rfl⟩)
  all_goals go_ret
  all_goals exact ⟨ret_bool (by simp [ivB, *]), (Below.refl _ _).alloc (Nat.le_refl _) _⟩

set_option maxHeartbeats 400000 in
theorem rvalid_any (v : Value) (l : List Sp) (w : World) (h : RdS w v l) :
    Calls Tryz.prog 84 #[v] w fun e w' => e = .returned (.bool (rvB l)) ∧ Below w.heap.size w w' := by
  obtain ⟨a, c, rfl, hl, hc⟩ := h
  go_enter Tryz.func84, Tryz.ntmps84
  by_cases h2 : l.length ≤ 2000
  · go_wp2_with fail
    go_loopw [10] (fun i wr => ∃ k : Nat, k ≤ l.length ∧ i = .int .i64 k ∧ Below w.heap.size w wr ∧ (∀ j, j < k → okAt l j = true)) (fun i _ => l.length - (intOf i).toNat)
    case atStart => exact ⟨0, Nat.zero_le _, rfl, Below.refl _ _, fun j hj => by omega⟩
    case round =>
      obtain ⟨k, hk, rfl, hB, hok⟩ := hrel
      have HOK := Lib.hid hok
      clear hok
      by_cases hlt : k < l.length
      · obtain ⟨b, o, rfl, c1, c2⟩ := hc k hlt
        have hbw : b < w.heap.size := World.block_lt_of_cell? w _ c1
        obtain ⟨x, hx⟩ : ∃ x, (l.getD k (0, 0)).1 = x := ⟨_, rfl⟩
        obtain ⟨y, hy⟩ : ∃ y, (l.getD k (0, 0)).2 = y := ⟨_, rfl⟩
        rw [hx] at c1
        rw [hy] at c2
        have hxy : l.getD k (0, 0) = (x, y) := by rw [← hx, ← hy]
        have HXY := Lib.hid hxy
        clear hx hy hxy
        have d1 := (hB.cell (p := ⟨b, o + k * 2, none⟩) hbw).trans c1
        have d2 := (hB.cell (p := ⟨b, o + k * 2 + 1, none⟩) hbw).trans c2
        clear c1 c2
        have hsz := hB.size
        have HOUT := Lib.hid hc
        have hprev : 0 < k → wr.cell? ⟨b, o + (k - 1) * 2 + 1, none⟩ = some (.int .i64 (l.getD (k - 1) (0, 0)).2) := fun h0 => by
          obtain ⟨b', o', e, _, e2⟩ := hc (k - 1) (by omega)
          cases e
          exact (hB.cell (p := ⟨b, o + (k - 1) * 2 + 1, none⟩) hbw).trans e2
        clear hc
        obtain ⟨z, hz⟩ : ∃ z, (l.getD (k - 1) (0, 0)).2 = z := ⟨_, rfl⟩
        rw [hz] at hprev
        have HZ := Lib.hid hz
        clear hz
        have e1 : ∀ X, (extOf (wr.alloc (.cells #[.int .i64 x, .int .i64 y] 44)) X).cell? ⟨wr.heap.size, 0, none⟩ = some (.int .i64 x) := ext_cell (by simp [go_sem])
        have e2 : ∀ X, (extOf (wr.alloc (.cells #[.int .i64 x, .int .i64 y] 44)) X).cell? ⟨wr.heap.size, 1, none⟩ = some (.int .i64 y) := ext_cell (by simp [go_sem])
        by_cases hiv : ivB (x, y) = true
        · by_cases hk0 : 0 < k
          · have d3 := hprev hk0
            clear hprev
            have e3 : ∀ X, (extOf (wr.alloc (.cells #[.int .i64 x, .int .i64 y] 44)) X).cell? ⟨b, o + (k - 1) * 2 + 1, none⟩ = some (.int .i64 z) := ext_cell ((World.cell?_alloc_past _ _ _ (by omega)).trans d3)
            have g0 : decide ((0 : Int) < (k : Int)) = true := by simp; omega
            go_wp2_with fail
            refine wp_region_ext (by kernel_rfl) (by kernel_rfl) ?_
            repeat (go_big_quiet_step ((go_at_call 67; refine calls_ext (ivalid_any _ _ _))))
            refine wpQuiet_nil ?_
            intro w1 hb1
            have hBn : Below w.heap.size w w1 := (hB.alloc hsz _).trans (hb1.mono (by simp; omega))
            clear e1 e2
            go_wp2
            · go_ret
              exact ⟨ret_bool (rvB_false_of hlt (okAt_bad HXY.out (Or.inr ⟨hk0, by rw [HZ.out]; assumption⟩))).symm, hBn⟩
            · go_roundw
              case rel => exact ⟨k + 1, by omega, by go_num, hBn, fun j hj => by
                rcases Nat.lt_succ_iff_lt_or_eq.1 hj with h | rfl
                · exact HOK.out j h
                · exact okAt_mk HXY.out hiv (Or.inr (by rw [HZ.out]; assumption))⟩
              case measure => simp [intOf]; omega
          · clear hprev
            have g0 : decide ((0 : Int) < (k : Int)) = false := by simp; omega
            go_wp2_with fail
            refine wp_region_ext (by kernel_rfl) (by kernel_rfl) ?_
            repeat (go_big_quiet_step ((go_at_call 67; refine calls_ext (ivalid_any _ _ _))))
            refine wpQuiet_nil ?_
            intro w1 hb1
            have hBn : Below w.heap.size w w1 := (hB.alloc hsz _).trans (hb1.mono (by simp; omega))
            clear e1 e2
            go_wp2
            go_roundw
            case rel => exact ⟨k + 1, by omega, by go_num, hBn, fun j hj => by
              rcases Nat.lt_succ_iff_lt_or_eq.1 hj with h | rfl
              · exact HOK.out j h
              · exact okAt_mk HXY.out hiv (Or.inl (by omega))⟩
            case measure => simp [intOf]; omega
        · clear hprev
          have hiv : ivB (x, y) = false := by simpa using hiv
          go_wp2_with fail
          refine wp_region_ext (by kernel_rfl) (by kernel_rfl) ?_
          repeat (go_big_quiet_step ((go_at_call 67; refine calls_ext (ivalid_any _ _ _))))
          refine wpQuiet_nil ?_
          intro w1 hb1
          have hBn : Below w.heap.size w w1 := (hB.alloc hsz _).trans (hb1.mono (by simp; omega))
          clear e1 e2
          go_wp2
          go_ret
          exact ⟨ret_bool (rvB_false_of hlt (okAt_bad HXY.out (Or.inl hiv))).symm, hBn⟩
      · clear hc
        go_wp2
        go_ret
        exact ⟨ret_bool (by symm; rw [rvB_iff]; exact ⟨h2, fun i hi => HOK.out i (by omega)⟩), hB⟩
  · go_wp2
    go_ret
    exact ⟨ret_bool (by simp [rvB, h2]), Below.refl _ _⟩

set_option maxHeartbeats 400000 in
theorem rmeas_any (v : Value) (l : List Sp) (w : World) (h : RdS w v l) (hv : rvB l = true) :
    Calls Tryz.prog 83 #[v] w fun e w' => e = .returned (.int .i64 (meas l)) ∧ Below w.heap.size w w' := by
  have HR := rvalid_any v l
  have hcn := canon_of_rvB hv
  obtain ⟨_, hbd, hlen⟩ := hcn
  obtain ⟨a, c, rfl, hl, hc⟩ := h
  rw [hv] at HR
  have H0 := Lib.hid HR
  clear HR
  have HV := Lib.hid hv
  clear hv
  go_enter Tryz.func83, Tryz.ntmps83
  go_wp2_with (go_at_call 84; refine (H0.out _ ⟨a, c, rfl, hl, hc⟩).mono ?_; rintro e w0 ⟨rfl, hb0⟩)
  go_loopw [3, 11] (fun n i wr => ∃ k : Nat, k ≤ l.length ∧ i = .int .i64 k ∧ n = .int .i64 (meas (l.take k)) ∧ Below w.heap.size w wr) (fun _ i _ => l.length - (intOf i).toNat)
  case atStart => exact ⟨0, Nat.zero_le _, rfl, rfl, hb0⟩
  case round =>
    obtain ⟨k, hk, rfl, rfl, hB⟩ := hrel
    have hm := meas_bd (hbd.take k)
    have hml : (l.take k).length ≤ k := List.length_take_le _ _
    by_cases hlt : k < l.length
    · obtain ⟨b, o, x, y, rfl, hbw, HXY, d1, d2⟩ := rd_at hc hB hlt
      have hms := meas_take_succ HXY.out hlt
      have hbx := hbd _ (mem_of_getD HXY.out hlt)
      have HM := Lib.hid hms
      have hsz := hB.size
      clear hms hc
      simp only at hbx
      go_wp2
      go_roundw
      case rel => exact ⟨k + 1, by omega, by go_num, by rw [HM.out], hB.alloc hsz _⟩
      case measure => simp [intOf]; omega
    · clear hc
      go_wp2
      go_ret
      exact ⟨ret_int (by rw [List.take_of_length_le (by omega)]), hB⟩

set_option maxHeartbeats 400000 in
theorem rrank_any (v : Value) (l : List Sp) (z : Int) (w : World) (h : RdS w v l) (hv : rvB l = true) :
    Calls Tryz.prog 59 #[v, .int .i64 z] w fun e w' => e = .returned (.int .i64 (rank l z)) ∧ Below w.heap.size w w' := by
  have HR := rvalid_any v l
  have hcn := canon_of_rvB hv
  obtain ⟨_, hbd, hlen⟩ := hcn
  obtain ⟨a, c, rfl, hl, hc⟩ := h
  rw [hv] at HR
  have H0 := Lib.hid HR
  clear HR
  have HV := Lib.hid hv
  clear hv
  go_enter Tryz.func59, Tryz.ntmps59
  go_wp2_with (go_at_call 84; refine (H0.out _ ⟨a, c, rfl, hl, hc⟩).mono ?_; rintro e w0 ⟨rfl, hb0⟩)
  go_loopw [5, 13] (fun n i wr => ∃ k : Nat, k ≤ l.length ∧ i = .int .i64 k ∧ n = .int .i64 (rank (l.take k) z) ∧ Below w.heap.size w wr) (fun _ i _ => l.length - (intOf i).toNat)
  case atStart => exact ⟨0, Nat.zero_le _, rfl, rfl, hb0⟩
  case round =>
    obtain ⟨k, hk, rfl, rfl, hB⟩ := hrel
    have hm := rank_bd z (hbd.take k)
    have hml : (l.take k).length ≤ k := List.length_take_le _ _
    by_cases hlt : k < l.length
    · obtain ⟨b, o, x, y, rfl, hbw, HXY, d1, d2⟩ := rd_at hc hB hlt
      have hms := rank_take_succ z HXY.out hlt
      have hbx := hbd _ (mem_of_getD HXY.out hlt)
      have HM := Lib.hid hms
      have hsz := hB.size
      clear hms hc
      simp only at hbx
      by_cases hxz : x < z
      · go_wp2
        go_roundw
        case rel => exact ⟨k + 1, by omega, by go_num, by rw [HM.out, if_pos hxz]; go_num, hB.alloc hsz _⟩
        case measure => simp [intOf]; omega
      · go_wp2
        go_roundw
        case rel => exact ⟨k + 1, by omega, by go_num, by rw [HM.out, if_neg hxz]; go_num, hB.alloc hsz _⟩
        case measure => simp [intOf]; omega
    · clear hc
      go_wp2
      go_ret
      exact ⟨ret_int (by rw [List.take_of_length_le (by omega)]), hB⟩

set_option maxHeartbeats 400000 in
theorem rnth_any (v : Value) (l : List Sp) (n : Int) (w : World) (h : RdS w v l) (hv : rvB l = true) (h0 : 0 ≤ n) (h1 : n < meas l) :
    Calls Tryz.prog 58 #[v, .int .i64 n] w fun e w' => e = .returned (.tuple #[.int .i64 (nth l n), .int .i64 0]) ∧ Below w.heap.size w w' := by
  have HR := rvalid_any v l
  have hcn := canon_of_rvB hv
  obtain ⟨_, hbd, hlen⟩ := hcn
  obtain ⟨a, c, rfl, hl, hc⟩ := h
  rw [hv] at HR
  have H0 := Lib.hid HR
  clear HR
  have HV := Lib.hid hv
  clear hv
  go_enter Tryz.func58, Tryz.ntmps58
  go_wp2_with (go_at_call 84; refine (H0.out _ ⟨a, c, rfl, hl, hc⟩).mono ?_; rintro e w0 ⟨rfl, hb0⟩)
  go_loopw [1, 17] (fun n' i wr => ∃ (k : Nat) (m : Int), k ≤ l.length ∧ i = .int .i64 k ∧ n' = .int .i64 m ∧ 0 ≤ m ∧ m ≤ n ∧ Hid (nth (l.drop k) m = nth l n ∧ m < meas (l.drop k)) ∧ Below w.heap.size w wr) (fun _ i _ => l.length - (intOf i).toNat)
  case atStart => exact ⟨0, n, Nat.zero_le _, rfl, rfl, h0, Int.le_refl _, ⟨rfl, h1⟩, hb0⟩
  case round =>
    obtain ⟨k, m, hk, rfl, rfl, hm0, hmn, HN, hB⟩ := hrel
    have hmb := meas_bd hbd
    by_cases hlt : k < l.length
    · obtain ⟨b, o, x, y, rfl, hbw, HXY, d1, d2⟩ := rd_at hc hB hlt
      have hms := nth_drop (m := m) HXY.out hlt
      have hbx := hbd _ (mem_of_getD HXY.out hlt)
      have HM := Lib.hid hms
      have hsz := hB.size
      clear hms hc
      simp only at hbx
      by_cases hxz : m < y - x
      · go_wp2
        go_ret2
        exact ⟨ret2_int (by rw [← HN.out.1, HM.out.1, if_pos hxz]), hB.alloc hsz _⟩
      · go_wp2
        go_roundw
        case rel => exact ⟨k + 1, m - (y - x), by omega, by go_num, by go_num, by omega, by omega, ⟨by rw [← HN.out.1, HM.out.1, if_neg hxz], by have := HN.out.2; rw [HM.out.2] at this; omega⟩, hB.alloc hsz _⟩
        case measure => simp [intOf]; omega
    · have hf : False := by
        have := HN.out.2
        rw [List.drop_eq_nil_of_le (by omega)] at this
        simp only [meas] at this
        omega
      exact hf.elim
end Go.Proofs.YtkfonfheakpcbaaGreat
