import Derived.Test.YtkfonfheakpcbaaGreatWkRuns
/- binary search in a canonical list. -/
namespace Go.Proofs.YtkfonfheakpcbaaGreat
open Go.RowKit Wk

def SrPost (l : List Sp) (x : Int) (w : World) (e : Ending) (w' : World) : Prop := ∃ i : Nat, IsSrch l x i ∧ e = .returned (.tuple #[.int .i64 i, .bool false]) ∧ Below w.heap.size w w'

set_option maxHeartbeats 400000 in
theorem cl_runs (s1 s2 x : Int) (w : World) :
    Calls Tryz.prog 195 #[.agg #[.int .i64 s1, .int .i64 s2], .int .i64 x] w fun e w' => e = .returned (.int .i64 (if s2 ≤ x then -1 else 1)) ∧ Below w.heap.size w w' := by
  by_cases h : s2 ≤ x
  · rw [if_pos h]
    go_enter Tryz.func195, Tryz.ntmps195
    go_wp2
    go_ret
    exact ⟨rfl, (Below.refl _ _).alloc (Nat.le_refl _) _⟩
  · rw [if_neg h]
    go_enter Tryz.func195, Tryz.ntmps195
    go_wp2
    go_ret
    exact ⟨rfl, (Below.refl _ _).alloc (Nat.le_refl _) _⟩

set_option maxHeartbeats 800000 in
theorem bs_runs (v : Value) (l : List Sp) (x : Int) (w : World) (h : RdS w v l) (hcan : Canon l) :
    Calls Tryz.prog 188 #[v, .int .i64 x, .func (.func 195) #[] #[]] w (SrPost l x w) := by
  obtain ⟨a, c, rfl, hl, hc⟩ := h
  go_enter Tryz.func188, Tryz.ntmps188
  go_wp2_with fail
  go_loopw [9, 10] (fun i j wr => ∃ p q : Nat, i = .int .i64 p ∧ j = .int .i64 q ∧ p ≤ q ∧ q ≤ l.length ∧ Hid ((∀ t, t < p → (l.getD t (0, 0)).2 ≤ x) ∧ (∀ t, q ≤ t → t < l.length → x < (l.getD t (0, 0)).2)) ∧ Below w.heap.size w wr) (fun i j _ => (intOf j).toNat - (intOf i).toNat)
  case atStart => exact ⟨0, l.length, rfl, rfl, Nat.zero_le _, Nat.le_refl _, ⟨fun t ht => by omega, fun t h1 h2 => by omega⟩, Below.refl _ _⟩
  case round =>
    obtain ⟨p, q, rfl, rfl, hpq, hql, HI, hB⟩ := hrel
    by_cases hlt : p < q
    · obtain ⟨b, o, y, z, rfl, hbw, HXY, d1, d2⟩ := rd_at (k := (p + q) / 2) hc hB (by omega)
      have HC := Lib.hid hc
      clear hc
      have hsz := hB.size
      by_cases hzx : z ≤ x
      · have HI' : Hid ((∀ t, t < (p + q) / 2 + 1 → (l.getD t (0, 0)).2 ≤ x) ∧ (∀ t, q ≤ t → t < l.length → x < (l.getD t (0, 0)).2)) := by
          refine ⟨fun t ht => ?_, HI.out.2⟩
          rcases Nat.lt_succ_iff_lt_or_eq.1 ht with h | rfl
          · have := (canon_lt hcan h (by omega)).2
            rw [HXY.out] at this
            simp only at this
            omega
          · rw [HXY.out]; exact hzx
        go_wp2_with (go_at_call 195; refine (cl_runs y z x _).mono ?_; rw [if_pos hzx]; rintro e w1 ⟨rfl, hb1⟩)
        have hBn := hB.trans (hb1.mono hsz)
        go_roundw
        case rel => exact ⟨(p + q) / 2 + 1, q, by go_num, rfl, by omega, hql, HI', hBn⟩
        case measure => simp [intOf]; omega
      · have HI' : Hid ((∀ t, t < p → (l.getD t (0, 0)).2 ≤ x) ∧ (∀ t, (p + q) / 2 ≤ t → t < l.length → x < (l.getD t (0, 0)).2)) := by
          refine ⟨HI.out.1, fun t h1 h2 => ?_⟩
          rcases Nat.lt_or_eq_of_le h1 with h | h
          · have := (canon_lt hcan h h2).2
            rw [HXY.out] at this
            simp only at this
            omega
          · rw [← h, HXY.out]; simp only; omega
        go_wp2_with (go_at_call 195; refine (cl_runs y z x _).mono ?_; rw [if_neg hzx]; rintro e w1 ⟨rfl, hb1⟩)
        have hBn := hB.trans (hb1.mono hsz)
        go_roundw
        case rel => exact ⟨p, (p + q) / 2, rfl, by go_num, by omega, by omega, HI', hBn⟩
        case measure => simp [intOf]; omega
    · obtain rfl : q = p := by omega
      have HS : Hid (IsSrch l x q) := ⟨by omega, HI.out.1, fun h => HI.out.2 q (Nat.le_refl _) h⟩
      have hsz := hB.size
      by_cases hlt2 : q < l.length
      · obtain ⟨b, o, y, z, rfl, hbw, HXY, d1, d2⟩ := rd_at (k := q) hc hB (by omega)
        clear hc
        have hzx : ¬ z ≤ x := by
          have := HS.out.2.2 hlt2
          rw [HXY.out] at this
          simp only at this
          omega
        go_wp2_with (go_at_call 195; refine (cl_runs y z x _).mono ?_; rw [if_neg hzx]; rintro e w1 ⟨rfl, hb1⟩)
        go_ret2
        exact ⟨q, HS.out, rfl, hB.trans (hb1.mono hsz)⟩
      · clear hc
        go_wp2
        go_ret2
        exact ⟨q, HS.out, rfl, hB⟩
set_option maxHeartbeats 400000 in
theorem cl_per (s1 s2 x : Int) (w : World) :
    Calls Tryz.prog 189 #[.agg #[.int .i64 s1, .int .i64 s2], .int .i64 x] w fun e w' => e = .returned (.int .i64 (if s2 ≤ x then -1 else 1)) ∧ Below w.heap.size w w' := by
  by_cases h : s2 ≤ x
  · rw [if_pos h]
    go_enter Tryz.func189, Tryz.ntmps189
    go_wp2
    go_ret
    exact ⟨rfl, (Below.refl _ _).alloc (Nat.le_refl _) _⟩
  · rw [if_neg h]
    go_enter Tryz.func189, Tryz.ntmps189
    go_wp2
    go_ret
    exact ⟨rfl, (Below.refl _ _).alloc (Nat.le_refl _) _⟩

set_option maxHeartbeats 800000 in
theorem bs_per (v : Value) (l : List Sp) (x : Int) (w : World) (h : RdS w v l) (hcan : Canon l) :
    Calls Tryz.prog 188 #[v, .int .i64 x, .func (.func 189) #[] #[]] w (SrPost l x w) := by
  obtain ⟨a, c, rfl, hl, hc⟩ := h
  go_enter Tryz.func188, Tryz.ntmps188
  go_wp2_with fail
  go_loopw [9, 10] (fun i j wr => ∃ p q : Nat, i = .int .i64 p ∧ j = .int .i64 q ∧ p ≤ q ∧ q ≤ l.length ∧ Hid ((∀ t, t < p → (l.getD t (0, 0)).2 ≤ x) ∧ (∀ t, q ≤ t → t < l.length → x < (l.getD t (0, 0)).2)) ∧ Below w.heap.size w wr) (fun i j _ => (intOf j).toNat - (intOf i).toNat)
  case atStart => exact ⟨0, l.length, rfl, rfl, Nat.zero_le _, Nat.le_refl _, ⟨fun t ht => by omega, fun t h1 h2 => by omega⟩, Below.refl _ _⟩
  case round =>
    obtain ⟨p, q, rfl, rfl, hpq, hql, HI, hB⟩ := hrel
    by_cases hlt : p < q
    · obtain ⟨b, o, y, z, rfl, hbw, HXY, d1, d2⟩ := rd_at (k := (p + q) / 2) hc hB (by omega)
      have HC := Lib.hid hc
      clear hc
      have hsz := hB.size
      by_cases hzx : z ≤ x
      · have HI' : Hid ((∀ t, t < (p + q) / 2 + 1 → (l.getD t (0, 0)).2 ≤ x) ∧ (∀ t, q ≤ t → t < l.length → x < (l.getD t (0, 0)).2)) := by
          refine ⟨fun t ht => ?_, HI.out.2⟩
          rcases Nat.lt_succ_iff_lt_or_eq.1 ht with h | rfl
          · have := (canon_lt hcan h (by omega)).2
            rw [HXY.out] at this
            simp only at this
            omega
          · rw [HXY.out]; exact hzx
        go_wp2_with (go_at_call 189; refine (cl_per y z x _).mono ?_; rw [if_pos hzx]; rintro e w1 ⟨rfl, hb1⟩)
        have hBn := hB.trans (hb1.mono hsz)
        go_roundw
        case rel => exact ⟨(p + q) / 2 + 1, q, by go_num, rfl, by omega, hql, HI', hBn⟩
        case measure => simp [intOf]; omega
      · have HI' : Hid ((∀ t, t < p → (l.getD t (0, 0)).2 ≤ x) ∧ (∀ t, (p + q) / 2 ≤ t → t < l.length → x < (l.getD t (0, 0)).2)) := by
          refine ⟨HI.out.1, fun t h1 h2 => ?_⟩
          rcases Nat.lt_or_eq_of_le h1 with h | h
          · have := (canon_lt hcan h h2).2
            rw [HXY.out] at this
            simp only at this
            omega
          · rw [← h, HXY.out]; simp only; omega
        go_wp2_with (go_at_call 189; refine (cl_per y z x _).mono ?_; rw [if_neg hzx]; rintro e w1 ⟨rfl, hb1⟩)
        have hBn := hB.trans (hb1.mono hsz)
        go_roundw
        case rel => exact ⟨p, (p + q) / 2, rfl, by go_num, by omega, by omega, HI', hBn⟩
        case measure => simp [intOf]; omega
    · obtain rfl : q = p := by omega
      have HS : Hid (IsSrch l x q) := ⟨by omega, HI.out.1, fun h => HI.out.2 q (Nat.le_refl _) h⟩
      have hsz := hB.size
      by_cases hlt2 : q < l.length
      · obtain ⟨b, o, y, z, rfl, hbw, HXY, d1, d2⟩ := rd_at (k := q) hc hB (by omega)
        clear hc
        have hzx : ¬ z ≤ x := by
          have := HS.out.2.2 hlt2
          rw [HXY.out] at this
          simp only at this
          omega
        go_wp2_with (go_at_call 189; refine (cl_per y z x _).mono ?_; rw [if_neg hzx]; rintro e w1 ⟨rfl, hb1⟩)
        go_ret2
        exact ⟨q, HS.out, rfl, hB.trans (hb1.mono hsz)⟩
      · clear hc
        go_wp2
        go_ret2
        exact ⟨q, HS.out, rfl, hB⟩

def SePost (l : List Sp) (x : Int) (w : World) (e : Ending) (w' : World) : Prop := ∃ i : Nat, IsSrch l x i ∧ e = .returned (.int .i64 i) ∧ Below w.heap.size w w'

set_option maxHeartbeats 400000 in
theorem rsearch_any (v : Value) (l : List Sp) (x : Int) (w : World) (h : RdS w v l) (hcan : Canon l) :
    Calls Tryz.prog 194 #[v, .int .i64 x] w (SePost l x w) := by
  have H := Lib.hid (bs_runs v l x w h hcan)
  clear h
  go_enter Tryz.func194, Tryz.ntmps194
  go_wp2_with (go_at_call 188; refine (H.out).mono ?_; rintro e w1 ⟨i, hi, rfl, hb1⟩)
  go_ret
  exact ⟨i, hi, rfl, hb1⟩

set_option maxHeartbeats 400000 in
theorem rhas_any (v : Value) (l : List Sp) (x : Int) (w : World) (h : RdS w v l) (hv : rvB l = true) :
    Calls Tryz.prog 193 #[v, .int .i64 x] w fun e w' => e = .returned (.bool (inL l x)) ∧ Below w.heap.size w w' := by
  have H := Lib.hid (rvalid_any v l w h)
  have hcan := (canon_of_rvB hv).1
  have HS := Lib.hid (fun w' => rsearch_any v l x w' (hcan := hcan))
  have HR := Lib.hid h
  have HV := Lib.hid hv
  obtain ⟨a, c, rfl, hl, hc⟩ := h
  clear hv
  go_enter Tryz.func193, Tryz.ntmps193
  go_wp2_with fail
  refine H.out.mono ?_
  rintro e w1 ⟨rfl, hb1⟩
  rw [HV.out]
  go_wp2_with fail
  refine (HS.out _ (HR.out.below (Nat.le_refl _) hb1)).mono ?_
  rintro e w2 ⟨i, hi, rfl, hb2⟩
  have hB := hb1.trans (hb2.mono hb1.size)
  have HI := Lib.hid (inL_srch hcan hi)
  have HW := Lib.hid hi
  by_cases hlt : i < l.length
  · obtain ⟨b, o, y, z, rfl, hbw, HXY, d1, d2⟩ := rd_at (k := i) hc hB hlt
    clear hc hi
    go_wp2
    go_ret
    exact ⟨ret_bool (by rw [HI.out, HXY.out]; simp [hlt]), hB⟩
  · clear hc hi
    go_wp2
    go_ret
    exact ⟨ret_bool (by rw [HI.out]; simp [hlt]), hB⟩
end Go.Proofs.YtkfonfheakpcbaaGreat
