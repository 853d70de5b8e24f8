/- slices.Contains, slices.IsSorted over numbers. -/
import Derived.Test.YtkfonfheakpcbaaWkHrs
import Derived.Test.YtkfonfheakpcbaaWkDay
namespace Go.Proofs.Ytkfonfheakpcbaa
open Go.RowKit Wk

theorem OwnI.rdI {w : World} {B : Nat} {v : Value} {L : List Int} (h : OwnI w B v L) (hl : L.length ≤ 1152921504606846976) : RdI w v L := by
  obtain ⟨a, c, rfl, hc⟩ := h.form
  refine ⟨a, c, rfl, hl, fun i hi => ?_⟩
  obtain ⟨g, rfl, _, c1⟩ := hc i hi
  exact ⟨g, 0, rfl, by rw [Nat.zero_add]; exact c1⟩

set_option maxHeartbeats 1000000 in
theorem idx_any (v : Value) (L : List Int) (x : Int) (w : World) (h : RdI w v L) :
    Calls Try.prog 39 #[v, .int .i64 x] w fun e w' => (∃ r : Int, e = .returned (.int .i64 r) ∧ (decide (0 ≤ r) = decide (x ∈ L))) ∧ Below w.heap.size w w' := by
  obtain ⟨a, c, rfl, hl, hc⟩ := h
  go_enter Try.func39, Try.ntmps39
  go_wp2_with fail
  go_loopw [8] (fun u wr => ∃ k : Nat, u = .int .i64 k ∧ k ≤ L.length ∧ Hid (∀ i, i < k → L.getD i 0 ≠ x) ∧ Below w.heap.size w wr) (fun u _ => L.length - (intOf u).toNat)
  case atStart => exact ⟨0, rfl, Nat.zero_le _, fun i hi => by omega, Below.refl _ _⟩
  case round =>
    obtain ⟨k, rfl, hk, HZ, hB⟩ := hrel
    by_cases hlt : k < L.length
    · obtain ⟨b, o, rfl, c1⟩ := hc k hlt
      have c2 := (hB.cell (p := ⟨b, o + k, none⟩) (World.block_lt_of_cell? w _ c1)).trans c1
      obtain ⟨y, hy⟩ : ∃ y, L.getD k 0 = y := ⟨_, rfl⟩
      rw [hy] at c1 c2
      have HY := Lib.hid hy
      have HC := Lib.hid hc
      clear hc hy c1
      by_cases hxy : x = y
      · have g1 : (x == y) = true := by simpa using hxy
        have hA : x ∈ L := by
          rw [hxy, ← HY.out, List.getD_eq_getElem?_getD, List.getElem?_eq_getElem hlt]
          exact List.getElem_mem hlt
        have HA := Lib.hid hA
        clear hxy hA
        go_wp2
        go_ret
        exact ⟨⟨k, rfl, by rw [decide_eq_true HA.out]; simp⟩, hB⟩
      · have g1 : (x == y) = false := by simpa using hxy
        have HX := Lib.hid hxy
        clear hxy
        go_wp2
        go_roundw
        case rel =>
          refine ⟨k + 1, by go_num, by omega, fun i hi => ?_, hB⟩
          rcases Nat.lt_succ_iff_lt_or_eq.1 hi with h | rfl
          · exact HZ.out i h
          · rw [HY.out]; exact fun e => HX.out e.symm
        case measure => simp [intOf]; omega
    · have hA : ¬ x ∈ L := fun hm => by
        obtain ⟨i, hi, e⟩ := List.mem_iff_getElem.1 hm
        have := HZ.out i (by omega)
        rw [List.getD_eq_getElem?_getD, List.getElem?_eq_getElem hi] at this
        exact this e
      have HA := Lib.hid hA
      clear hc hA
      go_wp2
      go_ret
      exact ⟨⟨-1, rfl, by rw [decide_eq_false HA.out]; simp⟩, hB⟩
theorem con_any (v : Value) (L : List Int) (x : Int) (w : World) (h : RdI w v L) :
    Calls Try.prog 18 #[v, .int .i64 x] w fun e w' => e = .returned (.bool (decide (x ∈ L))) ∧ Below w.heap.size w w' := by
  have H := Lib.hid (fun W h => idx_any v L x W h)
  have HD := Lib.hid h
  obtain ⟨a, c, rfl, _⟩ := h
  go_enter Try.func18, Try.ntmps18
  go_wp2_with fail
  refine (H.out _ HD.out).mono ?_
  rintro e w1 ⟨⟨r, rfl, hr⟩, hb1⟩
  have HRR := Lib.hid hr
  clear hr
  go_wp2
  go_ret
  exact ⟨ret_bool HRR.out, hb1⟩

theorem less_any (x y : Int) (w : World) :
    Calls Try.prog 40 #[.int .i64 x, .int .i64 y] w fun e w' => e = .returned (.bool (decide (x < y))) ∧ Below w.heap.size w w' := by
  go_enter Try.func40, Try.ntmps40
  go_wp2
  go_ret
  exact ⟨rfl, Below.refl _ _⟩

set_option maxHeartbeats 1000000 in
theorem sorted_any (v : Value) (L : List Int) (w : World) (h : RdI w v L) (hs : L.Pairwise (· < ·)) :
    Calls Try.prog 19 #[v] w fun e w' => e = .returned (.bool true) ∧ Below w.heap.size w w' := by
  have H := Lib.hid (fun x y W => less_any x y W)
  have HS : Hid (∀ k : Nat, 0 < k → k < L.length → L.getD (k - 1) 0 < L.getD k 0) := fun k h0 hk => sorted_getD hs (by omega) hk
  clear hs
  obtain ⟨a, c, rfl, hl, hc⟩ := h
  go_enter Try.func19, Try.ntmps19
  go_wp2_with fail
  go_loopw [3] (fun u wr => ∃ y : Int, u = .int .i64 y ∧ -1 ≤ y ∧ y < L.length ∧ Below w.heap.size w wr) (fun u _ => (intOf u + 1).toNat)
  case atStart => exact ⟨(L.length : Int) - 1, by go_num, by omega, by omega, Below.refl _ _⟩
  case round =>
    obtain ⟨y, rfl, hy1, hy2, hB⟩ := hrel
    by_cases hlt : 0 < y
    · obtain ⟨k, rfl⟩ : ∃ k : Nat, y = (k : Int) := ⟨y.toNat, by omega⟩
      obtain ⟨b, o, rfl, c1⟩ := hc k (by omega)
      obtain ⟨b', o', e', c2⟩ := hc (k - 1) (by omega)
      cases e'
      have d1 := ext_cell ((hB.cell (p := ⟨b, o + k, none⟩) (World.block_lt_of_cell? w _ c1)).trans c1)
      have d2 := ext_cell ((hB.cell (p := ⟨b, o + (k - 1), none⟩) (World.block_lt_of_cell? w _ c2)).trans c2)
      have hlt2 := HS.out k (by omega) (by omega)
      obtain ⟨p, hp⟩ : ∃ p, L.getD k 0 = p := ⟨_, rfl⟩
      obtain ⟨q, hq⟩ : ∃ q, L.getD (k - 1) 0 = q := ⟨_, rfl⟩
      rw [hp] at d1 hlt2
      rw [hq] at d2 hlt2
      have HL := H.out p q
      rw [decide_eq_false (by omega)] at HL
      have HL := Lib.hid HL
      have HC := Lib.hid hc
      have g1 : decide ((0 : Int) < (k : Int)) = true := by simpa using hlt
      have s1 : IntKind.i64.wrap ((k : Int) - 1) = (k : Int) - 1 := by rw [IntKind.wrap_i64]; omega
      have s2 : ((k : Int) - 1).toNat = k - 1 := by omega
      have s3 : (0 : Int) ≤ (k : Int) - 1 := by omega
      have s4 : (k : Int) - 1 < (L.length : Int) := by omega
      clear hp hq c1 c2 hlt2 hc
      go_wp2_with fail
      refine wp_region_ext (by kernel_rfl) (by kernel_rfl) ?_
      repeat (go_big_quiet_step ((go_at_call 40; refine calls_ext (HL.out _))))
      refine wpQuiet_nil ?_
      intro w1 hb1
      have hB1 := keepBelow hB hb1
      go_wp2
      go_roundw
      case rel => exact ⟨(k : Int) - 1, by go_num, by omega, by omega, hB1⟩
      case measure => (simp [intOf] <;> omega)
    · have g1 : decide (0 < y) = false := by simpa using hlt
      clear hc
      go_wp2
      go_ret
      exact ⟨rfl, hB⟩
end Go.Proofs.Ytkfonfheakpcbaa
