import Derived.Test.YtlbjfbpejomkmaaGreatWkAgQa
import Derived.Test.YtlbjfbpejomkmaaGreatWkBa
import Derived.Test.YtlbjfbpejomkmaaGreatWkPl
/- Agenda: slices.Contains, slices.IsSorted over numbers. -/
namespace Go.Proofs.YtlbjfbpejomkmaaGreat
open Go.RowKit Wk

set_option maxHeartbeats 1000000 in
theorem idxJ_any (v : Value) (L : List Int) (x : Int) (w : World) (h : RdJ w v L) :
  Calls Tryz.prog 101 #[v, .int .i64 x] w fun e w' => (∃ r : Int, e = .returned (.int .i64 r) ∧ (decide (0 ≤ r) = decide (x ∈ L))) ∧ Below w.heap.size w w' := by
 obtain ⟨a, c, rfl, hl, hc⟩ := h
 go_enter Tryz.func101, Tryz.ntmps101
 go_wp2_with fail
 go_loopw [8] (fun u wr => ∃ k : Nat, u = .int .i64 k ∧ k ≤ L.length ∧ Hid (∀ i, i < k → L.getD i 0 ≠ x) ∧ Below w.heap.size w wr) (fun u _ => L.length - (intOf u).toNat)
 case atStart => exact ⟨0, rfl, Nat.zero_le _, fun i hi => by omega, Below.refl _ _⟩
 case round =>
  obtain ⟨k, rfl, hk, HZ, hB⟩ := hrel
  by_cases hlt : k < L.length
  ·obtain ⟨b, o, rfl, c1⟩ := hc k hlt
   have c2 := (hB.cell (p := ⟨b, o + k, none⟩) (World.block_lt_of_cell? w _ c1)).trans c1
   obtain ⟨y, hy⟩ : ∃ y, L.getD k 0 = y := ⟨_, rfl⟩
   rw [hy] at c1 c2
   have HY := Lib.hid hy
   have HC := Lib.hid hc
   clear hc hy c1
   by_cases hxy : x = y
   ·have g1 : (x == y) = true := by simpa using hxy
    have hA : x ∈ L := by
     rw [hxy, ← HY.out, List.getD_eq_getElem?_getD, List.getElem?_eq_getElem hlt]
     exact List.getElem_mem hlt
    have HA := Lib.hid hA
    clear hxy hA
    go_wp2
    go_ret
    exact ⟨⟨k, rfl, by rw [decide_eq_true HA.out]; simp⟩, hB⟩
   ·have g1 : (x == y) = false := by simpa using hxy
    have HX := Lib.hid hxy
    clear hxy
    go_wp2
    go_roundw
    case rel =>
     refine ⟨k + 1, by go_num, by omega, fun i hi => ?_, hB⟩
     rcases Nat.lt_succ_iff_lt_or_eq.1 hi with h | rfl
     ·exact HZ.out i h
     ·rw [HY.out]; exact fun e => HX.out e.symm
    case measure => simp [intOf]; omega
  ·have hA : ¬ x ∈ L := fun hm => by
    obtain ⟨i, hi, e⟩ := List.mem_iff_getElem.1 hm
    have := HZ.out i (by omega)
    rw [List.getD_eq_getElem?_getD, List.getElem?_eq_getElem hi] at this
    exact this e
   have HA := Lib.hid hA
   clear hc hA
   go_wp2
   go_ret
   exact ⟨⟨-1, rfl, by rw [decide_eq_false HA.out]; simp⟩, hB⟩
theorem conJ_any (v : Value) (L : List Int) (x : Int) (w : World) (h : RdJ w v L) :
  Calls Tryz.prog 64 #[v, .int .i64 x] w fun e w' => e = .returned (.bool (decide (x ∈ L))) ∧ Below w.heap.size w w' := by
 have H := Lib.hid (fun W h => idxJ_any v L x W h)
 have HD := Lib.hid h
 obtain ⟨a, c, rfl, _⟩ := h
 go_enter Tryz.func64, Tryz.ntmps64
 go_wp2_with fail
 refine (H.out _ HD.out).mono ?_
 rintro e w1 ⟨⟨r, rfl, hr⟩, hb1⟩
 have HRR := Lib.hid hr
 clear hr
 go_wp2
 go_ret
 exact ⟨ret_bool HRR.out, hb1⟩

end Go.Proofs.YtlbjfbpejomkmaaGreat
