import Derived.Test.YtkfonfheakpcbaaGreatWkCycB
import Derived.Test.YtkfonfheakpcbaaGreatWkPl
/- timeset: a list as a source: has, after. -/
namespace Go.Proofs.YtkfonfheakpcbaaGreat
open Go.RowKit Wk

set_option maxHeartbeats 400000 in
theorem bhas_any (x : Int) (v : Value) (l : List Sp) (w : World) (h : RdS w v l) (hv : rvB l = true) :
    Calls Tryz.prog 192 #[v, .int .i64 x] w fun e w' => e = .returned (.bool (inL l x)) ∧ Below w.heap.size w w' := by
  have H := Lib.hid (rhas_any v l x w h hv)
  clear h hv
  go_enter Tryz.func192, Tryz.ntmps192
  go_wp2_with fail
  refine H.out.mono ?_
  rintro e w1 ⟨rfl, hb1⟩
  go_wp2
  go_ret
  exact ⟨rfl, hb1⟩

set_option maxHeartbeats 1000000 in
theorem bafter_any (x : Int) (v : Value) (l : List Sp) (w : World) (h : RdS w v l) (hcan : Canon l) :
    Calls Tryz.prog 191 #[v, .int .i64 x] w (NxPost (inL l) x w) := by
  have HCN := Lib.hid hcan
  obtain ⟨a, c, rfl, hl, hc⟩ := h
  have i0 : ∀ (W : World) (x y : Int), (Instr.index 168 (.agg #[.int .i64 x, .int .i64 y]) (.int .i64 0)).run Tryz.prog W = .ok (.int .i64 x) W := fun _ _ _ => by kernel_rfl
  have i1 : ∀ (W : World) (x y : Int), (Instr.index 168 (.agg #[.int .i64 x, .int .i64 y]) (.int .i64 1)).run Tryz.prog W = .ok (.int .i64 y) W := fun _ _ _ => by kernel_rfl
  clear hcan
  go_enter Tryz.func191, Tryz.ntmps191
  go_wp2_with fail
  go_loopw [12] (fun i wr => ∃ k : Nat, k ≤ l.length ∧ i = .int .i64 k ∧ Hid (∀ j, j < k → (l.getD j (0, 0)).2 ≤ x) ∧ Below w.heap.size w wr) (fun i _ => l.length - (intOf i).toNat)
  case atStart => exact ⟨0, Nat.zero_le _, rfl, (fun j hj => by omega), Below.refl _ _⟩
  case round =>
    obtain ⟨k, hk, rfl, HK, hB⟩ := hrel
    by_cases hlt : k < l.length
    · obtain ⟨b, o, y, z, rfl, hbw, HXY, d1, d2⟩ := rd_at hc hB hlt
      have hp := idx_pos HCN.out hlt
      rw [HXY.out] at hp
      simp only at hp
      have HC := Lib.hid hc
      have hsz := hB.size
      have hBa : Below w.heap.size w (wr.alloc (.cells #[.int .i64 y, .int .i64 z] 44)) := hB.alloc hsz _
      clear hc
      go_wp2_with fail
      generalize wr.alloc (.cells #[.int .i64 y, .int .i64 z] 44) = wo at *
      go_loopw [21] (fun i wr2 => ∃ m : Nat, m ≤ 2 ∧ i = .int .i64 m ∧ (0 < m → y ≤ x) ∧ (1 < m → z ≤ x) ∧ wo = wr2) (fun i _ => 2 - (intOf i).toNat)
      case atStart => exact ⟨0, by omega, rfl, (fun h => by omega), (fun h => by omega), rfl⟩
      case round =>
        obtain ⟨m, hm, rfl, hm1, hm2, rfl⟩ := hrel
        rcases (by omega : m = 0 ∨ m = 1 ∨ m = 2) with rfl | rfl | rfl
        · clear hm1 hm2
          by_cases hxy : x < y
          · go_wp2
            go_ret2
            exact ⟨some y, bnext_fr HCN.out hlt HXY.out HK.out hxy, rfl, hBa⟩
          · go_wp2
            go_roundw
            case rel => exact ⟨1, by omega, rfl, (fun _ => by omega), (fun h => by omega), trivial⟩
            case measure => simp [intOf]
        · have hy := hm1 (by omega)
          clear hm1 hm2
          by_cases hxz : x < z
          · go_wp2
            go_ret2
            exact ⟨some z, bnext_to HCN.out hlt HXY.out HK.out hy hxz, rfl, hBa⟩
          · go_wp2
            go_roundw
            case rel => exact ⟨2, by omega, rfl, (fun _ => by omega), (fun h => by omega), trivial⟩
            case measure => simp [intOf]
        · have hz := hm2 (by omega)
          clear hm1 hm2
          go_wp2
          go_roundw
          case rel => exact ⟨k + 1, by omega, by go_num, (fun j hj => by
            rcases Nat.lt_succ_iff_lt_or_eq.1 hj with h | rfl
            · exact HK.out j h
            · rw [HXY.out]; exact hz), hBa⟩
          case measure => simp [intOf]; omega
    · clear hc
      go_wp2
      go_ret2
      exact ⟨none, bnext_no HCN.out (fun j hj => HK.out j (by omega)), rfl, hB⟩
end Go.Proofs.YtkfonfheakpcbaaGreat
