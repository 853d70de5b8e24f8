import Derived.Test.YtkfonfheakpcbaaGreatWkFst
import Derived.RangeFuncNested
import Derived.RangeFuncBound
import Derived.RangeFuncCalls
import Derived.RangeFuncLeaves
import Derived.RangeFuncFrom
import Derived.Shelf.Abstract
import Derived.Shelf.RegionOpen
import Derived.OwnWalkIn
import Derived.TacticsInMore
import Derived.LoopNIn
import Derived.LoopIn
/- slices.Backward at []int and at bounded: the iterators' contracts. -/
namespace Go.Proofs.YtkfonfheakpcbaaGreat
open Go.RowKit Go.Shelf Wk
attribute [local go_sem] Oper.semAt_some

def upt {α : Type} (f : Nat → α) (k : Nat) : List α := (List.range k).map f
theorem upt_succ {α : Type} (f : Nat → α) (k : Nat) : upt f (k + 1) = upt f k ++ [f k] := by simp [upt, List.range_succ]
theorem upt_length {α : Type} (f : Nat → α) (k : Nat) : (upt f k).length = k := by simp [upt]
theorem upt_mem {α : Type} {f : Nat → α} {k j : Nat} (h : j < k) : f j ∈ upt f k := List.mem_map.2 ⟨j, by simpa using h, rfl⟩
theorem upt_last {α : Type} {f : Nat → α} {k : Nat} {pre : List α} {x : α} (h : pre ++ [x] = upt f k) : ∃ k', k = k' + 1 ∧ x = f k' ∧ pre = upt f k' := by
  cases k with
  | zero => simp [upt] at h
  | succ k' =>
    rw [upt_succ] at h
    have := List.append_inj' h rfl
    exact ⟨k', rfl, by simpa using this.2, this.1⟩

/-- small numbers -/
abbrev Sm := { y : Int // -1152921504606846976 ≤ y ∧ y ≤ 1152921504606846976 }

set_option maxRecDepth 100000 in
set_option maxHeartbeats 2000000 in
theorem backI1_in (F : Fence) (n : Nat) (h7 : F.fn 177) (hro : F.round = none) (hn : 1 ≤ n) (l Bs n₀ : Nat) (a : Option Addr) (len cap : Nat) (f : Nat → Sm) (hreach : len ≤ 8796093022208) (J Jx : List (Nat × Sm) → World → Prop)
    (hY : ∀ pre x W, J pre W → pre.length < len → YieldAt F (n - 1) Tryz.prog l #[.int .i64 (x.1 : Int), .int .i64 x.2.1] W fun e W' =>
      (e = .returned (.bool true) ∧ J (pre ++ [x]) W' ∧ Below n₀ W W') ∨ (e = .returned (.bool false) ∧ Jx (pre ++ [x]) W'))
    (W : World) (hBs : W.cell? ⟨Bs, 0, none⟩ = some (.slice a len cap)) (hBn : Bs < n₀) (hc : ∀ j, j < len → ∃ b off, a = some ⟨b, off, none⟩ ∧ b < n₀ ∧ W.cell? ⟨b, off + j, none⟩ = some (.int .i64 (f j).1)) (h0 : J [] W) :
    CallsIn F n Tryz.prog 177 #[.func (.yield l) #[] #[], .pointer (some ⟨Bs, 0, none⟩)] W fun e W' => (∃ v, e = .returned v) ∧
      ((∃ ys, ys = upt (fun j => (len - 1 - j, f (len - 1 - j))) len ∧ J ys W') ∨ (∃ pre, (∃ k, k ≤ len ∧ pre = upt (fun j => (len - 1 - j, f (len - 1 - j))) k) ∧ Jx pre W')) := by
  refine callsIn_of_wp Tryz.func177 rfl h7 ?_ hro
  simp only [Tryz.ntmps177, List.size_toArray, List.length_cons, List.length_nil, Nat.reduceAdd, Nat.reduceSub, Array.replicate_succ, Array.replicate_zero, List.push_toArray, List.append_toArray, List.nil_append, List.cons_append]
  gi_wp2
  gi_loopw [3] (fun i wr => ∃ k : Nat, k ≤ len ∧ i = .int .i64 ((len : Int) - 1 - k) ∧ J (upt (fun j => (len - 1 - j, f (len - 1 - j))) k) wr ∧ Below n₀ W wr)
    (fun i _ => (intOf i + 1).toNat)
  case atStart => exact ⟨0, Nat.zero_le _, by simp, h0, Below.refl _ _⟩
  case round =>
    obtain ⟨k, hk, rfl, hJs, hnx⟩ := hrel
    by_cases hlt : k < len
    · obtain ⟨m, hm⟩ : ∃ m, len - 1 - k = m := ⟨_, rfl⟩
      have hml : m < len := by omega
      have hmi : (len : Int) - 1 - k = m := by omega
      obtain ⟨b, off, rfl, hb, hcc⟩ := hc m hml
      have hcx := (hnx.cell (p := ⟨b, off + m, none⟩) hb).trans hcc
      have hcs := (hnx.cell (p := ⟨Bs, 0, none⟩) hBn).trans hBs
      obtain ⟨fn, tmps, assign, body, hy, hR⟩ := hY _ (m, f m) wr hJs (by rw [upt_length]; exact hlt)
      dsimp only at hy
      rw [hmi]
      clear hc
      gi_wp2
      refine hR.mono ?_
      rintro e W3 (⟨rfl, hJ3, hk3⟩ | ⟨rfl, hJx3⟩)
      · gi_wp2
        go_roundw
        case rel => exact ⟨k + 1, by omega, by simp <;> omega, by rw [upt_succ, hm]; exact hJ3, hnx.trans hk3⟩
        case measure => simp [intOf] <;> omega
      · gi_wp2
        refine bodyPost_ret (results_none rfl _ _ _) rfl ?_
        exact ⟨⟨_, rfl⟩, .inr ⟨_, ⟨k + 1, by omega, by rw [upt_succ, hm]⟩, hJx3⟩⟩
    · obtain rfl : k = len := by omega
      have hmi : (k : Int) - 1 - k = -1 := by omega
      rw [hmi]
      clear hc
      gi_wp2
      go_end0
      exact ⟨⟨_, rfl⟩, .inl ⟨_, rfl, hJs⟩⟩

set_option maxHeartbeats 1000000 in
theorem backI_in (F : Fence) (n : Nat) (h5 : F.fn 174) (hro : F.round = none) (a : Option Addr) (len cap : Nat) (w : World) :
    CallsIn F n Tryz.prog 174 #[.slice a len cap] w fun e w' => e = .returned (.func (.func 177) #[] #[.pointer (some ⟨w.heap.size, 0, none⟩)]) ∧ w' = w.alloc (.cells #[.slice a len cap] 49) := by
  refine callsIn_of_wp Tryz.func174 rfl h5 ?_ hro
  simp only [Tryz.ntmps174, List.size_toArray, List.length_cons, List.length_nil, Nat.reduceAdd, Nat.reduceSub, Array.replicate_succ, Array.replicate_zero, List.push_toArray, List.append_toArray, List.nil_append, List.cons_append]
  gi_wp2
  go_ret
  exact ⟨rfl, rfl⟩

theorem backI_stops (F : Fence) (n : Nat) (h7 : F.fn 177) (hro : F.round = none) (hn : 1 ≤ n) (Bs n₀ : Nat) (a : Option Addr) (len cap : Nat) (f : Nat → Sm) (hreach : len ≤ 8796093022208) (w : World) (hBn : Bs < n₀) (hn₀ : n₀ ≤ w.heap.size)
    (hBs : w.cell? ⟨Bs, 0, none⟩ = some (.slice a len cap)) (hc : ∀ j, j < len → ∃ b off, a = some ⟨b, off, none⟩ ∧ b < n₀ ∧ w.cell? ⟨b, off + j, none⟩ = some (.int .i64 (f j).1)) :
    SeqStopsK F n Tryz.prog 177 #[.pointer (some ⟨Bs, 0, none⟩)] (fun x : Nat × Sm => #[.int .i64 (x.1 : Int), .int .i64 x.2.1]) (Below n₀) (fun ys => ys = upt (fun j => (len - 1 - j, f (len - 1 - j))) len)
      (fun pre => ∃ k, k ≤ len ∧ pre = upt (fun j => (len - 1 - j, f (len - 1 - j))) k) len w := fun l J Jx W hW _ _ hY h0 =>
  backI1_in F n h7 hro hn l Bs n₀ a len cap f hreach J Jx hY W ((hW.cell (p := ⟨Bs, 0, none⟩) (Nat.lt_of_lt_of_le hBn hn₀)).trans hBs) hBn
    (fun j hj => by obtain ⟨b, off, e, hb, hcc⟩ := hc j hj; exact ⟨b, off, e, hb, (hW.cell (p := ⟨b, off + j, none⟩) (Nat.lt_of_lt_of_le hb hn₀)).trans hcc⟩) h0

set_option maxRecDepth 100000 in
set_option maxHeartbeats 2000000 in
theorem backS1_in (F : Fence) (n : Nat) (h7 : F.fn 178) (hro : F.round = none) (hn : 1 ≤ n) (l Bs n₀ : Nat) (a : Option Addr) (len cap : Nat) (f : Nat → Sp) (hreach : len ≤ 8796093022208) (J Jx : List (Nat × Sp) → World → Prop)
    (hY : ∀ pre x W, J pre W → pre.length < len → YieldAt F (n - 1) Tryz.prog l #[.int .i64 (x.1 : Int), .agg #[.int .i64 x.2.1, .int .i64 x.2.2]] W fun e W' =>
      (e = .returned (.bool true) ∧ J (pre ++ [x]) W' ∧ Below n₀ W W') ∨ (e = .returned (.bool false) ∧ Jx (pre ++ [x]) W'))
    (W : World) (hBs : W.cell? ⟨Bs, 0, none⟩ = some (.slice a len cap)) (hBn : Bs < n₀) (hc : ∀ j, j < len → ∃ b off, a = some ⟨b, off, none⟩ ∧ b < n₀ ∧ W.cell? ⟨b, off + j * 2, none⟩ = some (.int .i64 (f j).1) ∧ W.cell? ⟨b, off + j * 2 + 1, none⟩ = some (.int .i64 (f j).2)) (h0 : J [] W) :
    CallsIn F n Tryz.prog 178 #[.func (.yield l) #[] #[], .pointer (some ⟨Bs, 0, none⟩)] W fun e W' => (∃ v, e = .returned v) ∧
      ((∃ ys, ys = upt (fun j => (len - 1 - j, f (len - 1 - j))) len ∧ J ys W') ∨ (∃ pre, (∃ k, k ≤ len ∧ pre = upt (fun j => (len - 1 - j, f (len - 1 - j))) k) ∧ Jx pre W')) := by
  refine callsIn_of_wp Tryz.func178 rfl h7 ?_ hro
  simp only [Tryz.ntmps178, List.size_toArray, List.length_cons, List.length_nil, Nat.reduceAdd, Nat.reduceSub, Array.replicate_succ, Array.replicate_zero, List.push_toArray, List.append_toArray, List.nil_append, List.cons_append]
  gi_wp2
  gi_loopw [3] (fun i wr => ∃ k : Nat, k ≤ len ∧ i = .int .i64 ((len : Int) - 1 - k) ∧ J (upt (fun j => (len - 1 - j, f (len - 1 - j))) k) wr ∧ Below n₀ W wr)
    (fun i _ => (intOf i + 1).toNat)
  case atStart => exact ⟨0, Nat.zero_le _, by simp, h0, Below.refl _ _⟩
  case round =>
    obtain ⟨k, hk, rfl, hJs, hnx⟩ := hrel
    by_cases hlt : k < len
    · obtain ⟨m, hm⟩ : ∃ m, len - 1 - k = m := ⟨_, rfl⟩
      have hml : m < len := by omega
      have hmi : (len : Int) - 1 - k = m := by omega
      obtain ⟨b, off, rfl, hb, hcc⟩ := hc m hml
      have hcx := (hnx.cell (p := ⟨b, off + m * 2, none⟩) hb).trans hcc.1
      have hcy := (hnx.cell (p := ⟨b, off + m * 2 + 1, none⟩) hb).trans hcc.2
      have hcs := (hnx.cell (p := ⟨Bs, 0, none⟩) hBn).trans hBs
      obtain ⟨fn, tmps, assign, body, hy, hR⟩ := hY _ (m, f m) wr hJs (by rw [upt_length]; exact hlt)
      dsimp only at hy
      rw [hmi]
      clear hc
      gi_wp2
      refine hR.mono ?_
      rintro e W3 (⟨rfl, hJ3, hk3⟩ | ⟨rfl, hJx3⟩)
      · gi_wp2
        go_roundw
        case rel => exact ⟨k + 1, by omega, by simp <;> omega, by rw [upt_succ, hm]; exact hJ3, hnx.trans hk3⟩
        case measure => simp [intOf] <;> omega
      · gi_wp2
        refine bodyPost_ret (results_none rfl _ _ _) rfl ?_
        exact ⟨⟨_, rfl⟩, .inr ⟨_, ⟨k + 1, by omega, by rw [upt_succ, hm]⟩, hJx3⟩⟩
    · obtain rfl : k = len := by omega
      have hmi : (k : Int) - 1 - k = -1 := by omega
      rw [hmi]
      clear hc
      gi_wp2
      go_end0
      exact ⟨⟨_, rfl⟩, .inl ⟨_, rfl, hJs⟩⟩

set_option maxHeartbeats 1000000 in
theorem backS_in (F : Fence) (n : Nat) (h5 : F.fn 175) (hro : F.round = none) (a : Option Addr) (len cap : Nat) (w : World) :
    CallsIn F n Tryz.prog 175 #[.slice a len cap] w fun e w' => e = .returned (.func (.func 178) #[] #[.pointer (some ⟨w.heap.size, 0, none⟩)]) ∧ w' = w.alloc (.cells #[.slice a len cap] 111) := by
  refine callsIn_of_wp Tryz.func175 rfl h5 ?_ hro
  simp only [Tryz.ntmps175, List.size_toArray, List.length_cons, List.length_nil, Nat.reduceAdd, Nat.reduceSub, Array.replicate_succ, Array.replicate_zero, List.push_toArray, List.append_toArray, List.nil_append, List.cons_append]
  gi_wp2
  go_ret
  exact ⟨rfl, rfl⟩

theorem backS_stops (F : Fence) (n : Nat) (h7 : F.fn 178) (hro : F.round = none) (hn : 1 ≤ n) (Bs n₀ : Nat) (a : Option Addr) (len cap : Nat) (f : Nat → Sp) (hreach : len ≤ 8796093022208) (w : World) (hBn : Bs < n₀) (hn₀ : n₀ ≤ w.heap.size)
    (hBs : w.cell? ⟨Bs, 0, none⟩ = some (.slice a len cap)) (hc : ∀ j, j < len → ∃ b off, a = some ⟨b, off, none⟩ ∧ b < n₀ ∧ w.cell? ⟨b, off + j * 2, none⟩ = some (.int .i64 (f j).1) ∧ w.cell? ⟨b, off + j * 2 + 1, none⟩ = some (.int .i64 (f j).2)) :
    SeqStopsK F n Tryz.prog 178 #[.pointer (some ⟨Bs, 0, none⟩)] (fun x : Nat × Sp => #[.int .i64 (x.1 : Int), .agg #[.int .i64 x.2.1, .int .i64 x.2.2]]) (Below n₀) (fun ys => ys = upt (fun j => (len - 1 - j, f (len - 1 - j))) len)
      (fun pre => ∃ k, k ≤ len ∧ pre = upt (fun j => (len - 1 - j, f (len - 1 - j))) k) len w := fun l J Jx W hW _ _ hY h0 =>
  backS1_in F n h7 hro hn l Bs n₀ a len cap f hreach J Jx hY W ((hW.cell (p := ⟨Bs, 0, none⟩) (Nat.lt_of_lt_of_le hBn hn₀)).trans hBs) hBn
    (fun j hj => by obtain ⟨b, off, e, hb, hcc⟩ := hc j hj; exact ⟨b, off, e, hb, (hW.cell (p := ⟨b, off + j * 2, none⟩) (Nat.lt_of_lt_of_le hb hn₀)).trans hcc.1, (hW.cell (p := ⟨b, off + j * 2 + 1, none⟩) (Nat.lt_of_lt_of_le hb hn₀)).trans hcc.2⟩) h0

end Go.Proofs.YtkfonfheakpcbaaGreat
