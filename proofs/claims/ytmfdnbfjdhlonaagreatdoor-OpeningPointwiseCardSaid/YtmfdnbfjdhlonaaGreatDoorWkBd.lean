import Derived.Test.YtmfdnbfjdhlonaaGreatDoorWkBc
import Derived.RangeFuncNested
import Derived.RangeFuncBound
import Derived.RangeFuncCalls
import Derived.RangeFuncLeaves
import Derived.RangeFuncFrom
import Derived.Shelf.Abstract
import Derived.Shelf.RegionOpen
import Derived.OwnWalkIn
import Derived.TacticsInMore
import Derived.LoopNIn
import Derived.LoopIn
import Derived.RangeFuncBox
import Derived.Test.YtmfdnbfjdhlonaaGreatDoorWkPl
/- timeset.first: the least difference of two sources. -/
namespace Go.Proofs.YtmfdnbfjdhlonaaGreatDoor
open Go.RowKit Wk

structure SrcA (T : TypeId) (v : Value) (w0 : World) (h : Int → Bool) (kh ka : FuncId) : Prop where
 hm : ∀ W, (method 357 T v "civiltime/timeset.has").run Tryz.prog W = .ok (kh, v) W
 am : ∀ W, (method 357 T v "civiltime/timeset.after").run Tryz.prog W = .ok (ka, v) W
 hf : ∀ args W, (callFunc kh args).run Tryz.prog W = .ok (.enter kh args) W
 af : ∀ args W, (callFunc ka args).run Tryz.prog W = .ok (.enter ka args) W
 hc : ∀ W x, Below w0.heap.size w0 W → -1152921504606846976 ≤ x → x ≤ 1152921504606846976 → Calls Tryz.prog kh #[v, .int .i64 x] W fun e w' => e = .returned (.bool (h x)) ∧ Below W.heap.size W w'
 ac : ∀ W x, Below w0.heap.size w0 W → -1152921504606846976 ≤ x → x ≤ 1152921504606846976 → Calls Tryz.prog ka #[v, .int .i64 x] W (NxPost h x W)

def FiPost (d : Int → Bool) (low high : Int) (w : World) (e : Ending) (w' : World) : Prop := ∃ r : Option Int, FirstD d low high r ∧ e = .returned (.tuple #[.int .i64 (r.getD 0), .bool r.isSome]) ∧ Below w.heap.size w w'

set_option maxRecDepth 100000 in
set_option maxHeartbeats 4000000 in
theorem first_any (Ta Tb : TypeId) (va vb : Value) (ha hb : Int → Bool) (kha kaa khb kab : FuncId) (low high : Int) (w : World) (hA : SrcA Ta va w ha kha kaa) (hB : SrcA Tb vb w hb khb kab)
  (h1 : -1152921504606846976 ≤ low) (h2 : high ≤ 1152921504606846976) :
  Calls Tryz.prog 124 #[.iface Ta va, .iface Tb vb, .int .i64 low, .int .i64 high] w (FiPost (fun x => ha x != hb x) low high w) := by
 have q1 := hA.hm
 have q2 := hA.am
 have q3 := hB.hm
 have q4 := hB.am
 have q5 := hA.hf
 have q6 := hA.af
 have q7 := hB.hf
 have q8 := hB.af
 have H1 := Lib.hid hA.hc
 have H2 := Lib.hid hA.ac
 have H3 := Lib.hid hB.hc
 have H4 := Lib.hid hB.ac
 clear hA hB
 go_enter Tryz.func124, Tryz.ntmps124
 go_wp2_with fail
 go_loopw [10] (fun u wr => ∃ y : Int, u = .int .i64 y ∧ low ≤ y ∧ Hid (∀ z, low ≤ z → z < y → (ha z != hb z) = false) ∧ Below w.heap.size w wr) (fun u _ => (high - intOf u).toNat)
 case atStart => exact ⟨low, rfl, by omega, (fun z z1 z2 => by omega), Below.refl _ _⟩
 case round =>
  obtain ⟨y, rfl, hy1, HZ, hW⟩ := hrel
  by_cases hlt : y < high
  ·go_wp2_with fail
   refine (H1.out _ y hW (by omega) (by omega)).mono ?_
   rintro e w1 ⟨rfl, hb1⟩
   have hW1 := keepBelow hW hb1
   clear hb1
   go_wp2_with fail
   refine (H3.out _ y hW1 (by omega) (by omega)).mono ?_
   rintro e w2 ⟨rfl, hb2⟩
   have hW2 := keepBelow hW1 hb2
   clear hb2
   cases hd : (ha y != hb y) with
   | true =>
    have HD := Lib.hid hd
    have hg : (ha y == hb y) = false := by cases u1 : ha y <;> cases u2 : hb y <;> simp_all
    go_wp2
    go_ret2
    exact ⟨some y, ⟨hy1, hlt, HD.out, HZ.out⟩, rfl, hW2⟩
   | false =>
    have HD := Lib.hid hd
    have hg : (ha y == hb y) = true := by cases u1 : ha y <;> cases u2 : hb y <;> simp_all
    go_wp2_with fail
    refine (H2.out _ y hW2 (by omega) (by omega)).mono ?_
    rintro e w3 ⟨r1, hr1, rfl, hb3⟩
    have hW3 := keepBelow hW2 hb3
    have HR1 := Lib.hid hr1
    clear hb3 hr1
    go_wp2_with fail
    refine (H4.out _ y hW3 (by omega) (by omega)).mono ?_
    rintro e w4 ⟨r2, hr2, rfl, hb4⟩
    have hW4 := keepBelow hW3 hb4
    have HR2 := Lib.hid hr2
    clear hb4 hr2
    have HN : Hid (∀ u, (∀ k, r1 = some k → u ≤ k) → (∀ k, r2 = some k → u ≤ k) → ∀ z, low ≤ z → z < u → (ha z != hb z) = false) := by
     intro u hu1 hu2 z z1 z2
     by_cases hz : z < y
     ·exact HZ.out z z1 hz
     ·rw [const_next HR1.out (by omega) (fun k hk => by have := hu1 k hk; omega), const_next HR2.out (by omega) (fun k hk => by have := hu2 k hk; omega)]
      exact HD.out
    clear hd
    cases r1 with
    | none =>
     cases r2 with
     | none =>
      go_wp2
      go_ret2
      exact ⟨none, (fun z z1 z2 => HN.out high (fun k e => by cases e) (fun k e => by cases e) z z1 z2), rfl, hW4⟩
     | some k2 =>
      have hk2 : y < k2 := HR2.out.1
      go_wp2
      go_roundw
      case rel => exact ⟨k2, rfl, by omega, HN.out k2 (fun k e => by cases e) (fun k e => by cases e; omega), hW4⟩
      case measure => simp [intOf]; omega
    | some k1 =>
     have hk1 : y < k1 := HR1.out.1
     cases r2 with
     | none =>
      go_wp2
      go_roundw
      case rel => exact ⟨k1, rfl, by omega, HN.out k1 (fun k e => by cases e; omega) (fun k e => by cases e), hW4⟩
      case measure => simp [intOf]; omega
     | some k2 =>
      have hk2 : y < k2 := HR2.out.1
      go_wp2
      go_roundw
      case rel => exact ⟨min k1 k2, rfl, by omega, HN.out _ (fun k e => by cases e; omega) (fun k e => by cases e; omega), hW4⟩
      case measure => simp [intOf]; omega
  ·go_wp2
   go_ret2
   exact ⟨none, (fun z z1 z2 => HZ.out z z1 (by omega)), rfl, hW⟩

theorem srcA_cycle (P : Int) (v : Value) (l : List Sp) (w : World) (h : RdS w v l) (hv : pvB P l = true) :
  SrcA 153 (.agg #[.int .i64 P, v]) w (hasP (P, l)) 252 251 := by
 obtain ⟨a, c, rfl⟩ := h.form
 exact ⟨fun W => m_chas W _ _ _ _, fun W => m_cafter W _ _ _ _, fun args W => by go_simp, fun args W => by go_simp, fun W x hb h1 h2 => chas_any P x _ l W (keepRd hb h) hv h1 h2, fun W x hb h1 h2 => cafter_any P x _ l W (keepRd hb h) hv h1 h2⟩
theorem srcA_bounded (v : Value) (l : List Sp) (w : World) (h : RdS w v l) (hv : rvB l = true) :
  SrcA 154 v w (inL l) 258 257 := by
 obtain ⟨a, c, rfl⟩ := h.form
 exact ⟨fun W => m_bhas W _ _ _, fun W => m_bafter W _ _ _, fun args W => by go_simp, fun args W => by go_simp, fun W x hb _ _ => bhas_any x _ l W (keepRd hb h) hv, fun W x hb _ _ => bafter_any x _ l W (keepRd hb h) (canon_of_rvB hv).1⟩
end Go.Proofs.YtmfdnbfjdhlonaaGreatDoor
namespace Go.Proofs.YtmfdnbfjdhlonaaGreatDoor
open Go.RowKit Go.Shelf Wk
attribute [local go_sem] Oper.semAt_some

def upt {α : Type} (f : Nat → α) (k : Nat) : List α := (List.range k).map f
theorem upt_succ {α : Type} (f : Nat → α) (k : Nat) : upt f (k + 1) = upt f k ++ [f k] := by simp [upt, List.range_succ]
theorem upt_length {α : Type} (f : Nat → α) (k : Nat) : (upt f k).length = k := by simp [upt]
theorem upt_mem {α : Type} {f : Nat → α} {k j : Nat} (h : j < k) : f j ∈ upt f k := List.mem_map.2 ⟨j, by simpa using h, rfl⟩
theorem upt_last {α : Type} {f : Nat → α} {k : Nat} {pre : List α} {x : α} (h : pre ++ [x] = upt f k) : ∃ k', k = k' + 1 ∧ x = f k' ∧ pre = upt f k' := by
 cases k with
 | zero => simp [upt] at h
 | succ k' =>
  rw [upt_succ] at h
  have := List.append_inj' h rfl
  exact ⟨k', rfl, by simpa using this.2, this.1⟩

abbrev Sm := { y : Int // -1152921504606846976 ≤ y ∧ y ≤ 1152921504606846976 }

set_option maxRecDepth 100000 in
set_option maxHeartbeats 2000000 in
theorem backI1_in (F : Fence) (n : Nat) (h7 : F.fn 244) (hro : F.round = none) (hn : 1 ≤ n) (l Bs n₀ : Nat) (a : Option Addr) (len cap : Nat) (f : Nat → Sm) (hreach : len ≤ 8796093022208) (J Jx : List (Nat × Sm) → World → Prop)
  (hY : ∀ pre x W, J pre W → pre.length < len → YieldAt F (n - 1) Tryz.prog l #[.int .i64 (x.1 : Int), .int .i64 x.2.1] W fun e W' =>
   (e = .returned (.bool true) ∧ J (pre ++ [x]) W' ∧ Below n₀ W W') ∨ (e = .returned (.bool false) ∧ Jx (pre ++ [x]) W'))
  (W : World) (hBs : W.cell? ⟨Bs, 0, none⟩ = some (.slice a len cap)) (hBn : Bs < n₀) (hc : ∀ j, j < len → ∃ b off, a = some ⟨b, off, none⟩ ∧ b < n₀ ∧ W.cell? ⟨b, off + j, none⟩ = some (.int .i64 (f j).1)) (h0 : J [] W) :
  CallsIn F n Tryz.prog 244 #[.func (.yield l) #[] #[], .pointer (some ⟨Bs, 0, none⟩)] W fun e W' => (∃ v, e = .returned v) ∧
   ((∃ ys, ys = upt (fun j => (len - 1 - j, f (len - 1 - j))) len ∧ J ys W') ∨ (∃ pre, (∃ k, k ≤ len ∧ pre = upt (fun j => (len - 1 - j, f (len - 1 - j))) k) ∧ Jx pre W')) := by
 refine callsIn_of_wp Tryz.func244 rfl h7 ?_ hro
 simp only [Tryz.ntmps244, List.size_toArray, List.length_cons, List.length_nil, Nat.reduceAdd, Nat.reduceSub, Array.replicate_succ, Array.replicate_zero, List.push_toArray, List.append_toArray, List.nil_append, List.cons_append]
 gi_wp2
 gi_loopw [3] (fun i wr => ∃ k : Nat, k ≤ len ∧ i = .int .i64 ((len : Int) - 1 - k) ∧ J (upt (fun j => (len - 1 - j, f (len - 1 - j))) k) wr ∧ Below n₀ W wr)
  (fun i _ => (intOf i + 1).toNat)
 case atStart => exact ⟨0, Nat.zero_le _, by simp, h0, Below.refl _ _⟩
 case round =>
  obtain ⟨k, hk, rfl, hJs, hnx⟩ := hrel
  by_cases hlt : k < len
  ·obtain ⟨m, hm⟩ : ∃ m, len - 1 - k = m := ⟨_, rfl⟩
   have hml : m < len := by omega
   have hmi : (len : Int) - 1 - k = m := by omega
   obtain ⟨b, off, rfl, hb, hcc⟩ := hc m hml
   have hcx := (hnx.cell (p := ⟨b, off + m, none⟩) hb).trans hcc
   have hcs := (hnx.cell (p := ⟨Bs, 0, none⟩) hBn).trans hBs
   obtain ⟨fn, tmps, assign, body, hy, hR⟩ := hY _ (m, f m) wr hJs (by rw [upt_length]; exact hlt)
   dsimp only at hy
   rw [hmi]
   clear hc
   gi_wp2
   refine hR.mono ?_
   rintro e W3 (⟨rfl, hJ3, hk3⟩ | ⟨rfl, hJx3⟩)
   ·gi_wp2
    go_roundw
    case rel => exact ⟨k + 1, by omega, by simp <;> omega, by rw [upt_succ, hm]; exact hJ3, hnx.trans hk3⟩
    case measure => simp [intOf] <;> omega
   ·gi_wp2
    refine bodyPost_ret (results_none rfl _ _ _) rfl ?_
    exact ⟨⟨_, rfl⟩, .inr ⟨_, ⟨k + 1, by omega, by rw [upt_succ, hm]⟩, hJx3⟩⟩
  ·obtain rfl : k = len := by omega
   have hmi : (k : Int) - 1 - k = -1 := by omega
   rw [hmi]
   clear hc
   gi_wp2
   go_end0
   exact ⟨⟨_, rfl⟩, .inl ⟨_, rfl, hJs⟩⟩

set_option maxHeartbeats 1000000 in
theorem backI_in (F : Fence) (n : Nat) (h5 : F.fn 241) (hro : F.round = none) (a : Option Addr) (len cap : Nat) (w : World) :
  CallsIn F n Tryz.prog 241 #[.slice a len cap] w fun e w' => e = .returned (.func (.func 244) #[] #[.pointer (some ⟨w.heap.size, 0, none⟩)]) ∧ w' = w.alloc (.cells #[.slice a len cap] 53) := by
 refine callsIn_of_wp Tryz.func241 rfl h5 ?_ hro
 simp only [Tryz.ntmps241, List.size_toArray, List.length_cons, List.length_nil, Nat.reduceAdd, Nat.reduceSub, Array.replicate_succ, Array.replicate_zero, List.push_toArray, List.append_toArray, List.nil_append, List.cons_append]
 gi_wp2
 go_ret
 exact ⟨rfl, rfl⟩

theorem backI_stops (F : Fence) (n : Nat) (h7 : F.fn 244) (hro : F.round = none) (hn : 1 ≤ n) (Bs n₀ : Nat) (a : Option Addr) (len cap : Nat) (f : Nat → Sm) (hreach : len ≤ 8796093022208) (w : World) (hBn : Bs < n₀) (hn₀ : n₀ ≤ w.heap.size)
  (hBs : w.cell? ⟨Bs, 0, none⟩ = some (.slice a len cap)) (hc : ∀ j, j < len → ∃ b off, a = some ⟨b, off, none⟩ ∧ b < n₀ ∧ w.cell? ⟨b, off + j, none⟩ = some (.int .i64 (f j).1)) :
  SeqStopsK F n Tryz.prog 244 #[.pointer (some ⟨Bs, 0, none⟩)] (fun x : Nat × Sm => #[.int .i64 (x.1 : Int), .int .i64 x.2.1]) (Below n₀) (fun ys => ys = upt (fun j => (len - 1 - j, f (len - 1 - j))) len)
   (fun pre => ∃ k, k ≤ len ∧ pre = upt (fun j => (len - 1 - j, f (len - 1 - j))) k) len w := fun l J Jx W hW _ _ hY h0 =>
 backI1_in F n h7 hro hn l Bs n₀ a len cap f hreach J Jx hY W ((hW.cell (p := ⟨Bs, 0, none⟩) (Nat.lt_of_lt_of_le hBn hn₀)).trans hBs) hBn
  (fun j hj => by obtain ⟨b, off, e, hb, hcc⟩ := hc j hj; exact ⟨b, off, e, hb, (hW.cell (p := ⟨b, off + j, none⟩) (Nat.lt_of_lt_of_le hb hn₀)).trans hcc⟩) h0

set_option maxRecDepth 100000 in
set_option maxHeartbeats 2000000 in
theorem backS1_in (F : Fence) (n : Nat) (h7 : F.fn 245) (hro : F.round = none) (hn : 1 ≤ n) (l Bs n₀ : Nat) (a : Option Addr) (len cap : Nat) (f : Nat → Sp) (hreach : len ≤ 8796093022208) (J Jx : List (Nat × Sp) → World → Prop)
  (hY : ∀ pre x W, J pre W → pre.length < len → YieldAt F (n - 1) Tryz.prog l #[.int .i64 (x.1 : Int), .agg #[.int .i64 x.2.1, .int .i64 x.2.2]] W fun e W' =>
   (e = .returned (.bool true) ∧ J (pre ++ [x]) W' ∧ Below n₀ W W') ∨ (e = .returned (.bool false) ∧ Jx (pre ++ [x]) W'))
  (W : World) (hBs : W.cell? ⟨Bs, 0, none⟩ = some (.slice a len cap)) (hBn : Bs < n₀) (hc : ∀ j, j < len → ∃ b off, a = some ⟨b, off, none⟩ ∧ b < n₀ ∧ W.cell? ⟨b, off + j * 2, none⟩ = some (.int .i64 (f j).1) ∧ W.cell? ⟨b, off + j * 2 + 1, none⟩ = some (.int .i64 (f j).2)) (h0 : J [] W) :
  CallsIn F n Tryz.prog 245 #[.func (.yield l) #[] #[], .pointer (some ⟨Bs, 0, none⟩)] W fun e W' => (∃ v, e = .returned v) ∧
   ((∃ ys, ys = upt (fun j => (len - 1 - j, f (len - 1 - j))) len ∧ J ys W') ∨ (∃ pre, (∃ k, k ≤ len ∧ pre = upt (fun j => (len - 1 - j, f (len - 1 - j))) k) ∧ Jx pre W')) := by
 refine callsIn_of_wp Tryz.func245 rfl h7 ?_ hro
 simp only [Tryz.ntmps245, List.size_toArray, List.length_cons, List.length_nil, Nat.reduceAdd, Nat.reduceSub, Array.replicate_succ, Array.replicate_zero, List.push_toArray, List.append_toArray, List.nil_append, List.cons_append]
 gi_wp2
 gi_loopw [3] (fun i wr => ∃ k : Nat, k ≤ len ∧ i = .int .i64 ((len : Int) - 1 - k) ∧ J (upt (fun j => (len - 1 - j, f (len - 1 - j))) k) wr ∧ Below n₀ W wr)
  (fun i _ => (intOf i + 1).toNat)
 case atStart => exact ⟨0, Nat.zero_le _, by simp, h0, Below.refl _ _⟩
 case round =>
  obtain ⟨k, hk, rfl, hJs, hnx⟩ := hrel
  by_cases hlt : k < len
  ·obtain ⟨m, hm⟩ : ∃ m, len - 1 - k = m := ⟨_, rfl⟩
   have hml : m < len := by omega
   have hmi : (len : Int) - 1 - k = m := by omega
   obtain ⟨b, off, rfl, hb, hcc⟩ := hc m hml
   have hcx := (hnx.cell (p := ⟨b, off + m * 2, none⟩) hb).trans hcc.1
   have hcy := (hnx.cell (p := ⟨b, off + m * 2 + 1, none⟩) hb).trans hcc.2
   have hcs := (hnx.cell (p := ⟨Bs, 0, none⟩) hBn).trans hBs
   obtain ⟨fn, tmps, assign, body, hy, hR⟩ := hY _ (m, f m) wr hJs (by rw [upt_length]; exact hlt)
   dsimp only at hy
   rw [hmi]
   clear hc
   gi_wp2
   refine hR.mono ?_
   rintro e W3 (⟨rfl, hJ3, hk3⟩ | ⟨rfl, hJx3⟩)
   ·gi_wp2
    go_roundw
    case rel => exact ⟨k + 1, by omega, by simp <;> omega, by rw [upt_succ, hm]; exact hJ3, hnx.trans hk3⟩
    case measure => simp [intOf] <;> omega
   ·gi_wp2
    refine bodyPost_ret (results_none rfl _ _ _) rfl ?_
    exact ⟨⟨_, rfl⟩, .inr ⟨_, ⟨k + 1, by omega, by rw [upt_succ, hm]⟩, hJx3⟩⟩
  ·obtain rfl : k = len := by omega
   have hmi : (k : Int) - 1 - k = -1 := by omega
   rw [hmi]
   clear hc
   gi_wp2
   go_end0
   exact ⟨⟨_, rfl⟩, .inl ⟨_, rfl, hJs⟩⟩

set_option maxHeartbeats 1000000 in
theorem backS_in (F : Fence) (n : Nat) (h5 : F.fn 242) (hro : F.round = none) (a : Option Addr) (len cap : Nat) (w : World) :
  CallsIn F n Tryz.prog 242 #[.slice a len cap] w fun e w' => e = .returned (.func (.func 245) #[] #[.pointer (some ⟨w.heap.size, 0, none⟩)]) ∧ w' = w.alloc (.cells #[.slice a len cap] 154) := by
 refine callsIn_of_wp Tryz.func242 rfl h5 ?_ hro
 simp only [Tryz.ntmps242, List.size_toArray, List.length_cons, List.length_nil, Nat.reduceAdd, Nat.reduceSub, Array.replicate_succ, Array.replicate_zero, List.push_toArray, List.append_toArray, List.nil_append, List.cons_append]
 gi_wp2
 go_ret
 exact ⟨rfl, rfl⟩

theorem backS_stops (F : Fence) (n : Nat) (h7 : F.fn 245) (hro : F.round = none) (hn : 1 ≤ n) (Bs n₀ : Nat) (a : Option Addr) (len cap : Nat) (f : Nat → Sp) (hreach : len ≤ 8796093022208) (w : World) (hBn : Bs < n₀) (hn₀ : n₀ ≤ w.heap.size)
  (hBs : w.cell? ⟨Bs, 0, none⟩ = some (.slice a len cap)) (hc : ∀ j, j < len → ∃ b off, a = some ⟨b, off, none⟩ ∧ b < n₀ ∧ w.cell? ⟨b, off + j * 2, none⟩ = some (.int .i64 (f j).1) ∧ w.cell? ⟨b, off + j * 2 + 1, none⟩ = some (.int .i64 (f j).2)) :
  SeqStopsK F n Tryz.prog 245 #[.pointer (some ⟨Bs, 0, none⟩)] (fun x : Nat × Sp => #[.int .i64 (x.1 : Int), .agg #[.int .i64 x.2.1, .int .i64 x.2.2]]) (Below n₀) (fun ys => ys = upt (fun j => (len - 1 - j, f (len - 1 - j))) len)
   (fun pre => ∃ k, k ≤ len ∧ pre = upt (fun j => (len - 1 - j, f (len - 1 - j))) k) len w := fun l J Jx W hW _ _ hY h0 =>
 backS1_in F n h7 hro hn l Bs n₀ a len cap f hreach J Jx hY W ((hW.cell (p := ⟨Bs, 0, none⟩) (Nat.lt_of_lt_of_le hBn hn₀)).trans hBs) hBn
  (fun j hj => by obtain ⟨b, off, e, hb, hcc⟩ := hc j hj; exact ⟨b, off, e, hb, (hW.cell (p := ⟨b, off + j * 2, none⟩) (Nat.lt_of_lt_of_le hb hn₀)).trans hcc.1, (hW.cell (p := ⟨b, off + j * 2 + 1, none⟩) (Nat.lt_of_lt_of_le hb hn₀)).trans hcc.2⟩) h0

end Go.Proofs.YtmfdnbfjdhlonaaGreatDoor
namespace Go.Proofs.YtmfdnbfjdhlonaaGreatDoor
open Go.RowKit Go.Shelf Wk
attribute [local go_sem] Oper.semAt_some

set_option maxRecDepth 100000 in
set_option maxHeartbeats 2000000 in
theorem bbefore_any (x : Int) (v : Value) (l : List Sp) (w : World) (h : RdS w v l) (hcan : Canon l) :
  Calls Tryz.prog 237 #[v, .int .i64 x] w (PvPost (inL l) x w) := by
 have HCN := Lib.hid hcan
 obtain ⟨a, c, rfl, hl, hc⟩ := h
 clear hcan
 refine (callsIn_wide (n := 5)).1 ?_
 refine callsIn_of_wp_marks Tryz.func237 rfl trivial ?_ rfl
 simp only [Tryz.ntmps237, List.size_toArray, List.length_cons, List.length_nil, Nat.reduceAdd, Nat.reduceSub, Array.replicate_succ, Array.replicate_zero, List.push_toArray, List.append_toArray, List.nil_append, List.cons_append]
 gi_wp2_with (refine ⟨trivial, ?_⟩; gi_at_call 242; refine (backS_in Fence.wide _ trivial rfl _ _ _ _).mono ?_; rintro e w' ⟨rfl, rfl⟩)
 have c0 : ((((w.alloc (.cells #[.int .i64 x] 3)).alloc (.cells #[.int .i64 0] 3)).alloc (.cells #[.bool false] 4)).alloc (.cells #[.slice a l.length c] 154)).cell? ⟨w.heap.size, 0, none⟩ = some (.int .i64 x) := by simp [go_sem]
 have c1 : ((((w.alloc (.cells #[.int .i64 x] 3)).alloc (.cells #[.int .i64 0] 3)).alloc (.cells #[.bool false] 4)).alloc (.cells #[.slice a l.length c] 154)).cell? ⟨w.heap.size + 1, 0, none⟩ = some (.int .i64 0) := by simp [go_sem]
 have c2 : ((((w.alloc (.cells #[.int .i64 x] 3)).alloc (.cells #[.int .i64 0] 3)).alloc (.cells #[.bool false] 4)).alloc (.cells #[.slice a l.length c] 154)).cell? ⟨w.heap.size + 1 + 1, 0, none⟩ = some (.bool false) := by simp [go_sem]
 have c3 : ((((w.alloc (.cells #[.int .i64 x] 3)).alloc (.cells #[.int .i64 0] 3)).alloc (.cells #[.bool false] 4)).alloc (.cells #[.slice a l.length c] 154)).cell? ⟨w.heap.size + 1 + 1 + 1, 0, none⟩ = some (.slice a l.length c) := by simp [go_sem]
 have f1 : ((((w.alloc (.cells #[.int .i64 x] 3)).alloc (.cells #[.int .i64 0] 3)).alloc (.cells #[.bool false] 4)).alloc (.cells #[.slice a l.length c] 154)).frozen? ⟨w.heap.size + 1, 0, none⟩ = false := by simp [go_sem]
 have f2 : ((((w.alloc (.cells #[.int .i64 x] 3)).alloc (.cells #[.int .i64 0] 3)).alloc (.cells #[.bool false] 4)).alloc (.cells #[.slice a l.length c] 154)).frozen? ⟨w.heap.size + 1 + 1, 0, none⟩ = false := by simp [go_sem]
 have hB0 : Below w.heap.size w ((((w.alloc (.cells #[.int .i64 x] 3)).alloc (.cells #[.int .i64 0] 3)).alloc (.cells #[.bool false] 4)).alloc (.cells #[.slice a l.length c] 154)) :=
  ((((Below.refl _ w).alloc (Nat.le_refl _) _).alloc (by simp) _).alloc (by simp; omega) _).alloc (by simp; omega) _
 have hsz : ((((w.alloc (.cells #[.int .i64 x] 3)).alloc (.cells #[.int .i64 0] 3)).alloc (.cells #[.bool false] 4)).alloc (.cells #[.slice a l.length c] 154)).heap.size = w.heap.size + 4 := by simp
 generalize ((((w.alloc (.cells #[.int .i64 x] 3)).alloc (.cells #[.int .i64 0] 3)).alloc (.cells #[.bool false] 4)).alloc (.cells #[.slice a l.length c] 154)) = W0 at *
 have hc' : ∀ j, j < l.length → ∃ b off, a = some ⟨b, off, none⟩ ∧ b < w.heap.size + 4 ∧ W0.cell? ⟨b, off + j * 2, none⟩ = some (.int .i64 (l.getD j (0, 0)).1) ∧ W0.cell? ⟨b, off + j * 2 + 1, none⟩ = some (.int .i64 (l.getD j (0, 0)).2) := by
  intro j hj
  obtain ⟨b, o, e, h1, h2⟩ := hc j hj
  have hbw : b < w.heap.size := World.block_lt_of_cell? w _ h1
  exact ⟨b, o, e, by omega, (hB0.cell (p := ⟨b, o + j * 2, none⟩) hbw).trans h1, (hB0.cell (p := ⟨b, o + j * 2 + 1, none⟩) hbw).trans h2⟩
 have hst := backS_stops Fence.wide 4 trivial rfl (by omega) (w.heap.size + 1 + 1 + 1) (w.heap.size + 4) a l.length c (fun j => l.getD j (0, 0)) hl W0 (by omega) (by omega) c3 hc'
 clear hc hc' c3
 refine wpIn_rangeFunc_ownH rfl (by omega) (gf := 245) (lb := #[.pointer (some ⟨w.heap.size + 1 + 1 + 1, 0, none⟩)]) rfl trivial (enters_of Tryz.func245 (by kernel_rfl) rfl)
  hst belowK_t (belowK_b (by omega)) (Below.refl _ _) (fun _ => rfl)
  (fun pre W => ((∀ p ∈ pre, x < p.2.1) ∧ W.cell? ⟨w.heap.size, 0, none⟩ = some (.int .i64 x) ∧ W.cell? ⟨w.heap.size + 1, 0, none⟩ = some (.int .i64 0) ∧ W.frozen? ⟨w.heap.size + 1, 0, none⟩ = false ∧
   W.cell? ⟨w.heap.size + 1 + 1, 0, none⟩ = some (.bool false) ∧ W.frozen? ⟨w.heap.size + 1 + 1, 0, none⟩ = false) ∧ (Below w.heap.size w W ∧ Below (w.heap.size + 4) W0 W))
  (fun c pre W => (c = .ret ∧ ∃ pre' p y, pre = pre' ++ [p] ∧ (∀ q ∈ pre', x < q.2.1) ∧ ((p.2.2 ≤ x ∧ y = p.2.2) ∨ (x < p.2.2 ∧ p.2.1 ≤ x ∧ y = p.2.1)) ∧
   W.cell? ⟨w.heap.size + 1, 0, none⟩ = some (.int .i64 y) ∧ W.cell? ⟨w.heap.size + 1 + 1, 0, none⟩ = some (.bool true)) ∧ Below w.heap.size w W)
  (OwnFrom.and (Own.from (fun s A B row hs hg hr => ⟨hs.1, cell_kept hs.2.1 hg hr, cell_kept hs.2.2.1 hg hr, (frozen_kept hs.2.2.1 hg hr).trans hs.2.2.2.1, cell_kept hs.2.2.2.2.1 hg hr, (frozen_kept hs.2.2.2.2.1 hg hr).trans hs.2.2.2.2.2⟩) _)
   (OwnFrom.and (ownFrom_below (Nat.le_refl _) (by omega)) (ownFrom_below (by omega) (by omega))))
  (fun c => OwnFrom.and (Own.from (fun s A B row hs hg hr => ⟨hs.1, by obtain ⟨pre', p, y, e1, e2, e3, e4, e5⟩ := hs.2; exact ⟨pre', p, y, e1, e2, e3, cell_kept e4 hg hr, cell_kept e5 hg hr⟩⟩) _) (ownFrom_below (Nat.le_refl _) (by omega)))
  ⟨⟨by simp, c0, c1, f1, c2, f2⟩, hB0, Below.refl _ _⟩
  (fun p a' W => ∃ Bx, w.heap.size + 4 ≤ Bx ∧ W.cell? ⟨Bx, 0, none⟩ = some (.int .i64 p.2.1) ∧ W.cell? ⟨Bx, 1, none⟩ = some (.int .i64 p.2.2) ∧
   a' = { tmps := #[.slice a l.length c, .int .i64 x, undef, .pointer (some ⟨w.heap.size, 0, none⟩), .pointer (some ⟨w.heap.size + 1, 0, none⟩), .pointer (some ⟨w.heap.size + 1 + 1, 0, none⟩), undef,
    .pointer (some ⟨Bx, 0, none⟩), undef, undef, .slice a l.length c, .func (.func 245) #[] #[.pointer (some ⟨w.heap.size + 1 + 1 + 1, 0, none⟩)], .int .i64 p.1,
    .agg #[.int .i64 p.2.1, .int .i64 p.2.2], undef, undef, undef, undef, undef, undef, undef, undef, undef, undef, undef, undef, undef], defers := [] })
  (fun p a' => Own.from (fun s A B row hs hg hr => by obtain ⟨Bx, e1, e2, e3, e4⟩ := hs; exact ⟨Bx, e1, cell_kept e2 hg hr, cell_kept e3 hg hr, e4⟩) _) ?assign ?body ?done ?stop
 case assign =>
  rintro l' pre p W K ⟨⟨hp, g0, g1, k1, g2, k2⟩, hB, hB'⟩ hK
  have hs' := hB'.size
  gi_wp2
  refine hK _ _ ((KeepsOthers.alloc _ _).from _) ((Below.refl _ W).alloc (by omega) _) ⟨⟨hp, ?_, ?_, ?_, ?_, ?_⟩, hB.alloc (by omega) _, hB'.alloc (by omega) _⟩ ⟨W.heap.size, by omega, by simp [go_sem], by simp [go_sem], rfl⟩
  ·exact cell_kept g0 (World.grownBy_alloc _ _ none) (fun r e => by cases e)
  ·exact cell_kept g1 (World.grownBy_alloc _ _ none) (fun r e => by cases e)
  ·exact (frozen_kept g1 (World.grownBy_alloc _ _ none) (fun r e => by cases e)).trans k1
  ·exact cell_kept g2 (World.grownBy_alloc _ _ none) (fun r e => by cases e)
  ·exact (frozen_kept g2 (World.grownBy_alloc _ _ none) (fun r e => by cases e)).trans k2
 case body =>
  rintro l' pre p a' W hl' ⟨r, hr⟩ ⟨⟨hp, g0, g1, k1, g2, k2⟩, hB, hB'⟩ ⟨Bx, hBx, d0, d1, rfl⟩ hlt
  have i0 : ∀ (W : World) (x y : Int), (Instr.index 248 (.agg #[.int .i64 x, .int .i64 y]) (.int .i64 0)).run Tryz.prog W = .ok (.int .i64 x) W := fun _ _ _ => by kernel_rfl
  have i1 : ∀ (W : World) (x y : Int), (Instr.index 248 (.agg #[.int .i64 x, .int .i64 y]) (.int .i64 1)).run Tryz.prog W = .ok (.int .i64 y) W := fun _ _ _ => by kernel_rfl
  obtain ⟨pi, y, z⟩ := p
  simp only at d0 d1
  clear hst
  gi_wp2
  gi_loopw [19] (fun i wr2 => ∃ m : Nat, m ≤ 2 ∧ i = .int .i64 m ∧ (0 < m → x < z) ∧ (1 < m → x < y) ∧ W = wr2) (fun i _ => 2 - (intOf i).toNat)
  case atStart => exact ⟨0, by omega, rfl, (fun h => by omega), (fun h => by omega), rfl⟩
  case round =>
   obtain ⟨m, hm, rfl, hm1, hm2, rfl⟩ := hrel
   rcases (by omega : m = 0 ∨ m = 1 ∨ m = 2) with rfl | rfl | rfl
   ·clear hm1 hm2
    by_cases hxz : z ≤ x
    ·gi_wp2
     have hw1 : (W.setCell ⟨w.heap.size + 1, 0, none⟩ (.int .i64 z)).cell? ⟨w.heap.size + 1 + 1, 0, none⟩ = some (.bool false) := by rw [World.cell?_setCell_far _ _ _ _ (by simp)]; exact g2
     exact ⟨((KeepsOthers.setCell _ _ _).trans (KeepsOthers.setCell _ _ _)).from _, ⟨rfl, pre, (pi, y, z), z, rfl, hp, .inl ⟨hxz, rfl⟩,
      by rw [World.cell?_setCell_far _ _ _ _ (by simp)]; exact World.cell?_setCell_same' _ _ _ (by rw [g1]; rfl), World.cell?_setCell_same' _ _ _ (by rw [hw1]; rfl)⟩,
      (hB.setCell (p := ⟨w.heap.size + 1, 0, none⟩) (by simp) _).setCell (p := ⟨w.heap.size + 1 + 1, 0, none⟩) (by simp; omega) _⟩
    ·gi_wp2
     go_roundw
     case rel => exact ⟨1, by omega, rfl, (fun _ => by omega), (fun h => by omega), trivial⟩
     case measure => simp [intOf]
   ·have hz := hm1 (by omega)
    clear hm1 hm2
    by_cases hxy : y ≤ x
    ·gi_wp2
     have hw1 : (W.setCell ⟨w.heap.size + 1, 0, none⟩ (.int .i64 y)).cell? ⟨w.heap.size + 1 + 1, 0, none⟩ = some (.bool false) := by rw [World.cell?_setCell_far _ _ _ _ (by simp)]; exact g2
     exact ⟨((KeepsOthers.setCell _ _ _).trans (KeepsOthers.setCell _ _ _)).from _, ⟨rfl, pre, (pi, y, z), y, rfl, hp, .inr ⟨hz, hxy, rfl⟩,
      by rw [World.cell?_setCell_far _ _ _ _ (by simp)]; exact World.cell?_setCell_same' _ _ _ (by rw [g1]; rfl), World.cell?_setCell_same' _ _ _ (by rw [hw1]; rfl)⟩,
      (hB.setCell (p := ⟨w.heap.size + 1, 0, none⟩) (by simp) _).setCell (p := ⟨w.heap.size + 1 + 1, 0, none⟩) (by simp; omega) _⟩
    ·gi_wp2
     go_roundw
     case rel => exact ⟨2, by omega, rfl, (fun _ => by omega), (fun h => by omega), trivial⟩
     case measure => simp [intOf]
   ·have hy := hm2 (by omega)
    clear hm1 hm2
    gi_wp2
    exact ⟨KeepsFrom.refl _ _, Below.refl _ _, ⟨fun q hq => (List.mem_append.1 hq).elim (hp q) (fun e => by simp at e; subst e; exact hy), g0, g1, k1, g2, k2⟩, hB, hB'⟩
 case done =>
  rintro D ys W hD rfl ⟨⟨hp, g0, g1, k1, g2, k2⟩, hB, hB'⟩ hK
  clear hst
  gi_wp2
  have hw1 : (W.setCell ⟨w.heap.size + 1, 0, none⟩ (.int .i64 0)).cell? ⟨w.heap.size + 1 + 1, 0, none⟩ = some (.bool false) := by rw [World.cell?_setCell_far _ _ _ _ (by simp)]; exact g2
  have hK' := ((KeepsOthers.setCell W ⟨w.heap.size + 1, 0, none⟩ (.int .i64 0)).trans (KeepsOthers.setCell _ ⟨w.heap.size + 1 + 1, 0, none⟩ (.bool false))).same D _ hK rfl
  have hr1 : ((W.setCell ⟨w.heap.size + 1, 0, none⟩ (.int .i64 0)).setCell ⟨w.heap.size + 1 + 1, 0, none⟩ (.bool false)).cell? ⟨w.heap.size + 1, 0, none⟩ = some (.int .i64 0) := by
   rw [World.cell?_setCell_far _ _ _ _ (by simp)]; exact World.cell?_setCell_same' _ _ _ (by rw [g1]; rfl)
  have hr2 := World.cell?_setCell_same' (W.setCell ⟨w.heap.size + 1, 0, none⟩ (.int .i64 0)) ⟨w.heap.size + 1 + 1, 0, none⟩ (.bool false) (by rw [hw1]; rfl)
  have hBr : Below w.heap.size w ((W.setCell ⟨w.heap.size + 1, 0, none⟩ (.int .i64 0)).setCell ⟨w.heap.size + 1 + 1, 0, none⟩ (.bool false)) := (hB.setCell (p := ⟨w.heap.size + 1, 0, none⟩) (by simp) _).setCell (p := ⟨w.heap.size + 1 + 1, 0, none⟩) (by simp; omega) _
  generalize ((W.setCell ⟨w.heap.size + 1, 0, none⟩ (.int .i64 0)).setCell ⟨w.heap.size + 1 + 1, 0, none⟩ (.bool false)) = Wr at *
  refine ⟨by simp, .inl ⟨_, _, rfl, run_takeDeferred hK', ?_⟩⟩
  have hc4 := cell_kept hr1 (grownBy_putObj' _ D (.deferred none)) (fun r e => by cases e; exact ⟨_, hK', rfl⟩)
  have hc5 := cell_kept hr2 (grownBy_putObj' _ D (.deferred none)) (fun r e => by cases e; exact ⟨_, hK', rfl⟩)
  refine ⟨.tuple #[.int .i64 0, .bool false], ?_, none, bprev_no HCN.out (fun j hj => ?_), rfl, hBr.trans (belowK_b (w := w) (Nat.le_refl _) _ D _ _ (by omega) hK' rfl rfl)⟩
  ·simp [results, Tryz.f237, go_sem, hc4, hc5]
  ·have := hp _ (upt_mem (f := fun j => (l.length - 1 - j, l.getD (l.length - 1 - j) (0, 0))) (k := l.length) (j := l.length - 1 - j) (by omega))
   have e : l.length - 1 - (l.length - 1 - j) = j := by omega
   simpa only [e] using this
 case stop =>
  rintro D cc pre W hD ⟨k, hk, hpre⟩ ⟨⟨rfl, pre', p, y, e1, e2, e3, e4, e5⟩, hB⟩ hK
  clear hst
  gi_wp2
  refine ⟨by simp, .inl ⟨_, _, rfl, run_takeDeferred hK, ?_⟩⟩
  have hc4 := cell_kept e4 (grownBy_putObj' _ D (.deferred none)) (fun r e => by cases e; exact ⟨_, hK, rfl⟩)
  have hc5 := cell_kept e5 (grownBy_putObj' _ D (.deferred none)) (fun r e => by cases e; exact ⟨_, hK, rfl⟩)
  refine ⟨.tuple #[.int .i64 y, .bool true], ?_, some y, ?_, rfl, hB.trans (belowK_b (w := w) (Nat.le_refl _) _ D _ _ (by omega) hK rfl rfl)⟩
  ·simp [results, Tryz.f237, go_sem, hc4, hc5]
  ·subst e1
   obtain ⟨k', rfl, rfl, rfl⟩ := upt_last hpre
   have hm : l.length - 1 - k' < l.length := by omega
   have hab : ∀ j, l.length - 1 - k' < j → j < l.length → x < (l.getD j (0, 0)).1 := by
    intro j h1 h2
    have := e2 _ (upt_mem (f := fun j => (l.length - 1 - j, l.getD (l.length - 1 - j) (0, 0))) (k := k') (j := l.length - 1 - j) (by omega))
    have e : l.length - 1 - (l.length - 1 - j) = j := by omega
    simpa only [e] using this
   obtain ⟨u, hu⟩ : ∃ u, l.getD (l.length - 1 - k') (0, 0) = u := ⟨_, rfl⟩
   obtain ⟨u1, u2⟩ := u
   simp only [hu] at e3
   rcases e3 with ⟨e3, rfl⟩ | ⟨e3, e3', rfl⟩
   ·exact bprev_to HCN.out hm hu hab e3
   ·exact bprev_fr HCN.out hm hu hab e3 e3'
end Go.Proofs.YtmfdnbfjdhlonaaGreatDoor
namespace Go.Proofs.YtmfdnbfjdhlonaaGreatDoor
open Go.RowKit Go.Shelf Wk
attribute [local go_sem] Oper.semAt_some

theorem keepFrozen {W w' : World} {a : Addr} {v : Value} {b : Bool} (hb : Below W.heap.size W w') (h : W.cell? a = some v) (hf : W.frozen? a = b) : w'.frozen? a = b :=
 (hb.frozen (p := a) (World.block_lt_of_cell? W a h)).trans hf

def AllGt (x bs : Int) (pre : List (Nat × Sm)) : Prop := ∀ p ∈ pre, x < bs + p.2.1

set_option maxRecDepth 100000 in
set_option maxHeartbeats 2000000 in
theorem cbefore_any (P x : Int) (v : Value) (l : List Sp) (w : World) (h : RdS w v l) (hv : pvB P l = true) (hx1 : -1152921504606846976 ≤ x) (hx2 : x ≤ 1152921504606846976) :
  Calls Tryz.prog 236 #[.agg #[.int .i64 P, v], .int .i64 x] w (PvPost (hasP (P, l)) x w) := by
 obtain ⟨hrv, hP1, hP2, hin⟩ := rvB_of_pvB hv
 have hlen := (canon_of_rvB hrv).2.2
 have HG := Lib.hid (goodP_of_pvB hv)
 have H1 := Lib.hid (fun W h => cconst_any P v l W h)
 have H2 := Lib.hid (fun W h => cchg_any P v l W h hv)
 have H3 := Lib.hid (fun W => tfloor_any x P W hP1 (by omega) hx1 hx2)
 have HD := Lib.hid h
 obtain ⟨a, c, rfl, hl, hc⟩ := h
 clear hc hv hrv hin
 obtain ⟨W, hWe⟩ : ∃ W, (((w.alloc (.cells #[.int .i64 P, .slice a l.length c] 153)).alloc (.cells #[.int .i64 x] 3)).alloc (.cells #[.int .i64 0] 3)).alloc (.cells #[.bool false] 4) = W := ⟨_, rfl⟩
 have hB0 : Below w.heap.size w W := by rw [← hWe]; exact ((((Below.refl _ w).alloc (Nat.le_refl _) _).alloc (by simp) _).alloc (by simp; omega) _).alloc (by simp; omega) _
 have P0 : W.cell? ⟨w.heap.size, 0, none⟩ = some (.int .i64 P) := by rw [← hWe]; simp [go_sem]
 have P1 : W.cell? ⟨w.heap.size, 1, none⟩ = some (.slice a l.length c) := by rw [← hWe]; simp [go_sem]
 have P2 : W.cell? ⟨w.heap.size + 1, 0, none⟩ = some (.int .i64 x) := by rw [← hWe]; simp [go_sem]
 have P3 : W.cell? ⟨w.heap.size + 1 + 1, 0, none⟩ = some (.int .i64 0) := by rw [← hWe]; simp [go_sem]
 have P4 : W.cell? ⟨w.heap.size + 1 + 1 + 1, 0, none⟩ = some (.bool false) := by rw [← hWe]; simp [go_sem]
 have F3 : W.frozen? ⟨w.heap.size + 1 + 1, 0, none⟩ = false := by rw [← hWe]; simp [go_sem]
 have F4 : W.frozen? ⟨w.heap.size + 1 + 1 + 1, 0, none⟩ = false := by rw [← hWe]; simp [go_sem]
 have HR := Lib.hid (keepRd hB0 HD.out)
 have HE := Lib.hid hWe
 clear hWe
 have hm := mod_lo x hP1
 obtain ⟨bs, hbs⟩ : ∃ bs, x / P * P = bs := ⟨_, rfl⟩
 cases hcb : constB P l with
 | true =>
  rw [hcb] at H1
  have HN : Hid (PrevC (hasP (P, l)) x none) := fun z _ => const_yes HG.out hcb z
  clear hcb hbs hm
  go_enter Tryz.func236, Tryz.ntmps236
  go_wp2_with fail
  rw [HE.out]
  refine (H1.out _ HR.out).mono ?_
  rintro e w1 ⟨rfl, hb1⟩
  have a3 := keepCell hb1 P3
  have a4 := keepCell hb1 P4
  have f3 := keepFrozen hb1 P3 F3
  have f4 := keepFrozen hb1 P4 F4
  have hB1 := keepBelow hB0 hb1
  clear hb1 P0 P1 P2 P3 P4 F3 F4
  go_wp2
  have hw1 : (w1.setCell ⟨w.heap.size + 1 + 1, 0, none⟩ (.int .i64 0)).cell? ⟨w.heap.size + 1 + 1 + 1, 0, none⟩ = some (.bool false) := by rw [World.cell?_setCell_far _ _ _ _ (by simp)]; exact a4
  have hr1 : ((w1.setCell ⟨w.heap.size + 1 + 1, 0, none⟩ (.int .i64 0)).setCell ⟨w.heap.size + 1 + 1 + 1, 0, none⟩ (.bool false)).cell? ⟨w.heap.size + 1 + 1, 0, none⟩ = some (.int .i64 0) := by
   rw [World.cell?_setCell_far _ _ _ _ (by simp)]; exact World.cell?_setCell_same' _ _ _ (by rw [a3]; rfl)
  have hr2 := World.cell?_setCell_same' (w1.setCell ⟨w.heap.size + 1 + 1, 0, none⟩ (.int .i64 0)) ⟨w.heap.size + 1 + 1 + 1, 0, none⟩ (.bool false) (by rw [hw1]; rfl)
  have hBr : Below w.heap.size w ((w1.setCell ⟨w.heap.size + 1 + 1, 0, none⟩ (.int .i64 0)).setCell ⟨w.heap.size + 1 + 1 + 1, 0, none⟩ (.bool false)) := (hB1.setCell (p := ⟨w.heap.size + 1 + 1, 0, none⟩) (by simp; omega) _).setCell (p := ⟨w.heap.size + 1 + 1 + 1, 0, none⟩) (by simp; omega) _
  generalize ((w1.setCell ⟨w.heap.size + 1 + 1, 0, none⟩ (.int .i64 0)).setCell ⟨w.heap.size + 1 + 1 + 1, 0, none⟩ (.bool false)) = Wr at *
  refine bodyPost_ret (v := .tuple #[.int .i64 0, .bool false]) ?_ rfl ?_
  ·simp [results, Tryz.f236, go_sem, hr1, hr2]
  ·exact ⟨none, HN.out, rfl, hBr⟩
 | false =>
  rw [hcb] at H1
  have HNE := Lib.hid (const_no HG.out hcb)
  clear hcb
  refine (callsIn_wide (n := 5)).1 ?_
  refine callsIn_of_wp_marks Tryz.func236 rfl trivial ?_ rfl
  simp only [Tryz.ntmps236, List.size_toArray, List.length_cons, List.length_nil, Nat.reduceAdd, Nat.reduceSub, Array.replicate_succ, Array.replicate_zero, List.push_toArray, List.append_toArray, List.nil_append, List.cons_append]
  refine wpIn_wide.2 ?_
  go_wp2_with fail
  rw [HE.out]
  refine (H1.out _ HR.out).mono ?_
  rintro e w1 ⟨rfl, hb1⟩
  have a0 := keepCell hb1 P0
  have a1 := keepCell hb1 P1
  have a2 := keepCell hb1 P2
  have a3 := keepCell hb1 P3
  have a4 := keepCell hb1 P4
  have f3 := keepFrozen hb1 P3 F3
  have f4 := keepFrozen hb1 P4 F4
  have hB1 := keepBelow hB0 hb1
  have HR1 := Lib.hid (keepRd hb1 HR.out)
  clear hb1 P0 P1 P2 P3 P4 F3 F4
  go_wp2_with fail
  refine (H2.out _ HR1.out).mono ?_
  rintro e w2 ⟨v6, rfl, ho, hb2⟩
  have b0 := keepCell hb2 a0
  have b1 := keepCell hb2 a1
  have b2 := keepCell hb2 a2
  have b3 := keepCell hb2 a3
  have b4 := keepCell hb2 a4
  have g3 := keepFrozen hb2 a3 f3
  have g4 := keepFrozen hb2 a4 f4
  have hB2 := keepBelow hB1 hb2
  have HO := Lib.hid ho
  have hs2 := hb2.size
  clear hb2 a0 a1 a2 a3 a4 f3 f4
  obtain ⟨a6, c6, rfl, hce⟩ := ho.form
  have hl2 := chg2_len l P
  obtain ⟨L, hL⟩ : ∃ L, chg2 l P = L := ⟨_, rfl⟩
  have HLb : Hid (∀ j, j < L.length → 0 ≤ L.getD j 0 ∧ L.getD j 0 < P) := by
   intro j hj
   have := (chg2_mem HG.out (L.getD j 0)).1 (by simp only [hL]; exact getD_mem hj)
   exact ⟨this.1, this.2.1⟩
  rw [hL] at hce hl2 ⊢
  have HLL := Lib.hid hL
  clear hL ho
  have hbd1 : -1152921517229627776 ≤ x / P * P := by omega
  have hbd2 : x / P * P ≤ 1152921504606846976 := by omega
  have hmul : IntKind.i64.wrap bs = bs := by rw [hbs] at hbd1 hbd2; rw [IntKind.wrap_i64]; omega
  go_wp2_with fail
  go_cut [7] from 14 to 22 (fun p wx => p = .pointer (some ⟨w2.heap.size, 0, none⟩) ∧ wx.cell? ⟨w2.heap.size, 0, none⟩ = some (.int .i64 bs) ∧ Below w2.heap.size w2 wx ∧ w2.heap.size < wx.heap.size)
  case first =>
   have n0 := World.new_ne w2 _ b0
   have n2 := World.new_ne w2 _ b2
   go_region_held3 (fun w' => w'.cell? ⟨w.heap.size, 0, none⟩ = some (.int .i64 P) ∧ w'.cell? ⟨w.heap.size + 1, 0, none⟩ = some (.int .i64 x))
(go_keep)
    (first
     | (go_at_call 240; refine (H3.out _).mono ?_; rintro e w' ⟨rfl, rfl⟩))
   all_goals (go_wp2_with fail; go_meet; case rel => exact ⟨rfl, by simp [go_sem], ((Below.refl _ w2).alloc (Nat.le_refl _) _).drew, by simp⟩)
  case rest =>
   obtain ⟨rfl, p0, hbc, hsc⟩ := hcut
   have c0 := keepCell hbc b0
   have c1 := keepCell hbc b1
   have c2 := keepCell hbc b2
   have c3 := keepCell hbc b3
   have c4 := keepCell hbc b4
   have k3 := keepFrozen hbc b3 g3
   have k4 := keepFrozen hbc b4 g4
   have hB3 := keepBelow hB2 hbc
   have hn0 := World.block_lt_of_cell? w2 _ b4
   have hcc : ∀ j, j < L.length → ∃ b off, a6 = some ⟨b, off, none⟩ ∧ b < wc.heap.size ∧ wc.cell? ⟨b, off + j, none⟩ = some (.int .i64 (L.getD j 0)) := by
    intro i hi
    obtain ⟨g, e, hg, hcc⟩ := hce i hi
    exact ⟨g, 0, e, by omega, by rw [Nat.zero_add]; exact keepCell hbc hcc⟩
   rw [hbs] at hbd1 hbd2 hm
   have HBS := Lib.hid hbs
   generalize w2.heap.size = sb at *
   clear hbc b0 b1 b2 b3 b4 g3 g4 hce hB2 hbs hmul HO
   go_wp2_with (go_at_call 241; refine (callsIn_wide (n := 3)).1 ?_; refine (backI_in Fence.wide 3 trivial rfl _ _ _ _).mono ?_; rintro e w' ⟨rfl, rfl⟩)
   have hLs : ∀ j, -1152921504606846976 ≤ L.getD j 0 ∧ L.getD j 0 ≤ 1152921504606846976 := by
    intro j
    by_cases hj : j < L.length
    ·have := HLb.out j hj; omega
    ·simp [List.getD, List.getElem?_eq_none (by omega : L.length ≤ j)]
   obtain ⟨W0, hW0⟩ : ∃ W0, wc.alloc (.cells #[.slice a6 L.length c6] 53) = W0 := ⟨_, rfl⟩
   have hs0 : W0.heap.size = wc.heap.size + 1 := by rw [← hW0]; simp
   have hbW : Below wc.heap.size wc W0 := by rw [← hW0]; exact (Below.refl _ _).alloc (Nat.le_refl _) _
   have q5 : W0.cell? ⟨wc.heap.size, 0, none⟩ = some (.slice a6 L.length c6) := by rw [← hW0]; simp [go_sem]
   rw [hW0]
   clear hW0
   have hB4 := keepBelow hB3 hbW
   have hcc' : ∀ j, j < L.length → ∃ b off, a6 = some ⟨b, off, none⟩ ∧ b < wc.heap.size + 1 ∧ W0.cell? ⟨b, off + j, none⟩ = some (.int .i64 (⟨L.getD j 0, hLs j⟩ : Sm).1) := by
    intro j hj
    obtain ⟨b, off, e, hb, h1⟩ := hcc j hj
    exact ⟨b, off, e, by omega, keepCell hbW h1⟩
   have hst := backI_stops Fence.wide 4 trivial rfl (by omega) wc.heap.size (wc.heap.size + 1) a6 L.length c6 (fun j => (⟨L.getD j 0, hLs j⟩ : Sm)) (by omega) W0 (by omega) (by omega) q5 hcc'
   have HCC := Lib.hid hcc
   clear hcc hcc' q5
   have q0 := keepCell hbW c0
   have q2 := keepCell hbW c2
   have q3 := keepCell hbW c3
   have q4 := keepCell hbW c4
   have j3 := keepFrozen hbW c3 k3
   have j4 := keepFrozen hbW c4 k4
   have qp := keepCell hbW p0
   clear c0 c1 c2 c3 c4 k3 k4 p0
   refine (wpIn_wide (n := 5)).1 ?_
   refine wpIn_rangeFunc_ownF rfl (by omega) (gf := 244) (lb := #[.pointer (some ⟨wc.heap.size, 0, none⟩)]) rfl trivial (enters_of Tryz.func244 (by kernel_rfl) rfl)
    hst belowK_t (belowK_b (by omega)) (Below.refl _ _) (fun _ => rfl)
    (fun pre W => AllGt x bs pre ∧ (Below w.heap.size w W ∧ Below (wc.heap.size + 1) W0 W))
    (fun c pre W => (c = .ret ∧ ∃ pre' p, pre = pre' ++ [p] ∧ AllGt x bs pre' ∧ bs + p.2.1 ≤ x ∧
     W.cell? ⟨w.heap.size + 1 + 1, 0, none⟩ = some (.int .i64 (bs + p.2.1)) ∧ W.cell? ⟨w.heap.size + 1 + 1 + 1, 0, none⟩ = some (.bool true)) ∧ Below w.heap.size w W)
    (OwnFrom.and (ownFrom_pure _ _) (OwnFrom.and (ownFrom_below (Nat.le_refl _) (by omega)) (ownFrom_below (by omega) (by omega))))
    (fun c => OwnFrom.and (Own.from (fun s A B row hs hg hr => ⟨hs.1, by obtain ⟨pre', p, e1, e2, e3, e4, e5⟩ := hs.2; exact ⟨pre', p, e1, e2, e3, cell_kept e4 hg hr, cell_kept e5 hg hr⟩⟩) _) (ownFrom_below (Nat.le_refl _) (by omega)))
    ⟨(fun q hq => by simp at hq), hB4, Below.refl _ _⟩
    (fun y => { tmps := #[.agg #[.int .i64 P, .slice a l.length c], .int .i64 x, .pointer (some ⟨w.heap.size, 0, none⟩), .pointer (some ⟨w.heap.size + 1, 0, none⟩), .pointer (some ⟨w.heap.size + 1 + 1, 0, none⟩), .pointer (some ⟨w.heap.size + 1 + 1 + 1, 0, none⟩), .slice a6 L.length c6,
    .pointer (some ⟨sb, 0, none⟩), undef, .int .i64 y.2.1, .agg #[.int .i64 P, .slice a l.length c], .bool false, .agg #[.int .i64 P, .slice a l.length c], .slice a6 L.length c6, u14, u15, u16, u17, u18, u19, u20, u21, u22, .slice a6 L.length c6,
    .func (.func 244) #[] #[.pointer (some ⟨wc.heap.size, 0, none⟩)], .int .i64 y.1, .int .i64 y.2.1, undef, undef, undef, undef, undef, undef, undef, undef, undef, undef, undef, undef, undef, undef, undef, undef, undef, undef, undef, undef], defers := [] }) ?assign ?body ?done ?stop
   case assign =>
    intro l' y W' K hK
    gi_wp2
    exact hK
   case body =>
    rintro l' pre ⟨yi, y, hy1, hy2⟩ W' ⟨hp, hB, hB'⟩ hlt
    have hB'' : Below W0.heap.size W0 W' := by rw [hs0]; exact hB'
    have r0 := keepCell hB'' q2
    have r1 := keepCell hB'' qp
    have r3 := keepCell hB'' q3
    have r4 := keepCell hB'' q4
    have i3 := keepFrozen hB'' q3 j3
    have i4 := keepFrozen hB'' q4 j4
    clear hst
    by_cases hxy : bs + y ≤ x
    ·gi_wp2
     have hw1 : (W'.setCell ⟨w.heap.size + 1 + 1, 0, none⟩ (.int .i64 (bs + y))).cell? ⟨w.heap.size + 1 + 1 + 1, 0, none⟩ = some (.bool false) := by rw [World.cell?_setCell_far _ _ _ _ (by simp)]; exact r4
     exact ⟨(KeepsOthers.setCell _ _ _).trans (KeepsOthers.setCell _ _ _), ⟨rfl, pre, (yi, ⟨y, hy1, hy2⟩), rfl, hp, hxy,
      by rw [World.cell?_setCell_far _ _ _ _ (by simp)]; exact World.cell?_setCell_same' _ _ _ (by rw [r3]; rfl), World.cell?_setCell_same' _ _ _ (by rw [hw1]; rfl)⟩,
      (hB.setCell (p := ⟨w.heap.size + 1 + 1, 0, none⟩) (by simp; omega) _).setCell (p := ⟨w.heap.size + 1 + 1 + 1, 0, none⟩) (by simp; omega) _⟩
    ·gi_wp2
     exact ⟨KeepsOthers.refl _, Below.refl _ _, (show AllGt x bs _ from fun q hq => (List.mem_append.1 hq).elim (hp q) (fun e => by simp at e; subst e; simp only; omega)), hB, hB'⟩
   case done =>
    rintro D ys W' hD rfl ⟨hp, hB, hB'⟩ hK
    have hB'' : Below W0.heap.size W0 W' := by rw [hs0]; exact hB'
    have r0 := keepCell hB'' q0
    have r1 := keepCell hB'' qp
    have r3 := keepCell hB'' q3
    have r4 := keepCell hB'' q4
    have i3 := keepFrozen hB'' q3 j3
    have i4 := keepFrozen hB'' q4 j4
    clear hst
    have hL0 : 0 < L.length := List.length_pos_iff.2 (by rw [← HLL.out]; exact HNE.out)
    obtain ⟨b, off, rfl, hb, hcl⟩ := HCC.out (L.length - 1) (by omega)
    have hcl' := keepCell hB'' (keepCell hbW hcl)
    have hy := HLb.out (L.length - 1) (by omega)
    obtain ⟨y, hye⟩ : ∃ y, L.getD (L.length - 1) 0 = y := ⟨_, rfl⟩
    rw [hye] at hcl' hy
    have HY := Lib.hid hye
    obtain ⟨m, hm1⟩ : ∃ m, L.length = m + 1 := ⟨L.length - 1, by omega⟩
    have hm2 : L.length - 1 = m := by omega
    rw [hm2] at hcl'
    clear hye hcl
    have s1 : IntKind.i64.wrap (m : Int) = m := by rw [IntKind.wrap_i64]; omega
    have s4 : (0 : Int) ≤ (m : Int) := by omega
    have s5 : (m : Int) < (m : Int) + 1 := by omega
    have s2 : IntKind.i64.wrap (bs - P) = bs - P := by rw [IntKind.wrap_i64]; omega
    have s3 : IntKind.i64.wrap (bs - P + y) = bs - P + y := by rw [IntKind.wrap_i64]; omega
    rw [hm1]
    go_wp2_with fail
    refine wp_region_still_tail 12 (by kernel_rfl) (by kernel_rfl) ?_
    simp only [List.take_succ_cons, List.take_zero, List.drop_succ_cons, List.drop_zero]
    change wpStill _ _ W'.drew _ _ _
    repeat still_step
    refine wpStill_nil ?_
    change wpList _ _ _ _ _ W'.drew
    have hBd : Below W'.heap.size W' W'.drew := (Below.refl _ _).drew
    have hK1 : W'.drew.heap[D]? = some (.deferred (some [])) := hK
    have t3 := keepCell hBd r3
    have t4 := keepCell hBd r4
    have l3 := keepFrozen hBd r3 i3
    have l4 := keepFrozen hBd r4 i4
    have hBt := keepBelow hB hBd
    generalize W'.drew = w5 at *
    go_wp2
    have hw1 : (w5.setCell ⟨w.heap.size + 1 + 1, 0, none⟩ (.int .i64 (bs - P + y))).cell? ⟨w.heap.size + 1 + 1 + 1, 0, none⟩ = some (.bool false) := by rw [World.cell?_setCell_far _ _ _ _ (by simp)]; exact t4
    have hK' := ((KeepsOthers.setCell w5 ⟨w.heap.size + 1 + 1, 0, none⟩ (.int .i64 (bs - P + y))).trans (KeepsOthers.setCell _ ⟨w.heap.size + 1 + 1 + 1, 0, none⟩ (.bool true))).same D _ hK1 rfl
    have hr1 : ((w5.setCell ⟨w.heap.size + 1 + 1, 0, none⟩ (.int .i64 (bs - P + y))).setCell ⟨w.heap.size + 1 + 1 + 1, 0, none⟩ (.bool true)).cell? ⟨w.heap.size + 1 + 1, 0, none⟩ = some (.int .i64 (bs - P + y)) := by
     rw [World.cell?_setCell_far _ _ _ _ (by simp)]; exact World.cell?_setCell_same' _ _ _ (by rw [t3]; rfl)
    have hr2 := World.cell?_setCell_same' (w5.setCell ⟨w.heap.size + 1 + 1, 0, none⟩ (.int .i64 (bs - P + y))) ⟨w.heap.size + 1 + 1 + 1, 0, none⟩ (.bool true) (by rw [hw1]; rfl)
    have hBr : Below w.heap.size w ((w5.setCell ⟨w.heap.size + 1 + 1, 0, none⟩ (.int .i64 (bs - P + y))).setCell ⟨w.heap.size + 1 + 1 + 1, 0, none⟩ (.bool true)) :=
     (hBt.setCell (p := ⟨w.heap.size + 1 + 1, 0, none⟩) (by simp; omega) _).setCell (p := ⟨w.heap.size + 1 + 1 + 1, 0, none⟩) (by simp; omega) _
    generalize ((w5.setCell ⟨w.heap.size + 1 + 1, 0, none⟩ (.int .i64 (bs - P + y))).setCell ⟨w.heap.size + 1 + 1 + 1, 0, none⟩ (.bool true)) = Wr at *
    refine ⟨by simp, .inl ⟨_, _, rfl, run_takeDeferred hK', ?_⟩⟩
    have hc4 := cell_kept hr1 (grownBy_putObj' _ D (.deferred none)) (fun r e => by cases e; exact ⟨_, hK', rfl⟩)
    have hc5 := cell_kept hr2 (grownBy_putObj' _ D (.deferred none)) (fun r e => by cases e; exact ⟨_, hK', rfl⟩)
    refine ⟨.tuple #[.int .i64 (bs - P + y), .bool true], ?_, some (bs - P + y), ?_, rfl, hBr.trans (belowK_b (w := w) (Nat.le_refl _) _ D _ _ (by omega) hK' rfl rfl)⟩
    ·simp [results, Tryz.f236, go_sem, hc4, hc5]
    ·have hn := prev_out HG.out (x := x) HNE.out (by
      simp only [HLL.out, HBS.out]
      intro j hj
      have := hp _ (upt_mem (f := fun j => (L.length - 1 - j, (⟨L.getD (L.length - 1 - j) 0, hLs _⟩ : Sm))) (k := L.length) (j := L.length - 1 - j) (by omega))
      have e : L.length - 1 - (L.length - 1 - j) = j := by omega
      simpa only [e] using this)
     simp only [HLL.out, HBS.out, HY.out] at hn
     exact hn
   case stop =>
    rintro D cc pre W' hD ⟨k, hk, hpre⟩ ⟨⟨rfl, pre', p, e1, e2, e3, e4, e5⟩, hB⟩ hK
    clear hst
    gi_wp2
    refine ⟨by simp, .inl ⟨_, _, rfl, run_takeDeferred hK, ?_⟩⟩
    have hc4 := cell_kept e4 (grownBy_putObj' _ D (.deferred none)) (fun r e => by cases e; exact ⟨_, hK, rfl⟩)
    have hc5 := cell_kept e5 (grownBy_putObj' _ D (.deferred none)) (fun r e => by cases e; exact ⟨_, hK, rfl⟩)
    refine ⟨.tuple #[.int .i64 (bs + p.2.1), .bool true], ?_, some (bs + p.2.1), ?_, rfl, hB.trans (belowK_b (w := w) (Nat.le_refl _) _ D _ _ (by omega) hK rfl rfl)⟩
    ·simp [results, Tryz.f236, go_sem, hc4, hc5]
    ·subst e1
     obtain ⟨k', rfl, rfl, rfl⟩ := upt_last hpre
     have hn := prev_in HG.out (x := x) (k := L.length - 1 - k') (by simp only [HLL.out]; omega) (by simp only [HLL.out, HBS.out]; exact e3) (by
      simp only [HLL.out, HBS.out]
      intro j h1 h2
      have := e2 _ (upt_mem (f := fun j => (L.length - 1 - j, (⟨L.getD (L.length - 1 - j) 0, hLs _⟩ : Sm))) (k := k') (j := L.length - 1 - j) (by omega))
      have e : L.length - 1 - (L.length - 1 - j) = j := by omega
      simpa only [e] using this)
     simp only [HLL.out, HBS.out] at hn
     exact hn
end Go.Proofs.YtmfdnbfjdhlonaaGreatDoor
namespace Go.Proofs.YtmfdnbfjdhlonaaGreatDoor
open Go.RowKit Wk

theorem hasP_shift (p : Per) (hP : 1 ≤ p.1) (x : Int) : hasP p (x + p.1) = hasP p x := by
 have e : (x + p.1) / p.1 = x / p.1 + 1 := by
  have := Int.add_mul_ediv_right x 1 (show p.1 ≠ 0 by omega)
  rwa [Int.one_mul] at this
 unfold hasP
 rw [e]
 have e2 : x + p.1 - (x / p.1 + 1) * p.1 = x - x / p.1 * p.1 := by rw [Int.add_mul, Int.one_mul]; omega
 rw [e2]
theorem prev_cyc_lo {p : Per} (hP : 1 ≤ p.1) {x k : Int} (h : PrevC (hasP p) x (some k)) : x - p.1 ≤ k := by
 obtain ⟨h1, h2, h3⟩ := h
 rcases Int.lt_or_le k (x - p.1) with hk | hk
 ·exfalso
  have := h3 (k + p.1) (by omega) (by omega)
  rw [show k + p.1 - 1 = (k - 1) + p.1 by omega, hasP_shift p hP, hasP_shift p hP] at this
  exact h2 this
 ·exact hk
theorem prev_bnd_lo {l : List Sp} (hv : rvB l = true) {x k : Int} (h : PrevC (inL l) x (some k)) : -4398046511104 ≤ k := by
 obtain ⟨h1, h2, h3⟩ := h
 obtain ⟨s, hs, e⟩ := (edge_iff k (canon_of_rvB hv).1).1 h2
 have := (canon_of_rvB hv).2.1 s hs
 have := canon_pos (canon_of_rvB hv).1 s hs
 omega

theorem m_cbefore (W : World) (p : Int) (a : Option Addr) (n c : Nat) : (method 357 153 (.agg #[.int .i64 p, .slice a n c]) "civiltime/timeset.before").run Tryz.prog W = .ok (236, .agg #[.int .i64 p, .slice a n c]) W := by kernel_rfl
theorem m_bbefore (W : World) (a : Option Addr) (n c : Nat) : (method 357 154 (.slice a n c) "civiltime/timeset.before").run Tryz.prog W = .ok (237, .slice a n c) W := by kernel_rfl

def PbPost (h : Int → Bool) (x : Int) (w : World) (e : Ending) (w' : World) : Prop := ∃ r : Option Int, PrevC h x r ∧ (∀ k, r = some k → -2305843009213693952 ≤ k) ∧ e = .returned (.tuple #[.int .i64 (r.getD 0), .bool r.isSome]) ∧ Below w.heap.size w w'

structure SrcB (T : TypeId) (v : Value) (w0 : World) (h : Int → Bool) (kh ka : FuncId) : Prop where
 hm : ∀ W, (method 357 T v "civiltime/timeset.has").run Tryz.prog W = .ok (kh, v) W
 am : ∀ W, (method 357 T v "civiltime/timeset.before").run Tryz.prog W = .ok (ka, v) W
 hf : ∀ args W, (callFunc kh args).run Tryz.prog W = .ok (.enter kh args) W
 af : ∀ args W, (callFunc ka args).run Tryz.prog W = .ok (.enter ka args) W
 hc : ∀ W x, Below w0.heap.size w0 W → -1152921504606846976 ≤ x → x ≤ 1152921504606846976 → Calls Tryz.prog kh #[v, .int .i64 x] W fun e w' => e = .returned (.bool (h x)) ∧ Below W.heap.size W w'
 ac : ∀ W x, Below w0.heap.size w0 W → -1152921504606846976 ≤ x → x ≤ 1152921504606846976 → Calls Tryz.prog ka #[v, .int .i64 x] W (PbPost h x W)

def LaPost (d : Int → Bool) (low high : Int) (w : World) (e : Ending) (w' : World) : Prop := ∃ r : Option Int, LastD d low high r ∧ e = .returned (.tuple #[.int .i64 (r.getD 0), .bool r.isSome]) ∧ Below w.heap.size w w'

set_option maxRecDepth 100000 in
set_option maxHeartbeats 4000000 in
theorem last_any (Ta Tb : TypeId) (va vb : Value) (ha hb : Int → Bool) (kha kaa khb kab : FuncId) (low high : Int) (w : World) (hA : SrcB Ta va w ha kha kaa) (hB : SrcB Tb vb w hb khb kab)
  (h1 : -1152921504606846976 ≤ low) (h2 : high ≤ 1152921504606846976) (h3 : -1152921504606846976 ≤ high) :
  Calls Tryz.prog 123 #[.iface Ta va, .iface Tb vb, .int .i64 low, .int .i64 high] w (LaPost (fun x => ha x != hb x) low high w) := by
 have q1 := hA.hm
 have q2 := hA.am
 have q3 := hB.hm
 have q4 := hB.am
 have q5 := hA.hf
 have q6 := hA.af
 have q7 := hB.hf
 have q8 := hB.af
 have H1 := Lib.hid hA.hc
 have H2 := Lib.hid hA.ac
 have H3 := Lib.hid hB.hc
 have H4 := Lib.hid hB.ac
 clear hA hB
 go_enter Tryz.func123, Tryz.ntmps123
 go_wp2_with fail
 go_loopw [10] (fun u wr => ∃ y : Int, u = .int .i64 y ∧ y < high ∧ -2305843009213693953 ≤ y ∧ Hid (∀ z, y < z → z < high → (ha z != hb z) = false) ∧ Below w.heap.size w wr) (fun u _ => (intOf u - low + 1).toNat)
 case atStart => exact ⟨high - 1, rfl, by omega, by omega, (fun z z1 z2 => by omega), Below.refl _ _⟩
 case round =>
  obtain ⟨y, rfl, hy1, hy2, HZ, hW⟩ := hrel
  by_cases hlt : low ≤ y
  ·go_wp2_with fail
   refine (H1.out _ y hW (by omega) (by omega)).mono ?_
   rintro e w1 ⟨rfl, hb1⟩
   have hW1 := keepBelow hW hb1
   clear hb1
   go_wp2_with fail
   refine (H3.out _ y hW1 (by omega) (by omega)).mono ?_
   rintro e w2 ⟨rfl, hb2⟩
   have hW2 := keepBelow hW1 hb2
   clear hb2
   cases hd : (ha y != hb y) with
   | true =>
    have HD := Lib.hid hd
    have hg : (ha y == hb y) = false := by cases u1 : ha y <;> cases u2 : hb y <;> simp_all
    go_wp2
    go_ret2
    exact ⟨some y, ⟨hlt, hy1, HD.out, HZ.out⟩, rfl, hW2⟩
   | false =>
    have HD := Lib.hid hd
    have hg : (ha y == hb y) = true := by cases u1 : ha y <;> cases u2 : hb y <;> simp_all
    go_wp2_with fail
    refine (H2.out _ y hW2 (by omega) (by omega)).mono ?_
    rintro e w3 ⟨r1, hr1, hlo1, rfl, hb3⟩
    have hW3 := keepBelow hW2 hb3
    have HR1 := Lib.hid hr1
    clear hb3 hr1
    go_wp2_with fail
    refine (H4.out _ y hW3 (by omega) (by omega)).mono ?_
    rintro e w4 ⟨r2, hr2, hlo2, rfl, hb4⟩
    have hW4 := keepBelow hW3 hb4
    have HR2 := Lib.hid hr2
    clear hb4 hr2
    have HN : Hid (∀ u, (∀ k, r1 = some k → k ≤ u) → (∀ k, r2 = some k → k ≤ u) → ∀ z, u ≤ z → z < high → (ha z != hb z) = false) := by
     intro u hu1 hu2 z z1 z2
     by_cases hz : y < z
     ·exact HZ.out z hz z2
     ·rw [const_prev HR1.out (by omega) (fun k hk => by have := hu1 k hk; omega), const_prev HR2.out (by omega) (fun k hk => by have := hu2 k hk; omega)]
      exact HD.out
    clear hd
    cases r1 with
    | none =>
     cases r2 with
     | none =>
      go_wp2
      go_ret2
      exact ⟨none, (fun z z1 z2 => HN.out z (fun k e => by cases e) (fun k e => by cases e) z (by omega) z2), rfl, hW4⟩
     | some k2 =>
      have hk2 : k2 ≤ y := HR2.out.1
      have hl2 := hlo2 k2 rfl
      go_wp2
      go_roundw
      case rel => exact ⟨k2 - 1, rfl, by omega, by omega, (fun z z1 z2 => HN.out k2 (fun k e => by cases e) (fun k e => by cases e; omega) z (by omega) z2), hW4⟩
      case measure => simp [intOf]; omega
    | some k1 =>
     have hk1 : k1 ≤ y := HR1.out.1
     have hl1 := hlo1 k1 rfl
     cases r2 with
     | none =>
      go_wp2
      go_roundw
      case rel => exact ⟨k1 - 1, rfl, by omega, by omega, (fun z z1 z2 => HN.out k1 (fun k e => by cases e; omega) (fun k e => by cases e) z (by omega) z2), hW4⟩
      case measure => simp [intOf]; omega
     | some k2 =>
      have hk2 : k2 ≤ y := HR2.out.1
      have hl2 := hlo2 k2 rfl
      go_wp2
      go_roundw
      case rel => exact ⟨max k1 k2 - 1, rfl, by omega, by omega, (fun z z1 z2 => HN.out (max k1 k2) (fun k e => by cases e; omega) (fun k e => by cases e; omega) z (by omega) z2), hW4⟩
      case measure => simp [intOf]; omega
  ·go_wp2
   go_ret2
   exact ⟨none, (fun z z1 z2 => HZ.out z (by omega) z2), rfl, hW⟩

theorem srcB_cycle (P : Int) (v : Value) (l : List Sp) (w : World) (h : RdS w v l) (hv : pvB P l = true) :
  SrcB 153 (.agg #[.int .i64 P, v]) w (hasP (P, l)) 252 236 := by
 obtain ⟨a, c, rfl⟩ := h.form
 exact ⟨fun W => m_chas W _ _ _ _, fun W => m_cbefore W _ _ _ _, fun args W => by go_simp, fun args W => by go_simp, fun W x hb h1 h2 => chas_any P x _ l W (keepRd hb h) hv h1 h2, fun W x hb h1 h2 => (cbefore_any P x _ l W (keepRd hb h) hv h1 h2).mono (fun _ _ ⟨r, hr, e, hb⟩ => ⟨r, hr, (fun k ek => by subst ek; have := prev_cyc_lo (rvB_of_pvB hv).2.1 hr; have := (rvB_of_pvB hv).2.2.1; omega), e, hb⟩)⟩
theorem srcB_bounded (v : Value) (l : List Sp) (w : World) (h : RdS w v l) (hv : rvB l = true) :
  SrcB 154 v w (inL l) 258 237 := by
 obtain ⟨a, c, rfl⟩ := h.form
 exact ⟨fun W => m_bhas W _ _ _, fun W => m_bbefore W _ _ _, fun args W => by go_simp, fun args W => by go_simp, fun W x hb _ _ => bhas_any x _ l W (keepRd hb h) hv, fun W x hb _ _ => (bbefore_any x _ l W (keepRd hb h) (canon_of_rvB hv).1).mono (fun _ _ ⟨r, hr, e, hb⟩ => ⟨r, hr, (fun k ek => by subst ek; have := prev_bnd_lo hv hr; omega), e, hb⟩)⟩
end Go.Proofs.YtmfdnbfjdhlonaaGreatDoor
namespace Go.Proofs.YtmfdnbfjdhlonaaGreatDoor
open Go.RowKit Wk

theorem gcd_step {a b : Int} (ha : 0 ≤ a) (hb : 0 < b) : Int.gcd b (a % b) = Int.gcd a b := by
 obtain ⟨a, rfl⟩ := Int.eq_ofNat_of_zero_le ha
 obtain ⟨b, rfl⟩ := Int.eq_ofNat_of_zero_le (Int.le_of_lt hb)
 have e : ((a : Int) % (b : Int)) = ((a % b : Nat) : Int) := by simp
 rw [e]
 show Nat.gcd b (a % b) = Nat.gcd a b
 rw [Nat.gcd_comm a b, Nat.gcd_comm b (a % b), ← Nat.gcd_rec]

set_option maxHeartbeats 1000000 in
theorem common_any (m n : Int) (w : World) (hm : 1 ≤ m) (hm2 : m ≤ 12622780800) (hn : 1 ≤ n) (hn2 : n ≤ 12622780800) :
  Calls Tryz.prog 122 #[.int .i64 m, .int .i64 n] w fun e w' => e = .returned (.int .i64 (commonM m n)) ∧ Below w.heap.size w w' := by
 go_enter Tryz.func122, Tryz.ntmps122
 go_wp2_with fail
 go_loopw [5, 6] (fun u v wr => ∃ a b : Int, u = .int .i64 a ∧ v = .int .i64 b ∧ 1 ≤ a ∧ a ≤ 12622780800 ∧ 0 ≤ b ∧ b ≤ 12622780800 ∧ Hid (Int.gcd a b = Int.gcd m n) ∧ Below w.heap.size w wr) (fun _ v _ => (intOf v).toNat)
 case atStart => exact ⟨m, n, rfl, rfl, hm, hm2, by omega, hn2, rfl, Below.refl _ _⟩
 case round =>
  obtain ⟨a, b, rfl, rfl, ha1, ha2, hb1, hb2, HG, hB⟩ := hrel
  by_cases hb0 : b = 0
  ·subst hb0
   have hg : (a : Int) = (Int.gcd m n : Int) := by
    have := HG.out
    rw [Int.gcd_zero_right] at this
    omega
   have e1 : Int.tdiv m a = m / (Int.gcd m n : Int) := by rw [← hg]; exact Int.tdiv_eq_ediv_of_nonneg (by omega)
   have e2 : Int.tdiv 12622780800 n = 12622780800 / n := Int.tdiv_eq_ediv_of_nonneg (by omega)
   have hbd := commonM_bd hm hn
   have ha0 : (a == 0) = false := by simp; omega
   have hn0 : (n == 0) = false := by simp; omega
   obtain ⟨q, hq⟩ : ∃ q, m / (Int.gcd m n : Int) = q := ⟨_, rfl⟩
   obtain ⟨r, hr⟩ : ∃ r, 12622780800 / n = r := ⟨_, rfl⟩
   have hq0 : 0 ≤ q := by rw [← hq]; exact Int.ediv_nonneg (by omega) (by omega)
   have hqm : q ≤ m := by rw [← hq]; exact Int.ediv_le_self _ (by omega)
   have hr0 : 0 ≤ r := by rw [← hr]; exact Int.ediv_nonneg (by omega) (by omega)
   have hrm : r ≤ 12622780800 := by rw [← hr]; exact Int.ediv_le_self _ (by omega)
   rw [hq] at e1
   rw [hr] at e2
   have HC : Hid (commonM m n = if r < q then 12622780801 else q * n) := by unfold Hid commonM; rw [hq, hr]
   rw [HC.out] at hbd
   clear hq hr hg
   by_cases hlt : r < q
   ·rw [if_pos hlt] at hbd
    have g1 : decide (r < q) = true := by simpa using hlt
    go_wp2_with fail
    refine wp_region_ext (by kernel_rfl) (by kernel_rfl) ?_
    repeat (go_big_quiet_step (fail))
    refine wpQuiet_nil ?_
    intro w1 hb1
    go_wp2
    go_ret
    exact ⟨ret_int (by rw [HC.out, if_pos (by omega)]), keepBelow hB hb1⟩
   ·rw [if_neg hlt] at hbd
    have g1 : decide (r < q) = false := by simpa using hlt
    go_wp2_with fail
    refine wp_region_ext (by kernel_rfl) (by kernel_rfl) ?_
    repeat (go_big_quiet_step (fail))
    refine wpQuiet_nil ?_
    intro w1 hb1
    go_wp2
    go_ret
    exact ⟨ret_int (by rw [HC.out, if_neg (by omega)]), keepBelow hB hb1⟩
  ·have hbp : 0 < b := by omega
   have hz : (b == 0) = false := by simp; omega
   have e1 : Int.tmod a b = a % b := Int.tmod_eq_emod_of_nonneg (by omega)
   have h1 := Int.emod_nonneg a (b := b) (by omega)
   have h2 := Int.emod_lt_of_pos a hbp
   have HG2 : Hid (Int.gcd b (a % b) = Int.gcd m n) := by unfold Hid; rw [← HG.out]; exact gcd_step (by omega) hbp
   obtain ⟨c, hc⟩ : ∃ c, a % b = c := ⟨_, rfl⟩
   rw [hc] at e1 h1 h2 HG2
   clear hc
   go_wp2_with fail
   refine wp_region_ext (by kernel_rfl) (by kernel_rfl) ?_
   repeat (go_big_quiet_step (fail))
   refine wpQuiet_nil ?_
   intro w1 hb1
   go_wp2
   go_roundw
   case rel => exact ⟨b, c, rfl, rfl, by omega, hb2, h1, by omega, HG2, keepBelow hB hb1⟩
   case measure => simp [intOf]; omega
end Go.Proofs.YtmfdnbfjdhlonaaGreatDoor
namespace Go.Proofs.YtmfdnbfjdhlonaaGreatDoor
open Go.RowKit Wk

set_option maxHeartbeats 1000000 in
theorem pair_any (P Q : Int) (v k : Value) (l m : List Sp) (w : World) (h1 : RdS w v l) (h2 : RdS w k m) (hv1 : pvB P l = true) (hv2 : pvB Q m = true) :
  Calls Tryz.prog 121 #[.agg #[.int .i64 P, v], .agg #[.int .i64 Q, k]] w fun e w' => e = .returned (.int .i64 (pairM P l Q m)) ∧ Below w.heap.size w w' := by
 obtain ⟨hrv1, hP1, hP2, _⟩ := rvB_of_pvB hv1
 obtain ⟨hrv2, hQ1, hQ2, _⟩ := rvB_of_pvB hv2
 have hl1 := (canon_of_rvB hrv1).2.2
 have hl2 := (canon_of_rvB hrv2).2.2
 have H1 := Lib.hid (fun W h h' => pequal_any P Q v k l m W h h')
 have H2 := Lib.hid (fun W => common_any P Q W hP1 hP2 hQ1 hQ2)
 clear hrv1 hrv2 hv1 hv2
 obtain ⟨a, c, rfl⟩ := h1.form
 obtain ⟨a', c', rfl⟩ := h2.form
 obtain ⟨W, hWe⟩ : ∃ W, (w.alloc (.cells #[.int .i64 P, .slice a l.length c] 29)).alloc (.cells #[.int .i64 Q, .slice a' m.length c'] 29) = W := ⟨_, rfl⟩
 have hB0 : Below w.heap.size w W := by rw [← hWe]; exact ((Below.refl _ w).alloc (Nat.le_refl _) _).alloc (by simp) _
 have c0 : W.cell? ⟨w.heap.size, 0, none⟩ = some (.int .i64 P) := by rw [← hWe]; simp [go_sem]
 have c1 : W.cell? ⟨w.heap.size, 1, none⟩ = some (.slice a l.length c) := by rw [← hWe]; simp [go_sem]
 have c2 : W.cell? ⟨w.heap.size + 1, 0, none⟩ = some (.int .i64 Q) := by rw [← hWe]; simp [go_sem]
 have c3 : W.cell? ⟨w.heap.size + 1, 1, none⟩ = some (.slice a' m.length c') := by rw [← hWe]; simp [go_sem]
 have HR1 := Lib.hid (keepRd hB0 h1)
 have HR2 := Lib.hid (keepRd hB0 h2)
 have HE := Lib.hid hWe
 clear hWe h1 h2
 cases he : peB P l Q m with
 | true =>
  have HP : Hid (pairM P l Q m = 0) := by unfold Hid pairM; rw [if_pos he]
  rw [he] at H1
  clear he
  go_enter Tryz.func121, Tryz.ntmps121
  go_wp2_with fail
  rw [HE.out]
  go_wp2_with fail
  refine (H1.out _ HR1.out HR2.out).mono ?_
  rintro e w1 ⟨rfl, hb1⟩
  go_wp2
  go_ret
  exact ⟨ret_int HP.out.symm, keepBelow hB0 hb1⟩
 | false =>
  have hcb := commonM_bd hP1 hQ1
  obtain ⟨cm, hcm⟩ : ∃ cm, commonM P Q = cm := ⟨_, rfl⟩
  rw [hcm] at hcb H2
  by_cases hbig : 12622780800 < cm
  ·have HP : Hid (pairM P l Q m = 9) := by unfold Hid pairM; rw [he, hcm, if_neg (by simp), if_pos hbig]
   have g1 : decide (12622780800 < cm) = true := by simpa using hbig
   rw [he] at H1
   clear he
   go_enter Tryz.func121, Tryz.ntmps121
   go_wp2_with fail
   rw [HE.out]
   go_wp2_with fail
   refine (H1.out _ HR1.out HR2.out).mono ?_
   rintro e w1 ⟨rfl, hb1⟩
   have hB1 := keepBelow hB0 hb1
   have d0 := keepCell hb1 c0
   have d2 := keepCell hb1 c2
   clear hb1 c0 c1 c2 c3
   go_wp2_with fail
   refine (H2.out _).mono ?_
   rintro e w2 ⟨rfl, hb2⟩
   go_wp2
   go_ret
   exact ⟨ret_int HP.out.symm, keepBelow hB1 hb2⟩
  ·have HP : Hid (pairM P l Q m = if 2000 < cm / P * l.length + cm / Q * m.length then 5 else 0) := by unfold Hid pairM; rw [he, hcm, if_neg (by simp), if_neg hbig]
   have g1 : decide (12622780800 < cm) = false := by simpa using hbig
   rw [he] at H1
   clear he
   have e1 : Int.tdiv cm P = cm / P := Int.tdiv_eq_ediv_of_nonneg (by omega)
   have e2 : Int.tdiv cm Q = cm / Q := Int.tdiv_eq_ediv_of_nonneg (by omega)
   have hP0 : (P == 0) = false := by simp; omega
   have hQ0 : (Q == 0) = false := by simp; omega
   obtain ⟨q, hq⟩ : ∃ q, cm / P = q := ⟨_, rfl⟩
   obtain ⟨r, hr⟩ : ∃ r, cm / Q = r := ⟨_, rfl⟩
   have hq0 : 0 ≤ q := by rw [← hq]; exact Int.ediv_nonneg (by omega) (by omega)
   have hqm : q ≤ cm := by rw [← hq]; exact Int.ediv_le_self _ (by omega)
   have hr0 : 0 ≤ r := by rw [← hr]; exact Int.ediv_nonneg (by omega) (by omega)
   have hrm : r ≤ cm := by rw [← hr]; exact Int.ediv_le_self _ (by omega)
   rw [hq] at e1 HP
   rw [hr] at e2 HP
   have p1 : q * l.length ≤ 12622780801 * 2000 := Int.mul_le_mul (by omega) (by omega) (by omega) (by omega)
   have p2 : r * m.length ≤ 12622780801 * 2000 := Int.mul_le_mul (by omega) (by omega) (by omega) (by omega)
   have p3 : 0 ≤ q * l.length := Int.mul_nonneg hq0 (by omega)
   have p4 : 0 ≤ r * m.length := Int.mul_nonneg hr0 (by omega)
   have s1 : IntKind.i64.wrap (q * l.length) = q * l.length := by rw [IntKind.wrap_i64]; omega
   have s2 : IntKind.i64.wrap (r * m.length) = r * m.length := by rw [IntKind.wrap_i64]; omega
   have s3 : IntKind.i64.wrap (q * l.length + r * m.length) = q * l.length + r * m.length := by rw [IntKind.wrap_i64]; omega
   clear hq hr hcm
   cases hd : decide (2000 < q * (l.length : Int) + r * (m.length : Int)) with
   | true =>
    rw [if_pos (by simpa using hd)] at HP
    go_enter Tryz.func121, Tryz.ntmps121
    go_wp2_with fail
    rw [HE.out]
    go_wp2_with fail
    refine (H1.out _ HR1.out HR2.out).mono ?_
    rintro e w1 ⟨rfl, hb1⟩
    have hB1 := keepBelow hB0 hb1
    have d0 := keepCell hb1 c0
    have d1 := keepCell hb1 c1
    have d2 := keepCell hb1 c2
    have d3 := keepCell hb1 c3
    clear hb1 c0 c1 c2 c3
    go_wp2_with fail
    refine (H2.out _).mono ?_
    rintro e w2 ⟨rfl, hb2⟩
    have hB2 := keepBelow hB1 hb2
    have t0 := ext_cell (keepCell hb2 d0)
    have t1 := ext_cell (keepCell hb2 d1)
    have t2 := ext_cell (keepCell hb2 d2)
    have t3 := ext_cell (keepCell hb2 d3)
    clear hb2 d0 d1 d2 d3
    go_wp2_with fail
    refine wp_region_ext (by kernel_rfl) (by kernel_rfl) ?_
    repeat (go_big_quiet_step (fail))
    refine wpQuiet_nil ?_
    intro w3 hb3
    go_wp2
    go_ret
    exact ⟨ret_int HP.out.symm, keepBelow hB2 hb3⟩
   | false =>
    rw [if_neg (by simpa using hd)] at HP
    go_enter Tryz.func121, Tryz.ntmps121
    go_wp2_with fail
    rw [HE.out]
    go_wp2_with fail
    refine (H1.out _ HR1.out HR2.out).mono ?_
    rintro e w1 ⟨rfl, hb1⟩
    have hB1 := keepBelow hB0 hb1
    have d0 := keepCell hb1 c0
    have d1 := keepCell hb1 c1
    have d2 := keepCell hb1 c2
    have d3 := keepCell hb1 c3
    clear hb1 c0 c1 c2 c3
    go_wp2_with fail
    refine (H2.out _).mono ?_
    rintro e w2 ⟨rfl, hb2⟩
    have hB2 := keepBelow hB1 hb2
    have t0 := ext_cell (keepCell hb2 d0)
    have t1 := ext_cell (keepCell hb2 d1)
    have t2 := ext_cell (keepCell hb2 d2)
    have t3 := ext_cell (keepCell hb2 d3)
    clear hb2 d0 d1 d2 d3
    go_wp2_with fail
    refine wp_region_ext (by kernel_rfl) (by kernel_rfl) ?_
    repeat (go_big_quiet_step (fail))
    refine wpQuiet_nil ?_
    intro w3 hb3
    go_wp2
    go_ret
    exact ⟨ret_int HP.out.symm, keepBelow hB2 hb3⟩

def CpPost (P : Int) (l : List Sp) (w : World) (e : Ending) (w' : World) : Prop := ∃ v', e = .returned (.agg #[.int .i64 P, v']) ∧ OwnS w' w.heap.size v' l ∧ Below w.heap.size w w'

set_option maxHeartbeats 1000000 in
theorem copy_any (P : Int) (v : Value) (l : List Sp) (w : World) (h : RdS w v l) :
  Calls Tryz.prog 126 #[.agg #[.int .i64 P, v]] w (CpPost P l w) := by
 have H1 := Lib.hid (fun W h => clone_any v l W h)
 obtain ⟨a, c, rfl⟩ := h.form
 obtain ⟨W, hWe⟩ : ∃ W, (w.alloc (.cells #[.int .i64 P, .slice a l.length c] 29)).alloc (.cells #[.int .i64 0, .slice none 0 0] 29) = W := ⟨_, rfl⟩
 have hB0 : Below w.heap.size w W := by rw [← hWe]; exact ((Below.refl _ w).alloc (Nat.le_refl _) _).alloc (by simp) _
 have c0 : W.cell? ⟨w.heap.size, 0, none⟩ = some (.int .i64 P) := by rw [← hWe]; simp [go_sem]
 have c1 : W.cell? ⟨w.heap.size, 1, none⟩ = some (.slice a l.length c) := by rw [← hWe]; simp [go_sem]
 have f1 : W.frozen? ⟨w.heap.size, 1, none⟩ = false := by rw [← hWe]; simp [go_sem]
 have c2 : W.cell? ⟨w.heap.size + 1, 0, none⟩ = some (.int .i64 0) := by rw [← hWe]; simp [go_sem]
 have c3 : W.cell? ⟨w.heap.size + 1, 1, none⟩ = some (.slice none 0 0) := by rw [← hWe]; simp [go_sem]
 have f2 : W.frozen? ⟨w.heap.size + 1, 0, none⟩ = false := by rw [← hWe]; simp [go_sem]
 have f3 : W.frozen? ⟨w.heap.size + 1, 1, none⟩ = false := by rw [← hWe]; simp [go_sem]
 have HR1 := Lib.hid (keepRd hB0 h)
 have HE := Lib.hid hWe
 clear hWe h
 go_enter Tryz.func126, Tryz.ntmps126
 go_wp2_with fail
 rw [HE.out]
 go_wp2_with fail
 refine (H1.out _ HR1.out).mono ?_
 rintro e w1 ⟨v1, rfl, ho, hb1⟩
 have hB1 := keepBelow hB0 hb1
 have d0 := keepCell hb1 c0
 have d1 := keepCell hb1 c1
 have d2 := keepCell hb1 c2
 have d3 := keepCell hb1 c3
 have k1 := (hb1.frozen (p := ⟨w.heap.size, 1, none⟩) (World.block_lt_of_cell? W _ c1)).trans f1
 have k2 := (hb1.frozen (p := ⟨w.heap.size + 1, 0, none⟩) (World.block_lt_of_cell? W _ c2)).trans f2
 have k3 := (hb1.frozen (p := ⟨w.heap.size + 1, 1, none⟩) (World.block_lt_of_cell? W _ c3)).trans f3
 have hlt := World.block_lt_of_cell? W _ c2
 obtain ⟨a1, cc1, rfl, _⟩ := ho.form
 have HO := Lib.hid (ho.mono (Nat.le_of_lt hlt))
 have HOo := Lib.hid ho
 clear hb1 c0 c1 c2 c3 f1 f2 f3 ho
 go_wp2
 obtain ⟨Z, hZ⟩ : ∃ Z, ((w1.setCell ⟨w.heap.size, 1, none⟩ (.slice a1 l.length cc1)).setCell ⟨w.heap.size + 1, 0, none⟩ (.int .i64 P)).setCell ⟨w.heap.size + 1, 1, none⟩ (.slice a1 l.length cc1) = Z := ⟨_, rfl⟩
 have r1 : Z.cell? ⟨w.heap.size + 1, 0, none⟩ = some (.int .i64 P) := by
  rw [← hZ]; simp [go_sem, d2]
 have r2 : Z.cell? ⟨w.heap.size + 1, 1, none⟩ = some (.slice a1 l.length cc1) := by
  rw [← hZ]; simp [go_sem, d3]
 have hBZ : Below w.heap.size w Z := by
  rw [← hZ]
  exact ((hB1.setCell (p := ⟨w.heap.size, 1, none⟩) (Nat.le_refl _) _).setCell (p := ⟨w.heap.size + 1, 0, none⟩) (by simp) _).setCell (p := ⟨w.heap.size + 1, 1, none⟩) (by simp) _
 have hOZ : OwnS Z w.heap.size (.slice a1 l.length cc1) l := by
  rw [← hZ]
  exact (((HOo.out.setCell (by omega) _).setCell hlt _).setCell hlt _).mono (by omega)
 rw [hZ]
 refine bodyPost_ret (v := .agg #[.int .i64 P, .slice a1 l.length cc1]) (by simp [results, Tryz.results126, go_sem, r1, r2]) rfl ?_
 exact ⟨_, rfl, hOZ, hBZ⟩
end Go.Proofs.YtmfdnbfjdhlonaaGreatDoor
