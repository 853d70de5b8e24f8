import Derived.Test.YtlbglinpgjlbkaaGreatDoorWkQq
import Derived.Test.YtlbglinpgjlbkaaGreatDoorWkQi
import Derived.Laws.EntriesVeiled
/- Zone texts: the law's few. Printed by gen_fw.py. -/
namespace Go.Proofs.YtlbglinpgjlbkaaGreatDoor
open Go.RowKit Wk

def lgB (t : Bs) : Bool := decide (60 < t.length)
theorem row_rd (W : World) (xs : List ByteArray) (hl : xs.length ≤ 1000) : RdSt (W.alloc (.cells (xs.map Value.string).toArray 9)) (.slice (some ⟨W.heap.size, 0, none⟩) xs.length xs.length) (xs.map bsO) := by
 refine ⟨some ⟨W.heap.size, 0, none⟩, xs.length, by rw [List.length_map], by rw [List.length_map]; omega, fun i hi => ⟨W.heap.size, 0, rfl, fun j u hj hu => ?_⟩⟩
 rw [List.length_map] at hi
 have hj0 : j = 0 := by omega
 subst hj0
 rw [Nat.zero_add, Nat.add_zero, Nat.mul_one]
 refine (Blk.new W (xs.map Value.string).toArray 9).cell (j := i) ?_
 rw [List.getD_eq_getElem?_getD, List.getElem?_map, List.getElem?_eq_getElem hi] at hu
 simp only [Option.map_some, Option.getD_some] at hu
 rw [List.getElem?_toArray, List.getElem?_map, List.getElem?_eq_getElem hi]
 exact hu
set_option maxRecDepth 100000 in
theorem long1_any (s : ByteArray) (w : World) : Calls Tryz.prog 69 #[.string s] w fun e w' => e = .returned (.bool (lgB (bsO s))) ∧ Below w.heap.size w w' := by
 have HQ : Hid (decide ((60 : Int) < (s.size : Int)) = lgB (bsO s)) := Lib.hid (by unfold lgB; rw [bs_len]; exact decide_eq_decide.2 (by omega))
 go_enter Tryz.func69, Tryz.ntmps69
 go_wp2_with fail
 go_ret
 exact ⟨ret_bool HQ.out, Below.refl _ _⟩

set_option maxRecDepth 100000 in
set_option maxHeartbeats 2000000 in
theorem idx_long (f : Bs → Bool) (v : Value) (L : List Bs) (w : World) (h : RdSt w v L) (HF : Hid (∀ x, x ∈ L → ∀ W, Below w.heap.size w W → Calls Tryz.prog 69 #[(.string ⟨x.toArray⟩)] W fun e w' => e = .returned (.bool (f x)) ∧ Below W.heap.size W w')) :
  Calls Tryz.prog 146 #[v, .func (.func 69) #[] #[]] w fun e w' => (∃ r : Int, e = .returned (.int .i64 r) ∧ (decide (0 ≤ r) = L.any f)) ∧ Below w.heap.size w w' := by
 obtain ⟨a, c, rfl, hl, hc⟩ := h
 have HC := Lib.hid hc
 clear hc
 go_enter Tryz.func146, Tryz.ntmps146
 go_wp2_with fail
 go_loopw [8] (fun u wr => ∃ k : Nat, u = .int .i64 k ∧ k ≤ L.length ∧ Hid (∀ i, i < k → f (L.getD i []) = false) ∧ Below w.heap.size w wr) (fun u _ => L.length - (intOf u).toNat)
 case atStart => exact ⟨0, rfl, Nat.zero_le _, fun i hi => by omega, Below.refl _ _⟩
 case round =>
  obtain ⟨k, rfl, hk, HZ, hB⟩ := hrel
  by_cases hlt : k < L.length
  ·obtain ⟨b, o, rfl, hcc⟩ := HC.out k hlt
   obtain ⟨x, hx⟩ : ∃ x, L.getD k [] = x := ⟨_, rfl⟩
   have HX := HF.out x (by rw [← hx]; exact getD_mem hlt) wr hB
   have HXE := Lib.hid hx
   rw [hx] at hcc
   obtain ⟨g, hg⟩ : ∃ g, f x = g := ⟨_, rfl⟩
   rw [hg] at HX
   have HG : Hid (f (L.getD k []) = g) := Lib.hid (by rw [hx]; exact hg)
   clear hg hx HXE
   obtain ⟨nm, rfl⟩ : ∃ nm : Bs, nm = x := ⟨_, rfl⟩
   obtain ⟨NM, rfl⟩ := bs_of nm
   have HH : Hid (Calls Tryz.prog 69 #[.string NM] wr fun e w' => e = .returned (.bool g) ∧ Below wr.heap.size wr w') := Lib.hid HX
   clear HX
   have e0 : wr.cell? ⟨b, o + k, none⟩ = some (.string NM) := by have := keepCell hB (hcc 0 _ (by decide) rfl); rw [Nat.mul_one] at this; exact this
   clear hcc
   go_wp2_with fail
   refine HH.out.mono ?_
   rintro e w1 ⟨rfl, hb1⟩
   have hB1 := keepBelow hB hb1
   clear e0 hb1
   cases g with
   | false =>
    go_wp2
    go_roundw
    case rel =>
     refine ⟨k + 1, by go_num, by omega, fun i hi => ?_, hB1⟩
     rcases Nat.lt_succ_iff_lt_or_eq.1 hi with h | rfl
     ·exact HZ.out i h
     ·exact HG.out
    case measure => simp [intOf]; omega
   | true =>
    have hA : L.any f = true := List.any_eq_true.2 ⟨_, getD_mem hlt, HG.out⟩
    go_wp2
    go_ret
    exact ⟨⟨k, rfl, by rw [hA]; simp⟩, hB1⟩
  ·have hA : L.any f = false := any_false (d := []) fun i hi => HZ.out i (by omega)
   go_wp2
   go_ret
   exact ⟨⟨-1, rfl, by rw [hA]; simp⟩, hB⟩
theorem con_long (f : Bs → Bool) (v : Value) (L : List Bs) (w : World) (h : RdSt w v L) (HF : Hid (∀ x, x ∈ L → ∀ W, Below w.heap.size w W → Calls Tryz.prog 69 #[(.string ⟨x.toArray⟩)] W fun e w' => e = .returned (.bool (f x)) ∧ Below W.heap.size W w')) :
  Calls Tryz.prog 68 #[v, .func (.func 69) #[] #[]] w fun e w' => e = .returned (.bool (L.any f)) ∧ Below w.heap.size w w' := by
 have H := Lib.hid (idx_long f v L w h HF)
 obtain ⟨a, c, rfl, _⟩ := h
 go_enter Tryz.func68, Tryz.ntmps68
 go_wp2_with fail
 refine H.out.mono ?_
 rintro e w1 ⟨⟨r, rfl, hr⟩, hb1⟩
 have HRR := Lib.hid hr
 clear hr
 go_wp2
 go_ret
 exact ⟨ret_bool HRR.out, hb1⟩

set_option maxRecDepth 100000 in
theorem long_any (v : Value) (L : List Bs) (w : World) (h : RdSt w v L) : Calls Tryz.prog 67 #[v] w fun e w' => e = .returned (.bool (L.any lgB)) ∧ Below w.heap.size w w' := by
 have H := Lib.hid (con_long lgB v L w h (Lib.hid fun x _ W _ => by
  obtain ⟨N, rfl⟩ := bs_of x
  exact long1_any N W))
 obtain ⟨a, c, rfl, -, -⟩ := h
 go_enter Tryz.func67, Tryz.ntmps67
 go_wp2_with fail
 refine H.out.mono ?_
 rintro e w' ⟨rfl, hb⟩
 go_wp2
 go_ret
 exact ⟨rfl, hb⟩

set_option maxRecDepth 100000 in
set_option maxHeartbeats 2000000 in
theorem few2_any (NM LE : ByteArray) (fr to_ mo k v d at_ ck sv : Int) (pb : Nat) (w : World) (hn : w.cell? ⟨pb, 0, none⟩ = some (.func (.func 67) #[] #[])) :
  Calls Tryz.prog 71 #[.agg #[.string NM, .int .i64 fr, .int .i64 to_, .int .i64 mo, .int .i64 k, .int .i64 v, .int .i64 d, .int .i64 at_, .int .i64 ck, .int .i64 sv, .string LE], .pointer (some ⟨pb, 0, none⟩)] w fun e w' => e = .returned (.bool (lgB (bsO NM) || lgB (bsO LE))) ∧ Below w.heap.size w w' := by
 obtain ⟨q, hq⟩ : ∃ q, (lgB (bsO NM) || lgB (bsO LE)) = q := ⟨_, rfl⟩
 have HL : Hid (∀ W : World, Calls Tryz.prog 67 #[.slice (some ⟨W.heap.size, 0, none⟩) 2 2] (W.alloc (.cells #[.string NM, .string LE] 9)) fun e w' => e = .returned (.bool q) ∧ Below (W.alloc (.cells #[.string NM, .string LE] 9)).heap.size (W.alloc (.cells #[.string NM, .string LE] 9)) w') := Lib.hid fun W => by
  have h := long_any _ _ _ (row_rd W [NM, LE] (by simp))
  rw [← hq]
  simpa using h
 rw [hq]
 clear hq
 go_enter Tryz.func71, Tryz.ntmps71
 go_upto_region 1 with fail
 obtain ⟨bx, hbx⟩ : ∃ b, w.heap.size = b := ⟨_, rfl⟩
 obtain ⟨X, hX⟩ : ∃ X, w.alloc (.cells #[.string NM, .int .i64 fr, .int .i64 to_, .int .i64 mo, .int .i64 k, .int .i64 v, .int .i64 d, .int .i64 at_, .int .i64 ck, .int .i64 sv, .string LE] 41) = X := ⟨_, rfl⟩
 have HBX : Hid (Below w.heap.size w X) := Lib.hid (by rw [← hX]; exact (Below.refl _ _).alloc (Nat.le_refl _) _)
 have HK : Hid (Blk X bx #[.string NM, .int .i64 fr, .int .i64 to_, .int .i64 mo, .int .i64 k, .int .i64 v, .int .i64 d, .int .i64 at_, .int .i64 ck, .int .i64 sv, .string LE] 41) := Lib.hid (by rw [← hX, ← hbx]; exact Blk.new _ _ _)
 try rw [hX]
 try rw [hbx]
 clear hX hbx
 have x0 := HK.out.cell (j := 0) rfl
 have x1 := HK.out.cell (j := 10) rfl
 have x2 := keepCell HBX.out hn
 clear hn
 go_wp2_with (first | (go_at_call 67; refine (HL.out _).mono ?_; rintro e w' ⟨rfl, hb⟩) | fail)
 go_ret
 exact ⟨rfl, keepBelow HBX.out (keepBelow ((Below.refl _ _).alloc (Nat.le_refl _) _) hb)⟩

set_option maxRecDepth 100000 in
set_option maxHeartbeats 2000000 in
theorem few3_any (NM ZO : ByteArray) (pb : Nat) (w : World) (hn : w.cell? ⟨pb, 0, none⟩ = some (.func (.func 67) #[] #[])) :
  Calls Tryz.prog 73 #[.agg #[.string NM, .string ZO], .pointer (some ⟨pb, 0, none⟩)] w fun e w' => e = .returned (.bool (lgB (bsO NM) || lgB (bsO ZO))) ∧ Below w.heap.size w w' := by
 obtain ⟨q, hq⟩ : ∃ q, (lgB (bsO NM) || lgB (bsO ZO)) = q := ⟨_, rfl⟩
 have HL : Hid (∀ W : World, Calls Tryz.prog 67 #[.slice (some ⟨W.heap.size, 0, none⟩) 2 2] (W.alloc (.cells #[.string NM, .string ZO] 9)) fun e w' => e = .returned (.bool q) ∧ Below (W.alloc (.cells #[.string NM, .string ZO] 9)).heap.size (W.alloc (.cells #[.string NM, .string ZO] 9)) w') := Lib.hid fun W => by
  have h := long_any _ _ _ (row_rd W [NM, ZO] (by simp))
  rw [← hq]
  simpa using h
 rw [hq]
 clear hq
 go_enter Tryz.func73, Tryz.ntmps73
 go_upto_region 1 with fail
 obtain ⟨bx, hbx⟩ : ∃ b, w.heap.size = b := ⟨_, rfl⟩
 obtain ⟨X, hX⟩ : ∃ X, w.alloc (.cells #[.string NM, .string ZO] 48) = X := ⟨_, rfl⟩
 have HBX : Hid (Below w.heap.size w X) := Lib.hid (by rw [← hX]; exact (Below.refl _ _).alloc (Nat.le_refl _) _)
 have HK : Hid (Blk X bx #[.string NM, .string ZO] 48) := Lib.hid (by rw [← hX, ← hbx]; exact Blk.new _ _ _)
 try rw [hX]
 try rw [hbx]
 clear hX hbx
 have x0 := HK.out.cell (j := 0) rfl
 have x1 := HK.out.cell (j := 1) rfl
 have x2 := keepCell HBX.out hn
 clear hn
 go_wp2_with (first | (go_at_call 67; refine (HL.out _).mono ?_; rintro e w' ⟨rfl, hb⟩) | fail)
 go_ret
 exact ⟨rfl, keepBelow HBX.out (keepBelow ((Below.refl _ _).alloc (Nat.le_refl _) _) hb)⟩

set_option maxRecDepth 100000 in
set_option maxHeartbeats 2000000 in
theorem few41_any (RU FM : ByteArray) (la : Bool) (of_ sv yr mo k v d at_ ck : Int) (pb : Nat) (w : World) (hn : w.cell? ⟨pb, 0, none⟩ = some (.func (.func 67) #[] #[])) :
  Calls Tryz.prog 76 #[.agg #[.int .i64 of_, .string RU, .int .i64 sv, .string FM, .bool la, .int .i64 yr, .int .i64 mo, .int .i64 k, .int .i64 v, .int .i64 d, .int .i64 at_, .int .i64 ck], .pointer (some ⟨pb, 0, none⟩)] w fun e w' => e = .returned (.bool (lgB (bsO RU) || lgB (bsO FM))) ∧ Below w.heap.size w w' := by
 obtain ⟨q, hq⟩ : ∃ q, (lgB (bsO RU) || lgB (bsO FM)) = q := ⟨_, rfl⟩
 have HL : Hid (∀ W : World, Calls Tryz.prog 67 #[.slice (some ⟨W.heap.size, 0, none⟩) 2 2] (W.alloc (.cells #[.string RU, .string FM] 9)) fun e w' => e = .returned (.bool q) ∧ Below (W.alloc (.cells #[.string RU, .string FM] 9)).heap.size (W.alloc (.cells #[.string RU, .string FM] 9)) w') := Lib.hid fun W => by
  have h := long_any _ _ _ (row_rd W [RU, FM] (by simp))
  rw [← hq]
  simpa using h
 rw [hq]
 clear hq
 go_enter Tryz.func76, Tryz.ntmps76
 go_upto_region 1 with fail
 obtain ⟨bx, hbx⟩ : ∃ b, w.heap.size = b := ⟨_, rfl⟩
 obtain ⟨X, hX⟩ : ∃ X, w.alloc (.cells #[.int .i64 of_, .string RU, .int .i64 sv, .string FM, .bool la, .int .i64 yr, .int .i64 mo, .int .i64 k, .int .i64 v, .int .i64 d, .int .i64 at_, .int .i64 ck] 102) = X := ⟨_, rfl⟩
 have HBX : Hid (Below w.heap.size w X) := Lib.hid (by rw [← hX]; exact (Below.refl _ _).alloc (Nat.le_refl _) _)
 have HK : Hid (Blk X bx #[.int .i64 of_, .string RU, .int .i64 sv, .string FM, .bool la, .int .i64 yr, .int .i64 mo, .int .i64 k, .int .i64 v, .int .i64 d, .int .i64 at_, .int .i64 ck] 102) := Lib.hid (by rw [← hX, ← hbx]; exact Blk.new _ _ _)
 try rw [hX]
 try rw [hbx]
 clear hX hbx
 have x0 := HK.out.cell (j := 1) rfl
 have x1 := HK.out.cell (j := 3) rfl
 have x2 := keepCell HBX.out hn
 clear hn
 go_wp2_with (first | (go_at_call 67; refine (HL.out _).mono ?_; rintro e w' ⟨rfl, hb⟩) | fail)
 go_ret
 exact ⟨rfl, keepBelow HBX.out (keepBelow ((Below.refl _ _).alloc (Nat.le_refl _) _) hb)⟩

set_option maxRecDepth 100000 in
set_option maxHeartbeats 2000000 in
theorem idx_few2 (pb : Nat) (f : RuT → Bool) (v : Value) (L : List RuT) (w : World) (h : RdRu w v L) (HF : Hid (∀ x, x ∈ L → ∀ W, Below w.heap.size w W → Calls Tryz.prog 71 #[(.agg (flRu x).toArray), .pointer (some ⟨pb, 0, none⟩)] W fun e w' => e = .returned (.bool (f x)) ∧ Below W.heap.size W w')) :
  Calls Tryz.prog 147 #[v, .func (.func 71) #[] #[.pointer (some ⟨pb, 0, none⟩)]] w fun e w' => (∃ r : Int, e = .returned (.int .i64 r) ∧ (decide (0 ≤ r) = L.any f)) ∧ Below w.heap.size w w' := by
 obtain ⟨a, c, rfl, hl, hc⟩ := h
 have HC := Lib.hid hc
 clear hc
 go_enter Tryz.func147, Tryz.ntmps147
 go_wp2_with fail
 go_loopw [8] (fun u wr => ∃ k : Nat, u = .int .i64 k ∧ k ≤ L.length ∧ Hid (∀ i, i < k → f (L.getD i ru0) = false) ∧ Below w.heap.size w wr) (fun u _ => L.length - (intOf u).toNat)
 case atStart => exact ⟨0, rfl, Nat.zero_le _, fun i hi => by omega, Below.refl _ _⟩
 case round =>
  obtain ⟨k, rfl, hk, HZ, hB⟩ := hrel
  by_cases hlt : k < L.length
  ·obtain ⟨b, o, rfl, hcc⟩ := HC.out k hlt
   obtain ⟨x, hx⟩ : ∃ x, L.getD k ru0 = x := ⟨_, rfl⟩
   have HX := HF.out x (by rw [← hx]; exact getD_mem hlt) wr hB
   have HXE := Lib.hid hx
   rw [hx] at hcc
   obtain ⟨g, hg⟩ : ∃ g, f x = g := ⟨_, rfl⟩
   rw [hg] at HX
   have HG : Hid (f (L.getD k ru0) = g) := Lib.hid (by rw [hx]; exact hg)
   clear hg hx HXE
   obtain ⟨nm, fr, to_, mo, ⟨ko, vo, dw⟩, at_, ck, sv, le⟩ := x
   obtain ⟨NM, rfl⟩ := bs_of nm
   obtain ⟨LE, rfl⟩ := bs_of le
   have HH : Hid (Calls Tryz.prog 71 #[.agg #[.string NM, .int .i64 fr, .int .i64 to_, .int .i64 mo, .int .i64 ko, .int .i64 vo, .int .i64 dw, .int .i64 at_, .int .i64 ck, .int .i64 sv, .string LE], .pointer (some ⟨pb, 0, none⟩)] wr fun e w' => e = .returned (.bool g) ∧ Below wr.heap.size wr w') := Lib.hid HX
   clear HX
   have e0 : wr.cell? ⟨b, o + k * 11, none⟩ = some (.string NM) := keepCell hB (hcc 0 _ (by decide) rfl)
   have e1 : wr.cell? ⟨b, o + k * 11 + 1, none⟩ = some (.int .i64 fr) := keepCell hB (hcc 1 _ (by decide) rfl)
   have e2 : wr.cell? ⟨b, o + k * 11 + 2, none⟩ = some (.int .i64 to_) := keepCell hB (hcc 2 _ (by decide) rfl)
   have e3 : wr.cell? ⟨b, o + k * 11 + 3, none⟩ = some (.int .i64 mo) := keepCell hB (hcc 3 _ (by decide) rfl)
   have e4 : wr.cell? ⟨b, o + k * 11 + 4, none⟩ = some (.int .i64 ko) := keepCell hB (hcc 4 _ (by decide) rfl)
   have e5 : wr.cell? ⟨b, o + k * 11 + 5, none⟩ = some (.int .i64 vo) := keepCell hB (hcc 5 _ (by decide) rfl)
   have e6 : wr.cell? ⟨b, o + k * 11 + 6, none⟩ = some (.int .i64 dw) := keepCell hB (hcc 6 _ (by decide) rfl)
   have e7 : wr.cell? ⟨b, o + k * 11 + 7, none⟩ = some (.int .i64 at_) := keepCell hB (hcc 7 _ (by decide) rfl)
   have e8 : wr.cell? ⟨b, o + k * 11 + 8, none⟩ = some (.int .i64 ck) := keepCell hB (hcc 8 _ (by decide) rfl)
   have e9 : wr.cell? ⟨b, o + k * 11 + 9, none⟩ = some (.int .i64 sv) := keepCell hB (hcc 9 _ (by decide) rfl)
   have e10 : wr.cell? ⟨b, o + k * 11 + 10, none⟩ = some (.string LE) := keepCell hB (hcc 10 _ (by decide) rfl)
   clear hcc
   go_wp2_with fail
   refine HH.out.mono ?_
   rintro e w1 ⟨rfl, hb1⟩
   have hB1 := keepBelow hB hb1
   clear e0 e1 e2 e3 e4 e5 e6 e7 e8 e9 e10 hb1
   cases g with
   | false =>
    go_wp2
    go_roundw
    case rel =>
     refine ⟨k + 1, by go_num, by omega, fun i hi => ?_, hB1⟩
     rcases Nat.lt_succ_iff_lt_or_eq.1 hi with h | rfl
     ·exact HZ.out i h
     ·exact HG.out
    case measure => simp [intOf]; omega
   | true =>
    have hA : L.any f = true := List.any_eq_true.2 ⟨_, getD_mem hlt, HG.out⟩
    go_wp2
    go_ret
    exact ⟨⟨k, rfl, by rw [hA]; simp⟩, hB1⟩
  ·have hA : L.any f = false := any_false (d := ru0) fun i hi => HZ.out i (by omega)
   go_wp2
   go_ret
   exact ⟨⟨-1, rfl, by rw [hA]; simp⟩, hB⟩
theorem con_few2 (pb : Nat) (f : RuT → Bool) (v : Value) (L : List RuT) (w : World) (h : RdRu w v L) (HF : Hid (∀ x, x ∈ L → ∀ W, Below w.heap.size w W → Calls Tryz.prog 71 #[(.agg (flRu x).toArray), .pointer (some ⟨pb, 0, none⟩)] W fun e w' => e = .returned (.bool (f x)) ∧ Below W.heap.size W w')) :
  Calls Tryz.prog 70 #[v, .func (.func 71) #[] #[.pointer (some ⟨pb, 0, none⟩)]] w fun e w' => e = .returned (.bool (L.any f)) ∧ Below w.heap.size w w' := by
 have H := Lib.hid (idx_few2 pb f v L w h HF)
 obtain ⟨a, c, rfl, _⟩ := h
 go_enter Tryz.func70, Tryz.ntmps70
 go_wp2_with fail
 refine H.out.mono ?_
 rintro e w1 ⟨⟨r, rfl, hr⟩, hb1⟩
 have HRR := Lib.hid hr
 clear hr
 go_wp2
 go_ret
 exact ⟨ret_bool HRR.out, hb1⟩

set_option maxRecDepth 100000 in
set_option maxHeartbeats 2000000 in
theorem idx_few3 (pb : Nat) (f : LkT → Bool) (v : Value) (L : List LkT) (w : World) (h : RdLk w v L) (HF : Hid (∀ x, x ∈ L → ∀ W, Below w.heap.size w W → Calls Tryz.prog 73 #[(.agg (flLk x).toArray), .pointer (some ⟨pb, 0, none⟩)] W fun e w' => e = .returned (.bool (f x)) ∧ Below W.heap.size W w')) :
  Calls Tryz.prog 148 #[v, .func (.func 73) #[] #[.pointer (some ⟨pb, 0, none⟩)]] w fun e w' => (∃ r : Int, e = .returned (.int .i64 r) ∧ (decide (0 ≤ r) = L.any f)) ∧ Below w.heap.size w w' := by
 obtain ⟨a, c, rfl, hl, hc⟩ := h
 have HC := Lib.hid hc
 clear hc
 go_enter Tryz.func148, Tryz.ntmps148
 go_wp2_with fail
 go_loopw [8] (fun u wr => ∃ k : Nat, u = .int .i64 k ∧ k ≤ L.length ∧ Hid (∀ i, i < k → f (L.getD i lk0) = false) ∧ Below w.heap.size w wr) (fun u _ => L.length - (intOf u).toNat)
 case atStart => exact ⟨0, rfl, Nat.zero_le _, fun i hi => by omega, Below.refl _ _⟩
 case round =>
  obtain ⟨k, rfl, hk, HZ, hB⟩ := hrel
  by_cases hlt : k < L.length
  ·obtain ⟨b, o, rfl, hcc⟩ := HC.out k hlt
   obtain ⟨x, hx⟩ : ∃ x, L.getD k lk0 = x := ⟨_, rfl⟩
   have HX := HF.out x (by rw [← hx]; exact getD_mem hlt) wr hB
   have HXE := Lib.hid hx
   rw [hx] at hcc
   obtain ⟨g, hg⟩ : ∃ g, f x = g := ⟨_, rfl⟩
   rw [hg] at HX
   have HG : Hid (f (L.getD k lk0) = g) := Lib.hid (by rw [hx]; exact hg)
   clear hg hx HXE
   obtain ⟨nm, zo⟩ := x
   obtain ⟨NM, rfl⟩ := bs_of nm
   obtain ⟨ZO, rfl⟩ := bs_of zo
   have HH : Hid (Calls Tryz.prog 73 #[.agg #[.string NM, .string ZO], .pointer (some ⟨pb, 0, none⟩)] wr fun e w' => e = .returned (.bool g) ∧ Below wr.heap.size wr w') := Lib.hid HX
   clear HX
   have e0 : wr.cell? ⟨b, o + k * 2, none⟩ = some (.string NM) := keepCell hB (hcc 0 _ (by decide) rfl)
   have e1 : wr.cell? ⟨b, o + k * 2 + 1, none⟩ = some (.string ZO) := keepCell hB (hcc 1 _ (by decide) rfl)
   clear hcc
   go_wp2_with fail
   refine HH.out.mono ?_
   rintro e w1 ⟨rfl, hb1⟩
   have hB1 := keepBelow hB hb1
   clear e0 e1 hb1
   cases g with
   | false =>
    go_wp2
    go_roundw
    case rel =>
     refine ⟨k + 1, by go_num, by omega, fun i hi => ?_, hB1⟩
     rcases Nat.lt_succ_iff_lt_or_eq.1 hi with h | rfl
     ·exact HZ.out i h
     ·exact HG.out
    case measure => simp [intOf]; omega
   | true =>
    have hA : L.any f = true := List.any_eq_true.2 ⟨_, getD_mem hlt, HG.out⟩
    go_wp2
    go_ret
    exact ⟨⟨k, rfl, by rw [hA]; simp⟩, hB1⟩
  ·have hA : L.any f = false := any_false (d := lk0) fun i hi => HZ.out i (by omega)
   go_wp2
   go_ret
   exact ⟨⟨-1, rfl, by rw [hA]; simp⟩, hB⟩
theorem con_few3 (pb : Nat) (f : LkT → Bool) (v : Value) (L : List LkT) (w : World) (h : RdLk w v L) (HF : Hid (∀ x, x ∈ L → ∀ W, Below w.heap.size w W → Calls Tryz.prog 73 #[(.agg (flLk x).toArray), .pointer (some ⟨pb, 0, none⟩)] W fun e w' => e = .returned (.bool (f x)) ∧ Below W.heap.size W w')) :
  Calls Tryz.prog 72 #[v, .func (.func 73) #[] #[.pointer (some ⟨pb, 0, none⟩)]] w fun e w' => e = .returned (.bool (L.any f)) ∧ Below w.heap.size w w' := by
 have H := Lib.hid (idx_few3 pb f v L w h HF)
 obtain ⟨a, c, rfl, _⟩ := h
 go_enter Tryz.func72, Tryz.ntmps72
 go_wp2_with fail
 refine H.out.mono ?_
 rintro e w1 ⟨⟨r, rfl, hr⟩, hb1⟩
 have HRR := Lib.hid hr
 clear hr
 go_wp2
 go_ret
 exact ⟨ret_bool HRR.out, hb1⟩

set_option maxRecDepth 100000 in
set_option maxHeartbeats 2000000 in
theorem idx_few41 (pb : Nat) (f : LiT → Bool) (v : Value) (L : List LiT) (w : World) (h : RdLi w v L) (HF : Hid (∀ x, x ∈ L → ∀ W, Below w.heap.size w W → Calls Tryz.prog 76 #[(.agg (flLi x).toArray), .pointer (some ⟨pb, 0, none⟩)] W fun e w' => e = .returned (.bool (f x)) ∧ Below W.heap.size W w')) :
  Calls Tryz.prog 149 #[v, .func (.func 76) #[] #[.pointer (some ⟨pb, 0, none⟩)]] w fun e w' => (∃ r : Int, e = .returned (.int .i64 r) ∧ (decide (0 ≤ r) = L.any f)) ∧ Below w.heap.size w w' := by
 obtain ⟨a, c, rfl, hl, hc⟩ := h
 have HC := Lib.hid hc
 clear hc
 go_enter Tryz.func149, Tryz.ntmps149
 go_wp2_with fail
 go_loopw [8] (fun u wr => ∃ k : Nat, u = .int .i64 k ∧ k ≤ L.length ∧ Hid (∀ i, i < k → f (L.getD i li0) = false) ∧ Below w.heap.size w wr) (fun u _ => L.length - (intOf u).toNat)
 case atStart => exact ⟨0, rfl, Nat.zero_le _, fun i hi => by omega, Below.refl _ _⟩
 case round =>
  obtain ⟨k, rfl, hk, HZ, hB⟩ := hrel
  by_cases hlt : k < L.length
  ·obtain ⟨b, o, rfl, hcc⟩ := HC.out k hlt
   obtain ⟨x, hx⟩ : ∃ x, L.getD k li0 = x := ⟨_, rfl⟩
   have HX := HF.out x (by rw [← hx]; exact getD_mem hlt) wr hB
   have HXE := Lib.hid hx
   rw [hx] at hcc
   obtain ⟨g, hg⟩ : ∃ g, f x = g := ⟨_, rfl⟩
   rw [hg] at HX
   have HG : Hid (f (L.getD k li0) = g) := Lib.hid (by rw [hx]; exact hg)
   clear hg hx HXE
   obtain ⟨of, ru, sv, fm, la, ⟨yr, mo, ⟨ko, vo, dw⟩, at_, ck⟩⟩ := x
   obtain ⟨RU, rfl⟩ := bs_of ru
   obtain ⟨FM, rfl⟩ := bs_of fm
   have HH : Hid (Calls Tryz.prog 76 #[.agg #[.int .i64 of, .string RU, .int .i64 sv, .string FM, .bool la, .int .i64 yr, .int .i64 mo, .int .i64 ko, .int .i64 vo, .int .i64 dw, .int .i64 at_, .int .i64 ck], .pointer (some ⟨pb, 0, none⟩)] wr fun e w' => e = .returned (.bool g) ∧ Below wr.heap.size wr w') := Lib.hid HX
   clear HX
   have e0 : wr.cell? ⟨b, o + k * 12, none⟩ = some (.int .i64 of) := keepCell hB (hcc 0 _ (by decide) rfl)
   have e1 : wr.cell? ⟨b, o + k * 12 + 1, none⟩ = some (.string RU) := keepCell hB (hcc 1 _ (by decide) rfl)
   have e2 : wr.cell? ⟨b, o + k * 12 + 2, none⟩ = some (.int .i64 sv) := keepCell hB (hcc 2 _ (by decide) rfl)
   have e3 : wr.cell? ⟨b, o + k * 12 + 3, none⟩ = some (.string FM) := keepCell hB (hcc 3 _ (by decide) rfl)
   have e4 : wr.cell? ⟨b, o + k * 12 + 4, none⟩ = some (.bool la) := keepCell hB (hcc 4 _ (by decide) rfl)
   have e5 : wr.cell? ⟨b, o + k * 12 + 5, none⟩ = some (.int .i64 yr) := keepCell hB (hcc 5 _ (by decide) rfl)
   have e6 : wr.cell? ⟨b, o + k * 12 + 6, none⟩ = some (.int .i64 mo) := keepCell hB (hcc 6 _ (by decide) rfl)
   have e7 : wr.cell? ⟨b, o + k * 12 + 7, none⟩ = some (.int .i64 ko) := keepCell hB (hcc 7 _ (by decide) rfl)
   have e8 : wr.cell? ⟨b, o + k * 12 + 8, none⟩ = some (.int .i64 vo) := keepCell hB (hcc 8 _ (by decide) rfl)
   have e9 : wr.cell? ⟨b, o + k * 12 + 9, none⟩ = some (.int .i64 dw) := keepCell hB (hcc 9 _ (by decide) rfl)
   have e10 : wr.cell? ⟨b, o + k * 12 + 10, none⟩ = some (.int .i64 at_) := keepCell hB (hcc 10 _ (by decide) rfl)
   have e11 : wr.cell? ⟨b, o + k * 12 + 11, none⟩ = some (.int .i64 ck) := keepCell hB (hcc 11 _ (by decide) rfl)
   clear hcc
   go_wp2_with fail
   refine HH.out.mono ?_
   rintro e w1 ⟨rfl, hb1⟩
   have hB1 := keepBelow hB hb1
   clear e0 e1 e2 e3 e4 e5 e6 e7 e8 e9 e10 e11 hb1
   cases g with
   | false =>
    go_wp2
    go_roundw
    case rel =>
     refine ⟨k + 1, by go_num, by omega, fun i hi => ?_, hB1⟩
     rcases Nat.lt_succ_iff_lt_or_eq.1 hi with h | rfl
     ·exact HZ.out i h
     ·exact HG.out
    case measure => simp [intOf]; omega
   | true =>
    have hA : L.any f = true := List.any_eq_true.2 ⟨_, getD_mem hlt, HG.out⟩
    go_wp2
    go_ret
    exact ⟨⟨k, rfl, by rw [hA]; simp⟩, hB1⟩
  ·have hA : L.any f = false := any_false (d := li0) fun i hi => HZ.out i (by omega)
   go_wp2
   go_ret
   exact ⟨⟨-1, rfl, by rw [hA]; simp⟩, hB⟩
theorem con_few41 (pb : Nat) (f : LiT → Bool) (v : Value) (L : List LiT) (w : World) (h : RdLi w v L) (HF : Hid (∀ x, x ∈ L → ∀ W, Below w.heap.size w W → Calls Tryz.prog 76 #[(.agg (flLi x).toArray), .pointer (some ⟨pb, 0, none⟩)] W fun e w' => e = .returned (.bool (f x)) ∧ Below W.heap.size W w')) :
  Calls Tryz.prog 75 #[v, .func (.func 76) #[] #[.pointer (some ⟨pb, 0, none⟩)]] w fun e w' => e = .returned (.bool (L.any f)) ∧ Below w.heap.size w w' := by
 have H := Lib.hid (idx_few41 pb f v L w h HF)
 obtain ⟨a, c, rfl, _⟩ := h
 go_enter Tryz.func75, Tryz.ntmps75
 go_wp2_with fail
 refine H.out.mono ?_
 rintro e w1 ⟨⟨r, rfl, hr⟩, hb1⟩
 have HRR := Lib.hid hr
 clear hr
 go_wp2
 go_ret
 exact ⟨ret_bool HRR.out, hb1⟩

def fwRu (r : RuT) : Bool := lgB r.nm || lgB r.le
def fwLk (x : LkT) : Bool := lgB x.nm || lgB x.zo
def fwLi (l : LiT) : Bool := lgB l.ru || lgB l.fm
def fwZo (z : ZoT) : Bool := decide (120 < z.li.length) || lgB z.nm || z.li.any fwLi
set_option maxRecDepth 100000 in
set_option maxHeartbeats 4000000 in
theorem few4_any (NM : ByteArray) (lv : Value) (li : List LiT) (pb : Nat) (w : World) (hn : w.cell? ⟨pb, 0, none⟩ = some (.func (.func 67) #[] #[])) (hr : RdLi w lv li) :
  Calls Tryz.prog 74 #[.agg #[.string NM, lv], .pointer (some ⟨pb, 0, none⟩)] w fun e w' => e = .returned (.bool (fwZo ⟨bsO NM, li⟩)) ∧ Below w.heap.size w w' := by
 have HLN : Hid (∀ W, Below w.heap.size w W → Calls Tryz.prog 75 #[lv, .func (.func 76) #[] #[.pointer (some ⟨pb, 0, none⟩)]] W fun e w' => e = .returned (.bool (li.any fwLi)) ∧ Below W.heap.size W w') := Lib.hid fun W hW => con_few41 pb fwLi lv li W (hr.below hW) (Lib.hid fun x _ W2 hW2 => by
  obtain ⟨of_, ru, sv, fm, la, ⟨yr, mo, ⟨k, v, d⟩, at_, ck⟩⟩ := x
  obtain ⟨RU, rfl⟩ := bs_of ru
  obtain ⟨FM, rfl⟩ := bs_of fm
  exact few41_any RU FM la of_ sv yr mo k v d at_ ck pb W2 (keepCell (keepBelow hW hW2) hn))
 have HLL : Hid (∀ W : World, Calls Tryz.prog 67 #[.slice (some ⟨W.heap.size, 0, none⟩) 1 1] (W.alloc (.cells #[.string NM] 9)) fun e w' => e = .returned (.bool (lgB (bsO NM))) ∧ Below (W.alloc (.cells #[.string NM] 9)).heap.size (W.alloc (.cells #[.string NM] 9)) w') := Lib.hid fun W => by
  have h := long_any _ _ _ (row_rd W [NM] (by simp))
  simpa using h
 have HZ : Hid (fwZo ⟨bsO NM, li⟩ = (decide (120 < li.length) || lgB (bsO NM) || li.any fwLi)) := Lib.hid rfl
 obtain ⟨a2, n2, rfl⟩ := hr.form
 obtain ⟨r, hr2⟩ : ∃ r, fwZo ⟨bsO NM, li⟩ = r := ⟨_, rfl⟩
 rw [hr2] at HZ ⊢
 obtain ⟨q2, hq2⟩ : ∃ q, lgB (bsO NM) = q := ⟨_, rfl⟩
 obtain ⟨q3, hq3⟩ : ∃ q, li.any fwLi = q := ⟨_, rfl⟩
 rw [hq2] at HLL HZ
 rw [hq3] at HLN HZ
 clear hr hr2 hq2 hq3
 go_enter Tryz.func74, Tryz.ntmps74
 go_upto_region 1 with fail
 obtain ⟨bx, hbx⟩ : ∃ b, w.heap.size = b := ⟨_, rfl⟩
 obtain ⟨X, hX⟩ : ∃ Y, w.alloc (.cells #[.string NM, .slice a2 li.length n2] 45) = Y := ⟨_, rfl⟩
 have HBX : Hid (Below w.heap.size w X) := Lib.hid (by rw [← hX]; exact (Below.refl _ _).alloc (Nat.le_refl _) _)
 have HK : Hid (Blk X bx #[.string NM, .slice a2 li.length n2] 45) := Lib.hid (by rw [← hX, ← hbx]; exact Blk.new _ _ _)
 try rw [hX]
 try rw [hbx]
 clear hX hbx
 have x0 := HK.out.cell (j := 0) rfl
 have x1 := HK.out.cell (j := 1) rfl
 have x2 := keepCell HBX.out hn
 clear hn
 by_cases h1 : 120 < li.length
 ·have g1 : decide ((120 : Int) < (li.length : Int)) = true := by simp; omega
  have HE : Hid (true = r) := Lib.hid (by rw [HZ.out, decide_eq_true h1]; rfl)
  clear h1
  go_wp2_with fail
  go_ret
  exact ⟨ret_bool HE.out, HBX.out⟩
 have g1 : decide ((120 : Int) < (li.length : Int)) = false := by simp; omega
 have HZ2 : Hid (r = (q2 || q3)) := Lib.hid (by rw [HZ.out, decide_eq_false h1]; rfl)
 clear h1 HZ
 have HM : Hid (∀ W, Below X.heap.size X W → W.cell? ⟨bx, 1, none⟩ = some (.slice a2 li.length n2)) := Lib.hid fun W hW => (HK.out.below hW).cell (j := 1) rfl
 cases q2 with
 | true =>
  have HE : Hid (true = r) := Lib.hid (by rw [HZ2.out]; rfl)
  go_wp2_with (first | (go_at_call 67; refine (HLL.out _).mono ?_; rintro e w2 ⟨rfl, hb2⟩; have HB2 := Lib.hid (keepBelow ((Below.refl _ _).alloc (Nat.le_refl _) _) hb2)) | fail)
  go_ret
  exact ⟨ret_bool HE.out, keepBelow HBX.out HB2.out⟩
 | false =>
  have HE : Hid (q3 = r) := Lib.hid (by rw [HZ2.out]; rfl)
  go_wp2_with (first | (go_at_call 67; refine (HLL.out _).mono ?_; rintro e w2 ⟨rfl, hb2⟩; obtain ⟨W2, hW2⟩ : ∃ W, w2 = W := ⟨_, rfl⟩; rw [hW2] at hb2 ⊢; clear hW2; have HB2 : Hid (Below X.heap.size X W2) := Lib.hid (keepBelow ((Below.refl _ _).alloc (Nat.le_refl _) _) hb2); clear hb2; have u1 := HM.out _ HB2.out) | (go_at_call 75; refine (HLN.out _ (keepBelow HBX.out HB2.out)).mono ?_; rintro e w3 ⟨rfl, hb3⟩) | fail)
  go_ret
  exact ⟨ret_bool HE.out, keepBelow HBX.out (keepBelow HB2.out hb3)⟩

set_option maxRecDepth 100000 in
set_option maxHeartbeats 2000000 in
theorem idx_few4 (pb : Nat) (f : ZkT → Bool) (v : Value) (L : List ZkT) (w : World) (h : RdZk w v L) (HF : Hid (∀ x, x ∈ L → ∀ W, Below w.heap.size w W → Calls Tryz.prog 74 #[(.agg (flZk x).toArray), .pointer (some ⟨pb, 0, none⟩)] W fun e w' => e = .returned (.bool (f x)) ∧ Below W.heap.size W w')) :
  Calls Tryz.prog 129 #[v, .func (.func 74) #[] #[.pointer (some ⟨pb, 0, none⟩)]] w fun e w' => (∃ r : Int, e = .returned (.int .i64 r) ∧ (decide (0 ≤ r) = L.any f)) ∧ Below w.heap.size w w' := by
 obtain ⟨a, c, rfl, hl, hc⟩ := h.row
 have HC := Lib.hid hc
 clear hc
 go_enter Tryz.func129, Tryz.ntmps129
 go_wp2_with fail
 go_loopw [8] (fun u wr => ∃ k : Nat, u = .int .i64 k ∧ k ≤ L.length ∧ Hid (∀ i, i < k → f (L.getD i zk0) = false) ∧ Below w.heap.size w wr) (fun u _ => L.length - (intOf u).toNat)
 case atStart => exact ⟨0, rfl, Nat.zero_le _, fun i hi => by omega, Below.refl _ _⟩
 case round =>
  obtain ⟨k, rfl, hk, HZ, hB⟩ := hrel
  by_cases hlt : k < L.length
  ·obtain ⟨b, o, rfl, hcc⟩ := HC.out k hlt
   obtain ⟨x, hx⟩ : ∃ x, L.getD k zk0 = x := ⟨_, rfl⟩
   have HX := HF.out x (by rw [← hx]; exact getD_mem hlt) wr hB
   have HXE := Lib.hid hx
   rw [hx] at hcc
   obtain ⟨g, hg⟩ : ∃ g, f x = g := ⟨_, rfl⟩
   rw [hg] at HX
   have HG : Hid (f (L.getD k zk0) = g) := Lib.hid (by rw [hx]; exact hg)
   clear hg hx HXE
   obtain ⟨⟨nm, li⟩, lv⟩ := x
   obtain ⟨NM, rfl⟩ := bs_of nm
   have HH : Hid (Calls Tryz.prog 74 #[.agg #[.string NM, lv], .pointer (some ⟨pb, 0, none⟩)] wr fun e w' => e = .returned (.bool g) ∧ Below wr.heap.size wr w') := Lib.hid HX
   clear HX
   have e0 : wr.cell? ⟨b, o + k * 2, none⟩ = some (.string NM) := keepCell hB (hcc 0 _ (by decide) rfl)
   have e1 : wr.cell? ⟨b, o + k * 2 + 1, none⟩ = some (lv) := keepCell hB (hcc 1 _ (by decide) rfl)
   clear hcc
   go_wp2_with fail
   refine HH.out.mono ?_
   rintro e w1 ⟨rfl, hb1⟩
   have hB1 := keepBelow hB hb1
   clear e0 e1 hb1
   cases g with
   | false =>
    go_wp2
    go_roundw
    case rel =>
     refine ⟨k + 1, by go_num, by omega, fun i hi => ?_, hB1⟩
     rcases Nat.lt_succ_iff_lt_or_eq.1 hi with h | rfl
     ·exact HZ.out i h
     ·exact HG.out
    case measure => simp [intOf]; omega
   | true =>
    have hA : L.any f = true := List.any_eq_true.2 ⟨_, getD_mem hlt, HG.out⟩
    go_wp2
    go_ret
    exact ⟨⟨k, rfl, by rw [hA]; simp⟩, hB1⟩
  ·have hA : L.any f = false := any_false (d := zk0) fun i hi => HZ.out i (by omega)
   go_wp2
   go_ret
   exact ⟨⟨-1, rfl, by rw [hA]; simp⟩, hB⟩
theorem con_few4 (pb : Nat) (f : ZkT → Bool) (v : Value) (L : List ZkT) (w : World) (h : RdZk w v L) (HF : Hid (∀ x, x ∈ L → ∀ W, Below w.heap.size w W → Calls Tryz.prog 74 #[(.agg (flZk x).toArray), .pointer (some ⟨pb, 0, none⟩)] W fun e w' => e = .returned (.bool (f x)) ∧ Below W.heap.size W w')) :
  Calls Tryz.prog 49 #[v, .func (.func 74) #[] #[.pointer (some ⟨pb, 0, none⟩)]] w fun e w' => e = .returned (.bool (L.any f)) ∧ Below w.heap.size w w' := by
 have H := Lib.hid (idx_few4 pb f v L w h HF)
 obtain ⟨a, c, rfl, _⟩ := h.row
 go_enter Tryz.func49, Tryz.ntmps49
 go_wp2_with fail
 refine H.out.mono ?_
 rintro e w1 ⟨⟨r, rfl, hr⟩, hb1⟩
 have HRR := Lib.hid hr
 clear hr
 go_wp2
 go_ret
 exact ⟨ret_bool HRR.out, hb1⟩

def fewB (s : SrT) : Bool := !(decide (120 < s.ru.length) || decide (40 < s.zo.length) || decide (40 < s.lk.length)) && !(s.ru.any fwRu || s.lk.any fwLk) && !(s.zo.any fwZo)
theorem few_out {s : SrT} (h : fewB s = true) : s.ru.length ≤ 120 ∧ s.zo.length ≤ 40 ∧ s.lk.length ≤ 40 ∧ SzS s := by
 unfold fewB at h
 simp only [Bool.and_eq_true, Bool.not_eq_true', Bool.or_eq_false_iff, decide_eq_false_iff_not] at h
 obtain ⟨⟨⟨⟨h1, h2⟩, h3⟩, h4, h5⟩, h6⟩ := h
 have lg : ∀ {t : Bs}, lgB t = false → t.length ≤ 60 := fun {t} h => by
  unfold lgB at h
  simpa using h
 refine ⟨by omega, by omega, by omega, fun r hr => ?_, fun z hz => ⟨?_, fun l hl => ?_⟩, fun x hx => ?_⟩
 ·have q := List.any_eq_false.1 h4 r hr
  unfold fwRu at q
  simp only [Bool.or_eq_true, not_or, Bool.not_eq_true] at q
  exact ⟨Nat.le_trans (lg q.1) (by decide), Nat.le_trans (lg q.2) (by decide)⟩
 ·have q := List.any_eq_false.1 h6 z hz
  unfold fwZo at q
  simp only [Bool.or_eq_true, not_or, Bool.not_eq_true] at q
  exact Nat.le_trans (lg q.1.2) (by decide)
 ·have q := List.any_eq_false.1 h6 z hz
  unfold fwZo at q
  simp only [Bool.or_eq_true, not_or, Bool.not_eq_true] at q
  have q2 := List.any_eq_false.1 q.2 l hl
  unfold fwLi at q2
  simp only [Bool.or_eq_true, not_or, Bool.not_eq_true] at q2
  exact ⟨Nat.le_trans (lg q2.1) (by decide), Nat.le_trans (lg q2.2) (by decide)⟩
 ·have q := List.any_eq_false.1 h5 x hx
  unfold fwLk at q
  simp only [Bool.or_eq_true, not_or, Bool.not_eq_true] at q
  exact ⟨Nat.le_trans (lg q.1) (by decide), Nat.le_trans (lg q.2) (by decide)⟩
set_option maxRecDepth 100000 in
set_option maxHeartbeats 8000000 in
theorem few_any (rv zv lv : Value) (S : SrT) (Z : List ZkT) (w : World) (hs : RdSr w rv zv lv S Z) :
  Calls Tryz.prog 19 #[.agg #[rv, zv, lv]] w fun e w' => e = .returned (.bool (fewB S)) ∧ Below w.heap.size w w' := by
 have HRU : Hid (∀ pb W, Below w.heap.size w W → W.cell? ⟨pb, 0, none⟩ = some (.func (.func 67) #[] #[]) → Calls Tryz.prog 70 #[rv, .func (.func 71) #[] #[.pointer (some ⟨pb, 0, none⟩)]] W fun e w' => e = .returned (.bool (S.ru.any fwRu)) ∧ Below W.heap.size W w') := Lib.hid fun pb W hW hn => con_few2 pb fwRu rv S.ru W (hs.ru.below hW) (Lib.hid fun x _ W2 hW2 => by
  obtain ⟨nm, fr, to_, mo, ⟨k, v, d⟩, at_, ck, sv, le⟩ := x
  obtain ⟨NM, rfl⟩ := bs_of nm
  obtain ⟨LE, rfl⟩ := bs_of le
  exact few2_any NM LE fr to_ mo k v d at_ ck sv pb W2 (keepCell hW2 hn))
 have HLK : Hid (∀ pb W, Below w.heap.size w W → W.cell? ⟨pb, 0, none⟩ = some (.func (.func 67) #[] #[]) → Calls Tryz.prog 72 #[lv, .func (.func 73) #[] #[.pointer (some ⟨pb, 0, none⟩)]] W fun e w' => e = .returned (.bool (S.lk.any fwLk)) ∧ Below W.heap.size W w') := Lib.hid fun pb W hW hn => con_few3 pb fwLk lv S.lk W (hs.lk.below hW) (Lib.hid fun x _ W2 hW2 => by
  obtain ⟨nm, zo⟩ := x
  obtain ⟨NM, rfl⟩ := bs_of nm
  obtain ⟨ZO, rfl⟩ := bs_of zo
  exact few3_any NM ZO pb W2 (keepCell hW2 hn))
 have HZO : Hid (∀ pb W, Below w.heap.size w W → W.cell? ⟨pb, 0, none⟩ = some (.func (.func 67) #[] #[]) → Calls Tryz.prog 49 #[zv, .func (.func 74) #[] #[.pointer (some ⟨pb, 0, none⟩)]] W fun e w' => e = .returned (.bool (S.zo.any fwZo)) ∧ Below W.heap.size W w') := Lib.hid fun pb W hW hn => by
  have q := con_few4 pb (fun z => fwZo z.1) zv Z W (hs.zo.below hW) (Lib.hid fun x hx W2 hW2 => by
   have hl := ((hs.zo.below hW).mem hx).below hW2
   obtain ⟨⟨nm, li⟩, lv'⟩ := x
   obtain ⟨NM, rfl⟩ := bs_of nm
   exact few4_any NM lv' li pb W2 (keepCell hW2 hn) hl)
  rw [← hs.zs, List.any_map]
  exact q
 obtain ⟨ra, rc, rfl⟩ := hs.ru.form
 obtain ⟨za, zc, rfl⟩ := hs.zo.row.form
 obtain ⟨la, lc, rfl⟩ := hs.lk.form
 have hzl : S.zo.length = Z.length := by rw [← hs.zs, List.length_map]
 have HF : Hid (fewB S = (!(decide (120 < S.ru.length) || decide (40 < Z.length) || decide (40 < S.lk.length)) && !(S.ru.any fwRu || S.lk.any fwLk) && !(S.zo.any fwZo))) := Lib.hid (by rw [← hzl]; rfl)
 obtain ⟨r, hr⟩ : ∃ r, fewB S = r := ⟨_, rfl⟩
 rw [hr] at HF ⊢
 obtain ⟨q1, hq1⟩ : ∃ q, S.ru.any fwRu = q := ⟨_, rfl⟩
 obtain ⟨q2, hq2⟩ : ∃ q, S.lk.any fwLk = q := ⟨_, rfl⟩
 obtain ⟨q3, hq3⟩ : ∃ q, S.zo.any fwZo = q := ⟨_, rfl⟩
 rw [hq1] at HRU HF
 rw [hq2] at HLK HF
 rw [hq3] at HZO HF
 obtain ⟨n1, hn1⟩ : ∃ n, S.ru.length = n := ⟨_, rfl⟩
 obtain ⟨n2, hn2⟩ : ∃ n, Z.length = n := ⟨_, rfl⟩
 obtain ⟨n3, hn3⟩ : ∃ n, S.lk.length = n := ⟨_, rfl⟩
 rw [hn1] at HRU HF ⊢
 rw [hn2] at HZO HF ⊢
 rw [hn3] at HLK HF ⊢
 clear hs hzl hr hq1 hq2 hq3 hn1 hn2 hn3
 go_enter Tryz.func19, Tryz.ntmps19
 go_upto_region 1 with fail
 obtain ⟨bx, hbx⟩ : ∃ b, w.heap.size = b := ⟨_, rfl⟩
 obtain ⟨X, hX⟩ : ∃ Y, w.alloc (.cells #[.slice ra n1 rc, .slice za n2 zc, .slice la n3 lc] 27) = Y := ⟨_, rfl⟩
 have HBX : Hid (Below w.heap.size w X) := Lib.hid (by rw [← hX]; exact (Below.refl _ _).alloc (Nat.le_refl _) _)
 have HK : Hid (Blk X bx #[.slice ra n1 rc, .slice za n2 zc, .slice la n3 lc] 27) := Lib.hid (by rw [← hX, ← hbx]; exact Blk.new _ _ _)
 try rw [hX]
 try rw [hbx]
 clear hX hbx
 have x0 := HK.out.cell (j := 0) rfl
 have x1 := HK.out.cell (j := 1) rfl
 have x2 := HK.out.cell (j := 2) rfl
 have big : ∀ {b : Bool}, b = true → ((!b && !(q1 || q2)) && !q3) = false := fun h => by rw [h]; rfl
 by_cases h1 : 120 < n1
 ·have g1 : decide ((120 : Int) < (n1 : Int)) = true := by simp; omega
  have HE : Hid (false = r) := Lib.hid (by rw [HF.out, big (by rw [decide_eq_true h1]; rfl)])
  clear h1 big
  go_wp2_with fail
  go_ret
  exact ⟨ret_bool HE.out, HBX.out⟩
 have g1 : decide ((120 : Int) < (n1 : Int)) = false := by simp; omega
 by_cases h2 : 40 < n2
 ·have g2 : decide ((40 : Int) < (n2 : Int)) = true := by simp; omega
  have HE : Hid (false = r) := Lib.hid (by rw [HF.out, big (by rw [decide_eq_true h2, decide_eq_false h1]; rfl)])
  clear h1 h2 big
  go_wp2_with fail
  go_ret
  exact ⟨ret_bool HE.out, HBX.out⟩
 have g2 : decide ((40 : Int) < (n2 : Int)) = false := by simp; omega
 by_cases h3 : 40 < n3
 ·have g3 : decide ((40 : Int) < (n3 : Int)) = true := by simp; omega
  have HE : Hid (false = r) := Lib.hid (by rw [HF.out, big (by rw [decide_eq_true h3, decide_eq_false h1, decide_eq_false h2]; rfl)])
  clear h1 h2 h3 big
  go_wp2_with fail
  go_ret
  exact ⟨ret_bool HE.out, HBX.out⟩
 have g3 : decide ((40 : Int) < (n3 : Int)) = false := by simp; omega
 have HF2 : Hid (r = (!(q1 || q2) && !q3)) := Lib.hid (by rw [HF.out, decide_eq_false h1, decide_eq_false h2, decide_eq_false h3]; rfl)
 clear h1 h2 h3 HF big
 go_upto_region 4 with fail
 obtain ⟨pb, hpb⟩ : ∃ b, X.heap.size = b := ⟨_, rfl⟩
 obtain ⟨Y, hY⟩ : ∃ Y, X.alloc (.cells #[.func (.func 67) #[] #[]] 115) = Y := ⟨_, rfl⟩
 have HBY : Hid (Below X.heap.size X Y) := Lib.hid (by rw [← hY]; exact (Below.refl _ _).alloc (Nat.le_refl _) _)
 have HP : Hid (Blk Y pb #[.func (.func 67) #[] #[]] 115) := Lib.hid (by rw [← hY, ← hpb]; exact Blk.new _ _ _)
 try rw [hY]
 try rw [hpb]
 clear hY hpb
 have HBW := Lib.hid (keepBelow HBX.out HBY.out)
 have hp := HP.out.cell (j := 0) rfl
 have y0 := keepCell HBY.out x0
 have y2 := keepCell HBY.out x2
 have HM : Hid (∀ W, Below Y.heap.size Y W → W.cell? ⟨pb, 0, none⟩ = some (.func (.func 67) #[] #[]) ∧ W.cell? ⟨bx, 2, none⟩ = some (.slice la n3 lc) ∧ W.cell? ⟨bx, 1, none⟩ = some (.slice za n2 zc)) := Lib.hid fun W hW => ⟨(HP.out.below hW).cell (j := 0) rfl, ((HK.out.below HBY.out).below hW).cell (j := 2) rfl, ((HK.out.below HBY.out).below hW).cell (j := 1) rfl⟩
 clear x0 x1 x2
 cases q1 with
 | true =>
  have HE : Hid (false = r) := Lib.hid (by rw [HF2.out]; rfl)
  go_wp2_with (first | (go_at_call 70; refine (HRU.out pb _ HBW.out hp).mono ?_; rintro e w2 ⟨rfl, hb2⟩) | fail)
  go_ret
  exact ⟨ret_bool HE.out, keepBelow HBW.out hb2⟩
 | false =>
 have HF3 : Hid (r = (!q2 && !q3)) := Lib.hid (by rw [HF2.out]; rfl)
 cases q2 with
 | true =>
  have HE : Hid (false = r) := Lib.hid (by rw [HF3.out]; rfl)
  go_wp2_with (first | (go_at_call 70; refine (HRU.out pb _ HBW.out hp).mono ?_; rintro e w2 ⟨rfl, hb2⟩; have HB2 := Lib.hid hb2; have u2 := (HM.out _ hb2).2.1; have hp2 := (HM.out _ hb2).1) | (go_at_call 72; refine (HLK.out pb _ (keepBelow HBW.out HB2.out) hp2).mono ?_; rintro e w3 ⟨rfl, hb3⟩) | fail)
  go_ret
  exact ⟨ret_bool HE.out, keepBelow HBW.out (keepBelow HB2.out hb3)⟩
 | false =>
  have HE : Hid ((!q3) = r) := Lib.hid (by rw [HF3.out]; rfl)
  go_wp2_with (first | (go_at_call 70; refine (HRU.out pb _ HBW.out hp).mono ?_; rintro e w2 ⟨rfl, hb2⟩; have HB2 := Lib.hid hb2; have u2 := (HM.out _ hb2).2.1; have hp2 := (HM.out _ hb2).1) | (go_at_call 72; refine (HLK.out pb _ (keepBelow HBW.out HB2.out) hp2).mono ?_; rintro e w3 ⟨rfl, hb3⟩; have HB3 := Lib.hid (keepBelow HB2.out hb3); have u3 := (HM.out _ HB3.out).2.2; have hp3 := (HM.out _ HB3.out).1) | (go_at_call 49; refine (HZO.out pb _ (keepBelow HBW.out HB3.out) hp3).mono ?_; rintro e w4 ⟨rfl, hb4⟩) | fail)
  go_ret
  exact ⟨ret_bool HE.out, keepBelow HBW.out (keepBelow HB3.out hb4)⟩
end Go.Proofs.YtlbglinpgjlbkaaGreatDoor
