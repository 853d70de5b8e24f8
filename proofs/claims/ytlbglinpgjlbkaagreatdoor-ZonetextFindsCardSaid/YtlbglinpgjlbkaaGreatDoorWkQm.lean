import Derived.Test.YtlbglinpgjlbkaaGreatDoorWkQl
import Derived.Test.YtlbglinpgjlbkaaGreatDoorWkQd
import Derived.Maps.OwnOps
import Derived.Maps.Views
/- Zone texts: slices.ContainsFunc for any closure, at links, zones. Printed by gen_zcon.py. -/
namespace Go.Proofs.YtlbglinpgjlbkaaGreatDoor
open Go.RowKit Wk

theorem any_false {α : Type} {L : List α} {f : α → Bool} {d : α} (h : ∀ i, i < L.length → f (L.getD i d) = false) : L.any f = false := by
 rw [List.any_eq_false]
 intro x hx
 obtain ⟨i, hi, rfl⟩ := List.mem_iff_getElem.1 hx
 have := h i hi
 rw [List.getD_eq_getElem?_getD, List.getElem?_eq_getElem hi] at this
 simpa using this

set_option maxRecDepth 100000 in
set_option maxHeartbeats 2000000 in
theorem idx_hasZone (pb : Nat) (f : ZkT → Bool) (v : Value) (L : List ZkT) (w : World) (h : RdZk w v L) (HF : Hid (∀ x, x ∈ L → ∀ W, Below w.heap.size w W → Calls Tryz.prog 141 #[(.agg (flZk x).toArray), .pointer (some ⟨pb, 0, none⟩)] W fun e w' => e = .returned (.bool (f x)) ∧ Below W.heap.size W w')) :
  Calls Tryz.prog 129 #[v, .func (.func 141) #[] #[.pointer (some ⟨pb, 0, none⟩)]] w fun e w' => (∃ r : Int, e = .returned (.int .i64 r) ∧ (decide (0 ≤ r) = L.any f)) ∧ Below w.heap.size w w' := by
 obtain ⟨a, c, rfl, hl, hc⟩ := h.row
 have HC := Lib.hid hc
 clear hc
 go_enter Tryz.func129, Tryz.ntmps129
 go_wp2_with fail
 go_loopw [8] (fun u wr => ∃ k : Nat, u = .int .i64 k ∧ k ≤ L.length ∧ Hid (∀ i, i < k → f (L.getD i zk0) = false) ∧ Below w.heap.size w wr) (fun u _ => L.length - (intOf u).toNat)
 case atStart => exact ⟨0, rfl, Nat.zero_le _, fun i hi => by omega, Below.refl _ _⟩
 case round =>
  obtain ⟨k, rfl, hk, HZ, hB⟩ := hrel
  by_cases hlt : k < L.length
  ·obtain ⟨b, o, rfl, hcc⟩ := HC.out k hlt
   obtain ⟨x, hx⟩ : ∃ x, L.getD k zk0 = x := ⟨_, rfl⟩
   have HX := HF.out x (by rw [← hx]; exact getD_mem hlt) wr hB
   have HXE := Lib.hid hx
   rw [hx] at hcc
   obtain ⟨g, hg⟩ : ∃ g, f x = g := ⟨_, rfl⟩
   rw [hg] at HX
   have HG : Hid (f (L.getD k zk0) = g) := Lib.hid (by rw [hx]; exact hg)
   clear hg hx HXE
   obtain ⟨⟨nm, li⟩, lv⟩ := x
   obtain ⟨NM, rfl⟩ := bs_of nm
   have HH : Hid (Calls Tryz.prog 141 #[.agg #[.string NM, lv], .pointer (some ⟨pb, 0, none⟩)] wr fun e w' => e = .returned (.bool g) ∧ Below wr.heap.size wr w') := Lib.hid HX
   clear HX
   have e0 : wr.cell? ⟨b, o + k * 2, none⟩ = some (.string NM) := keepCell hB (hcc 0 _ (by decide) rfl)
   have e1 : wr.cell? ⟨b, o + k * 2 + 1, none⟩ = some (lv) := keepCell hB (hcc 1 _ (by decide) rfl)
   clear hcc
   go_wp2_with fail
   refine HH.out.mono ?_
   rintro e w1 ⟨rfl, hb1⟩
   have hB1 := keepBelow hB hb1
   clear e0 e1 hb1
   cases g with
   | false =>
    go_wp2
    go_roundw
    case rel =>
     refine ⟨k + 1, by go_num, by omega, fun i hi => ?_, hB1⟩
     rcases Nat.lt_succ_iff_lt_or_eq.1 hi with h | rfl
     ·exact HZ.out i h
     ·exact HG.out
    case measure => simp [intOf]; omega
   | true =>
    have hA : L.any f = true := List.any_eq_true.2 ⟨_, getD_mem hlt, HG.out⟩
    go_wp2
    go_ret
    exact ⟨⟨k, rfl, by rw [hA]; simp⟩, hB1⟩
  ·have hA : L.any f = false := any_false (d := zk0) fun i hi => HZ.out i (by omega)
   go_wp2
   go_ret
   exact ⟨⟨-1, rfl, by rw [hA]; simp⟩, hB⟩
theorem con_hasZone (pb : Nat) (f : ZkT → Bool) (v : Value) (L : List ZkT) (w : World) (h : RdZk w v L) (HF : Hid (∀ x, x ∈ L → ∀ W, Below w.heap.size w W → Calls Tryz.prog 141 #[(.agg (flZk x).toArray), .pointer (some ⟨pb, 0, none⟩)] W fun e w' => e = .returned (.bool (f x)) ∧ Below W.heap.size W w')) :
  Calls Tryz.prog 49 #[v, .func (.func 141) #[] #[.pointer (some ⟨pb, 0, none⟩)]] w fun e w' => e = .returned (.bool (L.any f)) ∧ Below w.heap.size w w' := by
 have H := Lib.hid (idx_hasZone pb f v L w h HF)
 obtain ⟨a, c, rfl, _⟩ := h.row
 go_enter Tryz.func49, Tryz.ntmps49
 go_wp2_with fail
 refine H.out.mono ?_
 rintro e w1 ⟨⟨r, rfl, hr⟩, hb1⟩
 have HRR := Lib.hid hr
 clear hr
 go_wp2
 go_ret
 exact ⟨ret_bool HRR.out, hb1⟩

set_option maxRecDepth 100000 in
set_option maxHeartbeats 2000000 in
theorem idx_hasLink (pb : Nat) (f : LkT → Bool) (v : Value) (L : List LkT) (w : World) (h : RdLk w v L) (HF : Hid (∀ x, x ∈ L → ∀ W, Below w.heap.size w W → Calls Tryz.prog 145 #[(.agg (flLk x).toArray), .pointer (some ⟨pb, 0, none⟩)] W fun e w' => e = .returned (.bool (f x)) ∧ Below W.heap.size W w')) :
  Calls Tryz.prog 148 #[v, .func (.func 145) #[] #[.pointer (some ⟨pb, 0, none⟩)]] w fun e w' => (∃ r : Int, e = .returned (.int .i64 r) ∧ (decide (0 ≤ r) = L.any f)) ∧ Below w.heap.size w w' := by
 obtain ⟨a, c, rfl, hl, hc⟩ := h
 have HC := Lib.hid hc
 clear hc
 go_enter Tryz.func148, Tryz.ntmps148
 go_wp2_with fail
 go_loopw [8] (fun u wr => ∃ k : Nat, u = .int .i64 k ∧ k ≤ L.length ∧ Hid (∀ i, i < k → f (L.getD i lk0) = false) ∧ Below w.heap.size w wr) (fun u _ => L.length - (intOf u).toNat)
 case atStart => exact ⟨0, rfl, Nat.zero_le _, fun i hi => by omega, Below.refl _ _⟩
 case round =>
  obtain ⟨k, rfl, hk, HZ, hB⟩ := hrel
  by_cases hlt : k < L.length
  ·obtain ⟨b, o, rfl, hcc⟩ := HC.out k hlt
   obtain ⟨x, hx⟩ : ∃ x, L.getD k lk0 = x := ⟨_, rfl⟩
   have HX := HF.out x (by rw [← hx]; exact getD_mem hlt) wr hB
   have HXE := Lib.hid hx
   rw [hx] at hcc
   obtain ⟨g, hg⟩ : ∃ g, f x = g := ⟨_, rfl⟩
   rw [hg] at HX
   have HG : Hid (f (L.getD k lk0) = g) := Lib.hid (by rw [hx]; exact hg)
   clear hg hx HXE
   obtain ⟨nm, zo⟩ := x
   obtain ⟨NM, rfl⟩ := bs_of nm
   obtain ⟨ZO, rfl⟩ := bs_of zo
   have HH : Hid (Calls Tryz.prog 145 #[.agg #[.string NM, .string ZO], .pointer (some ⟨pb, 0, none⟩)] wr fun e w' => e = .returned (.bool g) ∧ Below wr.heap.size wr w') := Lib.hid HX
   clear HX
   have e0 : wr.cell? ⟨b, o + k * 2, none⟩ = some (.string NM) := keepCell hB (hcc 0 _ (by decide) rfl)
   have e1 : wr.cell? ⟨b, o + k * 2 + 1, none⟩ = some (.string ZO) := keepCell hB (hcc 1 _ (by decide) rfl)
   clear hcc
   go_wp2_with fail
   refine HH.out.mono ?_
   rintro e w1 ⟨rfl, hb1⟩
   have hB1 := keepBelow hB hb1
   clear e0 e1 hb1
   cases g with
   | false =>
    go_wp2
    go_roundw
    case rel =>
     refine ⟨k + 1, by go_num, by omega, fun i hi => ?_, hB1⟩
     rcases Nat.lt_succ_iff_lt_or_eq.1 hi with h | rfl
     ·exact HZ.out i h
     ·exact HG.out
    case measure => simp [intOf]; omega
   | true =>
    have hA : L.any f = true := List.any_eq_true.2 ⟨_, getD_mem hlt, HG.out⟩
    go_wp2
    go_ret
    exact ⟨⟨k, rfl, by rw [hA]; simp⟩, hB1⟩
  ·have hA : L.any f = false := any_false (d := lk0) fun i hi => HZ.out i (by omega)
   go_wp2
   go_ret
   exact ⟨⟨-1, rfl, by rw [hA]; simp⟩, hB⟩
theorem con_hasLink (pb : Nat) (f : LkT → Bool) (v : Value) (L : List LkT) (w : World) (h : RdLk w v L) (HF : Hid (∀ x, x ∈ L → ∀ W, Below w.heap.size w W → Calls Tryz.prog 145 #[(.agg (flLk x).toArray), .pointer (some ⟨pb, 0, none⟩)] W fun e w' => e = .returned (.bool (f x)) ∧ Below W.heap.size W w')) :
  Calls Tryz.prog 72 #[v, .func (.func 145) #[] #[.pointer (some ⟨pb, 0, none⟩)]] w fun e w' => e = .returned (.bool (L.any f)) ∧ Below w.heap.size w w' := by
 have H := Lib.hid (idx_hasLink pb f v L w h HF)
 obtain ⟨a, c, rfl, _⟩ := h
 go_enter Tryz.func72, Tryz.ntmps72
 go_wp2_with fail
 refine H.out.mono ?_
 rintro e w1 ⟨⟨r, rfl, hr⟩, hb1⟩
 have HRR := Lib.hid hr
 clear hr
 go_wp2
 go_ret
 exact ⟨ret_bool HRR.out, hb1⟩
end Go.Proofs.YtlbglinpgjlbkaaGreatDoor
namespace Go.Proofs.YtlbglinpgjlbkaaGreatDoor
open Go.RowKit Wk

theorem RdG.take {α : Type} {sz : Nat} {fl : α → List Value} {d : α} {w : World} {a : Option Addr} {c : Nat} {L : List α} {n : Nat} (h : RdG sz fl d w (.slice a n c) L) {i : Nat} (hi : i ≤ L.length) {c' : Nat} : RdG sz fl d w (.slice a i c') (L.take i) := by
 obtain ⟨a', c1, e, hl, hc⟩ := h
 cases e
 refine ⟨a, c', by rw [List.length_take, Nat.min_eq_left hi], by rw [List.length_take]; omega, fun k hk => ?_⟩
 rw [List.length_take] at hk
 obtain ⟨b, o, rfl, c2⟩ := hc k (by omega)
 refine ⟨b, o, rfl, fun j u hj hu => c2 j u hj ?_⟩
 rw [List.getD_eq_getElem?_getD, List.getElem?_take_of_lt (by omega)] at hu
 rw [List.getD_eq_getElem?_getD]
 exact hu
theorem RdZk.take {w : World} {a : Option Addr} {c n : Nat} {L : List ZkT} (h : RdZk w (.slice a n c) L) {i : Nat} (hi : i ≤ L.length) {c' : Nat} : RdZk w (.slice a i c') (L.take i) := ⟨h.row.take hi, fun k hk => by
 rw [List.length_take] at hk
 have e : (L.take i).getD k zk0 = L.getD k zk0 := by rw [List.getD_eq_getElem?_getD, List.getD_eq_getElem?_getD, List.getElem?_take_of_lt (by omega)]
 rw [e]
 exact h.li k (by omega)⟩
theorem bsO_beq (a b : ByteArray) : (a.toList == b.toList) = (bsO a == bsO b) := by rw [Lib.toList_data, Lib.toList_data]
set_option maxRecDepth 100000 in
set_option maxHeartbeats 2000000 in
theorem hz1_any (NM N : ByteArray) (lv : Value) (pb : Nat) (w : World) (hn : w.cell? ⟨pb, 0, none⟩ = some (.string N)) :
  Calls Tryz.prog 141 #[.agg #[.string NM, lv], .pointer (some ⟨pb, 0, none⟩)] w fun e w' => e = .returned (.bool (bsO NM == bsO N)) ∧ Below w.heap.size w w' := by
 obtain ⟨bz, hbz⟩ : ∃ b, w.heap.size = b := ⟨_, rfl⟩
 obtain ⟨X, hX⟩ : ∃ X, w.alloc (.cells #[.string NM, lv] 45) = X := ⟨_, rfl⟩
 have hC : Cls X bz [.string NM, lv] := by rw [← hX, ← hbz]; exact Cls.new w _ _
 have HBX : Hid (Below w.heap.size w X) := Lib.hid (by rw [← hX]; exact below_box)
 have hb : Below X.heap.size X X := Below.refl _ _
 have c0 := Cls.at hC hb (j := 0) (u := .string NM) rfl
 have c1 := keepCell HBX.out hn
 clear hb hC
 go_enter Tryz.func141, Tryz.ntmps141
 go_upto_region 1 with fail
 try rw [hX]
 try rw [hbz]
 clear hX hbz hn
 go_wp2_with fail
 go_ret
 exact ⟨ret_bool (bsO_beq _ _), HBX.out⟩
set_option maxRecDepth 100000 in
set_option maxHeartbeats 2000000 in
theorem hasZone_any (v : Value) (L : List ZkT) (N : ByteArray) (w : World) (h : RdZk w v L) :
  Calls Tryz.prog 64 #[v, .string N] w fun e w' => e = .returned (.bool (L.any fun z => z.1.nm == bsO N)) ∧ Below w.heap.size w w' := by
 obtain ⟨a, c, ev⟩ := h.row.form
 obtain ⟨bz, hbz⟩ : ∃ b, w.heap.size = b := ⟨_, rfl⟩
 obtain ⟨X, hX⟩ : ∃ X, w.alloc (.cells #[.string N] 9) = X := ⟨_, rfl⟩
 have hC : Cls X bz [.string N] := by rw [← hX, ← hbz]; exact Cls.new w _ _
 have HBX : Hid (Below w.heap.size w X) := Lib.hid (by rw [← hX]; exact below_box)
 have HH := Lib.hid (con_hasZone bz (fun z => z.1.nm == bsO N) v L X (h.below HBX.out) (Lib.hid fun x hx W hW => by
  obtain ⟨⟨nm, li⟩, lv⟩ := x
  obtain ⟨NM, rfl⟩ := bs_of nm
  exact hz1_any NM N lv bz W (Cls.at hC hW (j := 0) rfl)))
 clear hC h
 subst ev
 go_enter Tryz.func64, Tryz.ntmps64
 go_upto_region 1 with fail
 try rw [hX]
 try rw [hbz]
 clear hX hbz
 go_wp2_with fail
 refine HH.out.mono ?_
 rintro e w' ⟨rfl, hb⟩
 go_wp2
 go_ret
 exact ⟨rfl, keepBelow HBX.out hb⟩
set_option maxRecDepth 100000 in
set_option maxHeartbeats 2000000 in
theorem hl1_any (NM ZO N : ByteArray) (pb : Nat) (w : World) (hn : w.cell? ⟨pb, 0, none⟩ = some (.string N)) :
  Calls Tryz.prog 145 #[.agg #[.string NM, .string ZO], .pointer (some ⟨pb, 0, none⟩)] w fun e w' => e = .returned (.bool (bsO NM == bsO N)) ∧ Below w.heap.size w w' := by
 obtain ⟨bz, hbz⟩ : ∃ b, w.heap.size = b := ⟨_, rfl⟩
 obtain ⟨X, hX⟩ : ∃ X, w.alloc (.cells #[.string NM, .string ZO] 48) = X := ⟨_, rfl⟩
 have hC : Cls X bz [.string NM, .string ZO] := by rw [← hX, ← hbz]; exact Cls.new w _ _
 have HBX : Hid (Below w.heap.size w X) := Lib.hid (by rw [← hX]; exact below_box)
 have hb : Below X.heap.size X X := Below.refl _ _
 have c0 := Cls.at hC hb (j := 0) (u := .string NM) rfl
 have c1 := keepCell HBX.out hn
 clear hb hC
 go_enter Tryz.func145, Tryz.ntmps145
 go_upto_region 1 with fail
 try rw [hX]
 try rw [hbz]
 clear hX hbz hn
 go_wp2_with fail
 go_ret
 exact ⟨ret_bool (bsO_beq _ _), HBX.out⟩
set_option maxRecDepth 100000 in
set_option maxHeartbeats 2000000 in
theorem hasLink_any (v : Value) (L : List LkT) (N : ByteArray) (w : World) (h : RdLk w v L) :
  Calls Tryz.prog 66 #[v, .string N] w fun e w' => e = .returned (.bool (L.any fun z => z.nm == bsO N)) ∧ Below w.heap.size w w' := by
 obtain ⟨a, c, ev⟩ := h.form
 obtain ⟨bz, hbz⟩ : ∃ b, w.heap.size = b := ⟨_, rfl⟩
 obtain ⟨X, hX⟩ : ∃ X, w.alloc (.cells #[.string N] 9) = X := ⟨_, rfl⟩
 have hC : Cls X bz [.string N] := by rw [← hX, ← hbz]; exact Cls.new w _ _
 have HBX : Hid (Below w.heap.size w X) := Lib.hid (by rw [← hX]; exact below_box)
 have HH := Lib.hid (con_hasLink bz (fun z => z.nm == bsO N) v L X (h.below HBX.out) (Lib.hid fun x hx W hW => by
  obtain ⟨nm, zo⟩ := x
  obtain ⟨NM, rfl⟩ := bs_of nm
  obtain ⟨ZO, rfl⟩ := bs_of zo
  exact hl1_any NM ZO N bz W (Cls.at hC hW (j := 0) rfl)))
 clear hC h
 subst ev
 go_enter Tryz.func66, Tryz.ntmps66
 go_upto_region 1 with fail
 try rw [hX]
 try rw [hbz]
 clear hX hbz
 go_wp2_with fail
 refine HH.out.mono ?_
 rintro e w' ⟨rfl, hb⟩
 go_wp2
 go_ret
 exact ⟨rfl, keepBelow HBX.out hb⟩
theorem doneB_last {nm : Bs} {li : List LiT} (h : 0 < li.length) : doneB ⟨nm, li⟩ = (li.getD (li.length - 1) li0).la := by
 have e : li.getLast? = some (li.getD (li.length - 1) li0) := by
  rw [List.getLast?_eq_getElem?, List.getD_eq_getElem?_getD, List.getElem?_eq_getElem (by omega)]; rfl
 unfold doneB
 rw [show (⟨nm, li⟩ : ZoT).li = li from rfl, e]
set_option maxRecDepth 100000 in
set_option maxHeartbeats 2000000 in
theorem done_any (nm : Bs) (lv : Value) (li : List LiT) (w : World) (hr : RdLi w lv li) :
  Calls Tryz.prog 51 #[.agg #[.string ⟨nm.toArray⟩, lv]] w fun e w' => e = .returned (.bool (doneB ⟨nm, li⟩)) ∧ Below w.heap.size w w' := by
 obtain ⟨al, cl, rfl, hl, hc⟩ := hr
 obtain ⟨NM, rfl⟩ := bs_of nm
 obtain ⟨bz, hbz⟩ : ∃ b, w.heap.size = b := ⟨_, rfl⟩
 obtain ⟨X, hX⟩ : ∃ X, w.alloc (.cells #[.string NM, .slice al li.length cl] 45) = X := ⟨_, rfl⟩
 have hC : Cls X bz [.string NM, .slice al li.length cl] := by rw [← hX, ← hbz]; exact Cls.new w _ _
 have HBX : Hid (Below w.heap.size w X) := Lib.hid (by rw [← hX]; exact below_box)
 have hb : Below X.heap.size X X := Below.refl _ _
 have c1 := Cls.at hC hb (j := 1) (u := .slice al li.length cl) rfl
 clear hb hC
 show Calls _ _ #[.agg #[.string NM, .slice al li.length cl]] w _
 by_cases h0 : li.length = 0
 ·have hd : li = [] := List.eq_nil_of_length_eq_zero h0
  clear hc
  subst hd
  change X.cell? ⟨bz, 1, none⟩ = some (.slice al 0 cl) at c1
  change w.alloc (.cells #[.string NM, .slice al 0 cl] 45) = X at hX
  show Calls _ _ #[.agg #[.string NM, .slice al 0 cl]] w _
  go_enter Tryz.func51, Tryz.ntmps51
  go_upto_region 1 with fail
  try rw [hX]
  try rw [hbz]
  clear hX hbz
  go_wp2_with fail
  go_ret
  exact ⟨rfl, HBX.out⟩
 ·obtain ⟨b, o, rfl, hcc⟩ := hc (li.length - 1) (by omega)
  have c2 := keepCell HBX.out (hcc 4 (.bool (li.getD (li.length - 1) li0).la) (by decide) rfl)
  have hd := doneB_last (nm := bsO NM) (li := li) (by omega)
  obtain ⟨g, hg⟩ : ∃ g, (li.getD (li.length - 1) li0).la = g := ⟨_, rfl⟩
  rw [hg] at c2 hd
  obtain ⟨m, hm⟩ : ∃ m, li.length = m + 1 := ⟨li.length - 1, by omega⟩
  rw [hm] at c1 c2 hX
  rw [show m + 1 - 1 = m by omega] at c2
  have HD := Lib.hid hd
  have hm1 : (m : Int) ≤ 1152921504606846975 := by omega
  clear hg hd hc hcc h0
  rw [hm]
  clear hm hl
  go_enter Tryz.func51, Tryz.ntmps51
  go_upto_region 1 with fail
  try rw [hX]
  try rw [hbz]
  clear hX hbz
  have hi : (((m + 1 : Nat) : Int) - 1) = (m : Int) := by omega
  have hgt : decide ((0 : Int) < ((m + 1 : Nat) : Int)) = true := by simp
  go_wp2_with fail
  go_ret
  exact ⟨ret_bool HD.out.symm, HBX.out⟩
end Go.Proofs.YtlbglinpgjlbkaaGreatDoor
namespace Go.Proofs.YtlbglinpgjlbkaaGreatDoor
open Go Go.RowKit Go.Maps

theorem elem_bool_inv {H : Type} {P : Program} {e : TypeId} (he : P.underlying e = some .bool) {v : Value} {z : DataW H × List MemPlace} (h : plainElem P e v = some z) : ∃ x, v = .bool x ∧ z = (.lit (.bool x), []) := by
 unfold plainElem at h
 rw [he] at h
 cases v <;> simp at h
 exact ⟨_, rfl, h.symm⟩
theorem owns_lookup_bool {H : Type} {P : Program} {w : World} {k : TypeId} {b n : Nat} {D : DataW H} {t e : TypeId} (h : w.ownsMap P k (plainElem P e) b n D) (K : Keyed P k) (ht : P.underlying t = some (.map k e)) (he : P.underlying e = some .bool) (hz : (zeroValue e).run P w = .ok (.bool false) w)
  {key : Value} {kl : Lit} (hkey : keyOf P k key = some kl) : ∃ c, (Instr.lookup t (.map (some b)) key false).run P w = .ok (.bool c) w ∧ D.atKey kl (.lit (.bool false)) = .lit (.bool c) := by
 obtain ⟨v, ps, hrun, hv⟩ := h.lookup K ht hz (plainElem_bool he false) hkey
 obtain ⟨c, rfl, hc⟩ := elem_bool_inv he hv
 simp only [Prod.mk.injEq] at hc
 exact ⟨c, hrun, hc.1⟩
def KeysB {H : Type} (D : DataW H) (L : List Lit) : Prop := IsMap D ∧ ∀ k, WideAt.IsKeyLit k → ∃ b, D.atKey k (.lit (.bool false)) = .lit (.bool b) ∧ (b = true ↔ k ∈ L)
theorem KeysB.nil {H : Type} : KeysB (H := H) (.map []) [] := ⟨isMap_empty, fun k _ => ⟨false, rfl, by simp⟩⟩
theorem KeysB.put {H : Type} {D : DataW H} {L : List Lit} (h : KeysB D L) {k : Lit} (hk : WideAt.IsKeyLit k) : KeysB (D.put k (.lit (.bool true))) (k :: L) := by
 refine ⟨h.1.put _ _, fun k' hk' => ?_⟩
 by_cases e : k' = k
 ·subst e
  exact ⟨true, atKey_put_same h.1 hk _ _, by simp⟩
 ·obtain ⟨b, h1, h2⟩ := h.2 k' hk'
  exact ⟨b, by rw [atKey_put_other e]; exact h1, by rw [h2]; simp [e]⟩
end Go.Proofs.YtlbglinpgjlbkaaGreatDoor
