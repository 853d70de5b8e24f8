import Derived.Test.YtlbglinpgjlbkaaGreatDoorWkC3
import Derived.Test.YtlbglinpgjlbkaaGreatDoorWkQi
/- Zone texts: the reference's zoned, linked, Rules. Printed by gen_c4.py. -/
namespace Go.Proofs.YtlbglinpgjlbkaaGreatDoor
open Go.RowKit Wk

def fIx {α : Type} (p : α → Bool) (l : List α) : Int := match l.findIdx? p with
 | some i => (i : Int)
 | none => -1
theorem fIx_none {α : Type} {p : α → Bool} {l : List α} {d : α} (h : ∀ j, j < l.length → p (l.getD j d) = false) : fIx p l = -1 := by
 unfold fIx
 rw [List.findIdx?_eq_none_iff.2 fun x hx => by
  obtain ⟨i, hi, rfl⟩ := List.mem_iff_getElem.1 hx
  have := h i hi
  rw [List.getD_eq_getElem?_getD, List.getElem?_eq_getElem hi] at this
  exact this]
theorem fIx_at {α : Type} {p : α → Bool} {l : List α} {d : α} {i : Nat} (hi : i < l.length) (h : ∀ j, j < i → p (l.getD j d) = false) (hp : p (l.getD i d) = true) : fIx p l = i := by
 unfold fIx
 rw [List.findIdx?_eq_some_iff_getElem.2 ⟨hi, by rw [List.getD_eq_getElem?_getD, List.getElem?_eq_getElem hi] at hp; exact hp, fun j hj => by
  have := h j hj
  rw [List.getD_eq_getElem?_getD, List.getElem?_eq_getElem (by omega)] at this
  simpa using this⟩]
theorem fIx_any {α : Type} (p : α → Bool) (l : List α) : decide (0 ≤ fIx p l) = l.any p := by
 unfold fIx
 cases h : l.findIdx? p with
 | none =>
  rw [List.findIdx?_eq_none_iff] at h
  rw [List.any_eq_false.2 fun x hx => by rw [h x hx]; simp]
  rfl
 | some i =>
  obtain ⟨hi, hp, _⟩ := List.findIdx?_eq_some_iff_getElem.1 h
  rw [List.any_eq_true.2 ⟨_, List.getElem_mem hi, hp⟩]
  simp
theorem getD_take {α : Type} {l : List α} {n j : Nat} (d : α) (h : j < n) : (l.take n).getD j d = l.getD j d := by
 rw [List.getD_eq_getElem?_getD, List.getD_eq_getElem?_getD, List.getElem?_take_of_lt h]
theorem eqB_iff (a b : ByteArray) : (a.toList == b.toList) = (bsO a == bsO b) := bsO_beq a b
theorem Tryz.infoRu : (Tryz.prog.info? 41).map (fun i => (i.zero, i.size, i.bytes)) = some (some (.agg #[.string ⟨#[]⟩, .int .i64 0, .int .i64 0, .int .i64 0, .int .i64 0, .int .i64 0, .int .i64 0, .int .i64 0, .int .i64 0, .int .i64 0, .string ⟨#[]⟩]), 11, 104) := by kernel_rfl
theorem filter_go {α : Type} {p : α → Bool} {l : List α} {d : α} {i : Nat} (h : i < l.length) : (l.take (i + 1)).filter p = (l.take i).filter p ++ (if p (l.getD i d) = true then [l.getD i d] else []) := by
 rw [List.take_add_one, List.getElem?_eq_getElem h, List.getD_eq_getElem?_getD, List.getElem?_eq_getElem h, List.filter_append]
 congr 1
 show List.filter p [l[i]] = if p l[i] = true then [l[i]] else []
 cases hp : p l[i] <;> simp [hp]

set_option maxRecDepth 100000 in
set_option maxHeartbeats 4000000 in
theorem zoned19_any (rv zv kv : Value) (Z : List ZkT) (n : Nat) (N : ByteArray) (w : World) (h : RdZk w zv Z) (hn : n ≤ Z.length) :
  Calls Tryz.prog 79 #[.agg #[rv, zv, kv], .int .i64 n, .string N] w fun e w' => e = .returned (.int .i64 (fIx (fun z => z.1.nm == bsO N) (Z.take n))) ∧ Below w.heap.size w w' := by
 have HZ0 := Lib.hid h
 obtain ⟨a, c, rfl⟩ := h.row.form
 have hl : Z.length ≤ 1152921504606846976 := h.row.choose_spec.choose_spec.2.1
 clear h
 obtain ⟨r, hr⟩ : ∃ r, fIx (fun z => z.1.nm == bsO N) (Z.take n) = r := ⟨_, rfl⟩
 rw [hr]
 have HR := Lib.hid hr
 clear hr
 obtain ⟨bz, hbz⟩ : ∃ b, w.heap.size = b := ⟨_, rfl⟩
 obtain ⟨X, hX⟩ : ∃ X, w.alloc (.cells #[rv, .slice a Z.length c, kv] 27) = X := ⟨_, rfl⟩
 have HC : Hid (Cls X bz [rv, .slice a Z.length c, kv]) := Lib.hid (by rw [← hX, ← hbz]; exact Cls.new w _ _)
 have HBX : Hid (Below w.heap.size w X) := Lib.hid (by rw [← hX]; exact below_box)
 have HRX := Lib.hid (HZ0.out.below HBX.out)
 show Calls _ _ #[.agg #[rv, .slice a Z.length c, kv], .int .i64 n, .string N] w _
 go_enter Tryz.func79, Tryz.ntmps79
 go_upto_region 1 with fail
 try rw [hX]
 try rw [hbz]
 clear hX hbz
 go_wp2_with fail
 go_loopw [7] (fun u wr => ∃ i : Nat, u = .int .i64 i ∧ i ≤ n ∧ Hid (∀ j, j < i → (fun z => z.1.nm == bsO N) (Z.getD j zk0) = false) ∧ wr = X) (fun u _ => n - (intOf u).toNat)
 case atStart => exact ⟨0, rfl, Nat.zero_le _, fun j h => absurd h (by omega), rfl⟩
 case round =>
  obtain ⟨i, rfl, hi, HZ, hw⟩ := hrel
  rw [hw]
  clear hw
  have hib : (i : Int) ≤ 1152921504606846976 := by omega
  by_cases hlt : i < n
  ·obtain ⟨al', cl', ea, _, hc⟩ := HRX.out.row
   cases ea
   obtain ⟨b, o, rfl, hcc⟩ := hc i (by omega)
   obtain ⟨x, hx⟩ : ∃ x, Z.getD i zk0 = x := ⟨_, rfl⟩
   have HXE := Lib.hid hx
   rw [hx] at hcc
   clear hc hx
   have hb : Below X.heap.size X X := Below.refl _ _
   have c1 := Cls.at HC.out hb (j := 1) (u := .slice (some ⟨b, o, none⟩) Z.length c) rfl
   obtain ⟨⟨nm, li⟩, lv⟩ := x
   obtain ⟨NM, rfl⟩ := bs_of nm
   have e0 : X.cell? ⟨b, o + i * 2, none⟩ = some (.string NM) := hcc 0 _ (by decide) rfl
   clear hcc hb
   have hilt : (i : Int) < (Z.length : Int) := by omega
   cases hq : (bsO NM == bsO N) with
   | true =>
    have hg : (NM.toList == N.toList) = true := by rw [eqB_iff]; exact hq
    have HRE : Hid ((i : Int) = r) := Lib.hid (by
     rw [← HR.out]
     exact (fIx_at (d := zk0) (by rw [List.length_take]; omega) (fun j hj => by rw [getD_take zk0 (by omega)]; exact HZ.out j hj) (by rw [getD_take zk0 hlt, HXE.out]; exact hq)).symm)
    clear hq
    go_wp2_with fail
    go_ret
    exact ⟨congrArg (fun x => Ending.returned (.int .i64 x)) HRE.out, HBX.out⟩
   | false =>
    have hg : (NM.toList == N.toList) = false := by rw [eqB_iff]; exact hq
    have HN : Hid (∀ j, j < i + 1 → (fun z => z.1.nm == bsO N) (Z.getD j zk0) = false) := Lib.hid fun j hj => by
     rcases Nat.lt_or_ge j i with g | g
     ·exact HZ.out j g
     ·obtain rfl : j = i := by omega
      rw [HXE.out]
      exact hq
    clear hq
    go_wp2_with fail
    go_roundw
    case rel => exact ⟨i + 1, by go_num, by omega, HN.out, by first | rfl | trivial⟩
    case measure => simp [intOf]; omega
  ·have HRE : Hid ((-1 : Int) = r) := Lib.hid (by
    rw [← HR.out]
    exact (fIx_none (d := zk0) fun j hj => by rw [List.length_take] at hj; rw [getD_take zk0 (by omega)]; exact HZ.out j (by omega)).symm)
   go_wp2_with fail
   go_ret
   exact ⟨congrArg (fun x => Ending.returned (.int .i64 x)) HRE.out, HBX.out⟩

set_option maxRecDepth 100000 in
set_option maxHeartbeats 4000000 in
theorem linked19_any (rv zv kv : Value) (lk : List LkT) (n : Nat) (N : ByteArray) (w : World) (h : RdLk w zv lk) (hn : n ≤ lk.length) :
  Calls Tryz.prog 78 #[.agg #[rv, kv, zv], .int .i64 n, .string N] w fun e w' => e = .returned (.int .i64 (fIx (fun z => z.nm == bsO N) (lk.take n))) ∧ Below w.heap.size w w' := by
 have HZ0 := Lib.hid h
 obtain ⟨a, c, rfl⟩ := h.form
 have hl : lk.length ≤ 1152921504606846976 := h.choose_spec.choose_spec.2.1
 clear h
 obtain ⟨r, hr⟩ : ∃ r, fIx (fun z => z.nm == bsO N) (lk.take n) = r := ⟨_, rfl⟩
 rw [hr]
 have HR := Lib.hid hr
 clear hr
 obtain ⟨bz, hbz⟩ : ∃ b, w.heap.size = b := ⟨_, rfl⟩
 obtain ⟨X, hX⟩ : ∃ X, w.alloc (.cells #[rv, kv, .slice a lk.length c] 27) = X := ⟨_, rfl⟩
 have HC : Hid (Cls X bz [rv, kv, .slice a lk.length c]) := Lib.hid (by rw [← hX, ← hbz]; exact Cls.new w _ _)
 have HBX : Hid (Below w.heap.size w X) := Lib.hid (by rw [← hX]; exact below_box)
 have HRX := Lib.hid (HZ0.out.below HBX.out)
 show Calls _ _ #[.agg #[rv, kv, .slice a lk.length c], .int .i64 n, .string N] w _
 go_enter Tryz.func78, Tryz.ntmps78
 go_upto_region 1 with fail
 try rw [hX]
 try rw [hbz]
 clear hX hbz
 go_wp2_with fail
 go_loopw [7] (fun u wr => ∃ i : Nat, u = .int .i64 i ∧ i ≤ n ∧ Hid (∀ j, j < i → (fun z => z.nm == bsO N) (lk.getD j lk0) = false) ∧ wr = X) (fun u _ => n - (intOf u).toNat)
 case atStart => exact ⟨0, rfl, Nat.zero_le _, fun j h => absurd h (by omega), rfl⟩
 case round =>
  obtain ⟨i, rfl, hi, HZ, hw⟩ := hrel
  rw [hw]
  clear hw
  have hib : (i : Int) ≤ 1152921504606846976 := by omega
  by_cases hlt : i < n
  ·obtain ⟨al', cl', ea, _, hc⟩ := HRX.out
   cases ea
   obtain ⟨b, o, rfl, hcc⟩ := hc i (by omega)
   obtain ⟨x, hx⟩ : ∃ x, lk.getD i lk0 = x := ⟨_, rfl⟩
   have HXE := Lib.hid hx
   rw [hx] at hcc
   clear hc hx
   have hb : Below X.heap.size X X := Below.refl _ _
   have c1 := Cls.at HC.out hb (j := 2) (u := .slice (some ⟨b, o, none⟩) lk.length c) rfl
   obtain ⟨nm, zo⟩ := x
   obtain ⟨NM, rfl⟩ := bs_of nm
   obtain ⟨ZO, rfl⟩ := bs_of zo
   have e0 : X.cell? ⟨b, o + i * 2, none⟩ = some (.string NM) := hcc 0 _ (by decide) rfl
   clear hcc hb
   have hilt : (i : Int) < (lk.length : Int) := by omega
   cases hq : (bsO NM == bsO N) with
   | true =>
    have hg : (NM.toList == N.toList) = true := by rw [eqB_iff]; exact hq
    have HRE : Hid ((i : Int) = r) := Lib.hid (by
     rw [← HR.out]
     exact (fIx_at (d := lk0) (by rw [List.length_take]; omega) (fun j hj => by rw [getD_take lk0 (by omega)]; exact HZ.out j hj) (by rw [getD_take lk0 hlt, HXE.out]; exact hq)).symm)
    clear hq
    go_wp2_with fail
    go_ret
    exact ⟨congrArg (fun x => Ending.returned (.int .i64 x)) HRE.out, HBX.out⟩
   | false =>
    have hg : (NM.toList == N.toList) = false := by rw [eqB_iff]; exact hq
    have HN : Hid (∀ j, j < i + 1 → (fun z => z.nm == bsO N) (lk.getD j lk0) = false) := Lib.hid fun j hj => by
     rcases Nat.lt_or_ge j i with g | g
     ·exact HZ.out j g
     ·obtain rfl : j = i := by omega
      rw [HXE.out]
      exact hq
    clear hq
    go_wp2_with fail
    go_roundw
    case rel => exact ⟨i + 1, by go_num, by omega, HN.out, by first | rfl | trivial⟩
    case measure => simp [intOf]; omega
  ·have HRE : Hid ((-1 : Int) = r) := Lib.hid (by
    rw [← HR.out]
    exact (fIx_none (d := lk0) fun j hj => by rw [List.length_take] at hj; rw [getD_take lk0 (by omega)]; exact HZ.out j (by omega)).symm)
   go_wp2_with fail
   go_ret
   exact ⟨congrArg (fun x => Ending.returned (.int .i64 x)) HRE.out, HBX.out⟩

set_option maxRecDepth 100000 in
set_option maxHeartbeats 8000000 in
theorem rules19_any (rv zv kv : Value) (ru : List RuT) (N : ByteArray) (w : World) (h : RdRu w rv ru) (hl : ru.length ≤ 1000) :
  Calls Tryz.prog 27 #[.agg #[rv, zv, kv], .string N] w fun e w' => (∃ v, e = .returned v ∧ OwnG 41 11 flRu w' w.heap.size v (ru.filter fun r => r.nm == bsO N)) ∧ Below w.heap.size w w' := by
 have HZ0 := Lib.hid h
 obtain ⟨a, c, rfl⟩ := h.form
 clear h
 obtain ⟨L, hL⟩ : ∃ L, (ru.filter fun r => r.nm == bsO N) = L := ⟨_, rfl⟩
 rw [hL]
 have HR := Lib.hid hL
 clear hL
 obtain ⟨bz, hbz⟩ : ∃ b, w.heap.size = b := ⟨_, rfl⟩
 have HWS := Lib.hid hbz
 obtain ⟨X, hX⟩ : ∃ X, w.alloc (.cells #[.slice a ru.length c, zv, kv] 27) = X := ⟨_, rfl⟩
 have HC : Hid (Cls X bz [.slice a ru.length c, zv, kv]) := Lib.hid (by rw [← hX, ← hbz]; exact Cls.new w _ _)
 have HBX : Hid (Below w.heap.size w X) := Lib.hid (by rw [← hX]; exact below_box)
 have HRX := Lib.hid (HZ0.out.below HBX.out)
 show Calls _ _ #[.agg #[.slice a ru.length c, zv, kv], .string N] w _
 go_enter Tryz.func27, Tryz.ntmps27
 go_upto_region 1 with fail
 try rw [hX]
 try rw [hbz]
 clear hX hbz
 go_wp2_with fail
 go_loopw [5, 6] (fun u5 u wr => ∃ i : Nat, u = .int .i64 i ∧ i ≤ ru.length ∧ OwnG 41 11 flRu wr X.heap.size u5 ((ru.take i).filter fun r => r.nm == bsO N) ∧ Hid (Below X.heap.size X wr)) (fun _ u _ => ru.length - (intOf u).toNat)
 case atStart => exact ⟨0, rfl, Nat.zero_le _, OwnG.nil _ _, Below.refl _ _⟩
 case round =>
  obtain ⟨i, rfl, hi, hO, HB⟩ := hrel
  have hib : (i : Int) ≤ 1000 := by omega
  have HOW := Lib.hid hO
  obtain ⟨a5, c5, rfl⟩ := hO.form
  clear hO
  obtain ⟨al', cl', ea, _, hc⟩ := HRX.out.below HB.out
  cases ea
  have c1 := Cls.at HC.out HB.out (j := 0) (u := .slice a ru.length c) rfl
  by_cases hlt : i < ru.length
  ·obtain ⟨b, o, rfl, hcc⟩ := hc i hlt
   obtain ⟨x, hx⟩ : ∃ x, ru.getD i ru0 = x := ⟨_, rfl⟩
   have HFG := Lib.hid (filter_go (p := fun r : RuT => r.nm == bsO N) (d := ru0) hlt)
   rw [hx] at hcc HFG
   clear hc hx
   obtain ⟨nm, fr, to_, mo, ⟨k, v, d⟩, at_, ck, sv, le⟩ := x
   obtain ⟨NM, rfl⟩ := bs_of nm
   obtain ⟨LE, rfl⟩ := bs_of le
   have e0 : wr.cell? ⟨b, o + i * 11, none⟩ = some (.string NM) := hcc 0 _ (by decide) rfl
   have e1 : wr.cell? ⟨b, o + i * 11 + 1, none⟩ = some (.int .i64 fr) := hcc 1 _ (by decide) rfl
   have e2 : wr.cell? ⟨b, o + i * 11 + 2, none⟩ = some (.int .i64 to_) := hcc 2 _ (by decide) rfl
   have e3 : wr.cell? ⟨b, o + i * 11 + 3, none⟩ = some (.int .i64 mo) := hcc 3 _ (by decide) rfl
   have e4 : wr.cell? ⟨b, o + i * 11 + 4, none⟩ = some (.int .i64 k) := hcc 4 _ (by decide) rfl
   have e5 : wr.cell? ⟨b, o + i * 11 + 5, none⟩ = some (.int .i64 v) := hcc 5 _ (by decide) rfl
   have e6 : wr.cell? ⟨b, o + i * 11 + 6, none⟩ = some (.int .i64 d) := hcc 6 _ (by decide) rfl
   have e7 : wr.cell? ⟨b, o + i * 11 + 7, none⟩ = some (.int .i64 at_) := hcc 7 _ (by decide) rfl
   have e8 : wr.cell? ⟨b, o + i * 11 + 8, none⟩ = some (.int .i64 ck) := hcc 8 _ (by decide) rfl
   have e9 : wr.cell? ⟨b, o + i * 11 + 9, none⟩ = some (.int .i64 sv) := hcc 9 _ (by decide) rfl
   have e10 : wr.cell? ⟨b, o + i * 11 + 10, none⟩ = some (.string LE) := hcc 10 _ (by decide) rfl
   clear hcc
   cases hq : (bsO NM == bsO N) with
   | false =>
    have hg : (NM.toList == N.toList) = false := by rw [eqB_iff]; exact hq
    have HN : Hid (OwnG 41 11 flRu wr X.heap.size (.slice a5 ((ru.take i).filter fun r => r.nm == bsO N).length c5) ((ru.take (i + 1)).filter fun r => r.nm == bsO N)) := Lib.hid (by
     rw [HFG.out, if_neg (by show ¬ (bsO NM == bsO N) = true; rw [hq]; simp), List.append_nil]
     exact HOW.out)
    clear hq
    go_wp2_with fail
    go_roundw
    case rel => exact ⟨i + 1, by go_num, by omega, HN.out, HB.out⟩
    case measure => simp [intOf]; omega
   | true =>
    have hg : (NM.toList == N.toList) = true := by rw [eqB_iff]; exact hq
    have HFE : Hid ((ru.take (i + 1)).filter (fun r => r.nm == bsO N) = (ru.take i).filter (fun r => r.nm == bsO N) ++ [⟨bsO NM, fr, to_, mo, ⟨k, v, d⟩, at_, ck, sv, bsO LE⟩]) := Lib.hid (by
     rw [HFG.out, if_pos (by show (bsO NM == bsO N) = true; exact hq)])
    have HLN : Hid (((ru.take i).filter fun r => r.nm == bsO N).length < 1000000) := Lib.hid (by
     have h1 := List.length_filter_le (fun r : RuT => r.nm == bsO N) (ru.take i)
     rw [List.length_take] at h1
     omega)
    clear hq HFG
    generalize wr = W2 at *
    go_wp2_with (at_builtin; refine wpList_app_G (z := (⟨bsO NM, fr, to_, mo, ⟨k, v, d⟩, at_, ck, sv, bsO LE⟩ : RuT)) (w0 := X) (B := X.heap.size) flRu_len (by decide) Tryz.underlying23 Tryz.infoRu rfl (by decide) rfl (.tmp 22) (.tmp 28) rfl rfl HOW.out (Nat.le_refl _) HB.out.size HB.out (by intro u hu; simp [flRu] at hu; rcases hu with rfl | rfl | rfl | rfl | rfl | rfl | rfl | rfl | rfl | rfl | rfl <;> rfl) rfl rfl HLN.out (by simp [flRu]) ?_; intro v2 V2 o2 b2 k2 g2 z2; clear k2 g2 z2)
    go_roundw
    case rel => exact ⟨i + 1, by go_num, by omega, by rw [HFE.out]; exact o2, b2⟩
    case measure => simp [intOf]; omega
  ·obtain rfl : i = ru.length := by omega
   have HN : Hid (OwnG 41 11 flRu wr X.heap.size (.slice a5 ((ru.take ru.length).filter fun r => r.nm == bsO N).length c5) L) := Lib.hid (by
    rw [← HR.out]
    have := HOW.out
    rw [List.take_length] at this ⊢
    exact this)
   go_wp2_with fail
   go_ret
   exact ⟨⟨_, rfl, HN.out.mono HBX.out.size⟩, keepBelow HBX.out HB.out⟩

set_option maxRecDepth 100000 in
set_option maxHeartbeats 4000000 in
theorem valid_any (rv zv lv : Value) (s : SrT) (Z : List ZkT) (w : World) (hs : RdSr w rv zv lv s Z) (hz : SzS s) (hg : Glob w) (hcz : CapV zv) (hcl : CapV lv) :
  Calls Tryz.prog 35 #[.agg #[rv, zv, lv]] w fun e w' => e = .returned (.bool (validB s)) ∧ Below w.heap.size w w' := by
 obtain ⟨bz, hbz⟩ : ∃ b, w.heap.size = b := ⟨_, rfl⟩
 obtain ⟨ru, zo, lk⟩ := s
 obtain ⟨ar, cr, rfl⟩ := hs.ru.form
 obtain ⟨az, cz, rfl⟩ := hs.zo.row.form
 obtain ⟨ak, ck0, rfl⟩ := hs.lk.form
 obtain ⟨X, hX⟩ : ∃ X, w.alloc (.cells #[.slice ar ru.length cr, .slice az Z.length cz, .slice ak lk.length ck0] 27) = X := ⟨_, rfl⟩
 have hC : Cls X bz [.slice ar ru.length cr, .slice az Z.length cz, .slice ak lk.length ck0] := by rw [← hX, ← hbz]; exact Cls.new w _ _
 have HBX : Hid (Below w.heap.size w X) := Lib.hid (by rw [← hX]; exact below_box)
 have HH := Lib.hid (check_any _ _ _ _ Z X (hs.below HBX.out) hz (hg.below HBX.out) hcz hcl)
 obtain ⟨m, hm⟩ : ∃ m, (checkM ⟨ru, zo, lk⟩).1 = m := ⟨_, rfl⟩
 obtain ⟨q, hq⟩ : ∃ q, (checkM ⟨ru, zo, lk⟩).2 = q := ⟨_, rfl⟩
 have HV : Hid ((q == 0) = validB ⟨ru, zo, lk⟩) := Lib.hid (by rw [← hq]; rfl)
 have HH2 : Hid (Calls Tryz.prog 18 #[.agg #[.slice ar ru.length cr, .slice az Z.length cz, .slice ak lk.length ck0]] X fun e w' => e = .returned (.tuple #[.string ⟨m.toArray⟩, .int .i64 q]) ∧ Below X.heap.size X w') := Lib.hid (by
  have h := HH.out
  unfold ChkA at h
  rw [hm, hq] at h
  exact h)
 have hb : Below X.heap.size X X := Below.refl _ _
 have c0 := Cls.at hC hb (j := 0) (u := .slice ar ru.length cr) rfl
 have c1 := Cls.at hC hb (j := 1) (u := .slice az Z.length cz) rfl
 have c2 := Cls.at hC hb (j := 2) (u := .slice ak lk.length ck0) rfl
 clear hm hq hC hb HH hs hz hg hcz hcl
 show Calls _ _ #[.agg #[.slice ar ru.length cr, .slice az Z.length cz, .slice ak lk.length ck0]] w _
 go_enter Tryz.func35, Tryz.ntmps35
 go_upto_region 1 with fail
 try rw [hX]
 try rw [hbz]
 clear hX hbz
 go_wp2_with (first | (go_at_call 18; refine HH2.out.mono ?_; rintro e w' ⟨rfl, hb⟩; have HBN := Lib.hid hb) | fail)
 go_ret
 exact ⟨ret_bool HV.out, keepBelow HBX.out HBN.out⟩
end Go.Proofs.YtlbglinpgjlbkaaGreatDoor
