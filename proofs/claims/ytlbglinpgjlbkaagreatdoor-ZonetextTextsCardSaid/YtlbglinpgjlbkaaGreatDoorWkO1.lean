import Derived.Test.YtlbglinpgjlbkaaGreatDoorWkC7
import Derived.Test.YtlbglinpgjlbkaaGreatDoorWkQn
import Derived.Test.YtlbglinpgjlbkaaGreatDoorWkShelfU
import Derived.Lib.AppendIntMem
import Derived.Deep.RegionHeld3
/- Zone texts: the texts of days of a month. Printed by gen_o1.py. -/
namespace Go.Proofs.YtlbglinpgjlbkaaGreatDoor
open Go.RowKit Wk

def TabP (w : World) : Prop := Lib.TabIs Tryz.prog w "internal/strconv.uint64pow10" .u64 Lib.pow10Tab
theorem TabP.below {w w' : World} (h : TabP w) (hb : Below w.heap.size w w') : TabP w' := by
 have hg : Tryz.prog.globalNamed "internal/strconv.uint64pow10" = some 1 := by kernel_rfl
 unfold TabP Lib.TabIs World.var? at h ⊢
 rw [hg] at h ⊢
 simp only [Option.bind_some] at h ⊢
 have hlt : 1 < w.heap.size := by
  rcases Nat.lt_or_ge 1 w.heap.size with q | q
  ·exact q
  ·exfalso
   rw [Array.getElem?_eq_none (by omega)] at h
   simp at h
 rw [hb.block 1 hlt]
 exact h
theorem day_wf {o : OnT} (h : onB o = true) : (1 ≤ o.k ∧ o.k ≤ 4) ∧ 0 ≤ o.d ∧ o.d ≤ 31 ∧ (o.k ≠ 2 → 1 ≤ o.d) := by
 unfold onB dayB wdB at h
 split at h
 ·simp at h; omega
 ·split at h
  ·simp at h; omega
  ·split at h
   ·simp at h; omega
   ·exact absurd h (by simp)

theorem wday_len (v : Int) : (getM wdayL v).length ≤ 3 := by
 unfold getM
 split
 ·exact Nat.zero_le _
 ·rename_i h
  have h7 : wdayL.length = 7 := rfl
  have hm : ∀ x ∈ wdayL, x.length ≤ 3 := by decide
  exact hm _ (getD_mem (by omega))
theorem day_len {d : Int} (h0 : 0 ≤ d) (h1 : d ≤ 31) : (Lib.itoa d).length ≤ 2 := by
 have hf : ∀ x : Fin 32, (Lib.itoa (x.val : Int)).length ≤ 2 := by decide +kernel
 have := hf ⟨d.toNat, by omega⟩
 simpa [show ((d.toNat : Nat) : Int) = d by omega] using this
set_option maxRecDepth 100000 in
set_option maxHeartbeats 4000000 in
theorem onText_any (o : OnT) (w : World) (hT : TabP w) :
  Calls Tryz.prog 30 #[onV o] w fun e w' => e = .returned (.string ⟨(onT o).toArray⟩) ∧ Below w.heap.size w w' := by
 obtain ⟨r, hr⟩ : ∃ r : ByteArray, ⟨(onT o).toArray⟩ = r := ⟨_, rfl⟩
 rw [hr]
 have HR : Hid (bsO r = onT o) := Lib.hid (by rw [← hr])
 clear hr
 have HT := Lib.hid hT
 clear hT
 have HVO : Hid (∀ W, Calls Tryz.prog 95 #[onV o] W fun e w' => e = .returned (.bool (onB o)) ∧ Below W.heap.size W w') := Lib.hid fun W => validOn_any o W
 obtain ⟨q, hq⟩ : ∃ q, onB o = q := ⟨_, rfl⟩
 rw [hq] at HVO
 have hwf : q = true → _ := fun e => day_wf (hq.trans e)
 have HRT : Hid (onT o = if q = false then [] else if o.k = 1 then Lib.itoa o.d else if o.k = 2 then [108, 97, 115, 116] ++ getM wdayL o.w else getM wdayL o.w ++ (if o.k = 3 then [62, 61] else [60, 61]) ++ Lib.itoa o.d) := Lib.hid (by rw [← hq]; rfl)
 clear hq
 obtain ⟨k, v, d⟩ := o
 simp only at HRT hwf
 unfold onV at HVO ⊢
 simp only at HVO ⊢
 rw [HRT.out] at HR
 clear HRT
 go_enter Tryz.func30, Tryz.ntmps30
 go_upto_region 1 with fail
 obtain ⟨b1, hb1⟩ : ∃ b, w.heap.size = b := ⟨_, rfl⟩
 obtain ⟨X, hX⟩ : ∃ X, w.alloc (.cells #[.int .i64 k, .int .i64 v, .int .i64 d] 39) = X := ⟨_, rfl⟩
 have HBX : Hid (Below w.heap.size w X) := Lib.hid (by rw [← hX]; exact (Below.refl _ _).alloc (Nat.le_refl _) _)
 have HX1 : Hid (Blk X b1 #[.int .i64 k, .int .i64 v, .int .i64 d] 39) := Lib.hid (by rw [← hX, ← hb1]; exact Blk.new _ _ _)
 try rw [hX]
 try rw [hb1]
 clear hX hb1
 have x0 := HX1.out.cell (j := 0) rfl
 have x1 := HX1.out.cell (j := 1) rfl
 have x2 := HX1.out.cell (j := 2) rfl
 cases q with
 | false =>
  go_wp2_with (first | (go_at_call 95; refine (HVO.out _).mono ?_; rintro e w' ⟨rfl, hb⟩) | fail)
  go_ret
  exact ⟨ret_str (bs_inj (by rw [HR.out]; rfl)), keepBelow HBX.out hb⟩
 | true =>
 obtain ⟨⟨hk1, hk4⟩, hd0, hd31, hd1⟩ := hwf rfl
 have HIT : Hid (∀ W, Below X.heap.size X W → Calls Tryz.prog 96 #[.int .i64 d] W fun e w' => e = .returned (.string ⟨(Lib.itoa d).toArray⟩) ∧ Below W.heap.size W w') := Lib.hid fun W hW => (Tryz.strconv_Itoa d (by omega) (by omega) W ((HT.out.below HBX.out).below hW)).mono fun e w' h => ⟨h.1, by
  obtain ⟨-, k, os, rfl⟩ := h
  exact Lib.below_grow _ _ (Nat.le_refl _) k os⟩
 obtain ⟨DT, hDT⟩ : ∃ D : ByteArray, ⟨(Lib.itoa d).toArray⟩ = D := ⟨_, rfl⟩
 rw [hDT] at HIT
 have HDT : Hid (bsO DT = Lib.itoa d) := Lib.hid (by rw [← hDT])
 obtain ⟨NM, hNM⟩ : ∃ D : ByteArray, ⟨(getM wdayL v).toArray⟩ = D := ⟨_, rfl⟩
 have HNM : Hid (bsO NM = getM wdayL v) := Lib.hid (by rw [← hNM])
 have HWN : Hid (∀ W, Calls Tryz.prog 97 #[.int .i64 v] W fun e w' => e = .returned (.string NM) ∧ Below W.heap.size W w') := Lib.hid (by rw [← hNM]; exact fun W => weekdayName_any v W)
 have ns2 : (NM.size : Int) ≤ 3 := by have := wday_len v; rw [← HNM.out, bs_len] at this; omega
 have ds2 : (DT.size : Int) ≤ 2 := by have := day_len hd0 hd31; rw [← HDT.out, bs_len] at this; omega
 clear hDT hNM hwf
 go_upto_region 3 with (first | (go_at_call 95; refine (HVO.out _).mono ?_; rintro e w' ⟨rfl, hb⟩; have HB1 := Lib.hid hb; have HX2 := Lib.hid (HX1.out.below hb); clear hb) | fail)
 have y2 := HX2.out.cell (j := 2) rfl
 go_upto_region 4 with (first | (go_at_call 96; refine (HIT.out _ HB1.out).mono ?_; rintro e w'' ⟨rfl, hb⟩; have HB2 := Lib.hid (keepBelow HB1.out hb); have HX3 := Lib.hid (HX2.out.below hb); clear hb) | fail)
 have z0 := HX3.out.cell (j := 0) rfl
 have z1 := HX3.out.cell (j := 1) rfl
 by_cases h1 : k = 1
 ·subst h1
  go_wp2_with fail
  go_ret
  exact ⟨ret_str (bs_inj (by rw [HR.out, HDT.out]; rfl)), keepBelow HBX.out HB2.out⟩
 by_cases h2 : k = 2
 ·subst h2
  go_wp2_with (first | (go_at_call 97; refine (HWN.out _).mono ?_; rintro e w3 ⟨rfl, hb⟩) | fail)
  go_ret
  exact ⟨ret_str (bs_inj (by rw [HR.out, bs_app, HNM.out]; rfl)), keepBelow HBX.out (keepBelow HB2.out hb)⟩
 have g1 : (k == 1) = false := by simpa using h1
 have g2 : (k == 2) = false := by simpa using h2
 by_cases h3 : k = 3
 ·subst h3
  go_wp2_with (first | (go_at_call 97; refine (HWN.out _).mono ?_; rintro e w3 ⟨rfl, hb⟩) | fail)
  go_ret
  exact ⟨ret_str (bs_inj (by rw [HR.out, bs_app, bs_app, HNM.out, HDT.out]; rfl)), keepBelow HBX.out (keepBelow HB2.out hb)⟩
 have g3 : (k == 3) = false := by simpa using h3
 go_wp2_with (first | (go_at_call 97; refine (HWN.out _).mono ?_; rintro e w3 ⟨rfl, hb⟩) | fail)
 go_ret
 exact ⟨ret_str (bs_inj (by rw [HR.out, bs_app, bs_app, HNM.out, HDT.out, if_neg (by simp), if_neg h1, if_neg h2, if_neg h3])), keepBelow HBX.out (keepBelow HB2.out hb)⟩

theorem itoa31 {n : Int} (h1 : 1 ≤ n) (h2 : n ≤ 31) : Lib.itoa n = if n < 10 then [digU n.toNat] else [digU (n / 10).toNat, digU (n % 10).toNat] := by
 have hf : ∀ x : Fin 32, 1 ≤ x.val → Lib.itoa (x.val : Int) = if (x.val : Int) < 10 then [digU (x.val : Int).toNat] else [digU ((x.val : Int) / 10).toNat, digU ((x.val : Int) % 10).toNat] := by decide +kernel
 have := hf ⟨n.toNat, by omega⟩ (by show 1 ≤ n.toNat; omega)
 simpa only [show ((n.toNat : Nat) : Int) = n by omega] using this
theorem conv_dig (wr : World) {x : Int} (h0 : 0 ≤ x) (h9 : x ≤ 9) : (convert 143 9 (.slice (some ⟨wr.heap.size, 0, none⟩) 1 1)).run Tryz.prog (wr.alloc (.cells #[.int .u8 (48 + x)] 5)) = .ok (.string ⟨#[digU x.toNat]⟩) (wr.alloc (.cells #[.int .u8 (48 + x)] 5)) := by
 refine run_convert_bytes_back (wr.alloc (.cells #[.int .u8 (48 + x)] 5)) 143 9 5 ⟨wr.heap.size, 0, none⟩ 1 [digU x.toNat] Tryz.underlying143 Tryz.underlying5 Tryz.underlying9 ?_
 intro j hj
 have hj : j < 1 := hj
 obtain rfl : j = 0 := by omega
 rw [WideShapes.add_plain, Nat.zero_add, World.cell?_alloc_new]
 have d1 := (digU_dig (n := x.toNat) (by omega)).2
 show some (Value.int .u8 (48 + x)) = some (Value.int .u8 ((digU x.toNat).toNat : Int))
 rw [d1]
 congr 2
 omega
set_option maxRecDepth 100000 in
set_option maxHeartbeats 4000000 in
theorem dec_any (n : Int) (h1 : 1 ≤ n) (h2 : n ≤ 31) (w : World) :
  Calls Tryz.prog 159 #[.int .i64 n, .int .i64 1] w fun e w' => e = .returned (.string ⟨(Lib.itoa n).toArray⟩) ∧ Below w.heap.size w w' := by
 have hit := itoa31 h1 h2
 obtain ⟨SF, hSF⟩ : ∃ D : ByteArray, ⟨(Lib.itoa n).toArray⟩ = D := ⟨_, rfl⟩
 rw [hSF]
 have HSF : Hid (bsO SF = Lib.itoa n) := Lib.hid (by rw [← hSF])
 rw [hit] at HSF
 obtain ⟨S1, hS1⟩ : ∃ D : ByteArray, ⟨#[digU (n % 10).toNat]⟩ = D := ⟨_, rfl⟩
 have HS1 : Hid (bsO S1 = [digU (n % 10).toNat]) := Lib.hid (by rw [← hS1])
 obtain ⟨t, ht⟩ : ∃ t, n / 10 = t := ⟨_, rfl⟩
 rw [ht] at HSF
 have HTT := Lib.hid ht
 have hs1 : (S1.size : Int) = 1 := by rw [← hS1]; rfl
 have hsf : (1 : Int) ≤ (SF.size : Int) := by
  have := HSF.out
  rw [← bs_len, this]
  split <;> simp
 have hsf2 : (SF.size : Int) ≤ 2 := by
  have := HSF.out
  rw [← bs_len, this]
  split <;> simp
 have hne : SF.toList.isEmpty = false := by
  rw [empty_eq]
  have := HSF.out
  rw [this]
  split <;> rfl
 have hne2 : ¬SF.toList = [] := by simpa using hne
 have hn0 : (0 : Int) ≤ n := by omega
 clear hit hSF ht
 go_enter Tryz.func159, Tryz.ntmps159
 go_wp2_with fail
 go_loopw [5, 6, 7] (fun u5 u6 _ wr => Hid (Below w.heap.size w wr) ∧ ((u5 = .string ⟨#[]⟩ ∧ u6 = .int .i64 n) ∨ (10 ≤ n ∧ u5 = .string S1 ∧ u6 = .int .i64 t) ∨ (u5 = .string SF ∧ u6 = .int .i64 0))) (fun _ u _ _ => (intOf u).toNat)
 case atStart => exact ⟨Below.refl _ _, .inl ⟨rfl, rfl⟩⟩
 case round =>
  obtain ⟨HB, hr⟩ := hrel
  rcases hr with ⟨rfl, rfl⟩ | ⟨h10, rfl, rfl⟩ | ⟨rfl, rfl⟩
  ·have g1 : (n != 0) = true := by simp; omega
   have m0 : 0 ≤ n % 10 := by omega
   have m1 : n % 10 ≤ 9 := by omega
   have m2 : ¬n % 10 < 0 := by omega
   have hcv := conv_dig wr m0 m1
   rw [hS1] at hcv
   obtain ⟨X, hX⟩ : ∃ X, wr.alloc (.cells #[.int .u8 (48 + n % 10)] 5) = X := ⟨_, rfl⟩
   have HX : Hid (Below wr.heap.size wr X) := Lib.hid (by rw [← hX]; exact (Below.refl _ _).alloc (Nat.le_refl _) _)
   rw [hX] at hcv
   have HRF : Hid ((n < 10 ∧ S1 = SF ∧ t = 0) ∨ 10 ≤ n) := Lib.hid (by
    rcases Int.lt_or_le n 10 with q | q
    ·refine .inl ⟨q, bs_inj ?_, by have := HTT.out; omega⟩
     rw [HS1.out, HSF.out, if_pos q, show n % 10 = n by omega]
    ·exact .inr q)
   go_wp2_with fail
   go_roundw
   case rel =>
    refine ⟨keepBelow HB.out HX.out, ?_⟩
    rcases HRF.out with ⟨q1, q2, q3⟩ | q
    ·exact .inr (.inr ⟨congrArg Value.string (by rw [← q2]; exact bs_inj (by rw [bs_app]; exact List.append_nil _)), by rw [HTT.out, q3]⟩)
    ·exact .inr (.inl ⟨q, congrArg Value.string (bs_inj (by rw [bs_app]; exact List.append_nil _)), by rw [HTT.out]⟩)
   case measure => simp [intOf]; omega
  ·have ht1 : 1 ≤ t ∧ t ≤ 3 := by have := HTT.out; omega
   have g1 : (t != 0) = true := by simp; omega
   have m0 : 0 ≤ t % 10 := by omega
   have m1 : t % 10 ≤ 9 := by omega
   have m2 : ¬t % 10 < 0 := by omega
   have tt0 : 0 ≤ t := by omega
   have tt3 : t ≤ 3 := by omega
   have hcv := conv_dig wr m0 m1
   obtain ⟨D, hD⟩ : ∃ D : ByteArray, ⟨#[digU (t % 10).toNat]⟩ = D := ⟨_, rfl⟩
   have hds : (D.size : Int) = 1 := by rw [← hD]; rfl
   rw [hD] at hcv
   have HF : Hid (D ++ S1 = SF) := Lib.hid (bs_inj (by
    rw [bs_app, HS1.out, HSF.out, if_neg (by omega), ← hD, show t % 10 = t by omega]
    rfl))
   obtain ⟨X, hX⟩ : ∃ X, wr.alloc (.cells #[.int .u8 (48 + t % 10)] 5) = X := ⟨_, rfl⟩
   have HX : Hid (Below wr.heap.size wr X) := Lib.hid (by rw [← hX]; exact (Below.refl _ _).alloc (Nat.le_refl _) _)
   rw [hX] at hcv
   clear hD
   go_wp2_with fail
   go_roundw
   case rel => exact ⟨keepBelow HB.out HX.out, .inr (.inr ⟨by rw [HF.out], by congr 1; omega⟩)⟩
   case measure => simp [intOf]; omega
  ·have hnn : ¬n < 0 := by omega
   go_wp2_with fail
   go_loopw [5] (fun u5 wx => u5 = .string SF ∧ wx = wr) (fun _ _ => 0)
   case atStart => exact ⟨rfl, rfl⟩
   case round =>
    obtain ⟨rfl, hwx⟩ := hrel
    rw [hwx]
    clear hwx
    go_wp2_with fail
    go_ret
    exact ⟨rfl, HB.out⟩

set_option maxRecDepth 100000 in
set_option maxHeartbeats 4000000 in
theorem onText19_any (o : OnT) (w : World) :
  Calls Tryz.prog 31 #[onV o] w fun e w' => e = .returned (.string ⟨(onT o).toArray⟩) ∧ Below w.heap.size w w' := by
 obtain ⟨r, hr⟩ : ∃ r : ByteArray, ⟨(onT o).toArray⟩ = r := ⟨_, rfl⟩
 rw [hr]
 have HR : Hid (bsO r = onT o) := Lib.hid (by rw [← hr])
 clear hr
 have HVO : Hid (∀ W, Calls Tryz.prog 32 #[onV o] W fun e w' => e = .returned (.bool (onB o)) ∧ Below W.heap.size W w') := Lib.hid fun W => validOn19_any o W
 obtain ⟨q, hq⟩ : ∃ q, onB o = q := ⟨_, rfl⟩
 rw [hq] at HVO
 have hwf : q = true → _ := fun e => day_wf (hq.trans e)
 have HRT : Hid (onT o = if q = false then [] else if o.k = 1 then Lib.itoa o.d else if o.k = 2 then [108, 97, 115, 116] ++ getM wdayL o.w else getM wdayL o.w ++ (if o.k = 3 then [62, 61] else [60, 61]) ++ Lib.itoa o.d) := Lib.hid (by rw [← hq]; rfl)
 clear hq
 obtain ⟨k, v, d⟩ := o
 simp only at HRT hwf
 unfold onV at HVO ⊢
 simp only at HVO ⊢
 rw [HRT.out] at HR
 clear HRT
 go_enter Tryz.func31, Tryz.ntmps31
 go_upto_region 1 with fail
 obtain ⟨b1, hb1⟩ : ∃ b, w.heap.size = b := ⟨_, rfl⟩
 obtain ⟨X, hX⟩ : ∃ X, w.alloc (.cells #[.int .i64 k, .int .i64 v, .int .i64 d] 39) = X := ⟨_, rfl⟩
 have HBX : Hid (Below w.heap.size w X) := Lib.hid (by rw [← hX]; exact (Below.refl _ _).alloc (Nat.le_refl _) _)
 have HX1 : Hid (Blk X b1 #[.int .i64 k, .int .i64 v, .int .i64 d] 39) := Lib.hid (by rw [← hX, ← hb1]; exact Blk.new _ _ _)
 try rw [hX]
 try rw [hb1]
 clear hX hb1
 have x0 := HX1.out.cell (j := 0) rfl
 have x1 := HX1.out.cell (j := 1) rfl
 have x2 := HX1.out.cell (j := 2) rfl
 cases q with
 | false =>
  go_wp2_with (first | (go_at_call 32; refine (HVO.out _).mono ?_; rintro e w' ⟨rfl, hb⟩) | fail)
  go_ret
  exact ⟨ret_str (bs_inj (by rw [HR.out]; rfl)), keepBelow HBX.out hb⟩
 | true =>
 obtain ⟨⟨hk1, hk4⟩, hd0, hd31, hd1⟩ := hwf rfl
 obtain ⟨DT, hDT⟩ : ∃ D : ByteArray, ⟨(Lib.itoa d).toArray⟩ = D := ⟨_, rfl⟩
 have HDT : Hid (bsO DT = Lib.itoa d) := Lib.hid (by rw [← hDT])
 have HDE : Hid (k ≠ 2 → ∀ W, Calls Tryz.prog 99 #[.int .i64 d] W fun e w' => e = .returned (.string DT) ∧ Below W.heap.size W w') := Lib.hid fun hk W => by
  have q := dec_any d (hd1 hk) hd31
  rw [hDT] at q
  have HQ := Lib.hid q
  clear q
  go_enter Tryz.func99, Tryz.ntmps99
  go_wp2_with (first | (go_at_call 159; refine (HQ.out _).mono ?_; rintro e w' ⟨rfl, hb⟩) | fail)
  go_ret
  exact ⟨rfl, hb⟩
 obtain ⟨NM, hNM⟩ : ∃ D : ByteArray, ⟨(getM wdayL v).toArray⟩ = D := ⟨_, rfl⟩
 have HNM : Hid (bsO NM = getM wdayL v) := Lib.hid (by rw [← hNM])
 have HGE : Hid (∀ W u, RdSt W u wdayL → Calls Tryz.prog 98 #[u, .int .i64 v] W fun e w' => e = .returned (.string NM) ∧ w' = W) := Lib.hid (by rw [← hNM]; exact fun W u hu => get18_any u wdayL v W hu (by decide))
 have ns2 : (NM.size : Int) ≤ 3 := by have := wday_len v; rw [← HNM.out, bs_len] at this; omega
 have ds2 : (DT.size : Int) ≤ 2 := by have := day_len hd0 hd31; rw [← HDT.out, bs_len] at this; omega
 clear hDT hNM hwf
 go_upto_region 3 with (first | (go_at_call 32; refine (HVO.out _).mono ?_; rintro e w' ⟨rfl, hb⟩; obtain ⟨W1, hW1⟩ : ∃ W, w' = W := ⟨_, rfl⟩; rw [hW1] at hb ⊢; clear hW1; have HB1 := Lib.hid hb; have HX2 := Lib.hid (HX1.out.below hb); clear hb) | fail)
 have y1 : W1.drew.cell? ⟨b1, 1, none⟩ = some (.int .i64 v) := (HX2.out.below (Below.refl _ _).drew).cell (j := 1) rfl
 go_cut [3] from 7 to 11 (fun u3 wx => u3 = .string NM ∧ Hid (Below W1.heap.size W1 wx))
 case first =>
  go_region_held3 (fun w' => w'.cell? ⟨b1, 1, none⟩ = some (.int .i64 v))
   (first | exact y1 | exact HXB.out)
   ((first | (go_at_call 93; refine (weekdays18_any _).mono ?_; rintro e w' ⟨⟨u, rfl, hv⟩, hb⟩; have HVR := Lib.hid hv; have HXB := Lib.hid (keepCell hb y1); obtain ⟨av, cv, rfl⟩ := hv.form; clear hv) | (go_at_call 98; refine (HGE.out _ _ HVR.out).mono ?_; rintro e w'' ⟨rfl, hw⟩; rw [hw]; clear hw)))
  all_goals go_wp2_with fail
  all_goals go_meet
  all_goals exact ⟨rfl, keepBelow ((Below.refl _ _).drew) hb⟩
 case rest =>
 obtain ⟨rfl, HBC⟩ := hcut
 generalize wc = W2 at *
 have HB2 := Lib.hid (keepBelow HB1.out HBC.out)
 have HX3 := Lib.hid (HX2.out.below HBC.out)
 have z0 := HX3.out.cell (j := 0) rfl
 have z2 := HX3.out.cell (j := 2) rfl
 by_cases h2 : k = 2
 ·subst h2
  go_wp2_with fail
  go_ret
  exact ⟨ret_str (bs_inj (by rw [HR.out, bs_app, HNM.out]; rfl)), keepBelow HBX.out HB2.out⟩
 have g2 : (k == 2) = false := by simpa using h2
 by_cases h3 : k = 3
 ·subst h3
  go_wp2_with (first | (go_at_call 99; refine (HDE.out (by decide) _).mono ?_; rintro e w3 ⟨rfl, hb⟩) | fail)
  go_ret
  exact ⟨ret_str (bs_inj (by rw [HR.out, bs_app, bs_app, HNM.out, HDT.out]; rfl)), keepBelow HBX.out (keepBelow HB2.out hb)⟩
 have g3 : (k == 3) = false := by simpa using h3
 by_cases h4 : k = 4
 ·subst h4
  go_wp2_with (first | (go_at_call 99; refine (HDE.out (by decide) _).mono ?_; rintro e w3 ⟨rfl, hb⟩) | fail)
  go_ret
  exact ⟨ret_str (bs_inj (by rw [HR.out, bs_app, bs_app, HNM.out, HDT.out]; rfl)), keepBelow HBX.out (keepBelow HB2.out hb)⟩
 have h1 : k = 1 := by omega
 subst h1
 go_wp2_with (first | (go_at_call 99; refine (HDE.out (by decide) _).mono ?_; rintro e w3 ⟨rfl, hb⟩) | fail)
 go_ret
 exact ⟨ret_str (bs_inj (by rw [HR.out, HDT.out]; rfl)), keepBelow HBX.out (keepBelow HB2.out hb)⟩
end Go.Proofs.YtlbglinpgjlbkaaGreatDoor
