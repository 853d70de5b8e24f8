import Derived.Test.YtlbglinpgjlbkaaGreatDoorWkC7
import Derived.Test.YtlbglinpgjlbkaaGreatDoorWkQn
import Derived.Test.YtlbglinpgjlbkaaGreatDoorWkShelfU
import Derived.Lib.AppendIntMem
import Derived.Deep.RegionHeld3
/- Zone texts: the texts of days of a month. Printed by gen_o1.py. -/
namespace Go.Proofs.YtlbglinpgjlbkaaGreatDoor
open Go.RowKit Wk

def TabP (w : World) : Prop := Lib.TabIs Tryz.prog w "internal/strconv.uint64pow10" .u64 Lib.pow10Tab
theorem TabP.below {w w' : World} (h : TabP w) (hb : Below w.heap.size w w') : TabP w' := by
 have hg : Tryz.prog.globalNamed "internal/strconv.uint64pow10" = some 1 := by kernel_rfl
 unfold TabP Lib.TabIs World.var? at h ⊢
 rw [hg] at h ⊢
 simp only [Option.bind_some] at h ⊢
 have hlt : 1 < w.heap.size := by
  rcases Nat.lt_or_ge 1 w.heap.size with q | q
  ·exact q
  ·exfalso
   rw [Array.getElem?_eq_none (by omega)] at h
   simp at h
 rw [hb.block 1 hlt]
 exact h
theorem day_wf {o : OnT} (h : onB o = true) : (1 ≤ o.k ∧ o.k ≤ 4) ∧ 0 ≤ o.d ∧ o.d ≤ 31 ∧ (o.k ≠ 2 → 1 ≤ o.d) := by
 unfold onB dayB wdB at h
 split at h
 ·simp at h; omega
 ·split at h
  ·simp at h; omega
  ·split at h
   ·simp at h; omega
   ·exact absurd h (by simp)

theorem wday_len (v : Int) : (getM wdayL v).length ≤ 3 := by
 unfold getM
 split
 ·exact Nat.zero_le _
 ·rename_i h
  have h7 : wdayL.length = 7 := rfl
  have hm : ∀ x ∈ wdayL, x.length ≤ 3 := by decide
  exact hm _ (getD_mem (by omega))
theorem day_len {d : Int} (h0 : 0 ≤ d) (h1 : d ≤ 31) : (Lib.itoa d).length ≤ 2 := by
 have hf : ∀ x : Fin 32, (Lib.itoa (x.val : Int)).length ≤ 2 := by decide +kernel
 have := hf ⟨d.toNat, by omega⟩
 simpa [show ((d.toNat : Nat) : Int) = d by omega] using this
set_option maxRecDepth 100000 in
set_option maxHeartbeats 4000000 in
theorem onText_any (o : OnT) (w : World) (hT : TabP w) :
  Calls Tryz.prog 30 #[onV o] w fun e w' => e = .returned (.string ⟨(onT o).toArray⟩) ∧ Below w.heap.size w w' := by
 obtain ⟨r, hr⟩ : ∃ r : ByteArray, ⟨(onT o).toArray⟩ = r := ⟨_, rfl⟩
 rw [hr]
 have HR : Hid (bsO r = onT o) := Lib.hid (by rw [← hr])
 clear hr
 have HT := Lib.hid hT
 clear hT
 have HVO : Hid (∀ W, Calls Tryz.prog 95 #[onV o] W fun e w' => e = .returned (.bool (onB o)) ∧ Below W.heap.size W w') := Lib.hid fun W => validOn_any o W
 obtain ⟨q, hq⟩ : ∃ q, onB o = q := ⟨_, rfl⟩
 rw [hq] at HVO
 have hwf : q = true → _ := fun e => day_wf (hq.trans e)
 have HRT : Hid (onT o = if q = false then [] else if o.k = 1 then Lib.itoa o.d else if o.k = 2 then [108, 97, 115, 116] ++ getM wdayL o.w else getM wdayL o.w ++ (if o.k = 3 then [62, 61] else [60, 61]) ++ Lib.itoa o.d) := Lib.hid (by rw [← hq]; rfl)
 clear hq
 obtain ⟨k, v, d⟩ := o
 simp only at HRT hwf
 unfold onV at HVO ⊢
 simp only at HVO ⊢
 rw [HRT.out] at HR
 clear HRT
 go_enter Tryz.func30, Tryz.ntmps30
 go_upto_region 1 with fail
 obtain ⟨b1, hb1⟩ : ∃ b, w.heap.size = b := ⟨_, rfl⟩
 obtain ⟨X, hX⟩ : ∃ X, w.alloc (.cells #[.int .i64 k, .int .i64 v, .int .i64 d] 39) = X := ⟨_, rfl⟩
 have HBX : Hid (Below w.heap.size w X) := Lib.hid (by rw [← hX]; exact (Below.refl _ _).alloc (Nat.le_refl _) _)
 have HX1 : Hid (Blk X b1 #[.int .i64 k, .int .i64 v, .int .i64 d] 39) := Lib.hid (by rw [← hX, ← hb1]; exact Blk.new _ _ _)
 try rw [hX]
 try rw [hb1]
 clear hX hb1
 have x0 := HX1.out.cell (j := 0) rfl
 have x1 := HX1.out.cell (j := 1) rfl
 have x2 := HX1.out.cell (j := 2) rfl
 cases q with
 | false =>
  go_wp2_with (first | (go_at_call 95; refine (HVO.out _).mono ?_; rintro e w' ⟨rfl, hb⟩) | fail)
  go_ret
  exact ⟨ret_str (bs_inj (by rw [HR.out]; rfl)), keepBelow HBX.out hb⟩
 | true =>
 obtain ⟨⟨hk1, hk4⟩, hd0, hd31, hd1⟩ := hwf rfl
 have HIT : Hid (∀ W, Below X.heap.size X W → Calls Tryz.prog 96 #[.int .i64 d] W fun e w' => e = .returned (.string ⟨(Lib.itoa d).toArray⟩) ∧ Below W.heap.size W w') := Lib.hid fun W hW => (Tryz.strconv_Itoa d (by omega) (by omega) W ((HT.out.below HBX.out).below hW)).mono fun e w' h => ⟨h.1, by
  obtain ⟨-, k, os, rfl⟩ := h
  exact Lib.below_grow _ _ (Nat.le_refl _) k os⟩
 obtain ⟨DT, hDT⟩ : ∃ D : ByteArray, ⟨(Lib.itoa d).toArray⟩ = D := ⟨_, rfl⟩
 rw [hDT] at HIT
 have HDT : Hid (bsO DT = Lib.itoa d) := Lib.hid (by rw [← hDT])
 obtain ⟨NM, hNM⟩ : ∃ D : ByteArray, ⟨(getM wdayL v).toArray⟩ = D := ⟨_, rfl⟩
 have HNM : Hid (bsO NM = getM wdayL v) := Lib.hid (by rw [← hNM])
 have HWN : Hid (∀ W, Calls Tryz.prog 97 #[.int .i64 v] W fun e w' => e = .returned (.string NM) ∧ Below W.heap.size W w') := Lib.hid (by rw [← hNM]; exact fun W => weekdayName_any v W)
 have ns2 : (NM.size : Int) ≤ 3 := by have := wday_len v; rw [← HNM.out, bs_len] at this; omega
 have ds2 : (DT.size : Int) ≤ 2 := by have := day_len hd0 hd31; rw [← HDT.out, bs_len] at this; omega
 clear hDT hNM hwf
 go_upto_region 3 with (first | (go_at_call 95; refine (HVO.out _).mono ?_; rintro e w' ⟨rfl, hb⟩; have HB1 := Lib.hid hb; have HX2 := Lib.hid (HX1.out.below hb); clear hb) | fail)
 have y2 := HX2.out.cell (j := 2) rfl
 go_upto_region 4 with (first | (go_at_call 96; refine (HIT.out _ HB1.out).mono ?_; rintro e w'' ⟨rfl, hb⟩; have HB2 := Lib.hid (keepBelow HB1.out hb); have HX3 := Lib.hid (HX2.out.below hb); clear hb) | fail)
 have z0 := HX3.out.cell (j := 0) rfl
 have z1 := HX3.out.cell (j := 1) rfl
 by_cases h1 : k = 1
 ·subst h1
  go_wp2_with fail
  go_ret
  exact ⟨ret_str (bs_inj (by rw [HR.out, HDT.out]; rfl)), keepBelow HBX.out HB2.out⟩
 by_cases h2 : k = 2
 ·subst h2
  go_wp2_with (first | (go_at_call 97; refine (HWN.out _).mono ?_; rintro e w3 ⟨rfl, hb⟩) | fail)
  go_ret
  exact ⟨ret_str (bs_inj (by rw [HR.out, bs_app, HNM.out]; rfl)), keepBelow HBX.out (keepBelow HB2.out hb)⟩
 have g1 : (k == 1) = false := by simpa using h1
 have g2 : (k == 2) = false := by simpa using h2
 by_cases h3 : k = 3
 ·subst h3
  go_wp2_with (first | (go_at_call 97; refine (HWN.out _).mono ?_; rintro e w3 ⟨rfl, hb⟩) | fail)
  go_ret
  exact ⟨ret_str (bs_inj (by rw [HR.out, bs_app, bs_app, HNM.out, HDT.out]; rfl)), keepBelow HBX.out (keepBelow HB2.out hb)⟩
 have g3 : (k == 3) = false := by simpa using h3
 go_wp2_with (first | (go_at_call 97; refine (HWN.out _).mono ?_; rintro e w3 ⟨rfl, hb⟩) | fail)
 go_ret
 exact ⟨ret_str (bs_inj (by rw [HR.out, bs_app, bs_app, HNM.out, HDT.out, if_neg (by simp), if_neg h1, if_neg h2, if_neg h3])), keepBelow HBX.out (keepBelow HB2.out hb)⟩

end Go.Proofs.YtlbglinpgjlbkaaGreatDoor
