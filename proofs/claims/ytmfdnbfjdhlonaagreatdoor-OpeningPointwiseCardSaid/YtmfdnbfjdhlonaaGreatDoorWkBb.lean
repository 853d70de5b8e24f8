import Derived.Test.YtmfdnbfjdhlonaaGreatDoorWkBa
import Derived.Test.YtmfdnbfjdhlonaaGreatDoorWkPl
import Derived.Test.YtmfdnbfjdhlonaaGreatDoorWkShelf
import Derived.Sort.OwnSortedInts
import Derived.Test.YtmfdnbfjdhlonaaGreatDoorWkShelfB
/- slices.Sort on a list of ints of the call's own, by the library's contract. -/
namespace Go.Proofs.YtmfdnbfjdhlonaaGreatDoor
open Go.RowKit Wk Go.Sort

theorem sort_own (v : Value) (L : List Int) (w0 W : World) (h : OwnI W w0.heap.size v L) (hb : Below w0.heap.size w0 W) (hl : L.length < 1000000000000) :
  Calls Tryz.prog 175 #[v] W fun e w' => e = .returned (.tuple #[]) ∧ OwnI w' w0.heap.size v (sortI L) ∧ Below w0.heap.size w0 w' := by
 have hlt := h.lt
 obtain ⟨h1, h2⟩ := h
 rcases h2 with ⟨rfl, h0⟩ | ⟨g, cap, cur, rfl, hg, hgg, hn, hcap, hsz, htk⟩
 ·obtain rfl : L = [] := List.eq_nil_of_length_eq_zero h0
  exact (Tryz.slices_Sort_int_none none 0 W).mono fun e w' ⟨he, hw⟩ => by subst hw; exact ⟨he, by have e : sortI [] = [] := List.eq_nil_of_length_eq_zero (sortI_len []); rw [e]; exact OwnI.nil _ _, hb⟩
 ·rw [Nat.mul_one] at htk
  have hH : Holds (Value.int .i64) W g 0 L.toArray := holds_of_blockI hgg htk
  refine (Tryz.slices_Sort_int g 0 cap L W hH (hlt g rfl).2 (by omega)).mono ?_
  rintro e w' ⟨he, n, os, rfl⟩
  refine ⟨he, ?_, hb.grown (grownBy_sortedI _) hb.size (fun k hk => by cases hk; exact hg)⟩
  have := ownsRow_sortedI (w := W) (base := w0.heap.size) (g := g) (cap := cap) (n := n) (e := 3) (os := os) (cur := cur) (ss := L) (ts := sortI L) (sortI_len L) hg hgg hn hcap hsz
  unfold OwnI
  rw [sortI_len]
  exact this

end Go.Proofs.YtmfdnbfjdhlonaaGreatDoor
namespace Go.Proofs.YtmfdnbfjdhlonaaGreatDoor
open Go.RowKit Wk

theorem prod_bd8 {m : Nat} {q P : Int} (hm : m ≤ 8192) (hq1 : 1 ≤ q) (hq2 : q ≤ P) (hP2 : P ≤ 12622780800) :
  0 ≤ (m : Int) * q ∧ (m : Int) * q ≤ 103405820313600 ∧ 0 ≤ (m : Int) * q / P ∧ (m : Int) * q / P ≤ 8192 ∧ 0 ≤ (m : Int) * q / P * P ∧ (m : Int) * q / P * P ≤ (m : Int) * q := by
 have h0 : 0 ≤ (m : Int) * q := Int.mul_nonneg (by omega) (by omega)
 have h1 : (m : Int) * q ≤ 8192 * P := Int.mul_le_mul (by omega) hq2 (by omega) (by omega)
 have h2 : 0 ≤ (m : Int) * q / P := Int.ediv_nonneg h0 (by omega)
 have h3 : (m : Int) * q / P ≤ 8192 := by
  have := Int.ediv_le_ediv (c := P) (by omega) h1
  rwa [Int.mul_ediv_cancel _ (by omega : P ≠ 0)] at this
 have h4 := Int.mul_nonneg h2 (by omega : 0 ≤ P)
 have h5 := Int.ediv_mul_le ((m : Int) * q) (by omega : P ≠ 0)
 omega

set_option maxRecDepth 100000 in
set_option maxHeartbeats 2000000 in
theorem rep_any (v : Value) (l : List Sp) (P q : Int) (w : World) (h : RdS w v l) (hv : Canon l ∧ Bnd l ∧ l.length ≤ 4096) (hP1 : 1 ≤ P) (hP2 : P ≤ 12622780800) (hq1 : 1 ≤ q) (hq2 : q ≤ P) (hin : inside P l) :
  Calls Tryz.prog 155 #[v, .int .i64 P, .int .i64 q] w fun e w' => e = .returned (.bool (repB l P q)) ∧ Below w.heap.size w w' := by
 obtain ⟨_, hbd, hlen⟩ := hv
 obtain ⟨a, c, rfl, hl, hc⟩ := h
 go_enter Tryz.func155, Tryz.ntmps155
 go_wp2_with fail
 go_loopw [7, 17] (fun u i wr => ∃ k : Nat, k ≤ l.length ∧ i = .int .i64 k ∧ OwnI wr w.heap.size u (chgT l P k) ∧ Below w.heap.size w wr) (fun _ i _ => l.length - (intOf i).toNat)
 case atStart => exact ⟨0, Nat.zero_le _, rfl, OwnI.nil _ _, Below.refl _ _⟩
 case round =>
  obtain ⟨k, hk, rfl, ho, hB⟩ := hrel
  by_cases hlt : k < l.length
  ·obtain ⟨b, o, x, y, rfl, hbw, HXY, d1, d2⟩ := rd_at hc hB hlt
   have HF : Hid (∀ W, Below w.heap.size w W → W.cell? ⟨b, o, none⟩ = some (.int .i64 (firstFr l)) ∧ W.cell? ⟨b, o + (l.length - 1) * 2 + 1, none⟩ = some (.int .i64 (lastTo l))) := by
    intro W hW
    obtain ⟨b1, o1, x1, y1, e1, _, H1, c1, _⟩ := rd_at (k := 0) hc hW (by omega)
    cases e1
    obtain ⟨b2, o2, x2, y2, e2, _, H2, _, c2⟩ := rd_at (k := l.length - 1) hc hW (by omega)
    cases e2
    refine ⟨?_, ?_⟩
    ·rw [firstFr, H1.out]; simpa using c1
    ·rw [lastTo, H2.out]; exact c2
   obtain ⟨f0, t0⟩ := HF.out _ hB
   have HC := Lib.hid hc
   have HT := Lib.hid (chgT_succ (P := P) HXY.out hlt)
   have hl1 := chgT_len l P k
   clear hc
   have hsz := hB.size
   have hne := ho.ne
   have hpos : 0 < l.length := by omega
   have hbr : b < wr.heap.size := by omega
   have hl2 : (chgT l P k ++ [x]).length ≤ 8193 := by simp only [List.length_append, List.length_cons, List.length_nil]; omega
   by_cases hx0 : 0 < x
   ·by_cases hy : y < P
    ·go_wp2_with (first
     | (at_builtin; refine wpList_app_int rfl (.tmp 35) (.tmp 38) rfl rfl (ho.alloc _) (hB.alloc hsz _) rfl (by simp) (by omega) ?_; intro v1 w1 o1 b1 k1 z1; have s1 := (k1 wr.heap.size 1 (by simp) hne).trans (by simp [go_sem] : _ = some (.int .i64 y)); obtain ⟨f1, t1⟩ := HF.out _ b1; clear k1)
     | (at_builtin; (first | refine wpList_app_int rfl (.tmp 44) (.tmp 47) rfl rfl o1 b1 rfl (by simp) (by omega) ?_ | refine wpList_app_int rfl (.tmp 44) (.tmp 47) rfl rfl (ho.alloc _) (hB.alloc hsz _) rfl (by simp) (by omega) ?_); intro v2 w2 o2 b2 k2 z2; clear k2)
     | (at_builtin; (first | refine wpList_app_int rfl (.tmp 54) (.tmp 55) rfl rfl o1 b1 rfl (by simp) (by omega) ?_ | refine wpList_app_int rfl (.tmp 54) (.tmp 55) rfl rfl (ho.alloc _) (hB.alloc hsz _) rfl (by simp) (by omega) ?_); intro v2 w2 o2 b2 k2 z2; clear k2))
     go_roundw
     case rel =>
      have e : stepC (firstFr l) (lastTo l) P (x, y) = [x, y] := by unfold stepC; simp [hx0, hy]
      exact ⟨k + 1, by omega, by go_num, by rw [HT.out, e]; simpa using o2, b2⟩
     case measure => simp [intOf]; omega
    ·by_cases hff : 0 < firstFr l
     ·go_wp2_with (first
     | (at_builtin; refine wpList_app_int rfl (.tmp 35) (.tmp 38) rfl rfl (ho.alloc _) (hB.alloc hsz _) rfl (by simp) (by omega) ?_; intro v1 w1 o1 b1 k1 z1; have s1 := (k1 wr.heap.size 1 (by simp) hne).trans (by simp [go_sem] : _ = some (.int .i64 y)); obtain ⟨f1, t1⟩ := HF.out _ b1; clear k1)
     | (at_builtin; (first | refine wpList_app_int rfl (.tmp 44) (.tmp 47) rfl rfl o1 b1 rfl (by simp) (by omega) ?_ | refine wpList_app_int rfl (.tmp 44) (.tmp 47) rfl rfl (ho.alloc _) (hB.alloc hsz _) rfl (by simp) (by omega) ?_); intro v2 w2 o2 b2 k2 z2; clear k2)
     | (at_builtin; (first | refine wpList_app_int rfl (.tmp 54) (.tmp 55) rfl rfl o1 b1 rfl (by simp) (by omega) ?_ | refine wpList_app_int rfl (.tmp 54) (.tmp 55) rfl rfl (ho.alloc _) (hB.alloc hsz _) rfl (by simp) (by omega) ?_); intro v2 w2 o2 b2 k2 z2; clear k2))
      go_roundw
      case rel =>
       have e : stepC (firstFr l) (lastTo l) P (x, y) = [x, 0] := by unfold stepC; simp [hx0, hy, hff]
       exact ⟨k + 1, by omega, by go_num, by rw [HT.out, e]; simpa using o2, b2⟩
      case measure => simp [intOf]; omega
     ·go_wp2_with (first
     | (at_builtin; refine wpList_app_int rfl (.tmp 35) (.tmp 38) rfl rfl (ho.alloc _) (hB.alloc hsz _) rfl (by simp) (by omega) ?_; intro v1 w1 o1 b1 k1 z1; have s1 := (k1 wr.heap.size 1 (by simp) hne).trans (by simp [go_sem] : _ = some (.int .i64 y)); obtain ⟨f1, t1⟩ := HF.out _ b1; clear k1)
     | (at_builtin; (first | refine wpList_app_int rfl (.tmp 44) (.tmp 47) rfl rfl o1 b1 rfl (by simp) (by omega) ?_ | refine wpList_app_int rfl (.tmp 44) (.tmp 47) rfl rfl (ho.alloc _) (hB.alloc hsz _) rfl (by simp) (by omega) ?_); intro v2 w2 o2 b2 k2 z2; clear k2)
     | (at_builtin; (first | refine wpList_app_int rfl (.tmp 54) (.tmp 55) rfl rfl o1 b1 rfl (by simp) (by omega) ?_ | refine wpList_app_int rfl (.tmp 54) (.tmp 55) rfl rfl (ho.alloc _) (hB.alloc hsz _) rfl (by simp) (by omega) ?_); intro v2 w2 o2 b2 k2 z2; clear k2))
      go_roundw
      case rel =>
       have e : stepC (firstFr l) (lastTo l) P (x, y) = [x] := by unfold stepC; simp [hx0, hy, hff]
       exact ⟨k + 1, by omega, by go_num, by rw [HT.out, e]; simpa using o1, b1⟩
      case measure => simp [intOf]; omega
   ·by_cases htp : lastTo l < P
    ·by_cases hy : y < P
     ·go_wp2_with (first
     | (at_builtin; refine wpList_app_int rfl (.tmp 35) (.tmp 38) rfl rfl (ho.alloc _) (hB.alloc hsz _) rfl (by simp) (by omega) ?_; intro v1 w1 o1 b1 k1 z1; have s1 := (k1 wr.heap.size 1 (by simp) hne).trans (by simp [go_sem] : _ = some (.int .i64 y)); obtain ⟨f1, t1⟩ := HF.out _ b1; clear k1)
     | (at_builtin; (first | refine wpList_app_int rfl (.tmp 44) (.tmp 47) rfl rfl o1 b1 rfl (by simp) (by omega) ?_ | refine wpList_app_int rfl (.tmp 44) (.tmp 47) rfl rfl (ho.alloc _) (hB.alloc hsz _) rfl (by simp) (by omega) ?_); intro v2 w2 o2 b2 k2 z2; clear k2)
     | (at_builtin; (first | refine wpList_app_int rfl (.tmp 54) (.tmp 55) rfl rfl o1 b1 rfl (by simp) (by omega) ?_ | refine wpList_app_int rfl (.tmp 54) (.tmp 55) rfl rfl (ho.alloc _) (hB.alloc hsz _) rfl (by simp) (by omega) ?_); intro v2 w2 o2 b2 k2 z2; clear k2))
      go_roundw
      case rel =>
       have e : stepC (firstFr l) (lastTo l) P (x, y) = [x, y] := by unfold stepC; simp [hx0, htp, hy]
       exact ⟨k + 1, by omega, by go_num, by rw [HT.out, e]; simpa using o2, b2⟩
      case measure => simp [intOf]; omega
     ·by_cases hff : 0 < firstFr l
      ·go_wp2_with (first
     | (at_builtin; refine wpList_app_int rfl (.tmp 35) (.tmp 38) rfl rfl (ho.alloc _) (hB.alloc hsz _) rfl (by simp) (by omega) ?_; intro v1 w1 o1 b1 k1 z1; have s1 := (k1 wr.heap.size 1 (by simp) hne).trans (by simp [go_sem] : _ = some (.int .i64 y)); obtain ⟨f1, t1⟩ := HF.out _ b1; clear k1)
     | (at_builtin; (first | refine wpList_app_int rfl (.tmp 44) (.tmp 47) rfl rfl o1 b1 rfl (by simp) (by omega) ?_ | refine wpList_app_int rfl (.tmp 44) (.tmp 47) rfl rfl (ho.alloc _) (hB.alloc hsz _) rfl (by simp) (by omega) ?_); intro v2 w2 o2 b2 k2 z2; clear k2)
     | (at_builtin; (first | refine wpList_app_int rfl (.tmp 54) (.tmp 55) rfl rfl o1 b1 rfl (by simp) (by omega) ?_ | refine wpList_app_int rfl (.tmp 54) (.tmp 55) rfl rfl (ho.alloc _) (hB.alloc hsz _) rfl (by simp) (by omega) ?_); intro v2 w2 o2 b2 k2 z2; clear k2))
       go_roundw
       case rel =>
        have e : stepC (firstFr l) (lastTo l) P (x, y) = [x, 0] := by unfold stepC; simp [hx0, htp, hy, hff]
        exact ⟨k + 1, by omega, by go_num, by rw [HT.out, e]; simpa using o2, b2⟩
       case measure => simp [intOf]; omega
      ·go_wp2_with (first
     | (at_builtin; refine wpList_app_int rfl (.tmp 35) (.tmp 38) rfl rfl (ho.alloc _) (hB.alloc hsz _) rfl (by simp) (by omega) ?_; intro v1 w1 o1 b1 k1 z1; have s1 := (k1 wr.heap.size 1 (by simp) hne).trans (by simp [go_sem] : _ = some (.int .i64 y)); obtain ⟨f1, t1⟩ := HF.out _ b1; clear k1)
     | (at_builtin; (first | refine wpList_app_int rfl (.tmp 44) (.tmp 47) rfl rfl o1 b1 rfl (by simp) (by omega) ?_ | refine wpList_app_int rfl (.tmp 44) (.tmp 47) rfl rfl (ho.alloc _) (hB.alloc hsz _) rfl (by simp) (by omega) ?_); intro v2 w2 o2 b2 k2 z2; clear k2)
     | (at_builtin; (first | refine wpList_app_int rfl (.tmp 54) (.tmp 55) rfl rfl o1 b1 rfl (by simp) (by omega) ?_ | refine wpList_app_int rfl (.tmp 54) (.tmp 55) rfl rfl (ho.alloc _) (hB.alloc hsz _) rfl (by simp) (by omega) ?_); intro v2 w2 o2 b2 k2 z2; clear k2))
       go_roundw
       case rel =>
        have e : stepC (firstFr l) (lastTo l) P (x, y) = [x] := by unfold stepC; simp [hx0, htp, hy, hff]
        exact ⟨k + 1, by omega, by go_num, by rw [HT.out, e]; simpa using o1, b1⟩
       case measure => simp [intOf]; omega
    ·by_cases hy : y < P
     ·go_wp2_with (first
     | (at_builtin; refine wpList_app_int rfl (.tmp 35) (.tmp 38) rfl rfl (ho.alloc _) (hB.alloc hsz _) rfl (by simp) (by omega) ?_; intro v1 w1 o1 b1 k1 z1; have s1 := (k1 wr.heap.size 1 (by simp) hne).trans (by simp [go_sem] : _ = some (.int .i64 y)); obtain ⟨f1, t1⟩ := HF.out _ b1; clear k1)
     | (at_builtin; (first | refine wpList_app_int rfl (.tmp 44) (.tmp 47) rfl rfl o1 b1 rfl (by simp) (by omega) ?_ | refine wpList_app_int rfl (.tmp 44) (.tmp 47) rfl rfl (ho.alloc _) (hB.alloc hsz _) rfl (by simp) (by omega) ?_); intro v2 w2 o2 b2 k2 z2; clear k2)
     | (at_builtin; (first | refine wpList_app_int rfl (.tmp 54) (.tmp 55) rfl rfl o1 b1 rfl (by simp) (by omega) ?_ | refine wpList_app_int rfl (.tmp 54) (.tmp 55) rfl rfl (ho.alloc _) (hB.alloc hsz _) rfl (by simp) (by omega) ?_); intro v2 w2 o2 b2 k2 z2; clear k2))
      go_roundw
      case rel =>
       have e : stepC (firstFr l) (lastTo l) P (x, y) = [y] := by unfold stepC; simp [hx0, htp, hy]
       exact ⟨k + 1, by omega, by go_num, by rw [HT.out, e]; simpa using o2, b2⟩
      case measure => simp [intOf]; omega
     ·by_cases hff : 0 < firstFr l
      ·go_wp2_with (first
     | (at_builtin; refine wpList_app_int rfl (.tmp 35) (.tmp 38) rfl rfl (ho.alloc _) (hB.alloc hsz _) rfl (by simp) (by omega) ?_; intro v1 w1 o1 b1 k1 z1; have s1 := (k1 wr.heap.size 1 (by simp) hne).trans (by simp [go_sem] : _ = some (.int .i64 y)); obtain ⟨f1, t1⟩ := HF.out _ b1; clear k1)
     | (at_builtin; (first | refine wpList_app_int rfl (.tmp 44) (.tmp 47) rfl rfl o1 b1 rfl (by simp) (by omega) ?_ | refine wpList_app_int rfl (.tmp 44) (.tmp 47) rfl rfl (ho.alloc _) (hB.alloc hsz _) rfl (by simp) (by omega) ?_); intro v2 w2 o2 b2 k2 z2; clear k2)
     | (at_builtin; (first | refine wpList_app_int rfl (.tmp 54) (.tmp 55) rfl rfl o1 b1 rfl (by simp) (by omega) ?_ | refine wpList_app_int rfl (.tmp 54) (.tmp 55) rfl rfl (ho.alloc _) (hB.alloc hsz _) rfl (by simp) (by omega) ?_); intro v2 w2 o2 b2 k2 z2; clear k2))
       go_roundw
       case rel =>
        have e : stepC (firstFr l) (lastTo l) P (x, y) = [0] := by unfold stepC; simp [hx0, htp, hy, hff]
        exact ⟨k + 1, by omega, by go_num, by rw [HT.out, e]; simpa using o2, b2⟩
       case measure => simp [intOf]; omega
      ·go_wp2_with (first
     | (at_builtin; refine wpList_app_int rfl (.tmp 35) (.tmp 38) rfl rfl (ho.alloc _) (hB.alloc hsz _) rfl (by simp) (by omega) ?_; intro v1 w1 o1 b1 k1 z1; have s1 := (k1 wr.heap.size 1 (by simp) hne).trans (by simp [go_sem] : _ = some (.int .i64 y)); obtain ⟨f1, t1⟩ := HF.out _ b1; clear k1)
     | (at_builtin; (first | refine wpList_app_int rfl (.tmp 44) (.tmp 47) rfl rfl o1 b1 rfl (by simp) (by omega) ?_ | refine wpList_app_int rfl (.tmp 44) (.tmp 47) rfl rfl (ho.alloc _) (hB.alloc hsz _) rfl (by simp) (by omega) ?_); intro v2 w2 o2 b2 k2 z2; clear k2)
     | (at_builtin; (first | refine wpList_app_int rfl (.tmp 54) (.tmp 55) rfl rfl o1 b1 rfl (by simp) (by omega) ?_ | refine wpList_app_int rfl (.tmp 54) (.tmp 55) rfl rfl (ho.alloc _) (hB.alloc hsz _) rfl (by simp) (by omega) ?_); intro v2 w2 o2 b2 k2 z2; clear k2))
       go_roundw
       case rel =>
        have e : stepC (firstFr l) (lastTo l) P (x, y) = [] := by unfold stepC; simp [hx0, htp, hy, hff]
        exact ⟨k + 1, by omega, by go_num, by rw [HT.out, e]; simpa using (ho.alloc _), (hB.alloc hsz _)⟩
       case measure => simp [intOf]; omega
  ·clear hc
   have hk' : l.length ≤ k := by omega
   have hlen2 := chgT_len l P k
   rw [chgT_full l P k hk'] at ho hlen2
   have HS := Lib.hid (sort_own u7 (chg l P) w wr ho hB (by omega))
   go_wp2_with (go_at_call 175; refine HS.out.mono ?_; rintro e w1 ⟨rfl, o1, b1⟩)
   obtain ⟨a', cp, rfl, hce⟩ := o1.form
   obtain ⟨C, hC⟩ : ∃ C, sortI (chg l P) = C := ⟨_, rfl⟩
   have hlC : C.length ≤ 8192 := by rw [← hC, sortI_len]; omega
   have hCb : ∀ x ∈ C, 0 ≤ x ∧ x ≤ P := fun x hx => by rw [← hC, sortI_mem] at hx; exact chg_bd hP1 hin hbd hx
   rw [hC] at hce
   have HC := Lib.hid hC
   rw [hC]
   have HCB := Lib.hid hCb
   clear hC hCb o1 hlen2
   have hb := prod_bd8 hlC hq1 hq2 hP2
   obtain ⟨p1, p2, p3, p4, p5, p6⟩ := hb
   by_cases hm0 : 0 < C.length
   ·have g0 : (((C.length : Int)) == 0) = false := by simp; intro e; simp [e] at hm0
    by_cases t1 : ((C.length : Int) * q / P * P != (C.length : Int) * q) = true
    ·clear hce
     go_wp2_with fail
     go_simp
     go_wp2
     go_ret
     exact ⟨ret_bool (repB_no1 HC.out hm0 t1).symm, b1⟩
    ·have t1' : ((C.length : Int) * q / P * P != (C.length : Int) * q) = false := by simpa using t1
     clear t1
     by_cases t2 : ((C.length : Int) * q / P % 2 != 0) = true
     ·clear hce
      go_wp2_with fail
      go_simp
      go_wp2
      go_ret
      exact ⟨ret_bool (repB_no2 HC.out hm0 t2).symm, b1⟩
     ·have t2' : ((C.length : Int) * q / P % 2 != 0) = false := by simpa using t2
      have T1 := Lib.hid t1'
      have T2 := Lib.hid t2'
      clear t2
      go_wp2_with fail
      go_simp
      go_wp2_with fail
      obtain ⟨K, hK⟩ : ∃ K, (C.length : Int) * q / P = K := ⟨_, rfl⟩
      simp only [hK] at p3 p4 ⊢
      have HK := Lib.hid hK
      clear t1' t2' p1 p2 p5 p6 hK
      go_loopw [82] (fun i wr => ∃ k : Nat, k ≤ C.length ∧ i = .int .i64 k ∧ Hid (∀ j, j < k → repOk C P q K j = true) ∧ w1 = wr) (fun i _ => C.length - (intOf i).toNat)
      case atStart => exact ⟨0, Nat.zero_le _, rfl, (fun j hj => by omega), rfl⟩
      case round =>
       obtain ⟨i, hi, rfl, HI, rfl⟩ := hrel
       by_cases hil : i < C.length
       ·obtain ⟨g, rfl, hg, c1⟩ := hce i hil
        have e1 := Int.emod_nonneg ((i : Int) + K) (b := (C.length : Int)) (by omega)
        have e2 := Int.emod_lt_of_pos ((i : Int) + K) (b := (C.length : Int)) (by omega)
        obtain ⟨g', e', _, c2⟩ := hce (((i : Int) + K) % (C.length : Int)).toNat (by omega)
        cases e'
        have hx : 0 ≤ C.getD i 0 ∧ C.getD i 0 ≤ P := HCB.out _ (by rw [List.getD_eq_getElem?_getD, List.getElem?_eq_getElem hil]; exact List.getElem_mem hil)
        obtain ⟨x, hxe⟩ : ∃ x, C.getD i 0 = x := ⟨_, rfl⟩
        obtain ⟨z, hze⟩ : ∃ z, C.getD (((i : Int) + K) % (C.length : Int)).toNat 0 = z := ⟨_, rfl⟩
        rw [hxe] at c1 hx
        rw [hze] at c2
        have HX := Lib.hid hxe
        have HZ := Lib.hid hze
        clear hxe hze hce
        by_cases hy : P ≤ x + q
        ·have HY : Hid (wrapC P (C.getD i 0 + q) = x + q - P) := by unfold Hid wrapC; rw [HX.out, if_pos hy]
         by_cases hc2 : (z != x + q - P) = true
         ·go_wp2
          go_ret
          exact ⟨ret_bool (repB_no3 HC.out hil (by rw [HK.out]; unfold repOk; rw [HZ.out, HY.out]; simpa using hc2)).symm, b1⟩
         ·have hc3 : (z != x + q - P) = false := by simpa using hc2
          clear hc2
          go_wp2
          go_roundw
          case rel => exact ⟨i + 1, by omega, by go_num, (fun j hj => by
           rcases Nat.lt_succ_iff_lt_or_eq.1 hj with h | rfl
           ·exact HI.out j h
           ·unfold repOk; rw [HZ.out, HY.out]; simpa using hc3), trivial⟩
          case measure => simp [intOf]; omega
        ·have HY : Hid (wrapC P (C.getD i 0 + q) = x + q) := by unfold Hid wrapC; rw [HX.out, if_neg hy]
         by_cases hc2 : (z != x + q) = true
         ·go_wp2
          go_ret
          exact ⟨ret_bool (repB_no3 HC.out hil (by rw [HK.out]; unfold repOk; rw [HZ.out, HY.out]; simpa using hc2)).symm, b1⟩
         ·have hc3 : (z != x + q) = false := by simpa using hc2
          clear hc2
          go_wp2
          go_roundw
          case rel => exact ⟨i + 1, by omega, by go_num, (fun j hj => by
           rcases Nat.lt_succ_iff_lt_or_eq.1 hj with h | rfl
           ·exact HI.out j h
           ·unfold repOk; rw [HZ.out, HY.out]; simpa using hc3), trivial⟩
          case measure => simp [intOf]; omega
       ·clear hce
        go_wp2
        go_ret
        exact ⟨ret_bool (repB_yes HC.out T1.out T2.out (by rw [HK.out]; exact fun j hj => HI.out j (by omega))).symm, b1⟩
   ·clear hce
    obtain rfl : C = [] := List.eq_nil_of_length_eq_zero (by omega)
    go_wp2_with fail
    go_simp
    go_wp2
    go_ret
    exact ⟨ret_bool (repB_zero HC.out rfl).symm, b1⟩
end Go.Proofs.YtmfdnbfjdhlonaaGreatDoor
namespace Go.Proofs.YtmfdnbfjdhlonaaGreatDoor
open Go.RowKit Wk

theorem rv4 {l : List Sp} (h : rvB l = true) : Canon l ∧ Bnd l ∧ l.length ≤ 4096 := let ⟨a, b, c⟩ := canon_of_rvB h; ⟨a, b, by omega⟩
def LePost (P : Int) (l : List Sp) (w : World) (e : Ending) (w' : World) : Prop := ∃ v', e = .returned (.agg #[.int .i64 (leastM l P), v']) ∧ OwnS w' w.heap.size v' (cutM l (leastM l P)) ∧ Below w.heap.size w w'

set_option maxRecDepth 100000 in
set_option maxHeartbeats 1000000 in
theorem least_any (v : Value) (l : List Sp) (P : Int) (w : World) (h : RdS w v l) (hv : Canon l ∧ Bnd l ∧ l.length ≤ 4096) (hP1 : 1 ≤ P) (hP2 : P ≤ 12622780800) (hin : inside P l) :
  Calls Tryz.prog 113 #[.int .i64 P, v] w (LePost P l w) := by
 have HR := Lib.hid (fun q w' h' h1 h2 => rep_any v l P q w' h' hv hP1 hP2 h1 h2 hin)
 have HD := Lib.hid h
 have hlen := hv.2.2
 have HV := Lib.hid hv
 obtain ⟨a, c, rfl, hl, hc⟩ := h
 clear hv hin
 go_enter Tryz.func113, Tryz.ntmps113
 go_wp2_with fail
 go_step3
 go_wp2_with fail
 go_step3
 go_wp2_with fail
 obtain ⟨W1, hW1⟩ : ∃ W1, w.alloc (.cells #[.int .i64 0, .slice none 0 0] 29) = W1 := ⟨_, rfl⟩
 have hw1 : Below w.heap.size w W1 := by rw [← hW1]; exact (Below.refl _ _).alloc (Nat.le_refl _) _
 have hs1 : W1.heap.size = w.heap.size + 1 := by rw [← hW1]; simp
 have HRES : Hid (∀ W, Below W1.heap.size W1 W → W.cell? ⟨w.heap.size, 0, none⟩ = some (.int .i64 0) ∧ W.cell? ⟨w.heap.size, 1, none⟩ = some (.slice none 0 0) ∧ W.frozen? ⟨w.heap.size, 0, none⟩ = false ∧ W.frozen? ⟨w.heap.size, 1, none⟩ = false) := by
  intro W hW
  obtain ⟨q1, q2⟩ := bcell hW
  rw [q1 _ _ (by omega), q1 _ _ (by omega), q2 _ _ (by omega), q2 _ _ (by omega), ← hW1]
  simp [go_sem]
 rw [hW1]
 clear hW1
 have HS1 := Lib.hid hs1
 clear hs1
 have hsw : w.heap.size < W1.heap.size := by have := HS1.out; omega
 go_loopw [5, 6] (fun u i wr => ∃ (q best : Int) (n : Nat), (n : Int) + q = P + 1 ∧ 1 ≤ q ∧ i = .int .i64 q ∧ u = .int .i64 best ∧ Hid (leastLoop l P n q best = leastM l P) ∧ Below W1.heap.size W1 wr ∧ 1 ≤ best ∧ best ≤ P) (fun _ i _ => (P + 1 - intOf i).toNat)
 case atStart => exact ⟨1, P, P.toNat, by omega, by omega, rfl, rfl, rfl, Below.refl _ _, hP1, Int.le_refl _⟩
 case round =>
  obtain ⟨q, best, n, hn, hq, rfl, rfl, HL, hB, hb1, hb2⟩ := hrel
  have HN := Lib.hid hn
  clear hn
  have hd0 := Int.ediv_nonneg (a := P) (b := q) (by omega) (by omega)
  have hd1 := Int.natAbs_ediv_le_natAbs P q
  have hdP : P / q ≤ P := by omega
  clear hd1
  have hm0 := Int.emod_nonneg P (b := q) (by omega)
  have HB0 : Hid (Below w.heap.size w wr) := hw1.trans (hB.mono (by omega))
  by_cases h1 : q ≤ P / q
  ·obtain ⟨n', rfl⟩ : ∃ n', n = n' + 1 := ⟨n - 1, by have := HN.out; omega⟩
   by_cases h2 : P % q = 0
   ·have g2 : ((P % q) != 0) = false := by simp [h2]
    have H2 := Lib.hid h2
    clear h2
    cases hr : repB l P q with
    | true =>
     have HR1 := Lib.hid hr
     have HBB : Hid (leastM l P = q) := by rw [← HL.out]; exact leastLoop_hit h1 H2.out hr
     have HRR := Lib.hid (HR.out q wr (HD.out.below (Nat.le_refl _) HB0.out) hq (by omega))
     rw [hr] at HRR
     clear hr
     go_wp2_with (go_at_call 155; refine HRR.out.mono ?_; rintro e w2 ⟨rfl, hb2'⟩)
     have hB := hB.trans (hb2'.mono hB.size)
     have HC := Lib.hid hc
     clear hc
     go_wp2_with fail
     go_loopw [7, 38] (fun u i wr => ∃ k : Nat, k ≤ l.length ∧ i = .int .i64 k ∧ OwnS wr W1.heap.size u (cutT l q k) ∧ Below W1.heap.size W1 wr) (fun _ i _ => l.length - (intOf i).toNat)
     case atStart => exact ⟨0, Nat.zero_le _, rfl, OwnS.nil _ _, hB⟩
     case round =>
      obtain ⟨k, hk, rfl, ho, hB⟩ := hrel
      have hBw : Below w.heap.size w _ := hw1.trans (hB.mono (by omega))
      by_cases hlt : k < l.length
      ·obtain ⟨b, o, x, y, rfl, hbw, HXY, d1, d2⟩ := rd_at HC.out hBw hlt
       have HT := Lib.hid (cutT_succ q HXY.out hlt)
       have hl1 := cutT_len l q k
       have hsz := hB.size
       by_cases hx : x < q
       ·go_wp2_with (at_builtin; refine wpList_app_span rfl (.tmp 46) (.tmp 54) rfl rfl (ho.alloc _) (hB.alloc hsz _) rfl (by simp) (by omega) ?_; intro v1 w1 o1 b1 k1 z1; clear k1)
        go_roundw
        case rel => exact ⟨k + 1, by omega, by go_num, by rw [HT.out, if_pos hx]; exact o1, b1⟩
        case measure => simp [intOf]; omega
       ·go_wp2
        go_roundw
        case rel => exact ⟨k + 1, by omega, by go_num, by rw [HT.out, if_neg hx, List.append_nil]; exact ho.alloc _, hB.alloc hsz _⟩
        case measure => simp [intOf]; omega
      ·have HO : Hid (OwnS wr W1.heap.size u7 (cutM l q)) := by rw [← cutT_full l q k (by omega)]; exact ho
       obtain ⟨r1, r2, r3, r4⟩ := HRES.out _ hB
       obtain ⟨a7, c7, rfl, _⟩ := ho.form
       have hl7 : (cutM l q).length = (cutT l q k).length := by rw [← cutT_full l q k (by omega)]
       go_wp2
       refine bodyPost_ret (v := .agg #[.int .i64 q, .slice a7 (cutT l q k).length c7]) (by simp [results, Tryz.results113, go_sem, r1, r2]) rfl ?_
       exact ⟨.slice a7 (cutT l q k).length c7, by rw [HBB.out], by rw [HBB.out]; exact (OwnS.mono (OwnS.setCell (OwnS.setCell HO.out hsw _) hsw _) (by omega)), (hBw.setCell (Nat.le_refl _) _).setCell (Nat.le_refl _) _⟩
    | false =>
     have HR1 := Lib.hid hr
     have HRR := Lib.hid (HR.out q wr (HD.out.below (Nat.le_refl _) HB0.out) hq (by omega))
     rw [hr] at HRR
     clear hr
     cases hr2 : repB l P (P / q) with
     | true =>
      have HR2 := Lib.hid hr2
      have HRT := Lib.hid (fun W hW => HR.out (P / q) W hW (by omega) hdP)
      rw [hr2] at HRT
      clear hr2
      go_wp2_with fail
      refine HRR.out.mono ?_
      rintro e w2 ⟨rfl, hb2'⟩
      have hB2 := hB.trans (hb2'.mono hB.size)
      go_wp2_with fail
      refine (HRT.out w2 (HD.out.below (Nat.le_refl _) (hw1.trans (hB2.mono (by omega))))).mono ?_
      rintro e w3 ⟨rfl, hb3'⟩
      have hB3 := hB2.trans (hb3'.mono hB2.size)
      go_wp2
      go_roundw
      case rel => exact ⟨q + 1, P / q, n', by have := HN.out; omega, by omega, by go_num, rfl, by rw [← HL.out]; exact (leastLoop_far h1 H2.out HR1.out HR2.out).symm, hB3, by omega, hdP⟩
      case measure => simp [intOf]; omega
     | false =>
      have HR2 := Lib.hid hr2
      have HRT := Lib.hid (fun W hW => HR.out (P / q) W hW (by omega) hdP)
      rw [hr2] at HRT
      clear hr2
      go_wp2_with fail
      refine HRR.out.mono ?_
      rintro e w2 ⟨rfl, hb2'⟩
      have hB2 := hB.trans (hb2'.mono hB.size)
      go_wp2_with fail
      refine (HRT.out w2 (HD.out.below (Nat.le_refl _) (hw1.trans (hB2.mono (by omega))))).mono ?_
      rintro e w3 ⟨rfl, hb3'⟩
      have hB3 := hB2.trans (hb3'.mono hB2.size)
      go_wp2
      go_roundw
      case rel => exact ⟨q + 1, best, n', by have := HN.out; omega, by omega, by go_num, rfl, by rw [← HL.out]; exact (leastLoop_near h1 H2.out HR1.out HR2.out).symm, hB3, hb1, hb2⟩
      case measure => simp [intOf]; omega
   ·have g2 : ((P % q) != 0) = true := by simp [h2]
    have H2 := Lib.hid h2
    clear h2
    go_wp2
    go_roundw
    case rel => exact ⟨q + 1, best, n', by have := HN.out; omega, by omega, rfl, rfl, by rw [← HL.out]; exact (leastLoop_skip h1 H2.out).symm, hB, hb1, hb2⟩
    case measure => simp [intOf]; omega
  ·have HBB : Hid (leastM l P = best) := by rw [← HL.out]; exact leastLoop_stop h1
   have HC := Lib.hid hc
   clear hc
   go_wp2_with fail
   go_loopw [7, 38] (fun u i wr => ∃ k : Nat, k ≤ l.length ∧ i = .int .i64 k ∧ OwnS wr W1.heap.size u (cutT l best k) ∧ Below W1.heap.size W1 wr) (fun _ i _ => l.length - (intOf i).toNat)
   case atStart => exact ⟨0, Nat.zero_le _, rfl, OwnS.nil _ _, hB⟩
   case round =>
    obtain ⟨k, hk, rfl, ho, hB⟩ := hrel
    have hBw : Below w.heap.size w _ := hw1.trans (hB.mono (by omega))
    by_cases hlt : k < l.length
    ·obtain ⟨b, o, x, y, rfl, hbw, HXY, d1, d2⟩ := rd_at HC.out hBw hlt
     have HT := Lib.hid (cutT_succ best HXY.out hlt)
     have hl1 := cutT_len l best k
     have hsz := hB.size
     by_cases hx : x < best
     ·go_wp2_with (at_builtin; refine wpList_app_span rfl (.tmp 46) (.tmp 54) rfl rfl (ho.alloc _) (hB.alloc hsz _) rfl (by simp) (by omega) ?_; intro v1 w1 o1 b1 k1 z1; clear k1)
      go_roundw
      case rel => exact ⟨k + 1, by omega, by go_num, by rw [HT.out, if_pos hx]; exact o1, b1⟩
      case measure => simp [intOf]; omega
     ·go_wp2
      go_roundw
      case rel => exact ⟨k + 1, by omega, by go_num, by rw [HT.out, if_neg hx, List.append_nil]; exact ho.alloc _, hB.alloc hsz _⟩
      case measure => simp [intOf]; omega
    ·have HO : Hid (OwnS wr W1.heap.size u7 (cutM l best)) := by rw [← cutT_full l best k (by omega)]; exact ho
     obtain ⟨r1, r2, r3, r4⟩ := HRES.out _ hB
     obtain ⟨a7, c7, rfl, _⟩ := ho.form
     have hl7 : (cutM l best).length = (cutT l best k).length := by rw [← cutT_full l best k (by omega)]
     go_wp2
     refine bodyPost_ret (v := .agg #[.int .i64 best, .slice a7 (cutT l best k).length c7]) (by simp [results, Tryz.results113, go_sem, r1, r2]) rfl ?_
     exact ⟨.slice a7 (cutT l best k).length c7, by rw [HBB.out], by rw [HBB.out]; exact (OwnS.mono (OwnS.setCell (OwnS.setCell HO.out hsw _) hsw _) (by omega)), (hBw.setCell (Nat.le_refl _) _).setCell (Nat.le_refl _) _⟩

set_option maxHeartbeats 400000 in
theorem inside_any (v : Value) (l : List Sp) (P : Int) (w : World) (h : RdS w v l) :
  Calls Tryz.prog 159 #[v, .int .i64 P] w fun e w' => e = .returned (.bool (insB l P)) ∧ Below w.heap.size w w' := by
 have H := Lib.hid (rvalid_any v l w h)
 obtain ⟨a, c, rfl, hl, hc⟩ := h
 cases hv : rvB l with
 | false =>
  rw [hv] at H
  have HV := Lib.hid hv
  clear hv hc
  go_enter Tryz.func159, Tryz.ntmps159
  go_wp2_with (go_at_call 81; refine H.out.mono ?_; rintro e w0 ⟨rfl, hb0⟩)
  go_ret
  exact ⟨ret_bool (by unfold insB; rw [HV.out]; rfl), hb0⟩
 | true =>
  rw [hv] at H
  have HV := Lib.hid hv
  clear hv
  by_cases h0 : 0 < l.length
  ·have HF : Hid (∀ W, Below w.heap.size w W → ∃ b o, a = some ⟨b, o, none⟩ ∧ W.cell? ⟨b, o, none⟩ = some (.int .i64 (firstFr l)) ∧ W.cell? ⟨b, o + (l.length - 1) * 2 + 1, none⟩ = some (.int .i64 (lastTo l))) := by
    intro W hW
    obtain ⟨b1, o1, x1, y1, e1, _, H1, c1, _⟩ := rd_at (k := 0) hc hW h0
    subst e1
    obtain ⟨b2, o2, x2, y2, e2, _, H2, _, c2⟩ := rd_at (k := l.length - 1) hc hW (by omega)
    cases e2
    refine ⟨b1, o1, rfl, ?_, ?_⟩
    ·rw [firstFr, H1.out]; simpa using c1
    ·rw [lastTo, H2.out]; exact c2
   clear hc
   have g0 : (((l.length : Int)) == 0) = false := by simp; intro e; simp [e] at h0
   have HI : Hid (insB l P = (decide (0 ≤ firstFr l) && decide (lastTo l ≤ P))) := by
    unfold Hid insB
    have : (l.length == 0) = false := by simp; intro e; simp [e] at h0
    rw [HV.out, this]; simp
   go_enter Tryz.func159, Tryz.ntmps159
   go_wp2_with fail
   refine H.out.mono ?_
   rintro e w0 ⟨rfl, hb0⟩
   obtain ⟨b, o, rfl, f1, f2⟩ := HF.out w0 hb0
   by_cases hp : 0 ≤ firstFr l
   ·go_wp2
    all_goals go_ret
    all_goals exact ⟨ret_bool (by rw [HI.out]; simp [hp]), hb0⟩
   ·have gp : decide (0 ≤ firstFr l) = false := by simp; omega
    go_wp2
    all_goals go_ret
    all_goals exact ⟨ret_bool (by rw [HI.out, gp]; rfl), hb0⟩
  ·clear hc
   obtain rfl : l = [] := List.eq_nil_of_length_eq_zero (by omega)
   go_enter Tryz.func159, Tryz.ntmps159
   go_wp2_with (go_at_call 81; refine H.out.mono ?_; rintro e w0 ⟨rfl, hb0⟩)
   go_ret
   exact ⟨ret_bool (by unfold insB; rw [HV.out]; rfl), hb0⟩

set_option maxRecDepth 100000 in
set_option maxHeartbeats 1000000 in
theorem pvalid_any (P : Int) (v : Value) (l : List Sp) (w : World) (h : RdS w v l) :
  Calls Tryz.prog 119 #[.agg #[.int .i64 P, v]] w fun e w' => e = .returned (.bool (pvB P l)) ∧ Below w.heap.size w w' := by
 have HD := Lib.hid h
 obtain ⟨a, c, rfl, hl, hc⟩ := h
 clear hc
 generalize hvv : Value.slice a l.length c = v at *
 clear hvv
 have e0 : ∀ X, (extOf (w.alloc (.cells #[.int .i64 P, v] 29)) X).cell? ⟨w.heap.size, 0, none⟩ = some (.int .i64 P) := ext_cell (by simp [go_sem])
 have e1 : ∀ X, (extOf (w.alloc (.cells #[.int .i64 P, v] 29)) X).cell? ⟨w.heap.size, 1, none⟩ = some v := ext_cell (by simp [go_sem])
 have hB0 : Below w.heap.size w (w.alloc (.cells #[.int .i64 P, v] 29)) := (Below.refl _ _).alloc (Nat.le_refl _) _
 have HR := Lib.hid (HD.out.below (Nat.le_refl _) hB0)
 have HI := Lib.hid (fun X => inside_any v l P _ (ext_rd HR.out X))
 by_cases h1 : 1 ≤ P
 ·by_cases h2 : P ≤ 12622780800
  ·cases hi : insB l P with
   | false =>
    rw [hi] at HI
    have HF : Hid (pvB P l = false) := by unfold Hid pvB; rw [hi]; simp
    clear hi
    have g1 : decide (1 ≤ P) = true := by simpa using h1
    have g2 : decide (P ≤ 12622780800) = true := by simpa using h2
    go_enter Tryz.func119, Tryz.ntmps119
    go_wp2_with fail
    refine wp_region_ext (by kernel_rfl) (by kernel_rfl) ?_
    repeat (go_big_quiet_step ((go_at_call 159; refine calls_ext (HI.out _))))
    refine wpQuiet_nil ?_
    intro w1 hb1
    go_wp2
    go_ret
    exact ⟨ret_bool HF.out.symm, hB0.trans (hb1.mono (by simp))⟩
   | true =>
    rw [hi] at HI
    obtain ⟨hv, hins⟩ := inside_of_insB hi
    have HL := Lib.hid (fun W h' => least_any v l P W h' (rv4 hv) h1 h2 hins)
    have HV : Hid (pvB P l = (leastM l P == P)) := by unfold Hid pvB; rw [hi]; simp [h1, h2]
    have HW := Lib.hid (fun W h' => inside_any v l P W h')
    rw [hi] at HW
    clear hi hv hins HI
    have g1 : decide (1 ≤ P) = true := by simpa using h1
    have g2 : decide (P ≤ 12622780800) = true := by simpa using h2
    clear e0 e1
    have hf : ∀ (W : World) (x : Int) (a : Option Addr) (n c : Nat), (Instr.field 29 (.agg #[.int .i64 x, .slice a n c]) 0).run Tryz.prog W = .ok (.int .i64 x) W := fun _ _ _ _ _ => by kernel_rfl
    go_enter Tryz.func119, Tryz.ntmps119
    go_wp2_with fail
    go_region_held3 (fun w' => w'.cell? ⟨w.heap.size, 0, none⟩ = some (.int .i64 P) ∧ w'.cell? ⟨w.heap.size, 1, none⟩ = some v ∧ Below w.heap.size w w' ∧ RdS w' v l)
     (first | (refine ⟨?_, ?_, ?_, ?_⟩ <;> first | (simp [go_sem]; done) | (exact keepCell (by assumption) (by simp [go_sem, *])) | assumption | exact hB0.drew | exact keepBelow (by simp [*]) hbi | exact keepRd hbi (by simp [*]) | exact keepBelow (by simp [*]) hbl | exact keepRd hbl (by simp [*]) | exact HR.out.below (Nat.le_refl _) (Below.refl _ _).drew))
     (first
      | (go_at_call 159; refine (HW.out _ (by first | assumption | simp [*])).mono ?_; rintro e w' ⟨rfl, hbi⟩)
      | (go_at_call 113; refine (HL.out _ (by simp [*])).mono ?_; rintro e w' ⟨v', rfl, ho', hbl⟩; obtain ⟨a', c', rfl, _⟩ := ho'.form; clear ho'))
    go_wp2
    go_ret
    exact ⟨ret_bool HV.out.symm, by simp [*]⟩
  ·have g1 : decide (1 ≤ P) = true := by simpa using h1
   have g2 : decide (P ≤ 12622780800) = false := by simpa using h2
   go_enter Tryz.func119, Tryz.ntmps119
   go_wp2_with fail
   refine wp_region_ext (by kernel_rfl) (by kernel_rfl) ?_
   repeat (go_big_quiet_step (fail))
   refine wpQuiet_nil ?_
   intro w1 hb1
   go_wp2
   go_ret
   exact ⟨ret_bool (by unfold pvB; rw [g1, g2]; simp), hB0.trans (hb1.mono (by simp))⟩
 ·have g1 : decide (1 ≤ P) = false := by simpa using h1
  go_enter Tryz.func119, Tryz.ntmps119
  go_wp2_with fail
  refine wp_region_ext (by kernel_rfl) (by kernel_rfl) ?_
  repeat (go_big_quiet_step (fail))
  refine wpQuiet_nil ?_
  intro w1 hb1
  go_wp2
  go_ret
  exact ⟨ret_bool (by unfold pvB; rw [g1]; simp), hB0.trans (hb1.mono (by simp))⟩
end Go.Proofs.YtmfdnbfjdhlonaaGreatDoor
namespace Go.Proofs.YtmfdnbfjdhlonaaGreatDoor
open Go.RowKit Wk

set_option maxHeartbeats 1000000 in
theorem pequal_any (P1 P2 : Int) (v1 v2 : Value) (l1 l2 : List Sp) (w : World) (h1 : RdS w v1 l1) (h2 : RdS w v2 l2) :
  Calls Tryz.prog 85 #[.agg #[.int .i64 P1, v1], .agg #[.int .i64 P2, v2]] w fun e w' => e = .returned (.bool (peB P1 l1 P2 l2)) ∧ Below w.heap.size w w' := by
 have H1 := Lib.hid (fun W h => pvalid_any P1 v1 l1 W h)
 have H2 := Lib.hid (fun W h => pvalid_any P2 v2 l2 W h)
 have H3 := Lib.hid (fun W h h' => requal_any v1 v2 l1 l2 W h h')
 have hW : Below w.heap.size w ((w.alloc (.cells #[.int .i64 P1, v1] 29)).alloc (.cells #[.int .i64 P2, v2] 29)) := ((Below.refl _ _).alloc (Nat.le_refl _) _).alloc (by simp) _
 obtain ⟨W, hWe⟩ : ∃ W, (w.alloc (.cells #[.int .i64 P1, v1] 29)).alloc (.cells #[.int .i64 P2, v2] 29) = W := ⟨_, rfl⟩
 have c0 : W.cell? ⟨w.heap.size, 0, none⟩ = some (.int .i64 P1) := by rw [← hWe]; simp [go_sem]
 have c1 : W.cell? ⟨w.heap.size, 1, none⟩ = some v1 := by rw [← hWe]; simp [go_sem]
 have c2 : W.cell? ⟨w.heap.size + 1, 0, none⟩ = some (.int .i64 P2) := by rw [← hWe]; simp [go_sem]
 have c3 : W.cell? ⟨w.heap.size + 1, 1, none⟩ = some v2 := by rw [← hWe]; simp [go_sem]
 rw [hWe] at hW
 have R1 := Lib.hid (h1.below (Nat.le_refl _) hW)
 have R2 := Lib.hid (h2.below (Nat.le_refl _) hW)
 have HE := Lib.hid hWe
 clear hWe
 obtain ⟨a1, n1, rfl, hl1, _⟩ := h1
 obtain ⟨a2, n2, rfl, hl2, _⟩ := h2
 generalize hp1 : pvB P1 l1 = p1 at *
 generalize hp2 : pvB P2 l2 = p2 at *
 have HP1 := Lib.hid hp1
 have HP2 := Lib.hid hp2
 clear hp1 hp2
 go_enter Tryz.func85, Tryz.ntmps85
 go_wp2_with fail
 rw [HE.out]
 refine (H1.out _ R1.out).mono ?_
 rintro e w1 ⟨rfl, hb1⟩
 obtain ⟨q1, _⟩ := bcell hb1
 have a0 := (q1 _ _ (World.block_lt_of_cell? W _ c0)).trans c0
 have a1' := (q1 _ _ (World.block_lt_of_cell? W _ c1)).trans c1
 have a2' := (q1 _ _ (World.block_lt_of_cell? W _ c2)).trans c2
 have a3 := (q1 _ _ (World.block_lt_of_cell? W _ c3)).trans c3
 have hB1 := keepBelow hW hb1
 have S1 := Lib.hid (keepRd hb1 R1.out)
 have S2 := Lib.hid (keepRd hb1 R2.out)
 clear q1 hb1
 cases p1 with
 | false =>
  go_wp2
  go_ret
  exact ⟨ret_bool (by unfold peB; rw [HP1.out]; rfl), hB1⟩
 | true =>
  go_wp2_with fail
  refine (H2.out _ S2.out).mono ?_
  rintro e w2 ⟨rfl, hb2⟩
  obtain ⟨q2, _⟩ := bcell hb2
  have b0 := (q2 _ _ (World.block_lt_of_cell? w1 _ a0)).trans a0
  have b1 := (q2 _ _ (World.block_lt_of_cell? w1 _ a1')).trans a1'
  have b2 := (q2 _ _ (World.block_lt_of_cell? w1 _ a2')).trans a2'
  have b3 := (q2 _ _ (World.block_lt_of_cell? w1 _ a3)).trans a3
  have hB2 := keepBelow hB1 hb2
  have T1 := Lib.hid (keepRd hb2 S1.out)
  have T2 := Lib.hid (keepRd hb2 S2.out)
  clear q2 hb2
  cases p2 with
  | false =>
   go_wp2
   go_ret
   exact ⟨ret_bool (by unfold peB; rw [HP1.out, HP2.out]; rfl), hB2⟩
  | true =>
   by_cases hpp : P1 = P2
   ·have g0 : (P1 == P2) = true := by simpa using hpp
    have HPP := Lib.hid hpp
    clear hpp
    go_wp2_with fail
    refine (H3.out _ T1.out T2.out).mono ?_
    rintro e w3 ⟨rfl, hb3⟩
    have hB3 := keepBelow hB2 hb3
    go_wp2
    go_ret
    exact ⟨ret_bool (by unfold peB; rw [HP1.out, HP2.out, (rvB_of_pvB HP1.out).1, (rvB_of_pvB HP2.out).1, g0]; rfl), hB3⟩
   ·have g0 : (P1 == P2) = false := by simpa using hpp
    clear hpp
    go_wp2
    go_ret
    exact ⟨ret_bool (by unfold peB; rw [HP1.out, HP2.out, g0]; rfl), hB2⟩

set_option maxHeartbeats 1000000 in
theorem phas_any (P x : Int) (v : Value) (l : List Sp) (w : World) (h : RdS w v l) (hv : pvB P l = true) (hx1 : -1152921504606846976 ≤ x) (hx2 : x ≤ 1152921504606846976) :
  Calls Tryz.prog 254 #[.agg #[.int .i64 P, v], .int .i64 x] w fun e w' => e = .returned (.bool (hasP (P, l) x)) ∧ Below w.heap.size w w' := by
 obtain ⟨hr, hP1, hP2, hin⟩ := rvB_of_pvB hv
 have hcan := (canon_of_rvB hr).1
 have H1 := Lib.hid (fun W => imod_any x P W hP1 (by omega) hx1 hx2)
 have H2 := Lib.hid (fun W h => bs_per v l (x - x / P * P) W h hcan)
 have HD := Lib.hid h
 obtain ⟨a, c, rfl, hl, hc⟩ := h
 clear hv hr hin
 have e0 : (w.alloc (.cells #[.int .i64 P, .slice a l.length c] 29)).cell? ⟨w.heap.size, 0, none⟩ = some (.int .i64 P) := by simp [go_sem]
 have e1 : (w.alloc (.cells #[.int .i64 P, .slice a l.length c] 29)).cell? ⟨w.heap.size, 1, none⟩ = some (.slice a l.length c) := by simp [go_sem]
 have hB0 : Below w.heap.size w (w.alloc (.cells #[.int .i64 P, .slice a l.length c] 29)) := (Below.refl _ _).alloc (Nat.le_refl _) _
 have HR := Lib.hid (HD.out.below (Nat.le_refl _) hB0)
 generalize hWe : w.alloc (.cells #[.int .i64 P, .slice a l.length c] 29) = W at *
 have HE := Lib.hid hWe
 clear hWe
 have HX : Hid (hasP (P, l) x = inL l (x - x / P * P)) := rfl
 generalize hrr : x - x / P * P = r at *
 clear hrr
 go_enter Tryz.func254, Tryz.ntmps254
 go_wp2_with fail
 rw [HE.out]
 refine (H1.out _).mono ?_
 rintro e w1 ⟨rfl, hb1⟩
 have a0 := keepCell hb1 e0
 have a1 := keepCell hb1 e1
 have hB1 := keepBelow hB0 hb1
 have HR1 := Lib.hid (keepRd hb1 HR.out)
 clear hb1
 go_wp2_with fail
 refine (H2.out _ HR1.out).mono ?_
 rintro e w2 ⟨i, hi, rfl, hb2⟩
 have b0 := keepCell hb2 a0
 have b1 := keepCell hb2 a1
 have hB2 := keepBelow hB1 hb2
 have HI := Lib.hid (inL_srch hcan hi)
 have hil := hi.1
 clear hb2 hi
 by_cases hlt : i < l.length
 ·obtain ⟨b, o, y, z, rfl, hbw, HXY, d1, d2⟩ := rd_at (k := i) hc hB2 hlt
  clear hc
  go_wp2
  go_ret
  exact ⟨ret_bool (by rw [HX.out, HI.out, HXY.out]; simp [hlt]), hB2⟩
 ·clear hc
  go_wp2
  go_ret
  exact ⟨ret_bool (by rw [HX.out, HI.out]; simp [hlt]), hB2⟩

set_option maxHeartbeats 1000000 in
theorem pHas_any (P x : Int) (v : Value) (l : List Sp) (w : World) (h : RdS w v l) (hv : pvB P l = true) (hx1 : -1152921504606846976 ≤ x) (hx2 : x ≤ 1152921504606846976) :
  Calls Tryz.prog 253 #[.agg #[.int .i64 P, v], .int .i64 x] w fun e w' => e = .returned (.bool (hasP (P, l) x)) ∧ Below w.heap.size w w' := by
 have H1 := Lib.hid (fun W h => pvalid_any P v l W h)
 have H2 := Lib.hid (fun W h => phas_any P x v l W h hv hx1 hx2)
 rw [hv] at H1
 have HD := Lib.hid h
 obtain ⟨a, c, rfl, hl, hc⟩ := h
 clear hc hv
 have e0 : (w.alloc (.cells #[.int .i64 P, .slice a l.length c] 29)).cell? ⟨w.heap.size, 0, none⟩ = some (.int .i64 P) := by simp [go_sem]
 have e1 : (w.alloc (.cells #[.int .i64 P, .slice a l.length c] 29)).cell? ⟨w.heap.size, 1, none⟩ = some (.slice a l.length c) := by simp [go_sem]
 have hB0 : Below w.heap.size w (w.alloc (.cells #[.int .i64 P, .slice a l.length c] 29)) := (Below.refl _ _).alloc (Nat.le_refl _) _
 have HR := Lib.hid (HD.out.below (Nat.le_refl _) hB0)
 generalize hWe : w.alloc (.cells #[.int .i64 P, .slice a l.length c] 29) = W at *
 have HE := Lib.hid hWe
 clear hWe
 go_enter Tryz.func253, Tryz.ntmps253
 go_wp2_with fail
 rw [HE.out]
 refine (H1.out _ HR.out).mono ?_
 rintro e w1 ⟨rfl, hb1⟩
 have a0 := keepCell hb1 e0
 have a1 := keepCell hb1 e1
 have hB1 := keepBelow hB0 hb1
 have HR1 := Lib.hid (keepRd hb1 HR.out)
 clear hb1
 go_wp2_with fail
 refine (H2.out _ HR1.out).mono ?_
 rintro e w2 ⟨rfl, hb2⟩
 go_wp2
 go_ret
 exact ⟨rfl, keepBelow hB1 hb2⟩
end Go.Proofs.YtmfdnbfjdhlonaaGreatDoor
namespace Go.Proofs.YtmfdnbfjdhlonaaGreatDoor
open Go.RowKit Wk

theorem heap_setCells {b : Nat} : ∀ (vs : List Value) (o : Nat) (w : World) (cur : Array Value) (e : TypeId) (fr : Nat × Nat), w.heap[b]? = some (.cells cur e fr) → ∃ cur' : Array Value, (w.setCells b o vs).heap[b]? = some (.cells cur' e fr) ∧ cur'.size = cur.size
 | [], _, _, cur, _, _, h => ⟨cur, h, rfl⟩
 | v :: r, o, w, cur, e, fr, h => by
  have h1 : (w.setCell ⟨b, o, none⟩ v).heap[b]? = some (.cells (cur.setIfInBounds o v) e fr) := by
   simp [World.setCell, Array.getElem?_modify, h]
  obtain ⟨c', h2, h3⟩ := heap_setCells r (o + 1) _ _ e fr h1
  exact ⟨c', h2, by simpa using h3⟩
theorem grown_setCells {b : Nat} : ∀ (vs : List Value) (o : Nat) (w : World), w.grownBy (w.setCells b o vs) (some b)
 | [], _, w => ⟨rfl, rfl, rfl, Nat.le_refl _, fun _ _ _ => rfl⟩
 | v :: r, o, w => by
  have h := grown_setCells (b := b) r (o + 1) (w.setCell ⟨b, o, none⟩ v)
  have h3 : (w.setCell ⟨b, o, none⟩ v).heap.size = w.heap.size := by simp [World.setCell]
  have e : w.setCells b o (v :: r) = (w.setCell ⟨b, o, none⟩ v).setCells b (o + 1) r := rfl
  rw [e]
  refine ⟨h.os, h.tape, h.output, ?_, ?_⟩
  ·rw [← h3]; exact h.size
  ·intro k hk hne
   rw [h.block k (by rw [h3]; exact hk) hne]
   exact Below.heap_setCell _ _ _ _ (fun e => hne (by rw [e]))
theorem cell_of_block {w : World} {b : Nat} {cur : Array Value} {e : TypeId} {fr : Nat × Nat} (h : w.heap[b]? = some (.cells cur e fr)) (j : Nat) : w.cell? ⟨b, j, none⟩ = cur[j]? := by
 simp [World.cell?, h]
theorem frozen_of_block {w : World} {b : Nat} {cur : Array Value} {e : TypeId} (h : w.heap[b]? = some (.cells cur e (0, 0))) (j : Nat) : w.frozen? ⟨b, j, none⟩ = false := by
 simp [World.frozen?, h]
theorem shape_of_block {w : World} {b : Nat} {cur : Array Value} {e : TypeId} {fr : Nat × Nat} (h : w.heap[b]? = some (.cells cur e fr)) : w.shape? b = some (e, cur.size) := by
 simp [World.shape?, h]

theorem own_of_cells {w : World} {B g cap : Nat} {L : List Int} {cur : Array Value} (hB : B ≤ g) (hb : w.heap[g]? = some (.cells cur 3 (0, 0))) (hn : L.length ≤ cap) (hm : cap ≤ maxLen) (hs : cur.size = cap)
  (hc : ∀ j, j < L.length → w.cell? ⟨g, j, none⟩ = some (.int .i64 (L.getD j 0))) : OwnI w B (.slice (some ⟨g, 0, none⟩) L.length cap) L := by
 refine ⟨by simp [flatI], .inr ⟨g, cap, cur, rfl, hB, hb, hn, hm, by omega, ?_⟩⟩
 rw [Nat.mul_one]
 apply List.ext_getElem?
 intro j
 by_cases hj : j < L.length
 ·rw [List.getElem?_take_of_lt hj, Array.getElem?_toList, ← cell_of_block hb, hc j hj]
  simp [flatI, List.getD_eq_getElem?_getD, List.getElem?_eq_getElem hj]
 ·rw [List.getElem?_take_eq_none (by omega), List.getElem?_eq_none (by simp [flatI]; omega)]

def InsPost (L : List Int) (w0 : World) (e : Ending) (w' : World) : Prop := ∃ v', e = .returned v' ∧ OwnI w' w0.heap.size v' L ∧ Below w0.heap.size w0 w'

theorem ins0_any (v : Value) (L : List Int) (z : Int) (w0 W : World) (h : OwnI W w0.heap.size v L) (hb : Below w0.heap.size w0 W) (h0 : L ≠ []) (hl : L.length < 1000000000000) :
  Calls Tryz.prog 243 #[v, .int .i64 0, .slice (some ⟨W.heap.size, 0, none⟩) 1 1] (W.alloc (.cells #[.int .i64 z] 3)) (InsPost (z :: L) w0) := by
 have hpos : 0 < L.length := List.length_pos_iff.2 h0
 obtain ⟨h1, h2⟩ := h
 rcases h2 with ⟨_, hz⟩ | ⟨g, cap, cur, rfl, hg, hgg, hn, hcap, hsz, htk⟩
 ·omega
 rw [Nat.mul_one] at hsz htk
 have hgl : g < W.heap.size := (Array.getElem?_eq_some_iff.1 hgg).1
 have hW : (W.alloc (.cells #[.int .i64 z] 3)).heap[g]? = some (.cells cur 3 (0, 0)) := (Below.heap_alloc _ _ _ hgl).trans hgg
 have hN : (W.alloc (.cells #[.int .i64 z] 3)).heap[W.heap.size]? = some (.cells #[.int .i64 z] 3 (0, 0)) := heap_alloc_new W _
 have hcL : ∀ j, j < L.length → cur[j]? = some (.int .i64 (L.getD j 0)) := by
  intro j hj
  have : (cur.toList.take L.length)[j]? = (flatI L)[j]? := by rw [htk]
  rw [List.getElem?_take_of_lt hj, Array.getElem?_toList] at this
  rw [this]
  simp [flatI, List.getD_eq_getElem?_getD, List.getElem?_eq_getElem hj]
 have hcs : ∀ j u, (flatI L)[j]? = some u → (W.alloc (.cells #[.int .i64 z] 3)).cell? ⟨g, 0 + j, none⟩ = some u := by
  intro j u hu
  have hj : j < L.length := by have := (List.getElem?_eq_some_iff.1 hu).1; simpa [flatI] using this
  rw [Nat.zero_add, cell_of_block hW, hcL j hj, ← hu]
  simp [flatI, List.getD_eq_getElem?_getD, List.getElem?_eq_getElem hj]
 have hvs : ∀ j u, [Value.int .i64 z][j]? = some u → (W.alloc (.cells #[.int .i64 z] 3)).cell? ⟨W.heap.size, 0 + j, none⟩ = some u := by
  intro j u hu
  rw [Nat.zero_add, cell_of_block hN, ← hu]; simp
 have hone : ∀ u ∈ [Value.int .i64 z], u.oneCell' = true := by intro u hu; simp at hu; subst hu; rfl
 have hbW : Below w0.heap.size w0 (W.alloc (.cells #[.int .i64 z] 3)) := hb.alloc hb.size _
 by_cases hr : L.length + 1 ≤ cap
 ·refine (Any2.slices_Insert_int_shift Tryz.byhand21 g 0 L.length cap 0 W.heap.size 0 1 1 (flatI L) [.int .i64 z] _ hpos (by omega) hr (by unfold maxLen at hcap; omega) (by omega) (by simp [flatI]) rfl hcs
   (fun j hj => by rw [Nat.zero_add, cell_of_block hW, Array.getElem?_eq_getElem (by omega)]; rfl) (fun j _ => frozen_of_block hW _) hvs (flatI_oneCell L) hone
   3 3 1 cur.size (by simpa using shape_of_block hN) (shape_of_block hW) (by omega) (frozen_of_block hN _) (frozen_of_block hN _)).mono ?_
  rintro e w' ⟨rfl, rfl⟩
  have hWd : (W.alloc (.cells #[.int .i64 z] 3)).drew.heap[g]? = some (.cells cur 3 (0, 0)) := hW
  obtain ⟨c1, k1, s1⟩ := heap_setCells ((flatI L).drop 0) (0 + (0 + 1)) _ _ _ _ hWd
  obtain ⟨c2, k2, s2⟩ := heap_setCells [Value.int .i64 z] (0 + 0) _ _ _ _ k1
  refine ⟨_, rfl, own_of_cells (L := z :: L) hg k2 (by simpa using hr) hcap (by omega) ?_, ?_⟩
  ·intro j hj
   simp only [List.length_cons] at hj
   cases j with
   | zero =>
    have := World.cell?_setCells_in g [Value.int .i64 z] (0 + 0) _ (fun j hj => by
     rw [cell_of_block k1, Array.getElem?_eq_getElem (by simp at hj; omega)]; rfl) 0 (by simp)
    simpa using this
   | succ j =>
    rw [World.cell?_setCells_out g [Value.int .i64 z] (0 + 0) _ ⟨g, j + 1, none⟩ (fun _ _ => by right; simp)]
    have := World.cell?_setCells_in g ((flatI L).drop 0) (0 + (0 + 1)) _ (fun i hi => by
     rw [cell_of_block hWd, Array.getElem?_eq_getElem (by simp [flatI] at hi; omega)]; rfl) j (by simp [flatI]; omega)
    rw [show 0 + (0 + 1) + j = j + 1 by omega] at this
    rw [this]
    simp [flatI, List.getD_eq_getElem?_getD, List.getElem?_eq_getElem (by omega : j < L.length)]
  ·refine (Below.grown (hbW.drew.grown (grown_setCells _ _ _) hbW.drew.size (fun k hk => by cases hk; exact hg)) (grown_setCells _ _ _) ?_ (fun k hk => by cases hk; exact hg))
   exact (hbW.drew.grown (grown_setCells _ _ _) hbW.drew.size (fun k hk => by cases hk; exact hg)).size
 ·have hge := grownCap_ge (W.alloc (.cells #[.int .i64 z] 3)) (L.length + 1) cap 3
  have hle := grownCap_le_maxLen (W.alloc (.cells #[.int .i64 z] 3)) (L.length + 1) cap 3 (by unfold maxLen; omega)
  refine (Any2.slices_Insert_int_grow Tryz.byhand21 g 0 L.length cap 0 W.heap.size 0 1 1 (flatI L) [.int .i64 z] _ hpos (by omega) hn (by omega) (by omega) (by simp [flatI]) rfl hcs hvs (flatI_oneCell L) hone).mono ?_
  rintro e w' ⟨rfl, rfl⟩
  generalize hW1 : W.alloc (.cells #[.int .i64 z] 3) = W1 at *
  have hcp : grownCap W1 (L.length + 1) cap (Tryz.byhand21_ren.t 3) = grownCap W1 (L.length + 1) cap 3 := rfl
  rw [hcp]
  generalize grownCap W1 (L.length + 1) cap 3 = C at *
  generalize hAA : ((List.take 0 (flatI L)).toArray ++ Builtin.zeroCells (Value.int .i64 0).cells (L.length + 1 - 0) ++ Builtin.zeroCells (Value.int .i64 0).cells (C - (L.length + 1))) = A0
  have hAs : A0.size = C := by
   rw [← hAA]; simp [size_zeroCells, Value.cells]; omega
  have hA : (W1.alloc (.cells A0 (Tryz.byhand21_ren.t 3))).drew.heap[W1.heap.size]? = some (.cells A0 3 (0, 0)) := heap_alloc_new W1 _
  obtain ⟨c1, k1, s1⟩ := heap_setCells [Value.int .i64 z] 0 _ _ _ _ hA
  have k1' : ((W1.alloc (.cells A0 (Tryz.byhand21_ren.t 3))).drew.setCells W1.heap.size 0 [Value.int .i64 z]).drew.heap[W1.heap.size]? = some (.cells c1 3 (0, 0)) := k1
  obtain ⟨c2, k2, s2⟩ := heap_setCells ((flatI L).drop 0) (0 + 1) _ _ _ _ k1'
  refine ⟨_, rfl, own_of_cells (L := z :: L) (cap := C) hbW.size k2 (by simpa using hge) hle (by omega) ?_, ?_⟩
  ·intro j hj
   simp only [List.length_cons] at hj
   cases j with
   | zero =>
    rw [World.cell?_setCells_out W1.heap.size ((flatI L).drop 0) (0 + 1) _ ⟨W1.heap.size, 0, none⟩ (fun _ _ => by left; simp)]
    have := World.cell?_setCells_in W1.heap.size [Value.int .i64 z] 0 (W1.alloc (.cells A0 (Tryz.byhand21_ren.t 3))).drew (fun j hj => by
     rw [cell_of_block hA, Array.getElem?_eq_getElem (by simp at hj; omega)]; rfl) 0 (by simp)
    simpa using this
   | succ j =>
    have := World.cell?_setCells_in W1.heap.size ((flatI L).drop 0) (0 + 1) _ (fun i hi => by
     rw [cell_of_block k1', Array.getElem?_eq_getElem (by simp [flatI] at hi; omega)]; rfl) j (by simp [flatI]; omega)
    rw [show 0 + 1 + j = j + 1 by omega] at this
    rw [this]
    simp [flatI, List.getD_eq_getElem?_getD, List.getElem?_eq_getElem (by omega : j < L.length)]
  ·have b1 : Below w0.heap.size w0 (W1.alloc (.cells A0 (Tryz.byhand21_ren.t 3))).drew := (hbW.alloc hbW.size _).drew
   have b2 := (b1.grown (grown_setCells (b := W1.heap.size) [Value.int .i64 z] 0 _) b1.size (fun k hk => by cases hk; exact hbW.size)).drew
   exact b2.grown (grown_setCells _ _ _) b2.size (fun k hk => by cases hk; exact hbW.size)
end Go.Proofs.YtmfdnbfjdhlonaaGreatDoor
