import Derived.Test.YtmfdnbfjdhlonaaGreatDoorWkRfA
import Derived.Deep.AppendLies
import Derived.Deep.RegionLaw
import Derived.Test.YtmfdnbfjdhlonaaGreatDoorWkPl
import Derived.Deep.CutBlock
import Derived.Test.YtmfdnbfjdhlonaaGreatDoorWkBa
import Derived.Deep.RegionHeld3
/- The reference's periodic sets: Same, ends. -/
namespace Go.Proofs.YtmfdnbfjdhlonaaGreatDoor
open Go.RowKit Wk

set_option maxHeartbeats 800000 in
theorem psame_any (v1 v2 : Value) (l1 l2 : List Sp) (w : World) (h1 : RdS w v1 l1) (h2 : RdS w v2 l2) :
  Calls Tryz.prog 80 #[v1, v2] w fun e w' => e = .returned (.bool (decide (l1 = l2))) ∧ Below w.heap.size w w' := by
 obtain ⟨a1, c1, rfl, hl1, hc1⟩ := h1
 obtain ⟨a2, c2, rfl, hl2, hc2⟩ := h2
 by_cases hn : l1.length = l2.length
 ·have HN := Lib.hid hn
  have g0 : (((l1.length : Int)) == (l2.length : Int)) = true := by simp; omega
  have g1 : (((l1.length : Int)) != (l2.length : Int)) = false := by simp; omega
  have hle : l1.length ≤ l2.length := by omega
  clear hn
  go_enter Tryz.func80, Tryz.ntmps80
  go_wp2_with fail
  go_loopw [5] (fun i wr => ∃ k : Nat, k ≤ l1.length ∧ i = .int .i64 k ∧ Hid (∀ j, j < k → l1.getD j (0, 0) = l2.getD j (0, 0)) ∧ Below w.heap.size w wr) (fun i _ => l1.length - (intOf i).toNat)
  case atStart => exact ⟨0, Nat.zero_le _, rfl, fun j hj => by omega, Below.refl _ _⟩
  case round =>
   obtain ⟨k, hk, rfl, HK, hB⟩ := hrel
   by_cases hlt : k < l1.length
   ·obtain ⟨b, o, x, y, rfl, hbw, HXY, d1, d2⟩ := rd_at hc1 hB hlt
    obtain ⟨b', o', x', y', rfl, hbw', HXY', d1', d2'⟩ := rd_at (k := k) hc2 hB (by omega)
    clear hc1 hc2
    have e1 := ext_cell d1
    have e2 := ext_cell d2
    have e1' := ext_cell d1'
    have e2' := ext_cell d2'
    have hsz := hB.size
    have hlt2 : k < l2.length := by omega
    have hg := span_guard
    have hq := span_neq x y x' y'
    by_cases he : (x == x' && y == y') = true
    ·go_wp2_with fail
     refine wp_region_ext (by kernel_rfl) (by kernel_rfl) ?_
     repeat (go_big_quiet_step (fail))
     refine wpQuiet_nil ?_
     intro w1 hb1
     have hBn := hB.trans (hb1.mono hsz)
     go_wp2
     go_roundw
     case rel => exact ⟨k + 1, by omega, by go_num, (fun j hj => by
      rcases Nat.lt_succ_iff_lt_or_eq.1 hj with h | rfl
      ·exact HK.out j h
      ·rw [HXY.out, HXY'.out]; simp at he; rw [he.1, he.2]), hBn⟩
     case measure => simp [intOf]; omega
    ·have he' : (x == x' && y == y') = false := by simpa using he
     clear he
     go_wp2_with fail
     refine wp_region_ext (by kernel_rfl) (by kernel_rfl) ?_
     repeat (go_big_quiet_step (fail))
     refine wpQuiet_nil ?_
     intro w1 hb1
     have hBn := hB.trans (hb1.mono hsz)
     go_wp2
     go_ret
     refine ⟨ret_bool ?_, hBn⟩
     symm
     rw [decide_eq_false_iff_not]
     intro e
     have h1 := HXY.out
     have h2 := HXY'.out
     rw [e] at h1
     rw [h1] at h2
     simp at h2 he'
     exact he' h2.1 h2.2
   ·clear hc1 hc2
    go_wp2
    go_ret
    exact ⟨ret_bool (by symm; rw [decide_eq_true_iff]; exact list_eq_of_getD HN.out (fun j hj => HK.out j (by omega))), hB⟩
 ·have HN := Lib.hid hn
  have g0 : (((l1.length : Int)) == (l2.length : Int)) = false := by simp; omega
  have g1 : (((l1.length : Int)) != (l2.length : Int)) = true := by simp; omega
  clear hn
  go_enter Tryz.func80, Tryz.ntmps80
  go_wp2
  go_ret
  exact ⟨ret_bool (by symm; rw [decide_eq_false_iff_not]; intro e; exact HN.out (by rw [e])), Below.refl _ _⟩

def EnPost (a b : List Sp) (w : World) (e : Ending) (w' : World) : Prop := ∃ v, e = .returned v ∧ OwnI w' w.heap.size v (cutsOf a b) ∧ Below w.heap.size w w'

theorem step_app_int2 {ops : Array Oper} {o : Oper} {a : Act} {K : Act → World → Prop} {Q : Exit → Act → World → Prop} {E : Prop} {w0 W : World} {v : Value} {L : List Int} {z1 z2 : Int} (hgd : o.guard = none) (s x : Operand)
  (ho : o.op = .call { callee := .builtin .append, args := #[s, x], argTypes := #[53, 53] }) (hs : a.eval s = v) (hown : OwnI W w0.heap.size v L) (hbw : Below w0.heap.size w0 W)
  {n : Nat} (hx : a.eval x = .slice (some ⟨n, 0, none⟩) 2 2) (hn : n = W.heap.size) (hlen : L.length < 1000000000000)
  (h : ∀ v' w', OwnI w' w0.heap.size v' (L ++ [z1, z2]) → Below w0.heap.size w0 w' → K (a.put o.dst v') w') :
  if Region.wanted o (yielded ops a.tmps) = true then Oper.wp Tryz.prog o a (W.alloc (.cells #[.int .i64 z1, .int .i64 z2] 3)) K Q else E := by
 subst hn
 have hw : Region.wanted o (yielded ops a.tmps) = true := by simp [Region.wanted, hgd]
 rw [if_pos hw]
 obtain ⟨i0, hi, hz0, hz1, hz2⟩ := info_parts Tryz.infoInt
 have hsz := hbw.size
 refine wp_append_lies _ s x 53 ho w0.heap.size 3 i0 (.int .i64 0) 1 8 Tryz.underlying53 hi hz0 hz1 hz2 rfl (by decide) v L.length (flatI L) hs (hown.alloc _) ⟨W.heap.size, 0, none⟩ 2 2 [.int .i64 z1, .int .i64 z2] hx rfl ?_ ?_ (by decide) (by unfold maxLen; omega) (by omega) (by simp; omega) _ rfl ?_
 ·intro j u hu
  have hj := (List.getElem?_eq_some_iff.1 hu).1
  rw [WideShapes.add_plain]
  simp at hj
  rcases (by omega : j = 0 ∨ j = 1) with rfl | rfl
  ·simp at hu; subst hu; simp
  ·simp at hu; subst hu; simp
 ·intro u hu; simp at hu; rcases hu with rfl | rfl <;> rfl
 ·intro g cap w' hown' hg _ _
  refine h _ w' ?_ ?_
  ·unfold OwnI
   simpa [flatI] using hown'
  ·exact (hbw.alloc hsz _).grown hg (by simp; omega) (fun k hk => (hown.lt k hk).1)

set_option maxRecDepth 100000 in
set_option maxHeartbeats 4000000 in
theorem ends_any (va vb : Value) (a b : List Sp) (w : World) (ha : RdS w va a) (hb : RdS w vb b) (hla : a.length ≤ 100000000000) (hlb : b.length ≤ 100000000000) :
  Calls Tryz.prog 115 #[va, vb] w (EnPost a b w) := by
 obtain ⟨p, c, rfl, hl1, hc1⟩ := ha
 obtain ⟨q, d, rfl, hl2, hc2⟩ := hb
 have HC2 := Lib.hid hc2
 clear hc2
 go_enter Tryz.func115, Tryz.ntmps115
 go_wp2_with fail
 go_loopw [5, 8] (fun u i wr => ∃ k : Nat, k ≤ a.length ∧ i = .int .i64 k ∧ OwnI wr w.heap.size u (endsOf (a.take k)) ∧ Below w.heap.size w wr) (fun _ i _ => a.length - (intOf i).toNat)
 case atStart => exact ⟨0, Nat.zero_le _, rfl, OwnI.nil _ _, Below.refl _ _⟩
 case round =>
  obtain ⟨k, hk, rfl, ho, hB⟩ := hrel
  by_cases hlt : k < a.length
  ·obtain ⟨bb, o, x, y, rfl, hbw, HXY, d1, d2⟩ := rd_at hc1 hB hlt
   have HC := Lib.hid hc1
   clear hc1
   have hsz := hB.size
   have HT := Lib.hid (endsOf_take_succ HXY.out hlt)
   have hl3 : (endsOf (a.take k)).length < 1000000000000 := by rw [endsOf_len]; simp; omega
   obtain ⟨L, hL⟩ : ∃ L, endsOf (a.take k) = L := ⟨_, rfl⟩
   rw [hL] at ho hl3
   have HL := Lib.hid hL
   clear hL
   go_wp2_with fail
   have hBd : Below (wr).heap.size wr (wr).drew := (Below.refl _ _).drew
   have hod := (ho).below hBd
   have hBt := keepBelow hB hBd
   have e1 := ext_cell d1
   have e2 := ext_cell d2
   go_region_law (refine step_app_int2 rfl (.tmp 18) (.tmp 29) rfl rfl hod hBt rfl (by simp) hl3 ?_; intro v1 w3 o1 b1)
   all_goals go_wp2
   all_goals go_roundw
   all_goals first | (exact ⟨k + 1, by omega, by go_num, by rw [HT.out, HL.out]; exact o1, b1⟩) | (simp [intOf]; omega)
  ·have hkl : endsOf (a.take k) = endsOf a := by rw [List.take_of_length_le (by omega)]
   rw [hkl] at ho
   clear hc1 hkl
   obtain ⟨X, hX⟩ : ∃ X, endsOf a = X := ⟨_, rfl⟩
   rw [hX] at ho
   have hlX : X.length ≤ 200000000000 := by rw [← hX, endsOf_len]; omega
   have HX := Lib.hid hX
   clear hX
   go_wp2_with fail
   go_loopw [6, 9] (fun u i w2 => ∃ k : Nat, k ≤ b.length ∧ i = .int .i64 k ∧ OwnI w2 wr.heap.size u (endsOf (b.take k)) ∧ Below wr.heap.size wr w2) (fun _ i _ => b.length - (intOf i).toNat)
   case atStart => exact ⟨0, Nat.zero_le _, rfl, OwnI.nil _ _, Below.refl _ _⟩
   case round =>
    obtain ⟨k, hk, rfl, ho2, hB2⟩ := hrel
    by_cases hlt : k < b.length
    ·obtain ⟨bb, o, x, y, rfl, hbw, HXY, d1, d2⟩ := rd_at HC2.out (keepBelow hB hB2) hlt
     have hsz := hB2.size
     have HT := Lib.hid (endsOf_take_succ HXY.out hlt)
     have hl3 : (endsOf (b.take k)).length < 1000000000000 := by rw [endsOf_len]; simp; omega
     obtain ⟨L, hL⟩ : ∃ L, endsOf (b.take k) = L := ⟨_, rfl⟩
     rw [hL] at ho2 hl3
     have HL := Lib.hid hL
     clear hL
     go_wp2_with fail
     have hBd : Below (wr).heap.size wr (wr).drew := (Below.refl _ _).drew
     have hod := (ho2).below hBd
     have hBt := keepBelow hB2 hBd
     have e1 := ext_cell d1
     have e2 := ext_cell d2
     go_region_law (refine step_app_int2 rfl (.tmp 37) (.tmp 48) rfl rfl hod hBt rfl (by simp) hl3 ?_; intro v1 w3 o1 b1)
     all_goals go_wp2
     all_goals go_roundw
     all_goals first | (exact ⟨k + 1, by omega, by go_num, by rw [HT.out, HL.out]; exact o1, b1⟩) | (simp [intOf]; omega)
    ·have hkl : endsOf (b.take k) = endsOf b := by rw [List.take_of_length_le (by omega)]
     rw [hkl] at ho2
     clear hkl
     obtain ⟨Y, hY⟩ : ∃ Y, endsOf b = Y := ⟨_, rfl⟩
     rw [hY] at ho2
     have hlY : Y.length ≤ 200000000000 := by rw [← hY, endsOf_len]; omega
     have HY := Lib.hid hY
     clear hY
     have hox := ho.below hB2
     have hBv := keepBelow hB hB2
     have hoy := ho2.mono hB.size
     clear ho ho2
     obtain ⟨Z, hZ⟩ : ∃ Z, mrg X Y = Z := ⟨_, rfl⟩
     have hlZ : Z.length = X.length + Y.length := by rw [← hZ, mrg_len]
     have HZ : Hid (cutsOf a b = Z) := by unfold Hid cutsOf; rw [HX.out, HY.out, hZ]
     have HZ0 := Lib.hid hZ
     clear hZ
     obtain ⟨p1, n1, rfl, hfx⟩ := hox.form
     obtain ⟨p2, n2, rfl, hfy⟩ := hoy.form
     clear hox hoy
     go_wp2_with fail
     go_loopw [7, 10, 11] (fun u i k w3 => ∃ (m n : Nat) (out : List Int), m ≤ X.length ∧ n ≤ Y.length ∧ i = .int .i64 m ∧ k = .int .i64 n ∧ OwnI w3 wr.heap.size u out ∧ Hid (out ++ mrg (X.drop m) (Y.drop n) = Z) ∧ out.length = m + n ∧ Below wr.heap.size wr w3) (fun _ i k _ => X.length + Y.length - (intOf i).toNat - (intOf k).toNat)
     case atStart => exact ⟨0, 0, [], by omega, by omega, rfl, rfl, OwnI.nil _ _, HZ0.out, rfl, Below.refl _ _⟩
     case round =>
      obtain ⟨m, n, out, hm, hn, rfl, rfl, ho, HM, hlo, hB3⟩ := hrel
      have hlo2 : out.length < 1000000000000 := by omega
      by_cases hm1 : m < X.length
      ·have hn2 : Y.length ≤ n ∨ n < Y.length := by omega
       obtain ⟨g1, rfl, _, cx⟩ := hfx m hm1
       have dx := keepCell hB3 cx
       obtain ⟨x, hx⟩ : ∃ x, X.getD m 0 = x := ⟨_, rfl⟩
       rw [hx] at dx
       have HHX := Lib.hid hx
       have ex := ext_cell dx
       clear hx cx
       have t1 : decide ((m : Int) < (X.length : Int)) = true := by simp; omega
       rcases hn2 with hn2 | hn2
       ·have t2 : ((n : Int) == (Y.length : Int)) = true := by simp; omega
        have HM1 : Hid ((out ++ [x]) ++ mrg (X.drop (m + 1)) (Y.drop n) = Z) := by
         unfold Hid; rw [← HM.out, mrg_left hm1 (.inl hn2), HHX.out]; simp
        clear hfx hfy
        go_wp2_with fail
        refine wp_region_ext (by kernel_rfl) (by kernel_rfl) ?_
        iterate 21 (go_big_quiet_step (fail))
        refine wpQuiet_nil ?_
        intro w4 hb4
        have ho4 := ho.below hb4
        have hB4 := keepBelow hB3 hb4
        have dx4 := keepCell hb4 dx
        have hsz4 := hB4.size
        clear ex dx hb4
        go_wp2_with (at_builtin; refine wpList_app_int rfl (.tmp 81) (.tmp 86) rfl rfl ho4 hB4 rfl rfl hlo2 ?_; intro v1 w5 o1 b1 k1 z1; clear k1)
        go_roundw
        case rel => exact ⟨m + 1, n, out ++ [x], by omega, hn, by go_num, rfl, o1, HM1, by simp; omega, b1⟩
        case measure => simp [intOf]; omega
       ·have t2 : ((n : Int) == (Y.length : Int)) = false := by simp; omega
        obtain ⟨g2, rfl, _, cy⟩ := hfy n hn2
        have dy := keepCell hB3 cy
        obtain ⟨y, hy⟩ : ∃ y, Y.getD n 0 = y := ⟨_, rfl⟩
        rw [hy] at dy
        have HHY := Lib.hid hy
        have ey := ext_cell dy
        clear hy cy
        by_cases hxy : x ≤ y
        ·have t3 : decide (x ≤ y) = true := by simpa using hxy
         have HM1 : Hid ((out ++ [x]) ++ mrg (X.drop (m + 1)) (Y.drop n) = Z) := by
          unfold Hid; rw [← HM.out, mrg_left hm1 (.inr (by rw [HHX.out, HHY.out]; exact hxy)), HHX.out]; simp
         clear hfx hfy
         go_wp2_with fail
         refine wp_region_ext (by kernel_rfl) (by kernel_rfl) ?_
         iterate 21 (go_big_quiet_step (fail))
         refine wpQuiet_nil ?_
         intro w4 hb4
         have ho4 := ho.below hb4
         have hB4 := keepBelow hB3 hb4
         have dx4 := keepCell hb4 dx
         have hsz4 := hB4.size
         clear ex dx ey dy hb4
         go_wp2_with (at_builtin; refine wpList_app_int rfl (.tmp 81) (.tmp 86) rfl rfl ho4 hB4 rfl rfl hlo2 ?_; intro v1 w5 o1 b1 k1 z1; clear k1)
         go_roundw
         case rel => exact ⟨m + 1, n, out ++ [x], by omega, hn, by go_num, rfl, o1, HM1, by simp; omega, b1⟩
         case measure => simp [intOf]; omega
        ·have t3 : decide (x ≤ y) = false := by simpa using hxy
         have HM1 : Hid ((out ++ [y]) ++ mrg (X.drop m) (Y.drop (n + 1)) = Z) := by
          unfold Hid; rw [← HM.out, mrg_right hn2 (.inr (by rw [HHX.out, HHY.out]; omega)), HHY.out]; simp
         clear hfx hfy
         go_wp2_with fail
         refine wp_region_ext (by kernel_rfl) (by kernel_rfl) ?_
         iterate 21 (go_big_quiet_step (fail))
         refine wpQuiet_nil ?_
         intro w4 hb4
         have ho4 := ho.below hb4
         have hB4 := keepBelow hB3 hb4
         have dy4 := keepCell hb4 dy
         have hsz4 := hB4.size
         clear ex dx ey dy hb4
         go_wp2_with (at_builtin; refine wpList_app_int rfl (.tmp 90) (.tmp 95) rfl rfl ho4 hB4 rfl rfl hlo2 ?_; intro v1 w5 o1 b1 k1 z1; clear k1)
         go_roundw
         case rel => exact ⟨m, n + 1, out ++ [y], hm, by omega, rfl, by go_num, o1, HM1, by simp; omega, b1⟩
         case measure => simp [intOf]; omega
      ·have t1 : decide ((m : Int) < (X.length : Int)) = false := by simp; omega
       by_cases hn1 : n < Y.length
       ·obtain ⟨g2, rfl, _, cy⟩ := hfy n hn1
        have dy := keepCell hB3 cy
        obtain ⟨y, hy⟩ : ∃ y, Y.getD n 0 = y := ⟨_, rfl⟩
        rw [hy] at dy
        have HHY := Lib.hid hy
        clear hy cy
        have t2 : ((n : Int) == (Y.length : Int)) = false := by simp; omega
        have HM1 : Hid ((out ++ [y]) ++ mrg (X.drop m) (Y.drop (n + 1)) = Z) := by
         unfold Hid; rw [← HM.out, mrg_right hn1 (.inl (by omega)), HHY.out]; simp
        clear hfx hfy
        go_wp2_with fail
        refine wp_region_ext (by kernel_rfl) (by kernel_rfl) ?_
        iterate 21 (go_big_quiet_step (fail))
        refine wpQuiet_nil ?_
        intro w4 hb4
        have ho4 := ho.below hb4
        have hB4 := keepBelow hB3 hb4
        have dy4 := keepCell hb4 dy
        have hsz4 := hB4.size
        clear dy hb4
        go_wp2_with (at_builtin; refine wpList_app_int rfl (.tmp 90) (.tmp 95) rfl rfl ho4 hB4 rfl rfl hlo2 ?_; intro v1 w5 o1 b1 k1 z1; clear k1)
        go_roundw
        case rel => exact ⟨m, n + 1, out ++ [y], hm, by omega, rfl, by go_num, o1, HM1, by simp; omega, b1⟩
        case measure => simp [intOf]; omega
       ·have hout : Hid (out = Z) := by
         unfold Hid; have := HM.out; rw [mrg_end (by omega) (by omega), List.append_nil] at this; exact this
        have hoz : OwnI wr w.heap.size u7 Z := by have h1 := ho.mono hBv.size; rw [hout.out] at h1; exact h1
        clear hfx hfy ho
        go_wp2
        go_ret
        exact ⟨_, rfl, by rw [HZ.out]; exact hoz, keepBelow hBv hB3⟩
end Go.Proofs.YtmfdnbfjdhlonaaGreatDoor
namespace Go.Proofs.YtmfdnbfjdhlonaaGreatDoor
open Go.RowKit Wk

def LiPost (a b : List Sp) (kind : Int) (w : World) (e : Ending) (w' : World) : Prop := ∃ v L, e = .returned v ∧ OwnS w' w.heap.size v L ∧ Canon L ∧ (∀ x, inL L x = ruleB kind (inL a x) (inL b x)) ∧ L.length ≤ 2 * a.length + 2 * b.length ∧ Below w.heap.size w w'

set_option maxRecDepth 100000 in
set_option maxHeartbeats 8000000 in
theorem lists_any (va vb : Value) (a b : List Sp) (kind : Int) (w : World) (ha : RdS w va a) (hb : RdS w vb b) (hla : a.length ≤ 100000000000) (hlb : b.length ≤ 100000000000) (hca : Canon a) (hcb : Canon b) :
  Calls Tryz.prog 77 #[va, vb, .int .i64 kind] w (LiPost a b kind w) := by
 have HE := Lib.hid (ends_any va vb a b w ha hb hla hlb)
 obtain ⟨p, ca, rfl, hl1, hc1⟩ := ha
 obtain ⟨q, cb, rfl, hl2, hc2⟩ := hb
 have HC1 := Lib.hid hc1
 have HC2 := Lib.hid hc2
 have HA := Lib.hid hca
 have HBb := Lib.hid hcb
 have HR := Lib.hid (fun x y W => prule_any kind x y W)
 clear hc1 hc2 hca hcb
 have hlC := cutsOf_len a b
 obtain ⟨C, hC⟩ : ∃ C, cutsOf a b = C := ⟨_, rfl⟩
 rw [hC] at hlC
 have HC := Lib.hid hC
 clear hC
 go_enter Tryz.func77, Tryz.ntmps77
 go_wp2_with fail
 refine HE.out.mono ?_
 rintro e w1 ⟨v3, rfl, ho3, hB1⟩
 rw [HC.out] at ho3
 obtain ⟨p3, c3, rfl, hfc⟩ := ho3.form
 have HF := Lib.hid hfc
 clear hfc ho3
 go_wp2_with fail
 go_loopw [8, 9, 10, 11] (fun u vi vk vc wr => ∃ (c i k : Nat) (L : List Sp), c ≤ C.length ∧ i ≤ a.length ∧ k ≤ b.length ∧ vi = .int .i64 i ∧ vk = .int .i64 k ∧ vc = .int .i64 c ∧ OwnS wr w1.heap.size u L ∧ Hid (LSt kind a b L c i k) ∧ L.length ≤ c ∧ Below w1.heap.size w1 wr) (fun _ _ _ vc _ => C.length - (intOf vc).toNat)
 case atStart => exact ⟨0, 0, 0, [], Nat.zero_le _, Nat.zero_le _, Nat.zero_le _, rfl, rfl, rfl, OwnS.nil _ _, LSt.start HA.out HBb.out, Nat.le_refl _, Below.refl _ _⟩
 case round =>
  obtain ⟨c, i, k, L, hcC, hi, hk, rfl, rfl, rfl, ho, HL, hLc, hB⟩ := hrel
  by_cases hlt : c + 1 < C.length
  ·obtain ⟨g1, rfl, _, cx⟩ := HF.out c (by omega)
   obtain ⟨g1', e', _, cy⟩ := HF.out (c + 1) hlt
   cases e'
   have dx := keepCell hB cx
   have dy := keepCell hB cy
   obtain ⟨z, hz⟩ : ∃ z, C.getD c 0 = z := ⟨_, rfl⟩
   obtain ⟨y, hy⟩ : ∃ y, C.getD (c + 1) 0 = y := ⟨_, rfl⟩
   rw [hz] at dx
   rw [hy] at dy
   have HZ : Hid ((cutsOf a b).getD c 0 = z) := by unfold Hid; rw [HC.out, hz]
   have HY : Hid ((cutsOf a b).getD (c + 1) 0 = y) := by unfold Hid; rw [HC.out, hy]
   have HLT : Hid (c + 1 < (cutsOf a b).length) := by unfold Hid; rw [HC.out]; exact hlt
   clear hz hy cx cy
   have ex := ext_cell dx
   have ey := ext_cell dy
   have s1 : IntKind.i64.wrap ((c : Int) + 1) = (c : Int) + 1 := by rw [IntKind.wrap_i64]; omega
   have s2 : ((c : Int) + 1).toNat = c + 1 := by omega
   have s3 : (0 : Int) ≤ (c : Int) + 1 := by omega
   have s4 : (c : Int) + 1 < (C.length : Int) := by omega
   have hBw := keepBelow hB1 hB
   go_wp2_with fail
   refine wp_region_ext (by kernel_rfl) (by kernel_rfl) ?_
   iterate 11 (go_big_quiet_step (fail))
   refine wpQuiet_nil ?_
   intro w2 hb2
   have hBw2 := keepBelow hBw hb2
   have hB2 := keepBelow hB hb2
   have ho2 := ho.below hb2
   clear ex ey dx dy ho
   by_cases hzy : z = y
   ·have t1 : (z == y) = true := by simpa using hzy
    have HS : Hid (LSt kind a b L (c + 1) i k) := HL.out.same HLT.out (by rw [HZ.out, HY.out, hzy])
    clear hzy
    go_wp2
    go_roundw
    case rel => exact ⟨c + 1, i, k, L, by omega, hi, hk, rfl, rfl, by go_num, ho2, HS, by omega, hB2⟩
    case measure => simp [intOf]; omega
   ·have t1 : (z == y) = false := by simpa using hzy
    have HN := Lib.hid hzy
    clear hzy
    go_upto_block 2 with fail
    go_cut [9] from 17 to 121 (fun v wx => ∃ i' : Nat, v = .int .i64 i' ∧ Hid (IsSrch a z i') ∧ i' ≤ a.length ∧ Below w2.heap.size w2 wx)
    case first =>
     go_wp2_with fail
     go_loopw [9] (fun v w3 => ∃ i' : Nat, v = .int .i64 i' ∧ i' ≤ a.length ∧ Hid (∀ j, j < i' → (a.getD j (0, 0)).2 ≤ z) ∧ Below w2.heap.size w2 w3) (fun v _ => a.length - (intOf v).toNat)
     case atStart => exact ⟨i, rfl, hi, by have := HL.out.si.2; rw [HZ.out] at this; exact this, Below.refl _ _⟩
     case round =>
      obtain ⟨i', rfl, hi', HJ, hb3⟩ := hrel
      by_cases h1 : i' < a.length
      ·obtain ⟨bb, o, x1, x2, rfl, hbw, HXY, d1, d2⟩ := rd_at HC1.out (keepBelow hBw2 hb3) h1
       by_cases h2 : x2 ≤ z
       ·go_wp2
        go_roundw
        case rel => exact ⟨i' + 1, by go_num, by omega, fun j hj => by
         rcases Nat.lt_succ_iff_lt_or_eq.1 hj with h | rfl
         ·exact HJ.out j h
         ·rw [HXY.out]; exact h2, hb3⟩
        case measure => simp [intOf]; omega
       ·go_wp2
        go_meet
        exact ⟨i', rfl, ⟨hi', HJ.out, fun _ => by rw [HXY.out]; simp only; omega⟩, hi', hb3⟩
      ·go_wp2
       go_meet
       exact ⟨i', rfl, ⟨hi', HJ.out, fun h => absurd h h1⟩, hi', hb3⟩
    case rest =>
    obtain ⟨i', rfl, HI, hi', hb3⟩ := hcut
    go_upto_block 4 with fail
    go_cut [10] from 17 to 121 (fun v wx => ∃ k' : Nat, v = .int .i64 k' ∧ Hid (IsSrch b z k') ∧ k' ≤ b.length ∧ Below w2.heap.size w2 wx)
    case first =>
     go_wp2_with fail
     go_loopw [10] (fun v w3 => ∃ k' : Nat, v = .int .i64 k' ∧ k' ≤ b.length ∧ Hid (∀ j, j < k' → (b.getD j (0, 0)).2 ≤ z) ∧ Below w2.heap.size w2 w3) (fun v _ => b.length - (intOf v).toNat)
     case atStart => exact ⟨k, rfl, hk, by have := HL.out.sk.2; rw [HZ.out] at this; exact this, hb3⟩
     case round =>
      obtain ⟨k', rfl, hk', HJ, hb4⟩ := hrel
      by_cases h1 : k' < b.length
      ·obtain ⟨bb, o, x1, x2, rfl, hbw, HXY, d1, d2⟩ := rd_at HC2.out (keepBelow hBw2 hb4) h1
       by_cases h2 : x2 ≤ z
       ·go_wp2
        go_roundw
        case rel => exact ⟨k' + 1, by go_num, by omega, fun j hj => by
         rcases Nat.lt_succ_iff_lt_or_eq.1 hj with h | rfl
         ·exact HJ.out j h
         ·rw [HXY.out]; exact h2, hb4⟩
        case measure => simp [intOf]; omega
       ·go_wp2
        go_meet
        exact ⟨k', rfl, ⟨hk', HJ.out, fun _ => by rw [HXY.out]; simp only; omega⟩, hk', hb4⟩
      ·go_wp2
       go_meet
       exact ⟨k', rfl, ⟨hk', HJ.out, fun h => absurd h h1⟩, hk', hb4⟩
    case rest =>
    obtain ⟨k', rfl, HK, hk', hb4⟩ := hcut
    have HV : Hid (hL kind a b z = ruleB kind (decide (i' < a.length) && decide ((a.getD i' (0, 0)).1 ≤ z)) (decide (k' < b.length) && decide ((b.getD k' (0, 0)).1 ≤ z))) := LSt.value HA.out HBb.out HI.out HK.out
    obtain ⟨r, hr⟩ : ∃ r, hL kind a b z = r := ⟨_, rfl⟩
    rw [hr] at HV
    have HR1 := Lib.hid hr
    clear hr
    have hBw4 := keepBelow hBw2 hb4
    go_upto_region 13 with fail
    go_cut [94] from 17 to 121 (fun t wx => t = .bool (!r) ∧ Below w2.heap.size w2 wx)
    case first =>
     by_cases h1 : i' < a.length
     ·by_cases h2 : k' < b.length
      ·obtain ⟨bb, o, x1, x2, rfl, hbw, HXY, d1, d2⟩ := rd_at HC1.out hBw4 h1
       have e1 := ext_cell d1
       have g1 : decide ((i' : Int) < (a.length : Int)) = true := by simp; omega
       obtain ⟨q1, hq1⟩ : ∃ q1, decide (x1 ≤ z) = q1 := ⟨_, rfl⟩
       obtain ⟨bb', o', x1', x2', rfl, hbw', HXY', d1', d2'⟩ := rd_at HC2.out hBw4 h2
       have e1' := ext_cell d1'
       have g2 : decide ((k' : Int) < (b.length : Int)) = true := by simp; omega
       obtain ⟨q2, hq2⟩ : ∃ q2, decide (x1' ≤ z) = q2 := ⟨_, rfl⟩
       have HW : Hid (r = ruleB kind q1 q2) := by unfold Hid; rw [HV.out, HXY.out, HXY'.out]; simp [h1, h2, hq1, hq2]
       refine wp_region_ext (by kernel_rfl) (by kernel_rfl) ?_
       iterate 29 (go_big_quiet_step ((go_at_call 116; refine calls_ext_same (HR.out _ _ _))))
       refine wpQuiet_nil ?_
       intro w5 hb5
       go_wp2
       go_meet
       exact ⟨by rw [HW.out], keepBelow hb4 hb5⟩
      ·obtain ⟨bb, o, x1, x2, rfl, hbw, HXY, d1, d2⟩ := rd_at HC1.out hBw4 h1
       have e1 := ext_cell d1
       have g1 : decide ((i' : Int) < (a.length : Int)) = true := by simp; omega
       obtain ⟨q1, hq1⟩ : ∃ q1, decide (x1 ≤ z) = q1 := ⟨_, rfl⟩
       have g2 : decide ((k' : Int) < (b.length : Int)) = false := by simp; omega
       have HW : Hid (r = ruleB kind q1 false) := by unfold Hid; rw [HV.out, HXY.out]; simp [h1, h2, hq1]
       refine wp_region_ext (by kernel_rfl) (by kernel_rfl) ?_
       iterate 29 (go_big_quiet_step ((go_at_call 116; refine calls_ext_same (HR.out _ _ _))))
       refine wpQuiet_nil ?_
       intro w5 hb5
       go_wp2
       go_meet
       exact ⟨by rw [HW.out], keepBelow hb4 hb5⟩
     ·by_cases h2 : k' < b.length
      ·have g1 : decide ((i' : Int) < (a.length : Int)) = false := by simp; omega
       obtain ⟨bb', o', x1', x2', rfl, hbw', HXY', d1', d2'⟩ := rd_at HC2.out hBw4 h2
       have e1' := ext_cell d1'
       have g2 : decide ((k' : Int) < (b.length : Int)) = true := by simp; omega
       obtain ⟨q2, hq2⟩ : ∃ q2, decide (x1' ≤ z) = q2 := ⟨_, rfl⟩
       have HW : Hid (r = ruleB kind false q2) := by unfold Hid; rw [HV.out, HXY'.out]; simp [h1, h2, hq2]
       refine wp_region_ext (by kernel_rfl) (by kernel_rfl) ?_
       iterate 29 (go_big_quiet_step ((go_at_call 116; refine calls_ext_same (HR.out _ _ _))))
       refine wpQuiet_nil ?_
       intro w5 hb5
       go_wp2
       go_meet
       exact ⟨by rw [HW.out], keepBelow hb4 hb5⟩
      ·have g1 : decide ((i' : Int) < (a.length : Int)) = false := by simp; omega
       have g2 : decide ((k' : Int) < (b.length : Int)) = false := by simp; omega
       have HW : Hid (r = ruleB kind false false) := by unfold Hid; rw [HV.out]; simp [h1, h2]
       refine wp_region_ext (by kernel_rfl) (by kernel_rfl) ?_
       iterate 29 (go_big_quiet_step ((go_at_call 116; refine calls_ext_same (HR.out _ _ _))))
       refine wpQuiet_nil ?_
       intro w5 hb5
       go_wp2
       go_meet
       exact ⟨by rw [HW.out], keepBelow hb4 hb5⟩
    case rest =>
    obtain ⟨rfl, hb5⟩ := hcut
    have hBn := keepBelow hB2 hb5
    have hBz := keepBelow hBw2 hb5
    have ho5 := ho2.below hb5
    cases r with
    | false =>
     have HS : Hid (LSt kind a b L (c + 1) i' k') := HL.out.off HA.out HBb.out HLT.out (by rw [HZ.out]; exact HI.out) (by rw [HZ.out]; exact HK.out) (by rw [HZ.out]; exact HR1.out)
     go_wp2
     go_roundw
     case rel => exact ⟨c + 1, i', k', L, by omega, hi', hk', rfl, rfl, by go_num, ho5, HS, by omega, hBn⟩
     case measure => simp [intOf]; omega
    | true =>
     by_cases hL0 : 0 < L.length
     ·obtain ⟨K, y1, z1, rfl⟩ : ∃ K y1 z1, L = K ++ [(y1, z1)] := ⟨_, _, _, snoc_of_pos hL0⟩
      have hlK : (K ++ [(y1, z1)]).length = K.length + 1 := by simp
      obtain ⟨a8, c8, rfl, hf8⟩ := ho5.form
      obtain ⟨g8, rfl, _, _, cl⟩ := hf8 K.length (by omega)
      have HF8 := ho5.frozen (K.length * 2 + 1)
      have HST := Lib.hid (ho5.setLast y)
      simp only [List.getD_eq_getElem?_getD, List.getElem?_concat_length, Option.getD_some] at cl
      rw [hlK] at hLc ho5
      obtain ⟨m, hm⟩ : ∃ m, K.length = m := ⟨_, rfl⟩
      have HKm := Lib.hid hm
      rw [hm] at cl HF8 hlK HST hLc
      have t0 : decide ((0 : Int) < ((m + 1 : Nat) : Int)) = true := decide_eq_true (by omega)
      rw [hlK] at HST
      have hm0 : m < 400000000000 := by omega
      clear hL0 hf8 hm
      rw [hlK]
      have HSR : Hid (IsSrch a z i' ∧ IsSrch b z k') := ⟨HI.out, HK.out⟩
      by_cases hz1 : z1 = z
      ·have t2 : (z1 == z) = true := by simpa using hz1
       have HS : Hid (LSt kind a b (K ++ [(y1, y)]) (c + 1) i' k') := by
        have hl := HL.out
        rw [hz1] at hl
        exact LSt.ext HA.out HBb.out HZ.out HY.out hl HLT.out HN.out HSR.out.1 HSR.out.2 HR1.out
       have HBE : Hid (Below w1.heap.size w1 (wc.setCell ⟨g8, m * 2 + 1, none⟩ (.int .i64 y))) := hBn.grown HST.out.2 hBn.size (fun x hx => by cases hx; exact (ho5.lt _ rfl).1)
       have hl2 : (K ++ [(y1, y)]).length ≤ c + 1 := by rw [List.length_append, HKm.out]; simp; omega
       clear hz1
       go_wp2
       go_roundw
       case rel => exact ⟨c + 1, i', k', K ++ [(y1, y)], by omega, hi', hk', rfl, rfl, by go_num, HST.out.1, HS, hl2, HBE.out⟩
       case measure => simp [intOf]; omega
      ·have t2 : (z1 == z) = false := by simpa using hz1
       have HS : Hid (LSt kind a b ((K ++ [(y1, z1)]) ++ [(z, y)]) (c + 1) i' k') := LSt.new HA.out HBb.out HZ.out HY.out HL.out HLT.out HN.out HSR.out.1 HSR.out.2 HR1.out (.inr (by rw [hlK]; simp [HKm.out.symm]; exact hz1))
       have hl2 : ((K ++ [(y1, z1)]) ++ [(z, y)]).length ≤ c + 1 := by rw [List.length_append, hlK]; simp; omega
       have hl3 : (K ++ [(y1, z1)]).length < 1000000000000 := by rw [hlK]; omega
       clear hz1
       rw [HKm.out] at ho5
       go_wp2_with (at_builtin; refine wpList_app_span rfl (.tmp 116) (.tmp 120) rfl rfl ho5 hBn rfl rfl hl3 ?_; intro v1 w6 o1 b1 k1 z1'; clear k1)
       go_roundw
       case rel => exact ⟨c + 1, i', k', _, by omega, hi', hk', rfl, rfl, by go_num, o1, HS, hl2, b1⟩
       case measure => simp [intOf]; omega
     ·obtain rfl : L = [] := List.length_eq_zero_iff.1 (by omega)
      have HS : Hid (LSt kind a b ([] ++ [(z, y)]) (c + 1) i' k') := LSt.new HA.out HBb.out HZ.out HY.out HL.out HLT.out HN.out HI.out HK.out HR1.out (.inl rfl)
      obtain ⟨a8, c8, e8, _⟩ := ho5.form
      rw [List.length_nil] at e8
      subst e8
      clear hL0
      go_wp2_with (at_builtin; refine wpList_app_span rfl (.tmp 116) (.tmp 120) rfl rfl ho5 hBn rfl rfl (by simp) ?_; intro v1 w6 o1 b1 k1 z1'; clear k1)
      go_roundw
      case rel => exact ⟨c + 1, i', k', _, by omega, hi', hk', rfl, rfl, by go_num, o1, HS, by simp, b1⟩
      case measure => simp [intOf]; omega
  ·go_wp2
   go_ret
   obtain ⟨d1, d2, d3⟩ := HL.out.done HA.out HBb.out (by rw [HC.out]; omega)
   exact ⟨_, L, rfl, ho.mono hB1.size, d1, d2, d3, keepBelow hB1 hB⟩
end Go.Proofs.YtmfdnbfjdhlonaaGreatDoor
namespace Go.Proofs.YtmfdnbfjdhlonaaGreatDoor
open Go.RowKit Wk

set_option maxHeartbeats 400000 in
theorem rdiv_any (a b : Int) (w : World) (hb : 1 ≤ b) (hb2 : b ≤ 1152921504606846976) (ha1 : -1152921504606846976 ≤ a) (ha2 : a ≤ 1152921504606846976) :
  Calls Tryz.prog 93 #[.int .i64 a, .int .i64 b] w fun e w' => e = .returned (.tuple #[.int .i64 (a / b), .int .i64 (a % b), .int .i64 0]) ∧ Below w.heap.size w w' := by
 have g1 : ((b == 0) : Bool) = false := by simp; omega
 have g2 : ((a == -9223372036854775808) : Bool) = false := by simp; omega
 have hc : b * (a / b) = a / b * b := Int.mul_comm _ _
 have hmm := Int.mul_ediv_add_emod a b
 have HE : Hid (a - a / b * b = a % b) := by unfold Hid; omega
 clear hc hmm
 by_cases h : 0 ≤ a
 ·have hm := Int.emod_nonneg a (b := b) (by omega)
  have hd := Int.ediv_nonneg h (b := b) (by omega)
  by_cases hz : a % b = 0
  ·have HZ := Lib.hid hz
   have hz' : ((a % b) == 0) = true := by simp [hz]
   have hz'' : ((a % b) != 0) = false := by simp [hz]
   clear hz
   go_enter Tryz.func93, Tryz.ntmps93
   go_wp2_with fail
   refine wp_region_ext (by kernel_rfl) (by kernel_rfl) ?_
   repeat (go_big_quiet_step (fail))
   refine wpQuiet_nil ?_
   intro w1 hb1
   go_wp2
   go_ret3
   exact ⟨rfl, hb1⟩
  ·have HZ := Lib.hid hz
   have hz' : ((a % b) == 0) = false := by simp [hz]
   have hz'' : ((a % b) != 0) = true := by simp [hz]
   have hn1 : decide (a % b < 0) = false := by simp; omega
   have hn2 : decide (b < 0) = false := by simp; omega
   clear hz
   go_enter Tryz.func93, Tryz.ntmps93
   go_wp2_with fail
   refine wp_region_ext (by kernel_rfl) (by kernel_rfl) ?_
   repeat (go_big_quiet_step (fail))
   refine wpQuiet_nil ?_
   intro w1 hb1
   go_wp2
   go_ret3
   exact ⟨rfl, hb1⟩
 ·have hd := tdiv_neg (a := a) (b := b) (by omega) hb
  have hq := Int.natAbs_tdiv_le_natAbs a b
  have HD := Lib.hid hd
  rcases hd with ⟨h1, h2, h3⟩ | ⟨h1, h2, h3⟩
  ·have hz' : ((a.tmod b) == 0) = true := by simp [h1]
   have hz'' : ((a.tmod b) != 0) = false := by simp [h1]
   have H1 := Lib.hid h1
   have H2 := Lib.hid h2
   have H3 := Lib.hid h3
   clear h1 h2 h3
   go_enter Tryz.func93, Tryz.ntmps93
   go_wp2_with fail
   refine wp_region_ext (by kernel_rfl) (by kernel_rfl) ?_
   repeat (go_big_quiet_step (fail))
   refine wpQuiet_nil ?_
   intro w1 hb1
   go_wp2
   go_ret3
   exact ⟨ret3_int (by first | exact H2.out | rfl) (by first | exact H3.out.symm | exact H1.out.trans H3.out.symm), hb1⟩
  ·have hz' : ((a.tmod b) == 0) = false := by simp; omega
   have hz'' : ((a.tmod b) != 0) = true := by simp; omega
   have hr := Int.lt_tmod_of_pos a (b := b) (by omega)
   have hn1 : decide (a.tmod b < 0) = true := by simp; omega
   have hn2 : decide (b < 0) = false := by simp; omega
   have H2 := Lib.hid h2
   have H3 := Lib.hid h3
   clear h2 h3
   go_enter Tryz.func93, Tryz.ntmps93
   go_wp2_with fail
   refine wp_region_ext (by kernel_rfl) (by kernel_rfl) ?_
   repeat (go_big_quiet_step (fail))
   refine wpQuiet_nil ?_
   intro w1 hb1
   go_wp2
   go_ret3
   exact ⟨ret3_int H2.out H3.out, hb1⟩

theorem rmod_any (a b : Int) (w : World) (hb : 1 ≤ b) (hb2 : b ≤ 1152921504606846976) (ha1 : -1152921504606846976 ≤ a) (ha2 : a ≤ 1152921504606846976) :
  Calls Tryz.prog 53 #[.int .i64 a, .int .i64 b] w fun e w' => e = .returned (.int .i64 (a % b)) ∧ Below w.heap.size w w' := by
 go_enter Tryz.func53, Tryz.ntmps53
 go_wp2_with (go_at_call 93; refine (rdiv_any _ _ _ hb hb2 ha1 ha2).mono ?_; rintro e w1 ⟨rfl, hb1⟩)
 go_ret
 exact ⟨rfl, hb1⟩
def Sep (a b : Value) : Prop := ∀ k, a.ownBlock = some k → b.ownBlock = some k → False
theorem Sep.symm {a b : Value} (h : Sep a b) : Sep b a := fun k h1 h2 => h k h2 h1
theorem Sep.nil (v : Value) : Sep (.slice none 0 0) v := fun k h => by simp [Value.ownBlock] at h

theorem wpList_app_span_two {ops : Array Oper} {rest : List Oper} {o : Oper} {a : Act} {Q : Exit → Act → World → Prop} {w0 W : World} {v o2 : Value} {L L2 : List Sp} {z1 z2 : Int} (hgd : o.guard = none) (s x : Operand)
  (ho : o.op = .call { callee := .builtin .append, args := #[s, x], argTypes := #[22, 22] }) (hs : a.eval s = v) (hown : OwnS W w0.heap.size v L) (hown2 : OwnS W w0.heap.size o2 L2) (hsep : Sep o2 v) (hbw : Below w0.heap.size w0 W)
  {n : Nat} (hx : a.eval x = .slice (some ⟨n, 0, none⟩) 1 1) (hn : n = W.heap.size) (hlen : L.length < 1000000000000)
  (h : ∀ v' w', OwnS w' w0.heap.size v' (L ++ [(z1, z2)]) → OwnS w' w0.heap.size o2 L2 → Sep o2 v' → Below w0.heap.size w0 w' →
   wpList Tryz.prog ops Q rest (a.put o.dst v') w') : wpList Tryz.prog ops Q (o :: rest) a (W.alloc (.cells #[.int .i64 z1, .int .i64 z2] 41)) := by
 subst hn
 obtain ⟨i0, hi, hz0, hz1, hz2⟩ := info_parts Tryz.infoSpan
 have hsz := hbw.size
 refine wpList_append_lies _ hgd s x 22 ho w0.heap.size 41 i0 (.agg #[.int .i64 0, .int .i64 0]) 2 16 Tryz.underlying22 hi hz0 hz1 hz2 rfl (by decide) v L.length (flatS L) hs (hown.alloc _) ⟨W.heap.size, 0, none⟩ 1 1 [.int .i64 z1, .int .i64 z2] hx rfl ?_ ?_ (by decide) (by unfold maxLen; omega) (by omega) (by simp; omega) _ rfl ?_
 ·intro j u hu
  have hj := (List.getElem?_eq_some_iff.1 hu).1
  rw [WideShapes.add_plain]
  simp at hj
  rcases (by omega : j = 0 ∨ j = 1) with rfl | rfl
  ·simp at hu; subst hu; simp
  ·simp at hu; subst hu; simp
 ·intro u hu; simp at hu; rcases hu with rfl | rfl <;> rfl
 ·intro g cap w' hown' hg hat _
  refine h _ w' ?_ ?_ ?_ ?_
  ·unfold OwnS
   rw [flatS_append]
   simpa [flatS] using hown'
  ·refine World.ownsRow.kept (hown2.alloc _) hg ?_
   cases ho2 : o2.ownBlock with
   | none => exact .inl rfl
   | some k => exact .inr fun e => hsep k ho2 e.symm
  ·intro k h1 h2
   have hk : g = k := by simpa [Value.ownBlock] using h2
   rcases hat with h3 | h3
   ·exact hsep k h1 (by rw [h3, hk])
   ·have h4 := (hown2.lt k h1).2
    simp at h3
    omega
  ·exact (hbw.alloc hsz _).grown hg (by simp; omega) (fun k hk => (hown.lt k hk).1)

theorem step_app_span {ops : Array Oper} {o : Oper} {a : Act} {K : Act → World → Prop} {Q : Exit → Act → World → Prop} {E : Prop} {w0 W : World} {v : Value} {L : List Sp} {z1 z2 : Int} (hgd : o.guard = none) (s x : Operand)
  (ho : o.op = .call { callee := .builtin .append, args := #[s, x], argTypes := #[22, 22] }) (hs : a.eval s = v) (hown : OwnS W w0.heap.size v L) (hbw : Below w0.heap.size w0 W)
  {n : Nat} (hx : a.eval x = .slice (some ⟨n, 0, none⟩) 1 1) (hn : n = W.heap.size) (hlen : L.length < 1000000000000)
  (h : ∀ v' w', OwnS w' w0.heap.size v' (L ++ [(z1, z2)]) → Below w0.heap.size w0 w' → K (a.put o.dst v') w') :
  if Region.wanted o (yielded ops a.tmps) = true then Oper.wp Tryz.prog o a (W.alloc (.cells #[.int .i64 z1, .int .i64 z2] 41)) K Q else E := by
 subst hn
 have hw : Region.wanted o (yielded ops a.tmps) = true := by simp [Region.wanted, hgd]
 rw [if_pos hw]
 obtain ⟨i0, hi, hz0, hz1, hz2⟩ := info_parts Tryz.infoSpan
 have hsz := hbw.size
 refine wp_append_lies _ s x 22 ho w0.heap.size 41 i0 (.agg #[.int .i64 0, .int .i64 0]) 2 16 Tryz.underlying22 hi hz0 hz1 hz2 rfl (by decide) v L.length (flatS L) hs (hown.alloc _) ⟨W.heap.size, 0, none⟩ 1 1 [.int .i64 z1, .int .i64 z2] hx rfl ?_ ?_ (by decide) (by unfold maxLen; omega) (by omega) (by simp; omega) _ rfl ?_
 ·intro j u hu
  have hj := (List.getElem?_eq_some_iff.1 hu).1
  rw [WideShapes.add_plain]
  simp at hj
  rcases (by omega : j = 0 ∨ j = 1) with rfl | rfl
  ·simp at hu; subst hu; simp
  ·simp at hu; subst hu; simp
 ·intro u hu; simp at hu; rcases hu with rfl | rfl <;> rfl
 ·intro g cap w' hown' hg _ _
  refine h _ w' ?_ ?_
  ·unfold OwnS
   rw [flatS_append]
   simpa [flatS] using hown'
  ·exact (hbw.alloc hsz _).grown hg (by simp; omega) (fun k hk => (hown.lt k hk).1)

def RoPost (l : List Sp) (P n : Int) (w : World) (e : Ending) (w' : World) : Prop := ∃ v R, e = .returned v ∧ RdS w' v R ∧ RotP l P n R ∧ R.length ≤ 4 * l.length ∧ Below w.heap.size w w'

set_option maxRecDepth 100000 in
set_option maxHeartbeats 4000000 in
theorem rot_any (v : Value) (l : List Sp) (P n : Int) (w : World) (h : RdS w v l) (hg : GoodP (P, l)) (hll : l.length ≤ 20000000000) (hP2 : P ≤ 12622780800) (hn1 : -1152921504606846976 ≤ n) (hn2 : n ≤ 1152921504606846976) :
  Calls Tryz.prog 76 #[v, .int .i64 P, .int .i64 n] w (RoPost l P n w) := by
 have HD := Lib.hid h
 obtain ⟨p, ca, rfl, hl1, hc1⟩ := h
 have HC1 := Lib.hid hc1
 have HG := Lib.hid hg
 have hP1 : 1 ≤ P := hg.pos
 have HM := Lib.hid (rmod_any n P w hP1 (by omega) hn1 hn2)
 have hm0 := Int.emod_nonneg n (b := P) (by omega)
 have hm1 := Int.emod_lt_of_pos n (b := P) (by omega)
 obtain ⟨m, hm⟩ : ∃ m, n % P = m := ⟨_, rfl⟩
 rw [hm] at HM hm0 hm1
 have HMM := Lib.hid hm
 clear hm hc1 hg
 by_cases h0 : m = 0
 ·have g0 : (m == 0) = true := by simpa using h0
  have HZ := Lib.hid h0
  clear h0
  go_enter Tryz.func76, Tryz.ntmps76
  go_wp2_with fail
  refine HM.out.mono ?_
  rintro e w1 ⟨rfl, hb1⟩
  go_wp2
  go_ret
  exact ⟨_, l, rfl, keepRd hb1 HD.out, rot_zero HG.out (HMM.out.trans HZ.out), by omega, hb1⟩
 ·have g0 : (m == 0) = false := by simpa using h0
  clear h0
  go_enter Tryz.func76, Tryz.ntmps76
  go_wp2_with fail
  refine HM.out.mono ?_
  rintro e w1 ⟨rfl, hb1⟩
  go_wp2_with fail
  go_loopw [8, 9, 10] (fun lo hi vi wr => ∃ k : Nat, k ≤ l.length ∧ vi = .int .i64 k ∧ OwnS wr w.heap.size lo (loM (l.take k) P m) ∧ OwnS wr w.heap.size hi (hiM (l.take k) P m) ∧ Sep lo hi ∧ Below w.heap.size w wr) (fun _ _ vi _ => l.length - (intOf vi).toNat)
  case atStart => exact ⟨0, Nat.zero_le _, rfl, OwnS.nil _ _, OwnS.nil _ _, Sep.nil _, hb1⟩
  case round =>
   obtain ⟨k, hk, rfl, hlo, hhi, hsep, hB⟩ := hrel
   have hlen1 := lo_len (l.take k) P m
   have hlen2 := hi_len (l.take k) P m
   have hlen3 := List.length_take_le k l
   by_cases hlt : k < l.length
   ·obtain ⟨bb, o, x, y, rfl, hbw, HXY, d1, d2⟩ := rd_at HC1.out hB hlt
    have hin := HG.out.ins _ (mem_of_getD HXY.out hlt)
    have hxy := canon_pos HG.out.canon _ (mem_of_getD HXY.out hlt)
    simp only at hin hxy
    have HH := Lib.hid (hi_succ (P := P) (m := m) HXY.out hlt hin.1 hm0 hxy)
    have HO := Lib.hid (lo_succ (P := P) (m := m) HXY.out hlt hm1 hxy hin.2)
    obtain ⟨X, hX⟩ : ∃ X, hiM (l.take k) P m = X := ⟨_, rfl⟩
    obtain ⟨Y, hY⟩ : ∃ Y, loM (l.take k) P m = Y := ⟨_, rfl⟩
    rw [hX] at hhi hlen2 HH
    rw [hY] at hlo hlen1 HO
    clear hX hY
    have e1 := ext_cell d1
    have e2 := ext_cell d2
    have s1 : IntKind.i64.wrap (x + m) = x + m := by rw [IntKind.wrap_i64]; omega
    have s2 : IntKind.i64.wrap (y + m) = y + m := by rw [IntKind.wrap_i64]; omega
    go_wp2_with fail
    refine wp_region_ext (by kernel_rfl) (by kernel_rfl) ?_
    iterate 16 (go_big_quiet_step (fail))
    refine wpQuiet_nil ?_
    intro w2 hb2
    have hB2 := keepBelow hB hb2
    have hlo2 := hlo.below hb2
    have hhi2 := hhi.below hb2
    clear e1 e2 d1 d2 hlo hhi
    by_cases hx : x + m < P
    ·rw [if_pos hx] at HH
     by_cases hy : P < y + m
     ·rw [if_pos hy] at HO
      rw [show max (x + m) P - P = 0 by omega] at HO
      rw [show min (y + m) P = P by omega] at HH
      go_wp2_with (at_builtin; first | (refine wpList_app_span_two rfl (.tmp 42) (.tmp 48) rfl rfl hhi2 hlo2 hsep hB2 rfl rfl (by omega) ?_; intro v1 w6 o1 o2 hsep1 b1) | (refine wpList_app_span_two rfl (.tmp 53) (.tmp 63) rfl rfl o2 o1 hsep1.symm b1 rfl rfl (by omega) ?_; intro v2 w7 o3 o4 hsep2 b2))
      go_roundw
      case rel => exact ⟨k + 1, by omega, by go_num, by rw [HO.out]; exact o3, by rw [HH.out]; exact o4, hsep2.symm, b2⟩
      case measure => simp [intOf]; omega
     ·rw [if_neg hy, List.append_nil] at HO
      rw [show min (y + m) P = y + m by omega] at HH
      go_wp2_with (at_builtin; refine wpList_app_span_two rfl (.tmp 42) (.tmp 48) rfl rfl hhi2 hlo2 hsep hB2 rfl rfl (by omega) ?_; intro v1 w6 o1 o2 hsep1 b1)
      go_roundw
      case rel => exact ⟨k + 1, by omega, by go_num, by rw [HO.out]; exact o2, by rw [HH.out]; exact o1, hsep1, b1⟩
      case measure => simp [intOf]; omega
    ·rw [if_neg hx, List.append_nil] at HH
     have hy : P < y + m := by omega
     rw [if_pos hy, show max (x + m) P = x + m by omega] at HO
     go_wp2_with (at_builtin; refine wpList_app_span_two rfl (.tmp 53) (.tmp 63) rfl rfl hlo2 hhi2 hsep.symm hB2 rfl rfl (by omega) ?_; intro v2 w7 o3 o4 hsep2 b2)
     go_roundw
     case rel => exact ⟨k + 1, by omega, by go_num, by rw [HO.out]; exact o3, by rw [HH.out]; exact o4, hsep2.symm, b2⟩
     case measure => simp [intOf]; omega
   ·have e1 : l.take k = l := List.take_of_length_le (by omega)
    rw [e1] at hlo hhi hlen1 hlen2
    have r1 := hlo.rd (by omega)
    have r2 := hhi.rd (by omega)
    have HL := Lib.hid (lists_any _ _ _ _ 0 wr r1 r2 (by omega) (by omega) (lo_canon HG.out.canon) (hi_canon HG.out.canon))
    clear hlo hhi e1
    go_wp2_with fail
    refine HL.out.mono ?_
    rintro e w3 ⟨v3, R, rfl, ho3, hcR, hvR, hlR, hb3⟩
    go_wp2
    go_ret
    exact ⟨v3, R, rfl, ho3.rd (by omega), rot_union HG.out hcR (by rw [HMM.out]; exact hvR), by omega, keepBelow hB hb3⟩

def CuPost (l : List Sp) (q : Int) (w : World) (e : Ending) (w' : World) : Prop := ∃ v, e = .returned (.agg #[.int .i64 q, v]) ∧ OwnS w' w.heap.size v (cutM l q) ∧ Below w.heap.size w w'

end Go.Proofs.YtmfdnbfjdhlonaaGreatDoor
namespace Go.Proofs.YtmfdnbfjdhlonaaGreatDoor
open Go.RowKit Wk

set_option maxRecDepth 100000 in
set_option maxHeartbeats 2000000 in
theorem cut_any (v : Value) (l : List Sp) (q : Int) (w : World) (h : RdS w v l) (hll : l.length ≤ 100000000000) :
  Calls Tryz.prog 117 #[.int .i64 q, v] w (CuPost l q w) := by
 obtain ⟨a, c, rfl, hl, hc⟩ := h
 have HC := Lib.hid hc
 clear hc
 go_enter Tryz.func117, Tryz.ntmps117
 go_wp2_with fail
 obtain ⟨W1, hW1⟩ : ∃ W1, w.alloc (.cells #[.int .i64 0, .slice none 0 0] 29) = W1 := ⟨_, rfl⟩
 have hw1 : Below w.heap.size w W1 := by rw [← hW1]; exact (Below.refl _ _).alloc (Nat.le_refl _) _
 have hs1 : W1.heap.size = w.heap.size + 1 := by rw [← hW1]; simp
 have HRES : Hid (∀ W, Below W1.heap.size W1 W → W.cell? ⟨w.heap.size, 0, none⟩ = some (.int .i64 0) ∧ W.cell? ⟨w.heap.size, 1, none⟩ = some (.slice none 0 0) ∧ W.frozen? ⟨w.heap.size, 0, none⟩ = false ∧ W.frozen? ⟨w.heap.size, 1, none⟩ = false) := by
  intro W hW
  obtain ⟨q1, q2⟩ := bcell hW
  rw [q1 _ _ (by omega), q1 _ _ (by omega), q2 _ _ (by omega), q2 _ _ (by omega), ← hW1]
  simp [go_sem]
 rw [hW1]
 clear hW1
 have HS1 := Lib.hid hs1
 clear hs1
 have hsw : w.heap.size < W1.heap.size := by have := HS1.out; omega
 go_wp2_with fail
 go_loopw [5, 6] (fun u i wr => ∃ k : Nat, k ≤ l.length ∧ i = .int .i64 k ∧ OwnS wr W1.heap.size u (cutT l q k) ∧ Below W1.heap.size W1 wr) (fun _ i _ => l.length - (intOf i).toNat)
 case atStart => exact ⟨0, Nat.zero_le _, rfl, OwnS.nil _ _, Below.refl _ _⟩
 case round =>
  obtain ⟨k, hk, rfl, ho, hB⟩ := hrel
  have hBw : Below w.heap.size w wr := hw1.trans (hB.mono (by omega))
  by_cases hlt : k < l.length
  ·obtain ⟨b, o, x, y, rfl, hbw, HXY, d1, d2⟩ := rd_at HC.out hBw hlt
   have HT := Lib.hid (cutT_succ q HXY.out hlt)
   have hl1 := cutT_len l q k
   have hsz := hB.size
   by_cases hx : x < q
   ·have HTT : Hid (cutT l q (k + 1) = cutT l q k ++ [(x, if q < y then q else y)]) := by
     unfold Hid
     rw [HT.out, if_pos hx]
     congr 3
     split <;> omega
    obtain ⟨X, hX⟩ : ∃ X, cutT l q k = X := ⟨_, rfl⟩
    rw [hX] at ho hl1 HTT
    clear HT hX
    have hBd : Below wr.heap.size wr wr.drew := (Below.refl _ _).drew
    have hod := ho.below hBd
    have hBt := keepBelow hB hBd
    have e1 := ext_cell d1
    have e2 := ext_cell d2
    have hlX : X.length < 1000000000000 := by omega
    go_wp2_with fail
    go_region_law (refine step_app_span rfl (.tmp 20) (.tmp 34) rfl rfl hod hBt rfl (by simp) hlX ?_; intro v1 w3 o1 b1)
    all_goals go_wp2
    all_goals go_roundw
    all_goals first | (exact ⟨k + 1, by omega, by go_num, by rw [HTT.out]; exact o1, b1⟩) | (simp [intOf]; omega)
   ·rw [if_neg hx, List.append_nil] at HT
    go_wp2
    go_roundw
    case rel => exact ⟨k + 1, by omega, by go_num, by rw [HT.out]; exact ho, hB⟩
    case measure => simp [intOf]; omega
  ·have HO : Hid (OwnS wr W1.heap.size u5 (cutM l q)) := by rw [← cutT_full l q k (by omega)]; exact ho
   obtain ⟨r1, r2, r3, r4⟩ := HRES.out _ hB
   obtain ⟨a7, c7, rfl, _⟩ := ho.form
   go_wp2
   refine bodyPost_ret (v := .agg #[.int .i64 q, .slice a7 (cutT l q k).length c7]) (by simp [results, Tryz.results117, go_sem, r1, r2]) rfl ?_
   exact ⟨.slice a7 (cutT l q k).length c7, rfl, (OwnS.mono (OwnS.setCell (OwnS.setCell HO.out hsw _) hsw _) (by omega)), (hBw.setCell (Nat.le_refl _) _).setCell (Nat.le_refl _) _⟩
end Go.Proofs.YtmfdnbfjdhlonaaGreatDoor
namespace Go.Proofs.YtmfdnbfjdhlonaaGreatDoor
open Go.RowKit Wk

def RlPost (P : Int) (l : List Sp) (w : World) (e : Ending) (w' : World) : Prop := ∃ v', e = .returned (.agg #[.int .i64 (leastM l P), v']) ∧ OwnS w' w.heap.size v' (cutM l (leastM l P)) ∧ Below w.heap.size w w'

theorem sq_bd {j P : Int} (h0 : 0 ≤ j) (h : j = 0 ∨ j * j ≤ P) (hP1 : 1 ≤ P) (hP2 : P ≤ 12622780800) : 0 ≤ (j + 1) * (j + 1) ∧ (j + 1) * (j + 1) ≤ 40000000000 ∧ j ≤ P := by
 rcases h with rfl | h
 ·simp; omega
 ·have e : (j + 1) * (j + 1) = j * j + 2 * j + 1 := by rw [Int.add_mul, Int.mul_add]; omega
  have h1 : 0 ≤ j * j := Int.mul_nonneg h0 h0
  have h2 : j ≤ j * j := by
   rcases (by omega : j = 0 ∨ 1 ≤ j) with rfl | h3
   ·simp
   ·have := Int.mul_le_mul_of_nonneg_left h3 h0
    omega
  omega
theorem sq_le_self {q P : Int} (h0 : 1 ≤ q) (h : q * q ≤ P) : q ≤ P := by
 have := Int.mul_le_mul_of_nonneg_left h0 (by omega : 0 ≤ q)
 omega
theorem sq_root {q j P : Int} (h0 : 0 ≤ j) (hq : q * q ≤ P) (h : ¬ (j + 1) * (j + 1) ≤ P) (h1 : 1 ≤ q) : q ≤ j := by
 rcases Int.lt_or_le j q with h2 | h2
 ·have a1 : (j + 1) * (j + 1) ≤ q * (j + 1) := Int.mul_le_mul_of_nonneg_right (by omega) (by omega)
  have a2 : q * (j + 1) ≤ q * q := Int.mul_le_mul_of_nonneg_left (by omega) (by omega)
  omega
 ·exact h2

set_option maxRecDepth 100000 in
set_option maxHeartbeats 4000000 in
theorem rleast_any (v : Value) (l : List Sp) (P : Int) (w : World) (h : RdS w v l) (hg : GoodP (P, l)) (hll : l.length ≤ 20000000000) (hP2 : P ≤ 12622780800) :
  Calls Tryz.prog 79 #[.int .i64 P, v] w (RlPost P l w) := by
 have hP1 : 1 ≤ P := hg.pos
 have HR : Hid (∀ q W, RdS W v l → 1 ≤ q → q ≤ P → Calls Tryz.prog 76 #[v, .int .i64 P, .int .i64 q] W (RoPost l P q W)) := fun q W hr h1 h2 => rot_any v l P q W hr hg hll hP2 (by omega) (by omega)
 have HC : Hid (∀ q W, RdS W v l → Calls Tryz.prog 117 #[.int .i64 q, v] W (CuPost l q W)) := fun q W hr => cut_any v l q W hr (by omega)
 have HD := Lib.hid h
 have HG := Lib.hid hg
 clear hg
 obtain ⟨a, c, rfl, hl, hc⟩ := h
 clear hc
 go_enter Tryz.func79, Tryz.ntmps79
 go_wp2_with fail
 obtain ⟨W1, hW1⟩ : ∃ W1, w.alloc (.cells #[.int .i64 0, .slice none 0 0] 29) = W1 := ⟨_, rfl⟩
 have hw1 : Below w.heap.size w W1 := by rw [← hW1]; exact (Below.refl _ _).alloc (Nat.le_refl _) _
 have hs1 : W1.heap.size = w.heap.size + 1 := by rw [← hW1]; simp
 have HRES : Hid (∀ W, Below W1.heap.size W1 W → W.cell? ⟨w.heap.size, 0, none⟩ = some (.int .i64 0) ∧ W.cell? ⟨w.heap.size, 1, none⟩ = some (.slice none 0 0) ∧ W.frozen? ⟨w.heap.size, 0, none⟩ = false ∧ W.frozen? ⟨w.heap.size, 1, none⟩ = false) := by
  intro W hW
  obtain ⟨q1, q2⟩ := bcell hW
  rw [q1 _ _ (by omega), q1 _ _ (by omega), q2 _ _ (by omega), q2 _ _ (by omega), ← hW1]
  simp [go_sem]
 rw [hW1]
 clear hW1
 have HS1 := Lib.hid hs1
 clear hs1
 have hsw : w.heap.size < W1.heap.size := by have := HS1.out; omega
 go_wp2_with fail
 go_loopw [5] (fun i wr => ∃ j : Nat, i = .int .i64 ((j : Int) + 1) ∧ Hid (∀ q : Int, 1 ≤ q → q ≤ j → ¬(P % q = 0 ∧ repB l P q = true)) ∧ Hid ((j : Int) = 0 ∨ (j : Int) * j ≤ P) ∧ Below W1.heap.size W1 wr) (fun i _ => (P + 1 - intOf i).toNat)
 case atStart => exact ⟨0, rfl, fun q h1 h2 => by omega, .inl rfl, Below.refl _ _⟩
 case round =>
  obtain ⟨j, rfl, HN, HJ, hB⟩ := hrel
  obtain ⟨b1, b2, b3⟩ := sq_bd (Int.natCast_nonneg j) HJ.out hP1 hP2
  obtain ⟨q, hq⟩ : ∃ q : Int, (j : Int) + 1 = q := ⟨_, rfl⟩
  rw [hq] at b1 b2
  have hBw : Below w.heap.size w wr := hw1.trans (hB.mono (by omega))
  have HQ := Lib.hid hq
  have hq1 : 1 ≤ q := by omega
  rw [hq]
  have s1 : IntKind.i64.wrap (q * q) = q * q := by rw [IntKind.wrap_i64]; omega
  by_cases hs : q * q ≤ P
  ·have t1 : decide (q * q ≤ P) = true := by simpa using hs
   have hqP : q ≤ P := sq_le_self hq1 hs
   have HSQ := Lib.hid hs
   have hm0 := Int.emod_nonneg P (b := q) (by omega)
   have hjq : (j : Int) = q - 1 := by omega
   clear hs hq b1 b2
   have HNX : Hid (((j + 1 : Nat) : Int) = 0 ∨ ((j + 1 : Nat) : Int) * ((j + 1 : Nat) : Int) ≤ P) := .inr (by
    have e : ((j + 1 : Nat) : Int) = q := by have := HQ.out; omega
    rw [e]; exact HSQ.out)
   by_cases h2 : P % q = 0
   ·have t2 : ((P % q) == 0) = true := by simp [h2]
    have H2 := Lib.hid h2
    clear h2
    have HRR := Lib.hid (HR.out q wr (keepRd hBw HD.out) hq1 hqP)
    go_wp2_with fail
    refine HRR.out.mono ?_
    rintro e w2 ⟨v2, R, rfl, hr2, hrot, hlR, hb2⟩
    have HB2 := Lib.hid (keepBelow hB hb2)
    have HBw2 := Lib.hid (keepBelow hBw hb2)
    have hsame := rot_same HG.out hq1 hqP hrot
    have HP := Lib.hid (psame_any v2 _ R l w2 hr2 (keepRd HBw2.out HD.out))
    rw [hsame] at HP
    clear hr2 hrot hsame
    obtain ⟨rb, hrb⟩ : ∃ rb, repB l P q = rb := ⟨_, rfl⟩
    rw [hrb] at HP
    have HRB := Lib.hid hrb
    clear hrb
    go_wp2_with fail
    refine HP.out.mono ?_
    rintro e w3 ⟨rfl, hb3⟩
    have hB3 := keepBelow HB2.out hb3
    have hBw3 := keepBelow HBw2.out hb3
    cases rb with
    | true =>
     have HCC := Lib.hid (HC.out q w3 (keepRd hBw3 HD.out))
     have HLM : Hid (leastM l P = q) := by
      have e := least_hit (l := l) hP1 (fun q' h1 h2 => HN.out q' h1 h2) (by rw [HQ.out]; exact HSQ.out) (by rw [HQ.out]; exact H2.out) (by rw [HQ.out]; exact HRB.out)
      exact e.trans HQ.out
     go_wp2_with fail
     refine HCC.out.mono ?_
     rintro e w4 ⟨v4, rfl, ho4, hb4⟩
     have hB4 := keepBelow hB3 hb4
     have hBw4 := keepBelow hBw3 hb4
     obtain ⟨r1, r2, r3, r4⟩ := HRES.out _ hB4
     obtain ⟨a7, c7, rfl, _⟩ := ho4.form
     have ho5 := ho4.mono hB3.size
     go_wp2
     refine bodyPost_ret (v := .agg #[.int .i64 q, .slice a7 (cutM l q).length c7]) (by simp [results, Tryz.results79, go_sem, r1, r2]) rfl ?_
     exact ⟨.slice a7 (cutM l q).length c7, by rw [HLM.out], by rw [HLM.out]; exact (OwnS.mono (OwnS.setCell (OwnS.setCell ho5 hsw _) hsw _) (by omega)), (hBw4.setCell (Nat.le_refl _) _).setCell (Nat.le_refl _) _⟩
    | false =>
     have HNN : Hid (∀ q' : Int, 1 ≤ q' → q' ≤ ((j + 1 : Nat) : Int) → ¬(P % q' = 0 ∧ repB l P q' = true)) := by
      intro q' h1 h2
      rcases (by omega : q' ≤ (j : Int) ∨ q' = q) with h | rfl
      ·exact HN.out q' h1 h
      ·rw [HRB.out]; simp
     go_wp2
     go_roundw
     case rel => exact ⟨j + 1, by go_num, HNN, HNX, hB3⟩
     case measure => simp [intOf]; omega
   ·have t2 : ((P % q) == 0) = false := by simpa using h2
    have HNN : Hid (∀ q' : Int, 1 ≤ q' → q' ≤ ((j + 1 : Nat) : Int) → ¬(P % q' = 0 ∧ repB l P q' = true)) := by
     intro q' h1 h3
     rcases (by omega : q' ≤ (j : Int) ∨ q' = q) with h | rfl
     ·exact HN.out q' h1 h
     ·exact fun hh => h2 hh.1
    clear h2
    go_wp2
    go_roundw
    case rel => exact ⟨j + 1, by go_num, HNN, HNX, hB⟩
    case measure => simp [intOf]; omega
  ·have t1 : decide (q * q ≤ P) = false := by simpa using hs
   have HNO : Hid (∀ q' : Int, 1 ≤ q' → q' * q' ≤ P → ¬(P % q' = 0 ∧ repB l P q' = true)) := fun q' h1 h2 => HN.out q' h1 (sq_root (Int.natCast_nonneg j) h2 (by rw [HQ.out]; exact hs) h1)
   clear hs b1 b2 hq
   go_wp2_with fail
   go_loopw [6, 7] (fun u i wr => ∃ j : Nat, i = .int .i64 ((j : Int) + 1) ∧ u = .int .i64 (farB l P j) ∧ Hid ((j : Int) = 0 ∨ (j : Int) * j ≤ P) ∧ Below W1.heap.size W1 wr) (fun _ i _ => (P + 1 - intOf i).toNat)
   case atStart => exact ⟨0, rfl, rfl, .inl rfl, hB⟩
   case round =>
    obtain ⟨j', rfl, rfl, HJ', hB'⟩ := hrel
    obtain ⟨b1, b2, b3'⟩ := sq_bd (Int.natCast_nonneg j') HJ'.out hP1 hP2
    obtain ⟨q', hq⟩ : ∃ q' : Int, (j' : Int) + 1 = q' := ⟨_, rfl⟩
    rw [hq] at b1 b2
    have hBw' : Below w.heap.size w _ := hw1.trans (hB'.mono (by omega))
    have HQ' := Lib.hid hq
    have hq1' : 1 ≤ q' := by omega
    rw [hq]
    have s2 : IntKind.i64.wrap (q' * q') = q' * q' := by rw [IntKind.wrap_i64]; omega
    by_cases hs : q' * q' ≤ P
    ·have t2 : decide (q' * q' ≤ P) = true := by simpa using hs
     have hqP : q' ≤ P := sq_le_self hq1' hs
     have HSQ := Lib.hid hs
     have hm0 := Int.emod_nonneg P (b := q') (by omega)
     have hd0 := Int.ediv_nonneg (a := P) (b := q') (by omega) (by omega)
     have hd1 := Int.natAbs_ediv_le_natAbs P q'
     have hdP : P / q' ≤ P := by omega
     have hd2 : 1 ≤ P / q' := Int.le_ediv_of_mul_le (by omega) (by omega)
     have hjq : (j' : Int) = q' - 1 := by omega
     clear hs hq b1 b2 hd1
     have HNX : Hid (((j' + 1 : Nat) : Int) = 0 ∨ ((j' + 1 : Nat) : Int) * ((j' + 1 : Nat) : Int) ≤ P) := .inr (by
      have e : ((j' + 1 : Nat) : Int) = q' := by have := HQ'.out; omega
      rw [e]; exact HSQ.out)
     have HFB : Hid (farB l P (j' + 1) = if P % q' = 0 ∧ repB l P (P / q') = true then P / q' else farB l P j') := by unfold Hid; rw [← HQ'.out]; rfl
     by_cases h2 : P % q' = 0
     ·have t3 : ((P % q') == 0) = true := by simp [h2]
      have H2 := Lib.hid h2
      clear h2
      have HRR := Lib.hid (HR.out (P / q') _ (keepRd hBw' HD.out) hd2 hdP)
      go_wp2_with fail
      refine HRR.out.mono ?_
      rintro e w2 ⟨v2, R, rfl, hr2, hrot, hlR, hb2⟩
      have HB2 := Lib.hid (keepBelow hB' hb2)
      have HBw2 := Lib.hid (keepBelow hBw' hb2)
      have hsame := rot_same HG.out hd2 hdP hrot
      have HP := Lib.hid (psame_any v2 _ R l w2 hr2 (keepRd HBw2.out HD.out))
      rw [hsame] at HP
      clear hr2 hrot hsame
      obtain ⟨rb, hrb⟩ : ∃ rb, repB l P (P / q') = rb := ⟨_, rfl⟩
      rw [hrb] at HP
      have HRB := Lib.hid hrb
      clear hrb
      go_wp2_with fail
      refine HP.out.mono ?_
      rintro e w3 ⟨rfl, hb3⟩
      have hB3 := keepBelow HB2.out hb3
      cases rb with
      | true =>
       have HF2 : Hid (farB l P (j' + 1) = P / q') := by unfold Hid; rw [HFB.out, if_pos ⟨H2.out, HRB.out⟩]
       go_wp2
       go_roundw
       case rel => exact ⟨j' + 1, by go_num, by rw [HF2.out], HNX, hB3⟩
       case measure => simp [intOf]; omega
      | false =>
       have HF2 : Hid (farB l P (j' + 1) = farB l P j') := by unfold Hid; rw [HFB.out, if_neg (by rw [HRB.out]; simp)]
       go_wp2
       go_roundw
       case rel => exact ⟨j' + 1, by go_num, by rw [HF2.out], HNX, hB3⟩
       case measure => simp [intOf]; omega
     ·have t3 : ((P % q') == 0) = false := by simpa using h2
      have HF2 : Hid (farB l P (j' + 1) = farB l P j') := by unfold Hid; rw [HFB.out, if_neg (fun hh => h2 hh.1)]
      clear h2
      go_wp2
      go_roundw
      case rel => exact ⟨j' + 1, by go_num, by rw [HF2.out], HNX, hB'⟩
      case measure => simp [intOf]; omega
    ·have t2 : decide (q' * q' ≤ P) = false := by simpa using hs
     have HLM : Hid (leastM l P = farB l P j') := least_far HNO.out (by
      rcases HJ'.out with h | h
      ·exact .inl (by omega)
      ·exact .inr h) (by rw [HQ'.out]; exact hs)
     clear hs b1 b2 hq
     obtain ⟨fb, hfb⟩ : ∃ fb, farB l P j' = fb := ⟨_, rfl⟩
     rw [hfb] at HLM
     rw [hfb]
     clear hfb
     have HCC := Lib.hid (HC.out fb _ (keepRd hBw' HD.out))
     go_wp2_with fail
     refine HCC.out.mono ?_
     rintro e w4 ⟨v4, rfl, ho4, hb4⟩
     have hB4 := keepBelow hB' hb4
     have hBw4 := keepBelow hBw' hb4
     obtain ⟨r1, r2, r3, r4⟩ := HRES.out _ hB4
     obtain ⟨a7, c7, rfl, _⟩ := ho4.form
     have ho5 := ho4.mono hB'.size
     go_wp2
     refine bodyPost_ret (v := .agg #[.int .i64 fb, .slice a7 (cutM l fb).length c7]) (by simp [results, Tryz.results79, go_sem, r1, r2]) rfl ?_
     exact ⟨.slice a7 (cutM l fb).length c7, by rw [HLM.out], by rw [HLM.out]; exact (OwnS.mono (OwnS.setCell (OwnS.setCell ho5 hsw _) hsw _) (by omega)), (hBw4.setCell (Nat.le_refl _) _).setCell (Nat.le_refl _) _⟩
end Go.Proofs.YtmfdnbfjdhlonaaGreatDoor
namespace Go.Proofs.YtmfdnbfjdhlonaaGreatDoor
open Go.RowKit Wk

end Go.Proofs.YtmfdnbfjdhlonaaGreatDoor
namespace Go.Proofs.YtmfdnbfjdhlonaaGreatDoor
open Go.RowKit Wk

set_option maxHeartbeats 1000000 in
theorem equal13_any (P1 P2 : Int) (v1 v2 : Value) (l1 l2 : List Sp) (w : World) (h1 : RdS w v1 l1) (h2 : RdS w v2 l2) :
  Calls Tryz.prog 39 #[.agg #[.int .i64 P1, v1], .agg #[.int .i64 P2, v2]] w fun e w' => e = .returned (.bool ((P1 == P2) && decide (l1 = l2))) ∧ Below w.heap.size w w' := by
 have hW : Below w.heap.size w ((w.alloc (.cells #[.int .i64 P1, v1] 29)).alloc (.cells #[.int .i64 P2, v2] 29)) := ((Below.refl _ _).alloc (Nat.le_refl _) _).alloc (by simp) _
 have HS := Lib.hid (fun W a b => psame_any v1 v2 l1 l2 W a b)
 have HR1 := Lib.hid h1
 have HR2 := Lib.hid h2
 obtain ⟨a1, d1, rfl, _, _⟩ := h1
 obtain ⟨a2, d2, rfl, _, _⟩ := h2
 obtain ⟨W, hWe⟩ : ∃ W, (w.alloc (.cells #[.int .i64 P1, .slice a1 l1.length d1] 29)).alloc (.cells #[.int .i64 P2, .slice a2 l2.length d2] 29) = W := ⟨_, rfl⟩
 rw [hWe] at hW
 have c0 : W.cell? ⟨w.heap.size, 0, none⟩ = some (.int .i64 P1) := by rw [← hWe]; simp [go_sem]
 have c1 : W.cell? ⟨w.heap.size, 1, none⟩ = some (.slice a1 l1.length d1) := by rw [← hWe]; simp [go_sem]
 have c2 : W.cell? ⟨w.heap.size + 1, 0, none⟩ = some (.int .i64 P2) := by rw [← hWe]; simp [go_sem]
 have c3 : W.cell? ⟨w.heap.size + 1, 1, none⟩ = some (.slice a2 l2.length d2) := by rw [← hWe]; simp [go_sem]
 have HE := Lib.hid hWe
 clear hWe
 have HSS := Lib.hid (HS.out W (keepRd hW HR1.out) (keepRd hW HR2.out))
 cases hp : (P1 == P2) with
 | false =>
  go_enter Tryz.func39, Tryz.ntmps39
  go_wp2_with fail
  rw [HE.out]
  go_wp2
  go_ret
  exact ⟨rfl, hW⟩
 | true =>
  go_enter Tryz.func39, Tryz.ntmps39
  go_wp2_with fail
  rw [HE.out]
  go_wp2_with fail
  refine HSS.out.mono ?_
  rintro e w1 ⟨rfl, hb1⟩
  have hBn := keepBelow hW hb1
  go_wp2
  go_ret
  exact ⟨ret_bool (by rw [Bool.true_and]), hBn⟩
end Go.Proofs.YtmfdnbfjdhlonaaGreatDoor
namespace Go.Proofs.YtmfdnbfjdhlonaaGreatDoor
open Go.RowKit Wk

set_option maxHeartbeats 800000 in
theorem same12_any (v1 v2 : Value) (l1 l2 : List Sp) (w : World) (h1 : RdS w v1 l1) (h2 : RdS w v2 l2) :
  Calls Tryz.prog 40 #[v1, v2] w fun e w' => e = .returned (.bool (decide (l1 = l2))) ∧ Below w.heap.size w w' := by
 obtain ⟨a1, c1, rfl, hl1, hc1⟩ := h1
 obtain ⟨a2, c2, rfl, hl2, hc2⟩ := h2
 by_cases hn : l1.length = l2.length
 ·have HN := Lib.hid hn
  have g0 : (((l1.length : Int)) == (l2.length : Int)) = true := by simp; omega
  have g1 : (((l1.length : Int)) != (l2.length : Int)) = false := by simp; omega
  have hle : l1.length ≤ l2.length := by omega
  have HC1 := Lib.hid hc1
  have HC2 := Lib.hid hc2
  clear hn hc1 hc2
  go_enter Tryz.func40, Tryz.ntmps40
  go_wp2_with fail
  go_loopw [5] (fun i wr => ∃ k : Nat, k ≤ l1.length ∧ i = .int .i64 k ∧ Hid (∀ j, j < k → l1.getD j (0, 0) = l2.getD j (0, 0)) ∧ Below w.heap.size w wr) (fun i _ => l1.length - (intOf i).toNat)
  case atStart => exact ⟨0, Nat.zero_le _, rfl, fun j hj => by omega, Below.refl _ _⟩
  case round =>
   obtain ⟨k, hk, rfl, HK, hB⟩ := hrel
   by_cases hlt : k < l1.length
   ·obtain ⟨b, o, x, y, rfl, hbw, HXY, d1, d2⟩ := rd_at HC1.out hB hlt
    obtain ⟨b', o', x', y', rfl, hbw', HXY', d1', d2'⟩ := rd_at (k := k) HC2.out hB (by omega)
    have e1 := ext_cell d1
    have e2 := ext_cell d2
    have e1' := ext_cell d1'
    have e2' := ext_cell d2'
    have hsz := hB.size
    have hlt2 : k < l2.length := by omega
    have hk2 : (k : Int) < (l2.length : Int) := by omega
    have HNE : Hid (¬ (x = x' ∧ y = y') → l1 ≠ l2) := by
     intro hne e
     have h1 := HXY.out
     have h2 := HXY'.out
     rw [e] at h1
     rw [h1] at h2
     simp at h2
     exact hne h2
    cases g2 : (x != x') with
    | true =>
     have HF : Hid (decide (l1 = l2) = false) := decide_eq_false (HNE.out fun hh => by simp [hh.1] at g2)
     go_wp2_with fail
     refine wp_region_ext (by kernel_rfl) (by kernel_rfl) ?_
     iterate 24 (go_big_quiet_step (fail))
     refine wpQuiet_nil ?_
     intro w1 hb1
     have hBn := hB.trans (hb1.mono hsz)
     go_wp2
     go_ret
     exact ⟨ret_bool HF.out.symm, hBn⟩
    | false =>
     cases g3 : (y != y') with
     | true =>
      have HF : Hid (decide (l1 = l2) = false) := decide_eq_false (HNE.out fun hh => by simp [hh.2] at g3)
      go_wp2_with fail
      refine wp_region_ext (by kernel_rfl) (by kernel_rfl) ?_
      iterate 24 (go_big_quiet_step (fail))
      refine wpQuiet_nil ?_
      intro w1 hb1
      have hBn := hB.trans (hb1.mono hsz)
      go_wp2
      go_ret
      exact ⟨ret_bool HF.out.symm, hBn⟩
     | false =>
      have HK2 : Hid (∀ j, j < k + 1 → l1.getD j (0, 0) = l2.getD j (0, 0)) := fun j hj => by
       rcases Nat.lt_succ_iff_lt_or_eq.1 hj with h | rfl
       ·exact HK.out j h
       ·rw [HXY.out, HXY'.out]; simp at g2 g3; rw [g2, g3]
      go_wp2_with fail
      refine wp_region_ext (by kernel_rfl) (by kernel_rfl) ?_
      iterate 24 (go_big_quiet_step (fail))
      refine wpQuiet_nil ?_
      intro w1 hb1
      have hBn := hB.trans (hb1.mono hsz)
      go_wp2
      go_roundw
      case rel => exact ⟨k + 1, by omega, by go_num, HK2, hBn⟩
      case measure => simp [intOf]; omega
   ·have HT : Hid (decide (l1 = l2) = true) := decide_eq_true (list_eq_of_getD HN.out (fun j hj => HK.out j (by omega)))
    go_wp2
    go_ret
    exact ⟨ret_bool HT.out.symm, hB⟩
 ·have HN := Lib.hid hn
  have g0 : (((l1.length : Int)) == (l2.length : Int)) = false := by simp; omega
  have g1 : (((l1.length : Int)) != (l2.length : Int)) = true := by simp; omega
  clear hn
  go_enter Tryz.func40, Tryz.ntmps40
  go_wp2
  go_ret
  exact ⟨ret_bool (by symm; rw [decide_eq_false_iff_not]; intro e; exact HN.out (by rw [e])), Below.refl _ _⟩

end Go.Proofs.YtmfdnbfjdhlonaaGreatDoor
