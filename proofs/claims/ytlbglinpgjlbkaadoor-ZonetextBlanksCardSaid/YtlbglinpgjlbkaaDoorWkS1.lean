import Derived.Test.YtlbglinpgjlbkaaDoorWkQn
/- Zone texts: the reference's SameZone and Same, of sources that read alike. Printed by gen_s1.py. -/
namespace Go.Proofs.YtlbglinpgjlbkaaDoor
open Go.RowKit Wk

set_option maxRecDepth 100000 in
set_option maxHeartbeats 4000000 in
theorem sameZone_true (NM : ByteArray) (l1 l2 : Value) (li : List LiT) (w : World) (h1 : RdLi w l1 li) (h2 : RdLi w l2 li) :
  Calls Tryd.prog 27 #[.agg #[.string NM, l1], .agg #[.string NM, l2]] w fun e w' => e = .returned (.bool true) ∧ Below w.heap.size w w' := by
 obtain ⟨a1, c1, rfl, hl, hc1⟩ := h1
 obtain ⟨a2, c2, rfl, _, hc2⟩ := h2
 have HC1 := Lib.hid hc1
 have HC2 := Lib.hid hc2
 clear hc1 hc2
 go_enter Tryd.func27, Tryd.ntmps27
 go_upto_region 1 with fail
 obtain ⟨b2, hb2⟩ : ∃ b, w.heap.size = b := ⟨_, rfl⟩
 obtain ⟨b3, hb3⟩ : ∃ b, w.heap.size + 1 = b := ⟨_, rfl⟩
 obtain ⟨X, hX⟩ : ∃ X, (w.alloc (.cells #[.string NM, .slice a1 li.length c1] 72)).alloc (.cells #[.string NM, .slice a2 li.length c2] 72) = X := ⟨_, rfl⟩
 have HBX : Hid (Below w.heap.size w X) := Lib.hid (by rw [← hX]; exact ((Below.refl _ w).alloc (Nat.le_refl _) _).alloc (by simp) _)
 have HX2 : Hid (Blk X b2 #[.string NM, .slice a1 li.length c1] 72) := Lib.hid (by rw [← hX, ← hb2]; exact (Blk.new w _ _).below ((Below.refl _ _).alloc (Nat.le_refl _) _))
 have HX3 : Hid (Blk X b3 #[.string NM, .slice a2 li.length c2] 72) := Lib.hid (by
  rw [← hX, ← hb3]
  have q := Blk.new (w.alloc (.cells #[.string NM, .slice a1 li.length c1] 72)) #[.string NM, .slice a2 li.length c2] 72
  simpa using q)
 try rw [hX]
 try rw [hb3]
 try rw [hb2]
 clear hX hb2 hb3
 have x0 := HX2.out.cell (j := 0) rfl
 have x1 := HX2.out.cell (j := 1) rfl
 have y0 := HX3.out.cell (j := 0) rfl
 have y1 := HX3.out.cell (j := 1) rfl
 go_wp2_with fail
 have hln : (li.length : Int) ≤ 1152921504606846976 := by omega
 clear x0 x1 y0 y1
 go_loopw [5] (fun u wr => ∃ i : Nat, u = .int .i64 i ∧ i ≤ li.length ∧ Hid (Below X.heap.size X wr)) (fun u _ => li.length - (intOf u).toNat)
 case atStart => exact ⟨0, rfl, Nat.zero_le _, Below.refl _ _⟩
 case round =>
  obtain ⟨i, rfl, hi, HBx⟩ := hrel
  have HBr := Lib.hid (keepBelow HBX.out HBx.out)
  have z2 := (HX2.out.below HBx.out).cell (j := 1) rfl
  have z3 := (HX3.out.below HBx.out).cell (j := 1) rfl
  have zd2 : wr.drew.cell? ⟨b2, 1, none⟩ = some (.slice a1 li.length c1) := z2
  have zd3 : wr.drew.cell? ⟨b3, 1, none⟩ = some (.slice a2 li.length c2) := z3
  by_cases hlt : i < li.length
  ·have hlt2 : (i : Int) < (li.length : Int) := by omega
   have hi0 : (0 : Int) ≤ (i : Int) := Int.natCast_nonneg _
   obtain ⟨b, o, rfl, hd1⟩ := HC1.out i hlt
   obtain ⟨b', o', rfl, hd2⟩ := HC2.out i hlt
   obtain ⟨x, hx⟩ : ∃ x, li.getD i li0 = x := ⟨_, rfl⟩
   rw [hx] at hd1 hd2
   clear hx
   obtain ⟨of, ru, sv, fm, la, ⟨yr, mo, ⟨k, v, d⟩, at_, ck⟩⟩ := x
   obtain ⟨RU, rfl⟩ := bs_of ru
   obtain ⟨FM, rfl⟩ := bs_of fm
   have p0 : wr.cell? ⟨b, o + i * 12, none⟩ = some (.int .i64 of) := keepCell HBr.out (hd1 0 _ (by decide) rfl)
   have pd0 : wr.drew.cell? ⟨b, o + i * 12, none⟩ = some (.int .i64 of) := p0
   have p1 : wr.cell? ⟨b, o + i * 12 + 1, none⟩ = some (.string RU) := keepCell HBr.out (hd1 1 _ (by decide) rfl)
   have pd1 : wr.drew.cell? ⟨b, o + i * 12 + 1, none⟩ = some (.string RU) := p1
   have p2 : wr.cell? ⟨b, o + i * 12 + 2, none⟩ = some (.int .i64 sv) := keepCell HBr.out (hd1 2 _ (by decide) rfl)
   have pd2 : wr.drew.cell? ⟨b, o + i * 12 + 2, none⟩ = some (.int .i64 sv) := p2
   have p3 : wr.cell? ⟨b, o + i * 12 + 3, none⟩ = some (.string FM) := keepCell HBr.out (hd1 3 _ (by decide) rfl)
   have pd3 : wr.drew.cell? ⟨b, o + i * 12 + 3, none⟩ = some (.string FM) := p3
   have p4 : wr.cell? ⟨b, o + i * 12 + 4, none⟩ = some (.bool la) := keepCell HBr.out (hd1 4 _ (by decide) rfl)
   have pd4 : wr.drew.cell? ⟨b, o + i * 12 + 4, none⟩ = some (.bool la) := p4
   have p5 : wr.cell? ⟨b, o + i * 12 + 5, none⟩ = some (.int .i64 yr) := keepCell HBr.out (hd1 5 _ (by decide) rfl)
   have pd5 : wr.drew.cell? ⟨b, o + i * 12 + 5, none⟩ = some (.int .i64 yr) := p5
   have p6 : wr.cell? ⟨b, o + i * 12 + 6, none⟩ = some (.int .i64 mo) := keepCell HBr.out (hd1 6 _ (by decide) rfl)
   have pd6 : wr.drew.cell? ⟨b, o + i * 12 + 6, none⟩ = some (.int .i64 mo) := p6
   have p7 : wr.cell? ⟨b, o + i * 12 + 7, none⟩ = some (.int .i64 k) := keepCell HBr.out (hd1 7 _ (by decide) rfl)
   have pd7 : wr.drew.cell? ⟨b, o + i * 12 + 7, none⟩ = some (.int .i64 k) := p7
   have p8 : wr.cell? ⟨b, o + i * 12 + 8, none⟩ = some (.int .i64 v) := keepCell HBr.out (hd1 8 _ (by decide) rfl)
   have pd8 : wr.drew.cell? ⟨b, o + i * 12 + 8, none⟩ = some (.int .i64 v) := p8
   have p9 : wr.cell? ⟨b, o + i * 12 + 9, none⟩ = some (.int .i64 d) := keepCell HBr.out (hd1 9 _ (by decide) rfl)
   have pd9 : wr.drew.cell? ⟨b, o + i * 12 + 9, none⟩ = some (.int .i64 d) := p9
   have p10 : wr.cell? ⟨b, o + i * 12 + 10, none⟩ = some (.int .i64 at_) := keepCell HBr.out (hd1 10 _ (by decide) rfl)
   have pd10 : wr.drew.cell? ⟨b, o + i * 12 + 10, none⟩ = some (.int .i64 at_) := p10
   have p11 : wr.cell? ⟨b, o + i * 12 + 11, none⟩ = some (.int .i64 ck) := keepCell HBr.out (hd1 11 _ (by decide) rfl)
   have pd11 : wr.drew.cell? ⟨b, o + i * 12 + 11, none⟩ = some (.int .i64 ck) := p11
   have q0 : wr.cell? ⟨b', o' + i * 12, none⟩ = some (.int .i64 of) := keepCell HBr.out (hd2 0 _ (by decide) rfl)
   have qd0 : wr.drew.cell? ⟨b', o' + i * 12, none⟩ = some (.int .i64 of) := q0
   have q1 : wr.cell? ⟨b', o' + i * 12 + 1, none⟩ = some (.string RU) := keepCell HBr.out (hd2 1 _ (by decide) rfl)
   have qd1 : wr.drew.cell? ⟨b', o' + i * 12 + 1, none⟩ = some (.string RU) := q1
   have q2 : wr.cell? ⟨b', o' + i * 12 + 2, none⟩ = some (.int .i64 sv) := keepCell HBr.out (hd2 2 _ (by decide) rfl)
   have qd2 : wr.drew.cell? ⟨b', o' + i * 12 + 2, none⟩ = some (.int .i64 sv) := q2
   have q3 : wr.cell? ⟨b', o' + i * 12 + 3, none⟩ = some (.string FM) := keepCell HBr.out (hd2 3 _ (by decide) rfl)
   have qd3 : wr.drew.cell? ⟨b', o' + i * 12 + 3, none⟩ = some (.string FM) := q3
   have q4 : wr.cell? ⟨b', o' + i * 12 + 4, none⟩ = some (.bool la) := keepCell HBr.out (hd2 4 _ (by decide) rfl)
   have qd4 : wr.drew.cell? ⟨b', o' + i * 12 + 4, none⟩ = some (.bool la) := q4
   have q5 : wr.cell? ⟨b', o' + i * 12 + 5, none⟩ = some (.int .i64 yr) := keepCell HBr.out (hd2 5 _ (by decide) rfl)
   have qd5 : wr.drew.cell? ⟨b', o' + i * 12 + 5, none⟩ = some (.int .i64 yr) := q5
   have q6 : wr.cell? ⟨b', o' + i * 12 + 6, none⟩ = some (.int .i64 mo) := keepCell HBr.out (hd2 6 _ (by decide) rfl)
   have qd6 : wr.drew.cell? ⟨b', o' + i * 12 + 6, none⟩ = some (.int .i64 mo) := q6
   have q7 : wr.cell? ⟨b', o' + i * 12 + 7, none⟩ = some (.int .i64 k) := keepCell HBr.out (hd2 7 _ (by decide) rfl)
   have qd7 : wr.drew.cell? ⟨b', o' + i * 12 + 7, none⟩ = some (.int .i64 k) := q7
   have q8 : wr.cell? ⟨b', o' + i * 12 + 8, none⟩ = some (.int .i64 v) := keepCell HBr.out (hd2 8 _ (by decide) rfl)
   have qd8 : wr.drew.cell? ⟨b', o' + i * 12 + 8, none⟩ = some (.int .i64 v) := q8
   have q9 : wr.cell? ⟨b', o' + i * 12 + 9, none⟩ = some (.int .i64 d) := keepCell HBr.out (hd2 9 _ (by decide) rfl)
   have qd9 : wr.drew.cell? ⟨b', o' + i * 12 + 9, none⟩ = some (.int .i64 d) := q9
   have q10 : wr.cell? ⟨b', o' + i * 12 + 10, none⟩ = some (.int .i64 at_) := keepCell HBr.out (hd2 10 _ (by decide) rfl)
   have qd10 : wr.drew.cell? ⟨b', o' + i * 12 + 10, none⟩ = some (.int .i64 at_) := q10
   have q11 : wr.cell? ⟨b', o' + i * 12 + 11, none⟩ = some (.int .i64 ck) := keepCell HBr.out (hd2 11 _ (by decide) rfl)
   have qd11 : wr.drew.cell? ⟨b', o' + i * 12 + 11, none⟩ = some (.int .i64 ck) := q11
   clear hd1 hd2
   have HBD := Lib.hid (HBx.out.drew)
   go_upto_region 6 with fail
   go_region
   all_goals go_wp2_with fail
   all_goals go_roundw
   case rel => exact ⟨i + 1, by go_num, by omega, HBD⟩
   case measure => simp [intOf]; omega
  ·have hlt2 : ¬(i : Int) < (li.length : Int) := by omega
   go_wp2_with fail
   go_ret
   exact ⟨rfl, HBr.out⟩
set_option maxRecDepth 100000 in
set_option maxHeartbeats 8000000 in
theorem same_true (rv zv lv rv' zv' lv' : Value) (s : SrT) (Z Z' : List ZkT) (w : World) (h : RdSr w rv zv lv s Z) (h' : RdSr w rv' zv' lv' s Z') :
  Calls Tryd.prog 13 #[.agg #[rv, zv, lv], .agg #[rv', zv', lv']] w fun e w' => e = .returned (.bool true) ∧ Below w.heap.size w w' := by
 obtain ⟨ru, zo, lk⟩ := s
 obtain ⟨⟨ra, rc, rfl, rl, hr1⟩, hz1, hzs, ⟨la, lc, rfl, ll, hl1⟩⟩ := h
 obtain ⟨⟨ra', rc', rfl, -, hr2⟩, hz2, hzs', ⟨la', lc', rfl, -, hl2⟩⟩ := h'
 simp only at *
 have ru1 := Lib.hid hr1
 have ru2 := Lib.hid hr2
 have lk1 := Lib.hid hl1
 have lk2 := Lib.hid hl2
 have HZ1 := Lib.hid hz1
 have HZ2 := Lib.hid hz2
 have HZE : Hid (Z.map Prod.fst = Z'.map Prod.fst) := Lib.hid (hzs.trans hzs'.symm)
 have hzl : Z'.length = Z.length := by
  have := congrArg List.length HZE.out
  simpa using this.symm
 obtain ⟨za, zc, rfl, zl, hzc1⟩ := hz1.row
 obtain ⟨za', zc', ez, -, hzc2⟩ := hz2.row
 rw [hzl] at ez hzc2
 subst ez
 have Z1 := Lib.hid hzc1
 have Z2 := Lib.hid hzc2
 have HZL := Lib.hid hzl
 have hrb : (ru.length : Int) ≤ 1152921504606846976 := by omega
 have hlb : (lk.length : Int) ≤ 1152921504606846976 := by omega
 have hzb : (Z.length : Int) ≤ 1152921504606846976 := by omega
 clear hr1 hr2 hl1 hl2 hzs hzs' hzl hzc1 hzc2 rl ll zl hz1 hz2
 go_enter Tryd.func13, Tryd.ntmps13
 go_upto_region 1 with fail
 obtain ⟨b2, hb2⟩ : ∃ b, w.heap.size = b := ⟨_, rfl⟩
 obtain ⟨b3, hb3⟩ : ∃ b, w.heap.size + 1 = b := ⟨_, rfl⟩
 obtain ⟨X, hX⟩ : ∃ X, (w.alloc (.cells #[.slice ra ru.length rc, .slice za Z.length zc, .slice la lk.length lc] 33)).alloc (.cells #[.slice ra' ru.length rc', .slice za' Z.length zc', .slice la' lk.length lc'] 33) = X := ⟨_, rfl⟩
 have HBX : Hid (Below w.heap.size w X) := Lib.hid (by rw [← hX]; exact ((Below.refl _ w).alloc (Nat.le_refl _) _).alloc (by simp) _)
 have HX2 : Hid (Blk X b2 #[.slice ra ru.length rc, .slice za Z.length zc, .slice la lk.length lc] 33) := Lib.hid (by rw [← hX, ← hb2]; exact (Blk.new w _ _).below ((Below.refl _ _).alloc (Nat.le_refl _) _))
 have HX3 : Hid (Blk X b3 #[.slice ra' ru.length rc', .slice za' Z.length zc', .slice la' lk.length lc'] 33) := Lib.hid (by
  rw [← hX, ← hb3]
  have q := Blk.new (w.alloc (.cells #[.slice ra ru.length rc, .slice za Z.length zc, .slice la lk.length lc] 33)) #[.slice ra' ru.length rc', .slice za' Z.length zc', .slice la' lk.length lc'] 33
  simpa using q)
 try rw [hX]
 try rw [hb3]
 try rw [hb2]
 clear hX hb2 hb3
 have x0 := HX2.out.cell (j := 0) rfl
 have x1 := HX2.out.cell (j := 1) rfl
 have x2 := HX2.out.cell (j := 2) rfl
 have y0 := HX3.out.cell (j := 0) rfl
 have y1 := HX3.out.cell (j := 1) rfl
 have y2 := HX3.out.cell (j := 2) rfl
 have HBx : Hid (Below X.heap.size X X) := Lib.hid (Below.refl _ _)
 go_wp2_with fail
 clear x0 x1 x2 y0 y1 y2
 go_loopw [5] (fun u wx => ∃ i : Nat, u = .int .i64 i ∧ i ≤ ru.length ∧ Hid (Below X.heap.size X wx)) (fun u _ => ru.length - (intOf u).toNat)
 case atStart => exact ⟨0, rfl, Nat.zero_le _, HBx⟩
 case round =>
  clear HBx
  obtain ⟨i, rfl, hi, HBx⟩ := hrel
  have HBr := Lib.hid (keepBelow HBX.out HBx.out)
  have z2 : wr.cell? ⟨b2, 0, none⟩ = some (.slice ra ru.length rc) := (HX2.out.below HBx.out).cell (j := 0) rfl
  have z3 : wr.cell? ⟨b3, 0, none⟩ = some (.slice ra' ru.length rc') := (HX3.out.below HBx.out).cell (j := 0) rfl
  have zd2 : wr.drew.cell? ⟨b2, 0, none⟩ = some (.slice ra ru.length rc) := z2
  have zd3 : wr.drew.cell? ⟨b3, 0, none⟩ = some (.slice ra' ru.length rc') := z3
  by_cases hlt : i < ru.length
  ·have hlt2 : (i : Int) < (ru.length : Int) := by omega
   have hi0 : (0 : Int) ≤ (i : Int) := Int.natCast_nonneg _
   obtain ⟨b, o, e1, hd1⟩ := ru1.out i hlt
   obtain ⟨b', o', e2, hd2⟩ := ru2.out i hlt
   subst e1 e2
   obtain ⟨x, hx⟩ : ∃ x, ru.getD i ru0 = x := ⟨_, rfl⟩
   rw [hx] at hd1 hd2
   clear hx
   obtain ⟨nm, fr, to_, mo, ⟨k, v, d⟩, at_, ck, sv, le⟩ := x
   obtain ⟨NM, rfl⟩ := bs_of nm
   obtain ⟨LE, rfl⟩ := bs_of le
   have p0 : wr.cell? ⟨b, o + i * 11, none⟩ = some (.string NM) := keepCell HBr.out (hd1 0 _ (by decide) rfl)
   have pd0 : wr.drew.cell? ⟨b, o + i * 11, none⟩ = some (.string NM) := p0
   have p1 : wr.cell? ⟨b, o + i * 11 + 1, none⟩ = some (.int .i64 fr) := keepCell HBr.out (hd1 1 _ (by decide) rfl)
   have pd1 : wr.drew.cell? ⟨b, o + i * 11 + 1, none⟩ = some (.int .i64 fr) := p1
   have p2 : wr.cell? ⟨b, o + i * 11 + 2, none⟩ = some (.int .i64 to_) := keepCell HBr.out (hd1 2 _ (by decide) rfl)
   have pd2 : wr.drew.cell? ⟨b, o + i * 11 + 2, none⟩ = some (.int .i64 to_) := p2
   have p3 : wr.cell? ⟨b, o + i * 11 + 3, none⟩ = some (.int .i64 mo) := keepCell HBr.out (hd1 3 _ (by decide) rfl)
   have pd3 : wr.drew.cell? ⟨b, o + i * 11 + 3, none⟩ = some (.int .i64 mo) := p3
   have p4 : wr.cell? ⟨b, o + i * 11 + 4, none⟩ = some (.int .i64 k) := keepCell HBr.out (hd1 4 _ (by decide) rfl)
   have pd4 : wr.drew.cell? ⟨b, o + i * 11 + 4, none⟩ = some (.int .i64 k) := p4
   have p5 : wr.cell? ⟨b, o + i * 11 + 5, none⟩ = some (.int .i64 v) := keepCell HBr.out (hd1 5 _ (by decide) rfl)
   have pd5 : wr.drew.cell? ⟨b, o + i * 11 + 5, none⟩ = some (.int .i64 v) := p5
   have p6 : wr.cell? ⟨b, o + i * 11 + 6, none⟩ = some (.int .i64 d) := keepCell HBr.out (hd1 6 _ (by decide) rfl)
   have pd6 : wr.drew.cell? ⟨b, o + i * 11 + 6, none⟩ = some (.int .i64 d) := p6
   have p7 : wr.cell? ⟨b, o + i * 11 + 7, none⟩ = some (.int .i64 at_) := keepCell HBr.out (hd1 7 _ (by decide) rfl)
   have pd7 : wr.drew.cell? ⟨b, o + i * 11 + 7, none⟩ = some (.int .i64 at_) := p7
   have p8 : wr.cell? ⟨b, o + i * 11 + 8, none⟩ = some (.int .i64 ck) := keepCell HBr.out (hd1 8 _ (by decide) rfl)
   have pd8 : wr.drew.cell? ⟨b, o + i * 11 + 8, none⟩ = some (.int .i64 ck) := p8
   have p9 : wr.cell? ⟨b, o + i * 11 + 9, none⟩ = some (.int .i64 sv) := keepCell HBr.out (hd1 9 _ (by decide) rfl)
   have pd9 : wr.drew.cell? ⟨b, o + i * 11 + 9, none⟩ = some (.int .i64 sv) := p9
   have p10 : wr.cell? ⟨b, o + i * 11 + 10, none⟩ = some (.string LE) := keepCell HBr.out (hd1 10 _ (by decide) rfl)
   have pd10 : wr.drew.cell? ⟨b, o + i * 11 + 10, none⟩ = some (.string LE) := p10
   have q0 : wr.cell? ⟨b', o' + i * 11, none⟩ = some (.string NM) := keepCell HBr.out (hd2 0 _ (by decide) rfl)
   have qd0 : wr.drew.cell? ⟨b', o' + i * 11, none⟩ = some (.string NM) := q0
   have q1 : wr.cell? ⟨b', o' + i * 11 + 1, none⟩ = some (.int .i64 fr) := keepCell HBr.out (hd2 1 _ (by decide) rfl)
   have qd1 : wr.drew.cell? ⟨b', o' + i * 11 + 1, none⟩ = some (.int .i64 fr) := q1
   have q2 : wr.cell? ⟨b', o' + i * 11 + 2, none⟩ = some (.int .i64 to_) := keepCell HBr.out (hd2 2 _ (by decide) rfl)
   have qd2 : wr.drew.cell? ⟨b', o' + i * 11 + 2, none⟩ = some (.int .i64 to_) := q2
   have q3 : wr.cell? ⟨b', o' + i * 11 + 3, none⟩ = some (.int .i64 mo) := keepCell HBr.out (hd2 3 _ (by decide) rfl)
   have qd3 : wr.drew.cell? ⟨b', o' + i * 11 + 3, none⟩ = some (.int .i64 mo) := q3
   have q4 : wr.cell? ⟨b', o' + i * 11 + 4, none⟩ = some (.int .i64 k) := keepCell HBr.out (hd2 4 _ (by decide) rfl)
   have qd4 : wr.drew.cell? ⟨b', o' + i * 11 + 4, none⟩ = some (.int .i64 k) := q4
   have q5 : wr.cell? ⟨b', o' + i * 11 + 5, none⟩ = some (.int .i64 v) := keepCell HBr.out (hd2 5 _ (by decide) rfl)
   have qd5 : wr.drew.cell? ⟨b', o' + i * 11 + 5, none⟩ = some (.int .i64 v) := q5
   have q6 : wr.cell? ⟨b', o' + i * 11 + 6, none⟩ = some (.int .i64 d) := keepCell HBr.out (hd2 6 _ (by decide) rfl)
   have qd6 : wr.drew.cell? ⟨b', o' + i * 11 + 6, none⟩ = some (.int .i64 d) := q6
   have q7 : wr.cell? ⟨b', o' + i * 11 + 7, none⟩ = some (.int .i64 at_) := keepCell HBr.out (hd2 7 _ (by decide) rfl)
   have qd7 : wr.drew.cell? ⟨b', o' + i * 11 + 7, none⟩ = some (.int .i64 at_) := q7
   have q8 : wr.cell? ⟨b', o' + i * 11 + 8, none⟩ = some (.int .i64 ck) := keepCell HBr.out (hd2 8 _ (by decide) rfl)
   have qd8 : wr.drew.cell? ⟨b', o' + i * 11 + 8, none⟩ = some (.int .i64 ck) := q8
   have q9 : wr.cell? ⟨b', o' + i * 11 + 9, none⟩ = some (.int .i64 sv) := keepCell HBr.out (hd2 9 _ (by decide) rfl)
   have qd9 : wr.drew.cell? ⟨b', o' + i * 11 + 9, none⟩ = some (.int .i64 sv) := q9
   have q10 : wr.cell? ⟨b', o' + i * 11 + 10, none⟩ = some (.string LE) := keepCell HBr.out (hd2 10 _ (by decide) rfl)
   have qd10 : wr.drew.cell? ⟨b', o' + i * 11 + 10, none⟩ = some (.string LE) := q10
   clear hd1 hd2
   have HBD := Lib.hid (HBx.out.drew)
   go_upto_region 6 with fail
   go_region
   all_goals go_wp2_with fail
   all_goals go_roundw
   case rel => exact ⟨i + 1, by go_num, by omega, HBD⟩
   case measure => simp [intOf]; omega
  ·have hlt2 : ¬(i : Int) < (ru.length : Int) := by omega
   clear hlt hi
   go_wp2_with fail
   clear hlt2 z2 z3 zd2 zd3
   generalize wr = W1 at *
   go_loopw [6] (fun u wx => ∃ i : Nat, u = .int .i64 i ∧ i ≤ lk.length ∧ Hid (Below X.heap.size X wx)) (fun u _ => lk.length - (intOf u).toNat)
   case atStart => exact ⟨0, rfl, Nat.zero_le _, HBx⟩
   case round =>
    clear HBx
    obtain ⟨i, rfl, hi, HBx⟩ := hrel
    have HBr := Lib.hid (keepBelow HBX.out HBx.out)
    have z2 : wr.cell? ⟨b2, 2, none⟩ = some (.slice la lk.length lc) := (HX2.out.below HBx.out).cell (j := 2) rfl
    have z3 : wr.cell? ⟨b3, 2, none⟩ = some (.slice la' lk.length lc') := (HX3.out.below HBx.out).cell (j := 2) rfl
    have zd2 : wr.drew.cell? ⟨b2, 2, none⟩ = some (.slice la lk.length lc) := z2
    have zd3 : wr.drew.cell? ⟨b3, 2, none⟩ = some (.slice la' lk.length lc') := z3
    by_cases hlt : i < lk.length
    ·have hlt2 : (i : Int) < (lk.length : Int) := by omega
     have hi0 : (0 : Int) ≤ (i : Int) := Int.natCast_nonneg _
     obtain ⟨b, o, e1, hd1⟩ := lk1.out i hlt
     obtain ⟨b', o', e2, hd2⟩ := lk2.out i hlt
     subst e1 e2
     obtain ⟨x, hx⟩ : ∃ x, lk.getD i lk0 = x := ⟨_, rfl⟩
     rw [hx] at hd1 hd2
     clear hx
     obtain ⟨nm, zo⟩ := x
     obtain ⟨NM, rfl⟩ := bs_of nm
     obtain ⟨ZO, rfl⟩ := bs_of zo
     have p0 : wr.cell? ⟨b, o + i * 2, none⟩ = some (.string NM) := keepCell HBr.out (hd1 0 _ (by decide) rfl)
     have pd0 : wr.drew.cell? ⟨b, o + i * 2, none⟩ = some (.string NM) := p0
     have p1 : wr.cell? ⟨b, o + i * 2 + 1, none⟩ = some (.string ZO) := keepCell HBr.out (hd1 1 _ (by decide) rfl)
     have pd1 : wr.drew.cell? ⟨b, o + i * 2 + 1, none⟩ = some (.string ZO) := p1
     have q0 : wr.cell? ⟨b', o' + i * 2, none⟩ = some (.string NM) := keepCell HBr.out (hd2 0 _ (by decide) rfl)
     have qd0 : wr.drew.cell? ⟨b', o' + i * 2, none⟩ = some (.string NM) := q0
     have q1 : wr.cell? ⟨b', o' + i * 2 + 1, none⟩ = some (.string ZO) := keepCell HBr.out (hd2 1 _ (by decide) rfl)
     have qd1 : wr.drew.cell? ⟨b', o' + i * 2 + 1, none⟩ = some (.string ZO) := q1
     clear hd1 hd2
     have HBD := Lib.hid (HBx.out.drew)
     go_upto_region 11 with fail
     go_region
     all_goals go_wp2_with fail
     all_goals go_roundw
     case rel => exact ⟨i + 1, by go_num, by omega, HBD⟩
     case measure => simp [intOf]; omega
    ·have hlt2 : ¬(i : Int) < (lk.length : Int) := by omega
     clear hlt hi
     go_wp2_with fail
     clear hlt2 z2 z3 zd2 zd3
     generalize wr = W2 at *
     go_loopw [7] (fun u wx => ∃ i : Nat, u = .int .i64 i ∧ i ≤ Z.length ∧ Hid (Below X.heap.size X wx)) (fun u _ => Z.length - (intOf u).toNat)
     case atStart => exact ⟨0, rfl, Nat.zero_le _, HBx⟩
     case round =>
      clear HBx
      obtain ⟨i, rfl, hi, HBx⟩ := hrel
      have HBr := Lib.hid (keepBelow HBX.out HBx.out)
      have z2 : wr.cell? ⟨b2, 1, none⟩ = some (.slice za Z.length zc) := (HX2.out.below HBx.out).cell (j := 1) rfl
      have z3 : wr.cell? ⟨b3, 1, none⟩ = some (.slice za' Z.length zc') := (HX3.out.below HBx.out).cell (j := 1) rfl
      have zd2 : wr.drew.cell? ⟨b2, 1, none⟩ = some (.slice za Z.length zc) := z2
      have zd3 : wr.drew.cell? ⟨b3, 1, none⟩ = some (.slice za' Z.length zc') := z3
      by_cases hlt : i < Z.length
      ·have hlt2 : (i : Int) < (Z.length : Int) := by omega
       have hi0 : (0 : Int) ≤ (i : Int) := Int.natCast_nonneg _
       obtain ⟨b, o, e1, hd1⟩ := Z1.out i hlt
       obtain ⟨b', o', e2, hd2⟩ := Z2.out i hlt
       subst e1 e2
       have hl1 := HZ1.out.li i hlt
       have hl2 := HZ2.out.li i (by rw [HZL.out]; exact hlt)
       have hfe : (Z.getD i zk0).1 = (Z'.getD i zk0).1 := by
        have q := congrArg (fun l => l[i]?) HZE.out
        simp only [List.getElem?_map] at q
        rw [List.getD_eq_getElem?_getD, List.getD_eq_getElem?_getD]
        rw [List.getElem?_eq_getElem hlt, List.getElem?_eq_getElem (by rw [HZL.out]; exact hlt)] at q ⊢
        simpa using q
       obtain ⟨x, hx⟩ : ∃ x, Z.getD i zk0 = x := ⟨_, rfl⟩
       obtain ⟨y, hy⟩ : ∃ y, Z'.getD i zk0 = y := ⟨_, rfl⟩
       rw [hx] at hd1 hl1 hfe
       rw [hy] at hd2 hl2 hfe
       clear hx hy
       obtain ⟨⟨nm, li⟩, plv⟩ := x
       obtain ⟨fy, qlv⟩ := y
       simp only at hfe hl1 hl2
       subst hfe
       obtain ⟨NM, rfl⟩ := bs_of nm
       have HSZ : Hid (∀ W, Below w.heap.size w W → Calls Tryd.prog 27 #[.agg #[.string NM, plv], .agg #[.string NM, qlv]] W fun e w' => e = .returned (.bool true) ∧ Below W.heap.size W w') := Lib.hid fun W hW => sameZone_true NM plv qlv li W (hl1.below hW) (hl2.below hW)
       obtain ⟨pa, pc, rfl⟩ := hl1.form
       obtain ⟨qa, qc, rfl⟩ := hl2.form
       have p0 : wr.cell? ⟨b, o + i * 2, none⟩ = some (.string NM) := keepCell HBr.out (hd1 0 _ (by decide) rfl)
       have p1 : wr.cell? ⟨b, o + i * 2 + 1, none⟩ = some (.slice pa li.length pc) := keepCell HBr.out (hd1 1 _ (by decide) rfl)
       have q0 : wr.cell? ⟨b', o' + i * 2, none⟩ = some (.string NM) := keepCell HBr.out (hd2 0 _ (by decide) rfl)
       have q1 : wr.cell? ⟨b', o' + i * 2 + 1, none⟩ = some (.slice qa li.length qc) := keepCell HBr.out (hd2 1 _ (by decide) rfl)
       have pd0 : wr.drew.cell? ⟨b, o + i * 2, none⟩ = some (.string NM) := p0
       have pd1 : wr.drew.cell? ⟨b, o + i * 2 + 1, none⟩ = some (.slice pa li.length pc) := p1
       have qd0 : wr.drew.cell? ⟨b', o' + i * 2, none⟩ = some (.string NM) := q0
       have qd1 : wr.drew.cell? ⟨b', o' + i * 2 + 1, none⟩ = some (.slice qa li.length qc) := q1
       clear hl1 hl2 hd1 hd2
       have HBD := Lib.hid (HBr.out.drew)
       have HBE := Lib.hid (HBx.out.drew)
       go_upto_region 16 with fail
       have HS0 : Hid (wr.drew.cell? ⟨b2, 1, none⟩ = some (.slice (some ⟨b, o, none⟩) Z.length zc) ∧ wr.drew.cell? ⟨b3, 1, none⟩ = some (.slice (some ⟨b', o', none⟩) Z.length zc') ∧ wr.drew.cell? ⟨b, o + i * 2, none⟩ = some (.string NM) ∧ wr.drew.cell? ⟨b, o + i * 2 + 1, none⟩ = some (.slice pa li.length pc) ∧ wr.drew.cell? ⟨b', o' + i * 2, none⟩ = some (.string NM) ∧ wr.drew.cell? ⟨b', o' + i * 2 + 1, none⟩ = some (.slice qa li.length qc)) := Lib.hid ⟨zd2, zd3, pd0, pd1, qd0, qd1⟩
       go_region_held3 (fun w' => w'.cell? ⟨b2, 1, none⟩ = some (.slice (some ⟨b, o, none⟩) Z.length zc) ∧ w'.cell? ⟨b3, 1, none⟩ = some (.slice (some ⟨b', o', none⟩) Z.length zc') ∧ w'.cell? ⟨b, o + i * 2, none⟩ = some (.string NM) ∧ w'.cell? ⟨b, o + i * 2 + 1, none⟩ = some (.slice pa li.length pc) ∧ w'.cell? ⟨b', o' + i * 2, none⟩ = some (.string NM) ∧ w'.cell? ⟨b', o' + i * 2 + 1, none⟩ = some (.slice qa li.length qc))
        (first | exact HS0.out | exact HS1.out)
        ((go_at_call 27; refine (HSZ.out _ HBD.out).mono ?_; rintro e w1 ⟨rfl, hb⟩; have HS1 := Lib.hid (And.intro (keepCell hb zd2) (And.intro (keepCell hb zd3) (And.intro (keepCell hb pd0) (And.intro (keepCell hb pd1) (And.intro (keepCell hb qd0) (keepCell hb qd1))))))))
       all_goals go_wp2_with fail
       all_goals go_roundw
       case rel => exact ⟨i + 1, by go_num, by omega, keepBelow HBE.out hb⟩
       case measure => simp [intOf]; omega
      ·have hlt2 : ¬(i : Int) < (Z.length : Int) := by omega
       clear hlt hi
       go_wp2_with fail
       go_ret
       exact ⟨rfl, HBr.out⟩
end Go.Proofs.YtlbglinpgjlbkaaDoor
