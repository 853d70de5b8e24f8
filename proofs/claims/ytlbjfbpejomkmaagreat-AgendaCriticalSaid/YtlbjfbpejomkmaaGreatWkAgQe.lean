import Derived.Test.YtlbjfbpejomkmaaGreatWkAgQb
import Derived.Test.YtlbjfbpejomkmaaGreatWkBa
import Derived.Test.YtlbjfbpejomkmaaGreatWkShelfM
import Derived.Test.YtlbjfbpejomkmaaGreatWkAgQd
/- slices.Repeat at a list of one integer, of one Bool. -/
namespace Go.Proofs.YtlbjfbpejomkmaaGreat
open Go.RowKit Wk

theorem own_rowI {W : World} {B g N : Nat} {xs : List Value} (h : W.ownsRow B 3 1 (.slice (some ⟨g, 0, none⟩) N N) N xs) : ∃ cur : List Value, W.heap[g]? = some (.cells cur.toArray 3 (0, 0)) ∧ cur.length = N ∧ B ≤ g := by
 rcases h.2 with ⟨e, _⟩ | ⟨g', cap, cur, e, hgb, hgg, hn, hcap, hsz, _⟩
 ·cases e
 ·cases e
  exact ⟨cur.toList, by simpa using hgg, by simpa using hsz, hgb⟩

def RepIPost (x : Int) (N : Nat) (w : World) (e : Ending) (w' : World) : Prop := ∃ g, e = .returned (.slice (some ⟨g, 0, none⟩) N N) ∧ w.heap.size ≤ g ∧ w'.heap[g]? = some (.cells (List.replicate N (Value.int .i64 x)).toArray 3 (0, 0)) ∧ Below w.heap.size w w'
theorem rep_srcI {W : World} {g0 k : Nat} {x : Int} (hx : W.cell? ⟨g0, 0, none⟩ = some (Value.int .i64 x)) (hk : k ≤ 1) : ∀ j v, (List.replicate k (Value.int .i64 x))[j]? = some v → W.cell? ((⟨g0, 0, none⟩ : Addr).add j) = some v := fun j v hv => by
 rw [List.getElem?_replicate] at hv
 split at hv
 ·obtain rfl : j = 0 := by omega
  cases hv
  exact hx
 ·cases hv
set_option maxRecDepth 100000 in
set_option maxHeartbeats 2000000 in
theorem repI_any (x : Int) (g0 N : Nat) (w : World) (hx : w.cell? ⟨g0, 0, none⟩ = some (Value.int .i64 x)) (hN : N ≤ 1000) :
  Calls Tryz.prog 75 #[.slice (some ⟨g0, 0, none⟩) 1 1, .int .i64 (N : Nat)] w (RepIPost x N w) := by
 have g1 : decide ((N : Int) < 0) = false := by simp
 have g2 : decide (9223372036854775807 < (N : Int)) = false := by simp; omega
 have HM : Hid (∀ W, Calls Tryz.prog 90 #[.int .u64 1, .int .u64 (N : Nat)] W fun e w' => e = .returned (.tuple #[.int .u64 0, .int .u64 (N : Nat)]) ∧ w' = W) := fun W => by
  have := Tryz.bits_Mul 1 N (by omega) (by omega) W
  rw [show 1 * N / 18446744073709551616 = 0 by omega, show 1 * N % 18446744073709551616 = N by omega] at this
  exact this
 obtain ⟨i0, hi, hz0, hz1, hz2⟩ := info_parts Tryz.infoInt
 have HI := Lib.hid (And.intro hi (And.intro hz0 (And.intro hz1 hz2)))
 have HX := Lib.hid hx
 have HN := Lib.hid hN
 clear hi hz0 hz1 hz2 hx
 go_enter Tryz.func75, Tryz.ntmps75
 go_wp2_with fail
 refine (HM.out _).mono ?_
 rintro e w1 ⟨rfl, rfl⟩
 have hsl : (Tryz.prog.info? 3).map (·.size) = some 1 := by rw [HI.out.1]; simp [HI.out.2.2.1]
 have HSL := Lib.hid hsl
 clear hsl
 obtain ⟨k1, hk1⟩ : ∃ k1, Nat.min 1 N = k1 := ⟨_, rfl⟩
 have hk1' : k1 ≤ 1 ∧ k1 ≤ N ∧ (0 < N → k1 = 1) := by rw [← hk1]; exact ⟨Nat.min_le_left _ _, Nat.min_le_right _ _, fun h => Nat.min_eq_left h⟩
 have HK1 := Lib.hid (And.intro hk1 hk1')
 clear hk1 hk1'
 go_wp2_with (first
  | (with_reducible refine wpList_make_full _ rfl (.tmp 29) (.tmp 29) 36 rfl w1.heap.size 3 i0 (.int .i64 0) 1 Tryz.underlying36 HI.out.1 HI.out.2.1 HI.out.2.2.1 .i64 .i64 _ _ N rfl rfl rfl rfl (by rw [HI.out.2.2.2]; have := HN.out; omega) (by unfold maxLen; have := HN.out; omega) (Nat.le_refl _) ?_; intro w2 hown hgr; obtain ⟨cur, hcur, hcl, _⟩ := own_rowI hown; have hb2 : Below w1.heap.size w1 w2 := (Below.refl _ w1).grown hgr (Nat.le_refl _) (fun k hk => by cases hk); have HCU := Lib.hid hcur; have HCL := Lib.hid hcl; have HB2 := Lib.hid hb2; clear hown hgr hcur hcl hb2)
  | ((with_reducible show wpList _ _ _ _ _ _); refine wpList_copy_splice (o := ⟨some 33, _, _, _, _, _⟩) rfl (.tmp 31) (.tmp 32) 36 36 rfl 3 Tryz.underlying36 HSL.out _ _ _ _ _ _ rfl rfl w1.heap.size 0 cur 3 HCU.out (List.replicate k1 (Value.int .i64 x)) (by rw [List.length_replicate]; exact HK1.out.1.symm) (fun hp => ⟨rfl, _, rfl, rep_srcI (keepCell HB2.out HX.out) HK1.out.2.1⟩) (by rw [HCL.out, List.length_replicate]; have := HK1.out.2.2.1; omega) (fun v hv => by rw [List.eq_of_mem_replicate hv]; rfl) w1.heap.size w1 HB2.out (Nat.le_refl _) ?_; intro w3 HG3 hB3; rw [List.length_replicate]))
 have HS0 : Hid (w3.heap[w1.heap.size]? = some (.cells (List.replicate k1 (Value.int .i64 x) ++ cur.drop k1).toArray 3 (0, 0))) := by
  have := HG3.out
  unfold splice at this
  show _ = _
  simpa using this
 have HB3 := Lib.hid hB3
 clear hB3 HG3
 go_loopw [8] (fun u wr => ∃ (m : Nat) (rest : List Value), u = .int .i64 m ∧ (0 < N → 1 ≤ m) ∧ m ≤ N ∧ rest.length = N - m ∧ Hid (wr.heap[w1.heap.size]? = some (.cells (List.replicate m (Value.int .i64 x) ++ rest).toArray 3 (0, 0))) ∧ Below w1.heap.size w1 wr) (fun u _ => N - (intOf u).toNat)
 case atStart => exact ⟨k1, cur.drop k1, rfl, fun h => by have := HK1.out.2.2.2 h; omega, HK1.out.2.2.1, by rw [List.length_drop, HCL.out], HS0.out, HB3.out⟩
 case round =>
  obtain ⟨m, rest, rfl, hm1, hm2, hrl, HG0, hB⟩ := hrel
  by_cases hlt : m < N
  ·have hm1 := hm1 (by omega)
   obtain ⟨k, hk⟩ : ∃ k, Nat.min m (N - m) = k := ⟨_, rfl⟩
   have hk1 : k ≤ m ∧ k ≤ N - m ∧ 0 < k := by
    rw [← hk]
    refine ⟨Nat.min_le_left _ _, Nat.min_le_right _ _, ?_⟩
    rcases Nat.le_total m (N - m) with h | h
    ·rw [show Nat.min m (N - m) = m from Nat.min_eq_left h]; omega
    ·rw [show Nat.min m (N - m) = N - m from Nat.min_eq_right h]; omega
   obtain ⟨cur, hcu⟩ : ∃ cur, List.replicate m (Value.int .i64 x) ++ rest = cur := ⟨_, rfl⟩
   have hcl : cur.length = N := by rw [← hcu, List.length_append, List.length_replicate, hrl]; omega
   have HSP : Hid (splice cur m (List.replicate k (Value.int .i64 x)) = List.replicate (m + k) (Value.int .i64 x) ++ rest.drop k) := by
    unfold Hid splice
    rw [← hcu, List.length_replicate, List.take_append_of_le_length (by simp), List.take_of_length_le (by simp), List.drop_append, List.drop_eq_nil_of_le (by simp), List.nil_append, List.length_replicate, show m + k - m = k by omega, ← List.append_assoc, List.replicate_append_replicate]
   rw [hcu] at HG0
   have HG : Hid (wr.drew.heap[w1.heap.size]? = some (.cells cur.toArray 3 (0, 0))) := HG0.out
   have hsrc : ∀ j v, (List.replicate k (Value.int .i64 x))[j]? = some v → wr.drew.cell? ((⟨w1.heap.size, 0, none⟩ : Addr).add j) = some v := fun j v hv => by
    have hj : j < k := by have := (List.getElem?_eq_some_iff.1 hv).1; simpa using this
    rw [List.getElem?_replicate, if_pos hj] at hv
    rw [WideShapes.add_plain, Nat.zero_add]
    rw [cell_of_row _ _ _ _ _ _ HG.out, ← hcu]
    rw [← hv]
    simp [List.getElem?_append_left, show j < m by omega]
   have HK : Hid ((List.replicate k (Value.int .i64 x)).length = Nat.min m (N - m) ∧ (∀ j v, (List.replicate k (Value.int .i64 x))[j]? = some v → wr.drew.cell? ((⟨w1.heap.size, 0, none⟩ : Addr).add j) = some v) ∧ m + (List.replicate k (Value.int .i64 x)).length ≤ cur.length) := ⟨by rw [List.length_replicate, hk], hsrc, by rw [List.length_replicate, hcl]; omega⟩
   have HBr := Lib.hid hB.drew
   have HRL := Lib.hid hrl
   clear hB hsrc hcu hcl hk HG0 hrl
   go_upto_region 9 with fail
   refine wp_region_any (by kernel_rfl) ?_
   change wpAny _ _ _ _ _ _ _ wr.drew
   obtain ⟨I, HIe⟩ : ∃ I : Array Bool → Act → World → Prop, I = fun (ls : Array Bool) (a9 : Act) (w9 : World) => ∃  (u38 u39 u40 u41 u42 u43 u44 u45 u46 u8 : Value), ls.size = 10 ∧ a9 = ⟨#[.slice (some ⟨g0, 0, none⟩) 1 1, .int .i64 (N : Nat), undef, undef, .slice none 0 0, .int .u64 0, .int .u64 (N : Nat), .slice (some ⟨w1.heap.size, 0, none⟩) N N, u8, .int .i64 (N : Nat), .bool false, undef, .tuple #[.int .u64 0, .int .u64 (N : Nat)], .slice (some ⟨g0, 0, none⟩) 1 1, .int .i64 1, .int .u64 1, .int .i64 (N : Nat), .int .u64 (N : Nat), .tuple #[.int .u64 0, .int .u64 (N : Nat)], .int .u64 0, .int .u64 (N : Nat), .int .u64 0, .bool false, .bool false, .int .u64 (N : Nat), .bool false, .bool false, undef, .int .u64 (N : Nat), .int .i64 (N : Nat), .slice (some ⟨w1.heap.size, 0, none⟩) N N, .slice (some ⟨w1.heap.size, 0, none⟩) N N, .slice (some ⟨g0, 0, none⟩) 1 1, .int .i64 (k1 : Nat), .int .i64 (m : Nat), .slice (some ⟨w1.heap.size, 0, none⟩) N N, .int .i64 (N : Nat), .bool true, u38, u39, u40, u41, u42, u43, u44, u45, u46, undef], []⟩ ∧ Hid (ls.getD 0 false = true → u38 = .int .i64 (m : Nat)) ∧ Hid (ls.getD 1 false = true → u39 = .slice (some ⟨w1.heap.size, 0, none⟩) N N) ∧ Hid (ls.getD 2 false = true → u40 = .int .i64 (m : Nat)) ∧ Hid (ls.getD 3 false = true → u41 = .slice (some ⟨w1.heap.size, m, none⟩) (N - m) (N - m)) ∧ Hid (ls.getD 4 false = true → u42 = .slice (some ⟨w1.heap.size, 0, none⟩) N N) ∧ Hid (ls.getD 5 false = true → u43 = .int .i64 (m : Nat)) ∧ Hid (ls.getD 6 false = true → u44 = .slice (some ⟨w1.heap.size, 0, none⟩) m N) ∧ Hid (ls.getD 7 false = true → u45 = .int .i64 (k : Nat)) ∧ Hid (ls.getD 8 false = true → u46 = .int .i64 ((m : Int) + (k : Nat))) ∧ Hid (ls.getD 9 false = true → u8 = .int .i64 ((m : Int) + (k : Nat))) ∧ Hid (ls.getD 9 false = false → u8 = .int .i64 (m : Nat)) ∧ Hid (ls.getD 7 false = false → w9 = wr.drew) ∧ Hid (ls.getD 7 false = true → Hid (w9.heap[w1.heap.size]? = some (.cells (splice cur m (List.replicate k (Value.int .i64 x))).toArray 3 (0, 0))) ∧ Below w1.heap.size w1 w9) := ⟨_, rfl⟩
   have HIH := Lib.hid HIe
   clear HIe
   refine wpAny_invC I ?_ ?_ _ _ _ _ ?_ ?_ ?_
   case refine_3 =>
    rw [HIH.out]
    exact ⟨u38, u39, u40, u41, u42, u43, u44, u45, u46, .int .i64 (m : Nat), rfl, rfl, (fun h => by cases h), (fun h => by cases h), (fun h => by cases h), (fun h => by cases h), (fun h => by cases h), (fun h => by cases h), (fun h => by cases h), (fun h => by cases h), (fun h => by cases h), (fun h => by cases h), (fun _ => rfl), (fun _ => rfl), (fun h => by cases h)⟩
   case refine_4 => intro j; exact getD_rep _ _
   case refine_5 => decide
   case refine_2 =>
    intro ls a9 w9 hI hr
    rw [HIH.out] at hI
    obtain ⟨u38, u39, u40, u41, u42, u43, u44, u45, u46, u8, hsz, rfl, f0, f1, f2, f3, f4, f5, f6, f7, f8, f9, q8, q0, q1⟩ := hI
    have hall := all_listed hsz (by kernel_rfl) hr
    obtain ⟨HW, hW⟩ := q1.out (hall 7 (by decide))
    have he := f9.out (hall 9 (by decide))
    subst he
    go_wp2
    go_roundw
    case rel => exact ⟨m + k, rest.drop k, by go_num, by omega, by omega, by rw [List.length_drop, HRL.out]; omega, HSP.out ▸ HW.out, hW⟩
    case measure => simp [intOf]; omega
   case refine_1 =>
    intro ls a9 w9 i' hI hcl hi'
    rw [HIH.out] at hI
    obtain ⟨u38, u39, u40, u41, u42, u43, u44, u45, u46, u8, hsz, rfl, f0, f1, f2, f3, f4, f5, f6, f7, f8, f9, q8, q0, q1⟩ := hI
    obtain ⟨hj, op, hop, hall⟩ := mem_ready.1 hi'
    have hlt' := (Array.getElem?_eq_some_iff.1 hop).1
    have hlt' : i' < 10 := hlt'
    have hsz' : (ls.setIfInBounds i' true).size = 10 := by rw [Array.size_setIfInBounds]; exact hsz
    rcases (show i' = 0 ∨ i' = 1 ∨ i' = 2 ∨ i' = 3 ∨ i' = 4 ∨ i' = 5 ∨ i' = 6 ∨ i' = 7 ∨ i' = 8 ∨ i' = 9 by omega) with rfl | rfl | rfl | rfl | rfl | rfl | rfl | rfl | rfl | rfl
    ·simp at hop
     subst hop
     refine wpOp_of_list (i := 0) rfl ?_
     have y0 := not_listed hj
     have y8 := hcl.off (i := 0) (j := 8) rfl y0 ⟨⟨0, .data⟩, by simp, rfl, rfl⟩
     have y9 := hcl.off (i := 8) (j := 9) rfl y8 ⟨⟨8, .data⟩, by simp, rfl, rfl⟩
     have x0 := Lib.hid y0
     clear y0
     have x8 := Lib.hid y8
     clear y8
     have x9 := Lib.hid y9
     clear y9
     have e8 := q8.out x9.out
     subst e8
     go_wp2
     show I _ _ _
     rw [HIH.out]
     exact ⟨_, _, _, _, _, _, _, _, _, _, hsz', rfl, (fun _ => rfl), (gx f1), (gx f2), (gx f3), (gx f4), (gx f5), (gx f6), (gx f7), (gx f8), (fun h => absurd (gd h) (by rw [x9.out]; exact Bool.false_ne_true)), (fun _ => rfl), (fun h => q0.out (gd h)), (gx q1)⟩
    ·simp at hop
     subst hop
     refine wpOp_of_list (i := 1) rfl ?_
     go_wp2
     show I _ _ _
     rw [HIH.out]
     exact ⟨_, _, _, _, _, _, _, _, _, _, hsz', rfl, (gx f0), (fun _ => rfl), (gx f2), (gx f3), (gx f4), (gx f5), (gx f6), (gx f7), (gx f8), (gx f9), (fun h => q8.out (gd h)), (fun h => q0.out (gd h)), (gx q1)⟩
    ·simp at hop
     subst hop
     refine wpOp_of_list (i := 2) rfl ?_
     have y2 := not_listed hj
     have y3 := hcl.off (i := 2) (j := 3) rfl y2 ⟨⟨2, .data⟩, by simp, rfl, rfl⟩
     have y7 := hcl.off (i := 3) (j := 7) rfl y3 ⟨⟨3, .data⟩, by simp, rfl, rfl⟩
     have y8 := hcl.off (i := 7) (j := 8) rfl y7 ⟨⟨7, .data⟩, by simp, rfl, rfl⟩
     have y9 := hcl.off (i := 8) (j := 9) rfl y8 ⟨⟨8, .data⟩, by simp, rfl, rfl⟩
     have x2 := Lib.hid y2
     clear y2
     have x3 := Lib.hid y3
     clear y3
     have x7 := Lib.hid y7
     clear y7
     have x8 := Lib.hid y8
     clear y8
     have x9 := Lib.hid y9
     clear y9
     have e8 := q8.out x9.out
     subst e8
     go_wp2
     show I _ _ _
     rw [HIH.out]
     exact ⟨_, _, _, _, _, _, _, _, _, _, hsz', rfl, (gx f0), (gx f1), (fun _ => rfl), (gx f3), (gx f4), (gx f5), (gx f6), (gx f7), (gx f8), (fun h => absurd (gd h) (by rw [x9.out]; exact Bool.false_ne_true)), (fun _ => rfl), (fun h => q0.out (gd h)), (gx q1)⟩
    ·simp at hop
     subst hop
     refine wpOp_of_list (i := 3) rfl ?_
     have e39 := f1.out (hall ⟨1, .data⟩ (by simp) rfl)
     subst e39
     have e40 := f2.out (hall ⟨2, .data⟩ (by simp) rfl)
     subst e40
     go_wp2
     show I _ _ _
     rw [HIH.out]
     exact ⟨_, _, _, _, _, _, _, _, _, _, hsz', rfl, (gx f0), (fun _ => rfl), (fun _ => rfl), (fun _ => rfl), (gx f4), (gx f5), (gx f6), (gx f7), (gx f8), (gx f9), (fun h => q8.out (gd h)), (fun h => q0.out (gd h)), (gx q1)⟩
    ·simp at hop
     subst hop
     refine wpOp_of_list (i := 4) rfl ?_
     go_wp2
     show I _ _ _
     rw [HIH.out]
     exact ⟨_, _, _, _, _, _, _, _, _, _, hsz', rfl, (gx f0), (gx f1), (gx f2), (gx f3), (fun _ => rfl), (gx f5), (gx f6), (gx f7), (gx f8), (gx f9), (fun h => q8.out (gd h)), (fun h => q0.out (gd h)), (gx q1)⟩
    ·simp at hop
     subst hop
     refine wpOp_of_list (i := 5) rfl ?_
     have y5 := not_listed hj
     have y6 := hcl.off (i := 5) (j := 6) rfl y5 ⟨⟨5, .data⟩, by simp, rfl, rfl⟩
     have y7 := hcl.off (i := 6) (j := 7) rfl y6 ⟨⟨6, .data⟩, by simp, rfl, rfl⟩
     have y8 := hcl.off (i := 7) (j := 8) rfl y7 ⟨⟨7, .data⟩, by simp, rfl, rfl⟩
     have y9 := hcl.off (i := 8) (j := 9) rfl y8 ⟨⟨8, .data⟩, by simp, rfl, rfl⟩
     have x5 := Lib.hid y5
     clear y5
     have x6 := Lib.hid y6
     clear y6
     have x7 := Lib.hid y7
     clear y7
     have x8 := Lib.hid y8
     clear y8
     have x9 := Lib.hid y9
     clear y9
     have e8 := q8.out x9.out
     subst e8
     go_wp2
     show I _ _ _
     rw [HIH.out]
     exact ⟨_, _, _, _, _, _, _, _, _, _, hsz', rfl, (gx f0), (gx f1), (gx f2), (gx f3), (gx f4), (fun _ => rfl), (gx f6), (gx f7), (gx f8), (fun h => absurd (gd h) (by rw [x9.out]; exact Bool.false_ne_true)), (fun _ => rfl), (fun h => q0.out (gd h)), (gx q1)⟩
    ·simp at hop
     subst hop
     refine wpOp_of_list (i := 6) rfl ?_
     have e42 := f4.out (hall ⟨4, .data⟩ (by simp) rfl)
     subst e42
     have e43 := f5.out (hall ⟨5, .data⟩ (by simp) rfl)
     subst e43
     go_wp2
     show I _ _ _
     rw [HIH.out]
     exact ⟨_, _, _, _, _, _, _, _, _, _, hsz', rfl, (gx f0), (gx f1), (gx f2), (gx f3), (fun _ => rfl), (fun _ => rfl), (fun _ => rfl), (gx f7), (gx f8), (gx f9), (fun h => q8.out (gd h)), (fun h => q0.out (gd h)), (gx q1)⟩
    ·simp at hop
     subst hop
     refine wpOp_of_list (i := 7) rfl ?_
     have e41 := f3.out (hall ⟨3, .data⟩ (by simp) rfl)
     subst e41
     have e44 := f6.out (hall ⟨6, .data⟩ (by simp) rfl)
     subst e44
     have x7 := not_listed hj
     have hw := q0.out x7
     subst hw
     clear x7
     go_wp2_with ((with_reducible show wpList _ _ _ _ _ _); refine wpList_copy_splice (o := ⟨some 45, _, _, _, _, _⟩) rfl (.tmp 41) (.tmp 44) 36 36 rfl 3 Tryz.underlying36 HSL.out _ _ _ _ _ _ rfl rfl w1.heap.size m cur 3 HG.out (List.replicate k (Value.int .i64 x)) HK.out.1 (fun _ => ⟨rfl, _, rfl, HK.out.2.1⟩) HK.out.2.2 (fun v hv => by rw [List.eq_of_mem_replicate hv]; rfl) w1.heap.size w1 HBr.out (Nat.le_refl _) ?_; intro w8 hg8 hb8; rw [List.length_replicate])
     show I _ _ _
     rw [HIH.out]
     exact ⟨_, _, _, _, _, _, _, _, _, _, hsz', rfl, (gx f0), (gx f1), (gx f2), (fun _ => rfl), (gx f4), (gx f5), (fun _ => rfl), (fun _ => rfl), (gx f8), (gx f9), (fun h => q8.out (gd h)), (fun h => by rw [getD_self (by omega)] at h; cases h), (fun _ => ⟨hg8, hb8⟩)⟩
    ·simp at hop
     subst hop
     refine wpOp_of_list (i := 8) rfl ?_
     have e38 := f0.out (hall ⟨0, .data⟩ (by simp) rfl)
     subst e38
     have e45 := f7.out (hall ⟨7, .data⟩ (by simp) rfl)
     subst e45
     go_wp2
     show I _ _ _
     rw [HIH.out]
     exact ⟨_, _, _, _, _, _, _, _, _, _, hsz', rfl, (fun _ => rfl), (gx f1), (gx f2), (gx f3), (gx f4), (gx f5), (gx f6), (fun _ => rfl), (fun _ => rfl), (gx f9), (fun h => q8.out (gd h)), (fun h => q0.out (gd h)), (gx q1)⟩
    ·simp at hop
     subst hop
     refine wpOp_of_list (i := 9) rfl ?_
     have e46 := f8.out (hall ⟨8, .data⟩ (by simp) rfl)
     subst e46
     go_wp2
     show I _ _ _
     rw [HIH.out]
     exact ⟨_, _, _, _, _, _, _, _, _, _, hsz', rfl, (gx f0), (gx f1), (gx f2), (gx f3), (gx f4), (gx f5), (gx f6), (gx f7), (fun _ => rfl), (fun _ => rfl), (fun h => by rw [getD_self (by omega)] at h; cases h), (fun h => q0.out (gd h)), (gx q1)⟩
  ·have hmn : m = N := by omega
   subst hmn
   have hr0 : rest = [] := List.eq_nil_of_length_eq_zero (by omega)
   subst hr0
   have HB := Lib.hid hB
   clear hB
   go_wp2
   go_ret
   refine ⟨_, rfl, Nat.le_refl _, ?_, HB.out⟩
   have hg := HG0.out
   rw [List.append_nil] at hg
   exact hg
theorem Tryz.infoBool : (Tryz.prog.info? 4).map (fun i => (i.zero, i.size, i.bytes)) = some (some (.bool false), 1, 1) := by kernel_rfl
end Go.Proofs.YtlbjfbpejomkmaaGreat
namespace Go.Proofs.YtlbjfbpejomkmaaGreat
open Go.RowKit Wk

theorem made_two (n j : Nat) (h : j < n * 2) : (madeCells #[.int .i64 0, .int .i64 0] (n * 2)).toList[j]? = some (.int .i64 0) := by
 unfold madeCells
 rw [Array.getElem?_toList]
 simp [h]
 rcases (by omega : j % 2 = 0 ∨ j % 2 = 1) with e | e <;> rw [e] <;> rfl
theorem row_zeroP {W : World} {B g N : Nat} (h : W.ownsRow B 46 2 (.slice (some ⟨g, 0, none⟩) N N) N (madeCells (Value.agg #[.int .i64 0, .int .i64 0]).cells (N * 2)).toList) : g < W.heap.size ∧ RowP W g (List.replicate N (0, 0)) := by
 have h' := h
 rcases h.2 with ⟨e, _⟩ | ⟨g', cap, cur, e, hgb, hgg, hn, hcap, hsz, _⟩
 ·cases e
 ·cases e
  have hfz : ∀ i, W.frozen? ⟨g, i, none⟩ = false := fun i => by simp [World.frozen?, hgg]
  have hc : ∀ j, j < N * 2 → W.cell? ⟨g, j, none⟩ = some (.int .i64 0) := fun j hj => by rw [World.ownsRow.cellAt h' j hj]; exact made_two N j hj
  refine ⟨(Array.getElem?_eq_some_iff.1 hgg).1, fun i hi => ?_⟩
  rw [List.length_replicate] at hi
  have e0 : spAt (List.replicate N (0, 0)) i = (0, 0) := by unfold spAt; rw [List.getD_eq_getElem?_getD, List.getElem?_replicate, if_pos hi]; rfl
  rw [e0]
  exact ⟨⟨hc _ (by omega), hc _ (by omega)⟩, hfz _, hfz _⟩
theorem row_zeroB {W : World} {B g N : Nat} (h : W.ownsRow B 4 1 (.slice (some ⟨g, 0, none⟩) N N) N (madeCells (Value.bool false).cells (N * 1)).toList) : g < W.heap.size ∧ RowB W g (List.replicate N false) := by
 have h' := h
 rcases h.2 with ⟨e, _⟩ | ⟨g', cap, cur, e, hgb, hgg, hn, hcap, hsz, _⟩
 ·cases e
 ·cases e
  have hfz : ∀ i, W.frozen? ⟨g, i, none⟩ = false := fun i => by simp [World.frozen?, hgg]
  refine ⟨(Array.getElem?_eq_some_iff.1 hgg).1, fun i hi => ?_⟩
  rw [List.length_replicate] at hi
  rw [rep_at, World.ownsRow.cellAt h' i (by omega)]
  refine ⟨?_, hfz _⟩
  show (madeCells #[.bool false] (N * 1)).toList[i]? = _
  rw [toList_madeCells_one, List.getElem?_replicate, if_pos (by omega)]
theorem RowP.rd {W : World} {g : Nat} {a : List Sp} (h : RowP W g a) (hl : a.length ≤ 24) : RdS W (.slice (some ⟨g, 0, none⟩) a.length a.length) a :=
 ⟨some ⟨g, 0, none⟩, a.length, rfl, by omega, fun i hi => ⟨g, 0, rfl, by rw [Nat.zero_add]; exact (h i hi).1.1, by rw [Nat.zero_add]; exact (h i hi).1.2⟩⟩
theorem RowP.set {W : World} {g b o : Nat} {a : List Sp} (h : RowP W g a) (hn : b ≠ g) (v : Value) : RowP (W.setCell ⟨b, o, none⟩ v) g a := fun i hi =>
 ⟨⟨(cell_ne (Or.inl hn)).trans (h i hi).1.1, (cell_ne (Or.inl hn)).trans (h i hi).1.2⟩, (frz_set ..).trans (h i hi).2.1, (frz_set ..).trans (h i hi).2.2⟩
def FdPost (r : Rs) (w : World) (e : Ending) (w' : World) : Prop := Below w.heap.size w w' ∧ match r with
 | .ok a => ∃ g, e = .returned (.tuple #[.slice (some ⟨g, 0, none⟩) a.length a.length, .int .i64 0]) ∧ w.heap.size ≤ g ∧ RowP w' g a ∧ a.length ≤ 24
 | .out => e = .returned (.tuple #[.slice none 0 0, .int .i64 18])
 | .no _ => e = .returned (.tuple #[.slice none 0 0, .int .i64 17])
def FdCtx (vl vR : Value) (start most : Int) (L : List Kv) (R : List Sw) (w : World) : Prop := RdK w vl L ∧ RdR w vR R ∧ TkV (tks L) (sts R) ∧ (∀ i, i < R.length → VB (R.getD i sw0).1 = true) ∧ (∀ i, i < L.length → (L.getD i kv0).1.wk ≤ 4398046511104) ∧ (-4398046511104 ≤ start ∧ start ≤ 4398046511104) ∧ (L.length ≤ 24 ∧ R.length ≤ 24) ∧ 0 ≤ most ∧ most ≤ 1000000

set_option maxRecDepth 100000 in
set_option maxHeartbeats 8000000 in
theorem find_any (vl vR : Value) (start most : Int) (L : List Kv) (R : List Sw) (w : World) (hC : FdCtx vl vR start most L R w) :
  Calls Tryz.prog 47 #[vl, vR, .int .i64 start, .int .i64 most] w (FdPost (findM (tks L) (sts R) start most) w) := by
 obtain ⟨al, cl, rfl⟩ := hC.1.form
 obtain ⟨aR, cR, rfl⟩ := hC.2.1.form
 have HLN := Lib.hid hC.2.2.2.2.2.2.1
 have HC := Lib.hid hC
 obtain ⟨r, hr⟩ : ∃ r, findM (tks L) (sts R) start most = r := ⟨_, rfl⟩
 rw [hr]
 have HF := Lib.hid hr
 clear hC hr
 go_enter Tryz.func47, Tryz.ntmps47
 go_upto_region 1 with fail
 refine wp_region_any (by kernel_rfl) ?_
 change wpAny _ _ _ _ _ _ _ w.drew
 obtain ⟨I, HIe⟩ : ∃ I : Array Bool → Act → World → Prop, I = fun (ls : Array Bool) (a9 : Act) (w9 : World) => ∃ (ba : Nat) (bd : Nat) (b : Nat) (u12 u13 u14 u15 u16 u17 u18 u19 u20 u21 u22 u23 u10 : Value), ls.size = 13 ∧ a9 = ⟨#[.slice al L.length cl, .slice aR R.length cR, .int .i64 start, .int .i64 most, undef, undef, undef, undef, .slice none 0 0, .int .i64 0, u10, undef, u12, u13, u14, u15, u16, u17, u18, u19, u20, u21, u22, u23, undef, undef, undef, undef, undef, undef, undef, undef, undef, undef, undef, undef, undef, undef, undef, undef, undef, undef], []⟩ ∧ Below w.heap.size w w9 ∧ Hid (ls.getD 0 false = true → u12 = .slice al L.length cl) ∧ Hid (ls.getD 1 false = true → u13 = .slice aR R.length cR) ∧ Hid (ls.getD 2 false = true → u14 = .int .i64 start) ∧ Hid (ls.getD 3 false = true → u15 = .int .i64 most) ∧ Hid (ls.getD 4 false = true → u16 = .slice al L.length cl) ∧ Hid (ls.getD 5 false = true → u17 = .int .i64 (L.length : Nat)) ∧ Hid (ls.getD 6 false = true → u18 = .slice (some ⟨ba, 0, none⟩) L.length L.length) ∧ Hid (ls.getD 7 false = true → u19 = .slice al L.length cl) ∧ Hid (ls.getD 8 false = true → u20 = .int .i64 (L.length : Nat)) ∧ Hid (ls.getD 9 false = true → u21 = .slice (some ⟨bd, 0, none⟩) L.length L.length) ∧ Hid (ls.getD 10 false = true → u22 = .agg #[.slice al L.length cl, .slice aR R.length cR, .int .i64 start, .int .i64 most, .bool false, .slice (some ⟨ba, 0, none⟩) L.length L.length, .slice (some ⟨bd, 0, none⟩) L.length L.length]) ∧ Hid (ls.getD 11 false = true → u23 = .pointer (some ⟨b, 0, none⟩)) ∧ Hid (ls.getD 12 false = true → u10 = .pointer (some ⟨b, 0, none⟩)) ∧ Hid (ls.getD 6 false = true → (w.heap.size ≤ ba ∧ ba < w9.heap.size ∧ RowP w9 ba (List.replicate L.length (0, 0)))) ∧ Hid (ls.getD 9 false = true → (w.heap.size ≤ bd ∧ bd < w9.heap.size ∧ RowB w9 bd (List.replicate L.length false))) ∧ Hid (ls.getD 6 false = true → ls.getD 9 false = true → ba ≠ bd) ∧ Hid (ls.getD 11 false = true → (w.heap.size ≤ b ∧ SrW w9 b ba bd (.slice al L.length cl) (.slice aR R.length cR) start most false (List.replicate L.length (0, 0)) (List.replicate L.length false))) := ⟨_, rfl⟩
 have HIH := Lib.hid HIe
 clear HIe
 refine wpAny_invC I ?_ ?_ _ _ _ _ ?_ ?_ ?_
 case refine_3 =>
  rw [HIH.out]
  exact ⟨0, 0, 0, undef, undef, undef, undef, undef, undef, undef, undef, undef, undef, undef, undef, undef, rfl, rfl, (Below.refl _ w).drew, (fun h => by cases h), (fun h => by cases h), (fun h => by cases h), (fun h => by cases h), (fun h => by cases h), (fun h => by cases h), (fun h => by cases h), (fun h => by cases h), (fun h => by cases h), (fun h => by cases h), (fun h => by cases h), (fun h => by cases h), (fun h => by cases h), (fun h => by cases h), (fun h => by cases h), (fun h => by cases h), (fun h => by cases h)⟩
 case refine_4 => intro j; exact getD_rep _ _
 case refine_5 => decide
 case refine_2 =>
  intro ls a9 w9 hI hr
  rw [HIH.out] at hI
  obtain ⟨ba, bd, b, u12, u13, u14, u15, u16, u17, u18, u19, u20, u21, u22, u23, u10, hsz, rfl, hB, f0, f1, f2, f3, f4, f5, f6, f7, f8, f9, f10, f11, f12, ra, rd, dd, rb⟩ := hI
  have hall := all_listed hsz (by kernel_rfl) hr
  obtain ⟨hb1, hS⟩ := rb.out (hall 11 (by decide))
  obtain ⟨p1, p2, p3⟩ := ra.out (hall 6 (by decide))
  obtain ⟨q1, q2, q3⟩ := rd.out (hall 9 (by decide))
  have e6 := f6.out (hall 6 (by decide))
  have e9 := f9.out (hall 9 (by decide))
  have e12 := f12.out (hall 12 (by decide))
  have e0 := f0.out (hall 0 (by decide))
  subst e12
  have HS := Lib.hid hS
  have HBB := Lib.hid (And.intro hb1 (And.intro p1 q1))
  have HB9 := Lib.hid hB
  clear e6 e9 e0 p3 q3 hS hB ra rd dd rb f0 f1 f2 f3 f4 f5 f6 f7 f8 f9 f10 f11 f12 hall hr hsz
  go_wp2_with fail
  obtain ⟨W2, hW2⟩ : ∃ X, w9.alloc (.cells #[.int .i64 start] 3) = X := ⟨_, rfl⟩
  have hb2 : Below w9.heap.size w9 W2 := by rw [← hW2]; exact (Below.refl _ w9).alloc (Nat.le_refl _) _
  have hx2 : W2.cell? ⟨w9.heap.size, 0, none⟩ = some (.int .i64 start) := by rw [← hW2]; simp [go_sem]
  have hlt9 : w9.heap.size < W2.heap.size := by rw [← hW2]; simp
  rw [hW2]
  have HRP := Lib.hid (repI_any start w9.heap.size R.length W2 hx2 (by have := HLN.out; omega))
  have HS2 := Lib.hid (HS.out.below hb2)
  have HB2 := Lib.hid (keepBelow HB9.out hb2)
  have HSZ := Lib.hid (And.intro hlt9 hb2.size)
  clear hW2 hb2 hx2 hlt9
  refine HRP.out.mono ?_
  rintro e w3 ⟨g, rfl, hg, hrow, hb3⟩
  have HS3 := Lib.hid (HS2.out.below hb3)
  have HB3 := Lib.hid (keepBelow HB2.out hb3)
  have hn3 : g ≠ b ∧ g ≠ ba ∧ g ≠ bd := by
   have h1 : b < w9.heap.size := World.block_lt_of_cell? w9 ⟨b, 0, none⟩ HS.out.c0
   have h2 := HSZ.out
   have h3 : ba < w9.heap.size := p2
   have h4 : bd < w9.heap.size := q2
   omega
  have HE3 : Hid (RdJ3 b ba bd w3 (.slice (some ⟨g, 0, none⟩) R.length R.length) (List.replicate R.length start)) := by
   refine ⟨some ⟨g, 0, none⟩, R.length, by rw [List.length_replicate], by rw [List.length_replicate]; have := HLN.out; omega, fun i hi => ⟨g, 0, rfl, hn3, ?_⟩⟩
   rw [List.length_replicate] at hi
   rw [Nat.zero_add, cell_of_row _ _ _ _ _ _ hrow]
   simp [List.getD_eq_getElem?_getD, hi]
  have HST : Hid (RunSt w b ba bd (.slice al L.length cl) (.slice aR R.length cR) start L R w3 (.slice (some ⟨g, 0, none⟩) R.length R.length) most (List.replicate L.length false) (List.replicate R.length start) (List.replicate L.length (0, 0)) (List.replicate L.length (0, 0))) :=
   ⟨HS3.out, HB3.out, HE3.out, List.length_replicate, List.length_replicate, List.length_replicate, Agree.refl _ _, (fun r hr => by (rw [List.getD_eq_getElem?_getD, List.getElem?_replicate, if_pos hr]; exact HC.out.2.2.2.2.2.1.2)), (fun i hi => by (rw [rep_at] at hi; cases hi)), HC.out.2.2.2.2.2.2.2⟩
  have HCX : Hid (RunCtx w b ba bd (.slice al L.length cl) (.slice aR R.length cR) start L R) :=
   ⟨HC.out.1, HC.out.2.1, HC.out.2.2.1, HC.out.2.2.2.1, HC.out.2.2.2.2.1, HC.out.2.2.2.2.2.1, HC.out.2.2.2.2.2.2.1, HBB.out⟩
  have HCL := Lib.hid (run_any w b ba bd _ _ start L R HCX.out L.length _ _ _ _ most _ w3 0 HST.out (rep_count _) (by omega))
  have HF2 : Hid (runM (tks L) (sts R) start L.length (List.replicate L.length false) (List.replicate R.length start) (List.replicate L.length (0, 0)) most = r) := by
   unfold Hid
   rw [← HF.out]
   unfold findM
   rw [tks_length, sts_length]
  rw [HF2.out] at HCL
  clear hn3 hrow hg hb3
  go_wp2_with fail
  refine HCL.out.mono ?_
  rintro e w4 ⟨hk4, hpost⟩
  have HB4 := Lib.hid (HB3.out.trans hk4.1)
  clear hk4
  cases r with
  | ok a =>
   obtain ⟨rfl, left', d', S4⟩ := hpost
   have c5 := S4.c5
   have HP := Lib.hid S4.pa
   have HLA : Hid (a.length ≤ 24) := by
    have h1 := find_ok (HC.out.2.2.1) HF.out
    have h2 := h1.len
    have h3 := HLN.out
    unfold Hid
    rw [h2, tks_length]
    omega
   clear S4
   go_wp2
   go_ret2
   exact ⟨HB4.out, ba, rfl, p1, HP.out, HLA.out⟩
  | out =>
   obtain ⟨rfl, left', am', d', S4, _⟩ := hpost
   have c4 := S4.c4
   clear S4
   go_wp2
   go_ret2
   exact ⟨HB4.out, rfl⟩
  | no left' =>
   obtain ⟨rfl, _, am', S4, _⟩ := hpost
   have c4 := S4.c4
   clear S4
   go_wp2
   go_ret2
   exact ⟨HB4.out, rfl⟩
 case refine_1 =>
  intro ls a9 w9 i' hI hcl hi'
  rw [HIH.out] at hI
  obtain ⟨ba, bd, b, u12, u13, u14, u15, u16, u17, u18, u19, u20, u21, u22, u23, u10, hsz, rfl, hB, f0, f1, f2, f3, f4, f5, f6, f7, f8, f9, f10, f11, f12, ra, rd, dd, rb⟩ := hI
  obtain ⟨hj, op, hop, hall⟩ := mem_ready.1 hi'
  have hlt' := (Array.getElem?_eq_some_iff.1 hop).1
  have hlt' : i' < 13 := hlt'
  have hsz' : (ls.setIfInBounds i' true).size = 13 := by rw [Array.size_setIfInBounds]; exact hsz
  rcases (show i' = 0 ∨ i' = 1 ∨ i' = 2 ∨ i' = 3 ∨ i' = 4 ∨ i' = 5 ∨ i' = 6 ∨ i' = 7 ∨ i' = 8 ∨ i' = 9 ∨ i' = 10 ∨ i' = 11 ∨ i' = 12 by omega) with rfl | rfl | rfl | rfl | rfl | rfl | rfl | rfl | rfl | rfl | rfl | rfl | rfl
  ·simp at hop
   subst hop
   refine wpOp_of_list (i := 0) rfl ?_
   go_wp2
   show I _ _ _
   rw [HIH.out]
   exact ⟨ba, bd, b, _, _, _, _, _, _, _, _, _, _, _, _, _, hsz', rfl, (hB), (fun _ => rfl), (gx f1), (gx f2), (gx f3), (gx f4), (gx f5), (gx f6), (gx f7), (gx f8), (gx f9), (gx f10), (gx f11), (gx f12), (gx ra), (gx rd), (gx2 dd), (gx rb)⟩
  ·simp at hop
   subst hop
   refine wpOp_of_list (i := 1) rfl ?_
   go_wp2
   show I _ _ _
   rw [HIH.out]
   exact ⟨ba, bd, b, _, _, _, _, _, _, _, _, _, _, _, _, _, hsz', rfl, (hB), (gx f0), (fun _ => rfl), (gx f2), (gx f3), (gx f4), (gx f5), (gx f6), (gx f7), (gx f8), (gx f9), (gx f10), (gx f11), (gx f12), (gx ra), (gx rd), (gx2 dd), (gx rb)⟩
  ·simp at hop
   subst hop
   refine wpOp_of_list (i := 2) rfl ?_
   go_wp2
   show I _ _ _
   rw [HIH.out]
   exact ⟨ba, bd, b, _, _, _, _, _, _, _, _, _, _, _, _, _, hsz', rfl, (hB), (gx f0), (gx f1), (fun _ => rfl), (gx f3), (gx f4), (gx f5), (gx f6), (gx f7), (gx f8), (gx f9), (gx f10), (gx f11), (gx f12), (gx ra), (gx rd), (gx2 dd), (gx rb)⟩
  ·simp at hop
   subst hop
   refine wpOp_of_list (i := 3) rfl ?_
   go_wp2
   show I _ _ _
   rw [HIH.out]
   exact ⟨ba, bd, b, _, _, _, _, _, _, _, _, _, _, _, _, _, hsz', rfl, (hB), (gx f0), (gx f1), (gx f2), (fun _ => rfl), (gx f4), (gx f5), (gx f6), (gx f7), (gx f8), (gx f9), (gx f10), (gx f11), (gx f12), (gx ra), (gx rd), (gx2 dd), (gx rb)⟩
  ·simp at hop
   subst hop
   refine wpOp_of_list (i := 4) rfl ?_
   go_wp2
   show I _ _ _
   rw [HIH.out]
   exact ⟨ba, bd, b, _, _, _, _, _, _, _, _, _, _, _, _, _, hsz', rfl, (hB), (gx f0), (gx f1), (gx f2), (gx f3), (fun _ => rfl), (gx f5), (gx f6), (gx f7), (gx f8), (gx f9), (gx f10), (gx f11), (gx f12), (gx ra), (gx rd), (gx2 dd), (gx rb)⟩
  ·simp at hop
   subst hop
   refine wpOp_of_list (i := 5) rfl ?_
   have e16 := f4.out (hall ⟨4, .data⟩ (by simp) rfl)
   subst e16
   go_wp2
   show I _ _ _
   rw [HIH.out]
   exact ⟨ba, bd, b, _, _, _, _, _, _, _, _, _, _, _, _, _, hsz', rfl, (hB), (gx f0), (gx f1), (gx f2), (gx f3), (fun _ => rfl), (fun _ => rfl), (gx f6), (gx f7), (gx f8), (gx f9), (gx f10), (gx f11), (gx f12), (gx ra), (gx rd), (gx2 dd), (gx rb)⟩
  ·simp at hop
   subst hop
   refine wpOp_of_list (i := 6) rfl ?_
   have e17 := f5.out (hall ⟨5, .data⟩ (by simp) rfl)
   subst e17
   have y6 := not_listed hj
   have y10 := hcl.off (i := 6) (j := 10) rfl y6 ⟨⟨6, .data⟩, by simp, rfl, rfl⟩
   have y11 := hcl.off (i := 10) (j := 11) rfl y10 ⟨⟨10, .data⟩, by simp, rfl, rfl⟩
   have y12 := hcl.off (i := 11) (j := 12) rfl y11 ⟨⟨11, .data⟩, by simp, rfl, rfl⟩
   have x6 := Lib.hid y6
   clear y6
   have x10 := Lib.hid y10
   clear y10
   have x11 := Lib.hid y11
   clear y11
   have x12 := Lib.hid y12
   clear y12
   obtain ⟨i0, hi, hz0, hz1, hz2⟩ := info_parts Tryz.infoSpan
   go_wp2_with ((with_reducible show wpList _ _ _ _ _ _); refine wpList_make_full _ rfl (.tmp 17) (.tmp 17) 26 rfl w.heap.size 46 i0 (.agg #[.int .i64 0, .int .i64 0]) 2 Tryz.underlying26 hi hz0 hz1 .i64 .i64 _ _ L.length rfl rfl rfl rfl (by rw [hz2]; have := HLN.out; omega) (by unfold maxLen; have := HLN.out; omega) hB.size ?_; intro w8 hown hgr)
   have hb8 : Below w9.heap.size w9 w8 := (Below.refl _ w9).grown hgr (Nat.le_refl _) (fun k hk => by cases hk)
   obtain ⟨hz8, hr8⟩ := row_zeroP hown
   have hs8 := hB.size
   clear hi hz0 hz1 hz2 hown hgr
   show I _ _ _
   rw [HIH.out]
   exact ⟨w9.heap.size, bd, b, _, _, _, _, _, _, _, _, _, _, _, _, _, hsz', rfl, (keepBelow hB hb8), (gx f0), (gx f1), (gx f2), (gx f3), (gx f4), (fun _ => rfl), (fun _ => rfl), (gx f7), (gx f8), (gx f9), (fun h => absurd (gd h) (by rw [x10.out]; exact Bool.false_ne_true)), (fun h => absurd (gd h) (by rw [x11.out]; exact Bool.false_ne_true)), (fun h => absurd (gd h) (by rw [x12.out]; exact Bool.false_ne_true)), (fun _ => ⟨hs8, hz8, hr8⟩), (fun h => ⟨(rd.out (gd h)).1, Nat.lt_of_lt_of_le (rd.out (gd h)).2.1 hb8.size, (rd.out (gd h)).2.2.below hb8⟩), (fun h h' => Nat.ne_of_gt (rd.out (gd h')).2.1), (fun h => absurd (gd h) (by rw [x11.out]; exact Bool.false_ne_true))⟩
  ·simp at hop
   subst hop
   refine wpOp_of_list (i := 7) rfl ?_
   go_wp2
   show I _ _ _
   rw [HIH.out]
   exact ⟨ba, bd, b, _, _, _, _, _, _, _, _, _, _, _, _, _, hsz', rfl, (hB), (gx f0), (gx f1), (gx f2), (gx f3), (gx f4), (gx f5), (gx f6), (fun _ => rfl), (gx f8), (gx f9), (gx f10), (gx f11), (gx f12), (gx ra), (gx rd), (gx2 dd), (gx rb)⟩
  ·simp at hop
   subst hop
   refine wpOp_of_list (i := 8) rfl ?_
   have e19 := f7.out (hall ⟨7, .data⟩ (by simp) rfl)
   subst e19
   go_wp2
   show I _ _ _
   rw [HIH.out]
   exact ⟨ba, bd, b, _, _, _, _, _, _, _, _, _, _, _, _, _, hsz', rfl, (hB), (gx f0), (gx f1), (gx f2), (gx f3), (gx f4), (gx f5), (gx f6), (fun _ => rfl), (fun _ => rfl), (gx f9), (gx f10), (gx f11), (gx f12), (gx ra), (gx rd), (gx2 dd), (gx rb)⟩
  ·simp at hop
   subst hop
   refine wpOp_of_list (i := 9) rfl ?_
   have e20 := f8.out (hall ⟨8, .data⟩ (by simp) rfl)
   subst e20
   have y9 := not_listed hj
   have y10 := hcl.off (i := 9) (j := 10) rfl y9 ⟨⟨9, .data⟩, by simp, rfl, rfl⟩
   have y11 := hcl.off (i := 10) (j := 11) rfl y10 ⟨⟨10, .data⟩, by simp, rfl, rfl⟩
   have y12 := hcl.off (i := 11) (j := 12) rfl y11 ⟨⟨11, .data⟩, by simp, rfl, rfl⟩
   have x9 := Lib.hid y9
   clear y9
   have x10 := Lib.hid y10
   clear y10
   have x11 := Lib.hid y11
   clear y11
   have x12 := Lib.hid y12
   clear y12
   obtain ⟨i0, hi, hz0, hz1, hz2⟩ := info_parts Tryz.infoBool
   go_wp2_with ((with_reducible show wpList _ _ _ _ _ _); refine wpList_make_full _ rfl (.tmp 20) (.tmp 20) 79 rfl w.heap.size 4 i0 (.bool false) 1 Tryz.underlying79 hi hz0 hz1 .i64 .i64 _ _ L.length rfl rfl rfl rfl (by rw [hz2]; have := HLN.out; omega) (by unfold maxLen; have := HLN.out; omega) hB.size ?_; intro w8 hown hgr)
   have hb8 : Below w9.heap.size w9 w8 := (Below.refl _ w9).grown hgr (Nat.le_refl _) (fun k hk => by cases hk)
   obtain ⟨hz8, hr8⟩ := row_zeroB hown
   have hs8 := hB.size
   clear hi hz0 hz1 hz2 hown hgr
   show I _ _ _
   rw [HIH.out]
   exact ⟨ba, w9.heap.size, b, _, _, _, _, _, _, _, _, _, _, _, _, _, hsz', rfl, (keepBelow hB hb8), (gx f0), (gx f1), (gx f2), (gx f3), (gx f4), (gx f5), (gx f6), (gx f7), (fun _ => rfl), (fun _ => rfl), (fun h => absurd (gd h) (by rw [x10.out]; exact Bool.false_ne_true)), (fun h => absurd (gd h) (by rw [x11.out]; exact Bool.false_ne_true)), (fun h => absurd (gd h) (by rw [x12.out]; exact Bool.false_ne_true)), (fun h => ⟨(ra.out (gd h)).1, Nat.lt_of_lt_of_le (ra.out (gd h)).2.1 hb8.size, (ra.out (gd h)).2.2.below hb8⟩), (fun _ => ⟨hs8, hz8, hr8⟩), (fun h h' => Nat.ne_of_lt (ra.out (gd h)).2.1), (fun h => absurd (gd h) (by rw [x11.out]; exact Bool.false_ne_true))⟩
  ·simp at hop
   subst hop
   refine wpOp_of_list (i := 10) rfl ?_
   have e12 := f0.out (hall ⟨0, .data⟩ (by simp) rfl)
   subst e12
   have e13 := f1.out (hall ⟨1, .data⟩ (by simp) rfl)
   subst e13
   have e14 := f2.out (hall ⟨2, .data⟩ (by simp) rfl)
   subst e14
   have e15 := f3.out (hall ⟨3, .data⟩ (by simp) rfl)
   subst e15
   have e18 := f6.out (hall ⟨6, .data⟩ (by simp) rfl)
   subst e18
   have e21 := f9.out (hall ⟨9, .data⟩ (by simp) rfl)
   subst e21
   go_wp2
   show I _ _ _
   rw [HIH.out]
   exact ⟨ba, bd, b, _, _, _, _, _, _, _, _, _, _, _, _, _, hsz', rfl, (hB), (fun _ => rfl), (fun _ => rfl), (fun _ => rfl), (fun _ => rfl), (gx f4), (gx f5), (fun _ => rfl), (gx f7), (gx f8), (fun _ => rfl), (fun _ => rfl), (gx f11), (gx f12), (gx ra), (gx rd), (gx2 dd), (gx rb)⟩
  ·simp at hop
   subst hop
   refine wpOp_of_list (i := 11) rfl ?_
   have e22 := f10.out (hall ⟨10, .data⟩ (by simp) rfl)
   subst e22
   have hla := hall ⟨10, .data⟩ (by simp) rfl
   have hl6 := hcl 10 _ hla rfl ⟨6, .data⟩ (by simp) rfl
   have hl9 := hcl 10 _ hla rfl ⟨9, .data⟩ (by simp) rfl
   obtain ⟨p1, p2, p3⟩ := ra.out hl6
   obtain ⟨q1, q2, q3⟩ := rd.out hl9
   have hne := dd.out hl6 hl9
   have y11 := not_listed hj
   have y12 := hcl.off (i := 11) (j := 12) rfl y11 ⟨⟨11, .data⟩, by simp, rfl, rfl⟩
   have x12 := Lib.hid y12
   have hs8 := hB.size
   clear y11 y12 hla hl6 hl9
   obtain ⟨O, hO⟩ : ∃ O, (Obj.cells #[.slice al L.length cl, .slice aR R.length cR, .int .i64 start, .int .i64 most, .bool false, .slice (some ⟨ba, 0, none⟩) L.length L.length, .slice (some ⟨bd, 0, none⟩) L.length L.length] 106) = O := ⟨_, rfl⟩
   have hb8 : Below w9.heap.size w9 (w9.alloc O) := (Below.refl _ w9).alloc (Nat.le_refl _) _
   have hS : SrW (w9.alloc O) w9.heap.size ba bd (.slice al L.length cl) (.slice aR R.length cR) start most false (List.replicate L.length (0, 0)) (List.replicate L.length false) := by
    rw [← hO]
    rw [← hO] at hb8
    refine ⟨?_, ?_, ?_, ?_, ?_, ?_, ?_, ?_, ?_, p3.below hb8, q3.below hb8, by omega, by omega, hne⟩ <;> simp [go_sem]
   rw [← hO] at hS hb8
   clear hO O
   go_wp2
   show I _ _ _
   rw [HIH.out]
   exact ⟨ba, bd, w9.heap.size, _, _, _, _, _, _, _, _, _, _, _, _, _, hsz', rfl, (keepBelow hB hb8), (gx f0), (gx f1), (gx f2), (gx f3), (gx f4), (gx f5), (gx f6), (gx f7), (gx f8), (gx f9), (fun _ => rfl), (fun _ => rfl), (fun h => absurd (gd h) (by rw [x12.out]; exact Bool.false_ne_true)), (fun _ => ⟨p1, Nat.lt_of_lt_of_le p2 hb8.size, p3.below hb8⟩), (fun _ => ⟨q1, Nat.lt_of_lt_of_le q2 hb8.size, q3.below hb8⟩), (gx2 dd), (fun _ => ⟨hs8, hS⟩)⟩
  ·simp at hop
   subst hop
   refine wpOp_of_list (i := 12) rfl ?_
   have e23 := f11.out (hall ⟨11, .data⟩ (by simp) rfl)
   subst e23
   go_wp2
   show I _ _ _
   rw [HIH.out]
   exact ⟨ba, bd, b, _, _, _, _, _, _, _, _, _, _, _, _, _, hsz', rfl, (hB), (gx f0), (gx f1), (gx f2), (gx f3), (gx f4), (gx f5), (gx f6), (gx f7), (gx f8), (gx f9), (gx f10), (fun _ => rfl), (fun _ => rfl), (gx ra), (gx rd), (gx2 dd), (gx rb)⟩
end Go.Proofs.YtlbjfbpejomkmaaGreat
