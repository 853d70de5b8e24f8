import Derived.Test.YtkfonfheakpcbaaGreatWkBef
/- timeset: cycle.before. -/
namespace Go.Proofs.YtkfonfheakpcbaaGreat
open Go.RowKit Go.Shelf Wk
attribute [local go_sem] Oper.semAt_some

theorem keepFrozen {W w' : World} {a : Addr} {v : Value} {b : Bool} (hb : Below W.heap.size W w') (h : W.cell? a = some v) (hf : W.frozen? a = b) : w'.frozen? a = b :=
  (hb.frozen (p := a) (World.block_lt_of_cell? W a h)).trans hf

def AllGt (x bs : Int) (pre : List (Nat × Sm)) : Prop := ∀ p ∈ pre, x < bs + p.2.1

set_option maxRecDepth 100000 in
set_option maxHeartbeats 2000000 in
theorem cbefore_any (P x : Int) (v : Value) (l : List Sp) (w : World) (h : RdS w v l) (hv : pvB P l = true) (hx1 : -1152921504606846976 ≤ x) (hx2 : x ≤ 1152921504606846976) :
    Calls Tryz.prog 169 #[.agg #[.int .i64 P, v], .int .i64 x] w (PvPost (hasP (P, l)) x w) := by
  obtain ⟨hrv, hP1, hP2, hin⟩ := rvB_of_pvB hv
  have hlen := (canon_of_rvB hrv).2.2
  have HG := Lib.hid (goodP_of_pvB hv)
  have H1 := Lib.hid (fun W h => cconst_any P v l W h)
  have H2 := Lib.hid (fun W h => cchg_any P v l W h hv)
  have H3 := Lib.hid (fun W => tfloor_any x P W hP1 (by omega) hx1 hx2)
  have HD := Lib.hid h
  obtain ⟨a, c, rfl, hl, hc⟩ := h
  clear hc hv hrv hin
  obtain ⟨W, hWe⟩ : ∃ W, (((w.alloc (.cells #[.int .i64 P, .slice a l.length c] 110)).alloc (.cells #[.int .i64 x] 3)).alloc (.cells #[.int .i64 0] 3)).alloc (.cells #[.bool false] 4) = W := ⟨_, rfl⟩
  have hB0 : Below w.heap.size w W := by rw [← hWe]; exact ((((Below.refl _ w).alloc (Nat.le_refl _) _).alloc (by simp) _).alloc (by simp; omega) _).alloc (by simp; omega) _
  have P0 : W.cell? ⟨w.heap.size, 0, none⟩ = some (.int .i64 P) := by rw [← hWe]; simp [go_sem]
  have P1 : W.cell? ⟨w.heap.size, 1, none⟩ = some (.slice a l.length c) := by rw [← hWe]; simp [go_sem]
  have P2 : W.cell? ⟨w.heap.size + 1, 0, none⟩ = some (.int .i64 x) := by rw [← hWe]; simp [go_sem]
  have P3 : W.cell? ⟨w.heap.size + 1 + 1, 0, none⟩ = some (.int .i64 0) := by rw [← hWe]; simp [go_sem]
  have P4 : W.cell? ⟨w.heap.size + 1 + 1 + 1, 0, none⟩ = some (.bool false) := by rw [← hWe]; simp [go_sem]
  have F3 : W.frozen? ⟨w.heap.size + 1 + 1, 0, none⟩ = false := by rw [← hWe]; simp [go_sem]
  have F4 : W.frozen? ⟨w.heap.size + 1 + 1 + 1, 0, none⟩ = false := by rw [← hWe]; simp [go_sem]
  have HR := Lib.hid (keepRd hB0 HD.out)
  have HE := Lib.hid hWe
  clear hWe
  have hm := mod_lo x hP1
  obtain ⟨bs, hbs⟩ : ∃ bs, x / P * P = bs := ⟨_, rfl⟩
  cases hcb : constB P l with
  | true =>
    rw [hcb] at H1
    have HN : Hid (PrevC (hasP (P, l)) x none) := fun z _ => const_yes HG.out hcb z
    clear hcb hbs hm
    go_enter Tryz.func169, Tryz.ntmps169
    go_wp2_with fail
    rw [HE.out]
    refine (H1.out _ HR.out).mono ?_
    rintro e w1 ⟨rfl, hb1⟩
    have a3 := keepCell hb1 P3
    have a4 := keepCell hb1 P4
    have f3 := keepFrozen hb1 P3 F3
    have f4 := keepFrozen hb1 P4 F4
    have hB1 := keepBelow hB0 hb1
    clear hb1 P0 P1 P2 P3 P4 F3 F4
    go_wp2
    have hw1 : (w1.setCell ⟨w.heap.size + 1 + 1, 0, none⟩ (.int .i64 0)).cell? ⟨w.heap.size + 1 + 1 + 1, 0, none⟩ = some (.bool false) := by rw [World.cell?_setCell_far _ _ _ _ (by simp)]; exact a4
    have hr1 : ((w1.setCell ⟨w.heap.size + 1 + 1, 0, none⟩ (.int .i64 0)).setCell ⟨w.heap.size + 1 + 1 + 1, 0, none⟩ (.bool false)).cell? ⟨w.heap.size + 1 + 1, 0, none⟩ = some (.int .i64 0) := by
      rw [World.cell?_setCell_far _ _ _ _ (by simp)]; exact World.cell?_setCell_same' _ _ _ (by rw [a3]; rfl)
    have hr2 := World.cell?_setCell_same' (w1.setCell ⟨w.heap.size + 1 + 1, 0, none⟩ (.int .i64 0)) ⟨w.heap.size + 1 + 1 + 1, 0, none⟩ (.bool false) (by rw [hw1]; rfl)
    have hBr : Below w.heap.size w ((w1.setCell ⟨w.heap.size + 1 + 1, 0, none⟩ (.int .i64 0)).setCell ⟨w.heap.size + 1 + 1 + 1, 0, none⟩ (.bool false)) := (hB1.setCell (p := ⟨w.heap.size + 1 + 1, 0, none⟩) (by simp; omega) _).setCell (p := ⟨w.heap.size + 1 + 1 + 1, 0, none⟩) (by simp; omega) _
    generalize ((w1.setCell ⟨w.heap.size + 1 + 1, 0, none⟩ (.int .i64 0)).setCell ⟨w.heap.size + 1 + 1 + 1, 0, none⟩ (.bool false)) = Wr at *
    refine bodyPost_ret (v := .tuple #[.int .i64 0, .bool false]) ?_ rfl ?_
    · simp [results, Tryz.f169, go_sem, hr1, hr2]
    · exact ⟨none, HN.out, rfl, hBr⟩
  | false =>
    rw [hcb] at H1
    have HNE := Lib.hid (const_no HG.out hcb)
    clear hcb
    refine (callsIn_wide (n := 5)).1 ?_
    refine callsIn_of_wp_marks Tryz.func169 rfl trivial ?_ rfl
    simp only [Tryz.ntmps169, List.size_toArray, List.length_cons, List.length_nil, Nat.reduceAdd, Nat.reduceSub, Array.replicate_succ, Array.replicate_zero, List.push_toArray, List.append_toArray, List.nil_append, List.cons_append]
    refine wpIn_wide.2 ?_
    go_wp2_with fail
    rw [HE.out]
    refine (H1.out _ HR.out).mono ?_
    rintro e w1 ⟨rfl, hb1⟩
    have a0 := keepCell hb1 P0
    have a1 := keepCell hb1 P1
    have a2 := keepCell hb1 P2
    have a3 := keepCell hb1 P3
    have a4 := keepCell hb1 P4
    have f3 := keepFrozen hb1 P3 F3
    have f4 := keepFrozen hb1 P4 F4
    have hB1 := keepBelow hB0 hb1
    have HR1 := Lib.hid (keepRd hb1 HR.out)
    clear hb1 P0 P1 P2 P3 P4 F3 F4
    go_wp2_with fail
    refine (H2.out _ HR1.out).mono ?_
    rintro e w2 ⟨v6, rfl, ho, hb2⟩
    have b0 := keepCell hb2 a0
    have b1 := keepCell hb2 a1
    have b2 := keepCell hb2 a2
    have b3 := keepCell hb2 a3
    have b4 := keepCell hb2 a4
    have g3 := keepFrozen hb2 a3 f3
    have g4 := keepFrozen hb2 a4 f4
    have hB2 := keepBelow hB1 hb2
    have HO := Lib.hid ho
    have hs2 := hb2.size
    clear hb2 a0 a1 a2 a3 a4 f3 f4
    obtain ⟨a6, c6, rfl, hce⟩ := ho.form
    have hl2 := chg2_len l P
    obtain ⟨L, hL⟩ : ∃ L, chg2 l P = L := ⟨_, rfl⟩
    have HLb : Hid (∀ j, j < L.length → 0 ≤ L.getD j 0 ∧ L.getD j 0 < P) := by
      intro j hj
      have := (chg2_mem HG.out (L.getD j 0)).1 (by simp only [hL]; exact getD_mem hj)
      exact ⟨this.1, this.2.1⟩
    rw [hL] at hce hl2 ⊢
    have HLL := Lib.hid hL
    clear hL ho
    have hbd1 : -1152921517229627776 ≤ x / P * P := by omega
    have hbd2 : x / P * P ≤ 1152921504606846976 := by omega
    have hmul : IntKind.i64.wrap bs = bs := by rw [hbs] at hbd1 hbd2; rw [IntKind.wrap_i64]; omega
    go_wp2_with fail
    go_cut [7] from 14 to 22 (fun p wx => p = .pointer (some ⟨w2.heap.size, 0, none⟩) ∧ wx.cell? ⟨w2.heap.size, 0, none⟩ = some (.int .i64 bs) ∧ Below w2.heap.size w2 wx ∧ w2.heap.size < wx.heap.size)
    case first =>
      have n0 := World.new_ne w2 _ b0
      have n2 := World.new_ne w2 _ b2
      go_region_held3 (fun w' => w'.cell? ⟨w.heap.size, 0, none⟩ = some (.int .i64 P) ∧ w'.cell? ⟨w.heap.size + 1, 0, none⟩ = some (.int .i64 x))
(go_keep)
        (first
          | (go_at_call 173; refine (H3.out _).mono ?_; rintro e w' ⟨rfl, rfl⟩))
      all_goals (go_wp2_with fail; go_meet; case rel => exact ⟨rfl, by simp [go_sem], ((Below.refl _ w2).alloc (Nat.le_refl _) _).drew, by simp⟩)
    case rest =>
      obtain ⟨rfl, p0, hbc, hsc⟩ := hcut
      have c0 := keepCell hbc b0
      have c1 := keepCell hbc b1
      have c2 := keepCell hbc b2
      have c3 := keepCell hbc b3
      have c4 := keepCell hbc b4
      have k3 := keepFrozen hbc b3 g3
      have k4 := keepFrozen hbc b4 g4
      have hB3 := keepBelow hB2 hbc
      have hn0 := World.block_lt_of_cell? w2 _ b4
      have hcc : ∀ j, j < L.length → ∃ b off, a6 = some ⟨b, off, none⟩ ∧ b < wc.heap.size ∧ wc.cell? ⟨b, off + j, none⟩ = some (.int .i64 (L.getD j 0)) := by
        intro i hi
        obtain ⟨g, e, hg, hcc⟩ := hce i hi
        exact ⟨g, 0, e, by omega, by rw [Nat.zero_add]; exact keepCell hbc hcc⟩
      rw [hbs] at hbd1 hbd2 hm
      have HBS := Lib.hid hbs
      generalize w2.heap.size = sb at *
      clear hbc b0 b1 b2 b3 b4 g3 g4 hce hB2 hbs hmul HO
      go_wp2_with (go_at_call 174; refine (callsIn_wide (n := 3)).1 ?_; refine (backI_in Fence.wide 3 trivial rfl _ _ _ _).mono ?_; rintro e w' ⟨rfl, rfl⟩)
      have hLs : ∀ j, -1152921504606846976 ≤ L.getD j 0 ∧ L.getD j 0 ≤ 1152921504606846976 := by
        intro j
        by_cases hj : j < L.length
        · have := HLb.out j hj; omega
        · simp [List.getD, List.getElem?_eq_none (by omega : L.length ≤ j)]
      obtain ⟨W0, hW0⟩ : ∃ W0, wc.alloc (.cells #[.slice a6 L.length c6] 49) = W0 := ⟨_, rfl⟩
      have hs0 : W0.heap.size = wc.heap.size + 1 := by rw [← hW0]; simp
      have hbW : Below wc.heap.size wc W0 := by rw [← hW0]; exact (Below.refl _ _).alloc (Nat.le_refl _) _
      have q5 : W0.cell? ⟨wc.heap.size, 0, none⟩ = some (.slice a6 L.length c6) := by rw [← hW0]; simp [go_sem]
      rw [hW0]
      clear hW0
      have hB4 := keepBelow hB3 hbW
      have hcc' : ∀ j, j < L.length → ∃ b off, a6 = some ⟨b, off, none⟩ ∧ b < wc.heap.size + 1 ∧ W0.cell? ⟨b, off + j, none⟩ = some (.int .i64 (⟨L.getD j 0, hLs j⟩ : Sm).1) := by
        intro j hj
        obtain ⟨b, off, e, hb, h1⟩ := hcc j hj
        exact ⟨b, off, e, by omega, keepCell hbW h1⟩
      have hst := backI_stops Fence.wide 4 trivial rfl (by omega) wc.heap.size (wc.heap.size + 1) a6 L.length c6 (fun j => (⟨L.getD j 0, hLs j⟩ : Sm)) (by omega) W0 (by omega) (by omega) q5 hcc'
      have HCC := Lib.hid hcc
      clear hcc hcc' q5
      have q0 := keepCell hbW c0
      have q2 := keepCell hbW c2
      have q3 := keepCell hbW c3
      have q4 := keepCell hbW c4
      have j3 := keepFrozen hbW c3 k3
      have j4 := keepFrozen hbW c4 k4
      have qp := keepCell hbW p0
      clear c0 c1 c2 c3 c4 k3 k4 p0
      refine (wpIn_wide (n := 5)).1 ?_
      refine wpIn_rangeFunc_ownF rfl (by omega) (gf := 177) (lb := #[.pointer (some ⟨wc.heap.size, 0, none⟩)]) rfl trivial (enters_of Tryz.func177 (by kernel_rfl) rfl)
        hst belowK_t (belowK_b (by omega)) (Below.refl _ _) (fun _ => rfl)
        (fun pre W => AllGt x bs pre ∧ (Below w.heap.size w W ∧ Below (wc.heap.size + 1) W0 W))
        (fun c pre W => (c = .ret ∧ ∃ pre' p, pre = pre' ++ [p] ∧ AllGt x bs pre' ∧ bs + p.2.1 ≤ x ∧
          W.cell? ⟨w.heap.size + 1 + 1, 0, none⟩ = some (.int .i64 (bs + p.2.1)) ∧ W.cell? ⟨w.heap.size + 1 + 1 + 1, 0, none⟩ = some (.bool true)) ∧ Below w.heap.size w W)
        (OwnFrom.and (ownFrom_pure _ _) (OwnFrom.and (ownFrom_below (Nat.le_refl _) (by omega)) (ownFrom_below (by omega) (by omega))))
        (fun c => OwnFrom.and (Own.from (fun s A B row hs hg hr => ⟨hs.1, by obtain ⟨pre', p, e1, e2, e3, e4, e5⟩ := hs.2; exact ⟨pre', p, e1, e2, e3, cell_kept e4 hg hr, cell_kept e5 hg hr⟩⟩) _) (ownFrom_below (Nat.le_refl _) (by omega)))
        ⟨(fun q hq => by simp at hq), hB4, Below.refl _ _⟩
        (fun y => { tmps := #[.agg #[.int .i64 P, .slice a l.length c], .int .i64 x, .pointer (some ⟨w.heap.size, 0, none⟩), .pointer (some ⟨w.heap.size + 1, 0, none⟩), .pointer (some ⟨w.heap.size + 1 + 1, 0, none⟩), .pointer (some ⟨w.heap.size + 1 + 1 + 1, 0, none⟩), .slice a6 L.length c6,
        .pointer (some ⟨sb, 0, none⟩), undef, .int .i64 y.2.1, .agg #[.int .i64 P, .slice a l.length c], .bool false, .agg #[.int .i64 P, .slice a l.length c], .slice a6 L.length c6, u14, u15, u16, u17, u18, u19, u20, u21, u22, .slice a6 L.length c6,
        .func (.func 177) #[] #[.pointer (some ⟨wc.heap.size, 0, none⟩)], .int .i64 y.1, .int .i64 y.2.1, undef, undef, undef, undef, undef, undef, undef, undef, undef, undef, undef, undef, undef, undef, undef, undef, undef, undef, undef, undef], defers := [] }) ?assign ?body ?done ?stop
      case assign =>
        intro l' y W' K hK
        gi_wp2
        exact hK
      case body =>
        rintro l' pre ⟨yi, y, hy1, hy2⟩ W' ⟨hp, hB, hB'⟩ hlt
        have hB'' : Below W0.heap.size W0 W' := by rw [hs0]; exact hB'
        have r0 := keepCell hB'' q2
        have r1 := keepCell hB'' qp
        have r3 := keepCell hB'' q3
        have r4 := keepCell hB'' q4
        have i3 := keepFrozen hB'' q3 j3
        have i4 := keepFrozen hB'' q4 j4
        clear hst
        by_cases hxy : bs + y ≤ x
        · gi_wp2
          have hw1 : (W'.setCell ⟨w.heap.size + 1 + 1, 0, none⟩ (.int .i64 (bs + y))).cell? ⟨w.heap.size + 1 + 1 + 1, 0, none⟩ = some (.bool false) := by rw [World.cell?_setCell_far _ _ _ _ (by simp)]; exact r4
          exact ⟨(KeepsOthers.setCell _ _ _).trans (KeepsOthers.setCell _ _ _), ⟨rfl, pre, (yi, ⟨y, hy1, hy2⟩), rfl, hp, hxy,
            by rw [World.cell?_setCell_far _ _ _ _ (by simp)]; exact World.cell?_setCell_same' _ _ _ (by rw [r3]; rfl), World.cell?_setCell_same' _ _ _ (by rw [hw1]; rfl)⟩,
            (hB.setCell (p := ⟨w.heap.size + 1 + 1, 0, none⟩) (by simp; omega) _).setCell (p := ⟨w.heap.size + 1 + 1 + 1, 0, none⟩) (by simp; omega) _⟩
        · gi_wp2
          exact ⟨KeepsOthers.refl _, Below.refl _ _, (show AllGt x bs _ from fun q hq => (List.mem_append.1 hq).elim (hp q) (fun e => by simp at e; subst e; simp only; omega)), hB, hB'⟩
      case done =>
        rintro D ys W' hD rfl ⟨hp, hB, hB'⟩ hK
        have hB'' : Below W0.heap.size W0 W' := by rw [hs0]; exact hB'
        have r0 := keepCell hB'' q0
        have r1 := keepCell hB'' qp
        have r3 := keepCell hB'' q3
        have r4 := keepCell hB'' q4
        have i3 := keepFrozen hB'' q3 j3
        have i4 := keepFrozen hB'' q4 j4
        clear hst
        have hL0 : 0 < L.length := List.length_pos_iff.2 (by rw [← HLL.out]; exact HNE.out)
        obtain ⟨b, off, rfl, hb, hcl⟩ := HCC.out (L.length - 1) (by omega)
        have hcl' := keepCell hB'' (keepCell hbW hcl)
        have hy := HLb.out (L.length - 1) (by omega)
        obtain ⟨y, hye⟩ : ∃ y, L.getD (L.length - 1) 0 = y := ⟨_, rfl⟩
        rw [hye] at hcl' hy
        have HY := Lib.hid hye
        obtain ⟨m, hm1⟩ : ∃ m, L.length = m + 1 := ⟨L.length - 1, by omega⟩
        have hm2 : L.length - 1 = m := by omega
        rw [hm2] at hcl'
        clear hye hcl
        have s1 : IntKind.i64.wrap (m : Int) = m := by rw [IntKind.wrap_i64]; omega
        have s4 : (0 : Int) ≤ (m : Int) := by omega
        have s5 : (m : Int) < (m : Int) + 1 := by omega
        have s2 : IntKind.i64.wrap (bs - P) = bs - P := by rw [IntKind.wrap_i64]; omega
        have s3 : IntKind.i64.wrap (bs - P + y) = bs - P + y := by rw [IntKind.wrap_i64]; omega
        rw [hm1]
        go_wp2_with fail
        refine wp_region_still_tail 12 (by kernel_rfl) (by kernel_rfl) ?_
        simp only [List.take_succ_cons, List.take_zero, List.drop_succ_cons, List.drop_zero]
        change wpStill _ _ W'.drew _ _ _
        repeat still_step
        refine wpStill_nil ?_
        change wpList _ _ _ _ _ W'.drew
        have hBd : Below W'.heap.size W' W'.drew := (Below.refl _ _).drew
        have hK1 : W'.drew.heap[D]? = some (.deferred (some [])) := hK
        have t3 := keepCell hBd r3
        have t4 := keepCell hBd r4
        have l3 := keepFrozen hBd r3 i3
        have l4 := keepFrozen hBd r4 i4
        have hBt := keepBelow hB hBd
        generalize W'.drew = w5 at *
        go_wp2
        have hw1 : (w5.setCell ⟨w.heap.size + 1 + 1, 0, none⟩ (.int .i64 (bs - P + y))).cell? ⟨w.heap.size + 1 + 1 + 1, 0, none⟩ = some (.bool false) := by rw [World.cell?_setCell_far _ _ _ _ (by simp)]; exact t4
        have hK' := ((KeepsOthers.setCell w5 ⟨w.heap.size + 1 + 1, 0, none⟩ (.int .i64 (bs - P + y))).trans (KeepsOthers.setCell _ ⟨w.heap.size + 1 + 1 + 1, 0, none⟩ (.bool true))).same D _ hK1 rfl
        have hr1 : ((w5.setCell ⟨w.heap.size + 1 + 1, 0, none⟩ (.int .i64 (bs - P + y))).setCell ⟨w.heap.size + 1 + 1 + 1, 0, none⟩ (.bool true)).cell? ⟨w.heap.size + 1 + 1, 0, none⟩ = some (.int .i64 (bs - P + y)) := by
          rw [World.cell?_setCell_far _ _ _ _ (by simp)]; exact World.cell?_setCell_same' _ _ _ (by rw [t3]; rfl)
        have hr2 := World.cell?_setCell_same' (w5.setCell ⟨w.heap.size + 1 + 1, 0, none⟩ (.int .i64 (bs - P + y))) ⟨w.heap.size + 1 + 1 + 1, 0, none⟩ (.bool true) (by rw [hw1]; rfl)
        have hBr : Below w.heap.size w ((w5.setCell ⟨w.heap.size + 1 + 1, 0, none⟩ (.int .i64 (bs - P + y))).setCell ⟨w.heap.size + 1 + 1 + 1, 0, none⟩ (.bool true)) :=
          (hBt.setCell (p := ⟨w.heap.size + 1 + 1, 0, none⟩) (by simp; omega) _).setCell (p := ⟨w.heap.size + 1 + 1 + 1, 0, none⟩) (by simp; omega) _
        generalize ((w5.setCell ⟨w.heap.size + 1 + 1, 0, none⟩ (.int .i64 (bs - P + y))).setCell ⟨w.heap.size + 1 + 1 + 1, 0, none⟩ (.bool true)) = Wr at *
        refine ⟨by simp, .inl ⟨_, _, rfl, run_takeDeferred hK', ?_⟩⟩
        have hc4 := cell_kept hr1 (grownBy_putObj' _ D (.deferred none)) (fun r e => by cases e; exact ⟨_, hK', rfl⟩)
        have hc5 := cell_kept hr2 (grownBy_putObj' _ D (.deferred none)) (fun r e => by cases e; exact ⟨_, hK', rfl⟩)
        refine ⟨.tuple #[.int .i64 (bs - P + y), .bool true], ?_, some (bs - P + y), ?_, rfl, hBr.trans (belowK_b (w := w) (Nat.le_refl _) _ D _ _ (by omega) hK' rfl rfl)⟩
        · simp [results, Tryz.f169, go_sem, hc4, hc5]
        · have hn := prev_out HG.out (x := x) HNE.out (by
            simp only [HLL.out, HBS.out]
            intro j hj
            have := hp _ (upt_mem (f := fun j => (L.length - 1 - j, (⟨L.getD (L.length - 1 - j) 0, hLs _⟩ : Sm))) (k := L.length) (j := L.length - 1 - j) (by omega))
            have e : L.length - 1 - (L.length - 1 - j) = j := by omega
            simpa only [e] using this)
          simp only [HLL.out, HBS.out, HY.out] at hn
          exact hn
      case stop =>
        rintro D cc pre W' hD ⟨k, hk, hpre⟩ ⟨⟨rfl, pre', p, e1, e2, e3, e4, e5⟩, hB⟩ hK
        clear hst
        gi_wp2
        refine ⟨by simp, .inl ⟨_, _, rfl, run_takeDeferred hK, ?_⟩⟩
        have hc4 := cell_kept e4 (grownBy_putObj' _ D (.deferred none)) (fun r e => by cases e; exact ⟨_, hK, rfl⟩)
        have hc5 := cell_kept e5 (grownBy_putObj' _ D (.deferred none)) (fun r e => by cases e; exact ⟨_, hK, rfl⟩)
        refine ⟨.tuple #[.int .i64 (bs + p.2.1), .bool true], ?_, some (bs + p.2.1), ?_, rfl, hB.trans (belowK_b (w := w) (Nat.le_refl _) _ D _ _ (by omega) hK rfl rfl)⟩
        · simp [results, Tryz.f169, go_sem, hc4, hc5]
        · subst e1
          obtain ⟨k', rfl, rfl, rfl⟩ := upt_last hpre
          have hn := prev_in HG.out (x := x) (k := L.length - 1 - k') (by simp only [HLL.out]; omega) (by simp only [HLL.out, HBS.out]; exact e3) (by
            simp only [HLL.out, HBS.out]
            intro j h1 h2
            have := e2 _ (upt_mem (f := fun j => (L.length - 1 - j, (⟨L.getD (L.length - 1 - j) 0, hLs _⟩ : Sm))) (k := k') (j := L.length - 1 - j) (by omega))
            have e : L.length - 1 - (L.length - 1 - j) = j := by omega
            simpa only [e] using this)
          simp only [HLL.out, HBS.out] at hn
          exact hn
end Go.Proofs.YtkfonfheakpcbaaGreat
