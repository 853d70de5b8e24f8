import Derived.Test.YtkfonfheakpcbaaGreatWkBack
import Derived.RangeFuncBox
/- timeset: bounded.before. -/
namespace Go.Proofs.YtkfonfheakpcbaaGreat
open Go.RowKit Go.Shelf Wk
attribute [local go_sem] Oper.semAt_some

set_option maxRecDepth 100000 in
set_option maxHeartbeats 2000000 in
theorem bbefore_any (x : Int) (v : Value) (l : List Sp) (w : World) (h : RdS w v l) (hcan : Canon l) :
    Calls Tryz.prog 170 #[v, .int .i64 x] w (PvPost (inL l) x w) := by
  have HCN := Lib.hid hcan
  obtain ⟨a, c, rfl, hl, hc⟩ := h
  clear hcan
  refine (callsIn_wide (n := 5)).1 ?_
  refine callsIn_of_wp_marks Tryz.func170 rfl trivial ?_ rfl
  simp only [Tryz.ntmps170, List.size_toArray, List.length_cons, List.length_nil, Nat.reduceAdd, Nat.reduceSub, Array.replicate_succ, Array.replicate_zero, List.push_toArray, List.append_toArray, List.nil_append, List.cons_append]
  gi_wp2_with (refine ⟨trivial, ?_⟩; gi_at_call 175; refine (backS_in Fence.wide _ trivial rfl _ _ _ _).mono ?_; rintro e w' ⟨rfl, rfl⟩)
  have c0 : ((((w.alloc (.cells #[.int .i64 x] 3)).alloc (.cells #[.int .i64 0] 3)).alloc (.cells #[.bool false] 4)).alloc (.cells #[.slice a l.length c] 111)).cell? ⟨w.heap.size, 0, none⟩ = some (.int .i64 x) := by simp [go_sem]
  have c1 : ((((w.alloc (.cells #[.int .i64 x] 3)).alloc (.cells #[.int .i64 0] 3)).alloc (.cells #[.bool false] 4)).alloc (.cells #[.slice a l.length c] 111)).cell? ⟨w.heap.size + 1, 0, none⟩ = some (.int .i64 0) := by simp [go_sem]
  have c2 : ((((w.alloc (.cells #[.int .i64 x] 3)).alloc (.cells #[.int .i64 0] 3)).alloc (.cells #[.bool false] 4)).alloc (.cells #[.slice a l.length c] 111)).cell? ⟨w.heap.size + 1 + 1, 0, none⟩ = some (.bool false) := by simp [go_sem]
  have c3 : ((((w.alloc (.cells #[.int .i64 x] 3)).alloc (.cells #[.int .i64 0] 3)).alloc (.cells #[.bool false] 4)).alloc (.cells #[.slice a l.length c] 111)).cell? ⟨w.heap.size + 1 + 1 + 1, 0, none⟩ = some (.slice a l.length c) := by simp [go_sem]
  have f1 : ((((w.alloc (.cells #[.int .i64 x] 3)).alloc (.cells #[.int .i64 0] 3)).alloc (.cells #[.bool false] 4)).alloc (.cells #[.slice a l.length c] 111)).frozen? ⟨w.heap.size + 1, 0, none⟩ = false := by simp [go_sem]
  have f2 : ((((w.alloc (.cells #[.int .i64 x] 3)).alloc (.cells #[.int .i64 0] 3)).alloc (.cells #[.bool false] 4)).alloc (.cells #[.slice a l.length c] 111)).frozen? ⟨w.heap.size + 1 + 1, 0, none⟩ = false := by simp [go_sem]
  have hB0 : Below w.heap.size w ((((w.alloc (.cells #[.int .i64 x] 3)).alloc (.cells #[.int .i64 0] 3)).alloc (.cells #[.bool false] 4)).alloc (.cells #[.slice a l.length c] 111)) :=
    ((((Below.refl _ w).alloc (Nat.le_refl _) _).alloc (by simp) _).alloc (by simp; omega) _).alloc (by simp; omega) _
  have hsz : ((((w.alloc (.cells #[.int .i64 x] 3)).alloc (.cells #[.int .i64 0] 3)).alloc (.cells #[.bool false] 4)).alloc (.cells #[.slice a l.length c] 111)).heap.size = w.heap.size + 4 := by simp
  generalize ((((w.alloc (.cells #[.int .i64 x] 3)).alloc (.cells #[.int .i64 0] 3)).alloc (.cells #[.bool false] 4)).alloc (.cells #[.slice a l.length c] 111)) = W0 at *
  have hc' : ∀ j, j < l.length → ∃ b off, a = some ⟨b, off, none⟩ ∧ b < w.heap.size + 4 ∧ W0.cell? ⟨b, off + j * 2, none⟩ = some (.int .i64 (l.getD j (0, 0)).1) ∧ W0.cell? ⟨b, off + j * 2 + 1, none⟩ = some (.int .i64 (l.getD j (0, 0)).2) := by
    intro j hj
    obtain ⟨b, o, e, h1, h2⟩ := hc j hj
    have hbw : b < w.heap.size := World.block_lt_of_cell? w _ h1
    exact ⟨b, o, e, by omega, (hB0.cell (p := ⟨b, o + j * 2, none⟩) hbw).trans h1, (hB0.cell (p := ⟨b, o + j * 2 + 1, none⟩) hbw).trans h2⟩
  have hst := backS_stops Fence.wide 4 trivial rfl (by omega) (w.heap.size + 1 + 1 + 1) (w.heap.size + 4) a l.length c (fun j => l.getD j (0, 0)) hl W0 (by omega) (by omega) c3 hc'
  clear hc hc' c3
  refine wpIn_rangeFunc_ownH rfl (by omega) (gf := 178) (lb := #[.pointer (some ⟨w.heap.size + 1 + 1 + 1, 0, none⟩)]) rfl trivial (enters_of Tryz.func178 (by kernel_rfl) rfl)
    hst belowK_t (belowK_b (by omega)) (Below.refl _ _) (fun _ => rfl)
    (fun pre W => ((∀ p ∈ pre, x < p.2.1) ∧ W.cell? ⟨w.heap.size, 0, none⟩ = some (.int .i64 x) ∧ W.cell? ⟨w.heap.size + 1, 0, none⟩ = some (.int .i64 0) ∧ W.frozen? ⟨w.heap.size + 1, 0, none⟩ = false ∧
      W.cell? ⟨w.heap.size + 1 + 1, 0, none⟩ = some (.bool false) ∧ W.frozen? ⟨w.heap.size + 1 + 1, 0, none⟩ = false) ∧ (Below w.heap.size w W ∧ Below (w.heap.size + 4) W0 W))
    (fun c pre W => (c = .ret ∧ ∃ pre' p y, pre = pre' ++ [p] ∧ (∀ q ∈ pre', x < q.2.1) ∧ ((p.2.2 ≤ x ∧ y = p.2.2) ∨ (x < p.2.2 ∧ p.2.1 ≤ x ∧ y = p.2.1)) ∧
      W.cell? ⟨w.heap.size + 1, 0, none⟩ = some (.int .i64 y) ∧ W.cell? ⟨w.heap.size + 1 + 1, 0, none⟩ = some (.bool true)) ∧ Below w.heap.size w W)
    (OwnFrom.and (Own.from (fun s A B row hs hg hr => ⟨hs.1, cell_kept hs.2.1 hg hr, cell_kept hs.2.2.1 hg hr, (frozen_kept hs.2.2.1 hg hr).trans hs.2.2.2.1, cell_kept hs.2.2.2.2.1 hg hr, (frozen_kept hs.2.2.2.2.1 hg hr).trans hs.2.2.2.2.2⟩) _)
      (OwnFrom.and (ownFrom_below (Nat.le_refl _) (by omega)) (ownFrom_below (by omega) (by omega))))
    (fun c => OwnFrom.and (Own.from (fun s A B row hs hg hr => ⟨hs.1, by obtain ⟨pre', p, y, e1, e2, e3, e4, e5⟩ := hs.2; exact ⟨pre', p, y, e1, e2, e3, cell_kept e4 hg hr, cell_kept e5 hg hr⟩⟩) _) (ownFrom_below (Nat.le_refl _) (by omega)))
    ⟨⟨by simp, c0, c1, f1, c2, f2⟩, hB0, Below.refl _ _⟩
    (fun p a' W => ∃ Bx, w.heap.size + 4 ≤ Bx ∧ W.cell? ⟨Bx, 0, none⟩ = some (.int .i64 p.2.1) ∧ W.cell? ⟨Bx, 1, none⟩ = some (.int .i64 p.2.2) ∧
      a' = { tmps := #[.slice a l.length c, .int .i64 x, undef, .pointer (some ⟨w.heap.size, 0, none⟩), .pointer (some ⟨w.heap.size + 1, 0, none⟩), .pointer (some ⟨w.heap.size + 1 + 1, 0, none⟩), undef,
        .pointer (some ⟨Bx, 0, none⟩), undef, undef, .slice a l.length c, .func (.func 178) #[] #[.pointer (some ⟨w.heap.size + 1 + 1 + 1, 0, none⟩)], .int .i64 p.1,
        .agg #[.int .i64 p.2.1, .int .i64 p.2.2], undef, undef, undef, undef, undef, undef, undef, undef, undef, undef, undef, undef, undef], defers := [] })
    (fun p a' => Own.from (fun s A B row hs hg hr => by obtain ⟨Bx, e1, e2, e3, e4⟩ := hs; exact ⟨Bx, e1, cell_kept e2 hg hr, cell_kept e3 hg hr, e4⟩) _) ?assign ?body ?done ?stop
  case assign =>
    rintro l' pre p W K ⟨⟨hp, g0, g1, k1, g2, k2⟩, hB, hB'⟩ hK
    have hs' := hB'.size
    gi_wp2
    refine hK _ _ ((KeepsOthers.alloc _ _).from _) ((Below.refl _ W).alloc (by omega) _) ⟨⟨hp, ?_, ?_, ?_, ?_, ?_⟩, hB.alloc (by omega) _, hB'.alloc (by omega) _⟩ ⟨W.heap.size, by omega, by simp [go_sem], by simp [go_sem], rfl⟩
    · exact cell_kept g0 (World.grownBy_alloc _ _ none) (fun r e => by cases e)
    · exact cell_kept g1 (World.grownBy_alloc _ _ none) (fun r e => by cases e)
    · exact (frozen_kept g1 (World.grownBy_alloc _ _ none) (fun r e => by cases e)).trans k1
    · exact cell_kept g2 (World.grownBy_alloc _ _ none) (fun r e => by cases e)
    · exact (frozen_kept g2 (World.grownBy_alloc _ _ none) (fun r e => by cases e)).trans k2
  case body =>
    rintro l' pre p a' W hl' ⟨r, hr⟩ ⟨⟨hp, g0, g1, k1, g2, k2⟩, hB, hB'⟩ ⟨Bx, hBx, d0, d1, rfl⟩ hlt
    have i0 : ∀ (W : World) (x y : Int), (Instr.index 168 (.agg #[.int .i64 x, .int .i64 y]) (.int .i64 0)).run Tryz.prog W = .ok (.int .i64 x) W := fun _ _ _ => by kernel_rfl
    have i1 : ∀ (W : World) (x y : Int), (Instr.index 168 (.agg #[.int .i64 x, .int .i64 y]) (.int .i64 1)).run Tryz.prog W = .ok (.int .i64 y) W := fun _ _ _ => by kernel_rfl
    obtain ⟨pi, y, z⟩ := p
    simp only at d0 d1
    clear hst
    gi_wp2
    gi_loopw [19] (fun i wr2 => ∃ m : Nat, m ≤ 2 ∧ i = .int .i64 m ∧ (0 < m → x < z) ∧ (1 < m → x < y) ∧ W = wr2) (fun i _ => 2 - (intOf i).toNat)
    case atStart => exact ⟨0, by omega, rfl, (fun h => by omega), (fun h => by omega), rfl⟩
    case round =>
      obtain ⟨m, hm, rfl, hm1, hm2, rfl⟩ := hrel
      rcases (by omega : m = 0 ∨ m = 1 ∨ m = 2) with rfl | rfl | rfl
      · clear hm1 hm2
        by_cases hxz : z ≤ x
        · gi_wp2
          have hw1 : (W.setCell ⟨w.heap.size + 1, 0, none⟩ (.int .i64 z)).cell? ⟨w.heap.size + 1 + 1, 0, none⟩ = some (.bool false) := by rw [World.cell?_setCell_far _ _ _ _ (by simp)]; exact g2
          exact ⟨((KeepsOthers.setCell _ _ _).trans (KeepsOthers.setCell _ _ _)).from _, ⟨rfl, pre, (pi, y, z), z, rfl, hp, .inl ⟨hxz, rfl⟩,
            by rw [World.cell?_setCell_far _ _ _ _ (by simp)]; exact World.cell?_setCell_same' _ _ _ (by rw [g1]; rfl), World.cell?_setCell_same' _ _ _ (by rw [hw1]; rfl)⟩,
            (hB.setCell (p := ⟨w.heap.size + 1, 0, none⟩) (by simp) _).setCell (p := ⟨w.heap.size + 1 + 1, 0, none⟩) (by simp; omega) _⟩
        · gi_wp2
          go_roundw
          case rel => exact ⟨1, by omega, rfl, (fun _ => by omega), (fun h => by omega), trivial⟩
          case measure => simp [intOf]
      · have hz := hm1 (by omega)
        clear hm1 hm2
        by_cases hxy : y ≤ x
        · gi_wp2
          have hw1 : (W.setCell ⟨w.heap.size + 1, 0, none⟩ (.int .i64 y)).cell? ⟨w.heap.size + 1 + 1, 0, none⟩ = some (.bool false) := by rw [World.cell?_setCell_far _ _ _ _ (by simp)]; exact g2
          exact ⟨((KeepsOthers.setCell _ _ _).trans (KeepsOthers.setCell _ _ _)).from _, ⟨rfl, pre, (pi, y, z), y, rfl, hp, .inr ⟨hz, hxy, rfl⟩,
            by rw [World.cell?_setCell_far _ _ _ _ (by simp)]; exact World.cell?_setCell_same' _ _ _ (by rw [g1]; rfl), World.cell?_setCell_same' _ _ _ (by rw [hw1]; rfl)⟩,
            (hB.setCell (p := ⟨w.heap.size + 1, 0, none⟩) (by simp) _).setCell (p := ⟨w.heap.size + 1 + 1, 0, none⟩) (by simp; omega) _⟩
        · gi_wp2
          go_roundw
          case rel => exact ⟨2, by omega, rfl, (fun _ => by omega), (fun h => by omega), trivial⟩
          case measure => simp [intOf]
      · have hy := hm2 (by omega)
        clear hm1 hm2
        gi_wp2
        exact ⟨KeepsFrom.refl _ _, Below.refl _ _, ⟨fun q hq => (List.mem_append.1 hq).elim (hp q) (fun e => by simp at e; subst e; exact hy), g0, g1, k1, g2, k2⟩, hB, hB'⟩
  case done =>
    rintro D ys W hD rfl ⟨⟨hp, g0, g1, k1, g2, k2⟩, hB, hB'⟩ hK
    clear hst
    gi_wp2
    have hw1 : (W.setCell ⟨w.heap.size + 1, 0, none⟩ (.int .i64 0)).cell? ⟨w.heap.size + 1 + 1, 0, none⟩ = some (.bool false) := by rw [World.cell?_setCell_far _ _ _ _ (by simp)]; exact g2
    have hK' := ((KeepsOthers.setCell W ⟨w.heap.size + 1, 0, none⟩ (.int .i64 0)).trans (KeepsOthers.setCell _ ⟨w.heap.size + 1 + 1, 0, none⟩ (.bool false))).same D _ hK rfl
    have hr1 : ((W.setCell ⟨w.heap.size + 1, 0, none⟩ (.int .i64 0)).setCell ⟨w.heap.size + 1 + 1, 0, none⟩ (.bool false)).cell? ⟨w.heap.size + 1, 0, none⟩ = some (.int .i64 0) := by
      rw [World.cell?_setCell_far _ _ _ _ (by simp)]; exact World.cell?_setCell_same' _ _ _ (by rw [g1]; rfl)
    have hr2 := World.cell?_setCell_same' (W.setCell ⟨w.heap.size + 1, 0, none⟩ (.int .i64 0)) ⟨w.heap.size + 1 + 1, 0, none⟩ (.bool false) (by rw [hw1]; rfl)
    have hBr : Below w.heap.size w ((W.setCell ⟨w.heap.size + 1, 0, none⟩ (.int .i64 0)).setCell ⟨w.heap.size + 1 + 1, 0, none⟩ (.bool false)) := (hB.setCell (p := ⟨w.heap.size + 1, 0, none⟩) (by simp) _).setCell (p := ⟨w.heap.size + 1 + 1, 0, none⟩) (by simp; omega) _
    generalize ((W.setCell ⟨w.heap.size + 1, 0, none⟩ (.int .i64 0)).setCell ⟨w.heap.size + 1 + 1, 0, none⟩ (.bool false)) = Wr at *
    refine ⟨by simp, .inl ⟨_, _, rfl, run_takeDeferred hK', ?_⟩⟩
    have hc4 := cell_kept hr1 (grownBy_putObj' _ D (.deferred none)) (fun r e => by cases e; exact ⟨_, hK', rfl⟩)
    have hc5 := cell_kept hr2 (grownBy_putObj' _ D (.deferred none)) (fun r e => by cases e; exact ⟨_, hK', rfl⟩)
    refine ⟨.tuple #[.int .i64 0, .bool false], ?_, none, bprev_no HCN.out (fun j hj => ?_), rfl, hBr.trans (belowK_b (w := w) (Nat.le_refl _) _ D _ _ (by omega) hK' rfl rfl)⟩
    · simp [results, Tryz.f170, go_sem, hc4, hc5]
    · have := hp _ (upt_mem (f := fun j => (l.length - 1 - j, l.getD (l.length - 1 - j) (0, 0))) (k := l.length) (j := l.length - 1 - j) (by omega))
      have e : l.length - 1 - (l.length - 1 - j) = j := by omega
      simpa only [e] using this
  case stop =>
    rintro D cc pre W hD ⟨k, hk, hpre⟩ ⟨⟨rfl, pre', p, y, e1, e2, e3, e4, e5⟩, hB⟩ hK
    clear hst
    gi_wp2
    refine ⟨by simp, .inl ⟨_, _, rfl, run_takeDeferred hK, ?_⟩⟩
    have hc4 := cell_kept e4 (grownBy_putObj' _ D (.deferred none)) (fun r e => by cases e; exact ⟨_, hK, rfl⟩)
    have hc5 := cell_kept e5 (grownBy_putObj' _ D (.deferred none)) (fun r e => by cases e; exact ⟨_, hK, rfl⟩)
    refine ⟨.tuple #[.int .i64 y, .bool true], ?_, some y, ?_, rfl, hB.trans (belowK_b (w := w) (Nat.le_refl _) _ D _ _ (by omega) hK rfl rfl)⟩
    · simp [results, Tryz.f170, go_sem, hc4, hc5]
    · subst e1
      obtain ⟨k', rfl, rfl, rfl⟩ := upt_last hpre
      have hm : l.length - 1 - k' < l.length := by omega
      have hab : ∀ j, l.length - 1 - k' < j → j < l.length → x < (l.getD j (0, 0)).1 := by
        intro j h1 h2
        have := e2 _ (upt_mem (f := fun j => (l.length - 1 - j, l.getD (l.length - 1 - j) (0, 0))) (k := k') (j := l.length - 1 - j) (by omega))
        have e : l.length - 1 - (l.length - 1 - j) = j := by omega
        simpa only [e] using this
      obtain ⟨u, hu⟩ : ∃ u, l.getD (l.length - 1 - k') (0, 0) = u := ⟨_, rfl⟩
      obtain ⟨u1, u2⟩ := u
      simp only [hu] at e3
      rcases e3 with ⟨e3, rfl⟩ | ⟨e3, e3', rfl⟩
      · exact bprev_to HCN.out hm hu hab e3
      · exact bprev_fr HCN.out hm hu hab e3 e3'
end Go.Proofs.YtkfonfheakpcbaaGreat
