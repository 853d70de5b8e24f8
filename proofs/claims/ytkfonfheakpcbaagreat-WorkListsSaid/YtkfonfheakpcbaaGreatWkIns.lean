import Derived.Test.YtkfonfheakpcbaaGreatWkOwn
import Derived.Test.YtkfonfheakpcbaaGreatWkShelfB
/- slices.Insert of one number ahead of a list of the call's own, by the library's contracts. -/
namespace Go.Proofs.YtkfonfheakpcbaaGreat
open Go.RowKit Wk

theorem heap_setCells {b : Nat} : ∀ (vs : List Value) (o : Nat) (w : World) (cur : Array Value) (e : TypeId) (fr : Nat × Nat), w.heap[b]? = some (.cells cur e fr) → ∃ cur' : Array Value, (w.setCells b o vs).heap[b]? = some (.cells cur' e fr) ∧ cur'.size = cur.size
  | [], _, _, cur, _, _, h => ⟨cur, h, rfl⟩
  | v :: r, o, w, cur, e, fr, h => by
    have h1 : (w.setCell ⟨b, o, none⟩ v).heap[b]? = some (.cells (cur.setIfInBounds o v) e fr) := by
      simp [World.setCell, Array.getElem?_modify, h]
    obtain ⟨c', h2, h3⟩ := heap_setCells r (o + 1) _ _ e fr h1
    exact ⟨c', h2, by simpa using h3⟩
theorem grown_setCells {b : Nat} : ∀ (vs : List Value) (o : Nat) (w : World), w.grownBy (w.setCells b o vs) (some b)
  | [], _, w => ⟨rfl, rfl, rfl, Nat.le_refl _, fun _ _ _ => rfl⟩
  | v :: r, o, w => by
    have h := grown_setCells (b := b) r (o + 1) (w.setCell ⟨b, o, none⟩ v)
    have h3 : (w.setCell ⟨b, o, none⟩ v).heap.size = w.heap.size := by simp [World.setCell]
    have e : w.setCells b o (v :: r) = (w.setCell ⟨b, o, none⟩ v).setCells b (o + 1) r := rfl
    rw [e]
    refine ⟨h.os, h.tape, h.output, ?_, ?_⟩
    · rw [← h3]; exact h.size
    · intro k hk hne
      rw [h.block k (by rw [h3]; exact hk) hne]
      exact Below.heap_setCell _ _ _ _ (fun e => hne (by rw [e]))
theorem cell_of_block {w : World} {b : Nat} {cur : Array Value} {e : TypeId} {fr : Nat × Nat} (h : w.heap[b]? = some (.cells cur e fr)) (j : Nat) : w.cell? ⟨b, j, none⟩ = cur[j]? := by
  simp [World.cell?, h]
theorem frozen_of_block {w : World} {b : Nat} {cur : Array Value} {e : TypeId} (h : w.heap[b]? = some (.cells cur e (0, 0))) (j : Nat) : w.frozen? ⟨b, j, none⟩ = false := by
  simp [World.frozen?, h]
theorem shape_of_block {w : World} {b : Nat} {cur : Array Value} {e : TypeId} {fr : Nat × Nat} (h : w.heap[b]? = some (.cells cur e fr)) : w.shape? b = some (e, cur.size) := by
  simp [World.shape?, h]

/-- a block whose first cells are written -/
theorem own_of_cells {w : World} {B g cap : Nat} {L : List Int} {cur : Array Value} (hB : B ≤ g) (hb : w.heap[g]? = some (.cells cur 3 (0, 0))) (hn : L.length ≤ cap) (hm : cap ≤ maxLen) (hs : cur.size = cap)
    (hc : ∀ j, j < L.length → w.cell? ⟨g, j, none⟩ = some (.int .i64 (L.getD j 0))) : OwnI w B (.slice (some ⟨g, 0, none⟩) L.length cap) L := by
  refine ⟨by simp [flatI], .inr ⟨g, cap, cur, rfl, hB, hb, hn, hm, by omega, ?_⟩⟩
  rw [Nat.mul_one]
  apply List.ext_getElem?
  intro j
  by_cases hj : j < L.length
  · rw [List.getElem?_take_of_lt hj, Array.getElem?_toList, ← cell_of_block hb, hc j hj]
    simp [flatI, List.getD_eq_getElem?_getD, List.getElem?_eq_getElem hj]
  · rw [List.getElem?_take_eq_none (by omega), List.getElem?_eq_none (by simp [flatI]; omega)]

def InsPost (L : List Int) (w0 : World) (e : Ending) (w' : World) : Prop := ∃ v', e = .returned v' ∧ OwnI w' w0.heap.size v' L ∧ Below w0.heap.size w0 w'

theorem ins0_any (v : Value) (L : List Int) (z : Int) (w0 W : World) (h : OwnI W w0.heap.size v L) (hb : Below w0.heap.size w0 W) (h0 : L ≠ []) (hl : L.length < 1000000000000) :
    Calls Tryz.prog 176 #[v, .int .i64 0, .slice (some ⟨W.heap.size, 0, none⟩) 1 1] (W.alloc (.cells #[.int .i64 z] 3)) (InsPost (z :: L) w0) := by
  have hpos : 0 < L.length := List.length_pos_iff.2 h0
  obtain ⟨h1, h2⟩ := h
  rcases h2 with ⟨_, hz⟩ | ⟨g, cap, cur, rfl, hg, hgg, hn, hcap, hsz, htk⟩
  · omega
  rw [Nat.mul_one] at hsz htk
  have hgl : g < W.heap.size := (Array.getElem?_eq_some_iff.1 hgg).1
  have hW : (W.alloc (.cells #[.int .i64 z] 3)).heap[g]? = some (.cells cur 3 (0, 0)) := (Below.heap_alloc _ _ _ hgl).trans hgg
  have hN : (W.alloc (.cells #[.int .i64 z] 3)).heap[W.heap.size]? = some (.cells #[.int .i64 z] 3 (0, 0)) := heap_alloc_new W _
  have hcL : ∀ j, j < L.length → cur[j]? = some (.int .i64 (L.getD j 0)) := by
    intro j hj
    have : (cur.toList.take L.length)[j]? = (flatI L)[j]? := by rw [htk]
    rw [List.getElem?_take_of_lt hj, Array.getElem?_toList] at this
    rw [this]
    simp [flatI, List.getD_eq_getElem?_getD, List.getElem?_eq_getElem hj]
  have hcs : ∀ j u, (flatI L)[j]? = some u → (W.alloc (.cells #[.int .i64 z] 3)).cell? ⟨g, 0 + j, none⟩ = some u := by
    intro j u hu
    have hj : j < L.length := by have := (List.getElem?_eq_some_iff.1 hu).1; simpa [flatI] using this
    rw [Nat.zero_add, cell_of_block hW, hcL j hj, ← hu]
    simp [flatI, List.getD_eq_getElem?_getD, List.getElem?_eq_getElem hj]
  have hvs : ∀ j u, [Value.int .i64 z][j]? = some u → (W.alloc (.cells #[.int .i64 z] 3)).cell? ⟨W.heap.size, 0 + j, none⟩ = some u := by
    intro j u hu
    rw [Nat.zero_add, cell_of_block hN, ← hu]; simp
  have hone : ∀ u ∈ [Value.int .i64 z], u.oneCell' = true := by intro u hu; simp at hu; subst hu; rfl
  have hbW : Below w0.heap.size w0 (W.alloc (.cells #[.int .i64 z] 3)) := hb.alloc hb.size _
  by_cases hr : L.length + 1 ≤ cap
  · refine (Any2.slices_Insert_int_shift Tryz.byhand21 g 0 L.length cap 0 W.heap.size 0 1 1 (flatI L) [.int .i64 z] _ hpos (by omega) hr (by unfold maxLen at hcap; omega) (by omega) (by simp [flatI]) rfl hcs
      (fun j hj => by rw [Nat.zero_add, cell_of_block hW, Array.getElem?_eq_getElem (by omega)]; rfl) (fun j _ => frozen_of_block hW _) hvs (flatI_oneCell L) hone
      3 3 1 cur.size (by simpa using shape_of_block hN) (shape_of_block hW) (by omega) (frozen_of_block hN _) (frozen_of_block hN _)).mono ?_
    rintro e w' ⟨rfl, rfl⟩
    have hWd : (W.alloc (.cells #[.int .i64 z] 3)).drew.heap[g]? = some (.cells cur 3 (0, 0)) := hW
    obtain ⟨c1, k1, s1⟩ := heap_setCells ((flatI L).drop 0) (0 + (0 + 1)) _ _ _ _ hWd
    obtain ⟨c2, k2, s2⟩ := heap_setCells [Value.int .i64 z] (0 + 0) _ _ _ _ k1
    refine ⟨_, rfl, own_of_cells (L := z :: L) hg k2 (by simpa using hr) hcap (by omega) ?_, ?_⟩
    · intro j hj
      simp only [List.length_cons] at hj
      cases j with
      | zero =>
        have := World.cell?_setCells_in g [Value.int .i64 z] (0 + 0) _ (fun j hj => by
          rw [cell_of_block k1, Array.getElem?_eq_getElem (by simp at hj; omega)]; rfl) 0 (by simp)
        simpa using this
      | succ j =>
        rw [World.cell?_setCells_out g [Value.int .i64 z] (0 + 0) _ ⟨g, j + 1, none⟩ (fun _ _ => by right; simp)]
        have := World.cell?_setCells_in g ((flatI L).drop 0) (0 + (0 + 1)) _ (fun i hi => by
          rw [cell_of_block hWd, Array.getElem?_eq_getElem (by simp [flatI] at hi; omega)]; rfl) j (by simp [flatI]; omega)
        rw [show 0 + (0 + 1) + j = j + 1 by omega] at this
        rw [this]
        simp [flatI, List.getD_eq_getElem?_getD, List.getElem?_eq_getElem (by omega : j < L.length)]
    · refine (Below.grown (hbW.drew.grown (grown_setCells _ _ _) hbW.drew.size (fun k hk => by cases hk; exact hg)) (grown_setCells _ _ _) ?_ (fun k hk => by cases hk; exact hg))
      exact (hbW.drew.grown (grown_setCells _ _ _) hbW.drew.size (fun k hk => by cases hk; exact hg)).size
  · have hge := grownCap_ge (W.alloc (.cells #[.int .i64 z] 3)) (L.length + 1) cap 3
    have hle := grownCap_le_maxLen (W.alloc (.cells #[.int .i64 z] 3)) (L.length + 1) cap 3 (by unfold maxLen; omega)
    refine (Any2.slices_Insert_int_grow Tryz.byhand21 g 0 L.length cap 0 W.heap.size 0 1 1 (flatI L) [.int .i64 z] _ hpos (by omega) hn (by omega) (by omega) (by simp [flatI]) rfl hcs hvs (flatI_oneCell L) hone).mono ?_
    rintro e w' ⟨rfl, rfl⟩
    generalize hW1 : W.alloc (.cells #[.int .i64 z] 3) = W1 at *
    have hcp : grownCap W1 (L.length + 1) cap (Tryz.byhand21_ren.t 3) = grownCap W1 (L.length + 1) cap 3 := rfl
    rw [hcp]
    generalize grownCap W1 (L.length + 1) cap 3 = C at *
    generalize hAA : ((List.take 0 (flatI L)).toArray ++ Builtin.zeroCells (Value.int .i64 0).cells (L.length + 1 - 0) ++ Builtin.zeroCells (Value.int .i64 0).cells (C - (L.length + 1))) = A0
    have hAs : A0.size = C := by
      rw [← hAA]; simp [size_zeroCells, Value.cells]; omega
    have hA : (W1.alloc (.cells A0 (Tryz.byhand21_ren.t 3))).drew.heap[W1.heap.size]? = some (.cells A0 3 (0, 0)) := heap_alloc_new W1 _
    obtain ⟨c1, k1, s1⟩ := heap_setCells [Value.int .i64 z] 0 _ _ _ _ hA
    have k1' : ((W1.alloc (.cells A0 (Tryz.byhand21_ren.t 3))).drew.setCells W1.heap.size 0 [Value.int .i64 z]).drew.heap[W1.heap.size]? = some (.cells c1 3 (0, 0)) := k1
    obtain ⟨c2, k2, s2⟩ := heap_setCells ((flatI L).drop 0) (0 + 1) _ _ _ _ k1'
    refine ⟨_, rfl, own_of_cells (L := z :: L) (cap := C) hbW.size k2 (by simpa using hge) hle (by omega) ?_, ?_⟩
    · intro j hj
      simp only [List.length_cons] at hj
      cases j with
      | zero =>
        rw [World.cell?_setCells_out W1.heap.size ((flatI L).drop 0) (0 + 1) _ ⟨W1.heap.size, 0, none⟩ (fun _ _ => by left; simp)]
        have := World.cell?_setCells_in W1.heap.size [Value.int .i64 z] 0 (W1.alloc (.cells A0 (Tryz.byhand21_ren.t 3))).drew (fun j hj => by
          rw [cell_of_block hA, Array.getElem?_eq_getElem (by simp at hj; omega)]; rfl) 0 (by simp)
        simpa using this
      | succ j =>
        have := World.cell?_setCells_in W1.heap.size ((flatI L).drop 0) (0 + 1) _ (fun i hi => by
          rw [cell_of_block k1', Array.getElem?_eq_getElem (by simp [flatI] at hi; omega)]; rfl) j (by simp [flatI]; omega)
        rw [show 0 + 1 + j = j + 1 by omega] at this
        rw [this]
        simp [flatI, List.getD_eq_getElem?_getD, List.getElem?_eq_getElem (by omega : j < L.length)]
    · have b1 : Below w0.heap.size w0 (W1.alloc (.cells A0 (Tryz.byhand21_ren.t 3))).drew := (hbW.alloc hbW.size _).drew
      have b2 := (b1.grown (grown_setCells (b := W1.heap.size) [Value.int .i64 z] 0 _) b1.size (fun k hk => by cases hk; exact hbW.size)).drew
      exact b2.grown (grown_setCells _ _ _) b2.size (fun k hk => by cases hk; exact hbW.size)
end Go.Proofs.YtkfonfheakpcbaaGreat
