import Derived.Test.YtkfonfheakpcbaaGreatWkOwn
import Derived.Test.YtkfonfheakpcbaaGreatWkPl
import Derived.Test.YtkfonfheakpcbaaGreatWkShelf
import Derived.Sort.OwnSortedInts
/- slices.Sort on a list of ints of the call's own, by the library's contract. -/
namespace Go.Proofs.YtkfonfheakpcbaaGreat
open Go.RowKit Wk Go.Sort

theorem sort_own (v : Value) (L : List Int) (w0 W : World) (h : OwnI W w0.heap.size v L) (hb : Below w0.heap.size w0 W) (hl : L.length < 1000000000000) :
    Calls Tryz.prog 132 #[v] W fun e w' => e = .returned (.tuple #[]) ∧ OwnI w' w0.heap.size v (sortI L) ∧ Below w0.heap.size w0 w' := by
  have hlt := h.lt
  obtain ⟨h1, h2⟩ := h
  rcases h2 with ⟨rfl, h0⟩ | ⟨g, cap, cur, rfl, hg, hgg, hn, hcap, hsz, htk⟩
  · obtain rfl : L = [] := List.eq_nil_of_length_eq_zero h0
    exact (Tryz.slices_Sort_int_none none 0 W).mono fun e w' ⟨he, hw⟩ => by subst hw; exact ⟨he, by have e : sortI [] = [] := List.eq_nil_of_length_eq_zero (sortI_len []); rw [e]; exact OwnI.nil _ _, hb⟩
  · rw [Nat.mul_one] at htk
    have hH : Holds (Value.int .i64) W g 0 L.toArray := holds_of_blockI hgg htk
    refine (Tryz.slices_Sort_int g 0 cap L W hH (hlt g rfl).2 (by omega)).mono ?_
    rintro e w' ⟨he, n, os, rfl⟩
    refine ⟨he, ?_, hb.grown (grownBy_sortedI _) hb.size (fun k hk => by cases hk; exact hg)⟩
    have := ownsRow_sortedI (w := W) (base := w0.heap.size) (g := g) (cap := cap) (n := n) (e := 3) (os := os) (cur := cur) (ss := L) (ts := sortI L) (sortI_len L) hg hgg hn hcap hsz
    unfold OwnI
    rw [sortI_len]
    exact this

end Go.Proofs.YtkfonfheakpcbaaGreat
