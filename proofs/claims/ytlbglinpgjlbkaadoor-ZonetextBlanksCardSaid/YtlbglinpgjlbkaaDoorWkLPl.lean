import Derived.Test.YtlbglinpgjlbkaaDoorWkP3
import Derived.Test.YtlbglinpgjlbkaaDoorWkL0
import Derived.Test.YtlbglinpgjlbkaaDoorWkJD
/- Zone texts: the law Places. Printed by gen_lpl.py. No conditions. -/
namespace Go.Proofs.YtlbglinpgjlbkaaDoor
open Go.RowKit Wk

theorem spc_len : ∀ (l : List Tok) (N : Nat), (∀ w ∈ l, w.tx.length ≤ N) → (spcT l).length ≤ l.length * (N + 1)
 | [], _, _ => by simp [spcT]
 | w :: r, N, h => by
  have h1 := spc_len r N fun x hx => h x (List.mem_cons_of_mem _ hx)
  have h2 := h w (by simp)
  have e : spcT (w :: r) = w.tx ++ [32] ++ spcT r := by unfold spcT; simp
  have e2 : (w :: r).length * (N + 1) = r.length * (N + 1) + (N + 1) := by rw [List.length_cons, Nat.succ_mul]
  rw [e, e2, List.length_append, List.length_append]
  simp only [List.length_cons, List.length_nil]
  omega
theorem bef_len : ∀ (A : List (List Tok)) (N : Nat), (∀ ws ∈ A, ws ≠ [] ∧ ∀ w ∈ ws, w.tx.length ≤ N) → (befT A).length ≤ sumW A * (N + 2)
 | [], _, _ => by simp [befT]
 | ws :: r, N, h => by
  have h1 := bef_len r N fun x hx => h x (List.mem_cons_of_mem _ hx)
  obtain ⟨h2, h3⟩ := h ws (by simp)
  have h4 := spc_len ws N h3
  have h5 := List.length_pos_iff.2 h2
  have e : befT (ws :: r) = spcT ws ++ [10] ++ befT r := by unfold befT; simp
  have e2 : sumW (ws :: r) = ws.length + sumW r := by unfold sumW; rw [List.map_cons, List.sum_cons]
  rw [e, e2, List.length_append, List.length_append, Nat.add_mul]
  simp only [List.length_cons, List.length_nil]
  have e3 : ws.length * (N + 2) = ws.length * (N + 1) + ws.length := by rw [Nat.mul_succ]
  omega
theorem linesM_tx {t : Bs} (h : (linesM t).2.2 = 0) : ∀ ws ∈ (linesM t).1, ∀ w ∈ ws, w.tx.length ≤ t.length := by
 have h6 : t.length ≤ 65536 := by
  by_cases q : 65536 < t.length
  ·unfold linesM at h
   rw [if_pos q] at h
   exact absurd h (by simp)
  ·omega
 unfold linesM
 rw [if_neg (by omega)]
 cases hs : linesS 1 (splitNl t) with
 | inr p => exact fun ws hw => (List.not_mem_nil hw).elim
 | inl out => exact linesS_sz _ _ _ out (fun l hl => split_sz t l hl) hs
theorem lines_bnd {t : Bs} (h : (linesM t).2.2 = 0) (ht : t.length ≤ 3000) : (befT (linesM t).1).length ≤ 5000000 ∧ (linesM t).1.length ≤ 65537 ∧ ∀ ws ∈ (linesM t).1, ws.length ≤ 1000000 ∧ ∀ w ∈ ws, w.tx.length ≤ 3000 := by
 have h1 := bef_len (linesM t).1 3000 fun ws hw => ⟨linesM_ne t ws hw, fun w hw2 => Nat.le_trans (linesM_tx h ws hw w hw2) ht⟩
 have h2 := linesM_len h
 have h3 := linesM_b t (by omega)
 refine ⟨?_, h3.2, fun ws hw => ⟨(h3.1 ws hw).2.2, fun w hw2 => Nat.le_trans (linesM_tx h ws hw w hw2) ht⟩⟩
 have : sumW (linesM t).1 * (3000 + 2) ≤ 1501 * 3002 := Nat.mul_le_mul_right _ (by omega)
 omega
def ParQ (S : SrT) (pa pc er : Int) (w : World) (e : Ending) (w' : World) : Prop :=
 ∃ rv zv lv Z, e = .returned (.tuple #[.agg #[rv, zv, lv], .agg #[.int .i64 pa, .int .i64 pc], .int .i64 er]) ∧ RdSr w' rv zv lv S Z ∧ CapV rv ∧ CapV zv ∧ CapV lv ∧ Below w.heap.size w w'
def LinQ (L : List (List Tok)) (pa pc er : Int) (w : World) (e : Ending) (w' : World) : Prop := ∃ v, e = .returned (.tuple #[v, .agg #[.int .i64 pa, .int .i64 pc], .int .i64 er]) ∧ OwnLn w' w.heap.size v L ∧ Below w.heap.size w w'
end Go.Proofs.YtlbglinpgjlbkaaDoor
