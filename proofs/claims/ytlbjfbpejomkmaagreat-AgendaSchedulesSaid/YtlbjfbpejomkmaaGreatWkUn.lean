import Derived.Test.YtlbjfbpejomkmaaGreatWkRfX
import Derived.Test.YtlbjfbpejomkmaaGreatWkPv
import Derived.Laws.AppendOwnNone
import Derived.Test.YtlbjfbpejomkmaaGreatWkRof
import Derived.Test.YtlbjfbpejomkmaaGreatWkBf
/- The reference's lists of integers: insert, Ends. -/
namespace Go.Proofs.YtlbjfbpejomkmaaGreat
open Go.RowKit Wk

theorem wpList_app_ints {ops : Array Oper} {rest : List Oper} {o : Oper} {a : Act} {Q : Exit → Act → World → Prop} {w0 W : World} {v : Value} {L N : List Int} (hgd : o.guard = none) (s x : Operand)
  (ho : o.op = .call { callee := .builtin .append, args := #[s, x], argTypes := #[36, 36] }) (hs : a.eval s = v) (hown : OwnI W w0.heap.size v L) (hbw : Below w0.heap.size w0 W)
  {p : Option Addr} {m c : Nat} (hx : a.eval x = .slice p m c) (hm : m = N.length) (hp : (p = none ∧ c = 0 ∧ N = []) ∨ ∃ g k, p = some ⟨g, k, none⟩ ∧ ∀ j, j < N.length → W.cell? ⟨g, k + j, none⟩ = some (.int .i64 (N.getD j 0)))
  (hlen : L.length + N.length < 1000000000000)
  (h : ∀ v' w', OwnI w' w0.heap.size v' (L ++ N) → Below w0.heap.size w0 w' → wpList Tryz.prog ops Q rest (a.put o.dst v') w') : wpList Tryz.prog ops Q (o :: rest) a W := by
 obtain ⟨i0, hi, hz0, hz1, hz2⟩ := info_parts Tryz.infoInt
 have hsz := hbw.size
 rcases hp with ⟨rfl, rfl, rfl⟩ | ⟨g, k, rfl, hc⟩
 ·subst hm
  refine wpList_append_own_none hgd s x 36 ho w0.heap.size 3 i0 1 Tryz.underlying36 hi v L.length (flatI L) hs hown hx ?_
  refine h v W ?_ hbw
  rw [List.append_nil]
  exact hown
 ·subst hm
  refine wpList_append_own _ hgd s x 36 ho w0.heap.size 3 i0 (.int .i64 0) 1 8 Tryz.underlying36 hi hz0 hz1 hz2 rfl (by decide) v L.length (flatI L) hs hown ⟨g, k, none⟩ N.length c (flatI N) hx (by simp [flatI]) ?_ ?_ (by unfold maxLen; omega) (by omega) hsz ?_
  ·intro j u hu
   have hj := (List.getElem?_eq_some_iff.1 hu).1
   have hj' : j < N.length := by simpa [flatI] using hj
   rw [WideShapes.add_plain, hc j hj']
   rw [← hu]
   simp [flatI, List.getD_eq_getElem?_getD, List.getElem?_eq_getElem hj']
  ·intro u hu
   unfold flatI at hu
   obtain ⟨z, _, rfl⟩ := List.mem_map.1 hu
   rfl
  ·intro v' w' hown' hg _
   refine h v' w' ?_ ?_
   ·unfold OwnI
    rw [List.length_append]
    have : flatI (L ++ N) = flatI L ++ flatI N := by simp [flatI]
    rw [this]
    exact hown'
   ·exact hbw.grown hg hsz (fun k hk => (hown.lt k hk).1)

end Go.Proofs.YtlbjfbpejomkmaaGreat
namespace Go.Proofs.YtlbjfbpejomkmaaGreat
open Go.RowKit Wk
namespace Wk
end Wk

theorem wpList_app_spans {ops : Array Oper} {rest : List Oper} {o : Oper} {a : Act} {Q : Exit → Act → World → Prop} {w0 W : World} {v : Value} {L N : List Sp} (hgd : o.guard = none) (s x : Operand)
  (ho : o.op = .call { callee := .builtin .append, args := #[s, x], argTypes := #[26, 26] }) (hs : a.eval s = v) (hown : OwnS W w0.heap.size v L) (hbw : Below w0.heap.size w0 W)
  {p : Option Addr} {m c : Nat} (hx : a.eval x = .slice p m c) (hm : m = N.length) (hr : RdS W (.slice p m c) N) (hz : p = none → c = 0)
  (hlen : L.length + N.length < 1000000000000)
  (h : ∀ v' w', OwnS w' w0.heap.size v' (L ++ N) → Below w0.heap.size w0 w' → wpList Tryz.prog ops Q rest (a.put o.dst v') w') : wpList Tryz.prog ops Q (o :: rest) a W := by
 obtain ⟨i0, hi, hz0, hz1, hz2⟩ := info_parts Tryz.infoSpan
 have hsz := hbw.size
 subst hm
 cases p with
 | none =>
  have hN : N = [] := by
   cases N with
   | nil => rfl
   | cons t r => obtain ⟨a', c', e, _, hc⟩ := hr; obtain ⟨b, o, e', _⟩ := hc 0 (by simp); cases e; cases e'
  subst hN
  have := hz rfl
  subst this
  refine wpList_append_own_none hgd s x 26 ho w0.heap.size 46 i0 2 Tryz.underlying26 hi v L.length (flatS L) hs hown hx ?_
  refine h v W ?_ hbw
  rw [List.append_nil]
  exact hown
 | some ad =>
  have HN : ∀ j u, (flatS N)[j]? = some u → W.cell? (ad.add j) = some u := fun j u hu => by
   have hj := (List.getElem?_eq_some_iff.1 hu).1
   rw [flatS_length] at hj
   have hr' := hr
   obtain ⟨a', c', e, _, hc⟩ := hr
   obtain ⟨b, o, e', _⟩ := hc 0 (by omega)
   cases e
   cases e'
   exact hr'.cells.2 j u hu
  refine wpList_append_own _ hgd s x 26 ho w0.heap.size 46 i0 (.agg #[.int .i64 0, .int .i64 0]) 2 16 Tryz.underlying26 hi hz0 hz1 hz2 rfl (by decide) v L.length (flatS L) hs hown ad N.length c (flatS N) hx (flatS_length N) HN ?_ (by unfold maxLen; omega) (by omega) hsz ?_
  ·intro u hu
   unfold flatS at hu
   obtain ⟨z, _, hu⟩ := List.mem_flatMap.1 hu
   simp at hu
   rcases hu with rfl | rfl <;> rfl
  ·intro v' w' hown' hg _
   refine h v' w' ?_ ?_
   ·unfold OwnS
    rw [List.length_append, flatS_append]
    exact hown'
   ·exact hbw.grown hg hsz (fun k hk => (hown.lt k hk).1)

end Go.Proofs.YtlbjfbpejomkmaaGreat
