import Derived.Test.YtlbglinpgjlbkaaGreatDoorWkR9
import Derived.Test.YtlbglinpgjlbkaaGreatDoorWkShelfG
/- Zone texts: slices.Concat of two slices, at rules, zones, links. Printed by gen_cc.py. No conditions. -/
namespace Go.Proofs.YtlbglinpgjlbkaaGreatDoor
open Go.RowKit Wk

theorem wpList_app_none {P : Program} {w : World} {ops : Array Oper} {rest : List Oper} {o : Oper} {a : Act} {Q : Exit → Act → World → Prop} (hgd : o.guard = none) (s x : Operand) (t : TypeId)
  (ho : o.op = .call { callee := .builtin .append, args := #[s, x], argTypes := #[t, t] })
  (base : Nat) (e : TypeId) (i : TypeInfo) (size : Nat) (ht : P.underlying t = some (.slice e)) (hi : P.info? e = some i)
  (v : Value) (n c : Nat) (xs : List Value) (hs : a.eval s = v) (hown : w.ownsRow base e size v n xs) (hx : a.eval x = .slice none 0 c)
  (h : wpList P ops Q rest (a.put o.dst v) w) : wpList P ops Q (o :: rest) a w := by
 refine wpList_plain hgd fun K hK => ?_
 have hrun : (Builtin.append_ #[t, t] o.type #[v, .slice none 0 c]).run P w = .ok v w := by
  rcases hown.2 with ⟨rfl, rfl⟩ | ⟨g, cap, cur, rfl, _, _, hnc, _⟩
  ·simp [Builtin.append_, run_underlying ht, sizeOf, typeInfo, hi, Builtin.lenOf, Builtin.firstCells]
  ·simp [Builtin.append_, run_underlying ht, sizeOf, typeInfo, hi, Builtin.lenOf, Builtin.firstCells, hnc, storeCells]
 unfold Oper.wp
 simp [execOp, ho, resolve, invoke, builtin, hs, hx, hrun, Result.andThen]
 exact hK _ _ h
theorem wpList_cat_G {α : Type} {P : Program} {ops : Array Oper} {rest : List Oper} {o : Oper} {a : Act} {Q : Exit → Act → World → Prop} {B : Nat} {w0 W : World} {T TS : TypeId} {sz : Nat} {fl : α → List Value} (hf : ∀ x, (fl x).length = sz) (h0 : 0 < sz)
  (hTS : P.underlying TS = some (.slice T)) {zv : Value} {by_ : Nat} (hinfo : (P.info? T).map (fun i => (i.zero, i.size, i.bytes)) = some (some zv, sz, by_)) (hzv : zv.cells.size = sz) (hby : by_ ≤ 1000)
  {v x' : Value} {L N : List α} {d : α} (hgd : o.guard = none) (s x : Operand)
  (ho : o.op = .call { callee := .builtin .append, args := #[s, x], argTypes := #[TS, TS] }) (hs : a.eval s = v) (hown : OwnG T sz fl W B v L) (hbB : w0.heap.size ≤ B) (hBW : B ≤ W.heap.size) (hbw : Below w0.heap.size w0 W)
  (hx : a.eval x = x') (hrd : RdG sz fl d W x' N) (hone : ∀ z ∈ N, ∀ u ∈ fl z, u.oneCell' = true) (hlen : L.length + N.length ≤ 1000000)
  (h : ∀ v' w', OwnG T sz fl w' B v' (L ++ N) → Below w0.heap.size w0 w' → wpList P ops Q rest (a.put o.dst v') w') : wpList P ops Q (o :: rest) a W := by
 obtain ⟨i0, hi, hz0, hz1, hz2⟩ := info_parts hinfo
 obtain ⟨p, c, rfl, hl, hc⟩ := hrd
 cases p with
 | none =>
  have hN : N = [] := by
   cases N with
   | nil => rfl
   | cons z r => obtain ⟨_, _, e, _⟩ := hc 0 (by simp); cases e
  subst hN
  refine wpList_app_none hgd s x TS ho B T i0 sz hTS hi v L.length c (flatG fl L) hs hown hx ?_
  refine h v W ?_ hbw
  rw [List.append_nil]
  exact hown
 | some ad =>
  refine wpList_append_own _ hgd s x TS ho B T i0 zv sz by_ hTS hi hz0 hz1 hz2 hzv h0 v L.length (flatG fl L) hs hown ad N.length c (flatG fl N) hx (flatG_length hf N) ?_ ?_ (by unfold maxLen; omega) ?_ hBW ?_
  ·intro j u hu
   have hj := (List.getElem?_eq_some_iff.1 hu).1
   rw [flatG_length hf] at hj
   have hi : j / sz < N.length := Nat.div_lt_of_lt_mul (by rw [Nat.mul_comm]; exact hj)
   have hr : j % sz < sz := Nat.mod_lt _ h0
   have hjj : j = j / sz * sz + j % sz := by rw [Nat.mul_comm]; exact (Nat.div_add_mod j sz).symm
   rw [hjj, flatG_get hf d N _ _ hi hr] at hu
   obtain ⟨b, o', e, hcc⟩ := hc _ hi
   cases e
   have q := hcc _ u hr hu
   rw [WideShapes.add_plain]
   rw [show o' + j = o' + j / sz * sz + j % sz by omega]
   exact q
  ·intro u hu
   obtain ⟨z, hz, hu⟩ := List.mem_flatMap.1 hu
   exact hone z hz u hu
  ·have : (L.length + N.length) * by_ ≤ 1000000 * 1000 := Nat.mul_le_mul hlen hby
   omega
  ·intro v' w' hown' hg _
   refine h v' w' ?_ (hbw.grown hg hbw.size (fun k hk => by have := (World.ownsRow.lt hown k hk).1; omega))
   unfold OwnG
   rw [flatG_append, List.length_append]
   exact hown'

end Go.Proofs.YtlbglinpgjlbkaaGreatDoor
