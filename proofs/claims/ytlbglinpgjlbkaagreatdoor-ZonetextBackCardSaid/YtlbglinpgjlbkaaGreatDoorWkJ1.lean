import Derived.Test.YtlbglinpgjlbkaaGreatDoorWkO1
import Derived.Test.YtlbglinpgjlbkaaGreatDoorWkRp
import Derived.Shelf.Strings.BuilderK
import Derived.Shelf.Strings.BuilderF
/- Zone texts: a builder that a call made, strings.Join by blanks, and the lengths of the words of a line. -/
namespace Go.Proofs.YtlbglinpgjlbkaaGreatDoor
open Go.RowKit Wk

theorem lays_ws : Lays.n166 Tryz.prog Tryz.lays156_ren :=
 have L := Tryz.lays156
 ⟨L.mixed, L.f166, L.f240, L.f276, L.t0, L.a0, L.z0, L.v0, L.t3, L.a3, L.z3, L.v3, L.t4, L.a4, L.z4, L.v4, L.t9, L.a9, L.z9, L.v9, L.t20, L.a20, L.z20, L.v20, L.t37, L.a37, L.z37, L.v37, L.t70, L.a70, L.z70, L.v70, L.t72, L.a72, L.z72, L.v72, L.t75, L.a75, L.z75, L.v75, L.t164, L.a164, L.z164, L.v164⟩
def Bld (w0 : World) (b : Nat) (l : Bs) (w : World) : Prop := Lib.IsBuilderF 145 5 w0.heap.size b (Lib.byteCells l) w ∧ Below w0.heap.size w0 w
theorem Bld.new {w0 W : World} (hb : Below w0.heap.size w0 W) : Bld w0 W.heap.size [] (W.alloc (.cells #[.pointer none, .slice none 0 0] 145)) := by
 refine ⟨.inl ⟨hb.size, .slice none 0 0, ?_, World.ownsRowF_nil _ _ _ _, by simp [Value.ownBlock]⟩, hb.alloc hb.size _⟩
 have := Blk.new W #[.pointer none, .slice none 0 0] 145
 exact this
theorem at_below {T e : TypeId} {B b : Nat} {p : Value} {bs : List Value} {W W' : World} (h : Lib.BuilderAtF T e B b p bs W) (hb : Below W.heap.size W W') : Lib.BuilderAtF T e B b p bs W' := by
 have hlt := h.lt
 obtain ⟨hB, v, hv, hown, hne⟩ := h
 exact ⟨hB, v, (hb.block b hlt).trans hv, hown.kept (row := none) (below_grown hb none) (Classical.em _), hne⟩
theorem Bld.below {w0 w w' : World} {b : Nat} {l : Bs} (h : Bld w0 b l w) (hb : Below w.heap.size w w') : Bld w0 b l w' :=
 ⟨h.1.elim (fun x => .inl (at_below x hb)) (fun x => .inr (at_below x hb)), keepBelow h.2 hb⟩
theorem Bld.lt {w0 w : World} {b : Nat} {l : Bs} (h : Bld w0 b l w) : b < w.heap.size := h.1.elim (fun q => q.lt) fun q => q.lt
theorem ws_any {w0 w : World} {b : Nat} {l : Bs} (h : Bld w0 b l w) (s : ByteArray) (hl : l.length + s.size ≤ 140737488355328) :
  Calls Tryz.prog 100 #[.pointer (some ⟨b, 0, none⟩), .string s] w fun e w' => e = .returned (.tuple #[.int .i64 s.size, .nilIface]) ∧ Bld w0 b (l ++ bsO s) w' ∧ Lib.OthersKept 5 (some b) w w' :=
 (Any.Builder_WriteString_k lays_ws Tryz.Builder_Extra_156 w0.heap.size b (Lib.byteCells l) s w h.1 (by rw [Lib.byteCells_length]; exact hl) h.2.size).mono fun e w' q => by
  obtain ⟨he, h1, h2, h3⟩ := q
  refine ⟨he, ⟨.inr ?_, h.2.trans h2⟩, h3⟩
  rw [Lib.byteCells_append, ← Lib.strCells_eq]
  exact h1
theorem blen_any {w0 w : World} {b : Nat} {l : Bs} (h : Bld w0 b l w) : Calls Tryz.prog 103 #[.pointer (some ⟨b, 0, none⟩)] w fun e w' => e = .returned (.int .i64 l.length) ∧ w' = w := by
 have q := Any.Builder_Len_f Tryz.lays170 w0.heap.size b (Lib.byteCells l) w h.1
 rw [Lib.byteCells_length] at q
 exact q
theorem bstr_any {w0 w : World} {b : Nat} {l : Bs} (h : Bld w0 b l w) : Calls Tryz.prog 104 #[.pointer (some ⟨b, 0, none⟩)] w fun e w' => e = .returned (.string ⟨l.toArray⟩) ∧ Below w0.heap.size w0 w' :=
 (Any.Builder_String_any_f Tryz.lays169 Tryz.Builder_Extra_169 w0.heap.size b l w h.1 h.2.size).mono fun _ _ q => ⟨q.1, h.2.trans q.2.2⟩
theorem Blk.others {w w' : World} {b b' : Nat} {cs : Array Value} {T : TypeId} (h : Blk w b' cs T) (hk : Lib.OthersKept 5 (some b) w w') (hn : b' ≠ b) (hT : T ≠ 5) : Blk w' b' cs T :=
 hk b' _ h (fun e => hn (by injection e)) fun c fz e => hT (by injection e)

theorem join_t : ∀ (a : Bs) (r : List Bs), joinT (a :: r) = a ++ Lib.joinTail [32] r
 | a, [] => by simp [joinT, Lib.joinTail]
 | a, b :: r => by
  show a ++ 32 :: joinT (b :: r) = _
  rw [join_t b r]
  simp [Lib.joinTail]
theorem join_eq (l : List Bs) : Lib.join l [32] = joinT l := by
 cases l with
 | nil => rfl
 | cons a r => rw [Lib.join_cons, join_t]
theorem joinT_len {n : Nat} : ∀ {l : List Bs}, (∀ x ∈ l, x.length ≤ n) → (joinT l).length ≤ l.length * (n + 1)
 | [], _ => by simp [joinT]
 | [a], h => by have := h a (by simp); simp [joinT]; omega
 | a :: b :: r, h => by
  have h1 := h a (by simp)
  have h2 := joinT_len (l := b :: r) (n := n) fun x hx => h x (List.mem_cons_of_mem _ hx)
  show (a ++ 32 :: joinT (b :: r)).length ≤ (r.length + 1 + 1) * (n + 1)
  rw [List.length_append, List.length_cons, Nat.add_mul (r.length + 1) 1]
  simp only [List.length_cons] at h2
  omega
theorem join_any (xs : List ByteArray) (W : World) {c : Nat} (hc : xs.length ≤ c) (bk : Nat) (hx : ∀ (j : Nat) x, xs[j]? = some x → W.cell? ⟨bk, 0 + j, none⟩ = some (.string x)) (hb : bk < W.heap.size) (hn : xs.length ≤ 1000) (hl : ∀ x ∈ xs, x.size ≤ 1000000) :
  Calls Tryz.prog 161 #[.slice (some ⟨bk, 0, none⟩) xs.length c, .string ⟨#[32]⟩] W fun e w' => e = .returned (.string ⟨(joinT (xs.map bsO)).toArray⟩) ∧ Below W.heap.size W w' := by
 have hj : xs.map (·.data.toList) = xs.map bsO := List.map_congr_left fun x _ => rfl
 have hlen : (joinT (xs.map bsO)).length ≤ xs.length * 1000001 := by
  have := joinT_len (l := xs.map bsO) (n := 1000000) (fun y hy => by
   obtain ⟨x, hx2, rfl⟩ := List.mem_map.1 hy
   rw [bs_len]
   exact hl x hx2)
  rwa [List.length_map] at this
 have h32 : (⟨#[32]⟩ : ByteArray).data.toList = [32] := rfl
 have q := Tryz.strings_Join bk 0 c xs ⟨#[32]⟩ W hx hb (by omega) hc (by
  rw [hj, h32, join_eq]
  have : xs.length * 1000001 ≤ 1000 * 1000001 := Nat.mul_le_mul_right _ hn
  omega)
 rw [hj, h32, join_eq] at q
 exact q
theorem row_cells (W : World) (xs : List ByteArray) : ∀ (j : Nat) x, xs[j]? = some x → (W.alloc (.cells (xs.map Value.string).toArray 9)).cell? ⟨W.heap.size, 0 + j, none⟩ = some (.string x) := by
 intro j x hx
 rw [Nat.zero_add]
 exact (Blk.new W (xs.map Value.string).toArray 9).cell (j := j) (by simp [hx])

theorem ruleW_len {r : RuT} (hr : ruB r = true) : ∀ x ∈ ruleW r, x.length ≤ 30 := by
 obtain ⟨p1, p2, p3, p4, p5, p6, p7⟩ := ru_parts hr
 obtain ⟨⟨m1, m2⟩, m3, -, ⟨m4, m5⟩, m6, m7⟩ := mom_parts p5
 have hs := sav_parts p6
 unfold ruleW
 intro x hx
 simp only [List.mem_cons, List.not_mem_nil, or_false] at hx
 rcases hx with rfl | rfl | rfl | rfl | rfl | rfl | rfl | rfl | rfl
 ·decide
 ·exact (name_wd p1).2
 ·have := (year_ok p2 (by omega)).2.2; omega
 ·split
  ·decide
  ·split
   ·decide
   ·have := (year_ok (n := r.to) (by omega) p4).2.2; omega
 ·have := (month_ok m1 m2).2.2; omega
 ·have := (on_ok m3).2.2; omega
 ·have := (clock_ok m4 m5 m6 m7).2.2; omega
 ·have := (offset_ok (n := r.sv) (by omega) (by omega)).2.2; omega
 ·have := (letter_wd p7).2; omega
end Go.Proofs.YtlbglinpgjlbkaaGreatDoor
