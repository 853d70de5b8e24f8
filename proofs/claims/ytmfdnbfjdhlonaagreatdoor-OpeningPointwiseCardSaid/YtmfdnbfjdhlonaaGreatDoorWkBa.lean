import Derived.Test.YtmfdnbfjdhlonaaGreatDoorProg
import Derived.Test.YtmfdnbfjdhlonaaGreatDoorWkPl
import Derived.WalkKit
import Derived.WalkSpells
import Derived.WalkLawsBesides
import Derived.Lib.Hide
import Derived.Deep.RegionHeld3
import Derived.Deep.QuietTactic
import Derived.BigQuiet
import Derived.StillTailTactics
import Derived.Deep.DeepCutAuto
import Derived.Deep.DeepFit
import Derived.Deep.SlicePairs
/- Base of the walks: how a slice of spans reads in memory. No conditions. -/
namespace Go.Proofs.YtmfdnbfjdhlonaaGreatDoor
open Go.RowKit Wk

theorem bcell {W w1 : World} (hb : Below W.heap.size W w1) : (∀ b o, b < W.heap.size → w1.cell? ⟨b, o, none⟩ = W.cell? ⟨b, o, none⟩) ∧ (∀ b o, b < W.heap.size → w1.frozen? ⟨b, o, none⟩ = W.frozen? ⟨b, o, none⟩) :=
 ⟨fun b o h => hb.cell (p := ⟨b, o, none⟩) h, fun b o h => hb.frozen (p := ⟨b, o, none⟩) h⟩

def RdS (w : World) (v : Value) (l : List Sp) : Prop :=
 ∃ a c, v = .slice a l.length c ∧ l.length ≤ 8796093022208 ∧ ∀ i, i < l.length → ∃ b o, a = some ⟨b, o, none⟩ ∧
  w.cell? ⟨b, o + i * 2, none⟩ = some (.int .i64 (l.getD i (0, 0)).1) ∧ w.cell? ⟨b, o + i * 2 + 1, none⟩ = some (.int .i64 (l.getD i (0, 0)).2)

theorem RdS.below {B : Nat} {w w' : World} {v : Value} {l : List Sp} (h : RdS w v l) (hs : w.heap.size ≤ B) (hb : Below B w w') : RdS w' v l := by
 obtain ⟨a, c, rfl, hl, hc⟩ := h
 refine ⟨a, c, rfl, hl, fun i hi => ?_⟩
 obtain ⟨b, o, rfl, h1, h2⟩ := hc i hi
 have hlt : b < w.heap.size := World.block_lt_of_cell? w ⟨b, o + i * 2, none⟩ h1
 exact ⟨b, o, rfl, (hb.cell (p := ⟨b, o + i * 2, none⟩) (by show b < B; omega)).trans h1, (hb.cell (p := ⟨b, o + i * 2 + 1, none⟩) (by show b < B; omega)).trans h2⟩

theorem keepCell {W w' : World} {a : Addr} {v : Value} (hb : Below W.heap.size W w') (h : W.cell? a = some v) : w'.cell? a = some v :=
 (hb.cell (p := a) (World.block_lt_of_cell? W a h)).trans h

theorem keepBelow {w W w' : World} (h : Below w.heap.size w W) (hb : Below W.heap.size W w') : Below w.heap.size w w' := h.trans (hb.mono h.size)
theorem keepRd {W w' : World} {v : Value} {l : List Sp} (hb : Below W.heap.size W w') (h : RdS W v l) : RdS w' v l := h.below (Nat.le_refl _) hb

def Ext (W : World) : Type := { w' : World // Below W.heap.size W w' }
instance (W : World) : Inhabited (Ext W) := ⟨⟨W, Below.refl _ _⟩⟩
def extOf (W : World) (x : Ext W) : World := x.1
theorem extOf_below (W : World) (x : Ext W) : Below W.heap.size W (extOf W x) := x.2
theorem ext_cell {W : World} {a : Addr} {v : Value} (h : W.cell? a = some v) : ∀ x : Ext W, (extOf W x).cell? a = some v := fun x => keepCell x.2 h
theorem ext_rd {W : World} {v : Value} {l : List Sp} (h : RdS W v l) : ∀ x : Ext W, RdS (extOf W x) v l := fun x => h.below (Nat.le_refl _) x.2

theorem wp_region_ext {P : Program} {id : Nat} {Q : Exit → Act → World → Prop} {a : Act} {W : World} {l : List Oper} (hm : P.follows .mixedOrders = true) (hB : Region.lexB .any l.toArray = true)
  (h : wpQuiet P l.toArray (fun w' => ∃ x : Ext W, w' = extOf W x) (fun a' => ∀ w', Below W.heap.size W w' → Q .normal a' w') l a) : (Code.region id l.toArray true).wp P Q a W := by
 refine wp_region_quiet (C := fun w' => ∃ x : Ext W, w' = extOf W x) hm hB ⟨⟨_, (Below.refl _ W).drew⟩, rfl⟩ ?_
 have e : (fun a' => ∀ w', (∃ x : Ext W, w' = extOf W x) → Q .normal a' w') = (fun a' => ∀ w', Below W.heap.size W w' → Q .normal a' w') := by
  funext a'
  apply propext
  constructor
  ·intro h w' hb; exact h w' ⟨⟨w', hb⟩, rfl⟩
  ·rintro h w' ⟨x, rfl⟩; exact h _ x.2
 rw [e]
 simpa using h

theorem calls_ext {P : Program} {f : FuncId} {args : Array Value} {W : World} {x : Ext W} {v : Value}
  (h : Calls P f args (extOf W x) fun e w' => e = .returned v ∧ Below (extOf W x).heap.size (extOf W x) w') : Calls P f args (extOf W x) fun e w'' => e = .returned v ∧ ∃ y : Ext W, w'' = extOf W y :=
 h.mono fun _ w'' ⟨he, hb⟩ => ⟨he, ⟨w'', x.2.trans (hb.mono x.2.size)⟩, rfl⟩
theorem calls_ext_same {P : Program} {f : FuncId} {args : Array Value} {W : World} {x : Ext W} {v : Value}
  (h : Calls P f args (extOf W x) fun e w' => e = .returned v ∧ extOf W x = w') : Calls P f args (extOf W x) fun e w'' => e = .returned v ∧ ∃ y : Ext W, w'' = extOf W y :=
 h.mono fun _ _ ⟨he, hb⟩ => ⟨he, x, hb.symm⟩

theorem rd_at {w wr : World} {a : Option Addr} {l : List Sp} {k : Nat} (hc : ∀ i, i < l.length → ∃ b o, a = some ⟨b, o, none⟩ ∧
  w.cell? ⟨b, o + i * 2, none⟩ = some (.int .i64 (l.getD i (0, 0)).1) ∧ w.cell? ⟨b, o + i * 2 + 1, none⟩ = some (.int .i64 (l.getD i (0, 0)).2))
  (hB : Below w.heap.size w wr) (hlt : k < l.length) : ∃ b o x y, a = some ⟨b, o, none⟩ ∧ b < w.heap.size ∧ Hid (l.getD k (0, 0) = (x, y)) ∧
   wr.cell? ⟨b, o + k * 2, none⟩ = some (.int .i64 x) ∧ wr.cell? ⟨b, o + k * 2 + 1, none⟩ = some (.int .i64 y) := by
 obtain ⟨b, o, e, c1, c2⟩ := hc k hlt
 have hbw : b < w.heap.size := World.block_lt_of_cell? w _ c1
 exact ⟨b, o, _, _, e, hbw, rfl, (hB.cell (p := ⟨b, o + k * 2, none⟩) hbw).trans c1, (hB.cell (p := ⟨b, o + k * 2 + 1, none⟩) hbw).trans c2⟩

theorem ret_bool {a b : Bool} (h : a = b) : Ending.returned (.bool a) = .returned (.bool b) := by rw [h]
theorem ret3_int {k k' k'' : IntKind} {a b c d e : Int} (h : a = b) (h' : c = d) : Ending.returned (.tuple #[.int k a, .int k' c, .int k'' e]) = .returned (.tuple #[.int k b, .int k' d, .int k'' e]) := by rw [h, h']
theorem ret_int {k : IntKind} {a b : Int} (h : a = b) : Ending.returned (.int k a) = .returned (.int k b) := by rw [h]
end Go.Proofs.YtmfdnbfjdhlonaaGreatDoor
namespace Go.Proofs.YtmfdnbfjdhlonaaGreatDoor
open Go.RowKit Wk

def flatS (l : List Sp) : List Value := l.flatMap fun s => [.int .i64 s.1, .int .i64 s.2]
def flatI (l : List Int) : List Value := l.map (Value.int .i64)

theorem flatS_length (l : List Sp) : (flatS l).length = l.length * 2 := by
 induction l with
 | nil => rfl
 | cons s r ih => simp only [flatS, List.flatMap_cons, List.length_append, List.length_cons, List.length_nil] at *; omega
theorem flatS_append (a b : List Sp) : flatS (a ++ b) = flatS a ++ flatS b := by simp [flatS]
theorem flatS_get : ∀ (l : List Sp) (i : Nat), i < l.length → (flatS l)[i * 2]? = some (.int .i64 (l.getD i (0, 0)).1) ∧ (flatS l)[i * 2 + 1]? = some (.int .i64 (l.getD i (0, 0)).2)
 | [], i, h => by simp at h
 | s :: r, 0, _ => by simp [flatS]
 | s :: r, i + 1, h => by
  have ih := flatS_get r i (by simpa using h)
  have e : flatS (s :: r) = .int .i64 s.1 :: .int .i64 s.2 :: flatS r := rfl
  rw [e, show (i + 1) * 2 = i * 2 + 1 + 1 by omega]
  simpa using ih
theorem flatS_oneCell (l : List Sp) : ∀ u ∈ flatS l, u.oneCell' = true := by
 intro u hu
 simp only [flatS, List.mem_flatMap] at hu
 obtain ⟨s, _, h⟩ := hu
 simp at h
 rcases h with rfl | rfl <;> rfl

def OwnS (w : World) (B : Nat) (v : Value) (l : List Sp) : Prop := w.ownsRow B 41 2 v l.length (flatS l)
def OwnI (w : World) (B : Nat) (v : Value) (l : List Int) : Prop := w.ownsRow B 3 1 v l.length (flatI l)

theorem OwnS.rd {w : World} {B : Nat} {v : Value} {l : List Sp} (h : OwnS w B v l) (hl : l.length ≤ 8796093022208) : RdS w v l := by
 have h' := h
 rcases h.2 with ⟨rfl, h0⟩ | ⟨g, cap, cur, rfl, _⟩
 ·obtain rfl : l = [] := List.eq_nil_of_length_eq_zero h0
  exact ⟨none, 0, rfl, hl, fun i hi => by simp at hi⟩
 ·refine ⟨some ⟨g, 0, none⟩, cap, rfl, hl, fun i hi => ⟨g, 0, rfl, ?_, ?_⟩⟩
  ·rw [Nat.zero_add, World.ownsRow.cellAt h' (i * 2) (by omega)]
   exact (flatS_get l i hi).1
  ·rw [Nat.zero_add, World.ownsRow.cellAt h' (i * 2 + 1) (by omega)]
   exact (flatS_get l i hi).2

theorem Tryz.infoSpan : (Tryz.prog.info? 41).map (fun i => (i.zero, i.size, i.bytes)) = some (some (.agg #[.int .i64 0, .int .i64 0]), 2, 16) := by kernel_rfl
theorem Tryz.infoInt : (Tryz.prog.info? 3).map (fun i => (i.zero, i.size, i.bytes)) = some (some (.int .i64 0), 1, 8) := by kernel_rfl

theorem RdS.cells {w : World} {b o : Nat} {n c : Nat} {l : List Sp} (h : RdS w (.slice (some ⟨b, o, none⟩) n c) l) : n = l.length ∧ ∀ j u, (flatS l)[j]? = some u → w.cell? ((⟨b, o, none⟩ : Addr).add j) = some u := by
 obtain ⟨a, c', e, hl, hc⟩ := h
 cases e
 refine ⟨rfl, fun j u hu => ?_⟩
 have hj : j < l.length * 2 := by
  have := (List.getElem?_eq_some_iff.1 hu).1
  rw [flatS_length] at this; exact this
 obtain ⟨b', o', e, c1, c2⟩ := hc (j / 2) (by omega)
 cases e
 have hg := flatS_get l (j / 2) (by omega)
 rcases (by omega : j = j / 2 * 2 ∨ j = j / 2 * 2 + 1) with e | e
 ·rw [e] at hu ⊢
  rw [hg.1] at hu
  cases hu
  rw [WideShapes.add_plain]; exact c1
 ·rw [e] at hu ⊢
  rw [hg.2] at hu
  cases hu
  rw [WideShapes.add_plain]; exact c2

theorem flatI_oneCell (l : List Int) : ∀ u ∈ flatI l, u.oneCell' = true := by
 intro u hu
 simp only [flatI, List.mem_map] at hu
 obtain ⟨s, _, rfl⟩ := hu
 rfl
theorem OwnS.lt {w : World} {B : Nat} {v : Value} {l : List Sp} (h : OwnS w B v l) : ∀ k, v.ownBlock = some k → B ≤ k ∧ k < w.heap.size := World.ownsRow.lt h
theorem OwnI.lt {w : World} {B : Nat} {v : Value} {l : List Int} (h : OwnI w B v l) : ∀ k, v.ownBlock = some k → B ≤ k ∧ k < w.heap.size := World.ownsRow.lt h
theorem OwnI.ne {w : World} {B : Nat} {v : Value} {l : List Int} (h : OwnI w B v l) : v.ownBlock ≠ some w.heap.size := fun e => by have := (h.lt _ e).2; omega
theorem OwnS.ne {w : World} {B : Nat} {v : Value} {l : List Sp} (h : OwnS w B v l) : v.ownBlock ≠ some w.heap.size := fun e => by have := (h.lt _ e).2; omega
theorem OwnI.alloc {w : World} {B : Nat} {v : Value} {l : List Int} (h : OwnI w B v l) (o : Obj) : OwnI (w.alloc o) B v l := World.ownsRow.alloc h o
theorem OwnS.alloc {w : World} {B : Nat} {v : Value} {l : List Sp} (h : OwnS w B v l) (o : Obj) : OwnS (w.alloc o) B v l := World.ownsRow.alloc h o
theorem OwnI.nil (w : World) (B : Nat) : OwnI w B (.slice none 0 0) [] := World.ownsRow_nil _ _ _ _
theorem OwnS.nil (w : World) (B : Nat) : OwnS w B (.slice none 0 0) [] := World.ownsRow_nil _ _ _ _
theorem OwnI.below {w w' : World} {B : Nat} {v : Value} {l : List Int} (h : OwnI w B v l) (hb : Below w.heap.size w w') : OwnI w' B v l := by
 refine ⟨h.1, ?_⟩
 rcases h.2 with hn | ⟨g, cap, cur, rfl, hbb, hgg, rest⟩
 ·exact .inl hn
 ·exact .inr ⟨g, cap, cur, rfl, hbb, (hb.block g (Array.getElem?_eq_some_iff.1 hgg).1).trans hgg, rest⟩
theorem OwnS.below {w w' : World} {B : Nat} {v : Value} {l : List Sp} (h : OwnS w B v l) (hb : Below w.heap.size w w') : OwnS w' B v l := by
 refine ⟨h.1, ?_⟩
 rcases h.2 with hn | ⟨g, cap, cur, rfl, hbb, hgg, rest⟩
 ·exact .inl hn
 ·exact .inr ⟨g, cap, cur, rfl, hbb, (hb.block g (Array.getElem?_eq_some_iff.1 hgg).1).trans hgg, rest⟩
theorem OwnI.mono {w : World} {B B' : Nat} {v : Value} {l : List Int} (h : OwnI w B v l) (hB : B' ≤ B) : OwnI w B' v l := by
 refine ⟨h.1, ?_⟩
 rcases h.2 with hn | ⟨g, cap, cur, rfl, hbb, rest⟩
 ·exact .inl hn
 ·exact .inr ⟨g, cap, cur, rfl, by omega, rest⟩
theorem OwnS.mono {w : World} {B B' : Nat} {v : Value} {l : List Sp} (h : OwnS w B v l) (hB : B' ≤ B) : OwnS w B' v l := by
 refine ⟨h.1, ?_⟩
 rcases h.2 with hn | ⟨g, cap, cur, rfl, hbb, rest⟩
 ·exact .inl hn
 ·exact .inr ⟨g, cap, cur, rfl, by omega, rest⟩

theorem OwnS.setCell {w : World} {B : Nat} {v : Value} {l : List Sp} (h : OwnS w B v l) {b o : Nat} (hb : b < B) (u : Value) : OwnS (w.setCell ⟨b, o, none⟩ u) B v l := ownsRow_setCell_below h hb u
theorem OwnI.setCell {w : World} {B : Nat} {v : Value} {l : List Int} (h : OwnI w B v l) {b o : Nat} (hb : b < B) (u : Value) : OwnI (w.setCell ⟨b, o, none⟩ u) B v l := ownsRow_setCell_below h hb u

theorem wpList_app_int {ops : Array Oper} {rest : List Oper} {o : Oper} {a : Act} {Q : Exit → Act → World → Prop} {w0 W : World} {v : Value} {L : List Int} {z : Int} (hgd : o.guard = none) (s x : Operand)
  (ho : o.op = .call { callee := .builtin .append, args := #[s, x], argTypes := #[53, 53] }) (hs : a.eval s = v) (hown : OwnI W w0.heap.size v L) (hbw : Below w0.heap.size w0 W)
  {n : Nat} (hx : a.eval x = .slice (some ⟨n, 0, none⟩) 1 1) (hn : n = W.heap.size) (hlen : L.length < 1000000000000)
  (h : ∀ v' w', OwnI w' w0.heap.size v' (L ++ [z]) → Below w0.heap.size w0 w' → (∀ b off, b < W.heap.size → v.ownBlock ≠ some b → w'.cell? ⟨b, off, none⟩ = W.cell? ⟨b, off, none⟩) → W.heap.size ≤ w'.heap.size →
   wpList Tryz.prog ops Q rest (a.put o.dst v') w') : wpList Tryz.prog ops Q (o :: rest) a (W.alloc (.cells #[.int .i64 z] 3)) := by
 subst hn
 obtain ⟨i0, hi, hz0, hz1, hz2⟩ := info_parts Tryz.infoInt
 have hsz := hbw.size
 refine wpList_append_own _ hgd s x 53 ho w0.heap.size 3 i0 (.int .i64 0) 1 8 Tryz.underlying53 hi hz0 hz1 hz2 rfl (by decide) v L.length (flatI L) hs (hown.alloc _) ⟨W.heap.size, 0, none⟩ 1 1 [.int .i64 z] hx rfl ?_ ?_ (by unfold maxLen; omega) (by omega) (by simp; omega) ?_
 ·intro j u hu
  have hj := (List.getElem?_eq_some_iff.1 hu).1
  have : j = 0 := by simp at hj; exact hj
  subst this
  simp at hu
  subst hu
  rw [WideShapes.add_plain]
  simp
 ·intro u hu; simp at hu; subst hu; rfl
 ·intro v' w' hown' hg _
  refine h v' w' ?_ ?_ ?_ ?_
  ·unfold OwnI
   simpa [flatI] using hown'
  ·exact (hbw.alloc hsz _).grown hg (by simp; omega) (fun k hk => (hown.lt k hk).1)
  ·intro b off hb hne
   rw [World.cell?_of_block (w := W.alloc (.cells #[.int .i64 z] 3)) (hg.block b (by simp; omega) (fun e => hne e.symm))]
   exact World.cell?_alloc_past _ _ _ hb
  ·have := hg.size; simp at this; omega

theorem wpList_app_span {ops : Array Oper} {rest : List Oper} {o : Oper} {a : Act} {Q : Exit → Act → World → Prop} {w0 W : World} {v : Value} {L : List Sp} {z1 z2 : Int} (hgd : o.guard = none) (s x : Operand)
  (ho : o.op = .call { callee := .builtin .append, args := #[s, x], argTypes := #[22, 22] }) (hs : a.eval s = v) (hown : OwnS W w0.heap.size v L) (hbw : Below w0.heap.size w0 W)
  {n : Nat} (hx : a.eval x = .slice (some ⟨n, 0, none⟩) 1 1) (hn : n = W.heap.size) (hlen : L.length < 1000000000000)
  (h : ∀ v' w', OwnS w' w0.heap.size v' (L ++ [(z1, z2)]) → Below w0.heap.size w0 w' → (∀ b off, b < W.heap.size → v.ownBlock ≠ some b → w'.cell? ⟨b, off, none⟩ = W.cell? ⟨b, off, none⟩) → W.heap.size ≤ w'.heap.size →
   wpList Tryz.prog ops Q rest (a.put o.dst v') w') : wpList Tryz.prog ops Q (o :: rest) a (W.alloc (.cells #[.int .i64 z1, .int .i64 z2] 41)) := by
 subst hn
 obtain ⟨i0, hi, hz0, hz1, hz2⟩ := info_parts Tryz.infoSpan
 have hsz := hbw.size
 refine wpList_append_own _ hgd s x 22 ho w0.heap.size 41 i0 (.agg #[.int .i64 0, .int .i64 0]) 2 16 Tryz.underlying22 hi hz0 hz1 hz2 rfl (by decide) v L.length (flatS L) hs (hown.alloc _) ⟨W.heap.size, 0, none⟩ 1 1 [.int .i64 z1, .int .i64 z2] hx rfl ?_ ?_ (by unfold maxLen; omega) (by omega) (by simp; omega) ?_
 ·intro j u hu
  have hj := (List.getElem?_eq_some_iff.1 hu).1
  rw [WideShapes.add_plain]
  simp at hj
  rcases (by omega : j = 0 ∨ j = 1) with rfl | rfl
  ·simp at hu; subst hu; simp
  ·simp at hu; subst hu; simp
 ·intro u hu; simp at hu; rcases hu with rfl | rfl <;> rfl
 ·intro v' w' hown' hg _
  refine h v' w' ?_ ?_ ?_ ?_
  ·unfold OwnS
   rw [flatS_append]
   simpa [flatS] using hown'
  ·exact (hbw.alloc hsz _).grown hg (by simp; omega) (fun k hk => (hown.lt k hk).1)
  ·intro b off hb hne
   rw [World.cell?_of_block (w := W.alloc (.cells #[.int .i64 z1, .int .i64 z2] 41)) (hg.block b (by simp; omega) (fun e => hne e.symm))]
   exact World.cell?_alloc_past _ _ _ hb
  ·have := hg.size; simp at this; omega

theorem OwnI.form {w : World} {B : Nat} {v : Value} {l : List Int} (h : OwnI w B v l) : ∃ a c, v = .slice a l.length c ∧ (∀ i, i < l.length → ∃ g, a = some ⟨g, 0, none⟩ ∧ g < w.heap.size ∧ w.cell? ⟨g, i, none⟩ = some (.int .i64 (l.getD i 0))) := by
 have h' := h
 have hlt := h.lt
 rcases h.2 with ⟨rfl, h0⟩ | ⟨g, cap, cur, rfl, _⟩
 ·exact ⟨none, 0, by rw [h0], fun i hi => by omega⟩
 ·refine ⟨some ⟨g, 0, none⟩, cap, rfl, fun i hi => ⟨g, rfl, (hlt g rfl).2, ?_⟩⟩
  rw [World.ownsRow.cellAt h' i (by omega)]
  simp [flatI, List.getD_eq_getElem?_getD, List.getElem?_eq_getElem hi]
theorem OwnS.form {w : World} {B : Nat} {v : Value} {l : List Sp} (h : OwnS w B v l) : ∃ a c, v = .slice a l.length c ∧ (∀ i, i < l.length → ∃ g, a = some ⟨g, 0, none⟩ ∧ g < w.heap.size ∧ w.cell? ⟨g, i * 2, none⟩ = some (.int .i64 (l.getD i (0, 0)).1) ∧ w.cell? ⟨g, i * 2 + 1, none⟩ = some (.int .i64 (l.getD i (0, 0)).2)) := by
 have h' := h
 have hlt := h.lt
 rcases h.2 with ⟨rfl, h0⟩ | ⟨g, cap, cur, rfl, _⟩
 ·exact ⟨none, 0, by rw [h0], fun i hi => by omega⟩
 ·refine ⟨some ⟨g, 0, none⟩, cap, rfl, fun i hi => ⟨g, rfl, (hlt g rfl).2, ?_, ?_⟩⟩
  ·rw [World.ownsRow.cellAt h' (i * 2) (by omega)]
   exact (flatS_get l i hi).1
  ·rw [World.ownsRow.cellAt h' (i * 2 + 1) (by omega)]
   exact (flatS_get l i hi).2

def ClPost (l : List Sp) (w : World) (e : Ending) (w' : World) : Prop := ∃ v', e = .returned v' ∧ OwnS w' w.heap.size v' l ∧ Below w.heap.size w w'

set_option maxRecDepth 100000 in
set_option maxHeartbeats 400000 in
theorem clone_any (v : Value) (l : List Sp) (w : World) (h : RdS w v l) :
  Calls Tryz.prog 65 #[v] w (ClPost l w) := by
 have HR := Lib.hid h
 obtain ⟨a, c, rfl, hl, hc⟩ := h
 have qT : ∀ (w : World) (a : Option Addr) (n c n' c' : Nat), (binOp .eql 22 (.slice a n c) (.slice none n' c')).run Tryz.prog w = .ok (.bool a.isNone) w := fun w a n c n' c' => Lib.run_eql_slice_nil w _ _ a n c n' c' Tryz.underlying22
 obtain ⟨i0, hi, hz0, hz1, hz2⟩ := info_parts Tryz.infoSpan
 cases a with
 | none =>
  have h0 : l = [] := by
   cases l with
   | nil => rfl
   | cons s r => obtain ⟨b, o, e, _⟩ := hc 0 (by simp); cases e
  subst h0
  clear hc
  go_enter Tryz.func65, Tryz.ntmps65
  go_wp2
  go_ret
  exact ⟨_, rfl, World.ownsRow_nil _ _ _ _, Below.refl _ _⟩
 | some ad =>
  have HL := Lib.hid hl
  have H0 := Lib.hid (World.ownsRow_made (base := w.heap.size) (e := 41) (size := 2) w #[] 0 (Nat.le_refl _) (Nat.zero_le _) rfl)
  have hrd := HR.out.below (w' := w.alloc (.cells #[] 41)) (Nat.le_refl _) ((Below.refl _ w).alloc (Nat.le_refl _) _)
  have HC : ∃ b o, l.length = l.length ∧ (0 < l.length → ad = ⟨b, o, none⟩) := by
   by_cases h0 : 0 < l.length
   ·obtain ⟨b, o, e, _⟩ := hc 0 h0
    cases e
    exact ⟨b, o, rfl, fun _ => rfl⟩
   ·exact ⟨0, 0, rfl, fun h => absurd h h0⟩
  have HN : Hid (∀ j u, (flatS l)[j]? = some u → (w.alloc (.cells #[] 41)).cell? (ad.add j) = some u) := by
   intro j u hu
   obtain ⟨b, o, _, hb⟩ := HC
   have hj := (List.getElem?_eq_some_iff.1 hu).1
   rw [flatS_length] at hj
   have e := hb (by omega)
   subst e
   exact hrd.cells.2 j u hu
  clear hc hl HC hrd
  have HZ := Lib.hid (And.intro hi (And.intro hz0 (And.intro hz1 hz2)))
  clear hi hz0 hz1 hz2
  go_enter Tryz.func65, Tryz.ntmps65
  go_wp2_with (at_builtin; refine wpList_append_own _ rfl _ _ 22 rfl w.heap.size 41 i0 (.agg #[.int .i64 0, .int .i64 0]) 2 16 Tryz.underlying22 HZ.out.1 HZ.out.2.1 HZ.out.2.2.1 HZ.out.2.2.2 rfl (by decide) _ 0 [] rfl H0.out ad l.length c (flatS l) rfl (flatS_length l) HN.out (flatS_oneCell l) (by have := HL.out; unfold maxLen; omega) (by have := HL.out; omega) (by simp) ?_; intro v' w1 hown hgrow _; simp only [Nat.zero_add, List.nil_append] at hown; have HO := Lib.hid hown; have HG := Lib.hid hgrow; clear hown hgrow)
  go_ret
  exact ⟨v', rfl, HO.out, ((Below.refl _ w).alloc (Nat.le_refl _) _).grown HG.out (by simp) (fun k hk => by cases hk; exact Nat.le_refl _)⟩
end Go.Proofs.YtmfdnbfjdhlonaaGreatDoor
namespace Go.Proofs.YtmfdnbfjdhlonaaGreatDoor
open Go.RowKit Wk

set_option maxHeartbeats 400000 in
theorem line_any (x : Int) (w : World) :
  Calls Tryz.prog 112 #[.int .i64 x] w fun e w' => e = .returned (.bool (lineB x)) ∧ w = w' := by
 go_enter Tryz.func112, Tryz.ntmps112
 go_wp2
 all_goals go_ret
 all_goals exact ⟨ret_bool (by rw [Bool.eq_iff_iff]; simp [lineB]; omega), rfl⟩

set_option maxHeartbeats 400000 in
theorem ivalid_any (x y : Int) (w : World) :
  Calls Tryz.prog 72 #[.agg #[.int .i64 x, .int .i64 y]] w fun e w' => e = .returned (.bool (ivB (x, y))) ∧ Below w.heap.size w w' := by
 go_enter Tryz.func72, Tryz.ntmps72
 go_wp2_with (go_at_call 112; refine (line_any _ _).mono ?_; rintro e w' ⟨rfl, rfl⟩)
 all_goals go_ret
 all_goals exact ⟨ret_bool (by simp [ivB, *]), (Below.refl _ _).alloc (Nat.le_refl _) _⟩

set_option maxHeartbeats 400000 in
theorem rvalid_any (v : Value) (l : List Sp) (w : World) (h : RdS w v l) :
  Calls Tryz.prog 81 #[v] w fun e w' => e = .returned (.bool (rvB l)) ∧ Below w.heap.size w w' := by
 obtain ⟨a, c, rfl, hl, hc⟩ := h
 go_enter Tryz.func81, Tryz.ntmps81
 by_cases h2 : l.length ≤ 2000
 ·go_wp2_with fail
  go_loopw [10] (fun i wr => ∃ k : Nat, k ≤ l.length ∧ i = .int .i64 k ∧ Below w.heap.size w wr ∧ (∀ j, j < k → okAt l j = true)) (fun i _ => l.length - (intOf i).toNat)
  case atStart => exact ⟨0, Nat.zero_le _, rfl, Below.refl _ _, fun j hj => by omega⟩
  case round =>
   obtain ⟨k, hk, rfl, hB, hok⟩ := hrel
   have HOK := Lib.hid hok
   clear hok
   by_cases hlt : k < l.length
   ·obtain ⟨b, o, rfl, c1, c2⟩ := hc k hlt
    have hbw : b < w.heap.size := World.block_lt_of_cell? w _ c1
    obtain ⟨x, hx⟩ : ∃ x, (l.getD k (0, 0)).1 = x := ⟨_, rfl⟩
    obtain ⟨y, hy⟩ : ∃ y, (l.getD k (0, 0)).2 = y := ⟨_, rfl⟩
    rw [hx] at c1
    rw [hy] at c2
    have hxy : l.getD k (0, 0) = (x, y) := by rw [← hx, ← hy]
    have HXY := Lib.hid hxy
    clear hx hy hxy
    have d1 := (hB.cell (p := ⟨b, o + k * 2, none⟩) hbw).trans c1
    have d2 := (hB.cell (p := ⟨b, o + k * 2 + 1, none⟩) hbw).trans c2
    clear c1 c2
    have hsz := hB.size
    have HOUT := Lib.hid hc
    have hprev : 0 < k → wr.cell? ⟨b, o + (k - 1) * 2 + 1, none⟩ = some (.int .i64 (l.getD (k - 1) (0, 0)).2) := fun h0 => by
     obtain ⟨b', o', e, _, e2⟩ := hc (k - 1) (by omega)
     cases e
     exact (hB.cell (p := ⟨b, o + (k - 1) * 2 + 1, none⟩) hbw).trans e2
    clear hc
    obtain ⟨z, hz⟩ : ∃ z, (l.getD (k - 1) (0, 0)).2 = z := ⟨_, rfl⟩
    rw [hz] at hprev
    have HZ := Lib.hid hz
    clear hz
    have e1 : ∀ X, (extOf (wr.alloc (.cells #[.int .i64 x, .int .i64 y] 41)) X).cell? ⟨wr.heap.size, 0, none⟩ = some (.int .i64 x) := ext_cell (by simp [go_sem])
    have e2 : ∀ X, (extOf (wr.alloc (.cells #[.int .i64 x, .int .i64 y] 41)) X).cell? ⟨wr.heap.size, 1, none⟩ = some (.int .i64 y) := ext_cell (by simp [go_sem])
    by_cases hiv : ivB (x, y) = true
    ·by_cases hk0 : 0 < k
     ·have d3 := hprev hk0
      clear hprev
      have e3 : ∀ X, (extOf (wr.alloc (.cells #[.int .i64 x, .int .i64 y] 41)) X).cell? ⟨b, o + (k - 1) * 2 + 1, none⟩ = some (.int .i64 z) := ext_cell ((World.cell?_alloc_past _ _ _ (by omega)).trans d3)
      have g0 : decide ((0 : Int) < (k : Int)) = true := by simp; omega
      go_wp2_with fail
      refine wp_region_ext (by kernel_rfl) (by kernel_rfl) ?_
      repeat (go_big_quiet_step ((go_at_call 72; refine calls_ext (ivalid_any _ _ _))))
      refine wpQuiet_nil ?_
      intro w1 hb1
      have hBn : Below w.heap.size w w1 := (hB.alloc hsz _).trans (hb1.mono (by simp; omega))
      clear e1 e2
      go_wp2
      ·go_ret
       exact ⟨ret_bool (rvB_false_of hlt (okAt_bad HXY.out (Or.inr ⟨hk0, by rw [HZ.out]; assumption⟩))).symm, hBn⟩
      ·go_roundw
       case rel => exact ⟨k + 1, by omega, by go_num, hBn, fun j hj => by
        rcases Nat.lt_succ_iff_lt_or_eq.1 hj with h | rfl
        ·exact HOK.out j h
        ·exact okAt_mk HXY.out hiv (Or.inr (by rw [HZ.out]; assumption))⟩
       case measure => simp [intOf]; omega
     ·clear hprev
      have g0 : decide ((0 : Int) < (k : Int)) = false := by simp; omega
      go_wp2_with fail
      refine wp_region_ext (by kernel_rfl) (by kernel_rfl) ?_
      repeat (go_big_quiet_step ((go_at_call 72; refine calls_ext (ivalid_any _ _ _))))
      refine wpQuiet_nil ?_
      intro w1 hb1
      have hBn : Below w.heap.size w w1 := (hB.alloc hsz _).trans (hb1.mono (by simp; omega))
      clear e1 e2
      go_wp2
      go_roundw
      case rel => exact ⟨k + 1, by omega, by go_num, hBn, fun j hj => by
       rcases Nat.lt_succ_iff_lt_or_eq.1 hj with h | rfl
       ·exact HOK.out j h
       ·exact okAt_mk HXY.out hiv (Or.inl (by omega))⟩
      case measure => simp [intOf]; omega
    ·clear hprev
     have hiv : ivB (x, y) = false := by simpa using hiv
     go_wp2_with fail
     refine wp_region_ext (by kernel_rfl) (by kernel_rfl) ?_
     repeat (go_big_quiet_step ((go_at_call 72; refine calls_ext (ivalid_any _ _ _))))
     refine wpQuiet_nil ?_
     intro w1 hb1
     have hBn : Below w.heap.size w w1 := (hB.alloc hsz _).trans (hb1.mono (by simp; omega))
     clear e1 e2
     go_wp2
     go_ret
     exact ⟨ret_bool (rvB_false_of hlt (okAt_bad HXY.out (Or.inl hiv))).symm, hBn⟩
   ·clear hc
    go_wp2
    go_ret
    exact ⟨ret_bool (by symm; rw [rvB_iff]; exact ⟨h2, fun i hi => HOK.out i (by omega)⟩), hB⟩
 ·go_wp2
  go_ret
  exact ⟨ret_bool (by simp [rvB, h2]), Below.refl _ _⟩

end Go.Proofs.YtmfdnbfjdhlonaaGreatDoor
namespace Go.Proofs.YtmfdnbfjdhlonaaGreatDoor
open Go.RowKit Wk

def SrPost (l : List Sp) (x : Int) (w : World) (e : Ending) (w' : World) : Prop := ∃ i : Nat, IsSrch l x i ∧ e = .returned (.tuple #[.int .i64 i, .bool false]) ∧ Below w.heap.size w w'

set_option maxHeartbeats 400000 in
theorem cl_runs (s1 s2 x : Int) (w : World) :
  Calls Tryz.prog 261 #[.agg #[.int .i64 s1, .int .i64 s2], .int .i64 x] w fun e w' => e = .returned (.int .i64 (if s2 ≤ x then -1 else 1)) ∧ Below w.heap.size w w' := by
 by_cases h : s2 ≤ x
 ·rw [if_pos h]
  go_enter Tryz.func261, Tryz.ntmps261
  go_wp2
  go_ret
  exact ⟨rfl, (Below.refl _ _).alloc (Nat.le_refl _) _⟩
 ·rw [if_neg h]
  go_enter Tryz.func261, Tryz.ntmps261
  go_wp2
  go_ret
  exact ⟨rfl, (Below.refl _ _).alloc (Nat.le_refl _) _⟩

set_option maxHeartbeats 800000 in
theorem bs_runs (v : Value) (l : List Sp) (x : Int) (w : World) (h : RdS w v l) (hcan : Canon l) :
  Calls Tryz.prog 255 #[v, .int .i64 x, .func (.func 261) #[] #[]] w (SrPost l x w) := by
 obtain ⟨a, c, rfl, hl, hc⟩ := h
 go_enter Tryz.func255, Tryz.ntmps255
 go_wp2_with fail
 go_loopw [9, 10] (fun i j wr => ∃ p q : Nat, i = .int .i64 p ∧ j = .int .i64 q ∧ p ≤ q ∧ q ≤ l.length ∧ Hid ((∀ t, t < p → (l.getD t (0, 0)).2 ≤ x) ∧ (∀ t, q ≤ t → t < l.length → x < (l.getD t (0, 0)).2)) ∧ Below w.heap.size w wr) (fun i j _ => (intOf j).toNat - (intOf i).toNat)
 case atStart => exact ⟨0, l.length, rfl, rfl, Nat.zero_le _, Nat.le_refl _, ⟨fun t ht => by omega, fun t h1 h2 => by omega⟩, Below.refl _ _⟩
 case round =>
  obtain ⟨p, q, rfl, rfl, hpq, hql, HI, hB⟩ := hrel
  by_cases hlt : p < q
  ·obtain ⟨b, o, y, z, rfl, hbw, HXY, d1, d2⟩ := rd_at (k := (p + q) / 2) hc hB (by omega)
   have HC := Lib.hid hc
   clear hc
   have hsz := hB.size
   by_cases hzx : z ≤ x
   ·have HI' : Hid ((∀ t, t < (p + q) / 2 + 1 → (l.getD t (0, 0)).2 ≤ x) ∧ (∀ t, q ≤ t → t < l.length → x < (l.getD t (0, 0)).2)) := by
     refine ⟨fun t ht => ?_, HI.out.2⟩
     rcases Nat.lt_succ_iff_lt_or_eq.1 ht with h | rfl
     ·have := (canon_lt hcan h (by omega)).2
      rw [HXY.out] at this
      simp only at this
      omega
     ·rw [HXY.out]; exact hzx
    go_wp2_with (go_at_call 261; refine (cl_runs y z x _).mono ?_; rw [if_pos hzx]; rintro e w1 ⟨rfl, hb1⟩)
    have hBn := hB.trans (hb1.mono hsz)
    go_roundw
    case rel => exact ⟨(p + q) / 2 + 1, q, by go_num, rfl, by omega, hql, HI', hBn⟩
    case measure => simp [intOf]; omega
   ·have HI' : Hid ((∀ t, t < p → (l.getD t (0, 0)).2 ≤ x) ∧ (∀ t, (p + q) / 2 ≤ t → t < l.length → x < (l.getD t (0, 0)).2)) := by
     refine ⟨HI.out.1, fun t h1 h2 => ?_⟩
     rcases Nat.lt_or_eq_of_le h1 with h | h
     ·have := (canon_lt hcan h h2).2
      rw [HXY.out] at this
      simp only at this
      omega
     ·rw [← h, HXY.out]; simp only; omega
    go_wp2_with (go_at_call 261; refine (cl_runs y z x _).mono ?_; rw [if_neg hzx]; rintro e w1 ⟨rfl, hb1⟩)
    have hBn := hB.trans (hb1.mono hsz)
    go_roundw
    case rel => exact ⟨p, (p + q) / 2, rfl, by go_num, by omega, by omega, HI', hBn⟩
    case measure => simp [intOf]; omega
  ·obtain rfl : q = p := by omega
   have HS : Hid (IsSrch l x q) := ⟨by omega, HI.out.1, fun h => HI.out.2 q (Nat.le_refl _) h⟩
   have hsz := hB.size
   by_cases hlt2 : q < l.length
   ·obtain ⟨b, o, y, z, rfl, hbw, HXY, d1, d2⟩ := rd_at (k := q) hc hB (by omega)
    clear hc
    have hzx : ¬ z ≤ x := by
     have := HS.out.2.2 hlt2
     rw [HXY.out] at this
     simp only at this
     omega
    go_wp2_with (go_at_call 261; refine (cl_runs y z x _).mono ?_; rw [if_neg hzx]; rintro e w1 ⟨rfl, hb1⟩)
    go_ret2
    exact ⟨q, HS.out, rfl, hB.trans (hb1.mono hsz)⟩
   ·clear hc
    go_wp2
    go_ret2
    exact ⟨q, HS.out, rfl, hB⟩
set_option maxHeartbeats 400000 in
theorem cl_per (s1 s2 x : Int) (w : World) :
  Calls Tryz.prog 256 #[.agg #[.int .i64 s1, .int .i64 s2], .int .i64 x] w fun e w' => e = .returned (.int .i64 (if s2 ≤ x then -1 else 1)) ∧ Below w.heap.size w w' := by
 by_cases h : s2 ≤ x
 ·rw [if_pos h]
  go_enter Tryz.func256, Tryz.ntmps256
  go_wp2
  go_ret
  exact ⟨rfl, (Below.refl _ _).alloc (Nat.le_refl _) _⟩
 ·rw [if_neg h]
  go_enter Tryz.func256, Tryz.ntmps256
  go_wp2
  go_ret
  exact ⟨rfl, (Below.refl _ _).alloc (Nat.le_refl _) _⟩

set_option maxHeartbeats 800000 in
theorem bs_per (v : Value) (l : List Sp) (x : Int) (w : World) (h : RdS w v l) (hcan : Canon l) :
  Calls Tryz.prog 255 #[v, .int .i64 x, .func (.func 256) #[] #[]] w (SrPost l x w) := by
 obtain ⟨a, c, rfl, hl, hc⟩ := h
 go_enter Tryz.func255, Tryz.ntmps255
 go_wp2_with fail
 go_loopw [9, 10] (fun i j wr => ∃ p q : Nat, i = .int .i64 p ∧ j = .int .i64 q ∧ p ≤ q ∧ q ≤ l.length ∧ Hid ((∀ t, t < p → (l.getD t (0, 0)).2 ≤ x) ∧ (∀ t, q ≤ t → t < l.length → x < (l.getD t (0, 0)).2)) ∧ Below w.heap.size w wr) (fun i j _ => (intOf j).toNat - (intOf i).toNat)
 case atStart => exact ⟨0, l.length, rfl, rfl, Nat.zero_le _, Nat.le_refl _, ⟨fun t ht => by omega, fun t h1 h2 => by omega⟩, Below.refl _ _⟩
 case round =>
  obtain ⟨p, q, rfl, rfl, hpq, hql, HI, hB⟩ := hrel
  by_cases hlt : p < q
  ·obtain ⟨b, o, y, z, rfl, hbw, HXY, d1, d2⟩ := rd_at (k := (p + q) / 2) hc hB (by omega)
   have HC := Lib.hid hc
   clear hc
   have hsz := hB.size
   by_cases hzx : z ≤ x
   ·have HI' : Hid ((∀ t, t < (p + q) / 2 + 1 → (l.getD t (0, 0)).2 ≤ x) ∧ (∀ t, q ≤ t → t < l.length → x < (l.getD t (0, 0)).2)) := by
     refine ⟨fun t ht => ?_, HI.out.2⟩
     rcases Nat.lt_succ_iff_lt_or_eq.1 ht with h | rfl
     ·have := (canon_lt hcan h (by omega)).2
      rw [HXY.out] at this
      simp only at this
      omega
     ·rw [HXY.out]; exact hzx
    go_wp2_with (go_at_call 256; refine (cl_per y z x _).mono ?_; rw [if_pos hzx]; rintro e w1 ⟨rfl, hb1⟩)
    have hBn := hB.trans (hb1.mono hsz)
    go_roundw
    case rel => exact ⟨(p + q) / 2 + 1, q, by go_num, rfl, by omega, hql, HI', hBn⟩
    case measure => simp [intOf]; omega
   ·have HI' : Hid ((∀ t, t < p → (l.getD t (0, 0)).2 ≤ x) ∧ (∀ t, (p + q) / 2 ≤ t → t < l.length → x < (l.getD t (0, 0)).2)) := by
     refine ⟨HI.out.1, fun t h1 h2 => ?_⟩
     rcases Nat.lt_or_eq_of_le h1 with h | h
     ·have := (canon_lt hcan h h2).2
      rw [HXY.out] at this
      simp only at this
      omega
     ·rw [← h, HXY.out]; simp only; omega
    go_wp2_with (go_at_call 256; refine (cl_per y z x _).mono ?_; rw [if_neg hzx]; rintro e w1 ⟨rfl, hb1⟩)
    have hBn := hB.trans (hb1.mono hsz)
    go_roundw
    case rel => exact ⟨p, (p + q) / 2, rfl, by go_num, by omega, by omega, HI', hBn⟩
    case measure => simp [intOf]; omega
  ·obtain rfl : q = p := by omega
   have HS : Hid (IsSrch l x q) := ⟨by omega, HI.out.1, fun h => HI.out.2 q (Nat.le_refl _) h⟩
   have hsz := hB.size
   by_cases hlt2 : q < l.length
   ·obtain ⟨b, o, y, z, rfl, hbw, HXY, d1, d2⟩ := rd_at (k := q) hc hB (by omega)
    clear hc
    have hzx : ¬ z ≤ x := by
     have := HS.out.2.2 hlt2
     rw [HXY.out] at this
     simp only at this
     omega
    go_wp2_with (go_at_call 256; refine (cl_per y z x _).mono ?_; rw [if_neg hzx]; rintro e w1 ⟨rfl, hb1⟩)
    go_ret2
    exact ⟨q, HS.out, rfl, hB.trans (hb1.mono hsz)⟩
   ·clear hc
    go_wp2
    go_ret2
    exact ⟨q, HS.out, rfl, hB⟩

def SePost (l : List Sp) (x : Int) (w : World) (e : Ending) (w' : World) : Prop := ∃ i : Nat, IsSrch l x i ∧ e = .returned (.int .i64 i) ∧ Below w.heap.size w w'

set_option maxHeartbeats 400000 in
theorem rsearch_any (v : Value) (l : List Sp) (x : Int) (w : World) (h : RdS w v l) (hcan : Canon l) :
  Calls Tryz.prog 260 #[v, .int .i64 x] w (SePost l x w) := by
 have H := Lib.hid (bs_runs v l x w h hcan)
 clear h
 go_enter Tryz.func260, Tryz.ntmps260
 go_wp2_with (go_at_call 255; refine (H.out).mono ?_; rintro e w1 ⟨i, hi, rfl, hb1⟩)
 go_ret
 exact ⟨i, hi, rfl, hb1⟩

set_option maxHeartbeats 400000 in
theorem rhas_any (v : Value) (l : List Sp) (x : Int) (w : World) (h : RdS w v l) (hv : rvB l = true) :
  Calls Tryz.prog 259 #[v, .int .i64 x] w fun e w' => e = .returned (.bool (inL l x)) ∧ Below w.heap.size w w' := by
 have H := Lib.hid (rvalid_any v l w h)
 have hcan := (canon_of_rvB hv).1
 have HS := Lib.hid (fun w' => rsearch_any v l x w' (hcan := hcan))
 have HR := Lib.hid h
 have HV := Lib.hid hv
 obtain ⟨a, c, rfl, hl, hc⟩ := h
 clear hv
 go_enter Tryz.func259, Tryz.ntmps259
 go_wp2_with fail
 refine H.out.mono ?_
 rintro e w1 ⟨rfl, hb1⟩
 rw [HV.out]
 go_wp2_with fail
 refine (HS.out _ (HR.out.below (Nat.le_refl _) hb1)).mono ?_
 rintro e w2 ⟨i, hi, rfl, hb2⟩
 have hB := hb1.trans (hb2.mono hb1.size)
 have HI := Lib.hid (inL_srch hcan hi)
 have HW := Lib.hid hi
 by_cases hlt : i < l.length
 ·obtain ⟨b, o, y, z, rfl, hbw, HXY, d1, d2⟩ := rd_at (k := i) hc hB hlt
  clear hc hi
  go_wp2
  go_ret
  exact ⟨ret_bool (by rw [HI.out, HXY.out]; simp [hlt]), hB⟩
 ·clear hc hi
  go_wp2
  go_ret
  exact ⟨ret_bool (by rw [HI.out]; simp [hlt]), hB⟩
end Go.Proofs.YtmfdnbfjdhlonaaGreatDoor
namespace Go.Proofs.YtmfdnbfjdhlonaaGreatDoor
open Go.RowKit Wk

theorem span_guard : Tryz.prog.eqGuardType Tryz.prog.depth 41 = false := by kernel_rfl
theorem span_neq (x y x' y' : Int) (w : World) : (binOp .neq 41 (.agg #[.int .i64 x, .int .i64 y]) (.agg #[.int .i64 x', .int .i64 y'])).run Tryz.prog w = .ok (.bool (!(x == x' && y == y'))) w := by
 have u3 := Tryz.underlying3
 have a3 := Tryz.isAgg3
 have z3 := Tryz.sizeOf3
 have hS : Tryz.prog.underlying 41 = some (.struct (Tryz.prog.fieldsOf 41)) := by kernel_rfl
 have hp : Tryz.prog.stoodInHeld 41 = false := by kernel_rfl
 rw [run_neq_struct, show (10000 : Nat) = 9999 + 1 from rfl, run_equalIn_agg w 9999 41 _ _ hS hp]
 simp only [Program.fieldsOf, Tryz.underlying41]
 go_simp
 by_cases h1 : x = x' <;> by_cases h2 : y = y' <;> simp [h1, h2]
theorem list_eq_of_getD {a b : List Sp} (hl : a.length = b.length) (h : ∀ j, j < a.length → a.getD j (0, 0) = b.getD j (0, 0)) : a = b := by
 apply List.ext_getElem hl
 intro i h1 h2
 have := h i h1
 simpa [List.getD_eq_getElem?_getD, List.getElem?_eq_getElem h1, List.getElem?_eq_getElem h2] using this

set_option maxHeartbeats 800000 in
theorem seq_any (v1 v2 : Value) (l1 l2 : List Sp) (w : World) (h1 : RdS w v1 l1) (h2 : RdS w v2 l2) :
  Calls Tryz.prog 58 #[v1, v2] w fun e w' => e = .returned (.bool (decide (l1 = l2))) ∧ Below w.heap.size w w' := by
 obtain ⟨a1, c1, rfl, hl1, hc1⟩ := h1
 obtain ⟨a2, c2, rfl, hl2, hc2⟩ := h2
 by_cases hn : l1.length = l2.length
 ·have HN := Lib.hid hn
  have g0 : (((l1.length : Int)) == (l2.length : Int)) = true := by simp; omega
  have g1 : (((l1.length : Int)) != (l2.length : Int)) = false := by simp; omega
  have hle : l1.length ≤ l2.length := by omega
  clear hn
  go_enter Tryz.func58, Tryz.ntmps58
  go_wp2_with fail
  go_loopw [13] (fun i wr => ∃ k : Nat, k ≤ l1.length ∧ i = .int .i64 k ∧ Hid (∀ j, j < k → l1.getD j (0, 0) = l2.getD j (0, 0)) ∧ Below w.heap.size w wr) (fun i _ => l1.length - (intOf i).toNat)
  case atStart => exact ⟨0, Nat.zero_le _, rfl, fun j hj => by omega, Below.refl _ _⟩
  case round =>
   obtain ⟨k, hk, rfl, HK, hB⟩ := hrel
   by_cases hlt : k < l1.length
   ·obtain ⟨b, o, x, y, rfl, hbw, HXY, d1, d2⟩ := rd_at hc1 hB hlt
    obtain ⟨b', o', x', y', rfl, hbw', HXY', d1', d2'⟩ := rd_at (k := k) hc2 hB (by omega)
    clear hc1 hc2
    have e1 := ext_cell d1
    have e2 := ext_cell d2
    have e1' := ext_cell d1'
    have e2' := ext_cell d2'
    have hsz := hB.size
    have hlt2 : k < l2.length := by omega
    have hg := span_guard
    have hq := span_neq x y x' y'
    by_cases he : (x == x' && y == y') = true
    ·go_wp2_with fail
     refine wp_region_ext (by kernel_rfl) (by kernel_rfl) ?_
     repeat (go_big_quiet_step (fail))
     refine wpQuiet_nil ?_
     intro w1 hb1
     have hBn := hB.trans (hb1.mono hsz)
     go_wp2
     go_roundw
     case rel => exact ⟨k + 1, by omega, by go_num, (fun j hj => by
      rcases Nat.lt_succ_iff_lt_or_eq.1 hj with h | rfl
      ·exact HK.out j h
      ·rw [HXY.out, HXY'.out]; simp at he; rw [he.1, he.2]), hBn⟩
     case measure => simp [intOf]; omega
    ·have he' : (x == x' && y == y') = false := by simpa using he
     clear he
     go_wp2_with fail
     refine wp_region_ext (by kernel_rfl) (by kernel_rfl) ?_
     repeat (go_big_quiet_step (fail))
     refine wpQuiet_nil ?_
     intro w1 hb1
     have hBn := hB.trans (hb1.mono hsz)
     go_wp2
     go_ret
     refine ⟨ret_bool ?_, hBn⟩
     symm
     rw [decide_eq_false_iff_not]
     intro e
     have h1 := HXY.out
     have h2 := HXY'.out
     rw [e] at h1
     rw [h1] at h2
     simp at h2 he'
     exact he' h2.1 h2.2
   ·clear hc1 hc2
    go_wp2
    go_ret
    exact ⟨ret_bool (by symm; rw [decide_eq_true_iff]; exact list_eq_of_getD HN.out (fun j hj => HK.out j (by omega))), hB⟩
 ·have HN := Lib.hid hn
  have g0 : (((l1.length : Int)) == (l2.length : Int)) = false := by simp; omega
  have g1 : (((l1.length : Int)) != (l2.length : Int)) = true := by simp; omega
  clear hn
  go_enter Tryz.func58, Tryz.ntmps58
  go_wp2
  go_ret
  exact ⟨ret_bool (by symm; rw [decide_eq_false_iff_not]; intro e; exact HN.out (by rw [e])), Below.refl _ _⟩

set_option maxHeartbeats 400000 in
theorem requal_any (v1 v2 : Value) (l1 l2 : List Sp) (w : World) (h1 : RdS w v1 l1) (h2 : RdS w v2 l2) :
  Calls Tryz.prog 128 #[v1, v2] w fun e w' => e = .returned (.bool ((rvB l1 && rvB l2) && decide (l1 = l2))) ∧ Below w.heap.size w w' := by
 have H1 := Lib.hid (rvalid_any v1 l1)
 have H2 := Lib.hid (rvalid_any v2 l2)
 have H3 := Lib.hid (seq_any v1 v2 l1 l2)
 have R1 := Lib.hid h1
 have R2 := Lib.hid h2
 clear h1 h2
 generalize hb1 : rvB l1 = b1 at *
 generalize hb2 : rvB l2 = b2 at *
 clear hb1 hb2
 go_enter Tryz.func128, Tryz.ntmps128
 go_wp2_with fail
 refine (H1.out _ R1.out).mono ?_
 rintro e w1 ⟨rfl, hb1⟩
 cases b1 with
 | false =>
  go_wp2
  go_ret
  exact ⟨rfl, hb1⟩
 | true =>
  go_wp2_with fail
  refine (H2.out _ (R2.out.below (Nat.le_refl _) hb1)).mono ?_
  rintro e w2 ⟨rfl, hb2⟩
  have hB := hb1.trans (hb2.mono hb1.size)
  cases b2 with
  | false =>
   go_wp2
   go_ret
   exact ⟨rfl, hB⟩
  | true =>
   go_wp2_with fail
   refine (H3.out _ (R1.out.below (Nat.le_refl _) hB) (R2.out.below (Nat.le_refl _) hB)).mono ?_
   rintro e w3 ⟨rfl, hb3⟩
   go_wp2
   go_ret
   exact ⟨by simp, hB.trans (hb3.mono hB.size)⟩
end Go.Proofs.YtmfdnbfjdhlonaaGreatDoor
namespace Go.Proofs.YtmfdnbfjdhlonaaGreatDoor
open Go.RowKit Wk

theorem tdiv_neg {a b : Int} (ha : a < 0) (hb : 1 ≤ b) : (a.tmod b = 0 ∧ a.tdiv b = a / b ∧ a % b = 0) ∨ (a.tmod b < 0 ∧ a.tdiv b - 1 = a / b ∧ a.tmod b + b = a % b) := by
 have h1 := Int.mul_tdiv_add_tmod a b
 have h2 := Int.lt_tmod_of_pos a (b := b) (by omega)
 have h3 : a.tmod b ≤ 0 := by
  have e := Int.neg_tmod (-a) b
  rw [Int.neg_neg] at e
  have := Int.tmod_nonneg b (a := -a) (by omega)
  omega
 have hc : b * a.tdiv b = a.tdiv b * b := Int.mul_comm _ _
 have hm := Int.mul_ediv_add_emod a b
 have hc' : b * (a / b) = a / b * b := Int.mul_comm _ _
 by_cases h0 : a.tmod b = 0
 ·have e : a / b = a.tdiv b := div_uniq hb (by omega) (by omega)
  rw [e] at hm hc'
  exact Or.inl ⟨h0, e.symm, by omega⟩
 ·have hk : (a.tdiv b - 1) * b = a.tdiv b * b - b := by rw [Int.sub_mul]; omega
  have e : a / b = a.tdiv b - 1 := div_uniq hb (by omega) (by omega)
  rw [e] at hm hc'
  exact Or.inr ⟨by omega, e.symm, by omega⟩

set_option maxHeartbeats 400000 in
theorem tfloor_any (a b : Int) (w : World) (hb : 1 ≤ b) (hb2 : b ≤ 1152921504606846976) (ha1 : -1152921504606846976 ≤ a) (ha2 : a ≤ 1152921504606846976) :
  Calls Tryz.prog 240 #[.int .i64 a, .int .i64 b] w fun e w' => e = .returned (.int .i64 (a / b)) ∧ w = w' := by
 by_cases h : 0 ≤ a
 ·have hm := Int.emod_nonneg a (b := b) (by omega)
  go_enter Tryz.func240, Tryz.ntmps240
  go_wp2
  go_ret
  exact ⟨rfl, rfl⟩
 ·have hd := tdiv_neg (a := a) (b := b) (by omega) hb
  have hq := Int.natAbs_tdiv_le_natAbs a b
  have HD := Lib.hid hd
  rcases hd with ⟨h1, h2, _⟩ | ⟨h1, h2, _⟩
  ·have h1' : decide (a.tmod b < 0) = false := by simp; omega
   clear h1 h2
   go_enter Tryz.func240, Tryz.ntmps240
   go_wp2
   go_ret
   exact ⟨ret_int (by rcases HD.out with ⟨_, h, _⟩ | ⟨h, _⟩ <;> simp at h1' <;> omega), rfl⟩
  ·have h1' : decide (a.tmod b < 0) = true := by simp; omega
   clear h2
   go_enter Tryz.func240, Tryz.ntmps240
   go_wp2
   go_ret
   exact ⟨ret_int (by rcases HD.out with ⟨h, _, _⟩ | ⟨_, h, _⟩ <;> omega), rfl⟩
set_option maxHeartbeats 400000 in
theorem idiv_any (a b : Int) (w : World) (hb : 1 ≤ b) (hb2 : b ≤ 1152921504606846976) (ha1 : -1152921504606846976 ≤ a) (ha2 : a ≤ 1152921504606846976) :
  Calls Tryz.prog 92 #[.int .i64 a, .int .i64 b] w fun e w' => e = .returned (.tuple #[.int .i64 (a / b), .int .i64 (a - a / b * b), .int .i64 0]) ∧ Below w.heap.size w w' := by
 have g1 : ((b == 0) : Bool) = false := by simp; omega
 have g2 : ((a == -9223372036854775808) : Bool) = false := by simp; omega
 have hc : b * (a / b) = a / b * b := Int.mul_comm _ _
 have hmm := Int.mul_ediv_add_emod a b
 have HE : Hid (a - a / b * b = a % b) := by unfold Hid; omega
 clear hc hmm
 rw [HE.out]
 by_cases h : 0 ≤ a
 ·have hm := Int.emod_nonneg a (b := b) (by omega)
  have hd := Int.ediv_nonneg h (b := b) (by omega)
  by_cases hz : a % b = 0
  ·have HZ := Lib.hid hz
   have hz' : ((a % b) == 0) = true := by simp [hz]
   have hz'' : ((a % b) != 0) = false := by simp [hz]
   clear hz
   go_enter Tryz.func92, Tryz.ntmps92
   go_wp2_with fail
   refine wp_region_ext (by kernel_rfl) (by kernel_rfl) ?_
   repeat (go_big_quiet_step (fail))
   refine wpQuiet_nil ?_
   intro w1 hb1
   go_wp2
   go_ret3
   exact ⟨rfl, hb1⟩
  ·have HZ := Lib.hid hz
   have hz' : ((a % b) == 0) = false := by simp [hz]
   have hz'' : ((a % b) != 0) = true := by simp [hz]
   have hn1 : decide (a % b < 0) = false := by simp; omega
   have hn2 : decide (b < 0) = false := by simp; omega
   clear hz
   go_enter Tryz.func92, Tryz.ntmps92
   go_wp2_with fail
   refine wp_region_ext (by kernel_rfl) (by kernel_rfl) ?_
   repeat (go_big_quiet_step (fail))
   refine wpQuiet_nil ?_
   intro w1 hb1
   go_wp2
   go_ret3
   exact ⟨rfl, hb1⟩
 ·have hd := tdiv_neg (a := a) (b := b) (by omega) hb
  have hq := Int.natAbs_tdiv_le_natAbs a b
  have HD := Lib.hid hd
  rcases hd with ⟨h1, h2, h3⟩ | ⟨h1, h2, h3⟩
  ·have hz' : ((a.tmod b) == 0) = true := by simp [h1]
   have hz'' : ((a.tmod b) != 0) = false := by simp [h1]
   have H1 := Lib.hid h1
   have H2 := Lib.hid h2
   have H3 := Lib.hid h3
   clear h1 h2 h3
   go_enter Tryz.func92, Tryz.ntmps92
   go_wp2_with fail
   refine wp_region_ext (by kernel_rfl) (by kernel_rfl) ?_
   repeat (go_big_quiet_step (fail))
   refine wpQuiet_nil ?_
   intro w1 hb1
   go_wp2
   go_ret3
   exact ⟨ret3_int (by first | exact H2.out | rfl) (by first | exact H3.out.symm | exact H1.out.trans H3.out.symm), hb1⟩
  ·have hz' : ((a.tmod b) == 0) = false := by simp; omega
   have hz'' : ((a.tmod b) != 0) = true := by simp; omega
   have hr := Int.lt_tmod_of_pos a (b := b) (by omega)
   have hn1 : decide (a.tmod b < 0) = true := by simp; omega
   have hn2 : decide (b < 0) = false := by simp; omega
   have H2 := Lib.hid h2
   have H3 := Lib.hid h3
   clear h2 h3
   go_enter Tryz.func92, Tryz.ntmps92
   go_wp2_with fail
   refine wp_region_ext (by kernel_rfl) (by kernel_rfl) ?_
   repeat (go_big_quiet_step (fail))
   refine wpQuiet_nil ?_
   intro w1 hb1
   go_wp2
   go_ret3
   exact ⟨ret3_int H2.out H3.out, hb1⟩

set_option maxHeartbeats 400000 in
theorem imod_any (a b : Int) (w : World) (hb : 1 ≤ b) (hb2 : b ≤ 1152921504606846976) (ha1 : -1152921504606846976 ≤ a) (ha2 : a ≤ 1152921504606846976) :
  Calls Tryz.prog 52 #[.int .i64 a, .int .i64 b] w fun e w' => e = .returned (.int .i64 (a - a / b * b)) ∧ Below w.heap.size w w' := by
 go_enter Tryz.func52, Tryz.ntmps52
 go_wp2_with (go_at_call 92; refine (idiv_any _ _ _ hb hb2 ha1 ha2).mono ?_; rintro e w1 ⟨rfl, hb1⟩)
 go_ret
 exact ⟨rfl, hb1⟩

end Go.Proofs.YtmfdnbfjdhlonaaGreatDoor
