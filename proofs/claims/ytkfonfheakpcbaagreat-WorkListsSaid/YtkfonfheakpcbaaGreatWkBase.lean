import Derived.Test.YtkfonfheakpcbaaGreatProg
import Derived.Test.YtkfonfheakpcbaaGreatWkPl
import Derived.WalkKit
import Derived.WalkSpells
import Derived.WalkLawsBesides
import Derived.Lib.Hide
import Derived.Deep.RegionHeld3
import Derived.Deep.QuietTactic
import Derived.BigQuiet
import Derived.StillTailTactics
import Derived.Deep.DeepCutAuto
import Derived.Deep.DeepFit
/- Base of the walks: how a slice of spans reads in memory. No conditions. -/
namespace Go.Proofs.YtkfonfheakpcbaaGreat
open Go.RowKit Wk

theorem bcell {W w1 : World} (hb : Below W.heap.size W w1) : (∀ b o, b < W.heap.size → w1.cell? ⟨b, o, none⟩ = W.cell? ⟨b, o, none⟩) ∧ (∀ b o, b < W.heap.size → w1.frozen? ⟨b, o, none⟩ = W.frozen? ⟨b, o, none⟩) :=
  ⟨fun b o h => hb.cell (p := ⟨b, o, none⟩) h, fun b o h => hb.frozen (p := ⟨b, o, none⟩) h⟩

/-- v is a slice of spans that reads as l -/
def RdS (w : World) (v : Value) (l : List Sp) : Prop :=
  ∃ a c, v = .slice a l.length c ∧ l.length ≤ 8796093022208 ∧ ∀ i, i < l.length → ∃ b o, a = some ⟨b, o, none⟩ ∧
    w.cell? ⟨b, o + i * 2, none⟩ = some (.int .i64 (l.getD i (0, 0)).1) ∧ w.cell? ⟨b, o + i * 2 + 1, none⟩ = some (.int .i64 (l.getD i (0, 0)).2)

theorem RdS.below {B : Nat} {w w' : World} {v : Value} {l : List Sp} (h : RdS w v l) (hs : w.heap.size ≤ B) (hb : Below B w w') : RdS w' v l := by
  obtain ⟨a, c, rfl, hl, hc⟩ := h
  refine ⟨a, c, rfl, hl, fun i hi => ?_⟩
  obtain ⟨b, o, rfl, h1, h2⟩ := hc i hi
  have hlt : b < w.heap.size := World.block_lt_of_cell? w ⟨b, o + i * 2, none⟩ h1
  exact ⟨b, o, rfl, (hb.cell (p := ⟨b, o + i * 2, none⟩) (by show b < B; omega)).trans h1, (hb.cell (p := ⟨b, o + i * 2 + 1, none⟩) (by show b < B; omega)).trans h2⟩

theorem keepCell {W w' : World} {a : Addr} {v : Value} (hb : Below W.heap.size W w') (h : W.cell? a = some v) : w'.cell? a = some v :=
  (hb.cell (p := a) (World.block_lt_of_cell? W a h)).trans h

theorem keepBelow {w W w' : World} (h : Below w.heap.size w W) (hb : Below W.heap.size W w') : Below w.heap.size w w' := h.trans (hb.mono h.size)
theorem keepRd {W w' : World} {v : Value} {l : List Sp} (hb : Below W.heap.size W w') (h : RdS W v l) : RdS w' v l := h.below (Nat.le_refl _) hb

/-- the worlds that hold all that W held -/
def Ext (W : World) : Type := { w' : World // Below W.heap.size W w' }
instance (W : World) : Inhabited (Ext W) := ⟨⟨W, Below.refl _ _⟩⟩
def extOf (W : World) (x : Ext W) : World := x.1
theorem extOf_below (W : World) (x : Ext W) : Below W.heap.size W (extOf W x) := x.2
theorem ext_cell {W : World} {a : Addr} {v : Value} (h : W.cell? a = some v) : ∀ x : Ext W, (extOf W x).cell? a = some v := fun x => keepCell x.2 h
theorem ext_rd {W : World} {v : Value} {l : List Sp} (h : RdS W v l) : ∀ x : Ext W, RdS (extOf W x) v l := fun x => h.below (Nat.le_refl _) x.2

theorem wp_region_ext {P : Program} {id : Nat} {Q : Exit → Act → World → Prop} {a : Act} {W : World} {l : List Oper} (hm : P.follows .mixedOrders = true) (hB : Region.lexB .any l.toArray = true)
    (h : wpQuiet P l.toArray (fun w' => ∃ x : Ext W, w' = extOf W x) (fun a' => ∀ w', Below W.heap.size W w' → Q .normal a' w') l a) : (Code.region id l.toArray true).wp P Q a W := by
  refine wp_region_quiet (C := fun w' => ∃ x : Ext W, w' = extOf W x) hm hB ⟨⟨_, (Below.refl _ W).drew⟩, rfl⟩ ?_
  have e : (fun a' => ∀ w', (∃ x : Ext W, w' = extOf W x) → Q .normal a' w') = (fun a' => ∀ w', Below W.heap.size W w' → Q .normal a' w') := by
    funext a'
    apply propext
    constructor
    · intro h w' hb; exact h w' ⟨⟨w', hb⟩, rfl⟩
    · rintro h w' ⟨x, rfl⟩; exact h _ x.2
  rw [e]
  simpa using h

theorem calls_ext {P : Program} {f : FuncId} {args : Array Value} {W : World} {x : Ext W} {v : Value}
    (h : Calls P f args (extOf W x) fun e w' => e = .returned v ∧ Below (extOf W x).heap.size (extOf W x) w') : Calls P f args (extOf W x) fun e w'' => e = .returned v ∧ ∃ y : Ext W, w'' = extOf W y :=
  h.mono fun _ w'' ⟨he, hb⟩ => ⟨he, ⟨w'', x.2.trans (hb.mono x.2.size)⟩, rfl⟩
theorem calls_ext_same {P : Program} {f : FuncId} {args : Array Value} {W : World} {x : Ext W} {v : Value}
    (h : Calls P f args (extOf W x) fun e w' => e = .returned v ∧ extOf W x = w') : Calls P f args (extOf W x) fun e w'' => e = .returned v ∧ ∃ y : Ext W, w'' = extOf W y :=
  h.mono fun _ _ ⟨he, hb⟩ => ⟨he, x, hb.symm⟩

/-- element k of a slice that came in, in a later world -/
theorem rd_at {w wr : World} {a : Option Addr} {l : List Sp} {k : Nat} (hc : ∀ i, i < l.length → ∃ b o, a = some ⟨b, o, none⟩ ∧
    w.cell? ⟨b, o + i * 2, none⟩ = some (.int .i64 (l.getD i (0, 0)).1) ∧ w.cell? ⟨b, o + i * 2 + 1, none⟩ = some (.int .i64 (l.getD i (0, 0)).2))
    (hB : Below w.heap.size w wr) (hlt : k < l.length) : ∃ b o x y, a = some ⟨b, o, none⟩ ∧ b < w.heap.size ∧ Hid (l.getD k (0, 0) = (x, y)) ∧
      wr.cell? ⟨b, o + k * 2, none⟩ = some (.int .i64 x) ∧ wr.cell? ⟨b, o + k * 2 + 1, none⟩ = some (.int .i64 y) := by
  obtain ⟨b, o, e, c1, c2⟩ := hc k hlt
  have hbw : b < w.heap.size := World.block_lt_of_cell? w _ c1
  exact ⟨b, o, _, _, e, hbw, rfl, (hB.cell (p := ⟨b, o + k * 2, none⟩) hbw).trans c1, (hB.cell (p := ⟨b, o + k * 2 + 1, none⟩) hbw).trans c2⟩

theorem ret_bool {a b : Bool} (h : a = b) : Ending.returned (.bool a) = .returned (.bool b) := by rw [h]
theorem ret2_int {k k' : IntKind} {a b : Int} {c : Int} (h : a = b) : Ending.returned (.tuple #[.int k a, .int k' c]) = .returned (.tuple #[.int k b, .int k' c]) := by rw [h]
theorem ret3_int {k k' k'' : IntKind} {a b c d e : Int} (h : a = b) (h' : c = d) : Ending.returned (.tuple #[.int k a, .int k' c, .int k'' e]) = .returned (.tuple #[.int k b, .int k' d, .int k'' e]) := by rw [h, h']
theorem ret_int {k : IntKind} {a b : Int} (h : a = b) : Ending.returned (.int k a) = .returned (.int k b) := by rw [h]
end Go.Proofs.YtkfonfheakpcbaaGreat
