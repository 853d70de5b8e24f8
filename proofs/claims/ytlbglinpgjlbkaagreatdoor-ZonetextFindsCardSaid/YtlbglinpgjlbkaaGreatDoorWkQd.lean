import Derived.Test.YtlbglinpgjlbkaaGreatDoorProg
import Derived.Test.YtlbglinpgjlbkaaGreatDoorWkPl
import Derived.WalkKit
import Derived.WalkSpells
import Derived.WalkLawsBesides
import Derived.Lib.Hide
import Derived.Deep.RegionHeld3
import Derived.Deep.QuietTactic
import Derived.BigQuiet
import Derived.StillTailTactics
import Derived.Deep.DeepCutAuto
import Derived.Deep.DeepFit
import Derived.Test.YtlbglinpgjlbkaaGreatDoorWkQa
import Derived.Test.YtlbglinpgjlbkaaGreatDoorWkQb
import Derived.Test.YtlbglinpgjlbkaaGreatDoorWkShelfT
import Derived.Lib.IndexAny
/- Base of the walks: how a slice of spans reads in memory. No conditions. -/
namespace Go.Proofs.YtlbglinpgjlbkaaGreatDoor
open Go.RowKit Wk

theorem keepCell {W w' : World} {a : Addr} {v : Value} (hb : Below W.heap.size W w') (h : W.cell? a = some v) : w'.cell? a = some v :=
 (hb.cell (p := a) (World.block_lt_of_cell? W a h)).trans h

theorem keepBelow {w W w' : World} (h : Below w.heap.size w W) (hb : Below W.heap.size W w') : Below w.heap.size w w' := h.trans (hb.mono h.size)
def Ext (W : World) : Type := { w' : World // Below W.heap.size W w' }
instance (W : World) : Inhabited (Ext W) := ⟨⟨W, Below.refl _ _⟩⟩
def extOf (W : World) (x : Ext W) : World := x.1
theorem extOf_below (W : World) (x : Ext W) : Below W.heap.size W (extOf W x) := x.2
theorem ext_cell {W : World} {a : Addr} {v : Value} (h : W.cell? a = some v) : ∀ x : Ext W, (extOf W x).cell? a = some v := fun x => keepCell x.2 h
theorem wp_region_ext {P : Program} {id : Nat} {Q : Exit → Act → World → Prop} {a : Act} {W : World} {l : List Oper} (hm : P.follows .mixedOrders = true) (hB : Region.lexB .any l.toArray = true)
  (h : wpQuiet P l.toArray (fun w' => ∃ x : Ext W, w' = extOf W x) (fun a' => ∀ w', Below W.heap.size W w' → Q .normal a' w') l a) : (Code.region id l.toArray true).wp P Q a W := by
 refine wp_region_quiet (C := fun w' => ∃ x : Ext W, w' = extOf W x) hm hB ⟨⟨_, (Below.refl _ W).drew⟩, rfl⟩ ?_
 have e : (fun a' => ∀ w', (∃ x : Ext W, w' = extOf W x) → Q .normal a' w') = (fun a' => ∀ w', Below W.heap.size W w' → Q .normal a' w') := by
  funext a'
  apply propext
  constructor
  ·intro h w' hb; exact h w' ⟨⟨w', hb⟩, rfl⟩
  ·rintro h w' ⟨x, rfl⟩; exact h _ x.2
 rw [e]
 simpa using h

theorem calls_ext {P : Program} {f : FuncId} {args : Array Value} {W : World} {x : Ext W} {v : Value}
  (h : Calls P f args (extOf W x) fun e w' => e = .returned v ∧ Below (extOf W x).heap.size (extOf W x) w') : Calls P f args (extOf W x) fun e w'' => e = .returned v ∧ ∃ y : Ext W, w'' = extOf W y :=
 h.mono fun _ w'' ⟨he, hb⟩ => ⟨he, ⟨w'', x.2.trans (hb.mono x.2.size)⟩, rfl⟩
theorem calls_ext_same {P : Program} {f : FuncId} {args : Array Value} {W : World} {x : Ext W} {v : Value}
  (h : Calls P f args (extOf W x) fun e w' => e = .returned v ∧ extOf W x = w') : Calls P f args (extOf W x) fun e w'' => e = .returned v ∧ ∃ y : Ext W, w'' = extOf W y :=
 h.mono fun _ _ ⟨he, hb⟩ => ⟨he, x, hb.symm⟩

theorem ret_bool {a b : Bool} (h : a = b) : Ending.returned (.bool a) = .returned (.bool b) := by rw [h]
end Go.Proofs.YtlbglinpgjlbkaaGreatDoor
namespace Go.Proofs.YtlbglinpgjlbkaaGreatDoor
open Go.RowKit Wk

def RdG {α : Type} (sz : Nat) (fl : α → List Value) (d : α) (w : World) (v : Value) (L : List α) : Prop :=
 ∃ a c, v = .slice a L.length c ∧ L.length ≤ 1152921504606846976 ∧ ∀ i, i < L.length → ∃ b o, a = some ⟨b, o, none⟩ ∧ ∀ j u, j < sz → (fl (L.getD i d))[j]? = some u → w.cell? ⟨b, o + i * sz + j, none⟩ = some u
theorem RdG.below {α : Type} {sz : Nat} {fl : α → List Value} {d : α} {w w' : World} {v : Value} {L : List α} (h : RdG sz fl d w v L) (hb : Below w.heap.size w w') : RdG sz fl d w' v L := by
 obtain ⟨a, c, rfl, hl, hc⟩ := h
 refine ⟨a, c, rfl, hl, fun i hi => ?_⟩
 obtain ⟨b, o, rfl, c1⟩ := hc i hi
 exact ⟨b, o, rfl, fun j u hj hu => keepCell hb (c1 j u hj hu)⟩
theorem RdG.form {α : Type} {sz : Nat} {fl : α → List Value} {d : α} {w : World} {v : Value} {L : List α} (h : RdG sz fl d w v L) : ∃ a c, v = .slice a L.length c := let ⟨a, c, e, _⟩ := h; ⟨a, c, e⟩
def flatG {α : Type} (fl : α → List Value) (L : List α) : List Value := L.flatMap fl
theorem flatG_length {α : Type} {sz : Nat} {fl : α → List Value} (hf : ∀ x, (fl x).length = sz) (L : List α) : (flatG fl L).length = L.length * sz := by
 induction L with
 | nil => simp [flatG]
 | cons s r ih =>
  simp only [flatG, List.flatMap_cons, List.length_append, List.length_cons] at *
  rw [ih, hf, Nat.succ_mul]
  omega
theorem flatG_append {α : Type} (fl : α → List Value) (a b : List α) : flatG fl (a ++ b) = flatG fl a ++ flatG fl b := by simp [flatG]
theorem flatG_get {α : Type} {sz : Nat} {fl : α → List Value} (hf : ∀ x, (fl x).length = sz) (d : α) : ∀ (l : List α) (i j : Nat), i < l.length → j < sz → (flatG fl l)[i * sz + j]? = (fl (l.getD i d))[j]?
 | [], i, j, h, _ => by simp at h
 | s :: r, 0, j, _, hj => by
  have e : flatG fl (s :: r) = fl s ++ flatG fl r := rfl
  rw [e, Nat.zero_mul, Nat.zero_add, List.getElem?_append_left (by rw [hf]; exact hj)]
  rfl
 | s :: r, i + 1, j, h, hj => by
  have ih := flatG_get hf d r i j (by simpa using h) hj
  have e : flatG fl (s :: r) = fl s ++ flatG fl r := rfl
  rw [e, List.getElem?_append_right (by rw [hf, Nat.succ_mul]; omega), hf, show (i + 1) * sz + j - sz = i * sz + j by rw [Nat.succ_mul]; omega, ih]
  rfl
def OwnG {α : Type} (T : TypeId) (sz : Nat) (fl : α → List Value) (w : World) (B : Nat) (v : Value) (L : List α) : Prop := w.ownsRow B T sz v L.length (flatG fl L)
theorem OwnG.nil {α : Type} {T : TypeId} {sz : Nat} {fl : α → List Value} (w : World) (B : Nat) : OwnG T sz fl w B (.slice none 0 0) [] := World.ownsRow_nil _ _ _ _
theorem OwnG.below {α : Type} {T : TypeId} {sz : Nat} {fl : α → List Value} {w w' : World} {B : Nat} {v : Value} {L : List α} (h : OwnG T sz fl w B v L) (hb : Below w.heap.size w w') : OwnG T sz fl w' B v L := by
 refine ⟨h.1, ?_⟩
 rcases h.2 with hn | ⟨g, cap, cur, rfl, hbb, hgg, rest⟩
 ·exact .inl hn
 ·exact .inr ⟨g, cap, cur, rfl, hbb, (hb.block g (Array.getElem?_eq_some_iff.1 hgg).1).trans hgg, rest⟩
theorem OwnG.mono {α : Type} {T : TypeId} {sz : Nat} {fl : α → List Value} {w : World} {B B' : Nat} {v : Value} {L : List α} (h : OwnG T sz fl w B v L) (hB : B' ≤ B) : OwnG T sz fl w B' v L := by
 refine ⟨h.1, ?_⟩
 rcases h.2 with hn | ⟨g, cap, cur, rfl, hbb, rest⟩
 ·exact .inl hn
 ·exact .inr ⟨g, cap, cur, rfl, by omega, rest⟩
theorem OwnG.rd {α : Type} {T : TypeId} {sz : Nat} {fl : α → List Value} (hf : ∀ x, (fl x).length = sz) {d : α} {w : World} {B : Nat} {v : Value} {L : List α} (h : OwnG T sz fl w B v L) (hl : L.length ≤ 1000000) : RdG sz fl d w v L := by
 have h' := h
 rcases h.2 with ⟨rfl, h0⟩ | ⟨g, cap, cur, rfl, _⟩
 ·obtain rfl : L = [] := List.eq_nil_of_length_eq_zero h0
  exact ⟨none, 0, rfl, by simp, fun i hi => by simp at hi⟩
 ·refine ⟨some ⟨g, 0, none⟩, cap, rfl, by omega, fun i hi => ⟨g, 0, rfl, fun j u hj hu => ?_⟩⟩
  have hij : i * sz + j < L.length * sz := by
   have : (i + 1) * sz ≤ L.length * sz := Nat.mul_le_mul_right _ hi
   rw [Nat.succ_mul] at this
   omega
  rw [Nat.zero_add, World.ownsRow.cellAt h' (i * sz + j) hij, flatG_get hf d L i j hi hj]
  exact hu
theorem OwnG.form {α : Type} {T : TypeId} {sz : Nat} {fl : α → List Value} {w : World} {B : Nat} {v : Value} {L : List α} (h : OwnG T sz fl w B v L) : ∃ a c, v = .slice a L.length c := by
 rcases h.2 with ⟨rfl, h0⟩ | ⟨g, cap, cur, rfl, _⟩
 ·exact ⟨none, 0, by rw [h0]⟩
 ·exact ⟨_, _, rfl⟩
theorem ownG_apart {w : World} {B B' : Nat} {T T' : TypeId} (hT : T ≠ T') {s s' : Nat} {v u : Value} {n m : Nat} {xs ys : List Value} (h : w.ownsRow B T s v n xs) (h' : w.ownsRow B' T' s' u m ys) : u.ownBlock = none ∨ u.ownBlock ≠ v.ownBlock := by
 rcases h.2 with ⟨rfl, _⟩ | ⟨g, cap, cur, rfl, _, hg, _⟩
 ·rcases h'.2 with ⟨rfl, _⟩ | ⟨g', cap', cur', rfl, _, hg', _⟩
  ·exact .inl rfl
  ·exact .inr (by simp [Value.ownBlock])
 ·rcases h'.2 with ⟨rfl, _⟩ | ⟨g', cap', cur', rfl, _, hg', _⟩
  ·exact .inl rfl
  ·refine .inr fun e => ?_
   simp [Value.ownBlock] at e
   subst e
   rw [hg] at hg'
   simp at hg'
   exact hT hg'.2
theorem wpList_app_G {α : Type} {P : Program} {ops : Array Oper} {rest : List Oper} {o : Oper} {a : Act} {Q : Exit → Act → World → Prop} {B : Nat} {w0 W : World} {T TS : TypeId} {sz : Nat} {fl : α → List Value} (hf : ∀ x, (fl x).length = sz) (h0 : 0 < sz)
  (hTS : P.underlying TS = some (.slice T)) {zv : Value} {by_ : Nat} (hinfo : (P.info? T).map (fun i => (i.zero, i.size, i.bytes)) = some (some zv, sz, by_)) (hzv : zv.cells.size = sz) (hby : by_ ≤ 1000)
  {v : Value} {L : List α} {z : α} (hgd : o.guard = none) (s x : Operand)
  (ho : o.op = .call { callee := .builtin .append, args := #[s, x], argTypes := #[TS, TS] }) (hs : a.eval s = v) (hown : OwnG T sz fl W B v L) (hbB : w0.heap.size ≤ B) (hBW : B ≤ W.heap.size) (hbw : Below w0.heap.size w0 W) (hone : ∀ u ∈ fl z, u.oneCell' = true)
  {n : Nat} (hx : a.eval x = .slice (some ⟨n, 0, none⟩) 1 1) (hn : n = W.heap.size) (hlen : L.length < 1000000) {cs : Array Value} (hcs : cs = (fl z).toArray)
  (h : ∀ v' w', OwnG T sz fl w' B v' (L ++ [z]) → Below w0.heap.size w0 w' → (∀ b, b < W.heap.size → v.ownBlock ≠ some b → w'.heap[b]? = W.heap[b]?) → (W.alloc (.cells cs T)).grownBy w' v.ownBlock → W.heap.size ≤ w'.heap.size →
   wpList P ops Q rest (a.put o.dst v') w') : wpList P ops Q (o :: rest) a (W.alloc (.cells cs T)) := by
 subst hn
 subst hcs
 obtain ⟨i0, hi, hz0, hz1, hz2⟩ := info_parts hinfo
 have hl := hf z
 refine wpList_append_own _ hgd s x TS ho B T i0 zv sz by_ hTS hi hz0 hz1 hz2 hzv h0 v L.length (flatG fl L) hs (World.ownsRow.alloc hown _) ⟨W.heap.size, 0, none⟩ 1 1 (fl z) hx (by rw [hl, Nat.one_mul]) ?_ hone (by unfold maxLen; omega) ?_ (by simp; omega) ?_
 ·intro j u hu
  rw [WideShapes.add_plain]
  simp only [Nat.zero_add]
  rw [World.cell?_alloc_new]
  simpa using hu
 ·have : (L.length + 1) * by_ ≤ 1000001 * 1000 := Nat.mul_le_mul (by omega) hby
  omega
 ·intro v' w' hown' hg _
  have hkeep : ∀ b, b < W.heap.size → v.ownBlock ≠ some b → w'.heap[b]? = W.heap[b]? := fun b hb hne => by
   rw [hg.block b (by simp; omega) (fun e => hne e.symm)]
   exact heap_alloc_old W _ hb
  have hbw' : Below w0.heap.size w0 w' := (hbw.alloc (by omega) _).grown hg (by simp; omega) (fun k hk => by have := (World.ownsRow.lt hown k hk).1; omega)
  refine h v' w' ?_ hbw' hkeep hg ?_
  ·unfold OwnG
   rw [flatG_append]
   simpa [flatG] using hown'
  ·have := hg.size
   simp at this
   omega
end Go.Proofs.YtlbglinpgjlbkaaGreatDoor
namespace Go.Proofs.YtlbglinpgjlbkaaGreatDoor
open Go.RowKit Wk

abbrev bsO (s : ByteArray) : Bs := s.data.toList
theorem letter_any (x : UInt8) (w : World) :
  Calls Tryz.prog 142 #[.int .u8 (x.toNat : Int)] w fun e w' => e = .returned (.bool (letC x)) ∧ w' = w := by
 go_enter Tryz.func142, Tryz.ntmps142
 go_wp2
 all_goals go_ret
 all_goals exact ⟨ret_bool (by rw [Bool.eq_iff_iff]; simp [letC]; omega), rfl⟩
theorem digit_any (x : UInt8) (w : World) :
  Calls Tryz.prog 143 #[.int .u8 (x.toNat : Int)] w fun e w' => e = .returned (.bool (digC x)) ∧ w' = w := by
 go_enter Tryz.func143, Tryz.ntmps143
 go_wp2
 all_goals go_ret
 all_goals exact ⟨ret_bool (by rw [Bool.eq_iff_iff]; simp [digC]; omega), rfl⟩
theorem letter18_any (x : UInt8) (w : World) :
  Calls Tryz.prog 173 #[.int .u8 (x.toNat : Int)] w fun e w' => e = .returned (.bool (letC x)) ∧ w' = w := by
 go_enter Tryz.func173, Tryz.ntmps173
 go_wp2
 all_goals go_ret
 all_goals exact ⟨ret_bool (by rw [Bool.eq_iff_iff]; simp [letC]; omega), rfl⟩
theorem digit18_any (x : UInt8) (w : World) :
  Calls Tryz.prog 174 #[.int .u8 (x.toNat : Int)] w fun e w' => e = .returned (.bool (digC x)) ∧ w' = w := by
 go_enter Tryz.func174, Tryz.ntmps174
 go_wp2
 all_goals go_ret
 all_goals exact ⟨ret_bool (by rw [Bool.eq_iff_iff]; simp [digC]; omega), rfl⟩
end Go.Proofs.YtlbglinpgjlbkaaGreatDoor
namespace Go.Proofs.YtlbglinpgjlbkaaGreatDoor
open Go.RowKit Wk

theorem bs_len (s : ByteArray) : (bsO s).length = s.size := by
 show s.data.toList.length = s.data.size
 simp
theorem bs_at (s : ByteArray) (k : Nat) (h : k < s.size) : (bsO s)[k]'(by rw [bs_len]; exact h) = s[k] := by
 show s.data.toList[k]'_ = s.data[k]'_
 simp
theorem name_iff (s : ByteArray) : nameB (bsO s) = true ↔ (1 ≤ s.size ∧ s.size ≤ 30) ∧ (∃ h : 0 < s.size, letC s[0] = true) ∧ ∀ k (h : k < s.size), namC s[k] = true := by
 refine (fun (key : ∀ (l : Bs) (hl : l.length = s.size) (_ : ∀ k (h : k < s.size), l[k]'(by omega) = s[k]), (nameB l = true ↔ (1 ≤ s.size ∧ s.size ≤ 30) ∧ (∃ h : 0 < s.size, letC s[0] = true) ∧ ∀ k (h : k < s.size), namC s[k] = true) ) => key (bsO s) (bs_len s) (bs_at s)) ?_
 intro l hl hb
 have hall : (∀ k (h : k < s.size), namC s[k] = true) ↔ l.all namC = true := by
  rw [List.all_eq_true]
  constructor
  ·intro h x hx
   obtain ⟨k, hk, rfl⟩ := List.mem_iff_getElem.1 hx
   rw [hb k (by omega)]
   exact h k (by omega)
  ·intro h k hk
   rw [← hb k hk]
   exact h _ (List.getElem_mem _)
 rw [hall]
 cases l with
 | nil =>
  simp at hl
  simp [nameB]
  omega
 | cons c r =>
  rw [List.length_cons] at hl
  have h0 : s[0]'(by omega) = c := (hb 0 (by omega)).symm
  show (decide (r.length + 1 ≤ 30) && letC c && (c :: r).all namC) = true ↔ _
  simp only [Bool.and_eq_true, decide_eq_true_eq]
  constructor
  ·rintro ⟨⟨h1, h2⟩, h3⟩
   exact ⟨⟨by omega, by omega⟩, ⟨by omega, by rw [h0]; exact h2⟩, h3⟩
  ·rintro ⟨⟨-, h1⟩, ⟨h2, h4⟩, h3⟩
   rw [h0] at h4
   exact ⟨⟨by omega, h4⟩, h3⟩
theorem idx_name (x : UInt8) (w : World) :
  Calls Tryz.prog 144 #[.string ⟨#[95, 47, 43, 45]⟩, .int .u8 (x.toNat : Int)] w fun e w' => (∃ r : Int, e = .returned (.int .i64 r) ∧ Hid (r < 0 ↔ (x == 95 || x == 47 || x == 43 || x == 45) = false)) ∧ w' = w := by
 refine (Tryz.strings_IndexByte _ _ _).mono ?_
 rintro e w' ⟨rfl, rfl⟩
 refine ⟨⟨_, rfl, ?_⟩, rfl⟩
 have : (x.toNat : Int).toNat.toUInt8 = x := by simp
 rw [this]
 show Lib.indexByte [95, 47, 43, 45] x < 0 ↔ _
 have h := Lib.contains_iff_indexByte [95, 47, 43, 45] x
 have h2 : ([95, 47, 43, 45] : List UInt8).contains x = (x == 95 || x == 47 || x == 43 || x == 45) := by
  simp only [List.contains_cons, List.contains_nil, Bool.or_false, Bool.or_assoc]
 rw [← h2, h, decide_eq_false_iff_not]
 omega
theorem nam_or {x : UInt8} (h : letC x = true ∨ digC x = true ∨ (x == 95 || x == 47 || x == 43 || x == 45) = true) : namC x = true := by
 unfold namC
 rcases h with h | h | h
 ·simp [h]
 ·simp [h]
 ·simp only [Bool.or_eq_true] at h ⊢
  rcases h with ((h | h) | h) | h
  ·exact .inl (.inl (.inl (.inr h)))
  ·exact .inl (.inl (.inr h))
  ·exact .inl (.inr h)
  ·exact .inr h
theorem nam_not {x : UInt8} (h1 : letC x = false) (h2 : digC x = false) (h3 : (x == 95 || x == 47 || x == 43 || x == 45) = false) : namC x = false := by
 unfold namC
 simp only [Bool.or_eq_false_iff] at h3 ⊢
 exact ⟨⟨⟨⟨⟨h1, h2⟩, h3.1.1.1⟩, h3.1.1.2⟩, h3.1.2⟩, h3.2⟩
theorem name_false {s : ByteArray} {r : Bool} (h : nameB (bsO s) = r) (hn : ¬((1 ≤ s.size ∧ s.size ≤ 30) ∧ (∃ h : 0 < s.size, letC s[0] = true) ∧ ∀ k (h : k < s.size), namC s[k] = true)) : false = r := by
 rw [← h]
 cases hb : nameB (bsO s) with
 | false => rfl
 | true => exact absurd ((name_iff s).1 hb) hn
theorem nam_next {s : ByteArray} {k : Nat} (h : ∀ j (_ : j < s.size), j < k → namC s[j] = true) {hk : k < s.size} (hn : namC s[k] = true) : Hid (∀ j (_ : j < s.size), j < k + 1 → namC s[j] = true) := Lib.hid fun j hj hlt => by
 rcases Nat.lt_or_ge j k with q | q
 ·exact h j hj q
 ·obtain rfl : j = k := by omega
  exact hn
set_option maxHeartbeats 1000000 in
theorem name_any (s : ByteArray) (w : World) :
  Calls Tryz.prog 65 #[.string s] w fun e w' => e = .returned (.bool (nameB (bsO s))) ∧ w' = w := by
 obtain ⟨r, hr⟩ : ∃ r, nameB (bsO s) = r := ⟨_, rfl⟩
 rw [hr]
 have HR : Hid (nameB (bsO s) = r) := Lib.hid hr
 clear hr
 go_enter Tryz.func65, Tryz.ntmps65
 go_wp2_with (first | (go_at_call 142; refine (letter_any _ _).mono ?_; rintro e w' ⟨rfl, rfl⟩) | (fail))
 ·rename_i h1
  go_ret
  refine ⟨ret_bool (name_false HR.out (fun q => ?_)), rfl⟩
  obtain ⟨_, g⟩ := q.2.1
  rw [g] at h1
  simp at h1
  omega
 ·rename_i hx _ _
  have p1 := hx.1
  have p2 := hx.2
  clear hx
  have HL : Hid (letC s[0] = true) := Lib.hid (by simpa using p2)
  clear p2
  have hsz : s.size ≤ 30 := by omega
  go_loopw [3, 20] (fun _ u wr => ∃ k : Nat, u = .int .i64 k ∧ k ≤ s.size ∧ Hid (∀ j (h : j < s.size), j < k → namC s[j] = true) ∧ wr = w') (fun _ u _ => s.size - (intOf u).toNat)
  case atStart => exact ⟨0, rfl, Nat.zero_le _, fun j _ h => by omega, rfl⟩
  case round =>
   obtain ⟨k, rfl, hk, HZ, hw⟩ := hrel
   rw [hw]
   clear hw
   go_wp2_with (first | (go_at_call 142; refine (letter_any _ _).mono ?_; rintro e w' ⟨rfl, rfl⟩) | (go_at_call 143; refine (digit_any _ _).mono ?_; rintro e w' ⟨rfl, rfl⟩) | (go_at_call 144; refine (idx_name _ _).mono ?_; rintro e w' ⟨⟨ix, rfl, hix⟩, rfl⟩) | (fail))
   ·have hn : namC s[k] = true := nam_or (.inl (by assumption))
    go_roundw
    case rel => exact ⟨k + 1, by go_num, by omega, nam_next HZ.out hn, by first | trivial | rfl⟩
    case measure => simp [intOf]; omega
   ·have hn : namC s[k] = true := nam_or (.inr (.inl (by assumption)))
    go_roundw
    case rel => exact ⟨k + 1, by go_num, by omega, nam_next HZ.out hn, by first | trivial | rfl⟩
    case measure => simp [intOf]; omega
   ·have hn := nam_not (x := s[k]) (by simpa using (by assumption : ¬letC s[k] = true)) (by simpa using (by assumption : ¬digC s[k] = true)) (hix.out.1 (by assumption))
    go_ret
    refine ⟨ret_bool (name_false HR.out (fun q => ?_)), rfl⟩
    have := q.2.2 k (by assumption)
    rw [hn] at this
    exact absurd this (by simp)
   ·have hn : namC s[k] = true := nam_or (.inr (.inr (by
     cases hq : (s[k] == 95 || s[k] == 47 || s[k] == 43 || s[k] == 45) with
     | true => rfl
     | false =>
      have := hix.out.2 hq
      omega)))
    go_roundw
    case rel => exact ⟨k + 1, by go_num, by omega, nam_next HZ.out hn, by first | trivial | rfl⟩
    case measure => simp [intOf]; omega
   ·go_ret
    refine ⟨ret_bool ?_, rfl⟩
    rw [← HR.out]
    exact ((name_iff s).2 ⟨⟨by omega, hsz⟩, ⟨by omega, HL.out⟩, fun j hj => HZ.out j hj (by omega)⟩).symm
 ·go_ret
  exact ⟨ret_bool (name_false HR.out (fun q => by omega)), rfl⟩
 ·go_ret
  exact ⟨ret_bool (name_false HR.out (fun q => by omega)), rfl⟩
end Go.Proofs.YtlbglinpgjlbkaaGreatDoor
namespace Go.Proofs.YtlbglinpgjlbkaaGreatDoor
open Go.RowKit Wk

theorem toNat_ne {x : UInt8} {n : Nat} (h : n < 256) : ((x.toNat : Int) = (n : Int)) ↔ x = UInt8.ofNat n := by
 constructor
 ·intro e
  apply UInt8.toNat_inj.1
  rw [UInt8.toNat_ofNat']
  omega
 ·intro e
  rw [e, UInt8.toNat_ofNat']
  omega
theorem nam_int (x : UInt8) : namC x = true ↔ letC x = true ∨ digC x = true ∨ (x.toNat : Int) = 95 ∨ (x.toNat : Int) = 47 ∨ (x.toNat : Int) = 43 ∨ (x.toNat : Int) = 45 := by
 have h := fun n hn => toNat_ne (x := x) (n := n) hn
 unfold namC
 simp only [Bool.or_eq_true, beq_iff_eq]
 rw [show (x = 95) ↔ (x.toNat : Int) = 95 from (h 95 (by omega)).symm, show (x = 47) ↔ (x.toNat : Int) = 47 from (h 47 (by omega)).symm, show (x = 43) ↔ (x.toNat : Int) = 43 from (h 43 (by omega)).symm, show (x = 45) ↔ (x.toNat : Int) = 45 from (h 45 (by omega)).symm]
 constructor
 ·rintro (((((h | h) | h) | h) | h) | h)
  ·exact .inl h
  ·exact .inr (.inl h)
  ·exact .inr (.inr (.inl h))
  ·exact .inr (.inr (.inr (.inl h)))
  ·exact .inr (.inr (.inr (.inr (.inl h))))
  ·exact .inr (.inr (.inr (.inr (.inr h))))
 ·rintro (h | h | h | h | h | h)
  ·exact .inl (.inl (.inl (.inl (.inl h))))
  ·exact .inl (.inl (.inl (.inl (.inr h))))
  ·exact .inl (.inl (.inl (.inr h)))
  ·exact .inl (.inl (.inr h))
  ·exact .inl (.inr h)
  ·exact .inr h
set_option maxHeartbeats 1000000 in
theorem name18_any (s : ByteArray) (w : World) :
  Calls Tryz.prog 109 #[.string s] w fun e w' => e = .returned (.bool (nameB (bsO s))) ∧ w' = w := by
 obtain ⟨r, hr⟩ : ∃ r, nameB (bsO s) = r := ⟨_, rfl⟩
 rw [hr]
 have HR : Hid (nameB (bsO s) = r) := Lib.hid hr
 clear hr
 go_enter Tryz.func109, Tryz.ntmps109
 go_wp2_with (first | (go_at_call 173; refine (letter18_any _ _).mono ?_; rintro e w' ⟨rfl, rfl⟩) | (fail))
 ·rename_i h1
  go_ret
  refine ⟨ret_bool (name_false HR.out (fun q => ?_)), rfl⟩
  obtain ⟨_, g⟩ := q.2.1
  rw [g] at h1
  simp at h1
  omega
 ·rename_i hx _ _
  have p1 := hx.1
  have p2 := hx.2
  clear hx
  have HL : Hid (letC s[0] = true) := Lib.hid (by simpa using p2)
  clear p2
  have hsz : s.size ≤ 30 := by omega
  go_loopw [3, 4] (fun u _ wr => ∃ k : Nat, u = .int .i64 k ∧ k ≤ s.size ∧ Hid (∀ j (h : j < s.size), j < k → namC s[j] = true) ∧ wr = w') (fun u _ _ => s.size - (intOf u).toNat)
  case atStart => exact ⟨0, rfl, Nat.zero_le _, fun j _ h => by omega, rfl⟩
  case round =>
   obtain ⟨k, rfl, hk, HZ, hw⟩ := hrel
   rw [hw]
   clear hw
   go_wp2_with (first | (go_at_call 173; refine (letter18_any _ _).mono ?_; rintro e w' ⟨rfl, rfl⟩) | (go_at_call 174; refine (digit18_any _ _).mono ?_; rintro e w' ⟨rfl, rfl⟩) | (fail))
   iterate 5
    ·have hn : namC s[k] = true := (nam_int _).2 (by first | exact .inl (by assumption) | exact .inr (.inl (by assumption)) | (right; right; omega))
     go_roundw
     case rel => exact ⟨k + 1, by go_num, by omega, nam_next HZ.out hn, by first | trivial | rfl⟩
     case measure => simp [intOf]; omega
   ·rename_i h95 h47 h43 h45
    have hn : namC s[k] = false := by
     cases hq : namC s[k] with
     | false => rfl
     | true =>
      have h45' : ¬(s[k].toNat : Int) = 45 := by simpa using h45.2
      rcases (nam_int _).1 hq with q | q | q | q | q | q
      ·exact absurd q (by assumption)
      ·exact absurd q (by assumption)
      ·exact absurd q (by assumption)
      ·exact absurd q (by assumption)
      ·exact absurd q (by assumption)
      ·exact absurd q h45'
    go_ret
    refine ⟨ret_bool (name_false HR.out (fun q => ?_)), rfl⟩
    have := q.2.2 k (by assumption)
    rw [hn] at this
    exact absurd this (by simp)
   ·rename_i h95 h47 h43 h45
    have h45' : (s[k].toNat : Int) = 45 := by
     simp at h45
     omega
    have hn : namC s[k] = true := (nam_int _).2 (.inr (.inr (.inr (.inr (.inr h45')))))
    clear h45
    go_roundw
    case rel => exact ⟨k + 1, by go_num, by omega, nam_next HZ.out hn, by first | trivial | rfl⟩
    case measure => simp [intOf]; omega
   ·go_ret
    refine ⟨ret_bool ?_, rfl⟩
    rw [← HR.out]
    exact ((name_iff s).2 ⟨⟨by omega, hsz⟩, ⟨by omega, HL.out⟩, fun j hj => HZ.out j hj (by omega)⟩).symm
 ·go_ret
  exact ⟨ret_bool (name_false HR.out (fun q => by omega)), rfl⟩
 ·go_ret
  exact ⟨ret_bool (name_false HR.out (fun q => by omega)), rfl⟩
theorem whole_ix (s : ByteArray) : wholeB (bsO s) = true ↔ 1 ≤ s.size ∧ (∀ k (h : k < s.size), digC s[k] = true) ∧ ∀ h : 0 < s.size, 1 < s.size → (s[0].toNat : Int) ≠ 48 := by
 refine (fun (key : ∀ (l : Bs) (hl : l.length = s.size) (_ : ∀ k (h : k < s.size), l[k]'(by omega) = s[k]), (wholeB l = true ↔ 1 ≤ s.size ∧ (∀ k (h : k < s.size), digC s[k] = true) ∧ ∀ h : 0 < s.size, 1 < s.size → (s[0].toNat : Int) ≠ 48)) => key (bsO s) (bs_len s) (bs_at s)) ?_
 intro l hl hb
 rw [whole_iff]
 have hall : (∀ k (h : k < s.size), digC s[k] = true) ↔ l.all digC = true := by
  rw [List.all_eq_true]
  constructor
  ·intro h x hx
   obtain ⟨k, hk, rfl⟩ := List.mem_iff_getElem.1 hx
   rw [hb k (by omega)]
   exact h k (by omega)
  ·intro h k hk
   rw [← hb k hk]
   exact h _ (List.getElem_mem _)
 rw [hall]
 have hne : l ≠ [] ↔ 1 ≤ s.size := by
  rw [← hl]
  cases l <;> simp
 have hh : ∀ h : 0 < s.size, (l.head? ≠ some 48 ↔ (s[0].toNat : Int) ≠ 48) := fun h => by
  have e : l.head? = some s[0] := by rw [List.head?_eq_getElem?, List.getElem?_eq_getElem (by omega), hb 0 h]
  have h48 := toNat_ne (x := s[0]) (n := 48) (by omega)
  rw [e]
  constructor
  ·exact fun q e2 => q (by rw [h48.1 e2]; rfl)
  ·exact fun q e2 => q (h48.2 (by simpa using e2))
 rw [hne, hl]
 constructor
 ·rintro ⟨h1, h2, h3⟩
  exact ⟨h1, h2, fun h h4 => (hh h).1 (h3 h4)⟩
 ·rintro ⟨h1, h2, h3⟩
  exact ⟨h1, h2, fun h4 => (hh (by omega)).2 (h3 (by omega) h4)⟩
theorem dig_next {s : ByteArray} {k : Nat} (h : ∀ j (_ : j < s.size), j < k → digC s[j] = true) {hk : k < s.size} (hn : digC s[k] = true) : Hid (∀ j (_ : j < s.size), j < k + 1 → digC s[j] = true) := Lib.hid fun j hj hlt => by
 rcases Nat.lt_or_ge j k with q | q
 ·exact h j hj q
 ·obtain rfl : j = k := by omega
  exact hn
end Go.Proofs.YtlbglinpgjlbkaaGreatDoor
namespace Go.Proofs.YtlbglinpgjlbkaaGreatDoor
open Go.RowKit Wk

theorem beq_comm45 (c : UInt8) : ((45 : UInt8) == c) = (c == 45) := by
 rw [Bool.eq_iff_iff, beq_iff_eq, beq_iff_eq]
 exact eq_comm
theorem toList_nil (t : ByteArray) : t.toList = [] ↔ t.size = 0 := by
 rw [Lib.toList_data, ← bs_len]
 exact List.length_eq_zero_iff.symm
theorem cut_minus (s : ByteArray) (w : World) :
  Calls Tryz.prog 87 #[.string s, .string ⟨#[45]⟩] w fun e w' => e = .returned (.tuple #[.string ⟨(absB (bsO s)).toArray⟩, .bool (negB (bsO s))]) ∧ w' = w := by
 refine (Tryz.strings_CutPrefix s ⟨#[45]⟩ w).mono ?_
 rintro e w' ⟨rfl, rfl⟩
 have h1 : Lib.hasPrefix s.data.toList [45] = negB (bsO s) := by
  show Lib.hasPrefix (bsO s) [45] = _
  cases h : bsO s with
  | nil => rfl
  | cons c r =>
   unfold Lib.hasPrefix negB
   simp [List.isPrefixOf]
   exact beq_comm45 c
 have h2 : Lib.trimPrefix s.data.toList [45] = absB (bsO s) := by
  unfold Lib.trimPrefix absB
  rw [show Lib.hasPrefix s.data.toList [45] = negB (bsO s) from h1]
  split
  ·show (bsO s).drop 1 = _
   cases bsO s <;> rfl
  ·rfl
 refine ⟨?_, rfl⟩
 rw [show (⟨#[45]⟩ : ByteArray).data.toList = [45] from rfl, h1, h2]
theorem num_ret {s : ByteArray} {lo hi : Int} {n : Int × Int} {a b : Int} (h : numM (bsO s) lo hi = n) (h2 : numM (bsO s) lo hi = (a, b)) : Ending.returned (.tuple #[.int .i64 a, .int .i64 b]) = .returned (.tuple #[.int .i64 n.1, .int .i64 n.2]) := by
 rw [← h, h2]
structure NumI (t : ByteArray) (k : Nat) (m : Int) (g : Bool) : Prop where
 dig : Hid (∀ j (h : j < t.size), j < k → digC t[j] = true)
 big : Hid (g = decide (9223372036854775808 < decV ((bsO t).take k)))
 val : Hid (g = false → m = -(decV ((bsO t).take k) : Int))
 lo : -9223372036854775808 ≤ m
 hi : m ≤ 0
theorem NumI.start (t : ByteArray) : NumI t 0 0 false := ⟨Lib.hid fun j _ h => by omega, Lib.hid (by simp [decV, decF]), Lib.hid fun _ => by simp [decV, decF], by decide, by decide⟩
theorem take_dig {t : ByteArray} {k : Nat} (hk : k < t.size) : decV ((bsO t).take (k + 1)) = 10 * decV ((bsO t).take k) + (t[k].toNat - 48) := by
 rw [List.take_add_one, List.getElem?_eq_getElem (by rw [bs_len]; exact hk), bs_at t k hk]
 exact decV_snoc _ _
theorem NumI.next_true {t : ByteArray} {k : Nat} {m : Int} (h : NumI t k m true) {hk : k < t.size} (hd : digC t[k] = true) : NumI t (k + 1) m true := by
 have h2 := h.big.out
 have h2 : 9223372036854775808 < decV ((bsO t).take k) := by simpa using h2.symm
 refine ⟨dig_next h.dig.out hd, Lib.hid ?_, Lib.hid (fun q => by cases q), h.lo, h.hi⟩
 rw [take_dig hk, decide_eq_true (by omega)]
theorem NumI.next_big {t : ByteArray} {k : Nat} {m : Int} (h : NumI t k m false) {hk : k < t.size} (hd : digC t[k] = true) (hq : m < (-9223372036854775808 + ((t[k].toNat : Int) - 48)).tdiv 10) : NumI t (k + 1) m true := by
 have hd' := dig_of hd
 have := (num_step (h.val.out rfl) (d := (t[k].toNat : Int) - 48) (by omega) (by omega)).1.1 hq
 refine ⟨dig_next h.dig.out hd, Lib.hid ?_, Lib.hid (fun q => by cases q), h.lo, h.hi⟩
 rw [take_dig hk, decide_eq_true (by omega)]
theorem NumI.next_small {t : ByteArray} {k : Nat} {m : Int} (h : NumI t k m false) {hk : k < t.size} (hd : digC t[k] = true) (hq : ¬m < (-9223372036854775808 + ((t[k].toNat : Int) - 48)).tdiv 10) : NumI t (k + 1) (10 * m - ((t[k].toNat : Int) - 48)) false := by
 have hd' := dig_of hd
 have h1 := num_step (h.val.out rfl) (d := (t[k].toNat : Int) - 48) (by omega) (by omega)
 have h2 := h1.2 hq
 have h3 := mt h1.1.2 hq
 have hh := h.hi
 refine ⟨dig_next h.dig.out hd, Lib.hid ?_, Lib.hid (fun _ => ?_), h2.2, by omega⟩
 ·rw [take_dig hk, decide_eq_false (by omega)]
 ·rw [take_dig hk, h2.1]
  omega
theorem NumI.all {t : ByteArray} {m : Int} {g : Bool} (h : NumI t t.size m g) : (bsO t).all digC = true ∧ g = decide (9223372036854775808 < decV (bsO t)) ∧ (g = false → m = -(decV (bsO t) : Int)) := by
 have e : (bsO t).take t.size = bsO t := List.take_of_length_le (by rw [bs_len]; exact Nat.le_refl _)
 have h2 := h.big.out
 have h3 := h.val.out
 rw [e] at h2 h3
 refine ⟨List.all_eq_true.2 fun x hx => ?_, h2, h3⟩
 obtain ⟨k, hk, rfl⟩ := List.mem_iff_getElem.1 hx
 rw [bs_len] at hk
 rw [bs_at t k hk]
 exact h.dig.out k hk hk
theorem not_dig {t : ByteArray} {k : Nat} {hk : k < t.size} (hd : digC t[k] = false) : ¬(bsO t).all digC = true := fun q => by
 have := List.all_eq_true.1 q t[k] (by rw [← bs_at t k hk]; exact List.getElem_mem _)
 rw [hd] at this
 exact absurd this (by simp)
set_option maxHeartbeats 4000000 in
theorem number_any (s : ByteArray) (hs : s.size < 4294967281) (lo hi : Int) (hlo : -9223372036854775808 ≤ lo) (hhi : hi ≤ 9223372036854775807) (w : World) :
  Calls Tryz.prog 91 #[.string s, .int .i64 lo, .int .i64 hi] w fun e w' => e = .returned (.tuple #[.int .i64 (numM (bsO s) lo hi).1, .int .i64 (numM (bsO s) lo hi).2]) ∧ w' = w := by
 obtain ⟨n, hn⟩ : ∃ n, numM (bsO s) lo hi = n := ⟨_, rfl⟩
 rw [hn]
 have HN : Hid (numM (bsO s) lo hi = n) := Lib.hid hn
 clear hn
 obtain ⟨t, ht⟩ : ∃ t : ByteArray, ⟨(absB (bsO s)).toArray⟩ = t := ⟨_, rfl⟩
 obtain ⟨neg, hneg⟩ : ∃ b, negB (bsO s) = b := ⟨_, rfl⟩
 have HC := Lib.hid (cut_minus s w)
 rw [ht, hneg] at HC
 have HT : Hid (bsO t = absB (bsO s)) := Lib.hid (by rw [← ht])
 have hts : t.size < 4294967281 := by
  have h1 := congrArg List.length HT.out
  rw [bs_len] at h1
  have h2 : (absB (bsO s)).length ≤ (bsO s).length := by
   unfold absB
   split
   ·simp
   ·exact Nat.le_refl _
  rw [bs_len] at h2
  omega
 have HG := Lib.hid hneg
 clear hneg ht
 go_enter Tryz.func91, Tryz.ntmps91
 by_cases hz : t.size = 0
 ·have g0 : t.toList = [] := (toList_nil t).2 hz
  go_wp2_with (first | (go_at_call 87; refine HC.out.mono ?_; rintro e w' ⟨rfl, rfl⟩) | (fail))
  go_ret2
  refine ⟨num_ret HN.out (num_bad ?_), rfl⟩
  rw [← Bool.not_eq_true]
  intro q
  have := ((form_parts (bsO s)).1 q).1
  rw [← HT.out] at this
  exact this (List.eq_nil_of_length_eq_zero (by rw [bs_len]; exact hz))
 ·have g0 : ¬t.toList = [] := fun q => hz ((toList_nil t).1 q)
  have g00 : t.toList.isEmpty = false := by simpa using g0
  have h0 : 0 < t.size := by omega
  have HH : Hid ((bsO t).head? = some t[0]) := Lib.hid (by rw [List.head?_eq_getElem?, List.getElem?_eq_getElem (by rw [bs_len]; exact h0), bs_at t 0 h0])
  by_cases hb : (t[0].toNat : Int) = 48 ∧ (1 < t.size ∨ neg = true)
  ·have HB : Hid (numM (bsO s) lo hi = (0, 3)) := by
    refine Lib.hid (num_bad ?_)
    rw [← Bool.not_eq_true]
    intro q
    refine ((form_parts (bsO s)).1 q).2.1 ?_
    rw [← HT.out, HH.out, (toNat_ne (n := 48) (by omega)).1 hb.1, bs_len, HG.out]
    exact ⟨rfl, hb.2⟩
   have g1 : ((t[0].toNat : Int) == 48) = true := by simpa using hb.1
   by_cases h1 : (1 : Int) < t.size
   ·clear hb
    go_wp2_with (first | (go_at_call 87; refine HC.out.mono ?_; rintro e w' ⟨rfl, rfl⟩) | (fail))
    go_ret2
    exact ⟨num_ret HN.out HB.out, rfl⟩
   ·have hneg : neg = true := hb.2.resolve_left (by omega)
    subst hneg
    clear hb
    go_wp2_with (first | (go_at_call 87; refine HC.out.mono ?_; rintro e w' ⟨rfl, rfl⟩) | (fail))
    go_ret2
    exact ⟨num_ret HN.out HB.out, rfl⟩
  ·have HF : Hid (formN (bsO s) = true ↔ (bsO t).all digC = true) := by
    refine Lib.hid ?_
    rw [form_parts, HT.out]
    constructor
    ·exact fun q => q.2.2
    ·intro q
     refine ⟨fun e => ?_, fun e => hb ?_, q⟩
     ·have := congrArg List.length e
      rw [← HT.out, bs_len, List.length_nil] at this
      omega
     ·rw [← HT.out, HH.out, bs_len, HG.out] at e
      have e1 : t[0] = 48 := by
       have := e.1
       injection this
      exact ⟨by rw [e1]; rfl, e.2⟩
   by_cases e48 : (t[0].toNat : Int) = 48
   ·have g1 : ((t[0].toNat : Int) == 48) = true := by simpa using e48
    have h1 : ¬(1 : Int) < t.size := fun q => hb ⟨e48, .inl (by omega)⟩
    have hneg : neg = false := by
     cases neg with
     | false => rfl
     | true => exact absurd ⟨e48, .inr rfl⟩ hb
    subst hneg
    clear e48 hb
    go_wp2_with (first | (go_at_call 87; refine HC.out.mono ?_; rintro e w' ⟨rfl, rfl⟩) | (fail))
    go_loopw [10, 11, 12, 13, 36] (fun vn vg _ _ vk wr => ∃ (k : Nat) (m : Int) (g : Bool), vk = .int .i64 k ∧ vn = .int .i64 m ∧ vg = .bool g ∧ k ≤ t.size ∧ NumI t k m g ∧ wr = w') (fun _ _ _ _ u _ => t.size - (intOf u).toNat)
    case atStart => exact ⟨0, 0, false, rfl, rfl, rfl, Nat.zero_le _, NumI.start t, rfl⟩
    case round =>
     obtain ⟨k, m, g, rfl, rfl, rfl, hk, HI, hw⟩ := hrel
     rw [hw]
     clear hw
     have hkb : (k : Int) ≤ 4294967280 := by omega
     by_cases hlt : k < t.size
     ·cases hd : digC t[k] with
      | false =>
       go_wp2_with (first | (go_at_call 143; refine (digit_any _ _).mono ?_; rintro e w' ⟨rfl, rfl⟩) | (fail))
       go_ret2
       refine ⟨num_ret HN.out (num_bad ?_), rfl⟩
       rw [← Bool.not_eq_true]
       exact fun q => not_dig hd (HF.out.1 q)
      | true =>
       have hd1 : 48 ≤ (t[k].toNat : Int) := by have := dig_of hd; omega
       have hd2 : (t[k].toNat : Int) ≤ 57 := by have := dig_of hd; omega
       cases g with
       | true =>
        go_wp2_with (first | (go_at_call 143; refine (digit_any _ _).mono ?_; rintro e w' ⟨rfl, rfl⟩) | (fail))
        go_roundw
        case rel => exact ⟨k + 1, m, true, by go_num, rfl, rfl, by omega, HI.next_true hd, by first | trivial | rfl⟩
        case measure => simp [intOf]; omega
       | false =>
        by_cases hq : m < (-9223372036854775808 + ((t[k].toNat : Int) - 48)).tdiv 10
        ·go_wp2_with (first | (go_at_call 143; refine (digit_any _ _).mono ?_; rintro e w' ⟨rfl, rfl⟩) | (fail))
         go_roundw
         case rel => exact ⟨k + 1, m, true, by go_num, rfl, rfl, by omega, HI.next_big hd hq, by first | trivial | rfl⟩
         case measure => simp [intOf]; omega
        ·have HS := HI.next_small hd hq
         have q1 : -9223372036854775808 ≤ 10 * m := by have := HS.lo; omega
         have q2 : 10 * m ≤ 0 := by have := HI.hi; omega
         have q3 := HS.lo
         have hqb := decide_eq_false hq
         clear hq
         go_wp2_with (first | (go_at_call 143; refine (digit_any _ _).mono ?_; rintro e w' ⟨rfl, rfl⟩) | (fail))
         go_roundw
         case rel => exact ⟨k + 1, _, false, by go_num, rfl, rfl, by omega, HS, by first | trivial | rfl⟩
         case measure => simp [intOf]; omega
     ·obtain rfl : k = t.size := by omega
      obtain ⟨e1, e2, e3⟩ := HI.all
      have hf := num_fin (s := bsO s) (lo := lo) (hi := hi) (HF.out.2 e1) hlo hhi
      rw [← HT.out, HG.out] at hf
      cases g with
      | true =>
       have e4 : 9223372036854775808 < decV (bsO t) := by simpa using e2.symm
       rw [if_pos (.inl e4)] at hf
       have HB := Lib.hid hf
       clear hf e1 e2 e3 e4
       go_wp2_with (fail)
       go_ret2
       exact ⟨num_ret HN.out HB.out, rfl⟩
      | false =>
       have e4 : ¬9223372036854775808 < decV (bsO t) := by
        intro q
        rw [decide_eq_true q] at e2
        cases e2
       have e5 := e3 rfl
       have m1 := HI.lo
       have m2 := HI.hi
       by_cases hmin : m = -9223372036854775808
       ·have HW : Hid (numM (bsO s) lo hi = (0, 2)) := by
         refine Lib.hid ?_
         rw [hf, if_pos]
         exact .inr ⟨rfl, by omega⟩
        have gm : (m == -9223372036854775808) = true := by simpa using hmin
        clear hf e1 e2 e3 e4 e5 hmin
        go_wp2_with (fail)
        all_goals go_ret2
        all_goals exact ⟨num_ret HN.out HW.out, rfl⟩
       ·have HW : Hid (numM (bsO s) lo hi = if -m < lo ∨ hi < -m then (0, 2) else (-m, 0)) := by
         refine Lib.hid ?_
         have hnv : numV (bsO s) = -m := by
          unfold numV
          rw [HG.out, ← HT.out, e5]
          simp
         rw [hf, hnv, if_neg]
         rintro (q | q)
         ·exact e4 q
         ·omega
        have gm : (m == -9223372036854775808) = false := by simpa using hmin
        have m3 : -9223372036854775807 ≤ m := by omega
        clear hf e1 e2 e3 e4 e5 hmin
        go_wp2_with (fail)
        all_goals go_ret2
        all_goals exact ⟨num_ret HN.out (by rw [HW.out]; first | exact if_pos (by omega) | exact if_neg (by omega)), rfl⟩
   ·have g1 : ((t[0].toNat : Int) == 48) = false := by simpa using e48
    clear e48 hb
    go_wp2_with (first | (go_at_call 87; refine HC.out.mono ?_; rintro e w' ⟨rfl, rfl⟩) | (fail))
    go_loopw [10, 11, 12, 13, 36] (fun vn vg _ _ vk wr => ∃ (k : Nat) (m : Int) (g : Bool), vk = .int .i64 k ∧ vn = .int .i64 m ∧ vg = .bool g ∧ k ≤ t.size ∧ NumI t k m g ∧ wr = w') (fun _ _ _ _ u _ => t.size - (intOf u).toNat)
    case atStart => exact ⟨0, 0, false, rfl, rfl, rfl, Nat.zero_le _, NumI.start t, rfl⟩
    case round =>
     obtain ⟨k, m, g, rfl, rfl, rfl, hk, HI, hw⟩ := hrel
     rw [hw]
     clear hw
     have hkb : (k : Int) ≤ 4294967280 := by omega
     by_cases hlt : k < t.size
     ·cases hd : digC t[k] with
      | false =>
       go_wp2_with (first | (go_at_call 143; refine (digit_any _ _).mono ?_; rintro e w' ⟨rfl, rfl⟩) | (fail))
       go_ret2
       refine ⟨num_ret HN.out (num_bad ?_), rfl⟩
       rw [← Bool.not_eq_true]
       exact fun q => not_dig hd (HF.out.1 q)
      | true =>
       have hd1 : 48 ≤ (t[k].toNat : Int) := by have := dig_of hd; omega
       have hd2 : (t[k].toNat : Int) ≤ 57 := by have := dig_of hd; omega
       cases g with
       | true =>
        go_wp2_with (first | (go_at_call 143; refine (digit_any _ _).mono ?_; rintro e w' ⟨rfl, rfl⟩) | (fail))
        go_roundw
        case rel => exact ⟨k + 1, m, true, by go_num, rfl, rfl, by omega, HI.next_true hd, by first | trivial | rfl⟩
        case measure => simp [intOf]; omega
       | false =>
        by_cases hq : m < (-9223372036854775808 + ((t[k].toNat : Int) - 48)).tdiv 10
        ·go_wp2_with (first | (go_at_call 143; refine (digit_any _ _).mono ?_; rintro e w' ⟨rfl, rfl⟩) | (fail))
         go_roundw
         case rel => exact ⟨k + 1, m, true, by go_num, rfl, rfl, by omega, HI.next_big hd hq, by first | trivial | rfl⟩
         case measure => simp [intOf]; omega
        ·have HS := HI.next_small hd hq
         have q1 : -9223372036854775808 ≤ 10 * m := by have := HS.lo; omega
         have q2 : 10 * m ≤ 0 := by have := HI.hi; omega
         have q3 := HS.lo
         have hqb := decide_eq_false hq
         clear hq
         go_wp2_with (first | (go_at_call 143; refine (digit_any _ _).mono ?_; rintro e w' ⟨rfl, rfl⟩) | (fail))
         go_roundw
         case rel => exact ⟨k + 1, _, false, by go_num, rfl, rfl, by omega, HS, by first | trivial | rfl⟩
         case measure => simp [intOf]; omega
     ·obtain rfl : k = t.size := by omega
      obtain ⟨e1, e2, e3⟩ := HI.all
      have hf := num_fin (s := bsO s) (lo := lo) (hi := hi) (HF.out.2 e1) hlo hhi
      rw [← HT.out, HG.out] at hf
      cases g with
      | true =>
       have e4 : 9223372036854775808 < decV (bsO t) := by simpa using e2.symm
       rw [if_pos (.inl e4)] at hf
       have HB := Lib.hid hf
       clear hf e1 e2 e3 e4
       go_wp2_with (fail)
       go_ret2
       exact ⟨num_ret HN.out HB.out, rfl⟩
      | false =>
       have e4 : ¬9223372036854775808 < decV (bsO t) := by
        intro q
        rw [decide_eq_true q] at e2
        cases e2
       have e5 := e3 rfl
       have m1 := HI.lo
       have m2 := HI.hi
       cases neg with
       | true =>
        have HW : Hid (numM (bsO s) lo hi = if m < lo ∨ hi < m then (0, 2) else (m, 0)) := by
         refine Lib.hid ?_
         have hnv : numV (bsO s) = m := by
          unfold numV
          rw [HG.out, ← HT.out, e5]
          simp
         rw [hf, hnv, if_neg]
         rintro (q | q)
         ·exact e4 q
         ·exact absurd q.1 (by simp)
        clear hf e1 e2 e3 e4 e5
        go_wp2_with (fail)
        all_goals go_ret2
        all_goals exact ⟨num_ret HN.out (by rw [HW.out]; first | exact if_pos (by omega) | exact if_neg (by omega)), rfl⟩
       | false =>
        by_cases hmin : m = -9223372036854775808
        ·have HW : Hid (numM (bsO s) lo hi = (0, 2)) := by
          refine Lib.hid ?_
          rw [hf, if_pos]
          exact .inr ⟨rfl, by omega⟩
         have gm : (m == -9223372036854775808) = true := by simpa using hmin
         clear hf e1 e2 e3 e4 e5 hmin
         go_wp2_with (fail)
         all_goals go_ret2
         all_goals exact ⟨num_ret HN.out HW.out, rfl⟩
        ·have HW : Hid (numM (bsO s) lo hi = if -m < lo ∨ hi < -m then (0, 2) else (-m, 0)) := by
          refine Lib.hid ?_
          have hnv : numV (bsO s) = -m := by
           unfold numV
           rw [HG.out, ← HT.out, e5]
           simp
          rw [hf, hnv, if_neg]
          rintro (q | q)
          ·exact e4 q
          ·omega
         have gm : (m == -9223372036854775808) = false := by simpa using hmin
         have m3 : -9223372036854775807 ≤ m := by omega
         clear hf e1 e2 e3 e4 e5 hmin
         go_wp2_with (fail)
         all_goals go_ret2
         all_goals exact ⟨num_ret HN.out (by rw [HW.out]; first | exact if_pos (by omega) | exact if_neg (by omega)), rfl⟩
end Go.Proofs.YtlbglinpgjlbkaaGreatDoor
