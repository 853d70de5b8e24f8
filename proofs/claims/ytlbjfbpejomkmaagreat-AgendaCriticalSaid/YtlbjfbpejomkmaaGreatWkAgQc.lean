import Derived.Test.YtlbjfbpejomkmaaGreatWkAgQa
import Derived.Test.YtlbjfbpejomkmaaGreatWkAgPl
import Derived.Test.YtlbjfbpejomkmaaGreatWkBa
import Derived.Sort.OwnSortedInts
import Derived.Shelf.SlSortCmp.Whole1
import Derived.Shelf.SlSortCmp.NoneTotal
import Derived.Test.YtlbjfbpejomkmaaGreatWkShelfI
import Derived.Test.YtlbjfbpejomkmaaGreatWkSi
import Derived.Test.YtlbjfbpejomkmaaGreatWkAgQb
import Derived.Test.YtlbjfbpejomkmaaGreatWkBc
/- Agenda: what the search's closures answer. -/
namespace Go.Proofs.YtlbjfbpejomkmaaGreat
open Go.RowKit Wk

theorem getD_in {α : Type} {L : List α} {k : Nat} {d : α} (h : k < L.length) : L.getD k d ∈ L := by
 rw [List.getD_eq_getElem?_getD, List.getElem?_eq_getElem h]
 exact List.getElem_mem h
theorem any_false {α : Type} {L : List α} {f : α → Bool} {d : α} (h : ∀ i, i < L.length → f (L.getD i d) = false) : L.any f = false := by
 rw [List.any_eq_false]
 intro x hx
 obtain ⟨i, hi, rfl⟩ := List.mem_iff_getElem.1 hx
 have := h i hi
 rw [List.getD_eq_getElem?_getD, List.getElem?_eq_getElem hi] at this
 simpa using this

theorem keepFz {W w' : World} {a : Addr} {v : Value} {b : Bool} (hb : Below W.heap.size W w') (h : W.cell? a = some v) (hf : W.frozen? a = b) : w'.frozen? a = b :=
 (hb.frozen (p := a) (World.block_lt_of_cell? W a h)).trans hf

def RowB (W : World) (b : Nat) (d : List Bool) : Prop := ∀ i, i < d.length → W.cell? ⟨b, i, none⟩ = some (.bool (dAt d i)) ∧ W.frozen? ⟨b, i, none⟩ = false
theorem RowB.below {W X : World} {b : Nat} {d : List Bool} (h : RowB W b d) (hb : Below W.heap.size W X) : RowB X b d := fun i hi => ⟨keepCell hb (h i hi).1, keepFz hb (h i hi).1 (h i hi).2⟩
def RowP (W : World) (b : Nat) (a : List Sp) : Prop := ∀ i, i < a.length → (W.cell? ⟨b, i * 2, none⟩ = some (.int .i64 (spAt a i).1) ∧ W.cell? ⟨b, i * 2 + 1, none⟩ = some (.int .i64 (spAt a i).2)) ∧ W.frozen? ⟨b, i * 2, none⟩ = false ∧ W.frozen? ⟨b, i * 2 + 1, none⟩ = false
theorem RowP.below {W X : World} {b : Nat} {a : List Sp} (h : RowP W b a) (hb : Below W.heap.size W X) : RowP X b a := fun i hi => ⟨⟨keepCell hb (h i hi).1.1, keepCell hb (h i hi).1.2⟩, keepFz hb (h i hi).1.1 (h i hi).2.1, keepFz hb (h i hi).1.2 (h i hi).2.2⟩
structure SrW (W : World) (b ba bd : Nat) (vl vR : Value) (start left : Int) (out : Bool) (am : List Sp) (d : List Bool) : Prop where
 c0 : W.cell? ⟨b, 0, none⟩ = some vl
 c1 : W.cell? ⟨b, 1, none⟩ = some vR
 c2 : W.cell? ⟨b, 2, none⟩ = some (.int .i64 start)
 c3 : W.cell? ⟨b, 3, none⟩ = some (.int .i64 left)
 c4 : W.cell? ⟨b, 4, none⟩ = some (.bool out)
 c5 : W.cell? ⟨b, 5, none⟩ = some (.slice (some ⟨ba, 0, none⟩) am.length am.length)
 c6 : W.cell? ⟨b, 6, none⟩ = some (.slice (some ⟨bd, 0, none⟩) d.length d.length)
 f3 : W.frozen? ⟨b, 3, none⟩ = false
 f4 : W.frozen? ⟨b, 4, none⟩ = false
 pa : RowP W ba am
 pd : RowB W bd d
 n1 : b ≠ ba
 n2 : b ≠ bd
 n3 : ba ≠ bd
theorem SrW.below {W X : World} {b ba bd : Nat} {vl vR : Value} {start left : Int} {out : Bool} {am : List Sp} {d : List Bool} (h : SrW W b ba bd vl vR start left out am d) (hb : Below W.heap.size W X) : SrW X b ba bd vl vR start left out am d :=
 ⟨keepCell hb h.c0, keepCell hb h.c1, keepCell hb h.c2, keepCell hb h.c3, keepCell hb h.c4, keepCell hb h.c5, keepCell hb h.c6, keepFz hb h.c3 h.f3, keepFz hb h.c4 h.f4, h.pa.below hb, h.pd.below hb, h.n1, h.n2, h.n3⟩

set_option maxHeartbeats 2000000 in
theorem ready1_any (j : Nat) (pb b bd n : Nat) (d : List Bool) (W : World) (hn : d.length = n) (hj : j < n) (h0 : W.cell? ⟨pb, 0, none⟩ = some (.pointer (some ⟨b, 0, none⟩))) (h6 : W.cell? ⟨b, 6, none⟩ = some (.slice (some ⟨bd, 0, none⟩) n n)) (hd : RowB W bd d) :
  Calls Tryz.prog 154 #[.int .i64 (j : Nat), .pointer (some ⟨pb, 0, none⟩)] W fun e w' => e = .returned (.bool (!dAt d j)) ∧ W = w' := by
 have hc := (hd j (by omega)).1
 obtain ⟨x, hx⟩ : ∃ x, dAt d j = x := ⟨_, rfl⟩
 rw [hx] at hc ⊢
 clear hx hd
 go_enter Tryz.func154, Tryz.ntmps154
 go_wp2
 all_goals go_ret
 all_goals exact ⟨rfl, rfl⟩

set_option maxRecDepth 100000 in
set_option maxHeartbeats 2000000 in
theorem idx_ready (pb : Nat) (f : Int → Bool) (v : Value) (L : List (Int)) (w : World) (h : RdJ w v L) (HF : Hid (∀ x, x ∈ L → ∀ W, Below w.heap.size w W → Calls Tryz.prog 154 #[.int .i64 x, .pointer (some ⟨pb, 0, none⟩)] W fun e w' => e = .returned (.bool (f x)) ∧ Below W.heap.size W w')) :
  Calls Tryz.prog 127 #[v, .func (.func 154) #[] #[.pointer (some ⟨pb, 0, none⟩)]] w fun e w' => (∃ r : Int, e = .returned (.int .i64 r) ∧ (decide (0 ≤ r) = L.any f)) ∧ Below w.heap.size w w' := by
 obtain ⟨a, c, rfl, hl, hc⟩ := h
 have HC := Lib.hid hc
 clear hc
 go_enter Tryz.func127, Tryz.ntmps127
 go_wp2_with fail
 go_loopw [8] (fun u wr => ∃ k : Nat, u = .int .i64 k ∧ k ≤ L.length ∧ Hid (∀ i, i < k → f (L.getD i 0) = false) ∧ Below w.heap.size w wr) (fun u _ => L.length - (intOf u).toNat)
 case atStart => exact ⟨0, rfl, Nat.zero_le _, fun i hi => by omega, Below.refl _ _⟩
 case round =>
  obtain ⟨k, rfl, hk, HZ, hB⟩ := hrel
  by_cases hlt : k < L.length
  ·have hm : L.getD k 0 ∈ L := getD_in hlt
   obtain ⟨b, o, rfl, c1⟩ := HC.out k hlt
   obtain ⟨x, hx⟩ : ∃ x, L.getD k 0 = x := ⟨_, rfl⟩
   have HX := HF.out _ hm wr hB
   rw [hx] at HX c1
   have c2 := keepCell hB c1
   have HXE := Lib.hid hx
   clear hx hm c1
   obtain ⟨g, hg⟩ : ∃ g, f x = g := ⟨_, rfl⟩
   rw [hg] at HX
   have HG := Lib.hid hg
   have HH := Lib.hid HX
   clear hg HX
   go_wp2_with fail
   refine HH.out.mono ?_
   rintro e w1 ⟨rfl, hb1⟩
   have hB1 := keepBelow hB hb1
   clear c2 hb1
   cases g with
   | false =>
    go_wp2
    go_roundw
    case rel =>
     refine ⟨k + 1, by go_num, by omega, fun i hi => ?_, hB1⟩
     rcases Nat.lt_succ_iff_lt_or_eq.1 hi with h | rfl
     ·exact HZ.out i h
     ·rw [HXE.out]; exact HG.out
    case measure => simp [intOf]; omega
   | true =>
    have hA : L.any f = true := List.any_eq_true.2 ⟨L.getD k 0, getD_in hlt, by rw [HXE.out]; exact HG.out⟩
    go_wp2
    go_ret
    exact ⟨⟨k, rfl, by rw [hA]; simp⟩, hB1⟩
  ·have hA : L.any f = false := any_false (d := 0) fun i hi => HZ.out i (by omega)
   go_wp2
   go_ret
   exact ⟨⟨-1, rfl, by rw [hA]; simp⟩, hB⟩
theorem con_ready (pb : Nat) (f : Int → Bool) (v : Value) (L : List (Int)) (w : World) (h : RdJ w v L) (HF : Hid (∀ x, x ∈ L → ∀ W, Below w.heap.size w W → Calls Tryz.prog 154 #[.int .i64 x, .pointer (some ⟨pb, 0, none⟩)] W fun e w' => e = .returned (.bool (f x)) ∧ Below W.heap.size W w')) :
  Calls Tryz.prog 87 #[v, .func (.func 154) #[] #[.pointer (some ⟨pb, 0, none⟩)]] w fun e w' => e = .returned (.bool (L.any f)) ∧ Below w.heap.size w w' := by
 have H := Lib.hid (idx_ready pb f v L w h HF)
 obtain ⟨a, c, rfl, _⟩ := h
 go_enter Tryz.func87, Tryz.ntmps87
 go_wp2_with fail
 refine H.out.mono ?_
 rintro e w1 ⟨⟨r, rfl, hr⟩, hb1⟩
 have HRR := Lib.hid hr
 clear hr
 go_wp2
 go_ret
 exact ⟨ret_bool HRR.out, hb1⟩
end Go.Proofs.YtlbjfbpejomkmaaGreat
namespace Go.Proofs.YtlbjfbpejomkmaaGreat
open Go.RowKit Wk Go.Sort Go.Shelf

def cmpD (l : List Tk) (i k : Nat) : Int := if dueOf l i < dueOf l k then -1 else if dueOf l k < dueOf l i then 1 else if i < k then -1 else if k < i then 1 else 0
def encF (n : Nat) (x : Fin (n + 1)) : Value := .int .i64 (x.val : Nat)
def cmpF (l : List Tk) (n : Nat) (x y : Fin (n + 1)) : Int := cmpD l x.val y.val
theorem ltF (l : List Tk) (n : Nat) (x y : Fin (n + 1)) : ltOf (cmpF l n) x y = true ↔ (dueOf l x.val < dueOf l y.val ∨ dueOf l x.val = dueOf l y.val ∧ x.val < y.val) := by
 unfold ltOf cmpF cmpD
 rw [decide_eq_true_iff]
 split
 ·simp; omega
 ·split
  ·simp; omega
  ·split
   ·simp; omega
   ·split <;> (simp; omega)
theorem ltF_false (l : List Tk) (n : Nat) (x y : Fin (n + 1)) : ltOf (cmpF l n) x y = false ↔ ¬ (dueOf l x.val < dueOf l y.val ∨ dueOf l x.val = dueOf l y.val ∧ x.val < y.val) := by
 rw [← ltF l n x y]
 simp
theorem swoF (l : List Tk) (n : Nat) : SWO (ltOf (cmpF l n)) where
 irrefl x := by rw [ltF_false]; omega
 trans x y z h1 h2 := by rw [ltF] at *; omega
 ntrans x y z h1 h2 := by rw [ltF_false] at *; omega
def natI (L : List Nat) : List Int := L.map fun (i : Nat) => (i : Int)
theorem natI_length (L : List Nat) : (natI L).length = L.length := List.length_map ..
theorem liftF {n : Nat} : ∀ L : List Nat, (∀ i ∈ L, i < n + 1) → ∃ d : List (Fin (n + 1)), d.map (fun x => x.val) = L
 | [], _ => ⟨[], rfl⟩
 | i :: r, h => by
  obtain ⟨d, hd⟩ := liftF r fun t ht => h t (by simp [ht])
  exact ⟨⟨i, h i (by simp)⟩ :: d, by rw [List.map_cons, hd]⟩
theorem flatI_fin {n : Nat} (d : List (Fin (n + 1))) : flatI (natI (d.map fun x => x.val)) = d.map (encF n) := by
 unfold flatI natI encF
 rw [List.map_map, List.map_map]
 rfl
theorem holdsF {w : World} {g n : Nat} {cur : Array Value} {e : TypeId} {d : List (Fin (n + 1))} (hb : w.heap[g]? = some (.cells cur e (0, 0))) (ht : cur.toList.take d.length = d.map (encF n)) : Holds (encF n) w g 0 d.toArray := by
 intro j hj
 have hj' : j < d.length := by simpa using hj
 refine ⟨?_, by simp [World.frozen?, hb]⟩
 have h1 : (cur.toList.take d.length)[j]? = (d.map (encF n))[j]? := by rw [ht]
 rw [List.getElem?_take_of_lt hj', List.getElem?_map, List.getElem?_eq_getElem hj'] at h1
 simp only [World.cell?, hb, Nat.zero_add]
 simp only [Option.isSome_none, Bool.false_eq_true, if_false]
 rw [← Array.getElem?_toList, h1, getElem!_pos d.toArray j hj]
 rfl
theorem heap_sortedF {n : Nat} {w : World} {g m : Nat} {os : Array Obj} {cur : Array Value} {e : TypeId} {fr : Nat × Nat} (d : Array (Fin (n + 1))) (hb : w.heap[g]? = some (.cells cur e fr)) :
  (sortWorld (encF n) w g 0 m d os).heap[g]? = some (.cells (putCells (encF n) 0 d cur) e fr) := by
 have hg : g < w.heap.size := (Array.getElem?_eq_some_iff.1 hb).1
 unfold sortWorld
 rw [heap_grow_old _ _ (by simpa using hg)]
 simp [putRow, mapBlock, Sort.ahead, Array.getElem?_modify, hb, onCells]
theorem grownBy_sortedF {n : Nat} {w : World} {g m : Nat} {os : Array Obj} (d : Array (Fin (n + 1))) : w.grownBy (sortWorld (encF n) w g 0 m d os) (some g) := by
 unfold sortWorld
 refine ⟨rfl, rfl, rfl, by simp, fun k hk hne => ?_⟩
 rw [heap_grow_old _ _ (by simpa using hk)]
 have : g ≠ k := fun e => hne (by rw [e])
 simp [putRow, mapBlock, Sort.ahead, Array.getElem?_modify, this]
theorem take_putF {n : Nat} (cur : Array Value) (d : Array (Fin (n + 1))) (h : d.size ≤ cur.size) : (putCells (encF n) 0 d cur).toList.take d.size = d.toList.map (encF n) := by
 apply List.ext_getElem?
 intro j
 by_cases hj : j < d.size
 ·rw [List.getElem?_take_of_lt hj, Array.getElem?_toList, List.getElem?_map, Array.getElem?_toList, Array.getElem?_eq_getElem hj]
  have hjc : j < cur.size := by omega
  simp [putCells, hj, hjc]
 ·rw [List.getElem?_take_eq_none (by omega), List.getElem?_eq_none (by simp; omega)]
def SjPost (l : List Tk) (v : Value) (L : List Nat) (w0 : World) (e : Ending) (w' : World) : Prop := ∃ L', e = .returned (.tuple #[]) ∧ L'.Perm L ∧ L'.Pairwise (leD l) ∧ OwnI w' w0.heap.size v (natI L') ∧ Below w0.heap.size w0 w'
theorem sortJ_own (l : List Tk) (n g : Nat) (cb : Array Value) (v : Value) (L : List Nat) (w0 W : World) (eg : ∀ args w, (callFunc g args).run Tryz.prog w = .ok (.enter g args) w)
  (hcmp : ∀ i k, i < n + 1 → k < n + 1 → ∀ W', Below w0.heap.size w0 W' → Calls Tryz.prog g (#[.int .i64 (i : Nat), .int .i64 (k : Nat)] ++ cb) W' fun e w' => e = .returned (.int .i64 (cmpD l i k)) ∧ ∃ q os', w' = grow (W'.drewN q) os')
  (h : OwnI W w0.heap.size v (natI L)) (hb : Below w0.heap.size w0 W) (hbd : ∀ i ∈ L, i < n + 1) (hl : L.length < 1000000000000) :
  Calls Tryz.prog 155 #[v, .func (.func g) #[] cb] W (SjPost l v L w0) := by
 have hlt := h.lt
 have h' := h
 rcases h.2 with ⟨rfl, h0⟩ | ⟨b, cap, cur, rfl, hgb, hgg, hn, hcap, hsz, htk⟩
 ·rw [natI_length] at h0
  obtain rfl : L = [] := List.eq_nil_of_length_eq_zero h0
  exact (AnyF.slices_SortFunc_none { Tryz.sortIn with } none 0 _ W).mono fun e w' ⟨he, hw⟩ => by subst hw; exact ⟨[], he, List.Perm.refl _, List.Pairwise.nil, OwnI.nil _ _, hb⟩
 ·obtain ⟨d, hd⟩ := liftF L hbd
  have hdl : d.length = L.length := by rw [← hd, List.length_map]
  have hF : flatI (natI L) = d.map (encF n) := by rw [← hd, flatI_fin]
  have hH : Holds (encF n) W b 0 d.toArray := holdsF hgg (by rw [← hF]; rw [Nat.mul_one, natI_length, ← hdl] at htk; exact htk)
  have hc := Any.slices_SortFunc Tryz.sortIn (encF n) (fun x => rfl) (cmpF l n) (swoF l n) g cb b 0 cap d.toArray W eg (fun m os dk _ x y => hcmp x.val y.val x.isLt y.isLt _ (hb.grown (grownBy_sortedF dk) hb.size (fun k hk => by cases hk; exact hgb))) hH (hlt b rfl).2 (by simp; omega)
  rw [show d.toArray.size = (natI L).length by rw [natI_length]; simpa using hdl] at hc
  refine hc.mono ?_
  rintro e w' ⟨he, d', m, os, ⟨p1, _, p3⟩, hso, rfl⟩
  rw [natI_length] at hso p3
  have hs' : d'.size = L.length := by rw [p1]; simpa using hdl
  have hperm : d'.toList.Perm d := by
   have := p3
   rw [show d'.extract 0 L.length = d' by rw [← hs']; simp, show d.toArray.extract 0 L.length = d.toArray by rw [← hdl]; simp] at this
   simpa using this
  refine ⟨d'.toList.map (fun x => x.val), he, by rw [← hd]; exact hperm.map _, ?_, ?_, ?_⟩
  ·rw [List.pairwise_map, List.pairwise_iff_getElem]
   intro i j hi hj hij
   have h1 := hso i j (Nat.zero_le _) hij (by rw [← hs']; simpa using hj)
   rw [ltF_false] at h1
   have hi' : i < d'.size := by simpa using hi
   have hj' : j < d'.size := by simpa using hj
   rw [getElem!_pos d' i hi', getElem!_pos d' j hj'] at h1
   simp only [Array.getElem_toList]
   unfold leD
   omega
  ·unfold OwnI
   rw [flatI_fin]
   have hlm : (natI (d'.toList.map fun x => x.val)).length = (natI L).length := by rw [natI_length, natI_length, List.length_map]; simpa using hs'
   rw [hlm]
   refine ⟨by rw [List.length_map, natI_length]; simpa using hs', .inr ⟨b, cap, _, rfl, hgb, heap_sortedF _ hgg, hn, hcap, by simp [putCells, hsz], ?_⟩⟩
   have hc2 : d'.size ≤ cur.size := by rw [hs', hsz]; rw [natI_length] at hn; omega
   have := take_putF cur d' hc2
   rw [Nat.mul_one, natI_length, ← hs']
   exact this
  ·exact hb.grown (grownBy_sortedF _) hb.size (fun k hk => by cases hk; exact hgb)
end Go.Proofs.YtlbjfbpejomkmaaGreat
namespace Go.Proofs.YtlbjfbpejomkmaaGreat
open Go.RowKit Wk Go.Sort

def cmpC (x y : Int) : Int := if x < y then -1 else if y < x then 1 else 0
def orC (x y : Int) : Int := if x ≠ 0 then x else y
theorem cmpD_eq (l : List Tk) (i k : Nat) : orC (cmpC (dueOf l i) (dueOf l k)) (cmpC (i : Nat) (k : Nat)) = cmpD l i k := by
 unfold orC cmpC cmpD
 by_cases h1 : dueOf l i < dueOf l k
 ·simp [h1]
 ·by_cases h2 : dueOf l k < dueOf l i
  ·simp [h1, h2]
  ·simp [h1, h2]
set_option maxHeartbeats 1000000 in
theorem compare_any (x y : Int) (w : World) :
  Calls Tryz.prog 158 #[.int .i64 x, .int .i64 y] w fun e w' => e = .returned (.int .i64 (cmpC x y)) ∧ w = w' := by
 by_cases h1 : x < y
 ·have g1 : decide (x < y) = true := by simpa using h1
  have hr : cmpC x y = -1 := by unfold cmpC; rw [if_pos h1]
  rw [hr]
  go_enter Tryz.func158, Tryz.ntmps158
  go_wp2
  go_ret
  exact ⟨rfl, rfl⟩
 ·have g1 : decide (x < y) = false := by simpa using h1
  by_cases h2 : y < x
  ·have g2 : decide (y < x) = true := by simpa using h2
   have hr : cmpC x y = 1 := by unfold cmpC; rw [if_neg h1, if_pos h2]
   rw [hr]
   go_enter Tryz.func158, Tryz.ntmps158
   go_wp2
   go_ret
   exact ⟨rfl, rfl⟩
  ·have g2 : decide (y < x) = false := by simpa using h2
   have hr : cmpC x y = 0 := by unfold cmpC; rw [if_neg h1, if_neg h2]
   rw [hr]
   go_enter Tryz.func158, Tryz.ntmps158
   go_wp2
   go_ret
   exact ⟨rfl, rfl⟩
set_option maxHeartbeats 1000000 in
theorem or_any (x y : Int) (b : Nat) (w : World) (h0 : w.cell? ⟨b, 0, none⟩ = some (.int .i64 x)) (h1 : w.cell? ⟨b, 1, none⟩ = some (.int .i64 y)) :
  Calls Tryz.prog 157 #[.slice (some ⟨b, 0, none⟩) 2 2] w fun e w' => e = .returned (.int .i64 (orC x y)) ∧ w = w' := by
 obtain ⟨r, hr⟩ : ∃ r, orC x y = r := ⟨_, rfl⟩
 rw [hr]
 have HR := Lib.hid hr
 clear hr
 go_enter Tryz.func157, Tryz.ntmps157
 go_wp2_with fail
 go_loopw [8] (fun u wr => ∃ k : Nat, u = .int .i64 k ∧ k ≤ 2 ∧ Hid (0 < k → x = 0) ∧ Hid (1 < k → y = 0) ∧ wr = w) (fun u _ => 2 - (intOf u).toNat)
 case atStart => exact ⟨0, rfl, by omega, fun h => by omega, fun h => by omega, rfl⟩
 case round =>
  obtain ⟨k, rfl, hk, H1, H2, rfl⟩ := hrel
  rcases (by omega : k = 0 ∨ k = 1 ∨ k = 2) with rfl | rfl | rfl
  ·by_cases hx : x = 0
   ·have g1 : (x != 0) = false := by simpa using hx
    have HX := Lib.hid hx
    clear hx
    go_wp2
    go_roundw
    case rel => exact ⟨1, by first | rfl | go_num, by omega, fun _ => HX.out, fun h => by omega, by first | trivial | rfl⟩
    case measure => simp [intOf]
   ·have g1 : (x != 0) = true := by simpa using hx
    have hr : x = r := by rw [← HR.out]; unfold orC; rw [if_pos hx]
    subst hr
    clear hx
    go_wp2
    go_ret
    exact ⟨rfl, rfl⟩
  ·have hx := H1.out (by omega)
   have hr : y = r := by rw [← HR.out]; unfold orC; rw [if_neg (by simpa using hx)]
   subst hr
   clear hx
   by_cases hy : y = 0
   ·have g1 : (y != 0) = false := by simpa using hy
    have HY := Lib.hid hy
    clear hy
    go_wp2
    go_roundw
    case rel => exact ⟨2, by first | rfl | go_num, by omega, fun _ => H1.out (by omega), fun _ => HY.out, by first | trivial | rfl⟩
    case measure => simp [intOf]
   ·have g1 : (y != 0) = true := by simpa using hy
    clear hy
    go_wp2
    go_ret
    exact ⟨rfl, rfl⟩
  ·have hx := H1.out (by omega)
   have hy := H2.out (by omega)
   have hr : (0 : Int) = r := by rw [← HR.out]; unfold orC; rw [if_neg (by simpa using hx), hy]
   subst hr
   clear hx hy
   go_wp2
   go_ret
   exact ⟨rfl, rfl⟩

set_option maxRecDepth 100000 in
set_option maxHeartbeats 8000000 in
theorem ready2_any (i k n c : Nat) (x y : Int) (pb b bl ol : Nat) (W : World) (hi : i < n) (hk : k < n) (h0 : W.cell? ⟨pb, 0, none⟩ = some (.pointer (some ⟨b, 0, none⟩))) (h1 : W.cell? ⟨b, 0, none⟩ = some (.slice (some ⟨bl, ol, none⟩) n c))
  (hx : W.cell? ⟨bl, ol + i * 5 + 4, none⟩ = some (.int .i64 x)) (hy : W.cell? ⟨bl, ol + k * 5 + 4, none⟩ = some (.int .i64 y)) :
  Calls Tryz.prog 156 #[.int .i64 (i : Nat), .int .i64 (k : Nat), .pointer (some ⟨pb, 0, none⟩)] W fun e w' => e = .returned (.int .i64 (orC (cmpC x y) (cmpC (i : Nat) (k : Nat)))) ∧ w' = W.drew.alloc (.cells #[.int .i64 (cmpC x y), .int .i64 (cmpC (i : Nat) (k : Nat))] 3) := by
 go_enter Tryz.func156, Tryz.ntmps156
 go_upto_region 1 with fail
 refine wp_region_any (by kernel_rfl) ?_
 change wpAny _ _ _ _ _ _ _ W.drew
 obtain ⟨I, HIe⟩ : ∃ I : Array Bool → Act → World → Prop, I = fun (ls : Array Bool) (a9 : Act) (w9 : World) => ∃ u5 u6 u7 u8 u9 u10 u11 u12 u13 u14 u15 u16 u17 u18 u19 u20 u21 u22 u23 u24 u25 u26 u27 : Value, ls.size = 23 ∧ a9 = ⟨#[.int .i64 (i : Nat), .int .i64 (k : Nat), .pointer (some ⟨pb, 0, none⟩), undef, undef, u5, u6, u7, u8, u9, u10, u11, u12, u13, u14, u15, u16, u17, u18, u19, u20, u21, u22, u23, u24, u25, u26, u27], []⟩ ∧ Below W.heap.size W w9 ∧ Hid (ls.getD 0 false = true → u6 = .pointer (some ⟨b, 0, none⟩)) ∧ Hid (ls.getD 1 false = true → u7 = .pointer (some ⟨b, 0, none⟩)) ∧ Hid (ls.getD 2 false = true → u8 = .pointer (some ⟨b, 0, none⟩)) ∧ Hid (ls.getD 3 false = true → u9 = .slice (some ⟨bl, ol, none⟩) n c) ∧ Hid (ls.getD 4 false = true → u10 = .int .i64 (i : Nat)) ∧ Hid (ls.getD 5 false = true → u11 = .pointer (some ⟨bl, ol + i * 5, none⟩)) ∧ Hid (ls.getD 6 false = true → u12 = .pointer (some ⟨bl, ol + i * 5 + 4, none⟩)) ∧ Hid (ls.getD 7 false = true → u13 = .int .i64 x) ∧ Hid (ls.getD 8 false = true → u14 = .pointer (some ⟨b, 0, none⟩)) ∧ Hid (ls.getD 9 false = true → u15 = .pointer (some ⟨b, 0, none⟩)) ∧ Hid (ls.getD 10 false = true → u16 = .pointer (some ⟨b, 0, none⟩)) ∧ Hid (ls.getD 11 false = true → u17 = .slice (some ⟨bl, ol, none⟩) n c) ∧ Hid (ls.getD 12 false = true → u18 = .int .i64 (k : Nat)) ∧ Hid (ls.getD 13 false = true → u19 = .pointer (some ⟨bl, ol + k * 5, none⟩)) ∧ Hid (ls.getD 14 false = true → u20 = .pointer (some ⟨bl, ol + k * 5 + 4, none⟩)) ∧ Hid (ls.getD 15 false = true → u21 = .int .i64 y) ∧ Hid (ls.getD 16 false = true → u22 = .int .i64 (cmpC x y)) ∧ Hid (ls.getD 17 false = true → u23 = .int .i64 (i : Nat)) ∧ Hid (ls.getD 18 false = true → u24 = .int .i64 (k : Nat)) ∧ Hid (ls.getD 19 false = true → u25 = .int .i64 (cmpC (i : Nat) (k : Nat))) ∧ Hid (ls.getD 20 false = true → u26 = .slice (some ⟨W.drew.heap.size, 0, none⟩) 2 2) ∧ Hid (ls.getD 21 false = true → u27 = .int .i64 (orC (cmpC x y) (cmpC (i : Nat) (k : Nat)))) ∧ Hid (ls.getD 22 false = true → u5 = .int .i64 (orC (cmpC x y) (cmpC (i : Nat) (k : Nat)))) ∧ Hid (ls.getD 20 false = false → w9 = W.drew) ∧ Hid (ls.getD 20 false = true → w9 = W.drew.alloc (.cells #[.int .i64 (cmpC x y), .int .i64 (cmpC (i : Nat) (k : Nat))] 3)) := ⟨_, rfl⟩
 have HIH := Lib.hid HIe
 clear HIe
 refine wpAny_inv I ?_ ?_ _ _ _ _ ?_ ?_
 case refine_3 =>
  rw [HIH.out]
  exact ⟨.int .i64 0, undef, undef, undef, undef, undef, undef, undef, undef, undef, undef, undef, undef, undef, undef, undef, undef, undef, undef, undef, undef, undef, undef, rfl, rfl, (Below.refl _ W).drew, (fun h => by cases h), (fun h => by cases h), (fun h => by cases h), (fun h => by cases h), (fun h => by cases h), (fun h => by cases h), (fun h => by cases h), (fun h => by cases h), (fun h => by cases h), (fun h => by cases h), (fun h => by cases h), (fun h => by cases h), (fun h => by cases h), (fun h => by cases h), (fun h => by cases h), (fun h => by cases h), (fun h => by cases h), (fun h => by cases h), (fun h => by cases h), (fun h => by cases h), (fun h => by cases h), (fun h => by cases h), (fun h => by cases h), (fun _ => rfl), (fun h => by cases h)⟩
 case refine_4 => decide
 case refine_2 =>
  intro ls a9 w9 hI hr
  rw [HIH.out] at hI
  obtain ⟨u5, u6, u7, u8, u9, u10, u11, u12, u13, u14, u15, u16, u17, u18, u19, u20, u21, u22, u23, u24, u25, u26, u27, hsz, rfl, hB, f0, f1, f2, f3, f4, f5, f6, f7, f8, f9, f10, f11, f12, f13, f14, f15, f16, f17, f18, f19, f20, f21, f22, q0, q1⟩ := hI
  have hall := all_listed hsz (by kernel_rfl) hr
  have hw := q1.out (hall 20 (by decide))
  have he := f22.out (hall 22 (by decide))
  subst hw
  subst he
  go_wp2
  go_ret
  exact ⟨rfl, rfl⟩
 case refine_1 =>
  intro ls a9 w9 i' hI hi'
  rw [HIH.out] at hI
  obtain ⟨u5, u6, u7, u8, u9, u10, u11, u12, u13, u14, u15, u16, u17, u18, u19, u20, u21, u22, u23, u24, u25, u26, u27, hsz, rfl, hB, f0, f1, f2, f3, f4, f5, f6, f7, f8, f9, f10, f11, f12, f13, f14, f15, f16, f17, f18, f19, f20, f21, f22, q0, q1⟩ := hI
  obtain ⟨hj, op, hop, hall⟩ := mem_ready.1 hi'
  have hlt := (Array.getElem?_eq_some_iff.1 hop).1
  have hlt : i' < 23 := hlt
  have hsz' : (ls.setIfInBounds i' true).size = 23 := by rw [Array.size_setIfInBounds]; exact hsz
  rcases (show i' = 0 ∨ i' = 1 ∨ i' = 2 ∨ i' = 3 ∨ i' = 4 ∨ i' = 5 ∨ i' = 6 ∨ i' = 7 ∨ i' = 8 ∨ i' = 9 ∨ i' = 10 ∨ i' = 11 ∨ i' = 12 ∨ i' = 13 ∨ i' = 14 ∨ i' = 15 ∨ i' = 16 ∨ i' = 17 ∨ i' = 18 ∨ i' = 19 ∨ i' = 20 ∨ i' = 21 ∨ i' = 22 by omega) with rfl | rfl | rfl | rfl | rfl | rfl | rfl | rfl | rfl | rfl | rfl | rfl | rfl | rfl | rfl | rfl | rfl | rfl | rfl | rfl | rfl | rfl | rfl
  ·simp at hop
   subst hop
   refine wpOp_of_list (i := 0) rfl ?_
   have c0 := keepCell hB h0
   have c1 := keepCell hB h1
   have c2 := keepCell hB hx
   have c3 := keepCell hB hy
   go_wp2
   show I _ _ _
   rw [HIH.out]
   exact ⟨_, _, _, _, _, _, _, _, _, _, _, _, _, _, _, _, _, _, _, _, _, _, _, hsz', rfl, hB, (fun _ => rfl), (gx f1), (gx f2), (gx f3), (gx f4), (gx f5), (gx f6), (gx f7), (gx f8), (gx f9), (gx f10), (gx f11), (gx f12), (gx f13), (gx f14), (gx f15), (gx f16), (gx f17), (gx f18), (gx f19), (gx f20), (gx f21), (gx f22), (fun h => q0.out (gd h)), (fun h => q1.out (gd h))⟩
  ·simp at hop
   subst hop
   refine wpOp_of_list (i := 1) rfl ?_
   have e6 := f0.out (hall ⟨0, .data⟩ (by simp) rfl)
   subst e6
   go_wp2
   show I _ _ _
   rw [HIH.out]
   exact ⟨_, _, _, _, _, _, _, _, _, _, _, _, _, _, _, _, _, _, _, _, _, _, _, hsz', rfl, hB, (fun _ => rfl), (fun _ => rfl), (gx f2), (gx f3), (gx f4), (gx f5), (gx f6), (gx f7), (gx f8), (gx f9), (gx f10), (gx f11), (gx f12), (gx f13), (gx f14), (gx f15), (gx f16), (gx f17), (gx f18), (gx f19), (gx f20), (gx f21), (gx f22), (fun h => q0.out (gd h)), (fun h => q1.out (gd h))⟩
  ·simp at hop
   subst hop
   refine wpOp_of_list (i := 2) rfl ?_
   have e7 := f1.out (hall ⟨1, .data⟩ (by simp) rfl)
   subst e7
   go_wp2
   show I _ _ _
   rw [HIH.out]
   exact ⟨_, _, _, _, _, _, _, _, _, _, _, _, _, _, _, _, _, _, _, _, _, _, _, hsz', rfl, hB, (gx f0), (fun _ => rfl), (fun _ => rfl), (gx f3), (gx f4), (gx f5), (gx f6), (gx f7), (gx f8), (gx f9), (gx f10), (gx f11), (gx f12), (gx f13), (gx f14), (gx f15), (gx f16), (gx f17), (gx f18), (gx f19), (gx f20), (gx f21), (gx f22), (fun h => q0.out (gd h)), (fun h => q1.out (gd h))⟩
  ·simp at hop
   subst hop
   refine wpOp_of_list (i := 3) rfl ?_
   have e8 := f2.out (hall ⟨2, .data⟩ (by simp) rfl)
   subst e8
   have c0 := keepCell hB h0
   have c1 := keepCell hB h1
   have c2 := keepCell hB hx
   have c3 := keepCell hB hy
   go_wp2
   show I _ _ _
   rw [HIH.out]
   exact ⟨_, _, _, _, _, _, _, _, _, _, _, _, _, _, _, _, _, _, _, _, _, _, _, hsz', rfl, hB, (gx f0), (gx f1), (fun _ => rfl), (fun _ => rfl), (gx f4), (gx f5), (gx f6), (gx f7), (gx f8), (gx f9), (gx f10), (gx f11), (gx f12), (gx f13), (gx f14), (gx f15), (gx f16), (gx f17), (gx f18), (gx f19), (gx f20), (gx f21), (gx f22), (fun h => q0.out (gd h)), (fun h => q1.out (gd h))⟩
  ·simp at hop
   subst hop
   refine wpOp_of_list (i := 4) rfl ?_
   go_wp2
   show I _ _ _
   rw [HIH.out]
   exact ⟨_, _, _, _, _, _, _, _, _, _, _, _, _, _, _, _, _, _, _, _, _, _, _, hsz', rfl, hB, (gx f0), (gx f1), (gx f2), (gx f3), (fun _ => rfl), (gx f5), (gx f6), (gx f7), (gx f8), (gx f9), (gx f10), (gx f11), (gx f12), (gx f13), (gx f14), (gx f15), (gx f16), (gx f17), (gx f18), (gx f19), (gx f20), (gx f21), (gx f22), (fun h => q0.out (gd h)), (fun h => q1.out (gd h))⟩
  ·simp at hop
   subst hop
   refine wpOp_of_list (i := 5) rfl ?_
   have e9 := f3.out (hall ⟨3, .data⟩ (by simp) rfl)
   subst e9
   have e10 := f4.out (hall ⟨4, .data⟩ (by simp) rfl)
   subst e10
   go_wp2
   show I _ _ _
   rw [HIH.out]
   exact ⟨_, _, _, _, _, _, _, _, _, _, _, _, _, _, _, _, _, _, _, _, _, _, _, hsz', rfl, hB, (gx f0), (gx f1), (gx f2), (fun _ => rfl), (fun _ => rfl), (fun _ => rfl), (gx f6), (gx f7), (gx f8), (gx f9), (gx f10), (gx f11), (gx f12), (gx f13), (gx f14), (gx f15), (gx f16), (gx f17), (gx f18), (gx f19), (gx f20), (gx f21), (gx f22), (fun h => q0.out (gd h)), (fun h => q1.out (gd h))⟩
  ·simp at hop
   subst hop
   refine wpOp_of_list (i := 6) rfl ?_
   have e11 := f5.out (hall ⟨5, .data⟩ (by simp) rfl)
   subst e11
   go_wp2
   show I _ _ _
   rw [HIH.out]
   exact ⟨_, _, _, _, _, _, _, _, _, _, _, _, _, _, _, _, _, _, _, _, _, _, _, hsz', rfl, hB, (gx f0), (gx f1), (gx f2), (gx f3), (gx f4), (fun _ => rfl), (fun _ => rfl), (gx f7), (gx f8), (gx f9), (gx f10), (gx f11), (gx f12), (gx f13), (gx f14), (gx f15), (gx f16), (gx f17), (gx f18), (gx f19), (gx f20), (gx f21), (gx f22), (fun h => q0.out (gd h)), (fun h => q1.out (gd h))⟩
  ·simp at hop
   subst hop
   refine wpOp_of_list (i := 7) rfl ?_
   have e12 := f6.out (hall ⟨6, .data⟩ (by simp) rfl)
   subst e12
   have c0 := keepCell hB h0
   have c1 := keepCell hB h1
   have c2 := keepCell hB hx
   have c3 := keepCell hB hy
   go_wp2
   show I _ _ _
   rw [HIH.out]
   exact ⟨_, _, _, _, _, _, _, _, _, _, _, _, _, _, _, _, _, _, _, _, _, _, _, hsz', rfl, hB, (gx f0), (gx f1), (gx f2), (gx f3), (gx f4), (gx f5), (fun _ => rfl), (fun _ => rfl), (gx f8), (gx f9), (gx f10), (gx f11), (gx f12), (gx f13), (gx f14), (gx f15), (gx f16), (gx f17), (gx f18), (gx f19), (gx f20), (gx f21), (gx f22), (fun h => q0.out (gd h)), (fun h => q1.out (gd h))⟩
  ·simp at hop
   subst hop
   refine wpOp_of_list (i := 8) rfl ?_
   have c0 := keepCell hB h0
   have c1 := keepCell hB h1
   have c2 := keepCell hB hx
   have c3 := keepCell hB hy
   go_wp2
   show I _ _ _
   rw [HIH.out]
   exact ⟨_, _, _, _, _, _, _, _, _, _, _, _, _, _, _, _, _, _, _, _, _, _, _, hsz', rfl, hB, (gx f0), (gx f1), (gx f2), (gx f3), (gx f4), (gx f5), (gx f6), (gx f7), (fun _ => rfl), (gx f9), (gx f10), (gx f11), (gx f12), (gx f13), (gx f14), (gx f15), (gx f16), (gx f17), (gx f18), (gx f19), (gx f20), (gx f21), (gx f22), (fun h => q0.out (gd h)), (fun h => q1.out (gd h))⟩
  ·simp at hop
   subst hop
   refine wpOp_of_list (i := 9) rfl ?_
   have e14 := f8.out (hall ⟨8, .data⟩ (by simp) rfl)
   subst e14
   go_wp2
   show I _ _ _
   rw [HIH.out]
   exact ⟨_, _, _, _, _, _, _, _, _, _, _, _, _, _, _, _, _, _, _, _, _, _, _, hsz', rfl, hB, (gx f0), (gx f1), (gx f2), (gx f3), (gx f4), (gx f5), (gx f6), (gx f7), (fun _ => rfl), (fun _ => rfl), (gx f10), (gx f11), (gx f12), (gx f13), (gx f14), (gx f15), (gx f16), (gx f17), (gx f18), (gx f19), (gx f20), (gx f21), (gx f22), (fun h => q0.out (gd h)), (fun h => q1.out (gd h))⟩
  ·simp at hop
   subst hop
   refine wpOp_of_list (i := 10) rfl ?_
   have e15 := f9.out (hall ⟨9, .data⟩ (by simp) rfl)
   subst e15
   go_wp2
   show I _ _ _
   rw [HIH.out]
   exact ⟨_, _, _, _, _, _, _, _, _, _, _, _, _, _, _, _, _, _, _, _, _, _, _, hsz', rfl, hB, (gx f0), (gx f1), (gx f2), (gx f3), (gx f4), (gx f5), (gx f6), (gx f7), (gx f8), (fun _ => rfl), (fun _ => rfl), (gx f11), (gx f12), (gx f13), (gx f14), (gx f15), (gx f16), (gx f17), (gx f18), (gx f19), (gx f20), (gx f21), (gx f22), (fun h => q0.out (gd h)), (fun h => q1.out (gd h))⟩
  ·simp at hop
   subst hop
   refine wpOp_of_list (i := 11) rfl ?_
   have e16 := f10.out (hall ⟨10, .data⟩ (by simp) rfl)
   subst e16
   have c0 := keepCell hB h0
   have c1 := keepCell hB h1
   have c2 := keepCell hB hx
   have c3 := keepCell hB hy
   go_wp2
   show I _ _ _
   rw [HIH.out]
   exact ⟨_, _, _, _, _, _, _, _, _, _, _, _, _, _, _, _, _, _, _, _, _, _, _, hsz', rfl, hB, (gx f0), (gx f1), (gx f2), (gx f3), (gx f4), (gx f5), (gx f6), (gx f7), (gx f8), (gx f9), (fun _ => rfl), (fun _ => rfl), (gx f12), (gx f13), (gx f14), (gx f15), (gx f16), (gx f17), (gx f18), (gx f19), (gx f20), (gx f21), (gx f22), (fun h => q0.out (gd h)), (fun h => q1.out (gd h))⟩
  ·simp at hop
   subst hop
   refine wpOp_of_list (i := 12) rfl ?_
   go_wp2
   show I _ _ _
   rw [HIH.out]
   exact ⟨_, _, _, _, _, _, _, _, _, _, _, _, _, _, _, _, _, _, _, _, _, _, _, hsz', rfl, hB, (gx f0), (gx f1), (gx f2), (gx f3), (gx f4), (gx f5), (gx f6), (gx f7), (gx f8), (gx f9), (gx f10), (gx f11), (fun _ => rfl), (gx f13), (gx f14), (gx f15), (gx f16), (gx f17), (gx f18), (gx f19), (gx f20), (gx f21), (gx f22), (fun h => q0.out (gd h)), (fun h => q1.out (gd h))⟩
  ·simp at hop
   subst hop
   refine wpOp_of_list (i := 13) rfl ?_
   have e17 := f11.out (hall ⟨11, .data⟩ (by simp) rfl)
   subst e17
   have e18 := f12.out (hall ⟨12, .data⟩ (by simp) rfl)
   subst e18
   go_wp2
   show I _ _ _
   rw [HIH.out]
   exact ⟨_, _, _, _, _, _, _, _, _, _, _, _, _, _, _, _, _, _, _, _, _, _, _, hsz', rfl, hB, (gx f0), (gx f1), (gx f2), (gx f3), (gx f4), (gx f5), (gx f6), (gx f7), (gx f8), (gx f9), (gx f10), (fun _ => rfl), (fun _ => rfl), (fun _ => rfl), (gx f14), (gx f15), (gx f16), (gx f17), (gx f18), (gx f19), (gx f20), (gx f21), (gx f22), (fun h => q0.out (gd h)), (fun h => q1.out (gd h))⟩
  ·simp at hop
   subst hop
   refine wpOp_of_list (i := 14) rfl ?_
   have e19 := f13.out (hall ⟨13, .data⟩ (by simp) rfl)
   subst e19
   go_wp2
   show I _ _ _
   rw [HIH.out]
   exact ⟨_, _, _, _, _, _, _, _, _, _, _, _, _, _, _, _, _, _, _, _, _, _, _, hsz', rfl, hB, (gx f0), (gx f1), (gx f2), (gx f3), (gx f4), (gx f5), (gx f6), (gx f7), (gx f8), (gx f9), (gx f10), (gx f11), (gx f12), (fun _ => rfl), (fun _ => rfl), (gx f15), (gx f16), (gx f17), (gx f18), (gx f19), (gx f20), (gx f21), (gx f22), (fun h => q0.out (gd h)), (fun h => q1.out (gd h))⟩
  ·simp at hop
   subst hop
   refine wpOp_of_list (i := 15) rfl ?_
   have e20 := f14.out (hall ⟨14, .data⟩ (by simp) rfl)
   subst e20
   have c0 := keepCell hB h0
   have c1 := keepCell hB h1
   have c2 := keepCell hB hx
   have c3 := keepCell hB hy
   go_wp2
   show I _ _ _
   rw [HIH.out]
   exact ⟨_, _, _, _, _, _, _, _, _, _, _, _, _, _, _, _, _, _, _, _, _, _, _, hsz', rfl, hB, (gx f0), (gx f1), (gx f2), (gx f3), (gx f4), (gx f5), (gx f6), (gx f7), (gx f8), (gx f9), (gx f10), (gx f11), (gx f12), (gx f13), (fun _ => rfl), (fun _ => rfl), (gx f16), (gx f17), (gx f18), (gx f19), (gx f20), (gx f21), (gx f22), (fun h => q0.out (gd h)), (fun h => q1.out (gd h))⟩
  ·simp at hop
   subst hop
   refine wpOp_of_list (i := 16) rfl ?_
   have e13 := f7.out (hall ⟨7, .data⟩ (by simp) rfl)
   subst e13
   have e21 := f15.out (hall ⟨15, .data⟩ (by simp) rfl)
   subst e21
   go_wp2_with (go_at_call 158; refine (compare_any _ _ w9).mono ?_; rintro e' w8 ⟨rfl, hw8⟩; subst hw8)
   show I _ _ _
   rw [HIH.out]
   exact ⟨_, _, _, _, _, _, _, _, _, _, _, _, _, _, _, _, _, _, _, _, _, _, _, hsz', rfl, hB, (gx f0), (gx f1), (gx f2), (gx f3), (gx f4), (gx f5), (gx f6), (fun _ => rfl), (gx f8), (gx f9), (gx f10), (gx f11), (gx f12), (gx f13), (gx f14), (fun _ => rfl), (fun _ => rfl), (gx f17), (gx f18), (gx f19), (gx f20), (gx f21), (gx f22), (fun h => q0.out (gd h)), (fun h => q1.out (gd h))⟩
  ·simp at hop
   subst hop
   refine wpOp_of_list (i := 17) rfl ?_
   go_wp2
   show I _ _ _
   rw [HIH.out]
   exact ⟨_, _, _, _, _, _, _, _, _, _, _, _, _, _, _, _, _, _, _, _, _, _, _, hsz', rfl, hB, (gx f0), (gx f1), (gx f2), (gx f3), (gx f4), (gx f5), (gx f6), (gx f7), (gx f8), (gx f9), (gx f10), (gx f11), (gx f12), (gx f13), (gx f14), (gx f15), (gx f16), (fun _ => rfl), (gx f18), (gx f19), (gx f20), (gx f21), (gx f22), (fun h => q0.out (gd h)), (fun h => q1.out (gd h))⟩
  ·simp at hop
   subst hop
   refine wpOp_of_list (i := 18) rfl ?_
   go_wp2
   show I _ _ _
   rw [HIH.out]
   exact ⟨_, _, _, _, _, _, _, _, _, _, _, _, _, _, _, _, _, _, _, _, _, _, _, hsz', rfl, hB, (gx f0), (gx f1), (gx f2), (gx f3), (gx f4), (gx f5), (gx f6), (gx f7), (gx f8), (gx f9), (gx f10), (gx f11), (gx f12), (gx f13), (gx f14), (gx f15), (gx f16), (gx f17), (fun _ => rfl), (gx f19), (gx f20), (gx f21), (gx f22), (fun h => q0.out (gd h)), (fun h => q1.out (gd h))⟩
  ·simp at hop
   subst hop
   refine wpOp_of_list (i := 19) rfl ?_
   have e23 := f17.out (hall ⟨17, .data⟩ (by simp) rfl)
   subst e23
   have e24 := f18.out (hall ⟨18, .data⟩ (by simp) rfl)
   subst e24
   go_wp2_with (go_at_call 158; refine (compare_any _ _ w9).mono ?_; rintro e' w8 ⟨rfl, hw8⟩; subst hw8)
   show I _ _ _
   rw [HIH.out]
   exact ⟨_, _, _, _, _, _, _, _, _, _, _, _, _, _, _, _, _, _, _, _, _, _, _, hsz', rfl, hB, (gx f0), (gx f1), (gx f2), (gx f3), (gx f4), (gx f5), (gx f6), (gx f7), (gx f8), (gx f9), (gx f10), (gx f11), (gx f12), (gx f13), (gx f14), (gx f15), (gx f16), (fun _ => rfl), (fun _ => rfl), (fun _ => rfl), (gx f20), (gx f21), (gx f22), (fun h => q0.out (gd h)), (fun h => q1.out (gd h))⟩
  ·simp at hop
   subst hop
   refine wpOp_of_list (i := 20) rfl ?_
   have e22 := f16.out (hall ⟨16, .data⟩ (by simp) rfl)
   subst e22
   have e25 := f19.out (hall ⟨19, .data⟩ (by simp) rfl)
   subst e25
   have hna : ls.getD 20 false = false := by
    cases hq : ls.getD 20 false with
    | false => rfl
    | true =>
     have hq2 := getD_false hj
     rw [Array.getD_eq_getD_getElem?, hq2] at hq
     cases hq
   have hwe := q0.out hna
   subst hwe
   have hB' : Below W.heap.size W (W.drew.alloc (.cells #[.int .i64 (cmpC x y), .int .i64 (cmpC (i : Nat) (k : Nat))] 3)) := (Below.refl _ W).drew.alloc (Nat.le_refl _) _
   go_wp2
   show I _ _ _
   rw [HIH.out]
   exact ⟨_, _, _, _, _, _, _, _, _, _, _, _, _, _, _, _, _, _, _, _, _, _, _, hsz', rfl, hB', (gx f0), (gx f1), (gx f2), (gx f3), (gx f4), (gx f5), (gx f6), (gx f7), (gx f8), (gx f9), (gx f10), (gx f11), (gx f12), (gx f13), (gx f14), (gx f15), (fun _ => rfl), (gx f17), (gx f18), (fun _ => rfl), (fun _ => rfl), (gx f21), (gx f22), (fun h => by rw [getD_self (by omega)] at h; cases h), (fun _ => rfl)⟩
  ·simp at hop
   subst hop
   refine wpOp_of_list (i := 21) rfl ?_
   have e26 := f20.out (hall ⟨20, .data⟩ (by simp) rfl)
   subst e26
   have hw1 := q1.out (hall ⟨20, .data⟩ (by simp) rfl)
   have hr0 : w9.cell? ⟨W.drew.heap.size, 0, none⟩ = some (.int .i64 (cmpC x y)) := by rw [hw1]; simp [go_sem]
   have hr1 : w9.cell? ⟨W.drew.heap.size, 1, none⟩ = some (.int .i64 (cmpC (i : Nat) (k : Nat))) := by rw [hw1]; simp [go_sem]
   clear hw1
   go_wp2_with (go_at_call 157; refine (or_any _ _ _ w9 hr0 hr1).mono ?_; rintro e' w8 ⟨rfl, hw8⟩; subst hw8)
   show I _ _ _
   rw [HIH.out]
   exact ⟨_, _, _, _, _, _, _, _, _, _, _, _, _, _, _, _, _, _, _, _, _, _, _, hsz', rfl, hB, (gx f0), (gx f1), (gx f2), (gx f3), (gx f4), (gx f5), (gx f6), (gx f7), (gx f8), (gx f9), (gx f10), (gx f11), (gx f12), (gx f13), (gx f14), (gx f15), (gx f16), (gx f17), (gx f18), (gx f19), (fun _ => rfl), (fun _ => rfl), (gx f22), (fun h => q0.out (gd h)), (fun h => q1.out (gd h))⟩
  ·simp at hop
   subst hop
   refine wpOp_of_list (i := 22) rfl ?_
   have e27 := f21.out (hall ⟨21, .data⟩ (by simp) rfl)
   subst e27
   go_wp2
   show I _ _ _
   rw [HIH.out]
   exact ⟨_, _, _, _, _, _, _, _, _, _, _, _, _, _, _, _, _, _, _, _, _, _, _, hsz', rfl, hB, (gx f0), (gx f1), (gx f2), (gx f3), (gx f4), (gx f5), (gx f6), (gx f7), (gx f8), (gx f9), (gx f10), (gx f11), (gx f12), (gx f13), (gx f14), (gx f15), (gx f16), (gx f17), (gx f18), (gx f19), (gx f20), (fun _ => rfl), (fun _ => rfl), (fun h => q0.out (gd h)), (fun h => q1.out (gd h))⟩
end Go.Proofs.YtlbjfbpejomkmaaGreat
namespace Go.Proofs.YtlbjfbpejomkmaaGreat
open Go.RowKit Wk Go.Sort Go.Shelf

def frL (l : List Tk) (d : List Bool) (k : Nat) : List Nat := (List.range k).filter (freeB l d)
theorem frL_succ (l : List Tk) (d : List Bool) (k : Nat) : frL l d (k + 1) = if freeB l d k = true then frL l d k ++ [k] else frL l d k := by
 unfold frL
 rw [List.range_succ, List.filter_append]
 cases h : freeB l d k <;> simp [h]
theorem frL_len (l : List Tk) (d : List Bool) (k : Nat) : (frL l d k).length ≤ k := by
 unfold frL
 have := List.length_filter_le (freeB l d) (List.range k)
 rwa [List.length_range] at this
theorem free_any (l : List Tk) (d : List Bool) (i : Nat) : freeB l d i = (!(dAt d i) && !((tkAt l i).af.any fun j => !dAt d j.toNat)) := by
 unfold freeB dAt
 congr 1
 rw [List.not_any_eq_all_not]
 congr 1
 funext j
 simp
theorem natI_append (L : List Nat) (k : Nat) : natI (L ++ [k]) = natI L ++ [(k : Int)] := by unfold natI; rw [List.map_append]; rfl
def RyPost (l : List Tk) (d : List Bool) (w : World) (e : Ending) (w' : World) : Prop := ∃ v, e = .returned v ∧ OwnI w' w.heap.size v (natI (readyM l d)) ∧ Below w.heap.size w w'
theorem sortJ_nil (l : List Tk) (fv : Value) (w0 W : World) (hb : Below w0.heap.size w0 W) : Calls Tryz.prog 155 #[.slice none 0 0, fv] W (SjPost l (.slice none 0 0) [] w0) :=
 (AnyF.slices_SortFunc_none { Tryz.sortIn with } none 0 _ W).mono fun e w' ⟨he, hw⟩ => by subst hw; exact ⟨[], he, List.Perm.refl _, List.Pairwise.nil, OwnI.nil _ _, hb⟩

set_option maxRecDepth 100000 in
set_option maxHeartbeats 8000000 in
theorem ready_any (b ba bd : Nat) (vl vR : Value) (start left : Int) (out : Bool) (am : List Sp) (d : List Bool) (L : List Kv) (w : World) (hS : SrW w b ba bd vl vR start left out am d) (hL : RdK w vl L) (hd : d.length = L.length)
  (haf : ∀ i, i < L.length → ∀ j ∈ (L.getD i kv0).1.af, 0 ≤ j ∧ j.toNat < L.length) (hlen : L.length ≤ 1000) :
  Calls Tryz.prog 120 #[.pointer (some ⟨b, 0, none⟩)] w (RyPost (tks L) d w) := by
 obtain ⟨a, c, rfl, hl, hc⟩ := hL
 obtain ⟨W, hWe⟩ : ∃ W, w.alloc (.cells #[.pointer (some ⟨b, 0, none⟩)] 104) = W := ⟨_, rfl⟩
 have hB0 : Below w.heap.size w W := by rw [← hWe]; exact (Below.refl _ _).alloc (Nat.le_refl _) _
 have hP : W.cell? ⟨w.heap.size, 0, none⟩ = some (.pointer (some ⟨b, 0, none⟩)) := by rw [← hWe]; simp [go_sem]
 have HP := Lib.hid hP
 clear hP
 have hW1 : W.heap.size = w.heap.size + 1 := by rw [← hWe]; simp
 have HS := Lib.hid (hS.below hB0)
 have HC : Hid (∀ i, i < L.length → RdJ W (L.getD i kv0).2 (L.getD i kv0).1.af ∧ ∃ b o, a = some ⟨b, o, none⟩ ∧ Cells5 W b (o + i * 5) (L.getD i kv0)) := fun i hi => by
  obtain ⟨h1, bl, ol, e, h2⟩ := hc i hi
  exact ⟨h1.below hB0, bl, ol, e, h2.below hB0⟩
 have HAF := Lib.hid haf
 have HE := Lib.hid hWe
 have HB0 := Lib.hid hB0
 have HW1 := Lib.hid hW1
 clear hWe hS hc haf hB0 hW1
 have c0 := HS.out.c0
 rw [← HE.out] at c0
 go_enter Tryz.func120, Tryz.ntmps120
 go_wp2_with fail
 rw [HE.out]
 clear c0
 go_loopw [3, 11] (fun u i wr => ∃ k : Nat, k ≤ L.length ∧ i = .int .i64 k ∧ OwnI wr W.heap.size u (natI (frL (tks L) d k)) ∧ Hid (k = 0 → u = .slice none 0 0) ∧ Below W.heap.size W wr) (fun _ i _ => L.length - (intOf i).toNat)
 case atStart => exact ⟨0, Nat.zero_le _, rfl, OwnI.nil _ _, fun _ => rfl, Below.refl _ _⟩
 case round =>
  obtain ⟨k, hk, rfl, ho, hz, hB⟩ := hrel
  have S := HS.out.below hB
  by_cases hlt : k < L.length
  ·obtain ⟨hj, bl, ol, rfl, q0, q1, q2, q3, q4⟩ := HC.out k hlt
   obtain ⟨x, hx⟩ : ∃ x, L.getD k kv0 = x := ⟨_, rfl⟩
   rw [hx] at hj q0 q1 q2 q3 q4
   have hjr := hj.below hB
   obtain ⟨a1, n1, e1⟩ := hj.form
   rw [e1] at q3 hjr
   have p0 := keepCell hB q0
   have p1 := keepCell hB q1
   have p2 := keepCell hB q2
   have p3 := keepCell hB q3
   have p4 := keepCell hB q4
   have hsz := hB.size
   obtain ⟨O, hO⟩ : ∃ O, (Obj.cells #[.string x.1.nm, .int .i64 x.1.wk, .int .i64 x.1.rs, .slice a1 x.1.af.length n1, .int .i64 x.1.du] 44) = O := ⟨_, rfl⟩
   have hB5 : Below wr.heap.size wr (wr.alloc O) := (Below.refl _ _).alloc (Nat.le_refl _) _
   have S5 := S.below hB5
   have HXE := Lib.hid hx
   have hpb := keepCell hB5 (keepCell hB HP.out)
   have s6 := S5.c6
   have sd := (S5.pd k (by omega)).1
   have t3 : (wr.alloc O).cell? ⟨wr.heap.size, 3, none⟩ = some (.slice a1 x.1.af.length n1) := by rw [← hO]; simp [go_sem]
   have hj5 := hjr.below hB5
   have ho5 := ho.alloc O
   have hBW := hB.alloc hsz O
   rw [hd] at s6
   rw [← hO] at hpb s6 sd t3
   have HFR : Hid (freeB (tks L) d k = (!(dAt d k) && !(x.1.af.any fun j => !dAt d j.toNat))) := by
    unfold Hid
    rw [free_any, tks_at, hx]
   have HFS := Lib.hid (frL_succ (tks L) d k)
   have HLN := Lib.hid (frL_len (tks L) d k)
   have HAX : Hid (∀ j ∈ x.1.af, 0 ≤ j ∧ j.toNat < L.length) := by
    have := HAF.out k hlt
    rw [hx] at this
    exact this
   have HCF : Hid (Calls Tryz.prog 87 #[.slice a1 x.1.af.length n1, .func (.func 154) #[] #[.pointer (some ⟨w.heap.size, 0, none⟩)]] (wr.alloc O) fun e w' => e = .returned (.bool (x.1.af.any fun j => !dAt d j.toNat)) ∧ Below (wr.alloc O).heap.size (wr.alloc O) w') := by
    refine con_ready w.heap.size (fun j => !dAt d j.toNat) _ _ _ hj5 ?_
    intro j hjm W' hW'
    obtain ⟨hj0, hj1⟩ := HAX.out j hjm
    have h := ready1_any j.toNat w.heap.size b bd L.length d W' hd hj1 (keepCell hW' (keepCell hB5 (keepCell hB HP.out))) (by have := (S5.below hW').c6; rwa [hd] at this) (S5.below hW').pd
    rw [Int.toNat_of_nonneg hj0] at h
    exact h.mono fun e w' ⟨he, hw⟩ => ⟨he, by rw [← hw]; exact Below.refl _ _⟩
   have HO5 := Lib.hid ho5
   have HBW := Lib.hid hBW
   have HOE := Lib.hid hO
   clear hx e1 hj hjr q0 q1 q2 q3 q4 S S5 hj5 ho5 hBW hB5 hO ho hB
   obtain ⟨dk, hdk⟩ : ∃ dk, dAt d k = dk := ⟨_, rfl⟩
   rw [hdk] at sd HFR
   clear hdk
   cases dk with
   | true =>
    have HNF : Hid (freeB (tks L) d k = false) := by unfold Hid; rw [HFR.out]; rfl
    go_wp2_with fail
    rw [HOE.out]
    go_wp2
    go_roundw
    case rel => exact ⟨k + 1, by omega, by go_num, by rw [HFS.out, HNF.out]; simpa using HO5.out, fun h => by omega, HBW.out⟩
    case measure => simp [intOf]; omega
   | false =>
    obtain ⟨g, hg⟩ : ∃ g, (x.1.af.any fun j => !dAt d j.toNat) = g := ⟨_, rfl⟩
    rw [hg] at HCF HFR
    clear hg
    go_wp2_with fail
    rw [HOE.out]
    refine HCF.out.mono ?_
    rintro e w1 ⟨rfl, hb1⟩
    have o1 := HO5.out.below hb1
    have b1 := HBW.out.trans (hb1.mono (by simp; omega))
    clear p0 p1 p2 p3 p4 hpb s6 sd t3
    cases g with
    | true =>
     have HNF : Hid (freeB (tks L) d k = false) := by unfold Hid; rw [HFR.out]; rfl
     go_wp2
     go_roundw
     case rel => exact ⟨k + 1, by omega, by go_num, by rw [HFS.out, HNF.out]; simpa using o1, fun h => by omega, b1⟩
     case measure => simp [intOf]; omega
    | false =>
     have HNF : Hid (freeB (tks L) d k = true) := by unfold Hid; rw [HFR.out]; rfl
     have hfl := HLN.out
     go_wp2_with (at_builtin; refine wpList_app_int rfl (.tmp 31) (.tmp 33) rfl rfl o1 b1 rfl (by simp) (by rw [natI_length]; omega) ?_; intro v2 w2 o2 b2 k2 z2; clear k2 z2)
     go_roundw
     case rel => exact ⟨k + 1, by omega, by go_num, by rw [HFS.out, HNF.out, if_pos rfl, natI_append]; exact o2, fun h => by omega, b2⟩
     case measure => simp [intOf]; omega
  ·have hkl : k = L.length := by omega
   subst hkl
   obtain ⟨F, hF⟩ : ∃ F, frL (tks L) d L.length = F := ⟨_, rfl⟩
   rw [hF] at ho
   have HF : Hid (F = (List.range (tks L).length).filter (freeB (tks L) d)) := by unfold Hid; rw [← hF, tks_length]; rfl
   have HSF : Hid (Calls Tryz.prog 155 #[u3, .func (.func 156) #[] #[.pointer (some ⟨w.heap.size, 0, none⟩)]] wr (SjPost (tks L) u3 F W)) := by
    by_cases h0 : L.length = 0
    ·have e := hz.out h0
     have hF0 : F = [] := by rw [HF.out, tks_length, h0]; rfl
     rw [e, hF0]
     exact sortJ_nil _ _ W wr hB
    ·refine sortJ_own (tks L) (L.length - 1) 156 #[.pointer (some ⟨w.heap.size, 0, none⟩)] u3 F W wr (enters_of Tryz.func156 (by kernel_rfl) rfl) ?_ ho hB ?_ ?_
     ·intro i m hi hm W' hW'
      obtain ⟨_, bl, ol, rfl, _, _, _, _, ci⟩ := HC.out i (by omega)
      obtain ⟨_, bl2, ol2, e2, _, _, _, _, cm⟩ := HC.out m (by omega)
      cases e2
      have S' := HS.out.below hW'
      have h := ready2_any i m L.length c (L.getD i kv0).1.du (L.getD m kv0).1.du w.heap.size b bl ol W' (by omega) (by omega) (keepCell hW' HP.out) S'.c0 (keepCell hW' ci) (keepCell hW' cm)
      refine h.mono fun e w' ⟨he, hw⟩ => ⟨?_, 1, _, hw.trans (alloc_eq_grow _ _)⟩
      rw [he, ← cmpD_eq]
      unfold dueOf
      rw [tks_at, tks_at]
     ·intro i hi
      rw [HF.out] at hi
      have := List.mem_range.1 (List.mem_filter.1 hi).1
      rw [tks_length] at this
      omega
     ·have := frL_len (tks L) d L.length
      rw [hF] at this
      omega
   clear hF ho hB hz S
   go_wp2_with fail
   refine HSF.out.mono ?_
   rintro e w1 ⟨L', rfl, hp, hso, o1, b1⟩
   have HRD : Hid (L' = readyM (tks L) d) := ready_uniq (by rw [← HF.out]; exact hp) hso
   have HO1 := Lib.hid (o1.mono (B' := w.heap.size) (by have := HW1.out; omega))
   have HB1 := Lib.hid (HB0.out.trans (b1.mono (by have := HW1.out; omega)))
   clear hp hso o1 b1
   go_wp2
   go_ret
   exact ⟨_, rfl, by rw [← HRD.out]; exact HO1.out, HB1.out⟩
end Go.Proofs.YtlbjfbpejomkmaaGreat
