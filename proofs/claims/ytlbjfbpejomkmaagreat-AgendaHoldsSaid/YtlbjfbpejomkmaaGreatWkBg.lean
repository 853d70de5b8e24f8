import Derived.Test.YtlbjfbpejomkmaaGreatWkBa
import Derived.Sort.OwnSortedInts
import Derived.Shelf.SlSortCmp.WholeK
import Derived.Shelf.SlSortCmp.NoneTotal
import Derived.Test.YtlbjfbpejomkmaaGreatWkShelfS
import Derived.Test.YtlbjfbpejomkmaaGreatWkRfA
import Derived.Test.YtlbjfbpejomkmaaGreatWkPq
/- slices.SortFunc on a list of spans of the call's own, by the library's contract. -/
namespace Go.Proofs.YtlbjfbpejomkmaaGreat
open Go.RowKit Wk Go.Sort Go.Shelf

structure BSp where
  val : Sp
  lo : -1152921504606846976 ≤ val.1
  hi : val.1 ≤ 1152921504606846976
instance : Inhabited BSp := ⟨⟨(0, 0), by decide, by decide⟩⟩
def valB (x : BSp) : Sp := x.val
theorem liftB : ∀ L : List Sp, (∀ s ∈ L, -1152921504606846976 ≤ s.1 ∧ s.1 ≤ 1152921504606846976) → ∃ d : List BSp, d.map valB = L
  | [], _ => ⟨[], rfl⟩
  | s :: r, h => by
    obtain ⟨d, hd⟩ := liftB r fun t ht => h t (by simp [ht])
    exact ⟨⟨s, (h s (by simp)).1, (h s (by simp)).2⟩ :: d, by rw [List.map_cons, hd]; rfl⟩
def encB (x : BSp) : List Value := [.int .i64 (valB x).1, .int .i64 (valB x).2]
def cmpB (x y : BSp) : Int := (valB x).1 - (valB y).1
theorem ltB (x y : BSp) : ltOf cmpB x y = decide ((valB x).1 < (valB y).1) := by
  unfold ltOf cmpB
  rw [Bool.eq_iff_iff]
  simp
  omega
theorem swoB : SWO (ltOf cmpB) where
  irrefl x := by rw [ltB]; simp
  trans x y z h1 h2 := by rw [ltB] at *; simp at *; omega
  ntrans x y z h1 h2 := by rw [ltB] at *; simp at *; omega
theorem getB (d : Array BSp) (i : Nat) (hi : i < d.size) : (d.toList.map valB).getD i (0, 0) = valB d[i]! := by
  rw [List.getD_eq_getElem?_getD, List.getElem?_map, Array.getElem?_toList, Array.getElem?_eq_getElem hi, getElem!_pos d i hi]
  rfl
theorem flatK_flatS (d : Array BSp) : flatK encB 2 d = (flatS (d.toList.map valB)).toArray := by
  refine ext_get! (by simp [flatS_length]) fun t ht => ?_
  have ht' : t < d.size * 2 := by simpa using ht
  rw [get_flatK _ _ _ _ ht']
  have hi : t / 2 < d.size := by omega
  have hg := flatS_get (d.toList.map valB) (t / 2) (by simpa using hi)
  rw [getB d _ hi] at hg
  have hr : ((flatS (d.toList.map valB)).toArray)[t]! = ((flatS (d.toList.map valB))[t]?).getD default := by
    rw [getElem!_def]
    simp only [List.getElem?_toArray]
    cases (flatS (d.toList.map valB))[t]? <;> rfl
  rw [hr]
  rcases Nat.mod_two_eq_zero_or_one t with h | h
  · rw [h, show t = t / 2 * 2 by omega, hg.1, show t / 2 * 2 / 2 = t / 2 by omega]; rfl
  · rw [h, show t = t / 2 * 2 + 1 by omega, hg.2, show (t / 2 * 2 + 1) / 2 = t / 2 by omega]; rfl

theorem holds_of_blockS {w : World} {g : Nat} {cur : Array Value} {e : TypeId} {F : List Value} (hb : w.heap[g]? = some (.cells cur e (0, 0))) (ht : cur.toList.take F.length = F) : Holds id w g 0 F.toArray := by
  intro j hj
  have hj' : j < F.length := by simpa using hj
  refine ⟨?_, by simp [World.frozen?, hb]⟩
  have h1 : (cur.toList.take F.length)[j]? = F[j]? := by rw [ht]
  rw [List.getElem?_take_of_lt hj'] at h1
  simp only [World.cell?, hb, Nat.zero_add]
  simp only [Option.isSome_none, Bool.false_eq_true, if_false]
  rw [← Array.getElem?_toList, h1]
  simp [hj']
theorem heap_sortedS {w : World} {g n : Nat} {os : Array Obj} {cur : Array Value} {e : TypeId} {fr : Nat × Nat} (d : Array Value) (hb : w.heap[g]? = some (.cells cur e fr)) :
    (grow (putRow id (Sort.ahead w n) g 0 d) os).heap[g]? = some (.cells (putCells id 0 d cur) e fr) := by
  have hg : g < w.heap.size := (Array.getElem?_eq_some_iff.1 hb).1
  rw [heap_grow_old _ _ (by simpa using hg)]
  simp [putRow, mapBlock, Sort.ahead, Array.getElem?_modify, hb, onCells]
theorem grownBy_sortedS {w : World} {g n : Nat} {os : Array Obj} (d : Array Value) : w.grownBy (grow (putRow id (Sort.ahead w n) g 0 d) os) (some g) := by
  refine ⟨rfl, rfl, rfl, by simp, fun k hk hne => ?_⟩
  rw [heap_grow_old _ _ (by simpa using hk)]
  have : g ≠ k := fun e => hne (by rw [e])
  simp [putRow, mapBlock, Sort.ahead, Array.getElem?_modify, this]
theorem take_putCellsS (cur : Array Value) (ts : List Value) (h : ts.length ≤ cur.size) : (putCells id 0 ts.toArray cur).toList.take ts.length = ts := by
  apply List.ext_getElem?
  intro j
  by_cases hj : j < ts.length
  · rw [List.getElem?_take_of_lt hj, Array.getElem?_toList]
    simp [putCells, hj, show j < cur.size by omega]
  · rw [List.getElem?_take_eq_none (by omega), List.getElem?_eq_none (by omega)]

theorem isAggSpan (w : World) : (isAgg 46).run Tryz.prog w = .ok true w := by
  exact Tryz.isAgg46 w
theorem sizeOfSpan (w : World) : (Go.sizeOf 46).run Tryz.prog w = .ok 2 w := by
  exact Tryz.sizeOf46 w

def CmpFrom (g : Nat) : Prop := ∀ (x y : BSp) (W : World), Calls Tryz.prog g #[.agg #[.int .i64 (valB x).1, .int .i64 (valB x).2], .agg #[.int .i64 (valB y).1, .int .i64 (valB y).2]] W fun e w' => e = .returned (.int .i64 ((valB x).1 - (valB y).1)) ∧ ∃ q os', w' = grow (W.drewN q) os'
def SfPost (v : Value) (L : List Sp) (w0 : World) (e : Ending) (w' : World) : Prop := ∃ L', e = .returned (.tuple #[]) ∧ L'.Perm L ∧ L'.Pairwise (fun a b => a.1 ≤ b.1) ∧ OwnS w' w0.heap.size v L' ∧ Below w0.heap.size w0 w'

theorem sortF_own (g : Nat) (hg : CmpFrom g) (eg : ∀ args w, (callFunc g args).run Tryz.prog w = .ok (.enter g args) w) (v : Value) (L : List Sp) (w0 W : World) (h : OwnS W w0.heap.size v L) (hb : Below w0.heap.size w0 W) (hbd : ∀ s ∈ L, -1152921504606846976 ≤ s.1 ∧ s.1 ≤ 1152921504606846976) (hl : L.length < 1000000000000) :
    Calls Tryz.prog 94 #[v, .func (.func g) #[] #[]] W (SfPost v L w0) := by
  have hlt := h.lt
  have h' := h
  rcases h.2 with ⟨rfl, h0⟩ | ⟨b, cap, cur, rfl, hgb, hgg, hn, hcap, hsz, htk⟩
  · obtain rfl : L = [] := List.eq_nil_of_length_eq_zero h0
    exact (AnyF.slices_SortFunc_none Tryz.sortSp none 0 _ W).mono fun e w' ⟨he, hw⟩ => by subst hw; exact ⟨[], he, List.Perm.refl _, List.Pairwise.nil, OwnS.nil _ _, hb⟩
  · obtain ⟨d, hd⟩ := liftB L hbd
    have hdl : d.length = L.length := by rw [← hd, List.length_map]
    have hF : flatK encB 2 d.toArray = (flatS L).toArray := by rw [flatK_flatS, hd]
    have hH : HoldsK encB 2 W b 0 d.toArray := by
      unfold HoldsK
      rw [hF]
      exact holds_of_blockS hgg (by rw [flatS_length]; exact htk)
    have hc := AnyQ.slices_SortFunc Tryz.sortSp 2 isAggSpan sizeOfSpan encB (fun _ => rfl) (fun x v hv => by simp [encB] at hv; rcases hv with rfl | rfl <;> rfl) cmpB swoB g #[] b 0 cap d.toArray W eg (fun _ _ _ _ x y => hg x y _) hH (hlt b rfl).2 (by simp; omega)
    rw [show d.toArray.size = L.length by simpa using hdl] at hc
    refine hc.mono ?_
    rintro e w' ⟨he, d', n, os, ⟨p1, _, p3⟩, hso, rfl⟩
    have hs' : d'.size = L.length := by rw [p1]; simpa using hdl
    have hperm : d'.toList.Perm d := by
      have := p3
      rw [show d'.extract 0 L.length = d' by rw [← hs']; simp, show d.toArray.extract 0 L.length = d.toArray by rw [← hdl]; simp] at this
      simpa using this
    refine ⟨d'.toList.map valB, he, by rw [← hd]; exact hperm.map _, ?_, ?_, ?_⟩
    · rw [List.pairwise_map, List.pairwise_iff_getElem]
      intro i j hi hj hij
      have h1 := hso i j (Nat.zero_le _) hij (by rw [← hs']; simpa using hj)
      rw [ltB] at h1
      have hi' : i < d'.size := by simpa using hi
      have hj' : j < d'.size := by simpa using hj
      rw [getElem!_pos d' i hi', getElem!_pos d' j hj'] at h1
      simp only [Array.getElem_toList]
      simpa using h1
    · unfold sortWorldK putRowK
      rw [flatK_flatS]
      unfold OwnS
      have hlm : (d'.toList.map valB).length = L.length := by simpa using hs'
      rw [hlm]
      have hfl : (flatS (d'.toList.map valB)).length = L.length * 2 := by rw [flatS_length, hlm]
      refine ⟨hfl, .inr ⟨b, cap, _, rfl, hgb, heap_sortedS _ hgg, hn, hcap, by simp [putCells, hsz], ?_⟩⟩
      have := take_putCellsS cur (flatS (d'.toList.map valB)) (by rw [hfl, hsz]; exact Nat.mul_le_mul_right 2 hn)
      rw [hfl] at this
      exact this
    · unfold sortWorldK putRowK
      exact hb.grown (grownBy_sortedS _) hb.size (fun k hk => by cases hk; exact hgb)
end Go.Proofs.YtlbjfbpejomkmaaGreat
namespace Go.Proofs.YtlbjfbpejomkmaaGreat
open Go.RowKit Wk

end Go.Proofs.YtlbjfbpejomkmaaGreat
