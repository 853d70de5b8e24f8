import Derived.Test.YtmfdnbfjdhlonaaGreatDoorWkBa
import Derived.Sort.OwnSortedInts
import Derived.Shelf.SlSortCmp.WholeK
import Derived.Shelf.SlSortCmp.NoneTotal
import Derived.Test.YtmfdnbfjdhlonaaGreatDoorWkShelfS
import Derived.Test.YtmfdnbfjdhlonaaGreatDoorWkRfA
import Derived.Test.YtmfdnbfjdhlonaaGreatDoorWkPn
/- slices.SortFunc on a list of spans of the call's own, by the library's contract. -/
namespace Go.Proofs.YtmfdnbfjdhlonaaGreatDoor
open Go.RowKit Wk Go.Sort Go.Shelf

structure BSp where
 val : Sp
 lo : -1152921504606846976 ≤ val.1
 hi : val.1 ≤ 1152921504606846976
instance : Inhabited BSp := ⟨⟨(0, 0), by decide, by decide⟩⟩
def valB (x : BSp) : Sp := x.val
theorem liftB : ∀ L : List Sp, (∀ s ∈ L, -1152921504606846976 ≤ s.1 ∧ s.1 ≤ 1152921504606846976) → ∃ d : List BSp, d.map valB = L
 | [], _ => ⟨[], rfl⟩
 | s :: r, h => by
  obtain ⟨d, hd⟩ := liftB r fun t ht => h t (by simp [ht])
  exact ⟨⟨s, (h s (by simp)).1, (h s (by simp)).2⟩ :: d, by rw [List.map_cons, hd]; rfl⟩
def encB (x : BSp) : List Value := [.int .i64 (valB x).1, .int .i64 (valB x).2]
def cmpB (x y : BSp) : Int := (valB x).1 - (valB y).1
theorem ltB (x y : BSp) : ltOf cmpB x y = decide ((valB x).1 < (valB y).1) := by
 unfold ltOf cmpB
 rw [Bool.eq_iff_iff]
 simp
 omega
theorem swoB : SWO (ltOf cmpB) where
 irrefl x := by rw [ltB]; simp
 trans x y z h1 h2 := by rw [ltB] at *; simp at *; omega
 ntrans x y z h1 h2 := by rw [ltB] at *; simp at *; omega
theorem getB (d : Array BSp) (i : Nat) (hi : i < d.size) : (d.toList.map valB).getD i (0, 0) = valB d[i]! := by
 rw [List.getD_eq_getElem?_getD, List.getElem?_map, Array.getElem?_toList, Array.getElem?_eq_getElem hi, getElem!_pos d i hi]
 rfl
theorem flatK_flatS (d : Array BSp) : flatK encB 2 d = (flatS (d.toList.map valB)).toArray := by
 refine ext_get! (by simp [flatS_length]) fun t ht => ?_
 have ht' : t < d.size * 2 := by simpa using ht
 rw [get_flatK _ _ _ _ ht']
 have hi : t / 2 < d.size := by omega
 have hg := flatS_get (d.toList.map valB) (t / 2) (by simpa using hi)
 rw [getB d _ hi] at hg
 have hr : ((flatS (d.toList.map valB)).toArray)[t]! = ((flatS (d.toList.map valB))[t]?).getD default := by
  rw [getElem!_def]
  simp only [List.getElem?_toArray]
  cases (flatS (d.toList.map valB))[t]? <;> rfl
 rw [hr]
 rcases Nat.mod_two_eq_zero_or_one t with h | h
 ·rw [h, show t = t / 2 * 2 by omega, hg.1, show t / 2 * 2 / 2 = t / 2 by omega]; rfl
 ·rw [h, show t = t / 2 * 2 + 1 by omega, hg.2, show (t / 2 * 2 + 1) / 2 = t / 2 by omega]; rfl

theorem holds_of_blockS {w : World} {g : Nat} {cur : Array Value} {e : TypeId} {F : List Value} (hb : w.heap[g]? = some (.cells cur e (0, 0))) (ht : cur.toList.take F.length = F) : Holds id w g 0 F.toArray := by
 intro j hj
 have hj' : j < F.length := by simpa using hj
 refine ⟨?_, by simp [World.frozen?, hb]⟩
 have h1 : (cur.toList.take F.length)[j]? = F[j]? := by rw [ht]
 rw [List.getElem?_take_of_lt hj'] at h1
 simp only [World.cell?, hb, Nat.zero_add]
 simp only [Option.isSome_none, Bool.false_eq_true, if_false]
 rw [← Array.getElem?_toList, h1]
 simp [hj']
theorem heap_sortedS {w : World} {g n : Nat} {os : Array Obj} {cur : Array Value} {e : TypeId} {fr : Nat × Nat} (d : Array Value) (hb : w.heap[g]? = some (.cells cur e fr)) :
  (grow (putRow id (Sort.ahead w n) g 0 d) os).heap[g]? = some (.cells (putCells id 0 d cur) e fr) := by
 have hg : g < w.heap.size := (Array.getElem?_eq_some_iff.1 hb).1
 rw [heap_grow_old _ _ (by simpa using hg)]
 simp [putRow, mapBlock, Sort.ahead, Array.getElem?_modify, hb, onCells]
theorem grownBy_sortedS {w : World} {g n : Nat} {os : Array Obj} (d : Array Value) : w.grownBy (grow (putRow id (Sort.ahead w n) g 0 d) os) (some g) := by
 refine ⟨rfl, rfl, rfl, by simp, fun k hk hne => ?_⟩
 rw [heap_grow_old _ _ (by simpa using hk)]
 have : g ≠ k := fun e => hne (by rw [e])
 simp [putRow, mapBlock, Sort.ahead, Array.getElem?_modify, this]
theorem take_putCellsS (cur : Array Value) (ts : List Value) (h : ts.length ≤ cur.size) : (putCells id 0 ts.toArray cur).toList.take ts.length = ts := by
 apply List.ext_getElem?
 intro j
 by_cases hj : j < ts.length
 ·rw [List.getElem?_take_of_lt hj, Array.getElem?_toList]
  simp [putCells, hj, show j < cur.size by omega]
 ·rw [List.getElem?_take_eq_none (by omega), List.getElem?_eq_none (by omega)]

theorem isAggSpan (w : World) : (isAgg 41).run Tryz.prog w = .ok true w := by
 exact Tryz.isAgg41 w
theorem sizeOfSpan (w : World) : (Go.sizeOf 41).run Tryz.prog w = .ok 2 w := by
 exact Tryz.sizeOf41 w

def CmpFrom (g : Nat) : Prop := ∀ (x y : BSp) (W : World), Calls Tryz.prog g #[.agg #[.int .i64 (valB x).1, .int .i64 (valB x).2], .agg #[.int .i64 (valB y).1, .int .i64 (valB y).2]] W fun e w' => e = .returned (.int .i64 ((valB x).1 - (valB y).1)) ∧ ∃ q os', w' = grow (W.drewN q) os'
def SfPost (v : Value) (L : List Sp) (w0 : World) (e : Ending) (w' : World) : Prop := ∃ L', e = .returned (.tuple #[]) ∧ L'.Perm L ∧ L'.Pairwise (fun a b => a.1 ≤ b.1) ∧ OwnS w' w0.heap.size v L' ∧ Below w0.heap.size w0 w'

theorem sortF_own (g : Nat) (hg : CmpFrom g) (eg : ∀ args w, (callFunc g args).run Tryz.prog w = .ok (.enter g args) w) (v : Value) (L : List Sp) (w0 W : World) (h : OwnS W w0.heap.size v L) (hb : Below w0.heap.size w0 W) (hbd : ∀ s ∈ L, -1152921504606846976 ≤ s.1 ∧ s.1 ≤ 1152921504606846976) (hl : L.length < 1000000000000) :
  Calls Tryz.prog 156 #[v, .func (.func g) #[] #[]] W (SfPost v L w0) := by
 have hlt := h.lt
 have h' := h
 rcases h.2 with ⟨rfl, h0⟩ | ⟨b, cap, cur, rfl, hgb, hgg, hn, hcap, hsz, htk⟩
 ·obtain rfl : L = [] := List.eq_nil_of_length_eq_zero h0
  exact (AnyF.slices_SortFunc_none Tryz.sortSp none 0 _ W).mono fun e w' ⟨he, hw⟩ => by subst hw; exact ⟨[], he, List.Perm.refl _, List.Pairwise.nil, OwnS.nil _ _, hb⟩
 ·obtain ⟨d, hd⟩ := liftB L hbd
  have hdl : d.length = L.length := by rw [← hd, List.length_map]
  have hF : flatK encB 2 d.toArray = (flatS L).toArray := by rw [flatK_flatS, hd]
  have hH : HoldsK encB 2 W b 0 d.toArray := by
   unfold HoldsK
   rw [hF]
   exact holds_of_blockS hgg (by rw [flatS_length]; exact htk)
  have hc := AnyQ.slices_SortFunc Tryz.sortSp 2 isAggSpan sizeOfSpan encB (fun _ => rfl) (fun x v hv => by simp [encB] at hv; rcases hv with rfl | rfl <;> rfl) cmpB swoB g #[] b 0 cap d.toArray W eg (fun _ _ _ _ x y => hg x y _) hH (hlt b rfl).2 (by simp; omega)
  rw [show d.toArray.size = L.length by simpa using hdl] at hc
  refine hc.mono ?_
  rintro e w' ⟨he, d', n, os, ⟨p1, _, p3⟩, hso, rfl⟩
  have hs' : d'.size = L.length := by rw [p1]; simpa using hdl
  have hperm : d'.toList.Perm d := by
   have := p3
   rw [show d'.extract 0 L.length = d' by rw [← hs']; simp, show d.toArray.extract 0 L.length = d.toArray by rw [← hdl]; simp] at this
   simpa using this
  refine ⟨d'.toList.map valB, he, by rw [← hd]; exact hperm.map _, ?_, ?_, ?_⟩
  ·rw [List.pairwise_map, List.pairwise_iff_getElem]
   intro i j hi hj hij
   have h1 := hso i j (Nat.zero_le _) hij (by rw [← hs']; simpa using hj)
   rw [ltB] at h1
   have hi' : i < d'.size := by simpa using hi
   have hj' : j < d'.size := by simpa using hj
   rw [getElem!_pos d' i hi', getElem!_pos d' j hj'] at h1
   simp only [Array.getElem_toList]
   simpa using h1
  ·unfold sortWorldK putRowK
   rw [flatK_flatS]
   unfold OwnS
   have hlm : (d'.toList.map valB).length = L.length := by simpa using hs'
   rw [hlm]
   have hfl : (flatS (d'.toList.map valB)).length = L.length * 2 := by rw [flatS_length, hlm]
   refine ⟨hfl, .inr ⟨b, cap, _, rfl, hgb, heap_sortedS _ hgg, hn, hcap, by simp [putCells, hsz], ?_⟩⟩
   have := take_putCellsS cur (flatS (d'.toList.map valB)) (by rw [hfl, hsz]; exact Nat.mul_le_mul_right 2 hn)
   rw [hfl] at this
   exact this
  ·unfold sortWorldK putRowK
   exact hb.grown (grownBy_sortedS _) hb.size (fun k hk => by cases hk; exact hgb)
end Go.Proofs.YtmfdnbfjdhlonaaGreatDoor
namespace Go.Proofs.YtmfdnbfjdhlonaaGreatDoor
open Go.RowKit Wk

theorem joined_cmp : CmpFrom 157 := by
 intro x y W
 have hx : -1152921504606846976 ≤ (valB x).1 ∧ (valB x).1 ≤ 1152921504606846976 := ⟨x.lo, x.hi⟩
 have hy : -1152921504606846976 ≤ (valB y).1 ∧ (valB y).1 ≤ 1152921504606846976 := ⟨y.lo, y.hi⟩
 generalize valB x = a at *
 generalize valB y = b at *
 obtain ⟨a1, a2⟩ := a
 obtain ⟨b1, b2⟩ := b
 simp only at hx hy ⊢
 have s1 : IntKind.i64.wrap (a1 - b1) = a1 - b1 := by rw [IntKind.wrap_i64]; omega
 go_enter Tryz.func157, Tryz.ntmps157
 go_wp2
 go_ret
 exact ⟨rfl, 0, _, by rw [Go.Sort.alloc_eq_grow, Go.Sort.alloc_eq_grow, Go.Sort.grow_grow]; rfl⟩

def JnPost (L : List Sp) (w0 : World) (e : Ending) (w' : World) : Prop := ∃ v' L', e = .returned v' ∧ OwnS w' w0.heap.size v' (joinL L') ∧ L'.Perm L ∧ L'.Pairwise (fun a b => a.1 ≤ b.1) ∧ Below w0.heap.size w0 w'

set_option maxRecDepth 100000 in
set_option maxHeartbeats 2000000 in
theorem joined_own (v : Value) (L : List Sp) (w0 W : World) (h : OwnS W w0.heap.size v L) (hb : Below w0.heap.size w0 W) (hbd : ∀ s ∈ L, -1152921504606846976 ≤ s.1 ∧ s.1 ≤ 1152921504606846976) (hl : L.length ≤ 1000000) :
  Calls Tryz.prog 114 #[v] W (JnPost L w0) := by
 have HS := Lib.hid (sortF_own 157 joined_cmp (enters_of Tryz.func157 (by kernel_rfl) rfl) v L w0 W h hb hbd (by omega))
 obtain ⟨a0, c0, rfl, _⟩ := h.form
 have HW := Lib.hid hb.size
 clear h hb hbd
 go_enter Tryz.func114, Tryz.ntmps114
 go_wp2_with fail
 refine HS.out.mono ?_
 rintro e w1 ⟨L', rfl, hp, hso, ho, hB1⟩
 have hlen : L'.length = L.length := hp.length_eq
 have HRD := Lib.hid (ho.rd (by omega))
 have HPW := Lib.hid (And.intro hp hso)
 have HB1 := Lib.hid hB1
 have HZ := Lib.hid hB1.size
 clear ho hp hso hB1
 obtain ⟨p1, q1, hpq, hRl, HCC⟩ := HRD.out
 injection hpq with e1 e2 e3
 subst e1 e3
 have HC := Lib.hid HCC
 clear HCC
 rw [← hlen] at hl ⊢
 clear hlen hRl
 go_wp2_with fail
 go_loopw [3, 11] (fun u i wr => ∃ k : Nat, k ≤ L'.length ∧ i = .int .i64 k ∧ OwnS wr w1.heap.size u (joinL (L'.take k)) ∧ Below w1.heap.size w1 wr) (fun _ i _ => L'.length - (intOf i).toNat)
 case atStart => exact ⟨0, Nat.zero_le _, rfl, OwnS.nil _ _, Below.refl _ _⟩
 case round =>
  obtain ⟨k, hk, rfl, ho, hB⟩ := hrel
  by_cases hlt : k < L'.length
  ·have hj := Lib.hid (join_take L' k hlt)
   have hl1 := joinL_len L' k hk
   obtain ⟨b, o, x, y, rfl, hbw, HXY, d1, d2⟩ := rd_at HC.out hB hlt
   rw [HXY.out] at hj
   obtain ⟨X, hX⟩ : ∃ X, joinL (L'.take k) = X := ⟨_, rfl⟩
   rw [hX] at ho hl1 hj
   clear hX
   have hba : Below wr.heap.size wr (wr.alloc (.cells #[.int .i64 x, .int .i64 y] 41)) := (Below.refl _ _).alloc (Nat.le_refl _) _
   have hBa := keepBelow hB hba
   have hoa := ho.below hba
   have g0 := keepCell hba d1
   have b0 : (wr.alloc (.cells #[.int .i64 x, .int .i64 y] 41)).cell? ⟨wr.heap.size, 0, none⟩ = some (.int .i64 x) := by simp [go_sem]
   have b1 : (wr.alloc (.cells #[.int .i64 x, .int .i64 y] 41)).cell? ⟨wr.heap.size, 1, none⟩ = some (.int .i64 y) := by simp [go_sem]
   have hsa : (wr.alloc (.cells #[.int .i64 x, .int .i64 y] 41)).heap.size = wr.heap.size + 1 := by simp
   by_cases hX0 : X = []
   ·subst hX0
    have hjn : Hid (joinL (L'.take (k + 1)) = [] ++ [(x, y)]) := by rw [hj.out]; unfold Hid joinStep; rw [if_pos rfl]; rfl
    obtain ⟨a8, c8, rfl, _⟩ := ho.form
    go_wp2_with fail
    refine wp_region_ext (by kernel_rfl) (by kernel_rfl) ?_
    iterate 13 (go_big_quiet_step (fail))
    refine wpQuiet_nil ?_
    intro w5 hb5
    have k0 := keepCell hb5 b0
    have k1 := keepCell hb5 b1
    have hB5 := keepBelow hBa hb5
    have ho5 := hoa.below hb5
    clear b0 b1 hb5 hBa hoa hba
    go_wp2_with (at_builtin; refine wpList_app_span rfl (.tmp 44) (.tmp 46) rfl rfl ho5 hB5 rfl rfl (by simp) ?_; intro v1 w9 o1 b1 k1 z1; clear k1)
    go_roundw
    case rel => exact ⟨k + 1, by omega, by go_num, by rw [hjn.out]; exact o1, b1⟩
    case measure => simp [intOf]; omega
   ·obtain ⟨K, p, q, rfl⟩ : ∃ K p q, X = K ++ [(p, q)] := by
     refine ⟨X.dropLast, (X.getLast hX0).1, (X.getLast hX0).2, ?_⟩
     exact (List.dropLast_concat_getLast hX0).symm
    have hlK : (K ++ [(p, q)]).length = K.length + 1 := by simp
    have hgl : (K ++ [(p, q)]).getD ((K ++ [(p, q)]).length - 1) (0, 0) = (p, q) := by
     rw [hlK, Nat.add_sub_cancel, List.getD_eq_getElem?_getD, List.getElem?_append_right (Nat.le_refl _)]; simp
    have hdl : (K ++ [(p, q)]).dropLast = K := by simp
    have HJ : Hid (joinL (L'.take (k + 1)) = if x ≤ q then K ++ [(p, max q y)] else (K ++ [(p, q)]) ++ [(x, y)]) := by
     rw [hj.out]
     unfold Hid joinStep
     rw [if_neg hX0, hgl, hdl]
    rw [hlK] at hl1
    obtain ⟨a8, c8, e8, hf8⟩ := ho.form
    rw [hlK] at e8 hf8
    subst e8
    obtain ⟨g8, rfl, hg8, _, cl⟩ := hf8 K.length (by omega)
    rw [show (K ++ [(p, q)]).getD K.length (0, 0) = (p, q) by rw [hlK, Nat.add_sub_cancel] at hgl; exact hgl] at cl
    simp only at cl
    have fz := ho.frozen (K.length * 2 + 1)
    have cla := keepCell hba cl
    have ecl := ext_cell cla
    have eb0 := ext_cell b0
    have eb1 := ext_cell b1
    obtain ⟨m, hm⟩ : ∃ m, K.length = m := ⟨_, rfl⟩
    have HM := Lib.hid hm
    rw [hm] at hl1 cl fz cla ecl ho hoa ⊢
    clear hm hf8 hgl hdl hlK hX0 hj
    have hm0 : m < 1000000 := by omega
    by_cases hc : x ≤ q
    ·have HJ2 : Hid (joinL (L'.take (k + 1)) = K ++ [(p, max q y)]) := by have := HJ.out; rwa [if_pos hc] at this
     clear HJ
     go_wp2_with fail
     refine wp_region_ext (by kernel_rfl) (by kernel_rfl) ?_
     iterate 13 (go_big_quiet_step (fail))
     refine wpQuiet_nil ?_
     intro w5 hb5
     have k0 := keepCell hb5 b0
     have k1 := keepCell hb5 b1
     have kl := keepCell hb5 cla
     have hB5 := keepBelow hBa hb5
     have ho5 := hoa.below hb5
     have f5 := ho5.frozen (m * 2 + 1)
     clear b0 b1 hb5 hBa hoa hba ecl eb0 eb1
     have hbd5 : Below w5.heap.size w5 w5.drew := (Below.refl _ _).drew
     have j0 := keepCell hbd5 k0
     have j1 := keepCell hbd5 k1
     have jl := keepCell hbd5 kl
     have hB6 := keepBelow hB5 hbd5
     have ho6 := ho5.below hbd5
     have jf := ho6.frozen (m * 2 + 1)
     go_wp2_with fail
     refine wp_region_still_tail 12 (by kernel_rfl) (by kernel_rfl) ?_
     simp only [List.take_succ_cons, List.take_zero, List.drop_succ_cons, List.drop_zero]
     change wpStill _ _ w5.drew _ _ _
     have s1 : IntKind.i64.wrap (m : Int) = m := by rw [IntKind.wrap_i64]; omega
     have s4 : (0 : Int) ≤ (m : Int) := by omega
     have s5 : (m : Int) < (m : Int) + 1 := by omega
     repeat still_step
     refine wpStill_nil ?_
     change wpList _ _ _ _ _ w5.drew
     generalize w5.drew = w6 at *
     have hst := ho6.setLast (max q y)
     rw [HM.out] at hst
     have HST := Lib.hid hst.1
     have HBE : Hid (Below w1.heap.size w1 (w6.setCell ⟨g8, m * 2 + 1, none⟩ (.int .i64 (max q y)))) := hB6.grown hst.2 hB6.size (fun x hx => by cases hx; exact (ho6.lt _ rfl).1)
     clear hst ho6 hB6 hB5 ho5
     go_wp2_with fail
     go_roundw
     case rel => exact ⟨k + 1, by omega, by go_num, by rw [HJ2.out]; exact HST.out, HBE.out⟩
     case measure => simp [intOf]; omega
    ·have HJ2 : Hid (joinL (L'.take (k + 1)) = (K ++ [(p, q)]) ++ [(x, y)]) := by have := HJ.out; rwa [if_neg hc] at this
     go_wp2_with fail
     refine wp_region_ext (by kernel_rfl) (by kernel_rfl) ?_
     iterate 13 (go_big_quiet_step (fail))
     refine wpQuiet_nil ?_
     intro w5 hb5
     have k0 := keepCell hb5 b0
     have k1 := keepCell hb5 b1
     have hB5 := keepBelow hBa hb5
     have ho5 := hoa.below hb5
     clear b0 b1 hb5 hBa hoa hba
     go_wp2_with (at_builtin; refine wpList_app_span rfl (.tmp 44) (.tmp 46) rfl rfl ho5 hB5 rfl rfl (by simp; have := HM.out; omega) ?_; intro v1 w9 o1 b1 k1 z1; clear k1)
     go_roundw
     case rel => exact ⟨k + 1, by omega, by go_num, by rw [HJ2.out]; exact o1, b1⟩
     case measure => simp [intOf]; omega
  ·have ht : L'.take k = L' := List.take_of_length_le (by omega)
   rw [ht] at ho
   have HO := Lib.hid ho
   obtain ⟨a8, c8, rfl, _⟩ := ho.form
   clear ho
   go_wp2
   go_ret
   exact ⟨_, L', rfl, HO.out.mono HZ.out, HPW.out.1, HPW.out.2, HB1.out.trans (hB.mono HZ.out)⟩
end Go.Proofs.YtmfdnbfjdhlonaaGreatDoor
