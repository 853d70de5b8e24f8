import Derived.Test.YtlbglinpgjlbkaaGreatDoorWkC5
import Derived.Test.YtlbglinpgjlbkaaGreatDoorWkQj
import Derived.Maps.RangeWalk
/- Zone texts: On: a loop over a map of two signs, in any order. Printed by gen_c6.py. -/
namespace Go.Proofs.YtlbglinpgjlbkaaGreatDoor
open Go.RowKit Wk Go.Maps

def kGe : Lit := .string [62, 61]
def kLe : Lit := .string [60, 61]
def onD : DataW Unit := ((DataW.map []).put (.string [62, 61]) (.lit (.int .i64 3))).put (.string [60, 61]) (.lit (.int .i64 4))
theorem onD_eq : onD = .map [(kLe, .lit (.int .i64 4)), (kGe, .lit (.int .i64 3))] := by rfl
theorem same_str {a : Bs} {k : Lit} (h : (Lit.string a).sameKey k = true) : k = .string a := by
 cases k <;> simp [Lit.sameKey] at h
 rw [h]
theorem onD_has {kl : Lit} (h : has onD kl = true) : kl = kGe ∨ kl = kLe := by
 rw [onD_eq] at h
 simp only [has, List.any_cons, List.any_nil, Bool.or_false, Bool.or_eq_true] at h
 rcases h with h | h
 ·exact .inr (same_str h)
 ·exact .inl (same_str h)
theorem onD_ge : has onD kGe = true := by rw [onD_eq]; rfl
theorem onD_le : has onD kLe = true := by rw [onD_eq]; rfl
structure LfO (s : Bs) (left : Lit → Bool) : Prop where
 key : ∀ kl, left kl = true → kl = kGe ∨ kl = kLe
 ge : left kGe = false → (Lib.cut s [62, 61]).2.2 = false
 le : left kLe = false → (Lib.cut s [60, 61]).2.2 = false
theorem LfO.start (s : Bs) : LfO s (has onD) := ⟨fun _ h => onD_has h, fun h => absurd (onD_ge.symm.trans h) (by simp), fun h => absurd (onD_le.symm.trans h) (by simp)⟩
theorem LfO.stop {s : Bs} {left : Lit → Bool} (h : LfO s left) (hl : ∀ kl, left kl = false) : (Lib.cut s [62, 61]).2.2 = false ∧ (Lib.cut s [60, 61]).2.2 = false := ⟨h.ge (hl _), h.le (hl _)⟩
theorem LfO.next {s : Bs} {left : Lit → Bool} (h : LfO s left) {x : Bs} (hc : (Lib.cut s x).2.2 = false) : LfO s (fun z => left z && !z.sameKey (.string x)) := by
 refine ⟨fun kl hk => ?_, fun hk => ?_, fun hk => ?_⟩
 ·rw [Bool.and_eq_true] at hk
  exact h.key kl hk.1
 ·rw [Bool.and_eq_false_iff] at hk
  rcases hk with hk | hk
  ·exact h.ge hk
  ·have : (kGe.sameKey (.string x)) = true := by simpa using hk
   injection same_str this with e
   rw [← e]
   exact hc
 ·rw [Bool.and_eq_false_iff] at hk
  rcases hk with hk | hk
  ·exact h.le hk
  ·have : (kLe.sameKey (.string x)) = true := by simpa using hk
   injection same_str this with e
   rw [← e]
   exact hc
theorem keyOf_str_inv {P : Program} {k : TypeId} (hk : P.underlying k = some .string) {key : Value} {kl : Lit} (h : keyOf P k key = some kl) : ∃ x : ByteArray, key = .string x ∧ kl = .string (bsO x) := by
 cases key <;> simp [keyOf, hk, mapKey] at h
 obtain ⟨-, rfl⟩ := h
 exact ⟨_, rfl, rfl⟩
def litN : DataW Unit → Int
 | .lit (.int _ a) => a
 | _ => 0
theorem on_more {s : Bs} {left : Lit → Bool} (h : LfO s left) {x : ByteArray} {c : Int} {kl : Lit} {y : DataW Unit × List MemPlace} (hk : keyOf Tryz.prog 9 (.string x) = some kl) (hl : left kl = true)
  (hR : plainElem Tryz.prog 3 (.int .i64 c) = some y) (hat : ∀ zd, onD.atKey kl zd = y.1) : (bsO x = [62, 61] ∧ c = 3 ∨ bsO x = [60, 61] ∧ c = 4) ∧ kl = .string (bsO x) := by
 obtain ⟨x', ex, rfl⟩ := keyOf_str_inv Tryz.underlying9 hk
 injection ex with ex
 subst ex
 obtain ⟨c', ec, rfl, -⟩ := plainElem_int_inv Tryz.underlying3 hR
 injection ec with _ ec
 subst ec
 refine ⟨?_, rfl⟩
 rcases h.key _ hl with hh | hh
 ·injection hh with e
  refine .inl ⟨e, ?_⟩
  have := hat .nil
  rw [e, onD_eq] at this
  exact (congrArg litN this).symm
 ·injection hh with e
  refine .inr ⟨e, ?_⟩
  have := hat .nil
  rw [e, onD_eq] at this
  exact (congrArg litN this).symm
theorem fin3 {w W : World} {b : Nat} {x0 x1 x2 : Value} {T : TypeId} (hB : Below w.heap.size w W) (hb : w.heap.size ≤ b) (hk : Blk W b #[x0, x1, x2] T) (v0 v1 v2 : Value) :
  (((W.setCell ⟨b, 0, none⟩ v0).setCell ⟨b, 1, none⟩ v1).setCell ⟨b, 2, none⟩ v2).cell? ⟨b, 0, none⟩ = some v0 ∧ (((W.setCell ⟨b, 0, none⟩ v0).setCell ⟨b, 1, none⟩ v1).setCell ⟨b, 2, none⟩ v2).cell? ⟨b, 1, none⟩ = some v1 ∧
  (((W.setCell ⟨b, 0, none⟩ v0).setCell ⟨b, 1, none⟩ v1).setCell ⟨b, 2, none⟩ v2).cell? ⟨b, 2, none⟩ = some v2 ∧ Below w.heap.size w (((W.setCell ⟨b, 0, none⟩ v0).setCell ⟨b, 1, none⟩ v1).setCell ⟨b, 2, none⟩ v2) ∧
  Blk (((W.setCell ⟨b, 0, none⟩ v0).setCell ⟨b, 1, none⟩ v1).setCell ⟨b, 2, none⟩ v2) b #[v0, v1, v2] T := by
 have h := ((hk.set (j := 0) v0).set (j := 1) v1).set (j := 2) v2
 have h : Blk (((W.setCell ⟨b, 0, none⟩ v0).setCell ⟨b, 1, none⟩ v1).setCell ⟨b, 2, none⟩ v2) b #[v0, v1, v2] T := h
 exact ⟨h.cell rfl, h.cell rfl, h.cell rfl, ((hB.setCell (p := ⟨b, 0, none⟩) hb _).setCell (p := ⟨b, 1, none⟩) hb _).setCell (p := ⟨b, 2, none⟩) hb _, h⟩
theorem cut_len (s sg : Bs) : (Lib.cut s sg).1.length ≤ s.length ∧ (Lib.cut s sg).2.1.length ≤ s.length := by
 unfold Lib.cut
 split
 ·exact ⟨(List.take_sublist _ _).length_le, (List.drop_sublist _ _).length_le⟩
 ·exact ⟨Nat.le_refl _, by simp⟩
theorem ranges_below {H : Type} {P : Program} {k : TypeId} {R : Value → Option (DataW H × List MemPlace)} {w w' : World} {b r n : Nat} {D : DataW H} {left : Lit → Bool} {cnt : Nat} (h : w.ranges P k R b r n D left cnt) (hb : Below w.heap.size w w') : w'.ranges P k R b r n D left cnt := by
 obtain ⟨es, clock, since, seen, c0, h1, F, hs, hD, h2, rest⟩ := h
 exact ⟨es, clock, since, seen, c0, (hb.block b (Array.getElem?_eq_some_iff.1 h1).1).trans h1, F, hs, hD, (hb.block r (Array.getElem?_eq_some_iff.1 h2).1).trans h2, rest⟩
theorem cut_last (s : ByteArray) (w : World) :
  Calls Tryz.prog 87 #[.string s, .string ⟨#[108, 97, 115, 116]⟩] w fun e w' => e = .returned (.tuple #[.string ⟨(if [108, 97, 115, 116].isPrefixOf (bsO s) = true then (bsO s).drop 4 else bsO s).toArray⟩, .bool ([108, 97, 115, 116].isPrefixOf (bsO s))]) ∧ w' = w := by
 refine (Tryz.strings_CutPrefix s ⟨#[108, 97, 115, 116]⟩ w).mono ?_
 rintro e w' ⟨rfl, rfl⟩
 refine ⟨?_, rfl⟩
 rfl
theorem pre_minus (s : ByteArray) (w : World) : Calls Tryz.prog 90 #[.string s, .string ⟨#[45]⟩] w fun e w' => e = .returned (.bool (negB (bsO s))) ∧ w' = w := by
 refine (Tryz.strings_HasPrefix s ⟨#[45]⟩ w).mono ?_
 rintro e w' ⟨rfl, rfl⟩
 have h1 : Lib.hasPrefix s.data.toList [45] = negB (bsO s) := by
  show Lib.hasPrefix (bsO s) [45] = _
  cases h : bsO s with
  | nil => rfl
  | cons c r =>
   unfold Lib.hasPrefix negB
   simp [List.isPrefixOf]
   exact beq_comm45 c
 exact ⟨by rw [← h1], rfl⟩
def OnA (r : OnT × Int) (e : Ending) : Prop := e = .returned (.tuple #[.agg #[.int .i64 r.1.k, .int .i64 r.1.w, .int .i64 r.1.d], .int .i64 r.2])

set_option maxRecDepth 100000 in
set_option maxHeartbeats 8000000 in
theorem on_any (s : ByteArray) (hs : s.size < 4294967281) (w : World) (hg : Glob w) :
  Calls Tryz.prog 28 #[.string s] w fun e w' => OnA (onM (bsO s)) e ∧ Below w.heap.size w w' := by
 have hmm := @run_makeMap Tryz.prog
 have HG := Lib.hid hg
 have HS := Lib.hid hs
 obtain ⟨b2, hb2⟩ : ∃ b, w.heap.size = b := ⟨_, rfl⟩
 obtain ⟨X, hX⟩ : ∃ X, w.alloc (.cells #[.int .i64 0, .int .i64 0, .int .i64 0] 39) = X := ⟨_, rfl⟩
 have HX2 : Hid (Blk X b2 #[.int .i64 0, .int .i64 0, .int .i64 0] 39) := Lib.hid (by rw [← hX, ← hb2]; exact Blk.new _ _ _)
 have HBX : Hid (Below w.heap.size w X) := Lib.hid (by rw [← hX]; exact below_box)
 have HB2S : Hid (w.heap.size ≤ b2) := Lib.hid (Nat.le_of_eq hb2)
 obtain ⟨pf, hpf⟩ : ∃ q, [108, 97, 115, 116].isPrefixOf (bsO s) = q := ⟨_, rfl⟩
 have HCP : Hid (∀ w', Calls Tryz.prog 87 #[.string s, .string ⟨#[108, 97, 115, 116]⟩] w' fun e w'' => e = .returned (.tuple #[.string ⟨(if pf = true then (bsO s).drop 4 else bsO s).toArray⟩, .bool pf]) ∧ w'' = w') := Lib.hid (by rw [← hpf]; exact fun w' => cut_last s w')
 have HPF := Lib.hid hpf
 clear hpf hg hs
 go_enter Tryz.func28, Tryz.ntmps28
 go_upto_region 1 with fail
 try rw [hX]
 try rw [hb2]
 cases pf with
 | true =>
  obtain ⟨T, hT⟩ : ∃ T : ByteArray, (⟨((bsO s).drop 4).toArray⟩ : ByteArray) = T := ⟨_, rfl⟩
  obtain ⟨r, hr⟩ : ∃ r, findM' wdayL ((bsO s).drop 4) = r := ⟨_, rfl⟩
  have HAN : Hid (onM (bsO s) = if r.2 ≠ 0 then (on0, 3) else (⟨2, r.1, 0⟩, 0)) := Lib.hid (by rw [on_last HPF.out, hr])
  have HWD : Hid (∀ w', Calls Tryz.prog 88 #[.string T] w' fun e w'' => e = .returned (.tuple #[.int .i64 r.1, .int .i64 r.2]) ∧ Below w'.heap.size w' w'') := Lib.hid (by rw [← hr, ← hT]; exact fun w' => weekday_any _ w')
  have HCP2 : Hid (∀ w', Calls Tryz.prog 87 #[.string s, .string ⟨#[108, 97, 115, 116]⟩] w' fun e w'' => e = .returned (.tuple #[.string T, .bool true]) ∧ w'' = w') := Lib.hid (by rw [← hT]; exact HCP.out)
  clear hT hr HCP hX hb2
  obtain ⟨rn, re⟩ := r
  by_cases hre : re = 0
  ·have g0 : (re != 0) = false := by simpa using hre
   have HAN2 : Hid (onM (bsO s) = (⟨2, rn, 0⟩, 0)) := Lib.hid (by rw [HAN.out, if_neg (by simpa using hre)])
   clear hre HAN
   go_wp2_with (first | (go_at_call 87; refine (HCP2.out _).mono ?_; rintro e w' ⟨rfl, hw⟩; rw [hw]; clear hw) | (go_at_call 88; refine (HWD.out _).mono ?_; rintro e w' ⟨rfl, hb⟩; have HB2 := Lib.hid (HX2.out.below hb); have HBW := Lib.hid (keepBelow HBX.out hb); have c0 := HB2.out.cell (j := 0) rfl; have c1 := HB2.out.cell (j := 1) rfl; have c2 := HB2.out.cell (j := 2) rfl; have f0 := HB2.out.frz 0; have f1 := HB2.out.frz 1; have f2 := HB2.out.frz 2) | fail)
   obtain ⟨r0, r1, r2, HBF, _⟩ := fin3 HBW.out HB2S.out HB2.out (.int .i64 2) (.int .i64 rn) (.int .i64 0)
   refine bodyPost_ret (v := .tuple #[.agg #[.int .i64 2, .int .i64 rn, .int .i64 0], .int .i64 0]) (by simp [results, Tryz.results28, go_sem, r0, r1, r2]) rfl ?_
   exact ⟨by rw [HAN2.out]; rfl, HBF⟩
  ·have g0 : (re != 0) = true := by simpa using hre
   have HAN2 : Hid (onM (bsO s) = (on0, 3)) := Lib.hid (by rw [HAN.out, if_pos (by simpa using hre)])
   clear hre HAN
   go_wp2_with (first | (go_at_call 87; refine (HCP2.out _).mono ?_; rintro e w' ⟨rfl, hw⟩; rw [hw]; clear hw) | (go_at_call 88; refine (HWD.out _).mono ?_; rintro e w' ⟨rfl, hb⟩; have HB2 := Lib.hid (HX2.out.below hb); have HBW := Lib.hid (keepBelow HBX.out hb); have c0 := HB2.out.cell (j := 0) rfl; have c1 := HB2.out.cell (j := 1) rfl; have c2 := HB2.out.cell (j := 2) rfl; have f0 := HB2.out.frz 0; have f1 := HB2.out.frz 1; have f2 := HB2.out.frz 2) | fail)
   obtain ⟨r0, r1, r2, HBF, _⟩ := fin3 HBW.out HB2S.out HB2.out (.int .i64 0) (.int .i64 0) (.int .i64 0)
   refine bodyPost_ret (v := .tuple #[.agg #[.int .i64 0, .int .i64 0, .int .i64 0], .int .i64 3]) (by simp [results, Tryz.results28, go_sem, r0, r1, r2]) rfl ?_
   exact ⟨by rw [HAN2.out]; rfl, HBF⟩
 | false =>
  have HCP2 : Hid (∀ w', Calls Tryz.prog 87 #[.string s, .string ⟨#[108, 97, 115, 116]⟩] w' fun e w'' => e = .returned (.tuple #[.string s, .bool false]) ∧ w'' = w') := Lib.hid HCP.out
  clear HCP hX hb2
  go_upto_region 7 with (first | (go_at_call 87; refine (HCP2.out _).mono ?_; rintro e w' ⟨rfl, hw⟩; rw [hw]; clear hw) | fail)
  go_upto_region 8 with fail
  obtain ⟨b8, hb8⟩ : ∃ b, X.heap.size = b := ⟨_, rfl⟩
  obtain ⟨Y, hY⟩ : ∃ Y, X.alloc (.cells #[.int .i64 1, .int .i64 0, .int .i64 0] 39) = Y := ⟨_, rfl⟩
  have HY8 : Hid (Blk Y b8 #[.int .i64 1, .int .i64 0, .int .i64 0] 39) := Lib.hid (by rw [← hY, ← hb8]; exact Blk.new _ _ _)
  have HXY : Hid (Below X.heap.size X Y) := Lib.hid (by rw [← hY]; exact below_box)
  have HBY := Lib.hid (keepBelow HBX.out HXY.out)
  have HY2 := Lib.hid (HX2.out.below HXY.out)
  have HNE : Hid (b2 ≠ b8) := Lib.hid (by have := HX2.out.lt; omega)
  have HB8S : Hid (w.heap.size ≤ b8) := Lib.hid (by rw [← hb8]; exact HBX.out.size)
  try rw [hY]
  try rw [hb8]
  clear hY hb8
  go_upto_region 9 with (first
   | ((with_reducible show wpList _ _ _ _ _ _); refine wpList_insert_own _ rfl (.tmp 35) _ _ 132 rfl 9 3 lawS Tryz.underlying132 (plainElem (H := Unit) Tryz.prog 3) Y.heap.size 0 (.map []) rfl (World.ownsMap_made _ _ _ _) (by decide) (.string ⟨#[62, 61]⟩) (.int .i64 3) _ rfl rfl (Go.WideMaps.keyOf_string_mk Tryz.underlying9 (by decide)) _ [] (plainElem_int Tryz.underlying3 (by decide)) ?_; intro w1 o1 g1)
   | ((with_reducible show wpList _ _ _ _ _ _); refine wpList_insert_own _ rfl (.tmp 35) _ _ 132 rfl 9 3 lawS Tryz.underlying132 (plainElem (H := Unit) Tryz.prog 3) Y.heap.size 1 _ rfl o1 (by decide) (.string ⟨#[60, 61]⟩) (.int .i64 4) _ rfl rfl (Go.WideMaps.keyOf_string_mk Tryz.underlying9 (by decide)) _ [] (plainElem_int Tryz.underlying3 (by decide)) ?_; intro w2 o2 g2)
   | (at_range; refine wpList_range_own _ rfl _ 132 rfl 9 3 lawS Tryz.underlying132 _ Y.heap.size 2 onD rfl o2 ?_; intro w3 hrg0 hg0 hs0)
   | fail)
  have HB3 : Hid (Below Y.heap.size Y w3) := Lib.hid (by
   have q0 : Below Y.heap.size Y (Y.alloc (.map #[] 0)) := (Below.refl _ _).alloc (Nat.le_refl _) _
   have q1 := q0.grown g1 q0.size (fun j hj => by cases hj; exact Nat.le_refl _)
   have q2 := q1.grown g2 q1.size (fun j hj => by cases hj; exact Nat.le_refl _)
   exact q2.grown hg0 q2.size (fun j hj => by cases hj))
  have HRG := Lib.hid hrg0
  have HIT : Hid (Y.heap.size ≤ w2.heap.size) := Lib.hid (by
   have q0 : Below Y.heap.size Y (Y.alloc (.map #[] 0)) := (Below.refl _ _).alloc (Nat.le_refl _) _
   have q1 := q0.grown g1 q0.size (fun j hj => by cases hj; exact Nat.le_refl _)
   exact (q1.grown g2 q1.size (fun j hj => by cases hj; exact Nat.le_refl _)).size)
  clear hrg0 hg0 hs0 o1 g1 o2 g2 hmm
  obtain ⟨it, hit⟩ : ∃ it, w2.heap.size = it := ⟨_, rfl⟩
  rw [hit] at HRG HIT
  try rw [hit]
  clear hit
  obtain ⟨mb, hmb⟩ : ∃ b, Y.heap.size = b := ⟨_, rfl⟩
  try rw [hmb]
  rw [hmb] at HRG HIT
  have HMB := Lib.hid hmb
  clear hmb
  have HW2 := Lib.hid (HY2.out.below HB3.out)
  have HW8 := Lib.hid (HY8.out.below HB3.out)
  have HBW3 := Lib.hid (keepBelow HBY.out HB3.out)
  have HMS : Hid (w.heap.size ≤ mb) := Lib.hid (by rw [← HMB.out]; exact HBY.out.size)
  have HIS : Hid (w.heap.size ≤ it) := Lib.hid (Nat.le_trans HMS.out HIT.out)
  have HN2 : Hid (b2 < it ∧ b8 < it) := Lib.hid (by have h1 := HY2.out.lt; have h2 := HY8.out.lt; have h3 := HIT.out; have h4 := HMB.out; omega)
  have HPF2 : Hid ([108, 97, 115, 116].isPrefixOf (bsO s) = false) := HPF
  clear HPF HY2 HY8 HXY HBY HB3 HX2 HBX HMB HMS HIT HCP2
  skip
  go_loopw [0] (fun u0 wr => u0 = .string s ∧ ∃ (left : Lit → Bool) (cnt : Nat), wr.ranges (H := Unit) Tryz.prog 9 (plainElem Tryz.prog 3) mb it 2 onD left cnt ∧ Hid (LfO (bsO s) left) ∧ Hid (Blk wr b2 #[.int .i64 0, .int .i64 0, .int .i64 0] 39) ∧ Hid (Blk wr b8 #[.int .i64 1, .int .i64 0, .int .i64 0] 39) ∧ Hid (Below w.heap.size w wr)) (fun _ wr => wr.rangeLeft mb it)
  case atStart => exact ⟨rfl, _, _, HRG.out, LfO.start _, HW2.out, HW8.out, HBW3.out⟩
  case round =>
   obtain ⟨rfl, left, cnt, hrg, HLF, HR2, HR8, HBR⟩ := hrel
   go_upto_region 10 with (first
    | (at_next; refine wpList_next_ranges _ rfl _ rfl 9 lawS (plainElem Tryz.prog 3) Value.string (Value.int .i64) (fun key kl hk => by obtain ⟨x, ex, -⟩ := keyOf_str_inv Tryz.underlying9 hk; exact ⟨x, ex⟩) (fun v y hv => by obtain ⟨c, ec, -, -⟩ := plainElem_int_inv Tryz.underlying3 hv; exact ⟨c, ec⟩) mb it 2 onD left cnt rfl hrg ?_ ?_)
    | fail)
   ·intro _ hl0
    have HT := Lib.hid (on_none HPF2.out (HLF.out.stop hl0).1 (HLF.out.stop hl0).2)
    have HTS := HS
    have HB2 := HR2
    have HB8 := HR8
    have HBW := HBR
    clear hl0 hrg HLF HR2 HR8 HBR HRG HW2 HW8 HBW3
    generalize wr = W at *
    obtain ⟨ng, hng⟩ : ∃ q, negB (bsO s) = q := ⟨_, rfl⟩
    obtain ⟨dm, hdm⟩ : ∃ q, numM (bsO s) 1 31 = q := ⟨_, rfl⟩
    have HPM : Hid (∀ w', Calls Tryz.prog 90 #[.string s, .string ⟨#[45]⟩] w' fun e w'' => e = .returned (.bool ng) ∧ w'' = w') := Lib.hid (by rw [← hng]; exact fun w' => pre_minus s w')
    have HNU : Hid (∀ w', Calls Tryz.prog 91 #[.string s, .int .i64 1, .int .i64 31] w' fun e w'' => e = .returned (.tuple #[.int .i64 dm.1, .int .i64 dm.2]) ∧ w'' = w') := Lib.hid (by rw [← hdm]; exact fun w' => number_any s HTS.out 1 31 (by decide) (by decide) w')
    have HDM : Hid (dayM (bsO s) = if ng = true then (0, 3) else dm) := Lib.hid (by unfold dayM; rw [hng, hdm])
    clear hng hdm
    have c0 := HB2.out.cell (j := 0) rfl; have c1 := HB2.out.cell (j := 1) rfl; have c2 := HB2.out.cell (j := 2) rfl
    have f0 := HB2.out.frz 0; have f1 := HB2.out.frz 1; have f2 := HB2.out.frz 2
    cases ng with
    | true =>
     have HAN : Hid (onM (bsO s) = (on0, 3)) := Lib.hid (by rw [HT.out, show dayM (bsO s) = (0, 3) by rw [HDM.out]; rfl, if_pos (by decide)])
     go_wp2_with (first | (go_at_call 90; refine (HPM.out _).mono ?_; rintro e w' ⟨rfl, hw⟩; rw [hw]; clear hw) | fail)
     obtain ⟨r0, r1, r2, HBF, _⟩ := fin3 HBW.out HB2S.out HB2.out (.int .i64 0) (.int .i64 0) (.int .i64 0)
     refine bodyPost_ret (v := .tuple #[.agg #[.int .i64 0, .int .i64 0, .int .i64 0], .int .i64 3]) (by simp [results, Tryz.results28, go_sem, r0, r1, r2]) rfl ?_
     exact ⟨by rw [HAN.out]; rfl, HBF⟩
    | false =>
     obtain ⟨dn, de⟩ := dm
     by_cases hde : de = 0
     ·have g0 : (de != 0) = false := by simpa using hde
      have HAN : Hid (onM (bsO s) = (⟨1, 0, dn⟩, 0)) := Lib.hid (by rw [HT.out, show dayM (bsO s) = (dn, de) by rw [HDM.out]; rfl, if_neg (by simpa using hde)])
      clear hde
      have x0 := HB8.out.cell (j := 0) rfl; have x1 := HB8.out.cell (j := 1) rfl; have x2 := HB8.out.cell (j := 2) rfl
      have y2 := HB8.out.frz 2
      have hne : b2 ≠ b8 := HNE.out
      go_upto_region 22 with (first | (go_at_call 90; refine (HPM.out _).mono ?_; rintro e w' ⟨rfl, hw⟩; rw [hw]; clear hw) | (go_at_call 91; refine (HNU.out _).mono ?_; rintro e w' ⟨rfl, hw⟩; rw [hw]; clear hw) | fail)
      go_upto_region 23 with fail
      obtain ⟨V, hV⟩ : ∃ V, W.setCell ⟨b8, 2, none⟩ (.int .i64 dn) = V := ⟨_, rfl⟩
      have HV8 : Hid (Blk V b8 #[.int .i64 1, .int .i64 0, .int .i64 dn] 39) := Lib.hid (by rw [← hV]; exact HB8.out.set (j := 2) _)
      have HV2 : Hid (Blk V b2 #[.int .i64 0, .int .i64 0, .int .i64 0] 39) := Lib.hid (by rw [← hV]; exact HB2.out.far HNE.out _)
      have HVW : Hid (Below w.heap.size w V) := Lib.hid (by rw [← hV]; exact HBW.out.setCell (p := ⟨b8, 2, none⟩) HB8S.out _)
      try rw [hV]
      clear hV c0 c1 c2 f0 f1 f2 x0 x1 x2 y2
      have c0 := HV2.out.cell (j := 0) rfl; have c1 := HV2.out.cell (j := 1) rfl; have c2 := HV2.out.cell (j := 2) rfl
      have f0 := HV2.out.frz 0; have f1 := HV2.out.frz 1; have f2 := HV2.out.frz 2
      have x0 := HV8.out.cell (j := 0) rfl; have x1 := HV8.out.cell (j := 1) rfl; have x2 := HV8.out.cell (j := 2) rfl
      go_wp2_with fail
      obtain ⟨r0, r1, r2, HBF, _⟩ := fin3 HVW.out HB2S.out HV2.out (.int .i64 1) (.int .i64 0) (.int .i64 dn)
      refine bodyPost_ret (v := .tuple #[.agg #[.int .i64 1, .int .i64 0, .int .i64 dn], .int .i64 0]) (by simp [results, Tryz.results28, go_sem, r0, r1, r2]) rfl ?_
      exact ⟨by rw [HAN.out]; rfl, HBF⟩
     ·have g0 : (de != 0) = true := by simpa using hde
      have HAN : Hid (onM (bsO s) = (on0, de)) := Lib.hid (by rw [HT.out, show dayM (bsO s) = (dn, de) by rw [HDM.out]; rfl, if_pos (by simpa using hde)])
      clear hde
      go_wp2_with (first | (go_at_call 90; refine (HPM.out _).mono ?_; rintro e w' ⟨rfl, hw⟩; rw [hw]; clear hw) | (go_at_call 91; refine (HNU.out _).mono ?_; rintro e w' ⟨rfl, hw⟩; rw [hw]; clear hw) | fail)
      obtain ⟨r0, r1, r2, HBF, _⟩ := fin3 HBW.out HB2S.out HB2.out (.int .i64 0) (.int .i64 0) (.int .i64 0)
      refine bodyPost_ret (v := .tuple #[.agg #[.int .i64 0, .int .i64 0, .int .i64 0], .int .i64 de]) (by simp [results, Tryz.results28, go_sem, r0, r1, r2]) rfl ?_
      exact ⟨by rw [HAN.out]; rfl, HBF⟩
   ·intro x c kl y1 y2 w1 cnt1 hk hl hR hat hrg1 hlt hg1 hs1 hen
    obtain ⟨hx, rfl⟩ := on_more (y := (y1, y2)) HLF.out hk hl hR hat
    have HX := Lib.hid hx
    have HR21 := Lib.hid (HR2.out.same (hg1.block b2 HR2.out.lt (by intro h; cases h; have := HN2.out; omega)))
    have HR81 := Lib.hid (HR8.out.same (hg1.block b8 HR8.out.lt (by intro h; cases h; have := HN2.out; omega)))
    have HBR1 := Lib.hid (HBR.out.grown hg1 HBR.out.size (fun j hj => by cases hj; exact HIS.out))
    have HRG1 := Lib.hid hrg1
    have HRG0 := Lib.hid hrg.left_eq
    have HLT := Lib.hid hlt
    have hcl := cut_len (bsO s) (bsO x)
    rw [bs_len] at hcl
    obtain ⟨m, hm⟩ := HG.out.below HBR1.out
    have hcu : Calls Tryz.prog 89 #[.string s, .string x] w1 fun e w'' => e = .returned (.tuple #[.string ⟨(Lib.cut (bsO s) (bsO x)).1.toArray⟩, .string ⟨(Lib.cut (bsO s) (bsO x)).2.1.toArray⟩, .bool (Lib.cut (bsO s) (bsO x)).2.2]) ∧ Below w1.heap.size w1 w'' := (Tryz.strings_Cut s x m w1 HS.out hm).mono (fun e w' ⟨h1, k, h2⟩ => ⟨h1, by rw [h2]; exact below_drewN (Below.refl _ _) _⟩)
    obtain ⟨A, hA⟩ : ∃ A : ByteArray, (⟨(Lib.cut (bsO s) (bsO x)).1.toArray⟩ : ByteArray) = A := ⟨_, rfl⟩
    obtain ⟨B, hB⟩ : ∃ A : ByteArray, (⟨(Lib.cut (bsO s) (bsO x)).2.1.toArray⟩ : ByteArray) = A := ⟨_, rfl⟩
    have HA : Hid ((Lib.cut (bsO s) (bsO x)).1 = bsO A) := Lib.hid (by rw [← hA])
    have HB : Hid ((Lib.cut (bsO s) (bsO x)).2.1 = bsO B) := Lib.hid (by rw [← hB])
    rw [hA, hB] at hcu
    clear hA hB hm hrg hrg1 hlt hk hl hR hat hx hg1 hs1
    cases hq : (Lib.cut (bsO s) (bsO x)).2.2 with
    | false =>
     have HLN := Lib.hid (HLF.out.next hq)
     rw [hq] at hcu
     have HCU := Lib.hid hcu
     clear hq hcu hcl HLF
     go_wp2_with (first | (go_at_call 89; refine HCU.out.mono ?_; rintro e w' ⟨rfl, hb⟩; have HB2 := Lib.hid (HR21.out.below hb); have HB8 := Lib.hid (HR81.out.below hb); have HBW := Lib.hid (keepBelow HBR1.out hb); have HRG2 := Lib.hid (ranges_below HRG1.out hb)) | fail)
     go_roundw
     case rel => exact ⟨rfl, _, cnt1, HRG2.out, HLN.out, HB2.out, HB8.out, HBW.out⟩
     case measure => rw [HRG2.out.left_eq, HRG0.out]; exact HLT.out
    | true =>
     rw [hq] at hcu
     have HCU := Lib.hid hcu
     obtain ⟨r, hr⟩ : ∃ r, findM' wdayL (bsO A) = r := ⟨_, rfl⟩
     have HWD : Hid (∀ w', Calls Tryz.prog 88 #[.string A] w' fun e w'' => e = .returned (.tuple #[.int .i64 r.1, .int .i64 r.2]) ∧ Below w'.heap.size w' w'') := Lib.hid (by rw [← hr]; exact fun w' => weekday_any _ w')
     have HSG : Hid (signB (bsO x)) := Lib.hid (by rcases HX.out with h | h; exact .inl h.1; exact .inr h.1)
     have HTS : Hid (B.size < 4294967281) := Lib.hid (by have h1 := HS.out; have h2 := hcl.2; rw [HB.out, bs_len] at h2; omega)
     have HQ := Lib.hid hq
     have HRE := Lib.hid hr
     clear hq hcu hcl hr HLF
     obtain ⟨rn, re⟩ := r
     by_cases hre : re = 0
     ·have g0 : (re != 0) = false := by simpa using hre
      have HT : Hid (onM (bsO s) = if (dayM (bsO B)).2 ≠ 0 then (on0, (dayM (bsO B)).2) else (⟨c, rn, (dayM (bsO B)).1⟩, 0)) := Lib.hid (by
       rw [on_good (k := c) HX.out HPF2.out HQ.out (by rw [HA.out, HRE.out]; exact hre), HA.out, HB.out, HRE.out])
      clear hre
      go_upto_region 16 with (first | (go_at_call 89; refine HCU.out.mono ?_; rintro e w' ⟨rfl, hb⟩; have HR22 := Lib.hid (HR21.out.below hb); have HR82 := Lib.hid (HR81.out.below hb); have HBR2 := Lib.hid (keepBelow HBR1.out hb)) | (go_at_call 88; refine (HWD.out _).mono ?_; rintro e w' ⟨rfl, hb2⟩; obtain ⟨W5, hW5⟩ : ∃ W, w' = W := ⟨_, rfl⟩; rw [hW5] at hb2 ⊢; clear hW5; have HR23 := Lib.hid (HR22.out.below hb2); have HR83 := Lib.hid (HR82.out.below hb2); have HBR3 := Lib.hid (keepBelow HBR2.out hb2)) | fail)
      obtain ⟨-, -, -, hbf, h8f⟩ := fin3 HBR3.out HB8S.out HR83.out (.int .i64 c) (.int .i64 rn) (.int .i64 0)
      have h2f := ((HR23.out.far HNE.out (j := 0) (.int .i64 c)).far HNE.out (j := 1) (.int .i64 rn)).far HNE.out (j := 2) (.int .i64 0)
      have c0 := HR83.out.cell (j := 0) rfl; have c1 := HR83.out.cell (j := 1) rfl; have c2 := HR83.out.cell (j := 2) rfl
      have f0 := HR83.out.frz 0; have f1 := HR83.out.frz 1; have f2 := HR83.out.frz 2
      obtain ⟨W, hW⟩ : ∃ W, ((W5.setCell ⟨b8, 0, none⟩ (.int .i64 c)).setCell ⟨b8, 1, none⟩ (.int .i64 rn)).setCell ⟨b8, 2, none⟩ (.int .i64 0) = W := ⟨_, rfl⟩
      rw [hW] at hbf h8f h2f
      have HB2 := Lib.hid h2f
      have HB8 := Lib.hid h8f
      have HBW := Lib.hid hbf
      clear hbf h8f h2f
      go_upto_region 17 with fail
      try rw [hW]
      clear hW c0 c1 c2 f0 f1 f2 hb hb2 HCU HWD HR21 HR22 HR23 HR81 HR82 HR83 HBR1 HBR2 HBR3 HR2 HR8 HBR HRG HRG1 HRG0 HLT HW2 HW8 HBW3 HA HB HQ HRE HX HSG
      obtain ⟨ng, hng⟩ : ∃ q, negB (bsO B) = q := ⟨_, rfl⟩
      obtain ⟨dm, hdm⟩ : ∃ q, numM (bsO B) 1 31 = q := ⟨_, rfl⟩
      have HPM : Hid (∀ w', Calls Tryz.prog 90 #[.string B, .string ⟨#[45]⟩] w' fun e w'' => e = .returned (.bool ng) ∧ w'' = w') := Lib.hid (by rw [← hng]; exact fun w' => pre_minus B w')
      have HNU : Hid (∀ w', Calls Tryz.prog 91 #[.string B, .int .i64 1, .int .i64 31] w' fun e w'' => e = .returned (.tuple #[.int .i64 dm.1, .int .i64 dm.2]) ∧ w'' = w') := Lib.hid (by rw [← hdm]; exact fun w' => number_any B HTS.out 1 31 (by decide) (by decide) w')
      have HDM : Hid (dayM (bsO B) = if ng = true then (0, 3) else dm) := Lib.hid (by unfold dayM; rw [hng, hdm])
      clear hng hdm
      have c0 := HB2.out.cell (j := 0) rfl; have c1 := HB2.out.cell (j := 1) rfl; have c2 := HB2.out.cell (j := 2) rfl
      have f0 := HB2.out.frz 0; have f1 := HB2.out.frz 1; have f2 := HB2.out.frz 2
      cases ng with
      | true =>
       have HAN : Hid (onM (bsO s) = (on0, 3)) := Lib.hid (by rw [HT.out, show dayM (bsO B) = (0, 3) by rw [HDM.out]; rfl, if_pos (by decide)])
       go_wp2_with (first | (go_at_call 90; refine (HPM.out _).mono ?_; rintro e w' ⟨rfl, hw⟩; rw [hw]; clear hw) | fail)
       obtain ⟨r0, r1, r2, HBF, _⟩ := fin3 HBW.out HB2S.out HB2.out (.int .i64 0) (.int .i64 0) (.int .i64 0)
       refine bodyPost_ret (v := .tuple #[.agg #[.int .i64 0, .int .i64 0, .int .i64 0], .int .i64 3]) (by simp [results, Tryz.results28, go_sem, r0, r1, r2]) rfl ?_
       exact ⟨by rw [HAN.out]; rfl, HBF⟩
      | false =>
       obtain ⟨dn, de⟩ := dm
       by_cases hde : de = 0
       ·have g0 : (de != 0) = false := by simpa using hde
        have HAN : Hid (onM (bsO s) = (⟨c, rn, dn⟩, 0)) := Lib.hid (by rw [HT.out, show dayM (bsO B) = (dn, de) by rw [HDM.out]; rfl, if_neg (by simpa using hde)])
        clear hde
        have x0 := HB8.out.cell (j := 0) rfl; have x1 := HB8.out.cell (j := 1) rfl; have x2 := HB8.out.cell (j := 2) rfl
        have y2 := HB8.out.frz 2
        have hne : b2 ≠ b8 := HNE.out
        go_upto_region 22 with (first | (go_at_call 90; refine (HPM.out _).mono ?_; rintro e w' ⟨rfl, hw⟩; rw [hw]; clear hw) | (go_at_call 91; refine (HNU.out _).mono ?_; rintro e w' ⟨rfl, hw⟩; rw [hw]; clear hw) | fail)
        go_upto_region 23 with fail
        obtain ⟨V, hV⟩ : ∃ V, W.setCell ⟨b8, 2, none⟩ (.int .i64 dn) = V := ⟨_, rfl⟩
        have HV8 : Hid (Blk V b8 #[.int .i64 c, .int .i64 rn, .int .i64 dn] 39) := Lib.hid (by rw [← hV]; exact HB8.out.set (j := 2) _)
        have HV2 : Hid (Blk V b2 #[.int .i64 0, .int .i64 0, .int .i64 0] 39) := Lib.hid (by rw [← hV]; exact HB2.out.far HNE.out _)
        have HVW : Hid (Below w.heap.size w V) := Lib.hid (by rw [← hV]; exact HBW.out.setCell (p := ⟨b8, 2, none⟩) HB8S.out _)
        try rw [hV]
        clear hV c0 c1 c2 f0 f1 f2 x0 x1 x2 y2
        have c0 := HV2.out.cell (j := 0) rfl; have c1 := HV2.out.cell (j := 1) rfl; have c2 := HV2.out.cell (j := 2) rfl
        have f0 := HV2.out.frz 0; have f1 := HV2.out.frz 1; have f2 := HV2.out.frz 2
        have x0 := HV8.out.cell (j := 0) rfl; have x1 := HV8.out.cell (j := 1) rfl; have x2 := HV8.out.cell (j := 2) rfl
        go_wp2_with fail
        obtain ⟨r0, r1, r2, HBF, _⟩ := fin3 HVW.out HB2S.out HV2.out (.int .i64 c) (.int .i64 rn) (.int .i64 dn)
        refine bodyPost_ret (v := .tuple #[.agg #[.int .i64 c, .int .i64 rn, .int .i64 dn], .int .i64 0]) (by simp [results, Tryz.results28, go_sem, r0, r1, r2]) rfl ?_
        exact ⟨by rw [HAN.out]; rfl, HBF⟩
       ·have g0 : (de != 0) = true := by simpa using hde
        have HAN : Hid (onM (bsO s) = (on0, de)) := Lib.hid (by rw [HT.out, show dayM (bsO B) = (dn, de) by rw [HDM.out]; rfl, if_pos (by simpa using hde)])
        clear hde
        go_wp2_with (first | (go_at_call 90; refine (HPM.out _).mono ?_; rintro e w' ⟨rfl, hw⟩; rw [hw]; clear hw) | (go_at_call 91; refine (HNU.out _).mono ?_; rintro e w' ⟨rfl, hw⟩; rw [hw]; clear hw) | fail)
        obtain ⟨r0, r1, r2, HBF, _⟩ := fin3 HBW.out HB2S.out HB2.out (.int .i64 0) (.int .i64 0) (.int .i64 0)
        refine bodyPost_ret (v := .tuple #[.agg #[.int .i64 0, .int .i64 0, .int .i64 0], .int .i64 de]) (by simp [results, Tryz.results28, go_sem, r0, r1, r2]) rfl ?_
        exact ⟨by rw [HAN.out]; rfl, HBF⟩
     ·have g0 : (re != 0) = true := by simpa using hre
      have HAN : Hid (onM (bsO s) = (on0, 3)) := Lib.hid (on_bad HSG.out HPF2.out HQ.out (by rw [HA.out, HRE.out]; exact hre))
      clear hre
      go_wp2_with (first | (go_at_call 89; refine HCU.out.mono ?_; rintro e w' ⟨rfl, hb⟩; have HR22 := Lib.hid (HR21.out.below hb); have HBR2 := Lib.hid (keepBelow HBR1.out hb)) | (go_at_call 88; refine (HWD.out _).mono ?_; rintro e w' ⟨rfl, hb2⟩; have HB2 := Lib.hid (HR22.out.below hb2); have HBW := Lib.hid (keepBelow HBR2.out hb2); have c0 := HB2.out.cell (j := 0) rfl; have c1 := HB2.out.cell (j := 1) rfl; have c2 := HB2.out.cell (j := 2) rfl; have f0 := HB2.out.frz 0; have f1 := HB2.out.frz 1; have f2 := HB2.out.frz 2) | fail)
      obtain ⟨r0, r1, r2, HBF, _⟩ := fin3 HBW.out HB2S.out HB2.out (.int .i64 0) (.int .i64 0) (.int .i64 0)
      refine bodyPost_ret (v := .tuple #[.agg #[.int .i64 0, .int .i64 0, .int .i64 0], .int .i64 3]) (by simp [results, Tryz.results28, go_sem, r0, r1, r2]) rfl ?_
      exact ⟨by rw [HAN.out]; rfl, HBF⟩
end Go.Proofs.YtlbglinpgjlbkaaGreatDoor
