import Derived.Test.YtlbglinpgjlbkaaGreatDoorWkR9
import Derived.Test.YtlbglinpgjlbkaaGreatDoorWkShelfG
/- Zone texts: slices.Concat of two slices, at rules, zones, links. Printed by gen_cc.py. No conditions. -/
namespace Go.Proofs.YtlbglinpgjlbkaaGreatDoor
open Go.RowKit Wk

theorem wpList_app_none {P : Program} {w : World} {ops : Array Oper} {rest : List Oper} {o : Oper} {a : Act} {Q : Exit → Act → World → Prop} (hgd : o.guard = none) (s x : Operand) (t : TypeId)
  (ho : o.op = .call { callee := .builtin .append, args := #[s, x], argTypes := #[t, t] })
  (base : Nat) (e : TypeId) (i : TypeInfo) (size : Nat) (ht : P.underlying t = some (.slice e)) (hi : P.info? e = some i)
  (v : Value) (n c : Nat) (xs : List Value) (hs : a.eval s = v) (hown : w.ownsRow base e size v n xs) (hx : a.eval x = .slice none 0 c)
  (h : wpList P ops Q rest (a.put o.dst v) w) : wpList P ops Q (o :: rest) a w := by
 refine wpList_plain hgd fun K hK => ?_
 have hrun : (Builtin.append_ #[t, t] o.type #[v, .slice none 0 c]).run P w = .ok v w := by
  rcases hown.2 with ⟨rfl, rfl⟩ | ⟨g, cap, cur, rfl, _, _, hnc, _⟩
  ·simp [Builtin.append_, run_underlying ht, sizeOf, typeInfo, hi, Builtin.lenOf, Builtin.firstCells]
  ·simp [Builtin.append_, run_underlying ht, sizeOf, typeInfo, hi, Builtin.lenOf, Builtin.firstCells, hnc, storeCells]
 unfold Oper.wp
 simp [execOp, ho, resolve, invoke, builtin, hs, hx, hrun, Result.andThen]
 exact hK _ _ h
theorem wpList_cat_G {α : Type} {P : Program} {ops : Array Oper} {rest : List Oper} {o : Oper} {a : Act} {Q : Exit → Act → World → Prop} {B : Nat} {w0 W : World} {T TS : TypeId} {sz : Nat} {fl : α → List Value} (hf : ∀ x, (fl x).length = sz) (h0 : 0 < sz)
  (hTS : P.underlying TS = some (.slice T)) {zv : Value} {by_ : Nat} (hinfo : (P.info? T).map (fun i => (i.zero, i.size, i.bytes)) = some (some zv, sz, by_)) (hzv : zv.cells.size = sz) (hby : by_ ≤ 1000)
  {v x' : Value} {L N : List α} {d : α} (hgd : o.guard = none) (s x : Operand)
  (ho : o.op = .call { callee := .builtin .append, args := #[s, x], argTypes := #[TS, TS] }) (hs : a.eval s = v) (hown : OwnG T sz fl W B v L) (hbB : w0.heap.size ≤ B) (hBW : B ≤ W.heap.size) (hbw : Below w0.heap.size w0 W)
  (hx : a.eval x = x') (hrd : RdG sz fl d W x' N) (hone : ∀ z ∈ N, ∀ u ∈ fl z, u.oneCell' = true) (hlen : L.length + N.length ≤ 1000000)
  (h : ∀ v' w', OwnG T sz fl w' B v' (L ++ N) → Below w0.heap.size w0 w' → wpList P ops Q rest (a.put o.dst v') w') : wpList P ops Q (o :: rest) a W := by
 obtain ⟨i0, hi, hz0, hz1, hz2⟩ := info_parts hinfo
 obtain ⟨p, c, rfl, hl, hc⟩ := hrd
 cases p with
 | none =>
  have hN : N = [] := by
   cases N with
   | nil => rfl
   | cons z r => obtain ⟨_, _, e, _⟩ := hc 0 (by simp); cases e
  subst hN
  refine wpList_app_none hgd s x TS ho B T i0 sz hTS hi v L.length c (flatG fl L) hs hown hx ?_
  refine h v W ?_ hbw
  rw [List.append_nil]
  exact hown
 | some ad =>
  refine wpList_append_own _ hgd s x TS ho B T i0 zv sz by_ hTS hi hz0 hz1 hz2 hzv h0 v L.length (flatG fl L) hs hown ad N.length c (flatG fl N) hx (flatG_length hf N) ?_ ?_ (by unfold maxLen; omega) ?_ hBW ?_
  ·intro j u hu
   have hj := (List.getElem?_eq_some_iff.1 hu).1
   rw [flatG_length hf] at hj
   have hi : j / sz < N.length := Nat.div_lt_of_lt_mul (by rw [Nat.mul_comm]; exact hj)
   have hr : j % sz < sz := Nat.mod_lt _ h0
   have hjj : j = j / sz * sz + j % sz := by rw [Nat.mul_comm]; exact (Nat.div_add_mod j sz).symm
   rw [hjj, flatG_get hf d N _ _ hi hr] at hu
   obtain ⟨b, o', e, hcc⟩ := hc _ hi
   cases e
   have q := hcc _ u hr hu
   rw [WideShapes.add_plain]
   rw [show o' + j = o' + j / sz * sz + j % sz by omega]
   exact q
  ·intro u hu
   obtain ⟨z, hz, hu⟩ := List.mem_flatMap.1 hu
   exact hone z hz u hu
  ·have : (L.length + N.length) * by_ ≤ 1000000 * 1000 := Nat.mul_le_mul hlen hby
   omega
  ·intro v' w' hown' hg _
   refine h v' w' ?_ (hbw.grown hg hbw.size (fun k hk => by have := (World.ownsRow.lt hown k hk).1; omega))
   unfold OwnG
   rw [flatG_append, List.length_append]
   exact hown'

set_option maxRecDepth 100000 in
theorem grow_rule (n : Nat) (w : World) (hn : n ≤ 1000000) :
  Calls Tryz.prog 59 #[.slice none 0 0, .int .i64 n] w fun e w' => ∃ v, e = .returned v ∧ OwnG 41 11 flRu w' w.heap.size v [] ∧ Below w.heap.size w w' := by
 by_cases h0 : n = 0
 ·subst h0
  refine (Any8.slices_Grow_room Tryz.growRu none 0 0 0 w (Nat.le_refl _) (by omega) (by omega) (Nat.le_refl _)).mono ?_
  rintro e w' ⟨rfl, rfl⟩
  exact ⟨_, rfl, OwnG.nil _ _, Below.refl _ _⟩
 ·obtain ⟨i0, hi, hz0, hz1, hz2⟩ := info_parts Tryz.infoRu
  have q := Any8.slices_Grow_grow Tryz.growRu i0 _ hi hz0 (by rw [hz1]; omega) none 0 0 n [] w (Nat.le_refl _) (by omega) (by rw [hz2]; omega) (by omega) (by simp) (fun _ => rfl) (fun a h => by cases h)
  refine q.mono ?_
  rintro e w' ⟨rfl, rfl⟩
  refine ⟨_, rfl, ?_, ((Below.refl _ w).drew).alloc (Nat.le_refl _) _⟩
  have hm : grownCap w (0 + n) 0 41 ≤ maxLen := grownCap_le_maxLen _ _ _ _ (by unfold maxLen; omega)
  have hg := grownCap_ge w (0 + n) 0 41
  refine World.ownsRow_made w.drew _ _ (Nat.le_refl _) hm ?_
  have hzc : ∀ m, (Builtin.zeroCells (Value.cells (.agg #[.string ⟨#[]⟩, .int .i64 0, .int .i64 0, .int .i64 0, .int .i64 0, .int .i64 0, .int .i64 0, .int .i64 0, .int .i64 0, .int .i64 0, .string ⟨#[]⟩])) m).size = m * 11 := fun m => by
   simp [Builtin.zeroCells, Value.cells]
  rw [Array.size_append, Array.size_append, hzc, hzc]
  simp only [List.size_toArray, List.length_nil]
  show _ = grownCap w (0 + n) 0 41 * 11
  have : Tryz.growRu_ren.t 25 = 41 := rfl
  rw [this]
  omega
set_option maxRecDepth 100000 in
set_option maxHeartbeats 2000000 in
theorem cat_rule (v1 v2 : Value) (L1 L2 : List RuT) (b c : Nat) (w : World) (h1 : RdG 11 flRu ru0 w v1 L1) (h2 : RdG 11 flRu ru0 w v2 L2) (ho1 : ∀ z ∈ L1, ∀ u ∈ flRu z, u.oneCell' = true) (ho2 : ∀ z ∈ L2, ∀ u ∈ flRu z, u.oneCell' = true) (hl1 : L1.length ≤ 300000) (hl2 : L2.length ≤ 300000)
  (c1 : w.cell? ⟨b, 0, none⟩ = some v1) (c2 : w.cell? ⟨b, 1, none⟩ = some v2) :
  Calls Tryz.prog 15 #[.slice (some ⟨b, 0, none⟩) 2 c] w fun e w' => ∃ v, e = .returned v ∧ OwnG 41 11 flRu w' w.heap.size v (L1 ++ L2) ∧ Below w.heap.size w w' := by
 have HR1 := Lib.hid h1
 have HR2 := Lib.hid h2
 have HO1 := Lib.hid ho1
 have HO2 := Lib.hid ho2
 have HC1 : Hid (∀ W, Below w.heap.size w W → W.cell? ⟨b, 0, none⟩ = some v1 ∧ W.cell? ⟨b, 1, none⟩ = some v2) := Lib.hid fun W hW => ⟨keepCell hW c1, keepCell hW c2⟩
 obtain ⟨a1, k1, rfl⟩ := h1.form
 obtain ⟨a2, k2, rfl⟩ := h2.form
 have hi1 : (L1.length : Int) ≤ 300000 := by omega
 have hi2 : (L2.length : Int) ≤ 300000 := by omega
 have H1 := Lib.hid hl1
 have H2 := Lib.hid hl2
 clear h1 h2 ho1 ho2 c1 c2 hl1 hl2
 go_enter Tryz.func15, Tryz.ntmps15
 go_wp2_with fail
 go_loopw [3, 5, 11] (fun u3 _ u wr => ((u = .int .i64 0 ∧ u3 = .int .i64 0) ∨ (u = .int .i64 1 ∧ u3 = .int .i64 L1.length) ∨ (u = .int .i64 2 ∧ u3 = .int .i64 ((L1.length : Int) + L2.length))) ∧ Hid (Below w.heap.size w wr)) (fun _ _ u _ => 2 - (intOf u).toNat)
 case atStart => exact ⟨.inl ⟨rfl, rfl⟩, Below.refl _ _⟩
 case round =>
  obtain ⟨hst, HB⟩ := hrel
  obtain ⟨d1, d2⟩ := HC1.out wr HB.out
  have HBD : Hid (Below w.heap.size w wr.drew) := Lib.hid HB.out.drew
  rcases hst with ⟨rfl, rfl⟩ | ⟨rfl, rfl⟩ | ⟨rfl, rfl⟩
  ·go_wp2_with fail
   go_roundw
   case rel => exact ⟨.inr (.inl ⟨rfl, by simp⟩), HB⟩
   case measure => simp [intOf]
  ·go_wp2_with fail
   go_roundw
   case rel => exact ⟨.inr (.inr ⟨rfl, by simp⟩), HB⟩
   case measure => simp [intOf]
  ·clear d1 d2
   go_wp2_with (first | (go_at_call 59; refine (grow_rule (L1.length + L2.length) wr (by have := H1.out; have := H2.out; omega)).mono ?_; rintro e w5 ⟨v5, rfl, ho5, hb5⟩; obtain ⟨W5, hW5⟩ : ∃ W, w5 = W := ⟨_, rfl⟩; rw [hW5] at ho5 hb5 ⊢; clear hW5; have HO5 := Lib.hid (ho5.mono HB.out.size); have HB5 : Hid (Below w.heap.size w W5) := Lib.hid (keepBelow HB.out hb5); clear ho5 hb5) | fail)
   go_loopw [6, 8, 27] (fun u6 _ u wr => ∃ K, Hid (OwnG 41 11 flRu wr w.heap.size u6 K) ∧ ((u = .int .i64 0 ∧ K = []) ∨ (u = .int .i64 1 ∧ K = L1) ∨ (u = .int .i64 2 ∧ K = L1 ++ L2)) ∧ Hid (Below w.heap.size w wr)) (fun _ _ u _ => 2 - (intOf u).toNat)
   case atStart => exact ⟨[], HO5, .inl ⟨rfl, rfl⟩, HB5⟩
   case round =>
    obtain ⟨K, HK, hst, HBR⟩ := hrel
    obtain ⟨d1, d2⟩ := HC1.out _ HBR.out
    rcases hst with ⟨rfl, hK⟩ | ⟨rfl, hK⟩ | ⟨rfl, hK⟩ <;> rw [hK] at HK <;> clear hK
    ·go_wp2_with (first | (at_builtin; refine wpList_cat_G (d := ru0) (w0 := w) (B := w.heap.size) (L := []) (N := L1) flRu_len (by decide) Tryz.underlying23 Tryz.infoRu rfl (by decide) rfl (.tmp 31) (.tmp 32) rfl rfl HK.out (Nat.le_refl _) HBR.out.size HBR.out rfl (HR1.out.below HBR.out) HO1.out (by have := H1.out; simp; omega) ?_; intro v7 w7 o7 b7; have HO7 := Lib.hid o7; have HB7 := Lib.hid b7; clear o7 b7) | fail)
     go_roundw
     case rel => exact ⟨L1, HO7, .inr (.inl ⟨rfl, rfl⟩), HB7⟩
     case measure => simp [intOf]
    ·go_wp2_with (first | (at_builtin; refine wpList_cat_G (d := ru0) (w0 := w) (B := w.heap.size) (L := L1) (N := L2) flRu_len (by decide) Tryz.underlying23 Tryz.infoRu rfl (by decide) rfl (.tmp 31) (.tmp 32) rfl rfl HK.out (Nat.le_refl _) HBR.out.size HBR.out rfl (HR2.out.below HBR.out) HO2.out (by have := H1.out; have := H2.out; omega) ?_; intro v7 w7 o7 b7; have HO7 := Lib.hid o7; have HB7 := Lib.hid b7; clear o7 b7) | fail)
     go_roundw
     case rel => exact ⟨L1 ++ L2, HO7, .inr (.inr ⟨rfl, rfl⟩), HB7⟩
     case measure => simp [intOf]
    ·clear d1 d2
     go_wp2_with fail
     go_ret
     exact ⟨_, rfl, HK.out, HBR.out⟩

set_option maxRecDepth 100000 in
theorem grow_zone (n : Nat) (w : World) (hn : n ≤ 1000000) :
  Calls Tryz.prog 60 #[.slice none 0 0, .int .i64 n] w fun e w' => ∃ v, e = .returned v ∧ OwnG 45 2 flZk w' w.heap.size v [] ∧ Below w.heap.size w w' := by
 by_cases h0 : n = 0
 ·subst h0
  refine (Any8.slices_Grow_room Tryz.growZo none 0 0 0 w (Nat.le_refl _) (by omega) (by omega) (Nat.le_refl _)).mono ?_
  rintro e w' ⟨rfl, rfl⟩
  exact ⟨_, rfl, OwnG.nil _ _, Below.refl _ _⟩
 ·obtain ⟨i0, hi, hz0, hz1, hz2⟩ := info_parts Tryz.infoZo
  have q := Any8.slices_Grow_grow Tryz.growZo i0 _ hi hz0 (by rw [hz1]; omega) none 0 0 n [] w (Nat.le_refl _) (by omega) (by rw [hz2]; omega) (by omega) (by simp) (fun _ => rfl) (fun a h => by cases h)
  refine q.mono ?_
  rintro e w' ⟨rfl, rfl⟩
  refine ⟨_, rfl, ?_, ((Below.refl _ w).drew).alloc (Nat.le_refl _) _⟩
  have hm : grownCap w (0 + n) 0 45 ≤ maxLen := grownCap_le_maxLen _ _ _ _ (by unfold maxLen; omega)
  have hg := grownCap_ge w (0 + n) 0 45
  refine World.ownsRow_made w.drew _ _ (Nat.le_refl _) hm ?_
  have hzc : ∀ m, (Builtin.zeroCells (Value.cells (.agg #[.string ⟨#[]⟩, .slice none 0 0])) m).size = m * 2 := fun m => by
   simp [Builtin.zeroCells, Value.cells]
  rw [Array.size_append, Array.size_append, hzc, hzc]
  simp only [List.size_toArray, List.length_nil]
  show _ = grownCap w (0 + n) 0 45 * 2
  have : Tryz.growZo_ren.t 25 = 45 := rfl
  rw [this]
  omega
set_option maxRecDepth 100000 in
set_option maxHeartbeats 2000000 in
theorem cat_zone (v1 v2 : Value) (L1 L2 : List ZkT) (b c : Nat) (w : World) (h1 : RdG 2 flZk zk0 w v1 L1) (h2 : RdG 2 flZk zk0 w v2 L2) (ho1 : ∀ z ∈ L1, ∀ u ∈ flZk z, u.oneCell' = true) (ho2 : ∀ z ∈ L2, ∀ u ∈ flZk z, u.oneCell' = true) (hl1 : L1.length ≤ 300000) (hl2 : L2.length ≤ 300000)
  (c1 : w.cell? ⟨b, 0, none⟩ = some v1) (c2 : w.cell? ⟨b, 1, none⟩ = some v2) :
  Calls Tryz.prog 16 #[.slice (some ⟨b, 0, none⟩) 2 c] w fun e w' => ∃ v, e = .returned v ∧ OwnG 45 2 flZk w' w.heap.size v (L1 ++ L2) ∧ Below w.heap.size w w' := by
 have HR1 := Lib.hid h1
 have HR2 := Lib.hid h2
 have HO1 := Lib.hid ho1
 have HO2 := Lib.hid ho2
 have HC1 : Hid (∀ W, Below w.heap.size w W → W.cell? ⟨b, 0, none⟩ = some v1 ∧ W.cell? ⟨b, 1, none⟩ = some v2) := Lib.hid fun W hW => ⟨keepCell hW c1, keepCell hW c2⟩
 obtain ⟨a1, k1, rfl⟩ := h1.form
 obtain ⟨a2, k2, rfl⟩ := h2.form
 have hi1 : (L1.length : Int) ≤ 300000 := by omega
 have hi2 : (L2.length : Int) ≤ 300000 := by omega
 have H1 := Lib.hid hl1
 have H2 := Lib.hid hl2
 clear h1 h2 ho1 ho2 c1 c2 hl1 hl2
 go_enter Tryz.func16, Tryz.ntmps16
 go_wp2_with fail
 go_loopw [3, 5, 11] (fun u3 _ u wr => ((u = .int .i64 0 ∧ u3 = .int .i64 0) ∨ (u = .int .i64 1 ∧ u3 = .int .i64 L1.length) ∨ (u = .int .i64 2 ∧ u3 = .int .i64 ((L1.length : Int) + L2.length))) ∧ Hid (Below w.heap.size w wr)) (fun _ _ u _ => 2 - (intOf u).toNat)
 case atStart => exact ⟨.inl ⟨rfl, rfl⟩, Below.refl _ _⟩
 case round =>
  obtain ⟨hst, HB⟩ := hrel
  obtain ⟨d1, d2⟩ := HC1.out wr HB.out
  have HBD : Hid (Below w.heap.size w wr.drew) := Lib.hid HB.out.drew
  rcases hst with ⟨rfl, rfl⟩ | ⟨rfl, rfl⟩ | ⟨rfl, rfl⟩
  ·go_wp2_with fail
   go_roundw
   case rel => exact ⟨.inr (.inl ⟨rfl, by simp⟩), HB⟩
   case measure => simp [intOf]
  ·go_wp2_with fail
   go_roundw
   case rel => exact ⟨.inr (.inr ⟨rfl, by simp⟩), HB⟩
   case measure => simp [intOf]
  ·clear d1 d2
   go_wp2_with (first | (go_at_call 60; refine (grow_zone (L1.length + L2.length) wr (by have := H1.out; have := H2.out; omega)).mono ?_; rintro e w5 ⟨v5, rfl, ho5, hb5⟩; obtain ⟨W5, hW5⟩ : ∃ W, w5 = W := ⟨_, rfl⟩; rw [hW5] at ho5 hb5 ⊢; clear hW5; have HO5 := Lib.hid (ho5.mono HB.out.size); have HB5 : Hid (Below w.heap.size w W5) := Lib.hid (keepBelow HB.out hb5); clear ho5 hb5) | fail)
   go_loopw [6, 8, 27] (fun u6 _ u wr => ∃ K, Hid (OwnG 45 2 flZk wr w.heap.size u6 K) ∧ ((u = .int .i64 0 ∧ K = []) ∨ (u = .int .i64 1 ∧ K = L1) ∨ (u = .int .i64 2 ∧ K = L1 ++ L2)) ∧ Hid (Below w.heap.size w wr)) (fun _ _ u _ => 2 - (intOf u).toNat)
   case atStart => exact ⟨[], HO5, .inl ⟨rfl, rfl⟩, HB5⟩
   case round =>
    obtain ⟨K, HK, hst, HBR⟩ := hrel
    obtain ⟨d1, d2⟩ := HC1.out _ HBR.out
    rcases hst with ⟨rfl, hK⟩ | ⟨rfl, hK⟩ | ⟨rfl, hK⟩ <;> rw [hK] at HK <;> clear hK
    ·go_wp2_with (first | (at_builtin; refine wpList_cat_G (d := zk0) (w0 := w) (B := w.heap.size) (L := []) (N := L1) flZk_len (by decide) Tryz.underlying24 Tryz.infoZo rfl (by decide) rfl (.tmp 31) (.tmp 32) rfl rfl HK.out (Nat.le_refl _) HBR.out.size HBR.out rfl (HR1.out.below HBR.out) HO1.out (by have := H1.out; simp; omega) ?_; intro v7 w7 o7 b7; have HO7 := Lib.hid o7; have HB7 := Lib.hid b7; clear o7 b7) | fail)
     go_roundw
     case rel => exact ⟨L1, HO7, .inr (.inl ⟨rfl, rfl⟩), HB7⟩
     case measure => simp [intOf]
    ·go_wp2_with (first | (at_builtin; refine wpList_cat_G (d := zk0) (w0 := w) (B := w.heap.size) (L := L1) (N := L2) flZk_len (by decide) Tryz.underlying24 Tryz.infoZo rfl (by decide) rfl (.tmp 31) (.tmp 32) rfl rfl HK.out (Nat.le_refl _) HBR.out.size HBR.out rfl (HR2.out.below HBR.out) HO2.out (by have := H1.out; have := H2.out; omega) ?_; intro v7 w7 o7 b7; have HO7 := Lib.hid o7; have HB7 := Lib.hid b7; clear o7 b7) | fail)
     go_roundw
     case rel => exact ⟨L1 ++ L2, HO7, .inr (.inr ⟨rfl, rfl⟩), HB7⟩
     case measure => simp [intOf]
    ·clear d1 d2
     go_wp2_with fail
     go_ret
     exact ⟨_, rfl, HK.out, HBR.out⟩

set_option maxRecDepth 100000 in
theorem grow_link (n : Nat) (w : World) (hn : n ≤ 1000000) :
  Calls Tryz.prog 61 #[.slice none 0 0, .int .i64 n] w fun e w' => ∃ v, e = .returned v ∧ OwnG 48 2 flLk w' w.heap.size v [] ∧ Below w.heap.size w w' := by
 by_cases h0 : n = 0
 ·subst h0
  refine (Any8.slices_Grow_room Tryz.growLk none 0 0 0 w (Nat.le_refl _) (by omega) (by omega) (Nat.le_refl _)).mono ?_
  rintro e w' ⟨rfl, rfl⟩
  exact ⟨_, rfl, OwnG.nil _ _, Below.refl _ _⟩
 ·obtain ⟨i0, hi, hz0, hz1, hz2⟩ := info_parts Tryz.infoLk
  have q := Any8.slices_Grow_grow Tryz.growLk i0 _ hi hz0 (by rw [hz1]; omega) none 0 0 n [] w (Nat.le_refl _) (by omega) (by rw [hz2]; omega) (by omega) (by simp) (fun _ => rfl) (fun a h => by cases h)
  refine q.mono ?_
  rintro e w' ⟨rfl, rfl⟩
  refine ⟨_, rfl, ?_, ((Below.refl _ w).drew).alloc (Nat.le_refl _) _⟩
  have hm : grownCap w (0 + n) 0 48 ≤ maxLen := grownCap_le_maxLen _ _ _ _ (by unfold maxLen; omega)
  have hg := grownCap_ge w (0 + n) 0 48
  refine World.ownsRow_made w.drew _ _ (Nat.le_refl _) hm ?_
  have hzc : ∀ m, (Builtin.zeroCells (Value.cells (.agg #[.string ⟨#[]⟩, .string ⟨#[]⟩])) m).size = m * 2 := fun m => by
   simp [Builtin.zeroCells, Value.cells]
  rw [Array.size_append, Array.size_append, hzc, hzc]
  simp only [List.size_toArray, List.length_nil]
  show _ = grownCap w (0 + n) 0 48 * 2
  have : Tryz.growLk_ren.t 25 = 48 := rfl
  rw [this]
  omega
set_option maxRecDepth 100000 in
set_option maxHeartbeats 2000000 in
theorem cat_link (v1 v2 : Value) (L1 L2 : List LkT) (b c : Nat) (w : World) (h1 : RdG 2 flLk lk0 w v1 L1) (h2 : RdG 2 flLk lk0 w v2 L2) (ho1 : ∀ z ∈ L1, ∀ u ∈ flLk z, u.oneCell' = true) (ho2 : ∀ z ∈ L2, ∀ u ∈ flLk z, u.oneCell' = true) (hl1 : L1.length ≤ 300000) (hl2 : L2.length ≤ 300000)
  (c1 : w.cell? ⟨b, 0, none⟩ = some v1) (c2 : w.cell? ⟨b, 1, none⟩ = some v2) :
  Calls Tryz.prog 17 #[.slice (some ⟨b, 0, none⟩) 2 c] w fun e w' => ∃ v, e = .returned v ∧ OwnG 48 2 flLk w' w.heap.size v (L1 ++ L2) ∧ Below w.heap.size w w' := by
 have HR1 := Lib.hid h1
 have HR2 := Lib.hid h2
 have HO1 := Lib.hid ho1
 have HO2 := Lib.hid ho2
 have HC1 : Hid (∀ W, Below w.heap.size w W → W.cell? ⟨b, 0, none⟩ = some v1 ∧ W.cell? ⟨b, 1, none⟩ = some v2) := Lib.hid fun W hW => ⟨keepCell hW c1, keepCell hW c2⟩
 obtain ⟨a1, k1, rfl⟩ := h1.form
 obtain ⟨a2, k2, rfl⟩ := h2.form
 have hi1 : (L1.length : Int) ≤ 300000 := by omega
 have hi2 : (L2.length : Int) ≤ 300000 := by omega
 have H1 := Lib.hid hl1
 have H2 := Lib.hid hl2
 clear h1 h2 ho1 ho2 c1 c2 hl1 hl2
 go_enter Tryz.func17, Tryz.ntmps17
 go_wp2_with fail
 go_loopw [3, 5, 11] (fun u3 _ u wr => ((u = .int .i64 0 ∧ u3 = .int .i64 0) ∨ (u = .int .i64 1 ∧ u3 = .int .i64 L1.length) ∨ (u = .int .i64 2 ∧ u3 = .int .i64 ((L1.length : Int) + L2.length))) ∧ Hid (Below w.heap.size w wr)) (fun _ _ u _ => 2 - (intOf u).toNat)
 case atStart => exact ⟨.inl ⟨rfl, rfl⟩, Below.refl _ _⟩
 case round =>
  obtain ⟨hst, HB⟩ := hrel
  obtain ⟨d1, d2⟩ := HC1.out wr HB.out
  have HBD : Hid (Below w.heap.size w wr.drew) := Lib.hid HB.out.drew
  rcases hst with ⟨rfl, rfl⟩ | ⟨rfl, rfl⟩ | ⟨rfl, rfl⟩
  ·go_wp2_with fail
   go_roundw
   case rel => exact ⟨.inr (.inl ⟨rfl, by simp⟩), HB⟩
   case measure => simp [intOf]
  ·go_wp2_with fail
   go_roundw
   case rel => exact ⟨.inr (.inr ⟨rfl, by simp⟩), HB⟩
   case measure => simp [intOf]
  ·clear d1 d2
   go_wp2_with (first | (go_at_call 61; refine (grow_link (L1.length + L2.length) wr (by have := H1.out; have := H2.out; omega)).mono ?_; rintro e w5 ⟨v5, rfl, ho5, hb5⟩; obtain ⟨W5, hW5⟩ : ∃ W, w5 = W := ⟨_, rfl⟩; rw [hW5] at ho5 hb5 ⊢; clear hW5; have HO5 := Lib.hid (ho5.mono HB.out.size); have HB5 : Hid (Below w.heap.size w W5) := Lib.hid (keepBelow HB.out hb5); clear ho5 hb5) | fail)
   go_loopw [6, 8, 27] (fun u6 _ u wr => ∃ K, Hid (OwnG 48 2 flLk wr w.heap.size u6 K) ∧ ((u = .int .i64 0 ∧ K = []) ∨ (u = .int .i64 1 ∧ K = L1) ∨ (u = .int .i64 2 ∧ K = L1 ++ L2)) ∧ Hid (Below w.heap.size w wr)) (fun _ _ u _ => 2 - (intOf u).toNat)
   case atStart => exact ⟨[], HO5, .inl ⟨rfl, rfl⟩, HB5⟩
   case round =>
    obtain ⟨K, HK, hst, HBR⟩ := hrel
    obtain ⟨d1, d2⟩ := HC1.out _ HBR.out
    rcases hst with ⟨rfl, hK⟩ | ⟨rfl, hK⟩ | ⟨rfl, hK⟩ <;> rw [hK] at HK <;> clear hK
    ·go_wp2_with (first | (at_builtin; refine wpList_cat_G (d := lk0) (w0 := w) (B := w.heap.size) (L := []) (N := L1) flLk_len (by decide) Tryz.underlying25 Tryz.infoLk rfl (by decide) rfl (.tmp 31) (.tmp 32) rfl rfl HK.out (Nat.le_refl _) HBR.out.size HBR.out rfl (HR1.out.below HBR.out) HO1.out (by have := H1.out; simp; omega) ?_; intro v7 w7 o7 b7; have HO7 := Lib.hid o7; have HB7 := Lib.hid b7; clear o7 b7) | fail)
     go_roundw
     case rel => exact ⟨L1, HO7, .inr (.inl ⟨rfl, rfl⟩), HB7⟩
     case measure => simp [intOf]
    ·go_wp2_with (first | (at_builtin; refine wpList_cat_G (d := lk0) (w0 := w) (B := w.heap.size) (L := L1) (N := L2) flLk_len (by decide) Tryz.underlying25 Tryz.infoLk rfl (by decide) rfl (.tmp 31) (.tmp 32) rfl rfl HK.out (Nat.le_refl _) HBR.out.size HBR.out rfl (HR2.out.below HBR.out) HO2.out (by have := H1.out; have := H2.out; omega) ?_; intro v7 w7 o7 b7; have HO7 := Lib.hid o7; have HB7 := Lib.hid b7; clear o7 b7) | fail)
     go_roundw
     case rel => exact ⟨L1 ++ L2, HO7, .inr (.inr ⟨rfl, rfl⟩), HB7⟩
     case measure => simp [intOf]
    ·clear d1 d2
     go_wp2_with fail
     go_ret
     exact ⟨_, rfl, HK.out, HBR.out⟩
end Go.Proofs.YtlbglinpgjlbkaaGreatDoor
