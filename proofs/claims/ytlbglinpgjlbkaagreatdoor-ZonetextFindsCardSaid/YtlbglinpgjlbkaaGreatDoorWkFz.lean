import Derived.Test.YtlbglinpgjlbkaaGreatDoorWkCc
import Derived.Test.YtlbglinpgjlbkaaGreatDoorWkC5
/- Zone texts: slices.Clone at lines and rules; the zone of a name, the reference's and the program's. Printed by gen_fz.py. No conditions. -/
namespace Go.Proofs.YtlbglinpgjlbkaaGreatDoor
open Go.RowKit Wk

def lkQ (lk : List LkT) (nm : Bs) : Bs := if fIx (fun z => z.nm == nm) lk < 0 then nm else (lk.getD (fIx (fun z => z.nm == nm) lk).toNat lk0).zo
def zo00 : ZoT := ⟨[], []⟩
def zoQ (zo : List ZoT) (nm : Bs) : ZoT × Int := if fIx (fun z => z.nm == nm) zo < 0 then (zo00, 7) else (zo.getD (fIx (fun z => z.nm == nm) zo).toNat zo00, 0)
def zonM (S : SrT) (nm : Bs) : ZoT × Int := if validB S = true then zoQ S.zo (lkQ S.lk nm) else (zo00, 1)
theorem fIx_map {α β : Type} (f : α → β) (p : β → Bool) (l : List α) : fIx p (l.map f) = fIx (fun x => p (f x)) l := by
 unfold fIx
 rw [List.findIdx?_map]
 rfl
theorem fIx_nat {α : Type} {p : α → Bool} {l : List α} (h : ¬ fIx p l < 0) : ∃ i : Nat, fIx p l = i ∧ i < l.length := by
 unfold fIx at h ⊢
 cases q : l.findIdx? p with
 | none => rw [q] at h; exact absurd (by decide) h
 | some i =>
  obtain ⟨hi, _⟩ := List.findIdx?_eq_some_iff_getElem.1 q
  exact ⟨i, rfl, hi⟩
def ZonP (S : SrT) (nm : Bs) (w : World) (e : Ending) (w' : World) : Prop := ∃ v, e = .returned (.tuple #[.agg #[.string ⟨(zonM S nm).1.nm.toArray⟩, v], .int .i64 (zonM S nm).2]) ∧ RdLi w' v (zonM S nm).1.li ∧ Below w.heap.size w w'
theorem fin2 {w W : World} {b : Nat} {x0 x1 : Value} {T : TypeId} (hB : Below w.heap.size w W) (hb : w.heap.size ≤ b) (hk : Blk W b #[x0, x1] T) (v0 v1 : Value) :
  ((W.setCell ⟨b, 0, none⟩ v0).setCell ⟨b, 1, none⟩ v1).cell? ⟨b, 0, none⟩ = some v0 ∧ ((W.setCell ⟨b, 0, none⟩ v0).setCell ⟨b, 1, none⟩ v1).cell? ⟨b, 1, none⟩ = some v1 ∧ Below w.heap.size w ((W.setCell ⟨b, 0, none⟩ v0).setCell ⟨b, 1, none⟩ v1) := by
 have h : Blk ((W.setCell ⟨b, 0, none⟩ v0).setCell ⟨b, 1, none⟩ v1) b #[v0, v1] T := (hk.set (j := 0) v0).set (j := 1) v1
 exact ⟨h.cell rfl, h.cell rfl, (hB.setCell (p := ⟨b, 0, none⟩) hb _).setCell (p := ⟨b, 1, none⟩) hb _⟩
theorem zon_inv {S : SrT} (nm : Bs) (h : validB S = false) : zonM S nm = (zo00, 1) := by unfold zonM; rw [if_neg (by rw [h]; simp)]
theorem zon_none {S : SrT} {nm m : Bs} (h : validB S = true) (h1 : lkQ S.lk nm = m) (h2 : fIx (fun z => z.nm == m) S.zo < 0) : zonM S nm = (zo00, 7) := by unfold zonM zoQ; rw [if_pos h, h1, if_pos h2]
theorem zon_some {S : SrT} {nm m : Bs} (h : validB S = true) (h1 : lkQ S.lk nm = m) {i : Nat} (h2 : fIx (fun z => z.nm == m) S.zo = i) : zonM S nm = (S.zo.getD i zo00, 0) := by unfold zonM zoQ; rw [if_pos h, h1, h2, if_neg (by omega)]; rfl
theorem zo_at {S : SrT} {Z : List ZkT} (h : Z.map Prod.fst = S.zo) {i : Nat} (hi : i < Z.length) : S.zo.getD i zo00 = (Z.getD i zk0).1 := by
 rw [← h, List.getD_eq_getElem?_getD, List.getD_eq_getElem?_getD, List.getElem?_map, List.getElem?_eq_getElem hi]
 rfl
theorem rdli_nil (w : World) : RdLi w (.slice none 0 0) [] := ⟨none, 0, rfl, by simp, fun i hi => by simp at hi⟩
set_option maxRecDepth 100000 in
set_option maxHeartbeats 400000 in
theorem clone_line (v : Value) (L : List LiT) (w : World) (h : RdG 12 flLi li0 w v L) (hlen : L.length ≤ 1000000) (hone : ∀ z ∈ L, ∀ u ∈ flLi z, u.oneCell' = true) :
  Calls Tryz.prog 77 #[v] w fun e w' => ∃ v', e = .returned v' ∧ OwnG 102 12 flLi w' w.heap.size v' L ∧ Below w.heap.size w w' := by
 have HR := Lib.hid h
 have HO := Lib.hid hone
 have HL := Lib.hid hlen
 obtain ⟨a, c, rfl⟩ := h.form
 have qT : ∀ (w : World) (a : Option Addr) (n c n' c' : Nat), (binOp .eql 43 (.slice a n c) (.slice none n' c')).run Tryz.prog w = .ok (.bool a.isNone) w := fun w a n c n' c' => Lib.run_eql_slice_nil w _ _ a n c n' c' Tryz.underlying43
 cases a with
 | none =>
  have h0 : L = [] := by
   obtain ⟨_, _, e, _, hc⟩ := h
   cases L with
   | nil => rfl
   | cons s r => obtain ⟨_, _, e2, _⟩ := hc 0 (by simp); rw [e2] at e; cases e
  subst h0
  clear h hone hlen
  go_enter Tryz.func77, Tryz.ntmps77
  go_wp2
  go_ret
  exact ⟨_, rfl, OwnG.nil _ _, Below.refl _ _⟩
 | some ad =>
  have H0 : Hid (OwnG 102 12 flLi (w.alloc (.cells #[] 102)) w.heap.size (.slice (some ⟨w.heap.size, 0, none⟩) 0 0) []) := Lib.hid (World.ownsRow_made (base := w.heap.size) (e := 102) (size := 12) w #[] 0 (Nat.le_refl _) (Nat.zero_le _) rfl)
  have HRD := Lib.hid (HR.out.below (w' := w.alloc (.cells #[] 102)) ((Below.refl _ w).alloc (Nat.le_refl _) _))
  clear h hone hlen
  go_enter Tryz.func77, Tryz.ntmps77
  go_wp2_with (at_builtin; refine wpList_cat_G (d := li0) (w0 := w) (B := w.heap.size) (L := []) (N := L) flLi_len (by decide) Tryz.underlying43 Tryz.infoLi rfl (by decide) rfl _ _ rfl rfl H0.out (Nat.le_refl _) (by simp) ((Below.refl _ w).alloc (Nat.le_refl _) _) rfl HRD.out HO.out (by have := HL.out; simp; omega) ?_; intro v7 w7 o7 b7; have HO7 := Lib.hid o7; have HB7 := Lib.hid b7; clear o7 b7)
  go_ret
  exact ⟨_, rfl, HO7.out, HB7.out⟩
set_option maxRecDepth 100000 in
set_option maxHeartbeats 400000 in
theorem clone_rule (v : Value) (L : List RuT) (w : World) (h : RdG 11 flRu ru0 w v L) (hlen : L.length ≤ 1000000) (hone : ∀ z ∈ L, ∀ u ∈ flRu z, u.oneCell' = true) :
  Calls Tryz.prog 85 #[v] w fun e w' => ∃ v', e = .returned v' ∧ OwnG 41 11 flRu w' w.heap.size v' L ∧ Below w.heap.size w w' := by
 have HR := Lib.hid h
 have HO := Lib.hid hone
 have HL := Lib.hid hlen
 obtain ⟨a, c, rfl⟩ := h.form
 have qT : ∀ (w : World) (a : Option Addr) (n c n' c' : Nat), (binOp .eql 23 (.slice a n c) (.slice none n' c')).run Tryz.prog w = .ok (.bool a.isNone) w := fun w a n c n' c' => Lib.run_eql_slice_nil w _ _ a n c n' c' Tryz.underlying23
 cases a with
 | none =>
  have h0 : L = [] := by
   obtain ⟨_, _, e, _, hc⟩ := h
   cases L with
   | nil => rfl
   | cons s r => obtain ⟨_, _, e2, _⟩ := hc 0 (by simp); rw [e2] at e; cases e
  subst h0
  clear h hone hlen
  go_enter Tryz.func85, Tryz.ntmps85
  go_wp2
  go_ret
  exact ⟨_, rfl, OwnG.nil _ _, Below.refl _ _⟩
 | some ad =>
  have H0 : Hid (OwnG 41 11 flRu (w.alloc (.cells #[] 41)) w.heap.size (.slice (some ⟨w.heap.size, 0, none⟩) 0 0) []) := Lib.hid (World.ownsRow_made (base := w.heap.size) (e := 41) (size := 11) w #[] 0 (Nat.le_refl _) (Nat.zero_le _) rfl)
  have HRD := Lib.hid (HR.out.below (w' := w.alloc (.cells #[] 41)) ((Below.refl _ w).alloc (Nat.le_refl _) _))
  clear h hone hlen
  go_enter Tryz.func85, Tryz.ntmps85
  go_wp2_with (at_builtin; refine wpList_cat_G (d := ru0) (w0 := w) (B := w.heap.size) (L := []) (N := L) flRu_len (by decide) Tryz.underlying23 Tryz.infoRu rfl (by decide) rfl _ _ rfl rfl H0.out (Nat.le_refl _) (by simp) ((Below.refl _ w).alloc (Nat.le_refl _) _) rfl HRD.out HO.out (by have := HL.out; simp; omega) ?_; intro v7 w7 o7 b7; have HO7 := Lib.hid o7; have HB7 := Lib.hid b7; clear o7 b7)
  go_ret
  exact ⟨_, rfl, HO7.out, HB7.out⟩
set_option maxRecDepth 100000 in
set_option maxHeartbeats 4000000 in
theorem zoneOf19_any (rv zv lv : Value) (S : SrT) (Z : List ZkT) (N : ByteArray) (w : World) (hs : RdSr w rv zv lv S Z) (hz : SzS S) :
  Calls Tryz.prog 21 #[.agg #[rv, zv, lv], .string N] w (ZonP S (bsO N) w) := by
 have HVA : Hid (∀ W, Below w.heap.size w W → Calls Tryz.prog 24 #[.agg #[rv, zv, lv]] W fun e w' => e = .returned (.bool (validB S)) ∧ Below W.heap.size W w') := Lib.hid fun W hW => valid19_any rv zv lv S Z W (hs.below hW) hz
 have HLK : Hid (∀ W, Below w.heap.size w W → Calls Tryz.prog 78 #[.agg #[rv, zv, lv], .int .i64 (S.lk.length : Nat), .string N] W fun e w' => e = .returned (.int .i64 (fIx (fun z => z.nm == bsO N) S.lk)) ∧ Below W.heap.size W w') := Lib.hid fun W hW => by
  have q := linked19_any rv lv zv S.lk S.lk.length N W (hs.lk.below hW) (Nat.le_refl _)
  rw [List.take_length] at q
  exact q
 have HZO : Hid (∀ (M : ByteArray) W, Below w.heap.size w W → Calls Tryz.prog 79 #[.agg #[rv, zv, lv], .int .i64 (Z.length : Nat), .string M] W fun e w' => e = .returned (.int .i64 (fIx (fun z => z.1.nm == bsO M) Z)) ∧ Below W.heap.size W w') := Lib.hid fun M W hW => by
  have q := zoned19_any rv zv lv Z Z.length M W (hs.zo.below hW) (Nat.le_refl _)
  rw [List.take_length] at q
  exact q
 obtain ⟨ra, rc, rfl⟩ := hs.ru.form
 obtain ⟨za, zc, rfl⟩ := hs.zo.row.form
 obtain ⟨la, lc, rfl⟩ := hs.lk.form
 have HS := Lib.hid hs
 have hlk : (S.lk.length : Int) ≤ 1152921504606846976 := by obtain ⟨_, _, _, h, _⟩ := hs.lk; omega
 have hlz : (Z.length : Int) ≤ 1152921504606846976 := by obtain ⟨_, _, _, h, _⟩ := hs.zo.row; omega
 clear hs hz
 go_enter Tryz.func21, Tryz.ntmps21
 go_upto_region 1 with fail
 obtain ⟨bx, hbx⟩ : ∃ b, w.heap.size = b := ⟨_, rfl⟩
 obtain ⟨br, hbr⟩ : ∃ b, w.heap.size + 1 = b := ⟨_, rfl⟩
 obtain ⟨X, hX⟩ : ∃ Y, (w.alloc (.cells #[.slice ra S.ru.length rc, .slice za Z.length zc, .slice la S.lk.length lc] 27)).alloc (.cells #[.string ⟨#[]⟩, .slice none 0 0] 45) = Y := ⟨_, rfl⟩
 have HBX : Hid (Below w.heap.size w X) := Lib.hid (by rw [← hX]; exact ((Below.refl _ _).alloc (Nat.le_refl _) _).alloc (by simp) _)
 have HBS : Hid (w.heap.size ≤ br) := Lib.hid (by omega)
 have HRB : Hid (Blk X br #[.string ⟨#[]⟩, .slice none 0 0] 45) := Lib.hid (by
  rw [← hX, ← hbr]
  have q := Blk.new (w.alloc (.cells #[.slice ra S.ru.length rc, .slice za Z.length zc, .slice la S.lk.length lc] 27)) #[.string ⟨#[]⟩, .slice none 0 0] 45
  simpa using q)
 have HK : Hid (∀ W, Below X.heap.size X W → W.cell? ⟨bx, 0, none⟩ = some (.slice ra S.ru.length rc) ∧ W.cell? ⟨bx, 1, none⟩ = some (.slice za Z.length zc) ∧ W.cell? ⟨bx, 2, none⟩ = some (.slice la S.lk.length lc)) := Lib.hid (by
  have q : Blk X bx #[.slice ra S.ru.length rc, .slice za Z.length zc, .slice la S.lk.length lc] 27 := by rw [← hX, ← hbx]; exact (Blk.new _ _ _).below ((Below.refl _ _).alloc (Nat.le_refl _) _)
  exact fun W hW => ⟨(q.below hW).cell (j := 0) rfl, (q.below hW).cell (j := 1) rfl, (q.below hW).cell (j := 2) rfl⟩)
 try rw [hX]
 try rw [hbr]
 try rw [hbx]
 clear hX hbx hbr
 have HB0 : Hid (Below X.heap.size X X) := Lib.hid (Below.refl _ _)
 obtain ⟨q, hq⟩ : ∃ q, validB S = q := ⟨_, rfl⟩
 rw [hq] at HVA
 have HQ := Lib.hid hq
 clear hq
 obtain ⟨y00, y01, y02⟩ := HK.out _ HB0.out
 have z00 := HRB.out.frz 0
 have z01 := HRB.out.frz 1
 cases q with
 | false =>
  go_upto_region 2 with (first | (go_at_call 24; refine (HVA.out _ (keepBelow HBX.out HB0.out)).mono ?_; rintro e w1 ⟨rfl, hb1⟩; obtain ⟨W1, hW1⟩ : ∃ W, w1 = W := ⟨_, rfl⟩; rw [hW1] at hb1 ⊢; clear hW1; have HB1 : Hid (Below X.heap.size X W1) := Lib.hid (keepBelow HB0.out hb1); clear hb1) | fail)
  clear y00 y01 y02 z00 z01
  obtain ⟨y10, y11, y12⟩ := HK.out _ HB1.out
  have z10 := (HRB.out.below HB1.out).frz 0
  have z11 := (HRB.out.below HB1.out).frz 1
  have x10 := (HRB.out.below HB1.out).cell (j := 0) rfl
  have x11 := (HRB.out.below HB1.out).cell (j := 1) rfl
  have HR := Lib.hid (zon_inv (bsO N) HQ.out)
  go_wp2_with fail
  obtain ⟨r0, r1, HBF⟩ := fin2 (keepBelow HBX.out HB1.out) HBS.out (HRB.out.below HB1.out) (.string ⟨#[]⟩) (.slice none 0 0)
  refine bodyPost_ret (v := .tuple #[.agg #[.string ⟨#[]⟩, .slice none 0 0], .int .i64 1]) (by simp [results, Tryz.results21, go_sem, r0, r1]) rfl ?_
  exact ⟨_, by rw [HR.out]; rfl, by rw [HR.out]; exact rdli_nil _, HBF⟩
 | true =>
  go_upto_region 3 with (first | (go_at_call 24; refine (HVA.out _ (keepBelow HBX.out HB0.out)).mono ?_; rintro e w1 ⟨rfl, hb1⟩; obtain ⟨W1, hW1⟩ : ∃ W, w1 = W := ⟨_, rfl⟩; rw [hW1] at hb1 ⊢; clear hW1; have HB1 : Hid (Below X.heap.size X W1) := Lib.hid (keepBelow HB0.out hb1); clear hb1) | fail)
  clear y00 y01 y02 z00 z01
  obtain ⟨y10, y11, y12⟩ := HK.out _ HB1.out
  have z10 := (HRB.out.below HB1.out).frz 0
  have z11 := (HRB.out.below HB1.out).frz 1
  have x10 := (HRB.out.below HB1.out).cell (j := 0) rfl
  have x11 := (HRB.out.below HB1.out).cell (j := 1) rfl
  obtain ⟨k, hk⟩ : ∃ k, fIx (fun z : LkT => z.nm == bsO N) S.lk = k := ⟨_, rfl⟩
  rw [hk] at HLK
  have HKK := Lib.hid hk
  clear hk
  go_upto_region 4 with (first | (go_at_call 78; refine (HLK.out _ (keepBelow HBX.out HB1.out)).mono ?_; rintro e w2 ⟨rfl, hb2⟩; obtain ⟨W2, hW2⟩ : ∃ W, w2 = W := ⟨_, rfl⟩; rw [hW2] at hb2 ⊢; clear hW2; have HB2 : Hid (Below X.heap.size X W2) := Lib.hid (keepBelow HB1.out hb2); clear hb2) | fail)
  clear y10 y11 y12 z10 z11
  obtain ⟨y20, y21, y22⟩ := HK.out _ HB2.out
  have z20 := (HRB.out.below HB2.out).frz 0
  have z21 := (HRB.out.below HB2.out).frz 1
  have x20 := (HRB.out.below HB2.out).cell (j := 0) rfl
  have x21 := (HRB.out.below HB2.out).cell (j := 1) rfl
  by_cases hk0 : k < 0
  ·have HLQ : Hid (lkQ S.lk (bsO N) = bsO N) := Lib.hid (by unfold lkQ; rw [HKK.out, if_pos hk0])
   clear HKK
   go_upto_region 7 with (first | (go_at_call 79; refine (HZO.out N _ (keepBelow HBX.out HB2.out)).mono ?_; rintro e w3 ⟨rfl, hb3⟩; obtain ⟨W3, hW3⟩ : ∃ W, w3 = W := ⟨_, rfl⟩; rw [hW3] at hb3 ⊢; clear hW3; have HB3 : Hid (Below X.heap.size X W3) := Lib.hid (keepBelow HB2.out hb3); clear hb3) | fail)
   obtain ⟨i, hi⟩ : ∃ i, fIx (fun z : ZkT => z.1.nm == bsO N) Z = i := ⟨_, rfl⟩
   rw [hi]
   have HI := Lib.hid hi
   clear hi
   clear y20 y21 y22 z20 z21
   obtain ⟨y30, y31, y32⟩ := HK.out _ HB3.out
   have z30 := (HRB.out.below HB3.out).frz 0
   have z31 := (HRB.out.below HB3.out).frz 1
   have x30 := (HRB.out.below HB3.out).cell (j := 0) rfl
   have x31 := (HRB.out.below HB3.out).cell (j := 1) rfl
   by_cases hi0 : i < 0
   ·have HR : Hid (zonM S (bsO N) = (zo00, 7)) := Lib.hid (zon_none HQ.out HLQ.out (by rw [← HS.out.zs, fIx_map]; exact (show fIx (fun z : ZkT => z.1.nm == bsO N) Z < 0 by rw [HI.out]; exact hi0)))
    go_wp2_with fail
    obtain ⟨r0, r1, HBF⟩ := fin2 (keepBelow HBX.out HB3.out) HBS.out (HRB.out.below HB3.out) (.string ⟨#[]⟩) (.slice none 0 0)
    refine bodyPost_ret (v := .tuple #[.agg #[.string ⟨#[]⟩, .slice none 0 0], .int .i64 7]) (by simp [results, Tryz.results21, go_sem, r0, r1]) rfl ?_
    exact ⟨_, by rw [HR.out]; rfl, by rw [HR.out]; exact rdli_nil _, HBF⟩
   ·obtain ⟨n, hn, hlt⟩ := fIx_nat (p := fun z : ZkT => z.1.nm == bsO N) (l := Z) (by rw [HI.out]; exact hi0)
    rw [HI.out] at hn
    subst hn
    have HR : Hid (zonM S (bsO N) = ((Z.getD n zk0).1, 0)) := Lib.hid (by rw [zon_some HQ.out HLQ.out (i := n) (by rw [← HS.out.zs, fIx_map]; exact HI.out), zo_at HS.out.zs hlt])
    have hli := HS.out.zo.li n hlt
    obtain ⟨_, _, e, _, hc⟩ := HS.out.zo.row
    cases e
    obtain ⟨b, o, rfl, hcc⟩ := hc n hlt
    clear hc
    obtain ⟨z, hz⟩ : ∃ z, Z.getD n zk0 = z := ⟨_, rfl⟩
    rw [hz] at hcc HR hli
    obtain ⟨⟨nm, li⟩, lv⟩ := z
    have HLI : Hid (RdLi w lv li) := Lib.hid hli
    clear hli
    obtain ⟨NM, rfl⟩ := bs_of nm
    clear hz
    have e0 : W3.cell? ⟨b, o + n * 2, none⟩ = some (.string NM) := keepCell (keepBelow HBX.out HB3.out) (hcc 0 _ (by decide) rfl)
    have e1 : W3.cell? ⟨b, o + n * 2 + 1, none⟩ = some lv := keepCell (keepBelow HBX.out HB3.out) (hcc 1 _ (by decide) rfl)
    obtain ⟨ai, ci, rfl⟩ := HLI.out.form
    have hlt2 : (n : Int) < (Z.length : Int) := by omega
    have hi0' : (0 : Int) ≤ (n : Int) := Int.natCast_nonneg _
    clear hcc hi0
    go_wp2_with fail
    obtain ⟨r0, r1, HBF⟩ := fin2 (keepBelow HBX.out HB3.out) HBS.out (HRB.out.below HB3.out) (.string NM) (.slice ai li.length ci)
    refine bodyPost_ret (v := .tuple #[.agg #[.string NM, .slice ai li.length ci], .int .i64 0]) (by simp [results, Tryz.results21, go_sem, r0, r1]) rfl ?_
    exact ⟨_, by rw [HR.out], by rw [HR.out]; exact HLI.out.below HBF, HBF⟩
  ·obtain ⟨j, hj, hjl⟩ := fIx_nat (p := fun z : LkT => z.nm == bsO N) (l := S.lk) (by rw [HKK.out]; exact hk0)
   rw [HKK.out] at hj
   subst hj
   obtain ⟨_, _, e, _, hc⟩ := HS.out.lk
   cases e
   obtain ⟨b9, o9, rfl, hcc⟩ := hc j hjl
   clear hc
   obtain ⟨x, hx⟩ : ∃ x, S.lk.getD j lk0 = x := ⟨_, rfl⟩
   rw [hx] at hcc
   obtain ⟨xn, xz⟩ := x
   obtain ⟨M, rfl⟩ := bs_of xz
   have HLQ : Hid (lkQ S.lk (bsO N) = bsO M) := Lib.hid (by unfold lkQ; rw [HKK.out, if_neg (by omega)]; show (S.lk.getD (Int.toNat (j : Int)) lk0).zo = _; rw [Int.toNat_natCast, hx])
   have e9 : W2.cell? ⟨b9, o9 + j * 2 + 1, none⟩ = some (.string M) := keepCell (keepBelow HBX.out HB2.out) (hcc 1 _ (by decide) rfl)
   have hj2 : (j : Int) < (S.lk.length : Int) := by omega
   have hj0 : (0 : Int) ≤ (j : Int) := Int.natCast_nonneg _
   clear HKK hx hcc hk0
   go_upto_region 6 with fail
   clear e9
   go_upto_region 7 with (first | (go_at_call 79; refine (HZO.out M _ (keepBelow HBX.out HB2.out)).mono ?_; rintro e w3 ⟨rfl, hb3⟩; obtain ⟨W3, hW3⟩ : ∃ W, w3 = W := ⟨_, rfl⟩; rw [hW3] at hb3 ⊢; clear hW3; have HB3 : Hid (Below X.heap.size X W3) := Lib.hid (keepBelow HB2.out hb3); clear hb3) | fail)
   obtain ⟨i, hi⟩ : ∃ i, fIx (fun z : ZkT => z.1.nm == bsO M) Z = i := ⟨_, rfl⟩
   rw [hi]
   have HI := Lib.hid hi
   clear hi
   clear y20 y21 y22 z20 z21
   obtain ⟨y30, y31, y32⟩ := HK.out _ HB3.out
   have z30 := (HRB.out.below HB3.out).frz 0
   have z31 := (HRB.out.below HB3.out).frz 1
   have x30 := (HRB.out.below HB3.out).cell (j := 0) rfl
   have x31 := (HRB.out.below HB3.out).cell (j := 1) rfl
   by_cases hi0 : i < 0
   ·have HR : Hid (zonM S (bsO N) = (zo00, 7)) := Lib.hid (zon_none HQ.out HLQ.out (by rw [← HS.out.zs, fIx_map]; exact (show fIx (fun z : ZkT => z.1.nm == bsO M) Z < 0 by rw [HI.out]; exact hi0)))
    go_wp2_with fail
    obtain ⟨r0, r1, HBF⟩ := fin2 (keepBelow HBX.out HB3.out) HBS.out (HRB.out.below HB3.out) (.string ⟨#[]⟩) (.slice none 0 0)
    refine bodyPost_ret (v := .tuple #[.agg #[.string ⟨#[]⟩, .slice none 0 0], .int .i64 7]) (by simp [results, Tryz.results21, go_sem, r0, r1]) rfl ?_
    exact ⟨_, by rw [HR.out]; rfl, by rw [HR.out]; exact rdli_nil _, HBF⟩
   ·obtain ⟨n, hn, hlt⟩ := fIx_nat (p := fun z : ZkT => z.1.nm == bsO M) (l := Z) (by rw [HI.out]; exact hi0)
    rw [HI.out] at hn
    subst hn
    have HR : Hid (zonM S (bsO N) = ((Z.getD n zk0).1, 0)) := Lib.hid (by rw [zon_some HQ.out HLQ.out (i := n) (by rw [← HS.out.zs, fIx_map]; exact HI.out), zo_at HS.out.zs hlt])
    have hli := HS.out.zo.li n hlt
    obtain ⟨_, _, e, _, hc⟩ := HS.out.zo.row
    cases e
    obtain ⟨b, o, rfl, hcc⟩ := hc n hlt
    clear hc
    obtain ⟨z, hz⟩ : ∃ z, Z.getD n zk0 = z := ⟨_, rfl⟩
    rw [hz] at hcc HR hli
    obtain ⟨⟨nm, li⟩, lv⟩ := z
    have HLI : Hid (RdLi w lv li) := Lib.hid hli
    clear hli
    obtain ⟨NM, rfl⟩ := bs_of nm
    clear hz
    have e0 : W3.cell? ⟨b, o + n * 2, none⟩ = some (.string NM) := keepCell (keepBelow HBX.out HB3.out) (hcc 0 _ (by decide) rfl)
    have e1 : W3.cell? ⟨b, o + n * 2 + 1, none⟩ = some lv := keepCell (keepBelow HBX.out HB3.out) (hcc 1 _ (by decide) rfl)
    obtain ⟨ai, ci, rfl⟩ := HLI.out.form
    have hlt2 : (n : Int) < (Z.length : Int) := by omega
    have hi0' : (0 : Int) ≤ (n : Int) := Int.natCast_nonneg _
    clear hcc hi0
    go_wp2_with fail
    obtain ⟨r0, r1, HBF⟩ := fin2 (keepBelow HBX.out HB3.out) HBS.out (HRB.out.below HB3.out) (.string NM) (.slice ai li.length ci)
    refine bodyPost_ret (v := .tuple #[.agg #[.string NM, .slice ai li.length ci], .int .i64 0]) (by simp [results, Tryz.results21, go_sem, r0, r1]) rfl ?_
    exact ⟨_, by rw [HR.out], by rw [HR.out]; exact HLI.out.below HBF, HBF⟩
end Go.Proofs.YtlbglinpgjlbkaaGreatDoor
