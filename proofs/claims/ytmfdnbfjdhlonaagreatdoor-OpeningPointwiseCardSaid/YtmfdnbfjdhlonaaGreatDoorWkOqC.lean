import Derived.Test.YtmfdnbfjdhlonaaGreatDoorWkOqB
import Derived.Test.YtmfdnbfjdhlonaaGreatDoorWkForm
import Derived.Test.YtmfdnbfjdhlonaaGreatDoorWkBb
import Derived.Test.YtmfdnbfjdhlonaaGreatDoorWkRfA
/- opening.Parse. -/
namespace Go.Proofs.YtmfdnbfjdhlonaaGreatDoor
open Go.RowKit Wk Lib

def BoxH (W : World) (b B : Nat) (H : List (List Sp)) : Prop := H.length = 7 ∧ ∀ i, i < 7 → (∃ v, W.cell? ⟨b, i, none⟩ = some v ∧ OwnS W B v (H.getD i [])) ∧ W.frozen? ⟨b, i, none⟩ = false
def BoxB (W : World) (b : Nat) (q : Nat → Bool) : Prop := ∀ i, i < 8 → W.cell? ⟨b, i, none⟩ = some (.bool (q i)) ∧ W.frozen? ⟨b, i, none⟩ = false
theorem BoxH.below {W W' : World} {b B : Nat} {H : List (List Sp)} (h : BoxH W b B H) (hb : Below W.heap.size W W') : BoxH W' b B H :=
 ⟨h.1, fun i hi => by
  obtain ⟨⟨v, c, o⟩, f⟩ := h.2 i hi
  exact ⟨⟨v, keepCell hb c, o.below hb⟩, keepFr hb c f⟩⟩
theorem BoxB.below {W W' : World} {b : Nat} {q : Nat → Bool} (h : BoxB W b q) (hb : Below W.heap.size W W') : BoxB W' b q := fun i hi => ⟨keepCell hb (h i hi).1, keepFr hb (h i hi).1 (h i hi).2⟩
theorem frz_setH {W : World} {p a : Addr} {u : Value} {x : Bool} (h : W.frozen? a = x) : (W.setCell p u).frozen? a = x := by rw [World.frozen?_setCell]; exact h
theorem BoxH.far {W : World} {b B c j : Nat} {H : List (List Sp)} (h : BoxH W b B H) (hc : c ≠ b) (hB : c < B) (u : Value) : BoxH (W.setCell ⟨c, j, none⟩ u) b B H :=
 ⟨h.1, fun i hi => by
  obtain ⟨⟨v, c, o⟩, f⟩ := h.2 i hi
  exact ⟨⟨v, (World.cell?_setCell_far _ _ _ _ hc).trans c, o.setCell hB u⟩, frz_setH f⟩⟩
theorem BoxB.far {W : World} {b c j : Nat} {q : Nat → Bool} (h : BoxB W b q) (hc : c ≠ b) (u : Value) : BoxB (W.setCell ⟨c, j, none⟩ u) b q := fun i hi => ⟨(World.cell?_setCell_far _ _ _ _ hc).trans (h i hi).1, frz_setH (h i hi).2⟩
theorem BoxH.set {W : World} {b B k : Nat} {H : List (List Sp)} (h : BoxH W b B H) (hB : b < B) (hk : k < 7) {v : Value} {l : List Sp} (ho : OwnS W B v l) : BoxH (W.setCell ⟨b, k, none⟩ v) b B (H.set k l) :=
 ⟨by simp [h.1], fun i hi => by
  obtain ⟨⟨u, c, o⟩, f⟩ := h.2 i hi
  by_cases hik : i = k
  ·subst hik
   refine ⟨⟨v, World.cell?_setCell_same _ _ _ c, ?_⟩, frz_setH f⟩
   rw [show (H.set i l).getD i [] = l by rw [List.getD_eq_getElem?_getD, List.getElem?_set_self (by have := h.1; omega)]; rfl]
   exact ho.setCell hB v
  ·refine ⟨⟨u, (World.cell?_setCell_other _ _ _ _ (by intro e; injection e with e1 e2; exact hik e2.symm)).trans c, ?_⟩, frz_setH f⟩
   rw [show (H.set k l).getD i [] = H.getD i [] by rw [List.getD_eq_getElem?_getD, List.getElem?_set_ne (Ne.symm hik), ← List.getD_eq_getElem?_getD]]
   exact o.setCell hB v⟩
def seenM (H : List (List Sp)) (i : Nat) : Bool := decide (1 ≤ i) && !(H.getD (i - 1) []).isEmpty
theorem BoxB.set {W : World} {b k : Nat} {q q' : Nat → Bool} (h : BoxB W b q) (hk : k < 8) (h1 : q' k = true) (h2 : ∀ i, i ≠ k → q' i = q i) : BoxB (W.setCell ⟨b, k, none⟩ (.bool true)) b q' := fun i hi => by
 by_cases hik : i = k
 ·subst hik
  exact ⟨by rw [h1]; exact World.cell?_setCell_same _ _ _ (h i hi).1, frz_setH (h i hi).2⟩
 ·exact ⟨by rw [h2 i hik]; exact (World.cell?_setCell_other _ _ _ _ (by intro e; injection e with e1 e2; exact hik e2.symm)).trans (h i hi).1, frz_setH (h i hi).2⟩
theorem seen_set {H : List (List Sp)} {k : Nat} {l : List Sp} (hH : H.length = 7) (hk : k < 7) (hl : l ≠ []) : seenM (H.set k l) (k + 1) = true ∧ ∀ i, i ≠ k + 1 → seenM (H.set k l) i = seenM H i := by
 constructor
 ·unfold seenM
  rw [Nat.add_sub_cancel, show (H.set k l).getD k [] = l by rw [List.getD_eq_getElem?_getD, List.getElem?_set_self (by omega)]; rfl]
  simp [hl]
 ·intro i hi
  unfold seenM
  by_cases h0 : 1 ≤ i
  ·rw [show (H.set k l).getD (i - 1) [] = H.getD (i - 1) [] by rw [List.getD_eq_getElem?_getD, List.getElem?_set_ne (by omega), ← List.getD_eq_getElem?_getD]]
  ·simp [h0]
def OwnH (W : World) (B : Nat) (vs : List Value) (H : List (List Sp)) : Prop := vs.length = 7 ∧ H.length = 7 ∧ ∀ i, i < 7 → OwnS W B (vs.getD i undef) (H.getD i [])
def HrPost (r : List (List Sp) × Int) (w : World) (e : Ending) (w' : World) : Prop := ∃ v0 v1 v2 v3 v4 v5 v6, e = .returned (.tuple #[.agg #[v0, v1, v2, v3, v4, v5, v6], .int .i64 r.2]) ∧ OwnH w' w.heap.size [v0, v1, v2, v3, v4, v5, v6] r.1 ∧ Below w.heap.size w w'
theorem ownH_no (W : World) (B : Nat) : OwnH W B [.slice none 0 0, .slice none 0 0, .slice none 0 0, .slice none 0 0, .slice none 0 0, .slice none 0 0, .slice none 0 0] noH :=
 ⟨rfl, rfl, fun i hi => by
  rcases i with _ | _ | _ | _ | _ | _ | _ | i <;> first | exact OwnS.nil _ _ | omega⟩
theorem BoxH.vals {W : World} {b B : Nat} {H : List (List Sp)} (h : BoxH W b B H) : ∃ v0 v1 v2 v3 v4 v5 v6, (W.cell? ⟨b, 0, none⟩ = some v0 ∧ W.cell? ⟨b, 1, none⟩ = some v1 ∧ W.cell? ⟨b, 2, none⟩ = some v2 ∧ W.cell? ⟨b, 3, none⟩ = some v3 ∧ W.cell? ⟨b, 4, none⟩ = some v4 ∧ W.cell? ⟨b, 5, none⟩ = some v5 ∧ W.cell? ⟨b, 6, none⟩ = some v6) ∧ OwnH W B [v0, v1, v2, v3, v4, v5, v6] H := by
 obtain ⟨⟨v0, c0, o0⟩, -⟩ := h.2 0 (by omega)
 obtain ⟨⟨v1, c1, o1⟩, -⟩ := h.2 1 (by omega)
 obtain ⟨⟨v2, c2, o2⟩, -⟩ := h.2 2 (by omega)
 obtain ⟨⟨v3, c3, o3⟩, -⟩ := h.2 3 (by omega)
 obtain ⟨⟨v4, c4, o4⟩, -⟩ := h.2 4 (by omega)
 obtain ⟨⟨v5, c5, o5⟩, -⟩ := h.2 5 (by omega)
 obtain ⟨⟨v6, c6, o6⟩, -⟩ := h.2 6 (by omega)
 refine ⟨v0, v1, v2, v3, v4, v5, v6, ⟨c0, c1, c2, c3, c4, c5, c6⟩, rfl, h.1, fun i hi => ?_⟩
 rcases i with _ | _ | _ | _ | _ | _ | _ | i <;> first | assumption | omega
theorem OwnH.mono {W : World} {B B' : Nat} {vs : List Value} {H : List (List Sp)} (h : OwnH W B vs H) (hB : B' ≤ B) : OwnH W B' vs H := ⟨h.1, h.2.1, fun i hi => (h.2.2 i hi).mono hB⟩
theorem OwnH.setCell {W : World} {B b o : Nat} {vs : List Value} {H : List (List Sp)} (h : OwnH W B vs H) (hb : b < B) (u : Value) : OwnH (W.setCell ⟨b, o, none⟩ u) B vs H := ⟨h.1, h.2.1, fun i hi => (h.2.2 i hi).setCell hb u⟩
theorem put7_ownH {W : World} {B b : Nat} {vs : List Value} {H : List (List Sp)} (u0 u1 u2 u3 u4 u5 u6 : Value) (h : OwnH W B vs H) (hb : b < B) : OwnH (put7 W b u0 u1 u2 u3 u4 u5 u6) B vs H := ⟨h.1, h.2.1, fun i hi => put7_own u0 u1 u2 u3 u4 u5 u6 (h.2.2 i hi) hb⟩
theorem put_step {l : List Sp} {n k : Nat} {H : List (List Sp)} : putM l (n + 1) k H = if H.getD k [] ≠ [] then none else putM l n (k + 1) (H.set k l) := rfl
theorem hr_bad {w w' : World} {n : Int} (hb : Below w.heap.size w w') : HrPost (noH, n) w (.returned (.tuple #[.agg #[.slice none 0 0, .slice none 0 0, .slice none 0 0, .slice none 0 0, .slice none 0 0, .slice none 0 0, .slice none 0 0], .int .i64 n])) w' := ⟨_, _, _, _, _, _, _, rfl, ownH_no w' w.heap.size, hb⟩

set_option maxRecDepth 100000 in
set_option maxHeartbeats 8000000 in
theorem oparse_any (s : ByteArray) (hs : s.size < 4294960000) (hc : CAnyS (bsO s)) (w : World) (hg : Glob w) :
  Calls Tryz.prog 30 #[.string s] w (HrPost (hoursM (bsO s)) w) := by
 obtain ⟨R, hR⟩ : ∃ R, hoursM (bsO s) = R := ⟨_, rfl⟩
 rw [hR]
 have HCA := Lib.hid hc
 have hsz : (s.size : Int) ≤ 4294967280 := by omega
 unfold hoursM at hR
 rw [bs_len] at hR
 obtain ⟨W1, hW1⟩ : ∃ W, (w.alloc (.cells #[.slice none 0 0, .slice none 0 0, .slice none 0 0, .slice none 0 0, .slice none 0 0, .slice none 0 0, .slice none 0 0] 25)).alloc (.cells #[.slice none 0 0, .slice none 0 0, .slice none 0 0, .slice none 0 0, .slice none 0 0, .slice none 0 0, .slice none 0 0] 25) = W := ⟨_, rfl⟩
 have hz1 : W1.heap.size = w.heap.size + 2 := by rw [← hW1]; simp
 have hB1 : Below w.heap.size w W1 := by rw [← hW1]; exact ((Below.refl _ w).alloc (Nat.le_refl _) _).alloc (by simp) _
 have HX : Hid (Set7 W1 w.heap.size (.slice none 0 0) (.slice none 0 0) (.slice none 0 0) (.slice none 0 0) (.slice none 0 0) (.slice none 0 0) (.slice none 0 0)) := by
  rw [← hW1]
  refine Lib.hid ⟨⟨?_, ?_, ?_, ?_, ?_, ?_, ?_⟩, ?_, ?_, ?_, ?_, ?_, ?_, ?_⟩ <;> simp [go_sem]
 have HY : Hid (Set7 W1 (w.heap.size + 1) (.slice none 0 0) (.slice none 0 0) (.slice none 0 0) (.slice none 0 0) (.slice none 0 0) (.slice none 0 0) (.slice none 0 0)) := by
  rw [← hW1]
  refine Lib.hid ⟨⟨?_, ?_, ?_, ?_, ?_, ?_, ?_⟩, ?_, ?_, ?_, ?_, ?_, ?_, ?_⟩ <;> simp [go_sem]
 have HE := Lib.hid hW1
 clear hW1
 go_enter Tryz.func30, Tryz.ntmps30
 by_cases hbig : 2000 < s.size
 ·have hbig' : (2000 : Int) < s.size := by omega
  rw [if_pos hbig] at hR
  subst hR
  obtain ⟨⟨X0, X1, X2, X3, X4, X5, X6⟩, K0, K1, K2, K3, K4, K5, K6⟩ := HX.out
  obtain ⟨⟨Y0, Y1, Y2, Y3, Y4, Y5, Y6⟩, -⟩ := HY.out
  go_wp2_with fail
  rw [HE.out]
  go_wp2_with fail
  first
   | ((try simp only [Exit.inBlock, Exit.then]); refine bodyPost_ret (v := .tuple #[.agg #[.slice none 0 0, .slice none 0 0, .slice none 0 0, .slice none 0 0, .slice none 0 0, .slice none 0 0, .slice none 0 0], .int .i64 5]) (by simp [results, Tryz.results30, go_sem, X0, X1, X2, X3, X4, X5, X6]) rfl ?_; have hbb := hB1; exact hr_bad hbb)
 ·have hbig' : ¬(2000 : Int) < s.size := by omega
  rw [if_neg hbig] at hR
  by_cases hcl : bsO s = closedT
  ·rw [if_pos hcl] at hR
   subst hR
   have gq : (s.toList == [99, 108, 111, 115, 101, 100]) = true := by show (s.toList == closedT) = true; rw [Lib.toList_data]; exact beq_iff_eq.2 hcl
   obtain ⟨⟨X0, X1, X2, X3, X4, X5, X6⟩, K0, K1, K2, K3, K4, K5, K6⟩ := HX.out
   obtain ⟨⟨Y0, Y1, Y2, Y3, Y4, Y5, Y6⟩, -⟩ := HY.out
   go_wp2_with fail
   rw [HE.out]
   go_wp2_with fail
   first
    | ((try simp only [Exit.inBlock, Exit.then]); refine bodyPost_ret (v := .tuple #[.agg #[.slice none 0 0, .slice none 0 0, .slice none 0 0, .slice none 0 0, .slice none 0 0, .slice none 0 0, .slice none 0 0], .int .i64 0]) (by simp [results, Tryz.results30, go_sem, X0, X1, X2, X3, X4, X5, X6]) rfl ?_; have hbb := hB1; exact hr_bad hbb)
  ·rw [if_neg hcl] at hR
   have gq : (s.toList == [99, 108, 111, 115, 101, 100]) = false := by show (s.toList == closedT) = false; rw [Lib.toList_data]; exact beq_eq_false_iff_ne.2 hcl
   obtain ⟨W2, hW2⟩ : ∃ W, W1.alloc (.cells #[.bool false, .bool false, .bool false, .bool false, .bool false, .bool false, .bool false, .bool false] 105) = W := ⟨_, rfl⟩
   have hz2 : W2.heap.size = w.heap.size + 3 := by rw [← hW2]; simp [hz1]
   have hb2 : Below W1.heap.size W1 W2 := by rw [← hW2]; exact (Below.refl _ _).alloc (Nat.le_refl _) _
   have hB2 := keepBelow hB1 hb2
   have HX2 := Lib.hid (HX.out.below hb2)
   have HH2 : Hid (BoxH W2 (w.heap.size + 1) (w.heap.size + 3) noH) := Lib.hid (by
    obtain ⟨⟨X0, X1, X2, X3, X4, X5, X6⟩, K0, K1, K2, K3, K4, K5, K6⟩ := HY.out.below hb2
    refine ⟨rfl, fun i hi => ?_⟩
    rcases i with _ | _ | _ | _ | _ | _ | _ | i <;> first | omega | exact ⟨⟨_, by assumption, OwnS.nil _ _⟩, by assumption⟩)
   have HQ2 : Hid (BoxB W2 (w.heap.size + 2) (seenM noH)) := Lib.hid (fun i hi => by
    rw [← hW2, show w.heap.size + 2 = W1.heap.size by omega]
    rcases i with _ | _ | _ | _ | _ | _ | _ | _ | i <;> first | omega | exact ⟨by simp [go_sem, seenM, noH], by simp [go_sem]⟩)
   have HE2 := Lib.hid hW2
   have hg2 : Glob W2 := hg.below hB2
   have HSP := Lib.hid (parts_any 59 s (by omega) W2 hg2)
   have hpl := partC_len 59 (bsO s)
   rw [bs_len] at hpl
   have hne := List.length_pos_iff.2 (splitC_ne 59 (bsO s))
   have HSUB0 := sub_split 59 (bsO s)
   obtain ⟨GS, hGS⟩ : ∃ GS, splitC 59 (bsO s) = GS := ⟨_, rfl⟩
   rw [hGS] at hR HSP hpl hne HSUB0
   have HSUB := Lib.hid HSUB0
   have HPL : Hid (GS.length ≤ 4294960000 ∧ 0 < GS.length) := Lib.hid ⟨by omega, hne⟩
   have HRR := Lib.hid hR
   have HG := Lib.hid hg
   have HB2 := Lib.hid hB2
   have HZ2 := Lib.hid hz2
   clear hW2 hg2 hpl hne HSUB0 hGS hR hg hB1 hB2 HX HY hb2 hz1 hz2 hc hbig hcl
   have hz1 : W1.heap.size = w.heap.size + 2 := by rw [← HE.out]; simp
   go_wp2_with fail
   rw [HE.out]
   go_wp2_with fail
   rw [HE2.out]
   clear hz1
   go_wp2_with (refine HSP.out.mono ?_; rintro e w3 ⟨⟨aa, kk, rfl, hcell⟩, hb3⟩; have HCELL := Lib.hid hcell; have HB3 := Lib.hid hb3; clear hcell hb3)
   have HX3 := Lib.hid (HX2.out.below HB3.out)
   have HH3 := Lib.hid (HH2.out.below HB3.out)
   have HQ3 := Lib.hid (HQ2.out.below HB3.out)
   have HZ3 : Hid (w.heap.size + 3 ≤ w3.heap.size) := Lib.hid (by have := HB3.out.size; have := HZ2.out; omega)
   have HBW := Lib.hid (keepBelow HB2.out HB3.out)
   have HAA : Hid (w.heap.size + 1 ≠ aa ∧ w.heap.size + 2 ≠ aa) := Lib.hid (by
    have c0 := HCELL.out 0 HPL.out.2
    constructor
    ·intro e
     obtain ⟨⟨v, c1, o1⟩, -⟩ := HH3.out.2 0 (by decide)
     obtain ⟨a1, n1, rfl, _⟩ := o1.form
     rw [e, c0] at c1
     cases c1
    ·intro e
     have c1 := (HQ3.out 0 (by decide)).1
     rw [e, c0] at c1
     cases c1)
   clear HX2 HH2 HQ2 HB2 HB3 HSP HE HE2 HZ2
   go_loopw [3, 7, 8, 9, 10, 11, 12, 25] (fun _ _ _ _ _ _ _ u25 wr => ∃ (k : Nat) (H : List (List Sp)), u25 = .int .i64 k ∧ k ≤ GS.length ∧ Hid (BoxH wr (w.heap.size + 1) (w.heap.size + 3) H) ∧ Hid (BoxB wr (w.heap.size + 2) (seenM H)) ∧ Hid (Set7 wr w.heap.size (.slice none 0 0) (.slice none 0 0) (.slice none 0 0) (.slice none 0 0) (.slice none 0 0) (.slice none 0 0) (.slice none 0 0)) ∧ Hid (∀ i, i < GS.length → wr.cell? ⟨aa, i, none⟩ = some (.string ⟨(GS.getD i []).toArray⟩)) ∧ Hid (parseGr (GS.drop k) H = R) ∧ Hid (w.heap.size + 3 ≤ wr.heap.size) ∧ Hid (Below w.heap.size w wr)) (fun _ _ _ _ _ _ _ u25 _ => GS.length - (intOf u25).toNat)
   case atStart => exact ⟨0, noH, rfl, Nat.zero_le _, HH3, HQ3, HX3, HCELL, HRR, HZ3, HBW⟩
   case round =>
    obtain ⟨k, H, rfl, hk, HH, HQ, HX, HC, HR, HZ, HB⟩ := hrel
    clear HH3 HQ3 HX3 HCELL HRR HZ3 HBW
    have hkb : (k : Int) ≤ 4294967280 := by have := HPL.out.1; omega
    by_cases hlt : k < GS.length
    ·have hlt' : (k : Int) < GS.length := by omega
     obtain ⟨G, hG⟩ : ∃ P : ByteArray, ⟨(GS.getD k []).toArray⟩ = P := ⟨_, rfl⟩
     have hGb : bsO G = GS.getD k [] := by rw [← hG]
     have hcl := HC.out k hlt
     rw [hG] at hcl
     have hsub : SubB (bsO G) (bsO s) := by rw [hGb]; exact HSUB.out _ (by rw [List.getD_eq_getElem?_getD, List.getElem?_eq_getElem hlt]; exact List.getElem_mem hlt)
     have hGs : G.size < 4294960000 := by have := hsub.1; rw [bs_len, bs_len] at this; omega
     have HRS : Hid ((if (groupM (bsO G)).2 ≠ 0 then (noH, (groupM (bsO G)).2) else match putM (groupM (bsO G)).1.2.2 ((groupM (bsO G)).1.2.1 - (groupM (bsO G)).1.1 + 1).toNat ((groupM (bsO G)).1.1 - 1).toNat H with | none => (noH, 8) | some H' => parseGr (GS.drop (k + 1)) H') = R) := by
      refine Lib.hid ?_
      have h := HR.out
      rw [List.drop_eq_getElem_cons hlt, parseGr] at h
      rw [hGb, List.getD_eq_getElem?_getD, List.getElem?_eq_getElem hlt]
      exact h
     clear HR
     have HGR := Lib.hid (group_any G hGs (HCA.out.sub hsub) wr (HG.out.below HB.out))
     have hgo := @group_ok (bsO G)
     obtain ⟨⟨⟨f1, t1, l⟩, ge⟩, hgm⟩ : ∃ r, groupM (bsO G) = r := ⟨_, rfl⟩
     rw [hgm] at HGR HRS hgo
     simp only at HRS hgo
     have HGO := Lib.hid hgo
     clear hgm hgo hGs hsub hG hGb
     by_cases hge : ge = 0
     ·subst hge
      obtain ⟨q1, q2, q3, q4, q5, q6⟩ := HGO.out rfl
      have HRT : Hid ((match putM l (t1 - f1 + 1).toNat (f1 - 1).toNat H with | none => (noH, 8) | some H' => parseGr (GS.drop (k + 1)) H') = R) := by
       have h := HRS.out
       rw [if_neg (by simp)] at h
       exact Lib.hid h
      clear HRS HGO
      obtain ⟨d0, rfl⟩ : ∃ d : Nat, f1 = d := ⟨f1.toNat, by omega⟩
      have HL5 := Lib.hid q5
      clear q5
      go_wp2_with (refine HGR.out.mono ?_; rintro e w4 ⟨lv, rfl, hol, hb4⟩; have HOL := Lib.hid hol; have HB4 := Lib.hid hb4; clear hol hb4)
      have HH4 := Lib.hid (HH.out.below HB4.out)
      have HQ4 := Lib.hid (HQ.out.below HB4.out)
      have HX4 := Lib.hid (HX.out.below HB4.out)
      have HC4 : Hid (∀ i, i < GS.length → w4.cell? ⟨aa, i, none⟩ = some (.string ⟨(GS.getD i []).toArray⟩)) := Lib.hid fun i hi => keepCell HB4.out (HC.out i hi)
      have HBW4 := Lib.hid (keepBelow HB.out HB4.out)
      have HZ4 : Hid (w.heap.size + 3 ≤ w4.heap.size) := Lib.hid (by have := HB4.out.size; have := HZ.out; omega)
      have HO4 := Lib.hid (HOL.out.mono HZ.out)
      clear HH HQ HX HC HB HZ HB4 HOL HGR hcl
      go_loopw [3, 12] (fun _ u12 wz => ∃ (d : Nat) (H2 : List (List Sp)), u12 = .int .i64 d ∧ 1 ≤ d ∧ d ≤ 8 ∧ Hid (BoxH wz (w.heap.size + 1) (w.heap.size + 3) H2) ∧ Hid (BoxB wz (w.heap.size + 2) (seenM H2)) ∧ Hid (Set7 wz w.heap.size (.slice none 0 0) (.slice none 0 0) (.slice none 0 0) (.slice none 0 0) (.slice none 0 0) (.slice none 0 0) (.slice none 0 0)) ∧ Hid (∀ i, i < GS.length → wz.cell? ⟨aa, i, none⟩ = some (.string ⟨(GS.getD i []).toArray⟩)) ∧ Hid ((match putM l (t1 - d + 1).toNat (d - 1) H2 with | none => (noH, 8) | some H' => parseGr (GS.drop (k + 1)) H') = R) ∧ Hid (w.heap.size + 3 ≤ wz.heap.size) ∧ Hid (Below w.heap.size w wz) ∧ Hid (OwnS wz (w.heap.size + 3) lv l)) (fun _ u12 _ => 8 - (intOf u12).toNat)
      case atStart => exact ⟨d0, H, rfl, by omega, by omega, HH4, HQ4, HX4, HC4, Lib.hid (by have h := HRT.out; rw [show ((d0 : Int) - 1).toNat = d0 - 1 by omega] at h; exact h), HZ4, HBW4, HO4⟩
      case round =>
       obtain ⟨d, H2, rfl, hd1, hd8, HH, HQ, HX, HC, HRT, HZ, HB, HO⟩ := hrel
       clear HH4 HQ4 HX4 HC4 HZ4 HBW4 HO4
       by_cases hdt : (d : Int) ≤ t1
       ·have hd7 : d ≤ 7 := by omega
        obtain ⟨m, hm⟩ : ∃ m : Nat, t1 - d = m := ⟨(t1 - d).toNat, by omega⟩
        have HRP : Hid ((match (if H2.getD (d - 1) [] ≠ [] then none else putM l m (d - 1 + 1) (H2.set (d - 1) l)) with | none => (noH, 8) | some H' => parseGr (GS.drop (k + 1)) H') = R) := by
         have h := HRT.out
         rw [hm, show ((m : Int) + 1).toNat = m + 1 by omega, put_step] at h
         exact Lib.hid h
        have HM := Lib.hid hm
        clear HRT hm
        obtain ⟨g1, g2⟩ := HQ.out d (by omega)
        have hdi : (d : Int) < 8 := by omega
        have hdi7 : (d : Int) ≤ 7 := by omega
        by_cases hsn : H2.getD (d - 1) [] = []
        ·have hsv : seenM H2 d = false := by unfold seenM; rw [hsn]; simp
         rw [hsv] at g1
         have HRU : Hid ((match putM l m (d - 1 + 1) (H2.set (d - 1) l) with | none => (noH, 8) | some H' => parseGr (GS.drop (k + 1)) H') = R) := by
          have h := HRP.out
          rw [if_neg (by simpa using hsn)] at h
          exact Lib.hid h
         clear HRP hsn hsv
         obtain ⟨Z, hZe⟩ : ∃ Z, wr.setCell ⟨w.heap.size + 2, d, none⟩ (.bool true) = Z := ⟨_, rfl⟩
         have HHZ : Hid (BoxH Z (w.heap.size + 1) (w.heap.size + 3) H2) := Lib.hid (by rw [← hZe]; exact HH.out.far (c := w.heap.size + 2) (by omega) (by omega) _)
         have HQZ : Hid (BoxB Z (w.heap.size + 2) (seenM (H2.set (d - 1) l))) := Lib.hid (by
          rw [← hZe]
          obtain ⟨k1, k2⟩ := seen_set (H := H2) (k := d - 1) (l := l) HH.out.1 (by omega) HL5.out
          rw [show d - 1 + 1 = d by omega] at k1 k2
          exact HQ.out.set (by omega) k1 k2)
         have HXZ : Hid (Set7 Z w.heap.size (.slice none 0 0) (.slice none 0 0) (.slice none 0 0) (.slice none 0 0) (.slice none 0 0) (.slice none 0 0) (.slice none 0 0)) := Lib.hid (by rw [← hZe]; exact HX.out.far (b' := w.heap.size + 2) (by omega) _)
         have HCZ : Hid (∀ i, i < GS.length → Z.cell? ⟨aa, i, none⟩ = some (.string ⟨(GS.getD i []).toArray⟩)) := Lib.hid fun i hi => by rw [← hZe]; exact (World.cell?_setCell_far _ ⟨w.heap.size + 2, d, none⟩ _ _ HAA.out.2).trans (HC.out i hi)
         have HBZ : Hid (Below w.heap.size w Z) := Lib.hid (by rw [← hZe]; exact HB.out.setCell (p := ⟨w.heap.size + 2, d, none⟩) (by show w.heap.size ≤ w.heap.size + 2; omega) _)
         have HOZ : Hid (OwnS Z (w.heap.size + 3) lv l) := Lib.hid (by rw [← hZe]; exact HO.out.setCell (b := w.heap.size + 2) (by omega) _)
         have HZZ : Hid (w.heap.size + 3 ≤ Z.heap.size) := Lib.hid (by rw [← hZe]; simpa using HZ.out)
         have HZE := Lib.hid hZe
         clear hZe HH HQ HX HC HZ HB HO
         have HCL := Lib.hid (clone_any lv l Z (HOZ.out.rd (by omega)))
         have s1 : IntKind.i64.wrap ((d : Int) - 1) = ((d - 1 : Nat) : Int) := by rw [IntKind.wrap_i64]; omega
         have s2 : ((d - 1 : Nat) : Int) < 7 := by omega
         go_wp2_with fail
         rw [HZE.out]
         go_wp2_with fail
         refine HCL.out.mono ?_
         rintro e w5 ⟨v5, rfl, ho5, hb5⟩
         obtain ⟨pa, pc, rfl, -⟩ := ho5.form
         have HO5 := Lib.hid ho5
         have HH5 := Lib.hid (HHZ.out.below hb5)
         have HQ5 := Lib.hid (HQZ.out.below hb5)
         have HX5 := Lib.hid (HXZ.out.below hb5)
         have HC5 : Hid (∀ i, i < GS.length → w5.cell? ⟨aa, i, none⟩ = some (.string ⟨(GS.getD i []).toArray⟩)) := Lib.hid fun i hi => keepCell hb5 (HCZ.out i hi)
         have HB5 := Lib.hid (keepBelow HBZ.out hb5)
         have HOL5 := Lib.hid (HOZ.out.below hb5)
         have HZ5 : Hid (w.heap.size + 3 ≤ w5.heap.size) := Lib.hid (by have := hb5.size; have := HZZ.out; omega)
         have HZZ5 := HZZ
         obtain ⟨⟨y5, k1, -⟩, k2⟩ := HH5.out.2 (d - 1) (by omega)
         clear HCL HHZ HQZ HXZ HCZ HBZ HOZ HZE ho5 hb5
         go_wp2_with fail
         go_roundw
         case rel =>
          refine ⟨d + 1, H2.set (d - 1) l, by go_num, by omega, by omega, Lib.hid (HH5.out.set (by omega) (by omega) (HO5.out.mono HZZ5.out)), Lib.hid (HQ5.out.far (c := w.heap.size + 1) (by omega) _), Lib.hid (HX5.out.far (b' := w.heap.size + 1) (by omega) _), Lib.hid (fun i hi => (World.cell?_setCell_far _ ⟨w.heap.size + 1, d - 1, none⟩ _ _ HAA.out.1).trans (HC5.out i hi)), Lib.hid ?_, Lib.hid (by simpa using HZ5.out), Lib.hid (HB5.out.setCell (p := ⟨w.heap.size + 1, d - 1, none⟩) (by show w.heap.size ≤ w.heap.size + 1; omega) _), Lib.hid (HOL5.out.setCell (b := w.heap.size + 1) (by omega) _)⟩
          have h := HRU.out
          have hm := HM.out
          rw [show (t1 - ((d + 1 : Nat) : Int) + 1).toNat = m by omega, show d + 1 - 1 = d - 1 + 1 by omega]
          exact h
         case measure => simp [intOf]; omega
        ·have hsv : seenM H2 d = true := by unfold seenM; rw [decide_eq_true hd1]; simpa using hsn
         rw [hsv] at g1
         have hR8 : (noH, (8 : Int)) = R := by
          have h := HRP.out
          rw [if_pos hsn] at h
          exact h
         subst hR8
         obtain ⟨⟨X0, X1, X2, X3, X4, X5, X6⟩, K0, K1, K2, K3, K4, K5, K6⟩ := HX.out
         clear HRP hsn hsv
         go_wp2_with fail
         first
          | ((try simp only [Exit.inBlock, Exit.then]); refine bodyPost_ret (v := .tuple #[.agg #[.slice none 0 0, .slice none 0 0, .slice none 0 0, .slice none 0 0, .slice none 0 0, .slice none 0 0, .slice none 0 0], .int .i64 8]) (by simp [results, Tryz.results30, go_sem, X0, X1, X2, X3, X4, X5, X6]) rfl ?_; have hbb := HB.out; exact hr_bad (put7_below (.slice none 0 0) (.slice none 0 0) (.slice none 0 0) (.slice none 0 0) (.slice none 0 0) (.slice none 0 0) (.slice none 0 0) hbb (b := w.heap.size) (Nat.le_refl _)))
       ·have hm0 : (t1 - (d : Int) + 1).toNat = 0 := by omega
        have HRN : Hid (parseGr (GS.drop (k + 1)) H2 = R) := by
         have h := HRT.out
         rw [hm0, putM] at h
         exact Lib.hid h
        clear HRT hm0
        go_wp2_with fail
        go_roundw
        case rel => exact ⟨k + 1, H2, by go_num, by omega, HH, HQ, HX, HC, HRN, HZ, HB⟩
        case measure => simp [intOf]; omega
     ·have hge' : (ge == 0) = false := by simpa using hge
      have hge'' : (ge != 0) = true := by simpa using hge
      have hRe : (noH, ge) = R := by
       have h := HRS.out
       rw [if_pos hge] at h
       exact h
      subst hRe
      clear HRS HGO
      go_wp2_with (refine HGR.out.mono ?_; rintro e w4 ⟨lv, rfl, hol, hb4⟩; obtain ⟨⟨X0, X1, X2, X3, X4, X5, X6⟩, K0, K1, K2, K3, K4, K5, K6⟩ := HX.out.below hb4)
      first
       | ((try simp only [Exit.inBlock, Exit.then]); refine bodyPost_ret (v := .tuple #[.agg #[.slice none 0 0, .slice none 0 0, .slice none 0 0, .slice none 0 0, .slice none 0 0, .slice none 0 0, .slice none 0 0], .int .i64 ge]) (by simp [results, Tryz.results30, go_sem, X0, X1, X2, X3, X4, X5, X6]) rfl ?_; have hbb := keepBelow HB.out hb4; exact hr_bad (put7_below (.slice none 0 0) (.slice none 0 0) (.slice none 0 0) (.slice none 0 0) (.slice none 0 0) (.slice none 0 0) (.slice none 0 0) hbb (b := w.heap.size) (Nat.le_refl _)))
    ·have hRe : (H, (0 : Int)) = R := by
      have h := HR.out
      rw [List.drop_eq_nil_of_le (by omega), parseGr] at h
      exact h
     subst hRe
     obtain ⟨v0, v1, v2, v3, v4, v5, v6, ⟨C0, C1, C2, C3, C4, C5, C6⟩, hov⟩ := HH.out.vals
     obtain ⟨p0, q0, rfl⟩ : ∃ a c, v0 = .slice a (H.getD 0 []).length c := by
      obtain ⟨a, c, e, _⟩ := (show OwnS _ _ v0 (H.getD 0 []) from hov.2.2 0 (by decide)).form
      exact ⟨a, c, e⟩
     obtain ⟨p1, q1, rfl⟩ : ∃ a c, v1 = .slice a (H.getD 1 []).length c := by
      obtain ⟨a, c, e, _⟩ := (show OwnS _ _ v1 (H.getD 1 []) from hov.2.2 1 (by decide)).form
      exact ⟨a, c, e⟩
     obtain ⟨p2, q2, rfl⟩ : ∃ a c, v2 = .slice a (H.getD 2 []).length c := by
      obtain ⟨a, c, e, _⟩ := (show OwnS _ _ v2 (H.getD 2 []) from hov.2.2 2 (by decide)).form
      exact ⟨a, c, e⟩
     obtain ⟨p3, q3, rfl⟩ : ∃ a c, v3 = .slice a (H.getD 3 []).length c := by
      obtain ⟨a, c, e, _⟩ := (show OwnS _ _ v3 (H.getD 3 []) from hov.2.2 3 (by decide)).form
      exact ⟨a, c, e⟩
     obtain ⟨p4, q4, rfl⟩ : ∃ a c, v4 = .slice a (H.getD 4 []).length c := by
      obtain ⟨a, c, e, _⟩ := (show OwnS _ _ v4 (H.getD 4 []) from hov.2.2 4 (by decide)).form
      exact ⟨a, c, e⟩
     obtain ⟨p5, q5, rfl⟩ : ∃ a c, v5 = .slice a (H.getD 5 []).length c := by
      obtain ⟨a, c, e, _⟩ := (show OwnS _ _ v5 (H.getD 5 []) from hov.2.2 5 (by decide)).form
      exact ⟨a, c, e⟩
     obtain ⟨p6, q6, rfl⟩ : ∃ a c, v6 = .slice a (H.getD 6 []).length c := by
      obtain ⟨a, c, e, _⟩ := (show OwnS _ _ v6 (H.getD 6 []) from hov.2.2 6 (by decide)).form
      exact ⟨a, c, e⟩
     obtain ⟨⟨X0, X1, X2, X3, X4, X5, X6⟩, K0, K1, K2, K3, K4, K5, K6⟩ := HX.out
     have HOV := Lib.hid hov
     clear hov
     go_wp2_with fail
     change bodyPost _ _ _ _ _ (put7 wr w.heap.size (.slice p0 (H.getD 0 []).length q0) (.slice p1 (H.getD 1 []).length q1) (.slice p2 (H.getD 2 []).length q2) (.slice p3 (H.getD 3 []).length q3) (.slice p4 (H.getD 4 []).length q4) (.slice p5 (H.getD 5 []).length q5) (.slice p6 (H.getD 6 []).length q6))
     obtain ⟨r0, r1, r2, r3, r4, r5, r6⟩ := put7_at (.slice p0 (H.getD 0 []).length q0) (.slice p1 (H.getD 1 []).length q1) (.slice p2 (H.getD 2 []).length q2) (.slice p3 (H.getD 3 []).length q3) (.slice p4 (H.getD 4 []).length q4) (.slice p5 (H.getD 5 []).length q5) (.slice p6 (H.getD 6 []).length q6) X0 X1 X2 X3 X4 X5 X6
     have hBZ := put7_below (.slice p0 (H.getD 0 []).length q0) (.slice p1 (H.getD 1 []).length q1) (.slice p2 (H.getD 2 []).length q2) (.slice p3 (H.getD 3 []).length q3) (.slice p4 (H.getD 4 []).length q4) (.slice p5 (H.getD 5 []).length q5) (.slice p6 (H.getD 6 []).length q6) HB.out (b := w.heap.size) (Nat.le_refl _)
     have hOZ := put7_ownH (.slice p0 (H.getD 0 []).length q0) (.slice p1 (H.getD 1 []).length q1) (.slice p2 (H.getD 2 []).length q2) (.slice p3 (H.getD 3 []).length q3) (.slice p4 (H.getD 4 []).length q4) (.slice p5 (H.getD 5 []).length q5) (.slice p6 (H.getD 6 []).length q6) HOV.out (b := w.heap.size) (by omega)
     generalize put7 wr w.heap.size (.slice p0 (H.getD 0 []).length q0) (.slice p1 (H.getD 1 []).length q1) (.slice p2 (H.getD 2 []).length q2) (.slice p3 (H.getD 3 []).length q3) (.slice p4 (H.getD 4 []).length q4) (.slice p5 (H.getD 5 []).length q5) (.slice p6 (H.getD 6 []).length q6) = Z at *
     refine bodyPost_ret (v := .tuple #[.agg #[(.slice p0 (H.getD 0 []).length q0), (.slice p1 (H.getD 1 []).length q1), (.slice p2 (H.getD 2 []).length q2), (.slice p3 (H.getD 3 []).length q3), (.slice p4 (H.getD 4 []).length q4), (.slice p5 (H.getD 5 []).length q5), (.slice p6 (H.getD 6 []).length q6)], .int .i64 0]) (by simp [results, Tryz.results30, go_sem, r0, r1, r2, r3, r4, r5, r6]) rfl ?_
     exact ⟨_, _, _, _, _, _, _, rfl, hOZ.mono (by omega), hBZ⟩
end Go.Proofs.YtmfdnbfjdhlonaaGreatDoor
namespace Go.Proofs.YtmfdnbfjdhlonaaGreatDoor
open Go.RowKit Wk

def RdH (W : World) (vs : List Value) (H : List (List Sp)) : Prop := vs.length = 7 ∧ H.length = 7 ∧ ∀ i, i < 7 → RdS W (vs.getD i undef) (H.getD i [])
theorem RdH.below {W W' : World} {vs : List Value} {H : List (List Sp)} (h : RdH W vs H) (hb : Below W.heap.size W W') : RdH W' vs H := ⟨h.1, h.2.1, fun i hi => keepRd hb (h.2.2 i hi)⟩
theorem OwnH.rd {W : World} {B : Nat} {vs : List Value} {H : List (List Sp)} (h : OwnH W B vs H) (hl : ∀ l ∈ H, l.length ≤ 1000000) : RdH W vs H := ⟨h.1, h.2.1, fun i hi => (h.2.2 i hi).rd (by
 have := hl (H.getD i []) (by rw [List.getD_eq_getElem?_getD, List.getElem?_eq_getElem (by have := h.2.1; omega)]; exact List.getElem_mem _)
 omega)⟩
def okl (l : List Sp) : Bool := decide (l.length ≤ 10) && insB l 86400
def okH (H : List (List Sp)) : Bool := H.all okl
theorem okH_iff {H : List (List Sp)} (hH : H.length = 7) : okH H = true ↔ ∀ i, i < 7 → okl (H.getD i []) = true := by
 unfold okH
 rw [List.all_eq_true]
 constructor
 ·intro h i hi
  exact h _ (by rw [List.getD_eq_getElem?_getD, List.getElem?_eq_getElem (by omega)]; exact List.getElem_mem _)
 ·intro h x hx
  obtain ⟨i, hi, rfl⟩ := List.getElem_of_mem hx
  have := h i (by omega)
  rw [List.getD_eq_getElem?_getD, List.getElem?_eq_getElem hi] at this
  exact this
theorem okH_no {H : List (List Sp)} (hH : H.length = 7) {i : Nat} (hi : i < 7) (h : okl (H.getD i []) = false) : okH H = false := by
 cases e : okH H with
 | false => rfl
 | true => have := (okH_iff hH).1 e i hi; rw [h] at this; cases this
set_option maxHeartbeats 400000 in
theorem oinside_any (v : Value) (l : List Sp) (w : World) (h : RdS w v l) :
  Calls Tryz.prog 41 #[v] w fun e w' => e = .returned (.bool (insB l 86400)) ∧ Below w.heap.size w w' := by
 have H := Lib.hid (rvalid_any v l w h)
 obtain ⟨a, c, rfl, hl, hc⟩ := h
 cases hv : rvB l with
 | false =>
  rw [hv] at H
  have HV := Lib.hid hv
  clear hv hc
  go_enter Tryz.func41, Tryz.ntmps41
  go_wp2_with (go_at_call 81; refine H.out.mono ?_; rintro e w0 ⟨rfl, hb0⟩)
  go_ret
  exact ⟨ret_bool (by unfold insB; rw [HV.out]; rfl), hb0⟩
 | true =>
  rw [hv] at H
  have HV := Lib.hid hv
  clear hv
  by_cases h0 : 0 < l.length
  ·have HF : Hid (∀ W, Below w.heap.size w W → ∃ b o, a = some ⟨b, o, none⟩ ∧ W.cell? ⟨b, o, none⟩ = some (.int .i64 (firstFr l)) ∧ W.cell? ⟨b, o + (l.length - 1) * 2 + 1, none⟩ = some (.int .i64 (lastTo l))) := by
    intro W hW
    obtain ⟨b1, o1, x1, y1, e1, _, H1, c1, _⟩ := rd_at (k := 0) hc hW h0
    subst e1
    obtain ⟨b2, o2, x2, y2, e2, _, H2, _, c2⟩ := rd_at (k := l.length - 1) hc hW (by omega)
    cases e2
    refine ⟨b1, o1, rfl, ?_, ?_⟩
    ·rw [firstFr, H1.out]; simpa using c1
    ·rw [lastTo, H2.out]; exact c2
   clear hc
   have g0 : (((l.length : Int)) == 0) = false := by simp; intro e; simp [e] at h0
   have HI : Hid (insB l 86400 = (decide (0 ≤ firstFr l) && decide (lastTo l ≤ 86400))) := by
    unfold Hid insB
    have : (l.length == 0) = false := by simp; intro e; simp [e] at h0
    rw [HV.out, this]; simp
   go_enter Tryz.func41, Tryz.ntmps41
   go_wp2_with fail
   refine H.out.mono ?_
   rintro e w0 ⟨rfl, hb0⟩
   obtain ⟨b, o, rfl, f1, f2⟩ := HF.out w0 hb0
   by_cases hp : 0 ≤ firstFr l
   ·go_wp2
    all_goals go_ret
    all_goals exact ⟨ret_bool (by rw [HI.out]; simp [hp]), hb0⟩
   ·have gp : decide (0 ≤ firstFr l) = false := by simp; omega
    go_wp2
    all_goals go_ret
    all_goals exact ⟨ret_bool (by rw [HI.out, gp]; rfl), hb0⟩
  ·clear hc
   obtain rfl : l = [] := List.eq_nil_of_length_eq_zero (by omega)
   go_enter Tryz.func41, Tryz.ntmps41
   go_wp2_with (go_at_call 81; refine H.out.mono ?_; rintro e w0 ⟨rfl, hb0⟩)
   go_ret
   exact ⟨ret_bool (by unfold insB; rw [HV.out]; rfl), hb0⟩

set_option maxRecDepth 100000 in
set_option maxHeartbeats 4000000 in
theorem ovalid_any (v0 v1 v2 v3 v4 v5 v6 : Value) (H : List (List Sp)) (w : World) (h : RdH w [v0, v1, v2, v3, v4, v5, v6] H) :
  Calls Tryz.prog 14 #[.agg #[v0, v1, v2, v3, v4, v5, v6]] w fun e w' => e = .returned (.bool (okH H)) ∧ Below w.heap.size w w' := by
 have hH : H.length = 7 := h.2.1
 obtain ⟨W0, hW0⟩ : ∃ W, w.alloc (.cells #[v0, v1, v2, v3, v4, v5, v6] 25) = W := ⟨_, rfl⟩
 have hB0 : Below w.heap.size w W0 := by rw [← hW0]; exact (Below.refl _ w).alloc (Nat.le_refl _) _
 have c0 : W0.cell? ⟨w.heap.size, 0, none⟩ = some v0 := by rw [← hW0]; simp [go_sem]
 have c1 : W0.cell? ⟨w.heap.size, 1, none⟩ = some v1 := by rw [← hW0]; simp [go_sem]
 have c2 : W0.cell? ⟨w.heap.size, 2, none⟩ = some v2 := by rw [← hW0]; simp [go_sem]
 have c3 : W0.cell? ⟨w.heap.size, 3, none⟩ = some v3 := by rw [← hW0]; simp [go_sem]
 have c4 : W0.cell? ⟨w.heap.size, 4, none⟩ = some v4 := by rw [← hW0]; simp [go_sem]
 have c5 : W0.cell? ⟨w.heap.size, 5, none⟩ = some v5 := by rw [← hW0]; simp [go_sem]
 have c6 : W0.cell? ⟨w.heap.size, 6, none⟩ = some v6 := by rw [← hW0]; simp [go_sem]
 have HD := Lib.hid (h.below (show Below w.heap.size w W0 from hB0))
 have HHL := Lib.hid hH
 have HE := Lib.hid hW0
 clear hW0 h hH
 go_enter Tryz.func14, Tryz.ntmps14
 go_wp2_with fail
 rw [HE.out]
 go_wp2_with fail
 go_loopw [4, 7] (fun _ u_c wr => ∃ k : Nat, u_c = .int .i64 k ∧ k ≤ 7 ∧ Hid (∀ j, j < k → okl (H.getD j []) = true) ∧ Below W0.heap.size W0 wr) (fun _ u_c _ => 7 - (intOf u_c).toNat)
 case atStart => exact ⟨0, rfl, by decide, Lib.hid (fun j hj => absurd hj (by omega)), Below.refl _ _⟩
 case round =>
  obtain ⟨k, rfl, hk, HZ, hB⟩ := hrel
  have hcs : k = 0 ∨ k = 1 ∨ k = 2 ∨ k = 3 ∨ k = 4 ∨ k = 5 ∨ k = 6 ∨ k = 7 := by omega
  have d0 := keepCell hB c0
  have d1 := keepCell hB c1
  have d2 := keepCell hB c2
  have d3 := keepCell hB c3
  have d4 := keepCell hB c4
  have d5 := keepCell hB c5
  have d6 := keepCell hB c6
  clear c0 c1 c2 c3 c4 c5 c6
  rcases hcs with rfl | rfl | rfl | rfl | rfl | rfl | rfl | rfl
  ·have hr : RdS W0 v0 (H.getD 0 []) := HD.out.2.2 0 (by decide)
   rw [show ((0 : Nat) : Int) = 0 from rfl]
   obtain ⟨l, hl⟩ : ∃ l, H.getD 0 [] = l := ⟨_, rfl⟩
   rw [hl] at hr
   have HR := Lib.hid (keepRd hB hr)
   obtain ⟨aa, cc, rfl⟩ := hr.form
   have HI := Lib.hid (oinside_any _ _ _ HR.out)
   have hlb : (l.length : Int) ≤ 8796093022208 := by obtain ⟨_, _, _, q, _⟩ := hr; omega
   have HL := Lib.hid hl
   clear hl hr
   have ix0 : ∀ W, (Instr.index 23 (.agg #[.slice aa l.length cc, v1, v2, v3, v4, v5, v6]) (.int .i64 0)).run Tryz.prog W = .ok (.slice aa l.length cc) W := fun _ => by kernel_rfl
   by_cases h10 : (10 : Int) < l.length
   ·go_wp2_with fail
    go_ret
    exact ⟨ret_bool (okH_no HHL.out (i := 0) (by decide) (by rw [HL.out]; unfold okl; rw [decide_eq_false (by omega)]; rfl)).symm, keepBelow hB0 hB⟩
   ·obtain ⟨q, hq⟩ : ∃ q, insB l 86400 = q := ⟨_, rfl⟩
    rw [hq] at HI
    have HQ : Hid (okl (H.getD 0 []) = q) := Lib.hid (by rw [HL.out]; unfold okl; rw [decide_eq_true (by omega), hq]; rfl)
    clear hq
    cases q with
    | false =>
     go_wp2_with (refine HI.out.mono ?_; rintro e w1 ⟨rfl, hb1⟩)
     go_ret
     exact ⟨ret_bool (okH_no HHL.out (i := 0) (by decide) HQ.out).symm, keepBelow hB0 (keepBelow hB hb1)⟩
    | true =>
     go_wp2_with (refine HI.out.mono ?_; rintro e w1 ⟨rfl, hb1⟩)
     go_roundw
     case rel =>
      refine ⟨1, by go_num, by decide, Lib.hid fun j hj => ?_, keepBelow hB hb1⟩
      rcases Nat.lt_succ_iff_lt_or_eq.1 hj with h | rfl
      ·exact HZ.out j h
      ·exact HQ.out
     case measure => simp [intOf]
  ·have hr : RdS W0 v1 (H.getD 1 []) := HD.out.2.2 1 (by decide)
   rw [show ((1 : Nat) : Int) = 1 from rfl]
   obtain ⟨l, hl⟩ : ∃ l, H.getD 1 [] = l := ⟨_, rfl⟩
   rw [hl] at hr
   have HR := Lib.hid (keepRd hB hr)
   obtain ⟨aa, cc, rfl⟩ := hr.form
   have HI := Lib.hid (oinside_any _ _ _ HR.out)
   have hlb : (l.length : Int) ≤ 8796093022208 := by obtain ⟨_, _, _, q, _⟩ := hr; omega
   have HL := Lib.hid hl
   clear hl hr
   have ix1 : ∀ W, (Instr.index 23 (.agg #[v0, .slice aa l.length cc, v2, v3, v4, v5, v6]) (.int .i64 1)).run Tryz.prog W = .ok (.slice aa l.length cc) W := fun _ => by kernel_rfl
   by_cases h10 : (10 : Int) < l.length
   ·go_wp2_with fail
    go_ret
    exact ⟨ret_bool (okH_no HHL.out (i := 1) (by decide) (by rw [HL.out]; unfold okl; rw [decide_eq_false (by omega)]; rfl)).symm, keepBelow hB0 hB⟩
   ·obtain ⟨q, hq⟩ : ∃ q, insB l 86400 = q := ⟨_, rfl⟩
    rw [hq] at HI
    have HQ : Hid (okl (H.getD 1 []) = q) := Lib.hid (by rw [HL.out]; unfold okl; rw [decide_eq_true (by omega), hq]; rfl)
    clear hq
    cases q with
    | false =>
     go_wp2_with (refine HI.out.mono ?_; rintro e w1 ⟨rfl, hb1⟩)
     go_ret
     exact ⟨ret_bool (okH_no HHL.out (i := 1) (by decide) HQ.out).symm, keepBelow hB0 (keepBelow hB hb1)⟩
    | true =>
     go_wp2_with (refine HI.out.mono ?_; rintro e w1 ⟨rfl, hb1⟩)
     go_roundw
     case rel =>
      refine ⟨2, by go_num, by decide, Lib.hid fun j hj => ?_, keepBelow hB hb1⟩
      rcases Nat.lt_succ_iff_lt_or_eq.1 hj with h | rfl
      ·exact HZ.out j h
      ·exact HQ.out
     case measure => simp [intOf]
  ·have hr : RdS W0 v2 (H.getD 2 []) := HD.out.2.2 2 (by decide)
   rw [show ((2 : Nat) : Int) = 2 from rfl]
   obtain ⟨l, hl⟩ : ∃ l, H.getD 2 [] = l := ⟨_, rfl⟩
   rw [hl] at hr
   have HR := Lib.hid (keepRd hB hr)
   obtain ⟨aa, cc, rfl⟩ := hr.form
   have HI := Lib.hid (oinside_any _ _ _ HR.out)
   have hlb : (l.length : Int) ≤ 8796093022208 := by obtain ⟨_, _, _, q, _⟩ := hr; omega
   have HL := Lib.hid hl
   clear hl hr
   have ix2 : ∀ W, (Instr.index 23 (.agg #[v0, v1, .slice aa l.length cc, v3, v4, v5, v6]) (.int .i64 2)).run Tryz.prog W = .ok (.slice aa l.length cc) W := fun _ => by kernel_rfl
   by_cases h10 : (10 : Int) < l.length
   ·go_wp2_with fail
    go_ret
    exact ⟨ret_bool (okH_no HHL.out (i := 2) (by decide) (by rw [HL.out]; unfold okl; rw [decide_eq_false (by omega)]; rfl)).symm, keepBelow hB0 hB⟩
   ·obtain ⟨q, hq⟩ : ∃ q, insB l 86400 = q := ⟨_, rfl⟩
    rw [hq] at HI
    have HQ : Hid (okl (H.getD 2 []) = q) := Lib.hid (by rw [HL.out]; unfold okl; rw [decide_eq_true (by omega), hq]; rfl)
    clear hq
    cases q with
    | false =>
     go_wp2_with (refine HI.out.mono ?_; rintro e w1 ⟨rfl, hb1⟩)
     go_ret
     exact ⟨ret_bool (okH_no HHL.out (i := 2) (by decide) HQ.out).symm, keepBelow hB0 (keepBelow hB hb1)⟩
    | true =>
     go_wp2_with (refine HI.out.mono ?_; rintro e w1 ⟨rfl, hb1⟩)
     go_roundw
     case rel =>
      refine ⟨3, by go_num, by decide, Lib.hid fun j hj => ?_, keepBelow hB hb1⟩
      rcases Nat.lt_succ_iff_lt_or_eq.1 hj with h | rfl
      ·exact HZ.out j h
      ·exact HQ.out
     case measure => simp [intOf]
  ·have hr : RdS W0 v3 (H.getD 3 []) := HD.out.2.2 3 (by decide)
   rw [show ((3 : Nat) : Int) = 3 from rfl]
   obtain ⟨l, hl⟩ : ∃ l, H.getD 3 [] = l := ⟨_, rfl⟩
   rw [hl] at hr
   have HR := Lib.hid (keepRd hB hr)
   obtain ⟨aa, cc, rfl⟩ := hr.form
   have HI := Lib.hid (oinside_any _ _ _ HR.out)
   have hlb : (l.length : Int) ≤ 8796093022208 := by obtain ⟨_, _, _, q, _⟩ := hr; omega
   have HL := Lib.hid hl
   clear hl hr
   have ix3 : ∀ W, (Instr.index 23 (.agg #[v0, v1, v2, .slice aa l.length cc, v4, v5, v6]) (.int .i64 3)).run Tryz.prog W = .ok (.slice aa l.length cc) W := fun _ => by kernel_rfl
   by_cases h10 : (10 : Int) < l.length
   ·go_wp2_with fail
    go_ret
    exact ⟨ret_bool (okH_no HHL.out (i := 3) (by decide) (by rw [HL.out]; unfold okl; rw [decide_eq_false (by omega)]; rfl)).symm, keepBelow hB0 hB⟩
   ·obtain ⟨q, hq⟩ : ∃ q, insB l 86400 = q := ⟨_, rfl⟩
    rw [hq] at HI
    have HQ : Hid (okl (H.getD 3 []) = q) := Lib.hid (by rw [HL.out]; unfold okl; rw [decide_eq_true (by omega), hq]; rfl)
    clear hq
    cases q with
    | false =>
     go_wp2_with (refine HI.out.mono ?_; rintro e w1 ⟨rfl, hb1⟩)
     go_ret
     exact ⟨ret_bool (okH_no HHL.out (i := 3) (by decide) HQ.out).symm, keepBelow hB0 (keepBelow hB hb1)⟩
    | true =>
     go_wp2_with (refine HI.out.mono ?_; rintro e w1 ⟨rfl, hb1⟩)
     go_roundw
     case rel =>
      refine ⟨4, by go_num, by decide, Lib.hid fun j hj => ?_, keepBelow hB hb1⟩
      rcases Nat.lt_succ_iff_lt_or_eq.1 hj with h | rfl
      ·exact HZ.out j h
      ·exact HQ.out
     case measure => simp [intOf]
  ·have hr : RdS W0 v4 (H.getD 4 []) := HD.out.2.2 4 (by decide)
   rw [show ((4 : Nat) : Int) = 4 from rfl]
   obtain ⟨l, hl⟩ : ∃ l, H.getD 4 [] = l := ⟨_, rfl⟩
   rw [hl] at hr
   have HR := Lib.hid (keepRd hB hr)
   obtain ⟨aa, cc, rfl⟩ := hr.form
   have HI := Lib.hid (oinside_any _ _ _ HR.out)
   have hlb : (l.length : Int) ≤ 8796093022208 := by obtain ⟨_, _, _, q, _⟩ := hr; omega
   have HL := Lib.hid hl
   clear hl hr
   have ix4 : ∀ W, (Instr.index 23 (.agg #[v0, v1, v2, v3, .slice aa l.length cc, v5, v6]) (.int .i64 4)).run Tryz.prog W = .ok (.slice aa l.length cc) W := fun _ => by kernel_rfl
   by_cases h10 : (10 : Int) < l.length
   ·go_wp2_with fail
    go_ret
    exact ⟨ret_bool (okH_no HHL.out (i := 4) (by decide) (by rw [HL.out]; unfold okl; rw [decide_eq_false (by omega)]; rfl)).symm, keepBelow hB0 hB⟩
   ·obtain ⟨q, hq⟩ : ∃ q, insB l 86400 = q := ⟨_, rfl⟩
    rw [hq] at HI
    have HQ : Hid (okl (H.getD 4 []) = q) := Lib.hid (by rw [HL.out]; unfold okl; rw [decide_eq_true (by omega), hq]; rfl)
    clear hq
    cases q with
    | false =>
     go_wp2_with (refine HI.out.mono ?_; rintro e w1 ⟨rfl, hb1⟩)
     go_ret
     exact ⟨ret_bool (okH_no HHL.out (i := 4) (by decide) HQ.out).symm, keepBelow hB0 (keepBelow hB hb1)⟩
    | true =>
     go_wp2_with (refine HI.out.mono ?_; rintro e w1 ⟨rfl, hb1⟩)
     go_roundw
     case rel =>
      refine ⟨5, by go_num, by decide, Lib.hid fun j hj => ?_, keepBelow hB hb1⟩
      rcases Nat.lt_succ_iff_lt_or_eq.1 hj with h | rfl
      ·exact HZ.out j h
      ·exact HQ.out
     case measure => simp [intOf]
  ·have hr : RdS W0 v5 (H.getD 5 []) := HD.out.2.2 5 (by decide)
   rw [show ((5 : Nat) : Int) = 5 from rfl]
   obtain ⟨l, hl⟩ : ∃ l, H.getD 5 [] = l := ⟨_, rfl⟩
   rw [hl] at hr
   have HR := Lib.hid (keepRd hB hr)
   obtain ⟨aa, cc, rfl⟩ := hr.form
   have HI := Lib.hid (oinside_any _ _ _ HR.out)
   have hlb : (l.length : Int) ≤ 8796093022208 := by obtain ⟨_, _, _, q, _⟩ := hr; omega
   have HL := Lib.hid hl
   clear hl hr
   have ix5 : ∀ W, (Instr.index 23 (.agg #[v0, v1, v2, v3, v4, .slice aa l.length cc, v6]) (.int .i64 5)).run Tryz.prog W = .ok (.slice aa l.length cc) W := fun _ => by kernel_rfl
   by_cases h10 : (10 : Int) < l.length
   ·go_wp2_with fail
    go_ret
    exact ⟨ret_bool (okH_no HHL.out (i := 5) (by decide) (by rw [HL.out]; unfold okl; rw [decide_eq_false (by omega)]; rfl)).symm, keepBelow hB0 hB⟩
   ·obtain ⟨q, hq⟩ : ∃ q, insB l 86400 = q := ⟨_, rfl⟩
    rw [hq] at HI
    have HQ : Hid (okl (H.getD 5 []) = q) := Lib.hid (by rw [HL.out]; unfold okl; rw [decide_eq_true (by omega), hq]; rfl)
    clear hq
    cases q with
    | false =>
     go_wp2_with (refine HI.out.mono ?_; rintro e w1 ⟨rfl, hb1⟩)
     go_ret
     exact ⟨ret_bool (okH_no HHL.out (i := 5) (by decide) HQ.out).symm, keepBelow hB0 (keepBelow hB hb1)⟩
    | true =>
     go_wp2_with (refine HI.out.mono ?_; rintro e w1 ⟨rfl, hb1⟩)
     go_roundw
     case rel =>
      refine ⟨6, by go_num, by decide, Lib.hid fun j hj => ?_, keepBelow hB hb1⟩
      rcases Nat.lt_succ_iff_lt_or_eq.1 hj with h | rfl
      ·exact HZ.out j h
      ·exact HQ.out
     case measure => simp [intOf]
  ·have hr : RdS W0 v6 (H.getD 6 []) := HD.out.2.2 6 (by decide)
   rw [show ((6 : Nat) : Int) = 6 from rfl]
   obtain ⟨l, hl⟩ : ∃ l, H.getD 6 [] = l := ⟨_, rfl⟩
   rw [hl] at hr
   have HR := Lib.hid (keepRd hB hr)
   obtain ⟨aa, cc, rfl⟩ := hr.form
   have HI := Lib.hid (oinside_any _ _ _ HR.out)
   have hlb : (l.length : Int) ≤ 8796093022208 := by obtain ⟨_, _, _, q, _⟩ := hr; omega
   have HL := Lib.hid hl
   clear hl hr
   have ix6 : ∀ W, (Instr.index 23 (.agg #[v0, v1, v2, v3, v4, v5, .slice aa l.length cc]) (.int .i64 6)).run Tryz.prog W = .ok (.slice aa l.length cc) W := fun _ => by kernel_rfl
   by_cases h10 : (10 : Int) < l.length
   ·go_wp2_with fail
    go_ret
    exact ⟨ret_bool (okH_no HHL.out (i := 6) (by decide) (by rw [HL.out]; unfold okl; rw [decide_eq_false (by omega)]; rfl)).symm, keepBelow hB0 hB⟩
   ·obtain ⟨q, hq⟩ : ∃ q, insB l 86400 = q := ⟨_, rfl⟩
    rw [hq] at HI
    have HQ : Hid (okl (H.getD 6 []) = q) := Lib.hid (by rw [HL.out]; unfold okl; rw [decide_eq_true (by omega), hq]; rfl)
    clear hq
    cases q with
    | false =>
     go_wp2_with (refine HI.out.mono ?_; rintro e w1 ⟨rfl, hb1⟩)
     go_ret
     exact ⟨ret_bool (okH_no HHL.out (i := 6) (by decide) HQ.out).symm, keepBelow hB0 (keepBelow hB hb1)⟩
    | true =>
     go_wp2_with (refine HI.out.mono ?_; rintro e w1 ⟨rfl, hb1⟩)
     go_roundw
     case rel =>
      refine ⟨7, by go_num, by decide, Lib.hid fun j hj => ?_, keepBelow hB hb1⟩
      rcases Nat.lt_succ_iff_lt_or_eq.1 hj with h | rfl
      ·exact HZ.out j h
      ·exact HQ.out
     case measure => simp [intOf]
  ·rw [show ((7 : Nat) : Int) = 7 from rfl]
   go_wp2_with fail
   go_ret
   exact ⟨ret_bool ((okH_iff HHL.out).2 HZ.out).symm, keepBelow hB0 hB⟩
end Go.Proofs.YtmfdnbfjdhlonaaGreatDoor
