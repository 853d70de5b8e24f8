import Derived.Test.YtkfonfheakpcbaaGreatWkExp
/- The laws' own helpers: hours, awake, large. -/
namespace Go.Proofs.YtkfonfheakpcbaaGreat
open Go.RowKit Wk

def HoPost (w : World) (e : Ending) (w' : World) : Prop :=
  ∃ v, e = .returned (.agg #[.int .i64 86400, v, .int .i64 86400, v, .int .i64 0, .int .i64 0, .slice none 0 0]) ∧ RdS w' v awL ∧ Below w.heap.size w w'

set_option maxHeartbeats 1000000 in
theorem hours_any (w : World) : Calls Tryz.prog 36 #[.int .i64 32400, .int .i64 61200] w (HoPost w) := by
  go_enter Tryz.func36, Tryz.ntmps36
  go_wp2
  refine bodyPost_ret (v := .agg #[.int .i64 86400, .slice (some ⟨w.heap.size + 1, 0, none⟩) 1 1, .int .i64 86400, .slice (some ⟨w.heap.size + 1, 0, none⟩) 1 1, .int .i64 0, .int .i64 0, .slice none 0 0]) (by simp [results, Tryz.results36, go_sem]) rfl ?_
  refine ⟨_, rfl, ⟨some ⟨w.heap.size + 1, 0, none⟩, 1, rfl, by decide, fun i hi => ?_⟩, (((Below.refl _ w).alloc (Nat.le_refl _) _).alloc (by simp) _).alloc (by simp; omega) _⟩
  have h0 : i = 0 := by simp [awL] at hi; exact hi
  subst h0
  exact ⟨_, _, rfl, by simp [go_sem, awL], by simp [go_sem, awL]⟩

theorem aw_Add : AddM (VB awS) awS 57600 7200 = (122400, 0) := by
  rw [aw_VB, AddM_eq rfl (by decide) (by omega) (by omega)]; exact aw_add
theorem aw_Dl : DlM (VB awS) awS 57600 7200 54000 = (126000, 0) := by rw [aw_VB]; exact aw_dl
theorem aw_Me : MeaM (VB awS) awS 57600 122400 = (7200, 0) := by rw [aw_VB]; exact aw_me
theorem rd_nil (w : World) : RdS w (.slice none 0 0) [] := (OwnS.nil w 0).rd (by simp)

set_option maxHeartbeats 1000000 in
theorem awake_any (w : World) : Calls Tryz.prog 9 #[] w fun e w' => e = .returned (.bool true) ∧ Below w.heap.size w w' := by
  have H0 := Lib.hid (fun W => hours_any W)
  have H1 : Hid (∀ v W, RdS W v awL → Calls Tryz.prog 17 #[.agg #[.int .i64 86400, v, .int .i64 86400, v, .int .i64 0, .int .i64 0, .slice none 0 0], .int .i64 57600, .int .i64 7200] W fun e w' => e = .returned (.tuple #[.int .i64 122400, .int .i64 0]) ∧ Below W.heap.size W w') := by
    intro v W h
    have := wAdd_any awS v v (.slice none 0 0) 57600 7200 W ⟨h, h, rd_nil W⟩
    rw [aw_Add] at this
    exact this
  have H2 : Hid (∀ v W, RdS W v awL → Calls Tryz.prog 11 #[.agg #[.int .i64 86400, v, .int .i64 86400, v, .int .i64 0, .int .i64 0, .slice none 0 0], .int .i64 57600, .int .i64 7200, .int .i64 54000] W fun e w' => e = .returned (.tuple #[.int .i64 126000, .int .i64 0]) ∧ Below W.heap.size W w') := by
    intro v W h
    have := wDeadline_any awS v v (.slice none 0 0) 57600 7200 54000 W ⟨h, h, rd_nil W⟩
    rw [aw_Dl] at this
    exact this
  have H3 : Hid (∀ v W, RdS W v awL → Calls Tryz.prog 15 #[.agg #[.int .i64 86400, v, .int .i64 86400, v, .int .i64 0, .int .i64 0, .slice none 0 0], .int .i64 57600, .int .i64 122400] W fun e w' => e = .returned (.tuple #[.int .i64 7200, .int .i64 0]) ∧ Below W.heap.size W w') := by
    intro v W h
    have := wmeasure_any awS v v (.slice none 0 0) 57600 122400 W ⟨h, h, rd_nil W⟩
    rw [aw_Me] at this
    exact this
  go_enter Tryz.func9, Tryz.ntmps9
  go_wp2_with fail
  refine (H0.out _).mono ?_
  rintro e w1 ⟨v, rfl, hr, hb1⟩
  obtain ⟨a, n, rfl⟩ := hr.form
  obtain ⟨W, hWe⟩ : ∃ W, w1.alloc (.cells #[.int .i64 86400, .slice a awL.length n, .int .i64 86400, .slice a awL.length n, .int .i64 0, .int .i64 0, .slice none 0 0] 26) = W := ⟨_, rfl⟩
  have hba : Below w1.heap.size w1 W := by rw [← hWe]; exact (Below.refl _ w1).alloc (Nat.le_refl _) _
  have HX : Hid (Set7 W w1.heap.size (.int .i64 86400) (.slice a awL.length n) (.int .i64 86400) (.slice a awL.length n) (.int .i64 0) (.int .i64 0) (.slice none 0 0)) := by
    rw [← hWe]
    refine ⟨⟨?_, ?_, ?_, ?_, ?_, ?_, ?_⟩, ?_, ?_, ?_, ?_, ?_, ?_, ?_⟩ <;> simp [go_sem]
  have HR := Lib.hid (keepRd hba hr)
  have hB := keepBelow hb1 hba
  have HE := Lib.hid hWe
  obtain ⟨⟨B0, B1, B2, B3, B4, B5, B6⟩, _⟩ := HX.out
  rw [← hWe] at B0 B1 B2 B3 B4 B5 B6
  clear hWe hba hb1 hr
  go_wp2_with fail
  rw [HE.out]
  refine (H1.out _ _ HR.out).mono ?_
  rintro e w2 ⟨rfl, hb2⟩
  have HX2 := Lib.hid (HX.out.below hb2)
  have HR2 := Lib.hid (keepRd hb2 HR.out)
  have hB2 := keepBelow hB hb2
  clear hb2 B0 B1 B2 B3 B4 B5 B6 HX HR hB HE
  obtain ⟨⟨B0, B1, B2, B3, B4, B5, B6⟩, _⟩ := HX2.out
  go_wp2_with fail
  refine (H2.out _ _ HR2.out).mono ?_
  rintro e w3 ⟨rfl, hb3⟩
  have HX3 := Lib.hid (HX2.out.below hb3)
  have HR3 := Lib.hid (keepRd hb3 HR2.out)
  have hB3 := keepBelow hB2 hb3
  clear hb3 B0 B1 B2 B3 B4 B5 B6 HX2 HR2 hB2
  obtain ⟨⟨B0, B1, B2, B3, B4, B5, B6⟩, _⟩ := HX3.out
  go_wp2_with fail
  refine (H3.out _ _ HR3.out).mono ?_
  rintro e w4 ⟨rfl, hb4⟩
  go_wp2
  go_ret
  exact ⟨rfl, keepBelow hB3 hb4⟩

def bigB (P : Int) (l : List Sp) : Bool := (decide (1048576 < P) && decide (P ≤ 12622780800)) || decide (40 < (l.length : Int))
def largeB (s : St) : Bool := (bigB s.lf.1 s.lf.2 || bigB s.rt.1 s.rt.2) || decide (40 < (s.l.length : Int))

set_option maxHeartbeats 1000000 in
theorem big_any (P : Int) (v : Value) (l : List Sp) (w : World) (h : RdS w v l) :
    Calls Tryz.prog 37 #[.agg #[.int .i64 P, v]] w fun e w' => e = .returned (.bool (bigB P l)) ∧ Below w.heap.size w w' := by
  obtain ⟨a, c, rfl⟩ := h.form
  clear h
  obtain ⟨W, hWe⟩ : ∃ W, w.alloc (.cells #[.int .i64 P, .slice a l.length c] 24) = W := ⟨_, rfl⟩
  have hB0 : Below w.heap.size w W := by rw [← hWe]; exact (Below.refl _ _).alloc (Nat.le_refl _) _
  have c0 : W.cell? ⟨w.heap.size, 0, none⟩ = some (.int .i64 P) := by rw [← hWe]; simp [go_sem]
  have c1 : W.cell? ⟨w.heap.size, 1, none⟩ = some (.slice a l.length c) := by rw [← hWe]; simp [go_sem]
  have HE := Lib.hid hWe
  clear hWe
  have HB : Hid (bigB P l = ((decide (1048576 < P) && decide (P ≤ 12622780800)) || decide (40 < (l.length : Int)))) := rfl
  cases h1 : decide (1048576 < P) <;> cases h2 : decide (P ≤ 12622780800) <;> cases h3 : decide (40 < (l.length : Int))
  all_goals
    have G1 := Lib.hid h1
    have G2 := Lib.hid h2
    have G3 := Lib.hid h3
    go_enter Tryz.func37, Tryz.ntmps37
    go_wp2_with fail
    rw [HE.out]
    go_wp2
    go_ret
    exact ⟨ret_bool (by rw [HB.out, G1.out, G2.out, G3.out]; rfl), hB0⟩

set_option maxHeartbeats 1000000 in
theorem large_any (s : St) (vl vr vv : Value) (w : World) (h : RdSt w s vl vr vv) :
    Calls Tryz.prog 10 #[.agg #[.int .i64 s.lf.1, vl, .int .i64 s.rt.1, vr, .int .i64 s.fr, .int .i64 s.to, vv]] w fun e w' => e = .returned (.bool (largeB s)) ∧ Below w.heap.size w w' := by
  have H1 := Lib.hid (fun W h => big_any s.lf.1 vl s.lf.2 W h)
  have H2 := Lib.hid (fun W h => big_any s.rt.1 vr s.rt.2 W h)
  have HL : Hid (largeB s = ((bigB s.lf.1 s.lf.2 || bigB s.rt.1 s.rt.2) || decide (40 < (s.l.length : Int)))) := rfl
  generalize bigB s.lf.1 s.lf.2 = q1 at *
  generalize bigB s.rt.1 s.rt.2 = q2 at *
  have HR0 := Lib.hid h
  obtain ⟨a1, n1, rfl⟩ := h.1.form
  obtain ⟨a2, n2, rfl⟩ := h.2.1.form
  obtain ⟨a3, n3, rfl⟩ := h.2.2.form
  clear h
  obtain ⟨W, hWe⟩ : ∃ W, w.alloc (.cells #[.int .i64 s.lf.1, .slice a1 s.lf.2.length n1, .int .i64 s.rt.1, .slice a2 s.rt.2.length n2, .int .i64 s.fr, .int .i64 s.to, .slice a3 s.l.length n3] 26) = W := ⟨_, rfl⟩
  have hW : Below w.heap.size w W := by rw [← hWe]; exact (Below.refl _ w).alloc (Nat.le_refl _) _
  have HX : Hid (Set7 W w.heap.size (.int .i64 s.lf.1) (.slice a1 s.lf.2.length n1) (.int .i64 s.rt.1) (.slice a2 s.rt.2.length n2) (.int .i64 s.fr) (.int .i64 s.to) (.slice a3 s.l.length n3)) := by
    rw [← hWe]
    refine ⟨⟨?_, ?_, ?_, ?_, ?_, ?_, ?_⟩, ?_, ?_, ?_, ?_, ?_, ?_, ?_⟩ <;> simp [go_sem]
  have HR := Lib.hid (keepSt hW HR0.out)
  have HE := Lib.hid hWe
  clear hWe HR0
  obtain ⟨⟨B0, B1, B2, B3, B4, B5, B6⟩, _⟩ := HX.out
  go_enter Tryz.func10, Tryz.ntmps10
  go_wp2_with fail
  rw [HE.out]
  go_wp2_with fail
  refine (H1.out _ HR.out.1).mono ?_
  rintro e w1 ⟨rfl, hb1⟩
  have HX1 := Lib.hid (HX.out.below hb1)
  have HR1 := Lib.hid (keepSt hb1 HR.out)
  have hB1 := keepBelow hW hb1
  clear hb1 B0 B1 B2 B3 B4 B5 B6 HX HR HE hW
  obtain ⟨⟨B0, B1, B2, B3, B4, B5, B6⟩, _⟩ := HX1.out
  cases q1 with
  | true =>
    go_wp2
    go_ret
    exact ⟨ret_bool (by rw [HL.out]; simp), hB1⟩
  | false =>
  go_wp2_with fail
  refine (H2.out _ HR1.out.2.1).mono ?_
  rintro e w2 ⟨rfl, hb2⟩
  have HX2 := Lib.hid (HX1.out.below hb2)
  have hB2 := keepBelow hB1 hb2
  clear hb2 B0 B1 B2 B3 B4 B5 B6 HX1 HR1 hB1
  obtain ⟨⟨B0, B1, B2, B3, B4, B5, B6⟩, _⟩ := HX2.out
  cases q2 with
  | true =>
    go_wp2
    go_ret
    exact ⟨ret_bool (by rw [HL.out]; simp), hB2⟩
  | false =>
  cases h3 : decide (40 < (s.l.length : Int))
  all_goals
    have G3 := Lib.hid h3
    go_wp2
    go_ret
    exact ⟨ret_bool (by rw [HL.out, G3.out]; rfl), hB2⟩

theorem refline_any (x : Int) (w : World) :
    Calls Tryz.prog 50 #[.int .i64 x] w fun e w' => e = .returned (.bool (lineB x)) ∧ w = w' := by
  go_enter Tryz.func50, Tryz.ntmps50
  go_wp2
  all_goals go_ret
  all_goals exact ⟨ret_bool (by rw [Bool.eq_iff_iff]; simp [lineB]; omega), rfl⟩
theorem offline_any (x : Int) (w : World) :
    Calls Tryz.prog 49 #[.int .i64 x] w fun e w' => e = .returned (.bool (!lineB x)) ∧ Below w.heap.size w w' := by
  have H := Lib.hid (fun W => refline_any x W)
  go_enter Tryz.func49, Tryz.ntmps49
  go_wp2_with fail
  refine (H.out _).mono ?_
  rintro e w1 ⟨rfl, rfl⟩
  go_wp2
  go_ret
  exact ⟨rfl, Below.refl _ _⟩

/-- v is a slice of numbers that reads as L -/
def RdI (w : World) (v : Value) (L : List Int) : Prop :=
  ∃ a c, v = .slice a L.length c ∧ L.length ≤ 1152921504606846976 ∧ ∀ i, i < L.length → ∃ b o, a = some ⟨b, o, none⟩ ∧ w.cell? ⟨b, o + i, none⟩ = some (.int .i64 (L.getD i 0))
theorem RdI.below {w w' : World} {v : Value} {L : List Int} (h : RdI w v L) (hb : Below w.heap.size w w') : RdI w' v L := by
  obtain ⟨a, c, rfl, hl, hc⟩ := h
  refine ⟨a, c, rfl, hl, fun i hi => ?_⟩
  obtain ⟨b, o, rfl, c1⟩ := hc i hi
  exact ⟨b, o, rfl, keepCell hb c1⟩

def allB (L : List Int) : Bool := L.all lineB
theorem allB_iff (L : List Int) : allB L = true ↔ ∀ i, i < L.length → lineB (L.getD i 0) = true := by
  unfold allB
  rw [List.all_eq_true]
  constructor
  · intro h i hi
    rw [List.getD_eq_getElem?_getD, List.getElem?_eq_getElem hi]
    exact h _ (List.getElem_mem hi)
  · intro h x hx
    obtain ⟨i, hi, rfl⟩ := List.mem_iff_getElem.1 hx
    have := h i hi
    rwa [List.getD_eq_getElem?_getD, List.getElem?_eq_getElem hi] at this

set_option maxHeartbeats 1000000 in
theorem idxf_any (v : Value) (L : List Int) (w : World) (h : RdI w v L) :
    Calls Tryz.prog 76 #[v, .func (.func 49) #[] #[]] w fun e w' => (∃ r : Int, e = .returned (.int .i64 r) ∧ (decide (0 ≤ r) = !allB L)) ∧ Below w.heap.size w w' := by
  have H := Lib.hid (fun x W => offline_any x W)
  obtain ⟨a, c, rfl, hl, hc⟩ := h
  go_enter Tryz.func76, Tryz.ntmps76
  go_wp2_with fail
  go_loopw [8] (fun u wr => ∃ k : Nat, u = .int .i64 k ∧ k ≤ L.length ∧ Hid (∀ i, i < k → lineB (L.getD i 0) = true) ∧ Below w.heap.size w wr) (fun u _ => L.length - (intOf u).toNat)
  case atStart => exact ⟨0, rfl, Nat.zero_le _, fun i hi => by omega, Below.refl _ _⟩
  case round =>
    obtain ⟨k, rfl, hk, HZ, hB⟩ := hrel
    by_cases hlt : k < L.length
    · obtain ⟨b, o, rfl, c1⟩ := hc k hlt
      have c2 := (hB.cell (p := ⟨b, o + k, none⟩) (World.block_lt_of_cell? w _ c1)).trans c1
      obtain ⟨x, hx⟩ : ∃ x, L.getD k 0 = x := ⟨_, rfl⟩
      rw [hx] at c1 c2
      have HXE := Lib.hid hx
      have HC := Lib.hid hc
      clear hc hx c1
      go_wp2_with fail
      refine (H.out x _).mono ?_
      rintro e w1 ⟨rfl, hb1⟩
      have hB1 := keepBelow hB hb1
      cases hlx : lineB x with
      | true =>
        have HL := Lib.hid hlx
        clear hlx
        go_wp2
        go_roundw
        case rel =>
          refine ⟨k + 1, by go_num, by omega, fun i hi => ?_, hB1⟩
          rcases Nat.lt_succ_iff_lt_or_eq.1 hi with h | rfl
          · exact HZ.out i h
          · rw [HXE.out]; exact HL.out
        case measure => simp [intOf]; omega
      | false =>
        have HL := Lib.hid hlx
        clear hlx
        have hA : allB L = false := by
          cases hA : allB L with
          | false => rfl
          | true => have := (allB_iff L).1 hA k hlt; rw [HXE.out, HL.out] at this; cases this
        go_wp2
        go_ret
        exact ⟨⟨k, rfl, by rw [hA]; simp⟩, hB1⟩
    · have hA : allB L = true := (allB_iff L).2 fun i hi => HZ.out i (by omega)
      clear hc
      go_wp2
      go_ret
      exact ⟨⟨-1, rfl, by rw [hA]; simp⟩, hB⟩
theorem confn_any (v : Value) (L : List Int) (w : World) (h : RdI w v L) :
    Calls Tryz.prog 48 #[v, .func (.func 49) #[] #[]] w fun e w' => e = .returned (.bool (!allB L)) ∧ Below w.heap.size w w' := by
  have H := Lib.hid (fun W h => idxf_any v L W h)
  have HD := Lib.hid h
  obtain ⟨a, c, rfl, _⟩ := h
  go_enter Tryz.func48, Tryz.ntmps48
  go_wp2_with fail
  refine (H.out _ HD.out).mono ?_
  rintro e w1 ⟨⟨r, rfl, hr⟩, hb1⟩
  have HRR := Lib.hid hr
  clear hr
  go_wp2
  go_ret
  exact ⟨ret_bool HRR.out, hb1⟩
theorem lline_any (v : Value) (L : List Int) (w : World) (h : RdI w v L) :
    Calls Tryz.prog 14 #[v] w fun e w' => e = .returned (.bool (allB L)) ∧ Below w.heap.size w w' := by
  have H := Lib.hid (fun W h => confn_any v L W h)
  have HD := Lib.hid h
  obtain ⟨a, c, rfl, _⟩ := h
  go_enter Tryz.func14, Tryz.ntmps14
  go_wp2_with fail
  refine (H.out _ HD.out).mono ?_
  rintro e w1 ⟨rfl, hb1⟩
  go_wp2
  go_ret
  exact ⟨ret_bool (by simp), hb1⟩
end Go.Proofs.YtkfonfheakpcbaaGreat
