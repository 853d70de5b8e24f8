import Derived.Test.YtnjpceocnldlfaaGreatWkWhb
/- timeset.Previous. -/
namespace Go.Proofs.YtnjpceocnldlfaaGreat
open Go.RowKit Wk
namespace Wk
theorem prev_lo {s : St} (hs : OkS s) {x y : Int} (h : PrevC (hasS s) x (some y)) (hx : -4398046511104 ≤ x) : -4500000000000 ≤ y := by
  obtain ⟨h1, h2, h3⟩ := h
  have hp := rvB_of_pvB hs.lf
  have hf := hs.f1
  rcases Int.lt_or_le y (-4500000000000) with hlt | hle
  · exfalso
    have e := hasP_period s.lf hp.2.1
    have e1 := e y 1
    have e2 := e (y - 1) 1
    rw [Int.one_mul] at e1 e2
    have b1 : hasS s y = hasP s.lf y := hasS_lf (by omega)
    have b2 : hasS s (y - 1) = hasP s.lf (y - 1) := hasS_lf (by omega)
    have b3 : hasS s (y + s.lf.1) = hasP s.lf (y + s.lf.1) := hasS_lf (by omega)
    have b4 : hasS s (y + s.lf.1 - 1) = hasP s.lf (y - 1 + s.lf.1) := by rw [show y + s.lf.1 - 1 = y - 1 + s.lf.1 by omega]; exact hasS_lf (by omega)
    have := h3 (y + s.lf.1) (by omega) (by omega)
    rw [b3, b4, e1, e2, ← b1, ← b2] at this
    exact h2 this
  · exact hle
end Wk
/-- the number before the change, on the line -/
def onLineP (r : Option Int) : Option Int := match r with | some y => if y - 1 < -4398046511104 then none else some (y - 1) | none => none
def PvSpec (b : Bool) (s : St) (x : Int) (r : Option Int) : Prop :=
  if lineB x = false ∨ b = false then r = none else if hasS s x = true then r = some x else ∃ q, PrevC (hasS s) x q ∧ r = onLineP q

set_option maxRecDepth 100000 in
set_option maxHeartbeats 4000000 in
theorem tprev_any (s : St) (vl vr vv : Value) (x : Int) (w : World) (h : RdSt w s vl vr vv) :
    Calls Tryz.prog 43 #[.agg #[.int .i64 s.lf.1, vl, .int .i64 s.rt.1, vr, .int .i64 s.fr, .int .i64 s.to, vv], .int .i64 x] w (OpPost (PvSpec (VB s) s x) w) := by
  have HV := Lib.hid (fun W h => tvalid_any s vl vr vv W h)
  have HL := Lib.hid (fun W => tline_any x W)
  have HH : Hid (VB s = true → ∀ W, RdSt W s vl vr vv → -1152921504606846976 ≤ x → x ≤ 1152921504606846976 → Calls Tryz.prog 66 #[.agg #[.int .i64 s.lf.1, vl, .int .i64 s.rt.1, vr, .int .i64 s.fr, .int .i64 s.to, vv], .int .i64 x] W fun e w' => e = .returned (.bool (hasS s x)) ∧ Below W.heap.size W w') :=
    fun hg W h h1 h2 => whas_any s vl vr vv x W h (okS_of_VB hg) h1 h2
  have HAF : Hid (VB s = true → ∀ W, RdSt W s vl vr vv → -1152921504606846975 ≤ x → x ≤ 1152921504606846976 → Calls Tryz.prog 96 #[.agg #[.int .i64 s.lf.1, vl, .int .i64 s.rt.1, vr, .int .i64 s.fr, .int .i64 s.to, vv], .int .i64 x] W (PvPost (hasS s) x W)) :=
    fun hg W h h1 h2 => wbefore_any s vl vr vv x W h (okS_of_VB hg) h1 h2
  have HLO : Hid (VB s = true → ∀ y, PrevC (hasS s) x (some y) → lineB x = true → -4500000000000 ≤ y) := fun hg y hy hx => prev_lo (okS_of_VB hg) hy ((lineB_iff x).1 hx).1
  generalize VB s = vb at *
  obtain ⟨lx, hlx⟩ : ∃ lx, lineB x = lx := ⟨_, rfl⟩
  rw [hlx] at HL
  have HLX := Lib.hid hlx
  clear hlx

  have HR0 := Lib.hid h
  obtain ⟨a1, n1, rfl⟩ := h.1.form
  obtain ⟨a2, n2, rfl⟩ := h.2.1.form
  obtain ⟨a3, n3, rfl⟩ := h.2.2.form
  clear h
  obtain ⟨W, hWe⟩ : ∃ W, w.alloc (.cells #[.int .i64 s.lf.1, .slice a1 s.lf.2.length n1, .int .i64 s.rt.1, .slice a2 s.rt.2.length n2, .int .i64 s.fr, .int .i64 s.to, .slice a3 s.l.length n3] 26) = W := ⟨_, rfl⟩
  have hW : Below w.heap.size w W := by rw [← hWe]; exact (Below.refl _ w).alloc (Nat.le_refl _) _
  have HX : Hid (Set7 W w.heap.size (.int .i64 s.lf.1) (.slice a1 s.lf.2.length n1) (.int .i64 s.rt.1) (.slice a2 s.rt.2.length n2) (.int .i64 s.fr) (.int .i64 s.to) (.slice a3 s.l.length n3)) := by
    rw [← hWe]
    refine ⟨⟨?_, ?_, ?_, ?_, ?_, ?_, ?_⟩, ?_, ?_, ?_, ?_, ?_, ?_, ?_⟩ <;> simp [go_sem]
  have HR := Lib.hid (keepSt hW HR0.out)
  have HE := Lib.hid hWe
  clear hWe HR0
  obtain ⟨⟨B0, B1, B2, B3, B4, B5, B6⟩, _⟩ := HX.out
  go_enter Tryz.func43, Tryz.ntmps43
  go_wp2_with fail
  rw [HE.out]

  go_wp2_with fail
  refine (HL.out _).mono ?_
  rintro e w0 ⟨rfl, rfl⟩
  cases lx with
  | false =>
    go_wp2
    go_ret2
    exact ⟨none, by unfold PvSpec; rw [if_pos (.inl HLX.out)], rfl, hW⟩

  | true =>
  go_wp2_with fail
  refine (HV.out _ HR.out).mono ?_
  rintro e w1 ⟨rfl, hb1⟩
  have HX1 := Lib.hid (HX.out.below hb1)
  have HR1 := Lib.hid (keepSt hb1 HR.out)
  have hB1 := keepBelow hW hb1
  clear hb1 B0 B1 B2 B3 B4 B5 B6 HX HR HE HV
  obtain ⟨⟨B0, B1, B2, B3, B4, B5, B6⟩, _⟩ := HX1.out

  cases vb with
  | false =>
    go_wp2
    go_ret2
    exact ⟨none, by unfold PvSpec; rw [if_pos (.inr rfl)], rfl, hB1⟩

  | true =>
  have hln := (lineB_iff x).1 HLX.out
  have HO : Hid (¬ (lineB x = false ∨ true = false)) := by unfold Hid; rw [HLX.out]; simp
  have HA2 := Lib.hid (fun W hh => HAF.out (by first | rfl | trivial) W hh (by omega) (by omega))
  have HH2 := Lib.hid (fun W hh => HH.out (by first | rfl | trivial) W hh (by omega) (by omega))
  go_wp2_with fail
  refine (HH2.out _ HR1.out).mono ?_
  rintro e w2 ⟨rfl, hb2⟩
  have HX2 := Lib.hid (HX1.out.below hb2)
  have HR2 := Lib.hid (keepSt hb2 HR1.out)
  have hB2 := keepBelow hB1 hb2
  clear hb2 B0 B1 B2 B3 B4 B5 B6 HX1 HR1 
  obtain ⟨⟨B0, B1, B2, B3, B4, B5, B6⟩, _⟩ := HX2.out

  cases hh : hasS s x with
  | true =>
    have HHX := Lib.hid hh
    clear hh
    go_wp2
    go_ret2
    exact ⟨some x, by unfold PvSpec; rw [if_neg HO.out, if_pos HHX.out], rfl, hB2⟩
  | false =>
  have HHX := Lib.hid hh
  clear hh
  go_wp2_with fail
  refine (HA2.out _ HR2.out).mono ?_
  rintro e w3 ⟨q, hq, rfl, hb3⟩
  have HQ := Lib.hid hq
  clear hq
  have HX3 := Lib.hid (HX2.out.below hb3)
  have HR3 := Lib.hid (keepSt hb3 HR2.out)
  have hB3 := keepBelow hB2 hb3
  clear hb3 B0 B1 B2 B3 B4 B5 B6 HX2 HR2 
  obtain ⟨⟨B0, B1, B2, B3, B4, B5, B6⟩, _⟩ := HX3.out

  cases q with
  | none =>
    have HON : Hid ((none : Option Int) = onLineP none) := rfl
    go_wp2
    go_ret2
    exact ⟨none, by unfold PvSpec; rw [if_neg HO.out, if_neg (by rw [HHX.out]; simp)]; exact ⟨none, HQ.out, HON.out⟩, rfl, hB3⟩
  | some y =>
    have hlo := HLO.out (by first | rfl | trivial) y HQ.out HLX.out
    have hup : y ≤ x := HQ.out.1
    have s1 : IntKind.i64.wrap (y - 1) = y - 1 := by rw [IntKind.wrap_i64]; omega
    by_cases hy : y - 1 < -4398046511104
    · have HON : Hid ((none : Option Int) = onLineP (some y)) := by unfold Hid onLineP; simp only [if_pos hy]
      have g1 : decide (y - 1 < -4398046511104) = true := by simpa using hy
      go_wp2
      go_ret2
      exact ⟨none, by unfold PvSpec; rw [if_neg HO.out, if_neg (by rw [HHX.out]; simp)]; exact ⟨some y, HQ.out, HON.out⟩, rfl, hB3⟩
    · have HON : Hid ((some (y - 1) : Option Int) = onLineP (some y)) := by unfold Hid onLineP; simp only [if_neg hy]
      have g1 : decide (y - 1 < -4398046511104) = false := by simpa using hy
      go_wp2
      go_ret2
      exact ⟨some (y - 1), by unfold PvSpec; rw [if_neg HO.out, if_neg (by rw [HHX.out]; simp)]; exact ⟨some y, HQ.out, HON.out⟩, rfl, hB3⟩

end Go.Proofs.YtnjpceocnldlfaaGreat
