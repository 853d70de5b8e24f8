import Derived.Test.YtlbjfbpejomkmaaGreatWkTn
import Derived.Test.YtlbjfbpejomkmaaGreatWkPl
/- timeset: Window, Next, Change; work: Open, Close, Parts. -/
namespace Go.Proofs.YtlbjfbpejomkmaaGreat
open Go.RowKit Wk

def onLine (r : Option Int) : Option Int := match r with | some y => if 4398046511104 < y then none else some y | none => none
def NeSpec (b : Bool) (s : St) (x : Int) (r : Option Int) : Prop :=
 if lineB x = false ∨ b = false then r = none else if hasS s x = true then r = some x else ∃ q, NextC (hasS s) x q ∧ r = onLine q
def ChSpec (b : Bool) (s : St) (x : Int) (r : Option Int) : Prop :=
 if lineB x = false ∨ b = false then r = none else ∃ q, NextC (hasS s) x q ∧ r = onLine q
def OpPost (S : Option Int → Prop) (w : World) (e : Ending) (w' : World) : Prop := ∃ r : Option Int, S r ∧ e = .returned (.tuple #[.int .i64 (r.getD 0), .bool r.isSome]) ∧ Below w.heap.size w w'

set_option maxRecDepth 100000 in
set_option maxHeartbeats 4000000 in
theorem tnext_any (s : St) (vl vr vv : Value) (x : Int) (w : World) (h : RdSt w s vl vr vv) :
  Calls Tryz.prog 103 #[.agg #[.int .i64 s.lf.1, vl, .int .i64 s.rt.1, vr, .int .i64 s.fr, .int .i64 s.to, vv], .int .i64 x] w (OpPost (NeSpec (VB s) s x) w) := by
 have HV := Lib.hid (fun W h => tvalid_any s vl vr vv W h)
 have HL := Lib.hid (fun W => tline_any x W)
 have HH : Hid (VB s = true → ∀ W, RdSt W s vl vr vv → -1152921504606846976 ≤ x → x ≤ 1152921504606846976 → Calls Tryz.prog 124 #[.agg #[.int .i64 s.lf.1, vl, .int .i64 s.rt.1, vr, .int .i64 s.fr, .int .i64 s.to, vv], .int .i64 x] W fun e w' => e = .returned (.bool (hasS s x)) ∧ Below W.heap.size W w') :=
  fun hg W h h1 h2 => whas_any s vl vr vv x W h (okS_of_VB hg) h1 h2
 have HAF : Hid (VB s = true → ∀ W, RdSt W s vl vr vv → -1152921504606846976 ≤ x → x ≤ 1152921504606846976 → Calls Tryz.prog 132 #[.agg #[.int .i64 s.lf.1, vl, .int .i64 s.rt.1, vr, .int .i64 s.fr, .int .i64 s.to, vv], .int .i64 x] W (NxPost (hasS s) x W)) :=
  fun hg W h h1 h2 => wafter_any s vl vr vv x W h (okS_of_VB hg) h1 h2
 generalize VB s = vb at *
 obtain ⟨lx, hlx⟩ : ∃ lx, lineB x = lx := ⟨_, rfl⟩
 rw [hlx] at HL
 have HLX := Lib.hid hlx
 clear hlx

 have HR0 := Lib.hid h
 obtain ⟨a1, n1, rfl⟩ := h.1.form
 obtain ⟨a2, n2, rfl⟩ := h.2.1.form
 obtain ⟨a3, n3, rfl⟩ := h.2.2.form
 clear h
 obtain ⟨W, hWe⟩ : ∃ W, w.alloc (.cells #[.int .i64 s.lf.1, .slice a1 s.lf.2.length n1, .int .i64 s.rt.1, .slice a2 s.rt.2.length n2, .int .i64 s.fr, .int .i64 s.to, .slice a3 s.l.length n3] 54) = W := ⟨_, rfl⟩
 have hW : Below w.heap.size w W := by rw [← hWe]; exact (Below.refl _ w).alloc (Nat.le_refl _) _
 have HX : Hid (Set7 W w.heap.size (.int .i64 s.lf.1) (.slice a1 s.lf.2.length n1) (.int .i64 s.rt.1) (.slice a2 s.rt.2.length n2) (.int .i64 s.fr) (.int .i64 s.to) (.slice a3 s.l.length n3)) := by
  rw [← hWe]
  refine ⟨⟨?_, ?_, ?_, ?_, ?_, ?_, ?_⟩, ?_, ?_, ?_, ?_, ?_, ?_, ?_⟩ <;> simp [go_sem]
 have HR := Lib.hid (keepSt hW HR0.out)
 have HE := Lib.hid hWe
 clear hWe HR0
 obtain ⟨⟨B0, B1, B2, B3, B4, B5, B6⟩, _⟩ := HX.out
 go_enter Tryz.func103, Tryz.ntmps103
 go_wp2_with fail
 rw [HE.out]

 go_wp2_with fail
 refine (HL.out _).mono ?_
 rintro e w0 ⟨rfl, rfl⟩
 cases lx with
 | false =>
  go_wp2
  go_ret2
  exact ⟨none, by unfold NeSpec; rw [if_pos (.inl HLX.out)], rfl, hW⟩

 | true =>
 go_wp2_with fail
 refine (HV.out _ HR.out).mono ?_
 rintro e w1 ⟨rfl, hb1⟩
 have HX1 := Lib.hid (HX.out.below hb1)
 have HR1 := Lib.hid (keepSt hb1 HR.out)
 have hB1 := keepBelow hW hb1
 clear hb1 B0 B1 B2 B3 B4 B5 B6 HX HR HE HV
 obtain ⟨⟨B0, B1, B2, B3, B4, B5, B6⟩, _⟩ := HX1.out

 cases vb with
 | false =>
  go_wp2
  go_ret2
  exact ⟨none, by unfold NeSpec; rw [if_pos (.inr rfl)], rfl, hB1⟩

 | true =>
 have hln := (lineB_iff x).1 HLX.out
 have HO : Hid (¬ (lineB x = false ∨ true = false)) := by unfold Hid; rw [HLX.out]; simp
 have HA2 := Lib.hid (fun W hh => HAF.out (by first | rfl | trivial) W hh (by omega) (by omega))
 have HH2 := Lib.hid (fun W hh => HH.out (by first | rfl | trivial) W hh (by omega) (by omega))
 go_wp2_with fail
 refine (HH2.out _ HR1.out).mono ?_
 rintro e w2 ⟨rfl, hb2⟩
 have HX2 := Lib.hid (HX1.out.below hb2)
 have HR2 := Lib.hid (keepSt hb2 HR1.out)
 have hB2 := keepBelow hB1 hb2
 clear hb2 B0 B1 B2 B3 B4 B5 B6 HX1 HR1 
 obtain ⟨⟨B0, B1, B2, B3, B4, B5, B6⟩, _⟩ := HX2.out

 cases hh : hasS s x with
 | true =>
  have HHX := Lib.hid hh
  clear hh
  go_wp2
  go_ret2
  exact ⟨some x, by unfold NeSpec; rw [if_neg HO.out, if_pos HHX.out], rfl, hB2⟩
 | false =>
 have HHX := Lib.hid hh
 clear hh
 go_wp2_with fail
 refine (HA2.out _ HR2.out).mono ?_
 rintro e w3 ⟨q, hq, rfl, hb3⟩
 have HQ := Lib.hid hq
 clear hq
 have HX3 := Lib.hid (HX2.out.below hb3)
 have HR3 := Lib.hid (keepSt hb3 HR2.out)
 have hB3 := keepBelow hB2 hb3
 clear hb3 B0 B1 B2 B3 B4 B5 B6 HX2 HR2 
 obtain ⟨⟨B0, B1, B2, B3, B4, B5, B6⟩, _⟩ := HX3.out

 cases q with
 | none =>
  have HON : Hid ((none : Option Int) = onLine none) := rfl
  go_wp2
  go_ret2
  exact ⟨none, by unfold NeSpec; rw [if_neg HO.out, if_neg (by rw [HHX.out]; simp)]; exact ⟨none, HQ.out, HON.out⟩, rfl, hB3⟩
 | some y =>
  by_cases hy : 4398046511104 < y
  ·have HON : Hid ((none : Option Int) = onLine (some y)) := by unfold Hid onLine; simp only [if_pos hy]
   have g1 : decide (4398046511104 < y) = true := by simpa using hy
   go_wp2
   go_ret2
   exact ⟨none, by unfold NeSpec; rw [if_neg HO.out, if_neg (by rw [HHX.out]; simp)]; exact ⟨some y, HQ.out, HON.out⟩, rfl, hB3⟩
  ·have HON : Hid ((some y : Option Int) = onLine (some y)) := by unfold Hid onLine; simp only [if_neg hy]
   have g1 : decide (4398046511104 < y) = false := by simpa using hy
   go_wp2
   go_ret2
   exact ⟨some y, by unfold NeSpec; rw [if_neg HO.out, if_neg (by rw [HHX.out]; simp)]; exact ⟨some y, HQ.out, HON.out⟩, rfl, hB3⟩

def ErrOr (r : Option Int) : Int × Int := match r with | some y => (y, 0) | none => (0, 7)
def OpenP (b : Bool) (s : St) (x : Int) (p : Int × Int) : Prop := if faultM b x ≠ 0 then p = (0, faultM b x) else ∃ r, NeSpec b s x r ∧ p = ErrOr r
def PairPost (S : Int × Int → Prop) (w : World) (e : Ending) (w' : World) : Prop := ∃ p : Int × Int, S p ∧ e = .returned (.tuple #[.int .i64 p.1, .int .i64 p.2]) ∧ Below w.heap.size w w'

set_option maxRecDepth 100000 in
set_option maxHeartbeats 4000000 in
theorem wopen_any (s : St) (vl vr vv : Value) (x : Int) (w : World) (h : RdSt w s vl vr vv) :
  Calls Tryz.prog 65 #[.agg #[.int .i64 s.lf.1, vl, .int .i64 s.rt.1, vr, .int .i64 s.fr, .int .i64 s.to, vv], .int .i64 x] w (PairPost (OpenP (VB s) s x) w) := by
 have HF := Lib.hid (fun W h => wfault_any s vl vr vv x W h)
 have HN := Lib.hid (fun W h => tnext_any s vl vr vv x W h)
 have HH := Lib.hid (fun W h h1 h2 => thas_any s vl vr vv x W h h1 h2)
 generalize VB s = vb at *
 obtain ⟨f, hf⟩ : ∃ f, faultM vb x = f := ⟨_, rfl⟩
 rw [hf] at HF
 have HFE := Lib.hid hf
 clear hf

 have HR0 := Lib.hid h
 obtain ⟨a1, n1, rfl⟩ := h.1.form
 obtain ⟨a2, n2, rfl⟩ := h.2.1.form
 obtain ⟨a3, n3, rfl⟩ := h.2.2.form
 clear h
 obtain ⟨W, hWe⟩ : ∃ W, w.alloc (.cells #[.int .i64 s.lf.1, .slice a1 s.lf.2.length n1, .int .i64 s.rt.1, .slice a2 s.rt.2.length n2, .int .i64 s.fr, .int .i64 s.to, .slice a3 s.l.length n3] 54) = W := ⟨_, rfl⟩
 have hW : Below w.heap.size w W := by rw [← hWe]; exact (Below.refl _ w).alloc (Nat.le_refl _) _
 have HX : Hid (Set7 W w.heap.size (.int .i64 s.lf.1) (.slice a1 s.lf.2.length n1) (.int .i64 s.rt.1) (.slice a2 s.rt.2.length n2) (.int .i64 s.fr) (.int .i64 s.to) (.slice a3 s.l.length n3)) := by
  rw [← hWe]
  refine ⟨⟨?_, ?_, ?_, ?_, ?_, ?_, ?_⟩, ?_, ?_, ?_, ?_, ?_, ?_, ?_⟩ <;> simp [go_sem]
 have HR := Lib.hid (keepSt hW HR0.out)
 have HE := Lib.hid hWe
 clear hWe HR0
 obtain ⟨⟨B0, B1, B2, B3, B4, B5, B6⟩, _⟩ := HX.out
 go_enter Tryz.func65, Tryz.ntmps65
 go_wp2_with fail
 rw [HE.out]

 go_wp2_with fail
 refine (HF.out _ HR.out).mono ?_
 rintro e w1 ⟨rfl, hb1⟩
 have HX1 := Lib.hid (HX.out.below hb1)
 have HR1 := Lib.hid (keepSt hb1 HR.out)
 have hB1 := keepBelow hW hb1
 clear hb1 B0 B1 B2 B3 B4 B5 B6 HX HR HE HF
 obtain ⟨⟨B0, B1, B2, B3, B4, B5, B6⟩, _⟩ := HX1.out

 by_cases hf0 : f ≠ 0
 ·have g1 : (f == 0) = false := by simpa using hf0
  go_wp2
  go_ret2
  exact ⟨(0, f), by unfold OpenP; rw [HFE.out, if_pos hf0], rfl, hB1⟩
 have hf0 : f = 0 := by omega
 subst hf0
 have HNF : Hid (¬ faultM vb x ≠ 0) := by unfold Hid; rw [HFE.out]; simp
 have HX2 := HX1
 have HR2 := HR1
 have hB2 := hB1
 clear HX1 HR1
 go_wp2_with fail
 refine (HN.out _ HR2.out).mono ?_
 rintro e w3 ⟨r, hr, rfl, hb3⟩
 have HRR := Lib.hid hr
 clear hr
 have HX3 := Lib.hid (HX2.out.below hb3)
 have HR3 := Lib.hid (keepSt hb3 HR2.out)
 have hB3 := keepBelow hB2 hb3
 clear hb3 B0 B1 B2 B3 B4 B5 B6 HX2 HR2 
 obtain ⟨⟨B0, B1, B2, B3, B4, B5, B6⟩, _⟩ := HX3.out

 cases r with
 | none =>
  go_wp2
  go_ret2
  exact ⟨(0, 7), by unfold OpenP; rw [if_neg HNF.out]; exact ⟨none, HRR.out, rfl⟩, rfl, hB3⟩
 | some y =>
  go_wp2
  go_ret2
  exact ⟨(y, 0), by unfold OpenP; rw [if_neg HNF.out]; exact ⟨some y, HRR.out, rfl⟩, rfl, hB3⟩

end Go.Proofs.YtlbjfbpejomkmaaGreat
