import Derived.Test.YtnjpceocnldlfaaGreatWkTn
import Derived.Test.YtnjpceocnldlfaaGreatWkPl
/- timeset: Window, Next, Change; work: Open, Close, Parts. -/
namespace Go.Proofs.YtnjpceocnldlfaaGreat
open Go.RowKit Wk

/-- what Window answers -/
def winM (b : Bool) (s : St) (f t : Int) : List Sp × Int :=
  if b = false ∨ ivB (f, t) = false then ([], 1) else if (memF (hasS s) f (t - f).toNat).length ≤ 2000 then (memF (hasS s) f (t - f).toNat, 0) else ([], 5)
def WiPost (b : Bool) (s : St) (f t : Int) (w : World) (e : Ending) (w' : World) : Prop :=
  ∃ v, e = .returned (.tuple #[v, .int .i64 (winM b s f t).2]) ∧ OwnS w' w.heap.size v (winM b s f t).1 ∧ Below w.heap.size w w'

set_option maxRecDepth 100000 in
set_option maxHeartbeats 4000000 in
theorem window_any (s : St) (vl vr vv : Value) (f t : Int) (w : World) (h : RdSt w s vl vr vv) :
    Calls Tryz.prog 25 #[.agg #[.int .i64 s.lf.1, vl, .int .i64 s.rt.1, vr, .int .i64 s.fr, .int .i64 s.to, vv], .agg #[.int .i64 f, .int .i64 t]] w (WiPost (VB s) s f t w) := by
  have HV := Lib.hid (fun W h => tvalid_any s vl vr vv W h)
  have HI := Lib.hid (fun W => ivalid_any f t W)
  have HM : Hid (VB s = true → ∀ W, RdSt W s vl vr vv → f ≤ t → -1152921504606846976 ≤ f → t ≤ 1152921504606846976 → Calls Tryz.prog 71 #[.iface 82 (.agg #[.int .i64 s.lf.1, vl, .int .i64 s.rt.1, vr, .int .i64 s.fr, .int .i64 s.to, vv]), .int .i64 f, .int .i64 t] W (MePost (hasS s) f t W)) :=
    fun hg W h h1 h2 h3 => members_any _ _ _ _ _ f t W (srcA_whole s vl vr vv W h (okS_of_VB hg)) h1 h2 h3
  generalize VB s = vb at *
  obtain ⟨iv, hiv⟩ : ∃ iv, ivB (f, t) = iv := ⟨_, rfl⟩
  rw [hiv] at HI
  have HIV := Lib.hid hiv
  clear hiv

  have HR0 := Lib.hid h
  obtain ⟨a1, n1, rfl⟩ := h.1.form
  obtain ⟨a2, n2, rfl⟩ := h.2.1.form
  obtain ⟨a3, n3, rfl⟩ := h.2.2.form
  clear h
  obtain ⟨W, hWe⟩ : ∃ W, (w.alloc (.cells #[.int .i64 s.lf.1, .slice a1 s.lf.2.length n1, .int .i64 s.rt.1, .slice a2 s.rt.2.length n2, .int .i64 s.fr, .int .i64 s.to, .slice a3 s.l.length n3] 26)).alloc (.cells #[.int .i64 f, .int .i64 t] 40) = W := ⟨_, rfl⟩
  have hW : Below w.heap.size w W := by rw [← hWe]; exact ((Below.refl _ w).alloc (Nat.le_refl _) _).alloc (by simp) _
  have HX : Hid (Set7 W w.heap.size (.int .i64 s.lf.1) (.slice a1 s.lf.2.length n1) (.int .i64 s.rt.1) (.slice a2 s.rt.2.length n2) (.int .i64 s.fr) (.int .i64 s.to) (.slice a3 s.l.length n3) ∧ W.cell? ⟨w.heap.size + 1, 0, none⟩ = some (.int .i64 f) ∧ W.cell? ⟨w.heap.size + 1, 1, none⟩ = some (.int .i64 t)) := by
    rw [← hWe]
    refine ⟨⟨⟨?_, ?_, ?_, ?_, ?_, ?_, ?_⟩, ?_, ?_, ?_, ?_, ?_, ?_, ?_⟩, ?_, ?_⟩ <;> simp [go_sem]
  have HR := Lib.hid (keepSt hW HR0.out)
  have HE := Lib.hid hWe
  clear hWe HR0
  obtain ⟨⟨⟨B0, B1, B2, B3, B4, B5, B6⟩, _⟩, S0, S1⟩ := HX.out
  go_enter Tryz.func25, Tryz.ntmps25
  go_wp2_with fail
  rw [HE.out]

  go_wp2_with fail
  refine (HV.out _ HR.out).mono ?_
  rintro e w1 ⟨rfl, hb1⟩
  have HX1 : Hid (_ ∧ _ ∧ _) := ⟨HX.out.1.below hb1, keepCell hb1 HX.out.2.1, keepCell hb1 HX.out.2.2⟩
  have HR1 := Lib.hid (keepSt hb1 HR.out)
  have hB1 := keepBelow hW hb1
  clear hb1 B0 B1 B2 B3 B4 B5 B6 S0 S1 HX HR HE HV
  obtain ⟨⟨⟨B0, B1, B2, B3, B4, B5, B6⟩, _⟩, S0, S1⟩ := HX1.out

  cases vb with
  | false =>
    have HQ : Hid (winM false s f t = ([], 1)) := by unfold Hid winM; rw [if_pos (.inl rfl)]
    go_wp2
    go_ret2
    exact ⟨.slice none 0 0, by rw [HQ.out]; rfl, by rw [HQ.out]; exact OwnS.nil _ _, hB1⟩

  | true =>
  go_wp2_with fail
  refine (HI.out _).mono ?_
  rintro e w2 ⟨rfl, hb2⟩
  have HX2 : Hid (_ ∧ _ ∧ _) := ⟨HX1.out.1.below hb2, keepCell hb2 HX1.out.2.1, keepCell hb2 HX1.out.2.2⟩
  have HR2 := Lib.hid (keepSt hb2 HR1.out)
  have hB2 := keepBelow hB1 hb2
  clear hb2 B0 B1 B2 B3 B4 B5 B6 S0 S1 HX1 HR1 HI
  obtain ⟨⟨⟨B0, B1, B2, B3, B4, B5, B6⟩, _⟩, S0, S1⟩ := HX2.out

  cases iv with
  | false =>
    have HQ : Hid (winM true s f t = ([], 1)) := by unfold Hid winM; rw [if_pos (.inr HIV.out)]
    go_wp2
    go_ret2
    exact ⟨.slice none 0 0, by rw [HQ.out]; rfl, by rw [HQ.out]; exact OwnS.nil _ _, hB2⟩

  | true =>
  have hivb := (ivB_iff (f, t)).1 HIV.out
  simp only at hivb
  have HO1 : Hid (¬ (true = false ∨ ivB (f, t) = false)) := by unfold Hid; rw [HIV.out]; simp
  have HMM := HM.out (by first | rfl | trivial)
  have hws := hB2.size
  go_wp2_with fail
  refine (HMM _ HR2.out (by omega) (by omega) (by omega)).mono ?_
  rintro e w3 ⟨v, rfl, ho, hb3⟩
  have HX3 : Hid (_ ∧ _ ∧ _) := ⟨HX2.out.1.below hb3, keepCell hb3 HX2.out.2.1, keepCell hb3 HX2.out.2.2⟩
  have HR3 := Lib.hid (keepSt hb3 HR2.out)
  have hB3 := keepBelow hB2 hb3
  clear hb3 B0 B1 B2 B3 B4 B5 B6 S0 S1 HX2 HR2 
  obtain ⟨⟨⟨B0, B1, B2, B3, B4, B5, B6⟩, _⟩, S0, S1⟩ := HX3.out

  by_cases hl : (memF (hasS s) f (t - f).toNat).length ≤ 2000
  · have HQ : Hid (winM true s f t = (memF (hasS s) f (t - f).toNat, 0)) := by unfold Hid winM; rw [if_neg HO1.out, if_pos hl]
    have HML : Hid (memL (hasS s) f t = memF (hasS s) f (t - f).toNat) := by unfold Hid memL; rw [if_pos hl]
    have hd : decide ((memF (hasS s) f (t - f).toNat).length ≤ 2000) = true := by simpa using hl
    rw [hd]
    rw [HML.out] at ho
    obtain ⟨av, nv, rfl, _⟩ := ho.form
    clear hl hd
    go_wp2
    go_ret2
    exact ⟨_, by rw [HQ.out]; rfl, by rw [HQ.out]; exact ho.mono hws, hB3⟩
  · have hd : decide ((memF (hasS s) f (t - f).toNat).length ≤ 2000) = false := by simpa using hl
    have HQ : Hid (winM true s f t = ([], 5)) := by unfold Hid winM; rw [if_neg HO1.out, if_neg hl]
    rw [hd]
    obtain ⟨av, nv, rfl, _⟩ := ho.form
    clear hl hd
    go_wp2
    go_ret2
    exact ⟨.slice none 0 0, by rw [HQ.out]; rfl, by rw [HQ.out]; exact OwnS.nil _ _, hB3⟩

end Go.Proofs.YtnjpceocnldlfaaGreat
