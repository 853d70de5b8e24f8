import Derived.Test.YtnjpceocnldlfaaGreatWkBf
import Derived.Test.YtnjpceocnldlfaaGreatWkRof
/- The law package's great and large. -/
namespace Go.Proofs.YtnjpceocnldlfaaGreat
open Go.RowKit Wk

def grB (P : Int) (l : List Sp) : Bool := (decide (1048576 < P) && decide (P ≤ 12622780800)) || decide (40 < (l.length : Int))
def lgB (s : St) : Bool := (grB s.lf.1 s.lf.2 || grB s.rt.1 s.rt.2) || decide (40 < (s.l.length : Int))

set_option maxHeartbeats 1000000 in
theorem great_any (P : Int) (v : Value) (l : List Sp) (w : World) (h : RdS w v l) :
    Calls Tryz.prog 34 #[.agg #[.int .i64 P, v]] w fun e w' => e = .returned (.bool (grB P l)) ∧ Below w.heap.size w w' := by
  obtain ⟨a, c, rfl⟩ := h.form
  obtain ⟨W, hWe⟩ : ∃ W, w.alloc (.cells #[.int .i64 P, .slice a l.length c] 24) = W := ⟨_, rfl⟩
  have hB0 : Below w.heap.size w W := by rw [← hWe]; exact (Below.refl _ w).alloc (Nat.le_refl _) _
  have HBX : Hid (Box2 W w.heap.size (.int .i64 P) (.slice a l.length c)) := by unfold Hid; rw [← hWe]; exact box2_new _ _ _ _
  obtain ⟨⟨z0, z1⟩, _⟩ := HBX.out
  have HE := Lib.hid hWe
  clear hWe h
  have HG : Hid (grB P l = ((decide (1048576 < P) && decide (P ≤ 12622780800)) || decide (40 < (l.length : Int)))) := rfl
  generalize grB P l = g at *
  cases g1 : decide (1048576 < P) with
  | false =>
    rw [g1] at HG
    go_enter Tryz.func34, Tryz.ntmps34
    go_wp2_with fail
    rw [HE.out]
    go_wp2
    go_ret
    exact ⟨ret_bool (by rw [HG.out]; simp), hB0⟩
  | true =>
    cases g2 : decide (P ≤ 12622780800) with
    | false =>
      rw [g1, g2] at HG
      go_enter Tryz.func34, Tryz.ntmps34
      go_wp2_with fail
      rw [HE.out]
      go_wp2
      go_ret
      exact ⟨ret_bool (by rw [HG.out]; simp), hB0⟩
    | true =>
      rw [g1, g2] at HG
      go_enter Tryz.func34, Tryz.ntmps34
      go_wp2_with fail
      rw [HE.out]
      go_wp2
      go_ret
      exact ⟨ret_bool (by rw [HG.out]; simp), hB0⟩

set_option maxRecDepth 100000 in
set_option maxHeartbeats 2000000 in
theorem largef_any (s : St) (vl vr vv : Value) (w : World) (h : RdSt w s vl vr vv) :
    Calls Tryz.prog 60 #[.agg #[.int .i64 s.lf.1, vl, .int .i64 s.rt.1, vr, .int .i64 s.fr, .int .i64 s.to, vv]] w fun e w' => e = .returned (.bool (lgB s)) ∧ Below w.heap.size w w' := by
  obtain ⟨⟨P, l⟩, ⟨Q, m⟩, f, t, k⟩ := s
  simp only at h ⊢
  have HG1 := Lib.hid (fun W h => great_any P vl l W h)
  have HG2 := Lib.hid (fun W h => great_any Q vr m W h)
  have HR0 := Lib.hid h
  have HL : Hid (lgB ⟨(P, l), (Q, m), f, t, k⟩ = ((grB P l || grB Q m) || decide (40 < (k.length : Int)))) := rfl
  generalize lgB ⟨(P, l), (Q, m), f, t, k⟩ = g at *
  obtain ⟨g1, hg1⟩ : ∃ g1, grB P l = g1 := ⟨_, rfl⟩
  obtain ⟨g2, hg2⟩ : ∃ g2, grB Q m = g2 := ⟨_, rfl⟩
  rw [hg1] at HG1 HL
  rw [hg2] at HG2 HL
  clear hg1 hg2
  obtain ⟨a1, n1, rfl⟩ := h.1.form
  obtain ⟨a2, n2, rfl⟩ := h.2.1.form
  obtain ⟨a3, n3, rfl⟩ := h.2.2.form
  simp only at HR0 ⊢
  clear h
  obtain ⟨W, hWe⟩ : ∃ W, w.alloc (.cells #[.int .i64 P, .slice a1 l.length n1, .int .i64 Q, .slice a2 m.length n2, .int .i64 f, .int .i64 t, .slice a3 k.length n3] 26) = W := ⟨_, rfl⟩
  have hW : Below w.heap.size w W := by rw [← hWe]; exact (Below.refl _ w).alloc (Nat.le_refl _) _
  have HX : Hid (Set7 W w.heap.size (.int .i64 P) (.slice a1 l.length n1) (.int .i64 Q) (.slice a2 m.length n2) (.int .i64 f) (.int .i64 t) (.slice a3 k.length n3)) := by
    rw [← hWe]
    refine ⟨⟨?_, ?_, ?_, ?_, ?_, ?_, ?_⟩, ?_, ?_, ?_, ?_, ?_, ?_, ?_⟩ <;> simp [go_sem]
  have HR := Lib.hid (keepSt hW HR0.out)
  have HE := Lib.hid hWe
  clear hWe
  obtain ⟨⟨B0, B1, B2, B3, B4, B5, B6⟩, _⟩ := HX.out
  go_enter Tryz.func60, Tryz.ntmps60
  go_wp2_with fail
  rw [HE.out]
  go_wp2_with fail
  refine (HG1.out _ HR.out.1).mono ?_
  rintro e w1 ⟨rfl, hb1⟩
  have HX1 := Lib.hid (HX.out.below hb1)
  have HR1 := Lib.hid (keepSt hb1 HR.out)
  have hB1 := keepBelow hW hb1
  clear hb1 B0 B1 B2 B3 B4 B5 B6 HX HR HE
  obtain ⟨⟨B0, B1, B2, B3, B4, B5, B6⟩, _⟩ := HX1.out
  cases g1 with
  | true =>
    go_wp2
    go_ret
    exact ⟨ret_bool (by rw [HL.out]; simp), hB1⟩
  | false =>
  go_wp2_with fail
  refine (HG2.out _ HR1.out.2.1).mono ?_
  rintro e w2 ⟨rfl, hb2⟩
  have HX2 := Lib.hid (HX1.out.below hb2)
  have hB2 := keepBelow hB1 hb2
  clear hb2 B0 B1 B2 B3 B4 B5 B6 HX1
  obtain ⟨⟨B0, B1, B2, B3, B4, B5, B6⟩, _⟩ := HX2.out
  cases g2 with
  | true =>
    go_wp2
    go_ret
    exact ⟨ret_bool (by rw [HL.out]; simp), hB2⟩
  | false =>
    go_wp2
    go_ret
    exact ⟨ret_bool (by rw [HL.out]; simp), hB2⟩

/-- a set and the values that hold its lists -/
abbrev Sv := St × Value × Value × Value
def RdV (W : World) (x : Sv) : Prop := RdSt W x.1 x.2.1 x.2.2.1 x.2.2.2
/-- a slice of sets -/
def RdT (W : World) (v : Value) (L : List Sv) : Prop := L.length ≤ 1000 ∧ ∃ b c, v = .slice (some ⟨b, 0, none⟩) L.length c ∧ ∀ (i : Nat) (x : Sv), L[i]? = some x → RdV W x ∧
  W.cell? ⟨b, i * 7, none⟩ = some (.int .i64 x.1.lf.1) ∧ W.cell? ⟨b, i * 7 + 1, none⟩ = some x.2.1 ∧ W.cell? ⟨b, i * 7 + 2, none⟩ = some (.int .i64 x.1.rt.1) ∧ W.cell? ⟨b, i * 7 + 3, none⟩ = some x.2.2.1 ∧ W.cell? ⟨b, i * 7 + 4, none⟩ = some (.int .i64 x.1.fr) ∧ W.cell? ⟨b, i * 7 + 5, none⟩ = some (.int .i64 x.1.to) ∧ W.cell? ⟨b, i * 7 + 6, none⟩ = some x.2.2.2
def anyL (L : List Sv) : Bool := L.any fun x => lgB x.1
theorem anyL_iff (L : List Sv) : anyL L = false ↔ ∀ (i : Nat) (x : Sv), L[i]? = some x → lgB x.1 = false := by
  unfold anyL
  rw [List.any_eq_false]
  constructor
  · intro h i x hx
    simpa using h x (List.mem_of_getElem? hx)
  · intro h x hx
    obtain ⟨i, hi⟩ := List.mem_iff_getElem?.1 hx
    simpa using h i x hi

set_option maxRecDepth 100000 in
set_option maxHeartbeats 2000000 in
theorem idxT_any (v : Value) (L : List Sv) (w : World) (h : RdT w v L) :
    Calls Tryz.prog 111 #[v, .func (.func 60) #[] #[]] w fun e w' => (∃ r : Int, e = .returned (.int .i64 r) ∧ (decide (0 ≤ r) = anyL L)) ∧ Below w.heap.size w w' := by
  obtain ⟨hl, b, c, rfl, hc⟩ := h
  have HC := Lib.hid hc
  clear hc
  go_enter Tryz.func111, Tryz.ntmps111
  go_wp2_with fail
  go_loopw [8] (fun u wr => ∃ k : Nat, u = .int .i64 k ∧ k ≤ L.length ∧ Hid (∀ (i : Nat) (x : Sv), i < k → L[i]? = some x → lgB x.1 = false) ∧ Below w.heap.size w wr) (fun u _ => L.length - (intOf u).toNat)
  case atStart => exact ⟨0, rfl, Nat.zero_le _, fun i x hi => by omega, Below.refl _ _⟩
  case round =>
    obtain ⟨k, rfl, hk, HZ, hB⟩ := hrel
    by_cases hlt : k < L.length
    · obtain ⟨x, hx⟩ : ∃ x, L[k]? = some x := ⟨_, List.getElem?_eq_getElem hlt⟩
      obtain ⟨hr, q0, q1, q2, q3, q4, q5, q6⟩ := HC.out k x hx
      have HX := Lib.hid hx
      have hr1 := keepSt hB hr
      have HF := Lib.hid (largef_any x.1 x.2.1 x.2.2.1 x.2.2.2 wr hr1)
      obtain ⟨a1, n1, e1⟩ := hr.1.form
      obtain ⟨a2, n2, e2⟩ := hr.2.1.form
      obtain ⟨a3, n3, e3⟩ := hr.2.2.form
      rw [e1] at q1 HF
      rw [e2] at q3 HF
      rw [e3] at q6 HF
      have p0 := keepCell hB q0
      have p1 := keepCell hB q1
      have p2 := keepCell hB q2
      have p3 := keepCell hB q3
      have p4 := keepCell hB q4
      have p5 := keepCell hB q5
      have p6 := keepCell hB q6
      clear hx hr hr1 e1 e2 e3 q0 q1 q2 q3 q4 q5 q6
      obtain ⟨g, hg⟩ : ∃ g, lgB x.1 = g := ⟨_, rfl⟩
      rw [hg] at HF
      have HG := Lib.hid hg
      clear hg
      go_wp2_with fail
      refine HF.out.mono ?_
      rintro e w1 ⟨rfl, hb1⟩
      have hB1 := keepBelow hB hb1
      clear p0 p1 p2 p3 p4 p5 p6
      cases g with
      | false =>
        go_wp2
        go_roundw
        case rel =>
          refine ⟨k + 1, by go_num, by omega, fun i y hi hy => ?_, hB1⟩
          rcases Nat.lt_succ_iff_lt_or_eq.1 hi with h | rfl
          · exact HZ.out i y h hy
          · rw [HX.out] at hy
            cases hy
            exact HG.out
        case measure => simp [intOf]; omega
      | true =>
        have hA : anyL L = true := by
          cases hA : anyL L with
          | true => rfl
          | false => have := (anyL_iff L).1 hA k x HX.out; rw [HG.out] at this; cases this
        go_wp2
        go_ret
        exact ⟨⟨k, rfl, by rw [hA]; simp⟩, hB1⟩
    · have hA : anyL L = false := (anyL_iff L).2 fun i x hx => HZ.out i x (by
        have := (List.getElem?_eq_some_iff.1 hx).1
        omega) hx
      go_wp2
      go_ret
      exact ⟨⟨-1, rfl, by rw [hA]; simp⟩, hB⟩
theorem conT_any (v : Value) (L : List Sv) (w : World) (h : RdT w v L) :
    Calls Tryz.prog 59 #[v, .func (.func 60) #[] #[]] w fun e w' => e = .returned (.bool (anyL L)) ∧ Below w.heap.size w w' := by
  have H := Lib.hid (fun W h => idxT_any v L W h)
  have HD := Lib.hid h
  obtain ⟨_, b, c, rfl, _⟩ := h
  go_enter Tryz.func59, Tryz.ntmps59
  go_wp2_with fail
  refine (H.out _ HD.out).mono ?_
  rintro e w1 ⟨⟨r, rfl, hr⟩, hb1⟩
  have HRR := Lib.hid hr
  clear hr
  go_wp2
  go_ret
  exact ⟨ret_bool HRR.out, hb1⟩
theorem large14_any (v : Value) (L : List Sv) (w : World) (h : RdT w v L) :
    Calls Tryz.prog 15 #[v] w fun e w' => e = .returned (.bool (anyL L)) ∧ Below w.heap.size w w' := by
  have H := Lib.hid (fun W h => conT_any v L W h)
  have HD := Lib.hid h
  obtain ⟨_, b, c, rfl, _⟩ := h
  go_enter Tryz.func15, Tryz.ntmps15
  go_wp2_with fail
  refine (H.out _ HD.out).mono ?_
  rintro e w1 ⟨rfl, hb1⟩
  go_wp2
  go_ret
  exact ⟨rfl, hb1⟩
end Go.Proofs.YtnjpceocnldlfaaGreat
