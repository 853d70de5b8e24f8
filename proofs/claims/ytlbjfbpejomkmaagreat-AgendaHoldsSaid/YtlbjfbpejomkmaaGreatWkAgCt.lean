import Derived.Test.YtlbjfbpejomkmaaGreatWkAgQi
import Derived.Test.YtlbjfbpejomkmaaGreatWkAgQd
import Derived.Test.YtlbjfbpejomkmaaGreatWkRfE
/- Agenda: the reference's Count. -/
namespace Go.Proofs.YtlbjfbpejomkmaaGreat
open Go.RowKit Wk

def CtR (s : St) (f t most n : Int) : Prop := ∃ y, f ≤ y ∧ y ≤ t ∧ n = potS s y - potS s f ∧ (y = t ∨ (hasS s y = false ∧ most < n)) ∧ ∀ z, f ≤ z → z < y → hasS s z = false → potS s z - potS s f ≤ most
theorem ct_uniq {s : St} {f t most n m : Int} (h : CtR s f t most n) (g : CtR s f t most m) : n = m := by
 obtain ⟨y, a1, a2, a3, a4, a5⟩ := h
 obtain ⟨x, b1, b2, b3, b4, b5⟩ := g
 rcases Int.lt_trichotomy x y with e | e | e
 ·rcases b4 with c | ⟨c, d⟩
  ·omega
  ·have := a5 x b1 e c
   omega
 ·subst e
  omega
 ·rcases a4 with c | ⟨c, d⟩
  ·omega
  ·have := b5 y a1 e c
   omega
theorem ct_least {P : Int → Prop} {f : Int} : ∀ (k : Nat), P (f + k) → ∃ y, f ≤ y ∧ y ≤ f + k ∧ P y ∧ ∀ z, f ≤ z → z < y → ¬ P z
 | 0, h => ⟨f, Int.le_refl _, by omega, by simpa using h, fun z a b => by omega⟩
 | k + 1, h => by
  by_cases hc : ∃ j : Nat, j ≤ k ∧ P (f + j)
  ·obtain ⟨j, hj, hp⟩ := hc
   have : ∀ (m : Nat), m ≤ k → P (f + m) → ∃ y, f ≤ y ∧ y ≤ f + m ∧ P y ∧ ∀ z, f ≤ z → z < y → ¬ P z := fun m hm => ct_least m
   obtain ⟨y, a, b, c, d⟩ := ct_least j hp
   exact ⟨y, a, by omega, c, d⟩
  ·refine ⟨f + (k + 1 : Nat), by omega, by omega, h, fun z a b hz => hc ⟨(z - f).toNat, by omega, ?_⟩⟩
   rw [show f + ((z - f).toNat : Int) = z by omega]
   exact hz
termination_by k => k
decreasing_by all_goals omega
theorem ct_ex (s : St) {f t : Int} (most : Int) (h : f ≤ t) : ∃ n, CtR s f t most n := by
 obtain ⟨y, a, b, c, d⟩ := ct_least (P := fun y => y = t ∨ (hasS s y = false ∧ most < potS s y - potS s f)) (f := f) (t - f).toNat (Or.inl (by omega))
 refine ⟨_, y, a, by omega, rfl, c, fun z h1 h2 h3 => ?_⟩
 have := d z h1 h2
 rw [not_or, not_and] at this
 have := this.2 h3
 omega
theorem pot_le {s : St} (h : GoodS s) {x y : Int} (hxy : x ≤ y) : 0 ≤ potS s y - potS s x ∧ potS s y - potS s x ≤ y - x := by
 have := (potS_steps h).mono x y hxy
 omega

theorem ct_no {s : St} {f t most n : Int} (hg : GoodS s) (h : CtR s f t most n) : (n = most) ↔ (potS s t - potS s f = most) := by
 obtain ⟨y, a1, a2, a3, a4, a5⟩ := h
 have := (pot_le hg a2).1
 rcases a4 with rfl | ⟨_, c⟩ <;> omega

set_option maxRecDepth 100000 in
set_option maxHeartbeats 4000000 in
theorem count48_any (s : St) (vl vr vv : Value) (f t most : Int) (w : World) (h : RdSt w s vl vr vv) (hb : VB s = true) (hf : -4398046511104 ≤ f) (hft : f ≤ t) (ht : t ≤ 4398046511104) (hm : 0 ≤ most) :
  Calls Tryz.prog 52 #[.agg #[.int .i64 s.lf.1, vl, .int .i64 s.rt.1, vr, .int .i64 s.fr, .int .i64 s.to, vv], .agg #[.int .i64 f, .int .i64 t], .int .i64 most] w fun e w' => ∃ n, CtR s f t most n ∧ e = .returned (.int .i64 n) ∧ Below w.heap.size w w' := by
 have HG := Lib.hid (okS_of_VB hb).good
 have HO := Lib.hid (okS_of_VB hb)
 have HH := Lib.hid (fun x W h h1 h2 => has14_any s vl vr vv x W h HO.out h1 h2)
 have HN := Lib.hid (fun x W h => next14_any s vl vr vv x W h HO.out)
 have HC := Lib.hid (fun x W h => change14_any s vl vr vv x W h HO.out)
 have HR0 := Lib.hid h
 obtain ⟨a1, n1, rfl⟩ := h.1.form
 obtain ⟨a2, n2, rfl⟩ := h.2.1.form
 obtain ⟨a3, n3, rfl⟩ := h.2.2.form
 clear h hb
 obtain ⟨W, hWe⟩ : ∃ W, (w.alloc (.cells #[.int .i64 s.lf.1, .slice a1 s.lf.2.length n1, .int .i64 s.rt.1, .slice a2 s.rt.2.length n2, .int .i64 s.fr, .int .i64 s.to, .slice a3 s.l.length n3] 54)).alloc (.cells #[.int .i64 f, .int .i64 t] 46) = W := ⟨_, rfl⟩
 have hW : Below w.heap.size w W := by rw [← hWe]; exact ((Below.refl _ w).alloc (Nat.le_refl _) _).alloc (by simp) _
 have HX : Hid (Set7 W w.heap.size (.int .i64 s.lf.1) (.slice a1 s.lf.2.length n1) (.int .i64 s.rt.1) (.slice a2 s.rt.2.length n2) (.int .i64 s.fr) (.int .i64 s.to) (.slice a3 s.l.length n3)) := by
  rw [← hWe]
  refine ⟨⟨?_, ?_, ?_, ?_, ?_, ?_, ?_⟩, ?_, ?_, ?_, ?_, ?_, ?_, ?_⟩ <;> simp [go_sem]
 have HZ : Hid (BoxS W (w.heap.size + 1) f t) := by
  rw [← hWe]
  refine ⟨?_, ?_, ?_, ?_⟩ <;> simp [go_sem]
 have HR := Lib.hid (keepSt hW HR0.out)
 have HE := Lib.hid hWe
 have HB := Lib.hid hW
 have hD := pot_le HG.out hft
 obtain ⟨D, hDe⟩ : ∃ D, potS s t - potS s f = D := ⟨_, rfl⟩
 rw [hDe] at hD
 have HD := Lib.hid hD
 have HDE := Lib.hid hDe
 clear hWe HR0 hW hD hDe
 go_enter Tryz.func52, Tryz.ntmps52
 go_upto_region 1 with fail
 rw [HE.out]
 clear HE
 obtain ⟨Z0, Z1, -⟩ := HZ.out
 go_wp2_with fail
 clear Z0 Z1
 go_loopw [7, 8] (fun u7 u8 wr => ∃ n x : Int, u7 = .int .i64 n ∧ u8 = .int .i64 x ∧ f ≤ x ∧ x ≤ 4398046511104 ∧ 0 ≤ n ∧ n ≤ 8796093022208 ∧ Hid (x ≤ t → n = potS s x - potS s f) ∧ Hid (t ≤ x → n = D) ∧ Hid (∀ z, f ≤ z → z < x → z < t → hasS s z = false → potS s z - potS s f ≤ most) ∧ Hid (t ≤ x ∨ hasS s x = false ∨ n ≤ most) ∧ Hid (Below W.heap.size W wr)) (fun _ u8 _ => (4398046511104 - intOf u8).toNat)
 case atStart => exact ⟨0, f, rfl, rfl, Int.le_refl _, by omega, by omega, by omega, fun _ => by omega, fun h => (by have h1 := HDE.out; have h2 : f = t := (by omega); rw [← h2] at h1; omega), fun z a b => by omega, Or.inr (Or.inr hm), Below.refl _ _⟩
 case round =>
  obtain ⟨n, x, rfl, rfl, hx1, hx2, hn0, hn1, HL1, HL2, HL3, HL4, HBr⟩ := hrel
  have HX2 := Lib.hid (HX.out.below HBr.out)
  have HZ2 := Lib.hid (HZ.out.below HBr.out)
  have HR2 := Lib.hid (keepSt HBr.out HR.out)
  by_cases hxt : t ≤ x
  ·have g0 : decide (x < t) = false := by simp; omega
   have HE := Lib.hid (keepBelow HB.out HBr.out)
   have HN2 : Hid (CtR s f t most n) := ⟨t, hft, Int.le_refl _, by rw [HL2.out hxt]; exact HDE.out.symm, Or.inl rfl, fun z a b => HL3.out z a (by omega) b⟩
   clear hxt
   obtain ⟨Z0, Z1, -⟩ := HZ2.out
   go_wp2
   go_ret
   exact ⟨n, HN2.out, rfl, HE.out⟩
  have hxt : x < t := by omega
  have g0 : decide (x < t) = true := by simpa using hxt
  have hnx := HL1.out (by omega)
  have hnD : n ≤ D := by
   have := (pot_le HG.out (x := x) (y := t) (by omega)).1
   have := HDE.out
   omega
  by_cases hnm : most < n
  ·have g1 : decide (n ≤ most) = false := by simp; omega
   have HE := Lib.hid (keepBelow HB.out HBr.out)
   have HN2 : Hid (CtR s f t most n) := ⟨x, hx1, by omega, hnx, Or.inr ⟨by rcases HL4.out with g | g | g; omega; exact g; omega, hnm⟩, fun z a b => HL3.out z a b (by omega)⟩
   clear hxt hnm hnx hnD
   obtain ⟨Z0, Z1, -⟩ := HZ2.out
   go_wp2
   go_ret
   exact ⟨n, HN2.out, rfl, HE.out⟩
  have g1 : decide (n ≤ most) = true := by simp; omega
  have HLX : Hid (lineB x = true) := (lineB_iff x).2 ⟨by omega, hx2⟩
  have HNX := Lib.hid hnx
  have HNM : Hid (n ≤ most) := by unfold Hid; omega
  have HXT := Lib.hid hxt
  clear hnm hnx hnD hxt
  obtain ⟨⟨A0, A1, A2, A3, A4, A5, A6⟩, -⟩ := HX2.out
  obtain ⟨Z0, Z1, -⟩ := HZ2.out
  go_wp2_with fail
  refine (HH.out _ _ HR2.out (by omega) (by omega)).mono ?_
  rintro e w3 ⟨rfl, hb3⟩
  have HX3 := Lib.hid (HX2.out.below hb3)
  have HZ3 := Lib.hid (HZ2.out.below hb3)
  have HR3 := Lib.hid (keepSt hb3 HR2.out)
  have HBR := Lib.hid (keepBelow HBr.out hb3)
  clear hb3 A0 A1 A2 A3 A4 A5 A6 Z0 Z1 HX2 HZ2 HR2
  obtain ⟨⟨A0, A1, A2, A3, A4, A5, A6⟩, -⟩ := HX3.out
  cases hhx : hasS s x with
  | false =>
   have HHX := Lib.hid hhx
   clear hhx
   go_wp2_with fail
   refine (HN.out _ _ HR3.out).mono ?_
   rintro e w4 ⟨q, hq, rfl, hb4⟩
   have HQ := Lib.hid (ne_step HLX.out hq)
   have HBR4 := Lib.hid (keepBelow HBR.out hb4)
   clear hb4 hq A0 A1 A2 A3 A4 A5 A6
   rcases HQ.out with ⟨rfl, hn⟩ | ⟨y, rfl, hy1, hy2, hy3, hy4⟩
   ·have HE := Lib.hid (keepBelow HB.out HBR4.out)
    have HN2 : Hid (CtR s f t most n) := by
     have h1 := pot_same HG.out (x := x) (y := t) (by have := HXT.out; omega) (fun z a b => hn z a (by omega))
     have h2 := HNX.out
     refine ⟨t, hft, Int.le_refl _, by omega, Or.inl rfl, fun z a b _ => ?_⟩
     have h3 := (pot_le HG.out (x := z) (y := t) (by omega)).1
     have h4 := HNM.out
     omega
    clear hn HQ
    go_wp2
    go_ret
    exact ⟨n, HN2.out, rfl, HE.out⟩
   ·have hxy : x < y := by
     rcases Int.lt_or_eq_of_le hy1 with g | g
     ·exact g
     ·rw [← g, HHX.out] at hy3; cases hy3
    have HY1 : Hid (y ≤ t → n = potS s y - potS s f) := fun _ => by
     have h1 := pot_same HG.out hy1 hy4
     have h2 := HNX.out
     omega
    have HY2 : Hid (t ≤ y → n = D) := fun hty => by
     have h1 := pot_same HG.out (x := x) (y := t) (by have := HXT.out; omega) (fun z a b => hy4 z a (by omega))
     have h2 := HNX.out
     have h3 := HDE.out
     omega
    have HY3 : Hid (∀ z, f ≤ z → z < y → z < t → hasS s z = false → potS s z - potS s f ≤ most) := fun z a b c d => by
     by_cases hzx : z < x
     ·exact HL3.out z a hzx c d
     ·have h1 := pot_same HG.out (x := x) (y := z) (by omega) (fun u p q => hy4 u p (by omega))
      have h2 := HNX.out
      have h3 := HNM.out
      omega
    have HY4 : Hid (t ≤ y ∨ hasS s y = false ∨ n ≤ most) := Or.inr (Or.inr HNM.out)
    clear hy3 hy4 HQ
    go_wp2
    go_roundw
    case rel => exact ⟨n, y, rfl, rfl, by omega, hy2, hn0, hn1, HY1.out, HY2.out, HY3.out, HY4.out, HBR4.out⟩
    case measure => simp [intOf]; omega
  | true =>
   have HHX := Lib.hid hhx
   clear hhx
   go_wp2_with fail
   refine (HC.out _ _ HR3.out).mono ?_
   rintro e w4 ⟨q, hq, rfl, hb4⟩
   have HQ := Lib.hid (ch_step HLX.out HHX.out hq)
   have HZ4 := Lib.hid (HZ3.out.below hb4)
   have HBR4 := Lib.hid (keepBelow HBR.out hb4)
   clear hb4 hq A0 A1 A2 A3 A4 A5 A6
   have hxt := HXT.out
   have HTO : Hid ((∀ z, x ≤ z → z < t → hasS s z = true) → n + t - x = D ∧ n + t - x ≤ 8796093022208 ∧ (t ≤ t → n + t - x = potS s t - potS s f)) := fun hz => by
    have h1 := pot_full HG.out (x := x) (y := t) (by omega) hz
    have h2 := HNX.out
    have h3 := HDE.out
    have h4 := HD.out
    omega
   rcases HQ.out with ⟨rfl, hn⟩ | ⟨c, rfl, hc1, hc2, hc3, hc4⟩
   ·have hh := HTO.out fun z a b => hn z a (by omega)
    obtain ⟨h1, h2, h3⟩ := hh
    have HY1 : Hid (t ≤ t → n + t - x = potS s t - potS s f) := h3
    have HY2 : Hid (t ≤ t → n + t - x = D) := fun _ => h1
    have HY3 : Hid (∀ z, f ≤ z → z < t → z < t → hasS s z = false → potS s z - potS s f ≤ most) := fun z a b c d => by
     by_cases hzx : z < x
     ·exact HL3.out z a hzx c d
     ·rw [hn z (by omega) (by omega)] at d; cases d
    clear hn HQ h1 h3
    obtain ⟨Z0, Z1, -⟩ := HZ4.out
    go_wp2
    go_roundw
    case rel => exact ⟨n + t - x, t, by first | rfl | go_num, rfl, by omega, ht, by omega, h2, HY1.out, HY2.out, HY3.out, Or.inl (Int.le_refl _), HBR4.out⟩
    case measure => simp [intOf]; omega
   ·by_cases hct : t < c
    ·have g3 : decide (t < c) = true := by simpa using hct
     have hh := HTO.out fun z a b => hc4 z a (by omega)
     obtain ⟨h1, h2, h3⟩ := hh
     have HY1 : Hid (t ≤ t → n + t - x = potS s t - potS s f) := h3
     have HY2 : Hid (t ≤ t → n + t - x = D) := fun _ => h1
     have HY3 : Hid (∀ z, f ≤ z → z < t → z < t → hasS s z = false → potS s z - potS s f ≤ most) := fun z a b c d => by
      by_cases hzx : z < x
      ·exact HL3.out z a hzx c d
      ·rw [hc4 z (by omega) (by omega)] at d; cases d
     clear hc3 hc4 HQ h1 h3
     obtain ⟨Z0, Z1, -⟩ := HZ4.out
     go_wp2
     go_roundw
     case rel => exact ⟨n + t - x, t, by first | rfl | go_num, rfl, by omega, ht, by omega, h2, HY1.out, HY2.out, HY3.out, Or.inl (Int.le_refl _), HBR4.out⟩
     case measure => simp [intOf]; omega
    ·have g3 : decide (t < c) = false := by simpa using hct
     have h5 := pot_full HG.out (x := x) (y := c) (by omega) hc4
     have h6 := (pot_le HG.out (x := f) (y := c) (by omega)).2
     have h7 := HNX.out
     have h8 : n + c - x = potS s c - potS s f := by omega
     have h9 : n + c - x ≤ 8796093022208 := by omega
     have HY1 : Hid (c ≤ t → n + c - x = potS s c - potS s f) := fun _ => h8
     have HY2 : Hid (t ≤ c → n + c - x = D) := fun h => by
      have he : c = t := by omega
      rw [he] at h8 ⊢
      rw [h8]
      exact HDE.out
     have HY3 : Hid (∀ z, f ≤ z → z < c → z < t → hasS s z = false → potS s z - potS s f ≤ most) := fun z a b e d => by
      by_cases hzx : z < x
      ·exact HL3.out z a hzx e d
      ·rw [hc4 z (by omega) (by omega)] at d; cases d
     have HY4 : Hid (hasS s c = false) := hc3
     clear hc3 hc4 HQ h5 h6 h7 h8 hct
     obtain ⟨Z0, Z1, -⟩ := HZ4.out
     go_wp2
     go_roundw
     case rel => exact ⟨n + c - x, c, by first | rfl | go_num, rfl, by omega, hc2, by omega, h9, HY1.out, HY2.out, HY3.out, Or.inr (Or.inl HY4.out), HBR4.out⟩
     case measure => simp [intOf]; omega
theorem count48_val (s : St) (vl vr vv : Value) (f t most : Int) (hb : VB s = true) (hf : -4398046511104 ≤ f) (hft : f ≤ t) (ht : t ≤ 4398046511104) (hm : 0 ≤ most) :
  ∃ n : Int, (n = most ↔ potS s t - potS s f = most) ∧ ∀ w, RdSt w s vl vr vv → Calls Tryz.prog 52 #[.agg #[.int .i64 s.lf.1, vl, .int .i64 s.rt.1, vr, .int .i64 s.fr, .int .i64 s.to, vv], .agg #[.int .i64 f, .int .i64 t], .int .i64 most] w fun e w' => e = .returned (.int .i64 n) ∧ Below w.heap.size w w' := by
 obtain ⟨n, hn⟩ := ct_ex s most hft
 refine ⟨n, ct_no (okS_of_VB hb).good hn, fun w h => (count48_any s vl vr vv f t most w h hb hf hft ht hm).mono ?_⟩
 rintro e w' ⟨m, hm', rfl, hb'⟩
 exact ⟨by rw [ct_uniq hn hm'], hb'⟩
end Go.Proofs.YtlbjfbpejomkmaaGreat
