import Derived.Test.YtlbjfbpejomkmaaGreatWkAgQi
import Derived.Test.YtlbjfbpejomkmaaGreatWkAgQd
import Derived.Test.YtlbjfbpejomkmaaGreatWkRfE
import Derived.Test.YtlbjfbpejomkmaaGreatWkAgQj
import Derived.Test.YtlbjfbpejomkmaaGreatWkRPa
/- Agenda: the reference's Count. -/
namespace Go.Proofs.YtlbjfbpejomkmaaGreat
open Go.RowKit Wk

def CtR (s : St) (f t most n : Int) : Prop := ∃ y, f ≤ y ∧ y ≤ t ∧ n = potS s y - potS s f ∧ (y = t ∨ (hasS s y = false ∧ most < n)) ∧ ∀ z, f ≤ z → z < y → hasS s z = false → potS s z - potS s f ≤ most
theorem ct_uniq {s : St} {f t most n m : Int} (h : CtR s f t most n) (g : CtR s f t most m) : n = m := by
 obtain ⟨y, a1, a2, a3, a4, a5⟩ := h
 obtain ⟨x, b1, b2, b3, b4, b5⟩ := g
 rcases Int.lt_trichotomy x y with e | e | e
 ·rcases b4 with c | ⟨c, d⟩
  ·omega
  ·have := a5 x b1 e c
   omega
 ·subst e
  omega
 ·rcases a4 with c | ⟨c, d⟩
  ·omega
  ·have := b5 y a1 e c
   omega
theorem ct_least {P : Int → Prop} {f : Int} : ∀ (k : Nat), P (f + k) → ∃ y, f ≤ y ∧ y ≤ f + k ∧ P y ∧ ∀ z, f ≤ z → z < y → ¬ P z
 | 0, h => ⟨f, Int.le_refl _, by omega, by simpa using h, fun z a b => by omega⟩
 | k + 1, h => by
  by_cases hc : ∃ j : Nat, j ≤ k ∧ P (f + j)
  ·obtain ⟨j, hj, hp⟩ := hc
   have : ∀ (m : Nat), m ≤ k → P (f + m) → ∃ y, f ≤ y ∧ y ≤ f + m ∧ P y ∧ ∀ z, f ≤ z → z < y → ¬ P z := fun m hm => ct_least m
   obtain ⟨y, a, b, c, d⟩ := ct_least j hp
   exact ⟨y, a, by omega, c, d⟩
  ·refine ⟨f + (k + 1 : Nat), by omega, by omega, h, fun z a b hz => hc ⟨(z - f).toNat, by omega, ?_⟩⟩
   rw [show f + ((z - f).toNat : Int) = z by omega]
   exact hz
termination_by k => k
decreasing_by all_goals omega
theorem ct_ex (s : St) {f t : Int} (most : Int) (h : f ≤ t) : ∃ n, CtR s f t most n := by
 obtain ⟨y, a, b, c, d⟩ := ct_least (P := fun y => y = t ∨ (hasS s y = false ∧ most < potS s y - potS s f)) (f := f) (t - f).toNat (Or.inl (by omega))
 refine ⟨_, y, a, by omega, rfl, c, fun z h1 h2 h3 => ?_⟩
 have := d z h1 h2
 rw [not_or, not_and] at this
 have := this.2 h3
 omega
theorem pot_le {s : St} (h : GoodS s) {x y : Int} (hxy : x ≤ y) : 0 ≤ potS s y - potS s x ∧ potS s y - potS s x ≤ y - x := by
 have := (potS_steps h).mono x y hxy
 omega

theorem ct_no {s : St} {f t most n : Int} (hg : GoodS s) (h : CtR s f t most n) : (n = most) ↔ (potS s t - potS s f = most) := by
 obtain ⟨y, a1, a2, a3, a4, a5⟩ := h
 have := (pot_le hg a2).1
 rcases a4 with rfl | ⟨_, c⟩ <;> omega

set_option maxRecDepth 100000 in
set_option maxHeartbeats 4000000 in
theorem count48_any (s : St) (vl vr vv : Value) (f t most : Int) (w : World) (h : RdSt w s vl vr vv) (hb : VB s = true) (hf : -4398046511104 ≤ f) (hft : f ≤ t) (ht : t ≤ 4398046511104) (hm : 0 ≤ most) :
  Calls Tryz.prog 52 #[.agg #[.int .i64 s.lf.1, vl, .int .i64 s.rt.1, vr, .int .i64 s.fr, .int .i64 s.to, vv], .agg #[.int .i64 f, .int .i64 t], .int .i64 most] w fun e w' => ∃ n, CtR s f t most n ∧ e = .returned (.int .i64 n) ∧ Below w.heap.size w w' := by
 have HG := Lib.hid (okS_of_VB hb).good
 have HO := Lib.hid (okS_of_VB hb)
 have HH := Lib.hid (fun x W h h1 h2 => has14_any s vl vr vv x W h HO.out h1 h2)
 have HN := Lib.hid (fun x W h => next14_any s vl vr vv x W h HO.out)
 have HC := Lib.hid (fun x W h => change14_any s vl vr vv x W h HO.out)
 have HR0 := Lib.hid h
 obtain ⟨a1, n1, rfl⟩ := h.1.form
 obtain ⟨a2, n2, rfl⟩ := h.2.1.form
 obtain ⟨a3, n3, rfl⟩ := h.2.2.form
 clear h hb
 obtain ⟨W, hWe⟩ : ∃ W, (w.alloc (.cells #[.int .i64 s.lf.1, .slice a1 s.lf.2.length n1, .int .i64 s.rt.1, .slice a2 s.rt.2.length n2, .int .i64 s.fr, .int .i64 s.to, .slice a3 s.l.length n3] 54)).alloc (.cells #[.int .i64 f, .int .i64 t] 46) = W := ⟨_, rfl⟩
 have hW : Below w.heap.size w W := by rw [← hWe]; exact ((Below.refl _ w).alloc (Nat.le_refl _) _).alloc (by simp) _
 have HX : Hid (Set7 W w.heap.size (.int .i64 s.lf.1) (.slice a1 s.lf.2.length n1) (.int .i64 s.rt.1) (.slice a2 s.rt.2.length n2) (.int .i64 s.fr) (.int .i64 s.to) (.slice a3 s.l.length n3)) := by
  rw [← hWe]
  refine ⟨⟨?_, ?_, ?_, ?_, ?_, ?_, ?_⟩, ?_, ?_, ?_, ?_, ?_, ?_, ?_⟩ <;> simp [go_sem]
 have HZ : Hid (BoxS W (w.heap.size + 1) f t) := by
  rw [← hWe]
  refine ⟨?_, ?_, ?_, ?_⟩ <;> simp [go_sem]
 have HR := Lib.hid (keepSt hW HR0.out)
 have HE := Lib.hid hWe
 have HB := Lib.hid hW
 have hD := pot_le HG.out hft
 obtain ⟨D, hDe⟩ : ∃ D, potS s t - potS s f = D := ⟨_, rfl⟩
 rw [hDe] at hD
 have HD := Lib.hid hD
 have HDE := Lib.hid hDe
 clear hWe HR0 hW hD hDe
 go_enter Tryz.func52, Tryz.ntmps52
 go_upto_region 1 with fail
 rw [HE.out]
 clear HE
 obtain ⟨Z0, Z1, -⟩ := HZ.out
 go_wp2_with fail
 clear Z0 Z1
 go_loopw [7, 8] (fun u7 u8 wr => ∃ n x : Int, u7 = .int .i64 n ∧ u8 = .int .i64 x ∧ f ≤ x ∧ x ≤ 4398046511104 ∧ 0 ≤ n ∧ n ≤ 8796093022208 ∧ Hid (x ≤ t → n = potS s x - potS s f) ∧ Hid (t ≤ x → n = D) ∧ Hid (∀ z, f ≤ z → z < x → z < t → hasS s z = false → potS s z - potS s f ≤ most) ∧ Hid (t ≤ x ∨ hasS s x = false ∨ n ≤ most) ∧ Hid (Below W.heap.size W wr)) (fun _ u8 _ => (4398046511104 - intOf u8).toNat)
 case atStart => exact ⟨0, f, rfl, rfl, Int.le_refl _, by omega, by omega, by omega, fun _ => by omega, fun h => (by have h1 := HDE.out; have h2 : f = t := (by omega); rw [← h2] at h1; omega), fun z a b => by omega, Or.inr (Or.inr hm), Below.refl _ _⟩
 case round =>
  obtain ⟨n, x, rfl, rfl, hx1, hx2, hn0, hn1, HL1, HL2, HL3, HL4, HBr⟩ := hrel
  have HX2 := Lib.hid (HX.out.below HBr.out)
  have HZ2 := Lib.hid (HZ.out.below HBr.out)
  have HR2 := Lib.hid (keepSt HBr.out HR.out)
  by_cases hxt : t ≤ x
  ·have g0 : decide (x < t) = false := by simp; omega
   have HE := Lib.hid (keepBelow HB.out HBr.out)
   have HN2 : Hid (CtR s f t most n) := ⟨t, hft, Int.le_refl _, by rw [HL2.out hxt]; exact HDE.out.symm, Or.inl rfl, fun z a b => HL3.out z a (by omega) b⟩
   clear hxt
   obtain ⟨Z0, Z1, -⟩ := HZ2.out
   go_wp2
   go_ret
   exact ⟨n, HN2.out, rfl, HE.out⟩
  have hxt : x < t := by omega
  have g0 : decide (x < t) = true := by simpa using hxt
  have hnx := HL1.out (by omega)
  have hnD : n ≤ D := by
   have := (pot_le HG.out (x := x) (y := t) (by omega)).1
   have := HDE.out
   omega
  by_cases hnm : most < n
  ·have g1 : decide (n ≤ most) = false := by simp; omega
   have HE := Lib.hid (keepBelow HB.out HBr.out)
   have HN2 : Hid (CtR s f t most n) := ⟨x, hx1, by omega, hnx, Or.inr ⟨by rcases HL4.out with g | g | g; omega; exact g; omega, hnm⟩, fun z a b => HL3.out z a b (by omega)⟩
   clear hxt hnm hnx hnD
   obtain ⟨Z0, Z1, -⟩ := HZ2.out
   go_wp2
   go_ret
   exact ⟨n, HN2.out, rfl, HE.out⟩
  have g1 : decide (n ≤ most) = true := by simp; omega
  have HLX : Hid (lineB x = true) := (lineB_iff x).2 ⟨by omega, hx2⟩
  have HNX := Lib.hid hnx
  have HNM : Hid (n ≤ most) := by unfold Hid; omega
  have HXT := Lib.hid hxt
  clear hnm hnx hnD hxt
  obtain ⟨⟨A0, A1, A2, A3, A4, A5, A6⟩, -⟩ := HX2.out
  obtain ⟨Z0, Z1, -⟩ := HZ2.out
  go_wp2_with fail
  refine (HH.out _ _ HR2.out (by omega) (by omega)).mono ?_
  rintro e w3 ⟨rfl, hb3⟩
  have HX3 := Lib.hid (HX2.out.below hb3)
  have HZ3 := Lib.hid (HZ2.out.below hb3)
  have HR3 := Lib.hid (keepSt hb3 HR2.out)
  have HBR := Lib.hid (keepBelow HBr.out hb3)
  clear hb3 A0 A1 A2 A3 A4 A5 A6 Z0 Z1 HX2 HZ2 HR2
  obtain ⟨⟨A0, A1, A2, A3, A4, A5, A6⟩, -⟩ := HX3.out
  cases hhx : hasS s x with
  | false =>
   have HHX := Lib.hid hhx
   clear hhx
   go_wp2_with fail
   refine (HN.out _ _ HR3.out).mono ?_
   rintro e w4 ⟨q, hq, rfl, hb4⟩
   have HQ := Lib.hid (ne_step HLX.out hq)
   have HBR4 := Lib.hid (keepBelow HBR.out hb4)
   clear hb4 hq A0 A1 A2 A3 A4 A5 A6
   rcases HQ.out with ⟨rfl, hn⟩ | ⟨y, rfl, hy1, hy2, hy3, hy4⟩
   ·have HE := Lib.hid (keepBelow HB.out HBR4.out)
    have HN2 : Hid (CtR s f t most n) := by
     have h1 := pot_same HG.out (x := x) (y := t) (by have := HXT.out; omega) (fun z a b => hn z a (by omega))
     have h2 := HNX.out
     refine ⟨t, hft, Int.le_refl _, by omega, Or.inl rfl, fun z a b _ => ?_⟩
     have h3 := (pot_le HG.out (x := z) (y := t) (by omega)).1
     have h4 := HNM.out
     omega
    clear hn HQ
    go_wp2
    go_ret
    exact ⟨n, HN2.out, rfl, HE.out⟩
   ·have hxy : x < y := by
     rcases Int.lt_or_eq_of_le hy1 with g | g
     ·exact g
     ·rw [← g, HHX.out] at hy3; cases hy3
    have HY1 : Hid (y ≤ t → n = potS s y - potS s f) := fun _ => by
     have h1 := pot_same HG.out hy1 hy4
     have h2 := HNX.out
     omega
    have HY2 : Hid (t ≤ y → n = D) := fun hty => by
     have h1 := pot_same HG.out (x := x) (y := t) (by have := HXT.out; omega) (fun z a b => hy4 z a (by omega))
     have h2 := HNX.out
     have h3 := HDE.out
     omega
    have HY3 : Hid (∀ z, f ≤ z → z < y → z < t → hasS s z = false → potS s z - potS s f ≤ most) := fun z a b c d => by
     by_cases hzx : z < x
     ·exact HL3.out z a hzx c d
     ·have h1 := pot_same HG.out (x := x) (y := z) (by omega) (fun u p q => hy4 u p (by omega))
      have h2 := HNX.out
      have h3 := HNM.out
      omega
    have HY4 : Hid (t ≤ y ∨ hasS s y = false ∨ n ≤ most) := Or.inr (Or.inr HNM.out)
    clear hy3 hy4 HQ
    go_wp2
    go_roundw
    case rel => exact ⟨n, y, rfl, rfl, by omega, hy2, hn0, hn1, HY1.out, HY2.out, HY3.out, HY4.out, HBR4.out⟩
    case measure => simp [intOf]; omega
  | true =>
   have HHX := Lib.hid hhx
   clear hhx
   go_wp2_with fail
   refine (HC.out _ _ HR3.out).mono ?_
   rintro e w4 ⟨q, hq, rfl, hb4⟩
   have HQ := Lib.hid (ch_step HLX.out HHX.out hq)
   have HZ4 := Lib.hid (HZ3.out.below hb4)
   have HBR4 := Lib.hid (keepBelow HBR.out hb4)
   clear hb4 hq A0 A1 A2 A3 A4 A5 A6
   have hxt := HXT.out
   have HTO : Hid ((∀ z, x ≤ z → z < t → hasS s z = true) → n + t - x = D ∧ n + t - x ≤ 8796093022208 ∧ (t ≤ t → n + t - x = potS s t - potS s f)) := fun hz => by
    have h1 := pot_full HG.out (x := x) (y := t) (by omega) hz
    have h2 := HNX.out
    have h3 := HDE.out
    have h4 := HD.out
    omega
   rcases HQ.out with ⟨rfl, hn⟩ | ⟨c, rfl, hc1, hc2, hc3, hc4⟩
   ·have hh := HTO.out fun z a b => hn z a (by omega)
    obtain ⟨h1, h2, h3⟩ := hh
    have HY1 : Hid (t ≤ t → n + t - x = potS s t - potS s f) := h3
    have HY2 : Hid (t ≤ t → n + t - x = D) := fun _ => h1
    have HY3 : Hid (∀ z, f ≤ z → z < t → z < t → hasS s z = false → potS s z - potS s f ≤ most) := fun z a b c d => by
     by_cases hzx : z < x
     ·exact HL3.out z a hzx c d
     ·rw [hn z (by omega) (by omega)] at d; cases d
    clear hn HQ h1 h3
    obtain ⟨Z0, Z1, -⟩ := HZ4.out
    go_wp2
    go_roundw
    case rel => exact ⟨n + t - x, t, by first | rfl | go_num, rfl, by omega, ht, by omega, h2, HY1.out, HY2.out, HY3.out, Or.inl (Int.le_refl _), HBR4.out⟩
    case measure => simp [intOf]; omega
   ·by_cases hct : t < c
    ·have g3 : decide (t < c) = true := by simpa using hct
     have hh := HTO.out fun z a b => hc4 z a (by omega)
     obtain ⟨h1, h2, h3⟩ := hh
     have HY1 : Hid (t ≤ t → n + t - x = potS s t - potS s f) := h3
     have HY2 : Hid (t ≤ t → n + t - x = D) := fun _ => h1
     have HY3 : Hid (∀ z, f ≤ z → z < t → z < t → hasS s z = false → potS s z - potS s f ≤ most) := fun z a b c d => by
      by_cases hzx : z < x
      ·exact HL3.out z a hzx c d
      ·rw [hc4 z (by omega) (by omega)] at d; cases d
     clear hc3 hc4 HQ h1 h3
     obtain ⟨Z0, Z1, -⟩ := HZ4.out
     go_wp2
     go_roundw
     case rel => exact ⟨n + t - x, t, by first | rfl | go_num, rfl, by omega, ht, by omega, h2, HY1.out, HY2.out, HY3.out, Or.inl (Int.le_refl _), HBR4.out⟩
     case measure => simp [intOf]; omega
    ·have g3 : decide (t < c) = false := by simpa using hct
     have h5 := pot_full HG.out (x := x) (y := c) (by omega) hc4
     have h6 := (pot_le HG.out (x := f) (y := c) (by omega)).2
     have h7 := HNX.out
     have h8 : n + c - x = potS s c - potS s f := by omega
     have h9 : n + c - x ≤ 8796093022208 := by omega
     have HY1 : Hid (c ≤ t → n + c - x = potS s c - potS s f) := fun _ => h8
     have HY2 : Hid (t ≤ c → n + c - x = D) := fun h => by
      have he : c = t := by omega
      rw [he] at h8 ⊢
      rw [h8]
      exact HDE.out
     have HY3 : Hid (∀ z, f ≤ z → z < c → z < t → hasS s z = false → potS s z - potS s f ≤ most) := fun z a b e d => by
      by_cases hzx : z < x
      ·exact HL3.out z a hzx e d
      ·rw [hc4 z (by omega) (by omega)] at d; cases d
     have HY4 : Hid (hasS s c = false) := hc3
     clear hc3 hc4 HQ h5 h6 h7 h8 hct
     obtain ⟨Z0, Z1, -⟩ := HZ4.out
     go_wp2
     go_roundw
     case rel => exact ⟨n + c - x, c, by first | rfl | go_num, rfl, by omega, hc2, by omega, h9, HY1.out, HY2.out, HY3.out, Or.inr (Or.inl HY4.out), HBR4.out⟩
     case measure => simp [intOf]; omega
theorem count48_val (s : St) (vl vr vv : Value) (f t most : Int) (hb : VB s = true) (hf : -4398046511104 ≤ f) (hft : f ≤ t) (ht : t ≤ 4398046511104) (hm : 0 ≤ most) :
  ∃ n : Int, (n = most ↔ potS s t - potS s f = most) ∧ ∀ w, RdSt w s vl vr vv → Calls Tryz.prog 52 #[.agg #[.int .i64 s.lf.1, vl, .int .i64 s.rt.1, vr, .int .i64 s.fr, .int .i64 s.to, vv], .agg #[.int .i64 f, .int .i64 t], .int .i64 most] w fun e w' => e = .returned (.int .i64 n) ∧ Below w.heap.size w w' := by
 obtain ⟨n, hn⟩ := ct_ex s most hft
 refine ⟨n, ct_no (okS_of_VB hb).good hn, fun w h => (count48_any s vl vr vv f t most w h hb hf hft ht hm).mono ?_⟩
 rintro e w' ⟨m, hm', rfl, hb'⟩
 exact ⟨by rw [ct_uniq hn hm'], hb'⟩
end Go.Proofs.YtlbjfbpejomkmaaGreat
namespace Go.Proofs.YtlbjfbpejomkmaaGreat
open Go.RowKit Wk

theorem hs_bad {l : List Tk} {res : List St} {s : Int} {b : List Sp} {i : Nat} (h : ¬ hB l res s b i = true) : hB l res s b i = false := by simpa using h
theorem hs_no {l : List Tk} {res : List St} {s : Int} {b : List Sp} {i : Nat} (hi : i < l.length) (h : hB l res s b i = false) : holdsM l res s b = false := by
 unfold holdsM
 have : (List.range l.length).all (hB l res s b) = false := List.all_eq_false.2 ⟨i, List.mem_range.2 hi, by rw [h]; exact Bool.false_ne_true⟩
 rw [this, Bool.and_false]
theorem hs_yes {l : List Tk} {res : List St} {s : Int} {b : List Sp} (hl : b.length = l.length) (h : ∀ i, i < l.length → hB l res s b i = true) : holdsM l res s b = true := by
 unfold holdsM
 rw [decide_eq_true hl]
 exact List.all_eq_true.2 fun i hi => h i (List.mem_range.1 hi)
theorem hs_iff {l : List Tk} {res : List St} {s : Int} {b : List Sp} {i : Nat} : hB l res s b i = true ↔
  ivB (spAt b i) = true ∧ s ≤ (spAt b i).1 ∧ hasS (setOf l res i) (spAt b i).1 = true ∧ hasS (setOf l res i) ((spAt b i).2 - 1) = true ∧ potS (setOf l res i) (spAt b i).2 - potS (setOf l res i) (spAt b i).1 = (tkAt l i).wk ∧
  ((tkAt l i).af.any fun j => decide ((spAt b i).1 < (spAt b j.toNat).2)) = false ∧ ∀ k, k < i → clB l b i k = false := by
 rw [hB_iff]
 constructor
 ·rintro ⟨h1, h2, h3, h4, h5, h6, h7⟩
  refine ⟨h1, h2, h3, h4, h5, ?_, fun k hk => ?_⟩
  ·rw [List.any_eq_false]
   intro j hj
   have := h6 j hj
   simp
   omega
  ·unfold clB
   cases hr : ((tkAt l k).rs == (tkAt l i).rs) with
   | false => rfl
   | true =>
    have := h7 k hk (by simpa using hr)
    rcases this with h | h
    ·rw [decide_eq_false (p := (spAt b k).1 < (spAt b i).2) (by omega)]; rfl
    ·rw [decide_eq_false (p := (spAt b i).1 < (spAt b k).2) (by omega)]; simp
 ·rintro ⟨h1, h2, h3, h4, h5, h6, h7⟩
  refine ⟨h1, h2, h3, h4, h5, fun j hj => ?_, fun k hk hr => ?_⟩
  ·have := List.any_eq_false.1 h6 j hj
   simp at this
   omega
  ·have := h7 k hk
   unfold clB at this
   rw [hr] at this
   simp at this
   omega
theorem ext_rst {W : World} {s : St} {vl vr vv : Value} (h : RdSt W s vl vr vv) : ∀ x : Ext W, RdSt (extOf W x) s vl vr vv := fun x => keepSt x.2 h

set_option maxRecDepth 100000 in
set_option maxHeartbeats 16000000 in
theorem rholds_any (vl vR va : Value) (start : Int) (L : List Kv) (R : List Sw) (b : List Sp) (w : World) (hL : RdK w vl L) (hR : RdR w vR R) (hb : RdS w va b) (hV : vldM (tks L) (sts R) = true) (hlen : b.length = L.length) :
  Calls Tryz.prog 20 #[vl, vR, .int .i64 start, va] w fun e w' => e = .returned (.bool (holdsM (tks L) (sts R) start b)) ∧ Below w.heap.size w w' := by
 have HVP := Lib.hid (vld_parts hV)
 have HVV := Lib.hid (vld_V hV)
 have HIV := Lib.hid (fun x y W => valid10_any x y W)
 obtain ⟨r, hr⟩ : ∃ r, holdsM (tks L) (sts R) start b = r := ⟨_, rfl⟩
 rw [hr]
 have HRE := Lib.hid hr
 have HL := Lib.hid hL
 have HR := Lib.hid hR
 have HS := Lib.hid hb
 have HNE := Lib.hid hlen
 have HLN : Hid (L.length ≤ 24) := HVP.out.2.2.1
 obtain ⟨al, cl, rfl⟩ := hL.form
 obtain ⟨aR, cR, rfl⟩ := hR.form
 obtain ⟨aa, ca, rfl⟩ := hb.form
 clear hr hL hR hb hV hlen
 go_enter Tryz.func20, Tryz.ntmps20
 go_wp2_with fail
 go_loopw [9] (fun u wr => ∃ k : Nat, u = .int .i64 k ∧ k ≤ L.length ∧ Hid (∀ i, i < k → hB (tks L) (sts R) start b i = true) ∧ Hid (Below w.heap.size w wr)) (fun u _ => L.length - (intOf u).toNat)
 case atStart => exact ⟨0, rfl, Nat.zero_le _, fun i hi => by omega, Below.refl _ _⟩
 case round =>
  obtain ⟨k, rfl, hk, HZ, HBr⟩ := hrel
  have hk24 : (k : Int) ≤ 24 := by have := HLN.out; omega
  by_cases hlt : k < L.length
  ·have HLr := Lib.hid (HL.out.below HBr.out)
   obtain ⟨al', cl', ea, _, hc⟩ := HLr.out
   cases ea
   obtain ⟨hj, bl, ol, rfl, q0, q1, q2, q3, q4⟩ := hc k hlt
   obtain ⟨x, hx⟩ : ∃ x, L.getD k kv0 = x := ⟨_, rfl⟩
   rw [hx] at hj q0 q1 q2 q3 q4
   obtain ⟨ax, nx, ex⟩ := hj.form
   rw [ex] at q3 hj
   have HTI : Hid (tkAt (tks L) k = x.1) := by unfold Hid; rw [tks_at, hx]
   obtain ⟨ρ, hρ⟩ : ∃ ρ : Nat, reOf (tks L) k = ρ := ⟨_, rfl⟩
   have hrs := HVV.out.rs k (by rw [tks_length]; exact hlt)
   have HWK : Hid (0 ≤ x.1.wk) := by have := HVV.out.wk k (by rw [tks_length]; exact hlt); rw [HTI.out] at this; unfold Hid; omega
   have hρ1 : x.1.rs = (ρ : Int) := by
    rw [← hρ]
    unfold reOf
    rw [HTI.out]
    rw [HTI.out] at hrs
    omega
   have hρ2 : ρ < R.length := by rw [← hρ]; have := hrs.2; rwa [sts_length] at this
   have HRO := Lib.hid (And.intro hρ (And.intro hρ1 hρ2))
   have HJ := Lib.hid hj
   rw [hρ1] at q2
   have HRr := Lib.hid (HR.out.below HBr.out)
   obtain ⟨aR', cR', evR, _, hcR⟩ := HRr.out
   cases evR
   obtain ⟨hr7, br, orr, rfl, p0, p1, p2, p3, p4, p5, p6⟩ := hcR ρ HRO.out.2.2
   obtain ⟨z, hz⟩ : ∃ z, R.getD ρ sw0 = z := ⟨_, rfl⟩
   rw [hz] at hr7 p0 p1 p2 p3 p4 p5 p6
   obtain ⟨b1, m1, k1⟩ := hr7.1.form
   obtain ⟨b2, m2, k2⟩ := hr7.2.1.form
   obtain ⟨b3, m3, k3⟩ := hr7.2.2.form
   rw [k1] at p1
   rw [k2] at p3
   rw [k3] at p6
   rw [k1, k2, k3] at hr7
   have HSX : Hid (setOf (tks L) (sts R) k = z.1) := by unfold Hid setOf; rw [HRO.out.1, sts_at, hz]
   have HVZ : Hid (VB z.1 = true) := by have := HVP.out.1 ρ HRO.out.2.2; rwa [hz] at this
   have HHS := Lib.hid (fun y W h h1 h2 => has14_any z.1 (.slice b1 z.1.lf.2.length m1) (.slice b2 z.1.rt.2.length m2) (.slice b3 z.1.l.length m3) y W h (okS_of_VB HVZ.out) h1 h2)
   have HLT := Lib.hid hlt
   obtain ⟨O2, hO2⟩ : ∃ O2, (Obj.cells #[.int .i64 z.1.lf.1, .slice b1 z.1.lf.2.length m1, .int .i64 z.1.rt.1, .slice b2 z.1.rt.2.length m2, .int .i64 z.1.fr, .int .i64 z.1.to, .slice b3 z.1.l.length m3] 54) = O2 := ⟨_, rfl⟩
   have HS7 : Hid (Set7 (wr.alloc O2) wr.heap.size (.int .i64 z.1.lf.1) (.slice b1 z.1.lf.2.length m1) (.int .i64 z.1.rt.1) (.slice b2 z.1.rt.2.length m2) (.int .i64 z.1.fr) (.int .i64 z.1.to) (.slice b3 z.1.l.length m3)) := by
    rw [← hO2]
    exact set7_fresh _ _ _ _ _ _ _ _
   have hbY : Below wr.heap.size wr (wr.alloc O2) := (Below.refl _ _).alloc (Nat.le_refl _) _
   have HO2 := Lib.hid hO2
   have s1 : (ρ : Int) < (R.length : Int) := by omega
   have HQ0 := Lib.hid (And.intro q1 (And.intro q2 q3))
   have HR70 := Lib.hid hr7
   clear hc hx hj ex hρ hρ1 hρ2 hrs hO2 hcR hz k1 k2 k3 hr7 q0 q1 q3 q4
   go_upto_region 5 with fail
   first | rw [HO2.out] | skip
   clear HO2 q2 p0 p1 p2 p3 p4 p5 p6 s1
   obtain ⟨tb, htb⟩ : ∃ tb, wr.heap.size = tb := ⟨_, rfl⟩
   rw [htb] at HS7 ⊢
   have HBY0 := Lib.hid hbY
   clear hbY
   generalize wr.alloc O2 = Y at *
   have HR7 := Lib.hid (keepSt HBY0.out HR70.out)
   have HQ : Hid (Y.cell? ⟨bl, ol + k * 5 + 1, none⟩ = some (.int .i64 x.1.wk) ∧ Y.cell? ⟨bl, ol + k * 5 + 2, none⟩ = some (.int .i64 (ρ : Nat)) ∧ Y.cell? ⟨bl, ol + k * 5 + 3, none⟩ = some (.slice ax x.1.af.length nx)) := ⟨keepCell HBY0.out HQ0.out.1, keepCell HBY0.out HQ0.out.2.1, keepCell HBY0.out HQ0.out.2.2⟩
   have HJY := Lib.hid (HJ.out.below HBY0.out)
   have HSY := Lib.hid (keepRd HBY0.out (keepRd HBr.out HS.out))
   have HLY := Lib.hid (HLr.out.below HBY0.out)
   have HBY := Lib.hid (Below.refl Y.heap.size Y)
   have HBW := Lib.hid (keepBelow HBr.out HBY0.out)
   obtain ⟨as', cs', evs, _, hcs⟩ := HSY.out
   cases evs
   obtain ⟨ga, oa, rfl, sx, sy⟩ := hcs k (by rw [HNE.out]; exact hlt)
   obtain ⟨tx, htx⟩ : ∃ t, (b.getD k (0, 0)).1 = t := ⟨_, rfl⟩
   obtain ⟨ty, hty⟩ : ∃ t, (b.getD k (0, 0)).2 = t := ⟨_, rfl⟩
   rw [htx] at sx
   rw [hty] at sy
   have HSP : Hid (spAt b k = (tx, ty)) := by unfold Hid spAt; rw [← htx, ← hty]
   have HSC := Lib.hid (And.intro sx sy)
   have HCS := Lib.hid hcs
   clear hcs sx sy htx hty htb hlt
   have A0 := ext_cell HS7.out.1.1
   have A1 := ext_cell HS7.out.1.2.1
   have A2 := ext_cell HS7.out.1.2.2.1
   have A3 := ext_cell HS7.out.1.2.2.2.1
   have A4 := ext_cell HS7.out.1.2.2.2.2.1
   have A5 := ext_cell HS7.out.1.2.2.2.2.2.1
   have A6 := ext_cell HS7.out.1.2.2.2.2.2.2
   have e1 := ext_cell HSC.out.1
   have e2 := ext_cell HSC.out.2
   have e3 := ext_cell HQ.out.1
   have s1 : (k : Int) < (b.length : Int) := by have := HNE.out; have := HLT.out; omega
   have s2 : (k : Int) < (L.length : Int) := by have := HLT.out; omega
   obtain ⟨iv, hiv⟩ : ∃ v, ivB (tx, ty) = v := ⟨_, rfl⟩
   cases iv with
   | false =>
    have HIVF := Lib.hid hiv
    have hr : r = false := by rw [← HRE.out]; exact hs_no (by rw [tks_length]; exact HLT.out) (hs_bad fun h => by
     have h1 := hs_iff.1 h
     rw [HSP.out, HSX.out, HTI.out] at h1
     rw [HIVF.out] at h1; cases h1.1)
    subst hr
    go_wp2_with fail
    refine wp_region_ext (by kernel_rfl) (by kernel_rfl) ?_
    iterate 55 (go_big_quiet_step ((first | (go_at_call 50; refine calls_ext (HIV.out _ _ _)) | (go_at_call 51; refine calls_ext (HHS.out _ _ (ext_rst HR7.out _) (by omega) (by omega))) | (go_at_call 52; refine calls_ext (HCN.out _ (ext_rst HR7.out _))))))
    refine wpQuiet_nil ?_
    intro w5 hb5
    have HB5 := Lib.hid (keepBelow HBY.out hb5)
    clear hb5 A0 A1 A2 A3 A4 A5 A6 e1 e2 e3
    go_wp2
    go_ret
    exact ⟨rfl, keepBelow HBW.out HB5.out⟩
   | true =>
   obtain ⟨hv1, hv2, hv3⟩ := (ivB_iff (tx, ty)).1 hiv
   have hv1 : -4398046511104 ≤ tx := hv1
   have hv2 : tx < ty := hv2
   have hv3 : ty ≤ 4398046511104 := hv3
   by_cases hst : tx < start
   ·have g1 : decide (tx < start) = true := by simpa using hst
    have HST := Lib.hid hst
    clear hst
    have hr : r = false := by rw [← HRE.out]; exact hs_no (by rw [tks_length]; exact HLT.out) (hs_bad fun h => by
     have h1 := hs_iff.1 h
     rw [HSP.out, HSX.out, HTI.out] at h1
     have h2 : start ≤ tx := h1.2.1; have := HST.out; omega)
    subst hr
    go_wp2_with fail
    refine wp_region_ext (by kernel_rfl) (by kernel_rfl) ?_
    iterate 55 (go_big_quiet_step ((first | (go_at_call 50; refine calls_ext (HIV.out _ _ _)) | (go_at_call 51; refine calls_ext (HHS.out _ _ (ext_rst HR7.out _) (by omega) (by omega))) | (go_at_call 52; refine calls_ext (HCN.out _ (ext_rst HR7.out _))))))
    refine wpQuiet_nil ?_
    intro w5 hb5
    have HB5 := Lib.hid (keepBelow HBY.out hb5)
    clear hb5 A0 A1 A2 A3 A4 A5 A6 e1 e2 e3
    go_wp2
    go_ret
    exact ⟨rfl, keepBelow HBW.out HB5.out⟩
   have g1 : decide (tx < start) = false := by simpa using hst
   have HST : Hid (start ≤ tx) := by unfold Hid; omega
   clear hst
   obtain ⟨ha, hha⟩ : ∃ v, hasS z.1 tx = v := ⟨_, rfl⟩
   cases ha with
   | false =>
    have HH1 := Lib.hid hha
    have hr : r = false := by rw [← HRE.out]; exact hs_no (by rw [tks_length]; exact HLT.out) (hs_bad fun h => by
     have h1 := hs_iff.1 h
     rw [HSP.out, HSX.out, HTI.out] at h1
     rw [HH1.out] at h1; cases h1.2.2.1)
    subst hr
    go_wp2_with fail
    refine wp_region_ext (by kernel_rfl) (by kernel_rfl) ?_
    iterate 55 (go_big_quiet_step ((first | (go_at_call 50; refine calls_ext (HIV.out _ _ _)) | (go_at_call 51; refine calls_ext (HHS.out _ _ (ext_rst HR7.out _) (by omega) (by omega))) | (go_at_call 52; refine calls_ext (HCN.out _ (ext_rst HR7.out _))))))
    refine wpQuiet_nil ?_
    intro w5 hb5
    have HB5 := Lib.hid (keepBelow HBY.out hb5)
    clear hb5 A0 A1 A2 A3 A4 A5 A6 e1 e2 e3
    go_wp2
    go_ret
    exact ⟨rfl, keepBelow HBW.out HB5.out⟩
   | true =>
   obtain ⟨hc, hhc⟩ : ∃ v, hasS z.1 (ty - 1) = v := ⟨_, rfl⟩
   cases hc with
   | false =>
    have HH2 := Lib.hid hhc
    have hr : r = false := by rw [← HRE.out]; exact hs_no (by rw [tks_length]; exact HLT.out) (hs_bad fun h => by
     have h1 := hs_iff.1 h
     rw [HSP.out, HSX.out, HTI.out] at h1
     have h2 := h1.2.2.2.1; have h3 := HH2.out; rw [show (tx, ty).2 - 1 = ty - 1 from rfl] at h2; rw [h2] at h3; cases h3)
    subst hr
    go_wp2_with fail
    refine wp_region_ext (by kernel_rfl) (by kernel_rfl) ?_
    iterate 55 (go_big_quiet_step ((first | (go_at_call 50; refine calls_ext (HIV.out _ _ _)) | (go_at_call 51; refine calls_ext (HHS.out _ _ (ext_rst HR7.out _) (by omega) (by omega))) | (go_at_call 52; refine calls_ext (HCN.out _ (ext_rst HR7.out _))))))
    refine wpQuiet_nil ?_
    intro w5 hb5
    have HB5 := Lib.hid (keepBelow HBY.out hb5)
    clear hb5 A0 A1 A2 A3 A4 A5 A6 e1 e2 e3
    go_wp2
    go_ret
    exact ⟨rfl, keepBelow HBW.out HB5.out⟩
   | true =>
   have HIVT := Lib.hid (And.intro hiv (And.intro hha hhc))
   obtain ⟨n, hn, hcn⟩ := count48_val z.1 (.slice b1 z.1.lf.2.length m1) (.slice b2 z.1.rt.2.length m2) (.slice b3 z.1.l.length m3) tx ty x.1.wk HVZ.out hv1 (by omega) hv3 HWK.out
   have HCN := Lib.hid hcn
   have HN := Lib.hid hn
   clear hcn hn
   by_cases hnw : ¬ n = x.1.wk
   ·have g4 : (n != x.1.wk) = true := by simpa using hnw
    have HNW : Hid (¬ potS z.1 ty - potS z.1 tx = x.1.wk) := fun h => hnw (HN.out.2 h)
    clear hnw
    have hr : r = false := by rw [← HRE.out]; exact hs_no (by rw [tks_length]; exact HLT.out) (hs_bad fun h => by
     have h1 := hs_iff.1 h
     rw [HSP.out, HSX.out, HTI.out] at h1
     exact HNW.out h1.2.2.2.2.1)
    subst hr
    go_wp2_with fail
    refine wp_region_ext (by kernel_rfl) (by kernel_rfl) ?_
    iterate 55 (go_big_quiet_step ((first | (go_at_call 50; refine calls_ext (HIV.out _ _ _)) | (go_at_call 51; refine calls_ext (HHS.out _ _ (ext_rst HR7.out _) (by omega) (by omega))) | (go_at_call 52; refine calls_ext (HCN.out _ (ext_rst HR7.out _))))))
    refine wpQuiet_nil ?_
    intro w5 hb5
    have HB5 := Lib.hid (keepBelow HBY.out hb5)
    clear hb5 A0 A1 A2 A3 A4 A5 A6 e1 e2 e3
    go_wp2
    go_ret
    exact ⟨rfl, keepBelow HBW.out HB5.out⟩
   have hnw : n = x.1.wk := Decidable.not_not.1 hnw
   have g4 : (n != x.1.wk) = false := by simpa using hnw
   have HNW : Hid (potS z.1 ty - potS z.1 tx = x.1.wk) := HN.out.1 hnw
   clear hnw
   go_wp2_with fail
   refine wp_region_ext (by kernel_rfl) (by kernel_rfl) ?_
   iterate 55 (go_big_quiet_step ((first | (go_at_call 50; refine calls_ext (HIV.out _ _ _)) | (go_at_call 51; refine calls_ext (HHS.out _ _ (ext_rst HR7.out _) (by omega) (by omega))) | (go_at_call 52; refine calls_ext (HCN.out _ (ext_rst HR7.out _))))))
   refine wpQuiet_nil ?_
   intro w5 hb5
   have HB5 := Lib.hid (keepBelow HBY.out hb5)
   clear hb5 A0 A1 A2 A3 A4 A5 A6 e1 e2 e3
   clear g1 g4 hiv hha hhc s1 s2
   have HV3 := Lib.hid (And.intro hv1 (And.intro hv2 hv3))
   clear hv1 hv2 hv3
   generalize w5 = V at *
   go_wp2_with fail
   go_loopw [11] (fun u wr' => ∃ j : Nat, u = .int .i64 j ∧ j ≤ x.1.af.length ∧ Hid (∀ q, q < j → decide (tx < (spAt b (x.1.af.getD q 0).toNat).2) = false) ∧ Hid (Below V.heap.size V wr')) (fun u _ => x.1.af.length - (intOf u).toNat)
   case atStart => exact ⟨0, rfl, Nat.zero_le _, fun q hq => by omega, Below.refl _ _⟩
   case round =>
    obtain ⟨j, rfl, hjk, HZJ, HBJ⟩ := hrel
    have HBV := Lib.hid (keepBelow HB5.out HBJ.out)
    have hl24 := HLN.out
    have q3 := keepCell HBV.out HQ.out.2.2
    by_cases hjl : j < x.1.af.length
    ·obtain ⟨a8, c8, e8, _, h8⟩ := HJY.out
     simp only [Value.slice.injEq] at e8
     obtain ⟨rfl, -, -⟩ := e8
     obtain ⟨g8, o8, rfl, hc8⟩ := h8 j hjl
     have hmem := HVV.out.af k (by rw [tks_length]; exact HLT.out) (x.1.af.getD j 0) (by rw [HTI.out, List.getD_eq_getElem?_getD, List.getElem?_eq_getElem hjl]; exact List.getElem_mem hjl)
     obtain ⟨m, hm⟩ : ∃ m : Nat, x.1.af.getD j 0 = (m : Int) := ⟨(x.1.af.getD j 0).toNat, by omega⟩
     have hmb : m < b.length := by have := HNE.out; have := HLT.out; rw [hm] at hmem; omega
     rw [hm] at hc8
     obtain ⟨g', o', e', k0, k1⟩ := HCS.out m hmb
     cases e'
     obtain ⟨uy, huy⟩ : ∃ t, (b.getD m (0, 0)).2 = t := ⟨_, rfl⟩
     rw [huy] at k1
     have HAF : Hid ((spAt b (x.1.af.getD j 0).toNat).2 = uy) := by unfold Hid spAt; rw [hm]; exact huy
     have e1 := ext_cell q3
     have e2 := ext_cell (keepCell HBV.out hc8)
     have e3 := ext_cell (keepCell HBV.out k1)
     have e4 := ext_cell (keepCell HBV.out HSC.out.1)
     have s1 : (k : Int) < (b.length : Int) := by have := HNE.out; have := HLT.out; omega
     have s2 : (k : Int) < (L.length : Int) := by have := HLT.out; omega
     have s3 : (j : Int) < (x.1.af.length : Int) := by omega
     have s4 : (m : Int) < (b.length : Int) := by omega
     clear k0 k1 hc8 h8 hmem hm huy
     by_cases hc1 : tx < uy
     ·have g1 : decide (tx < uy) = true := by simpa using hc1
      have hr : r = false := by rw [← HRE.out]; exact hs_no (by rw [tks_length]; exact HLT.out) (hs_bad fun h => by
       have h1 := (hs_iff.1 h).2.2.2.2.2.1
       rw [HSP.out, HTI.out] at h1
       have h2 := List.any_eq_false.1 h1 (x.1.af.getD j 0) (by rw [List.getD_eq_getElem?_getD, List.getElem?_eq_getElem hjl]; exact List.getElem_mem hjl)
       rw [HAF.out] at h2
       exact h2 g1)
      subst hr
      clear hc1
      go_wp2_with fail
      refine wp_region_ext (by kernel_rfl) (by kernel_rfl) ?_
      iterate 18 (go_big_quiet_step (fail))
      refine wpQuiet_nil ?_
      intro w7 hb7
      have HBE := Lib.hid (keepBelow HBV.out hb7)
      go_wp2
      go_ret
      exact ⟨rfl, keepBelow HBW.out HBE.out⟩
     ·have g1 : decide (tx < uy) = false := by simpa using hc1
      have HG1 := Lib.hid g1
      clear hc1
      go_wp2_with fail
      refine wp_region_ext (by kernel_rfl) (by kernel_rfl) ?_
      iterate 18 (go_big_quiet_step (fail))
      refine wpQuiet_nil ?_
      intro w7 hb7
      have HBN := Lib.hid (keepBelow HBJ.out hb7)
      clear hb7 e1 e2 e3 e4
      go_wp2
      go_roundw
      case rel =>
       refine ⟨j + 1, by go_num, by omega, fun q hq => ?_, HBN.out⟩
       rcases Nat.lt_succ_iff_lt_or_eq.1 hq with h | rfl
       ·exact HZJ.out q h
       ·rw [HAF.out]; exact HG1.out
      case measure => simp [intOf]; omega
    ·have hje : j = x.1.af.length := by omega
     subst hje
     have s2 : (k : Int) < (L.length : Int) := by have := HLT.out; omega
     have HAN : Hid ((x.1.af.any fun j => decide (tx < (spAt b j.toNat).2)) = false) := by
      refine List.any_eq_false.2 fun j hj => ?_
      obtain ⟨q, hq, rfl⟩ := List.mem_iff_getElem.1 hj
      have := HZJ.out q hq
      rw [List.getD_eq_getElem?_getD, List.getElem?_eq_getElem hq] at this
      intro h9
      rw [Option.getD_some] at this
      rw [this] at h9
      cases h9
     go_wp2_with fail
     clear q3
     generalize wr = V2 at *
     go_loopw [12] (fun u wr' => ∃ j : Nat, u = .int .i64 j ∧ j ≤ k ∧ Hid (∀ q, q < j → clB (tks L) b k q = false) ∧ Hid (Below V2.heap.size V2 wr')) (fun u _ => k - (intOf u).toNat)
     case atStart => exact ⟨0, rfl, Nat.zero_le _, fun q hq => by omega, Below.refl _ _⟩
     case round =>
      obtain ⟨j, rfl, hjk, HZ2, HBI⟩ := hrel
      have HBU := Lib.hid (keepBelow HBV.out HBI.out)
      have hk24 : (k : Int) ≤ 1152921504606846976 := by have := HLN.out; have := HLT.out; omega
      by_cases hjl : j < k
      ·have hjL : j < L.length := by have := HLT.out; omega
       obtain ⟨al2, cl2, ea2, _, hc2⟩ := (HLY.out.below HBU.out)
       cases ea2
       obtain ⟨hj2, bl2, ol2, eb2, q0, q1, q2, q3, q4⟩ := hc2 j hjL
       cases eb2
       obtain ⟨y, hy⟩ : ∃ y, L.getD j kv0 = y := ⟨_, rfl⟩
       rw [hy] at hj2 q0 q1 q2 q3 q4
       have HTJ : Hid (tkAt (tks L) j = y.1) := by unfold Hid; rw [tks_at, hy]
       have hjb : j < b.length := by have := HNE.out; omega
       obtain ⟨g', o', e', k0, k1⟩ := HCS.out j hjb
       cases e'
       obtain ⟨ux, hux⟩ : ∃ t, (b.getD j (0, 0)).1 = t := ⟨_, rfl⟩
       obtain ⟨uy, huy⟩ : ∃ t, (b.getD j (0, 0)).2 = t := ⟨_, rfl⟩
       rw [hux] at k0
       rw [huy] at k1
       have HCB : Hid (clB (tks L) b k j = ((y.1.rs == (ρ : Int)) && (decide (ux < ty) && decide (tx < uy)))) := by
        unfold Hid clB
        rw [HTJ.out, HTI.out, HSP.out, HRO.out.2.1]
        unfold spAt
        rw [hux, huy]
       have e0 := ext_cell q2
       have e1 := ext_cell (keepCell HBU.out HQ.out.2.1)
       have e3 := ext_cell (keepCell HBU.out k0)
       have e4 := ext_cell (keepCell HBU.out k1)
       have e5 := ext_cell (keepCell HBU.out HSC.out.1)
       have e6 := ext_cell (keepCell HBU.out HSC.out.2)
       have s1 : (j : Int) < (b.length : Int) := by omega
       have s3 : (j : Int) < (L.length : Int) := by omega
       have s4 : (k : Int) < (b.length : Int) := by have := HNE.out; have := HLT.out; omega
       clear hc2 hj2 hy hux huy q0 q1 q2 q3 q4 k0 k1
       by_cases hc1 : y.1.rs = (ρ : Int)
       ·have g1 : (y.1.rs == (ρ : Int)) = true := by simpa using hc1
        by_cases hc2 : ux < ty
        ·have g2 : decide (ux < ty) = true := by simpa using hc2
         by_cases hc3 : tx < uy
         ·have g3 : decide (tx < uy) = true := by simpa using hc3
          have HCBB : Hid (clB (tks L) b k j = true) := by unfold Hid; rw [HCB.out, g1, g2, g3]; rfl
          have hr : r = false := by rw [← HRE.out]; exact hs_no (by rw [tks_length]; exact HLT.out) (hs_bad fun h => by have h1 := (hs_iff.1 h).2.2.2.2.2.2 j hjl; rw [HCBB.out] at h1; cases h1)
          subst hr
          clear hc1 hc2 hc3
          go_wp2_with fail
          refine wp_region_ext (by kernel_rfl) (by kernel_rfl) ?_
          iterate 37 (go_big_quiet_step (fail))
          refine wpQuiet_nil ?_
          intro w7 hb7
          have HBE := Lib.hid (keepBelow HBU.out hb7)
          go_wp2
          go_ret
          exact ⟨rfl, keepBelow HBW.out HBE.out⟩
         ·have g3 : decide (tx < uy) = false := by simpa using hc3
          have HCBB : Hid (clB (tks L) b k j = false) := by unfold Hid; rw [HCB.out, g1, g2, g3]; rfl
          clear hc1 hc2 hc3
          go_wp2_with fail
          refine wp_region_ext (by kernel_rfl) (by kernel_rfl) ?_
          iterate 37 (go_big_quiet_step (fail))
          refine wpQuiet_nil ?_
          intro w7 hb7
          have HBN := Lib.hid (keepBelow HBI.out hb7)
          clear hb7 e0 e1 e3 e4 e5 e6
          go_wp2
          go_roundw
          case rel =>
           refine ⟨j + 1, by go_num, by omega, fun q hq => ?_, HBN.out⟩
           rcases Nat.lt_succ_iff_lt_or_eq.1 hq with h | rfl
           ·exact HZ2.out q h
           ·exact HCBB.out
          case measure => simp [intOf]; omega
        ·have g2 : decide (ux < ty) = false := by simpa using hc2
         have HCBB : Hid (clB (tks L) b k j = false) := by unfold Hid; rw [HCB.out, g1, g2]; rfl
         clear hc1 hc2
         go_wp2_with fail
         refine wp_region_ext (by kernel_rfl) (by kernel_rfl) ?_
         iterate 37 (go_big_quiet_step (fail))
         refine wpQuiet_nil ?_
         intro w7 hb7
         have HBN := Lib.hid (keepBelow HBI.out hb7)
         clear hb7 e0 e1 e3 e4 e5 e6
         go_wp2
         go_roundw
         case rel =>
          refine ⟨j + 1, by go_num, by omega, fun q hq => ?_, HBN.out⟩
          rcases Nat.lt_succ_iff_lt_or_eq.1 hq with h | rfl
          ·exact HZ2.out q h
          ·exact HCBB.out
         case measure => simp [intOf]; omega
       ·have g1 : (y.1.rs == (ρ : Int)) = false := by simpa using hc1
        have HCBB : Hid (clB (tks L) b k j = false) := by unfold Hid; rw [HCB.out, g1]; rfl
        clear hc1
        go_wp2_with fail
        refine wp_region_ext (by kernel_rfl) (by kernel_rfl) ?_
        iterate 37 (go_big_quiet_step (fail))
        refine wpQuiet_nil ?_
        intro w7 hb7
        have HBN := Lib.hid (keepBelow HBI.out hb7)
        clear hb7 e0 e1 e3 e4 e5 e6
        go_wp2
        go_roundw
        case rel =>
         refine ⟨j + 1, by go_num, by omega, fun q hq => ?_, HBN.out⟩
         rcases Nat.lt_succ_iff_lt_or_eq.1 hq with h | rfl
         ·exact HZ2.out q h
         ·exact HCBB.out
        case measure => simp [intOf]; omega
      ·have hje : j = k := by omega
       subst hje
       have HOK : Hid (hB (tks L) (sts R) start b j = true) := by
        refine hs_iff.2 ?_
        rw [HSP.out, HSX.out, HTI.out]
        exact ⟨HIVT.out.1, HST.out, HIVT.out.2.1, HIVT.out.2.2, HNW.out, HAN.out, HZ2.out⟩
       have HBN := Lib.hid (keepBelow HBY.out HBU.out)
       have HLT2 := HLT.out
       go_wp2
       go_roundw
       case rel =>
        refine ⟨j + 1, by go_num, by omega, fun q hq => ?_, keepBelow HBr.out (keepBelow HBY0.out HBU.out)⟩
        rcases Nat.lt_succ_iff_lt_or_eq.1 hq with h | rfl
        ·exact HZ.out q h
        ·exact HOK.out
       case measure => simp [intOf]; omega
  ·have hkl : k = L.length := by omega
   subst hkl
   have hr : r = true := by rw [← HRE.out]; exact hs_yes (by rw [tks_length]; exact HNE.out) (fun i hi => HZ.out i (by rwa [tks_length] at hi))
   subst hr
   go_wp2
   go_ret
   exact ⟨rfl, HBr.out⟩
end Go.Proofs.YtlbjfbpejomkmaaGreat
