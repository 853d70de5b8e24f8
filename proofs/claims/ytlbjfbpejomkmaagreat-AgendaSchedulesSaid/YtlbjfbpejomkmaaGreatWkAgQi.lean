import Derived.Test.YtlbjfbpejomkmaaGreatWkAgQa
import Derived.Test.YtlbjfbpejomkmaaGreatWkAgPl
import Derived.Test.YtlbjfbpejomkmaaGreatWkPn
import Derived.Test.YtlbjfbpejomkmaaGreatWkAgQd
import Derived.Test.YtlbjfbpejomkmaaGreatWkAgQh
import Derived.Test.YtlbjfbpejomkmaaGreatWkRfE
import Derived.Test.YtlbjfbpejomkmaaGreatWkAgQe
import Derived.Test.YtlbjfbpejomkmaaGreatWkAgQc
import Derived.Test.YtlbjfbpejomkmaaGreatWkUn
import Derived.Test.YtlbjfbpejomkmaaGreatWkAgQf
/- Agenda, plain: adding over runs and gaps; what Next and Change say. -/
namespace Go.Proofs.YtlbjfbpejomkmaaGreat
namespace Wk

theorem pot_run {s : St} (h : GoodS s) : ∀ (k : Nat) (x : Int), (∀ z, x ≤ z → z < x + k → hasS s z = true) → potS s (x + k) = potS s x + k
 | 0, x, _ => by rw [show x + ((0 : Nat) : Int) = x by omega]; omega
 | k + 1, x, hz => by
  have h1 := pot_run h k x fun z a b => hz z a (by omega)
  have h2 := potS_steps h (x + k)
  rw [hz (x + k) (by omega) (by omega)] at h2
  rw [show x + ((k + 1 : Nat) : Int) = x + k + 1 by omega, h2, h1]
  simp [b2i]
  omega
theorem pot_full {s : St} (h : GoodS s) {x y : Int} (hxy : x ≤ y) (hz : ∀ z, x ≤ z → z < y → hasS s z = true) : potS s y = potS s x + (y - x) := by
 have := pot_run h (y - x).toNat x fun z a b => hz z a (by omega)
 rw [show x + ((y - x).toNat : Int) = y by omega] at this
 omega
theorem add_run {s : St} (h : GoodS s) {x n : Int} (hn : 0 < n) (hm : x + n ≤ 4398046511104) (hz : ∀ z, x ≤ z → z < x + n → hasS s z = true) : addM s x n = (x + n, 0) := by
 refine add_least h (by omega) (by omega) (by omega) hm (by rw [pot_full h (by omega) hz]; omega) fun y a b => ?_
 have := ((potS_steps h).mono x y a).2
 omega
theorem add_over {s : St} (h : GoodS s) {x n : Int} (hx : x ≤ 4398046511104) (hn : 4398046511104 < x + n) (hn0 : 0 < n) (hz : ∀ z, x ≤ z → z < 4398046511104 → hasS s z = true) : addM s x n = (0, 7) :=
 addM_no h hx (by omega) (by rw [pot_full h hx hz]; omega)
theorem add_skip {s : St} (h : GoodS s) {x e y n : Int} (hx : x ≤ e) (he : e ≤ y) (hy : y ≤ 4398046511104) (h1 : ∀ z, x ≤ z → z < e → hasS s z = true) (h2 : ∀ z, e ≤ z → z < y → hasS s z = false) (hn : e - x < n) :
  addM s x n = addM s y (n - (e - x)) := by
 have p1 := pot_full h hx h1
 have p2 := pot_same h he h2
 by_cases hc : n ≤ potS s 4398046511104 - potS s x
 ·obtain ⟨e2, a1, a2, a3, a4⟩ := addM_yes h (t := y) (n := n - (e - x)) hy (by omega) (by omega)
  rw [e2]
  refine add_least h (by omega) (by omega) (by omega) a4 (by omega) fun z b1 b2 => ?_
  have := ((potS_steps h).mono z (addLf s y (n - (e - x)) - 1) (by omega)).1
  rw [a1.2] at this
  omega
 ·rw [addM_no h (by omega) (by omega) (by omega), addM_no h hy (by omega) (by omega)]
theorem add_end {s : St} (h : GoodS s) {x e n : Int} (hx : x ≤ e) (he : e ≤ 4398046511104) (h1 : ∀ z, x ≤ z → z < e → hasS s z = true) (h2 : ∀ z, e ≤ z → z < 4398046511104 → hasS s z = false) (hn : e - x < n) :
  addM s x n = (0, 7) :=
 addM_no h (by omega) (by omega) (by rw [pot_same h he h2, pot_full h hx h1]; omega)
theorem next_not {h : Int → Bool} {x : Int} {q : Option Int} (hn : NextC h x q) : NextC (fun z => !h z) x q := by
 cases q with
 | none => exact fun z a => by show (!h (z - 1)) = !h z; rw [hn z a]
 | some y => exact ⟨hn.1, fun e => hn.2.1 (by simpa using e), fun z a b => by show (!h (z - 1)) = !h z; rw [hn.2.2 z a b]⟩
theorem next_full {h : Int → Bool} {x y : Int} (hx : h x = true) (hn : NextC h x (some y)) : x < y ∧ h y = false ∧ ∀ z, x ≤ z → z < y → h z = true := by
 obtain ⟨a, b, c⟩ := next_first (h := fun z => !h z) (by simp [hx]) (next_not hn)
 exact ⟨a, by simpa using b, fun z h1 h2 => by simpa using c z h1 h2⟩
theorem next_always {h : Int → Bool} {x : Int} (hx : h x = true) (hn : NextC h x none) : ∀ z, x ≤ z → h z = true := fun z a => by
 simpa using next_never (h := fun z => !h z) (by simp [hx]) (next_not hn) z a
theorem ch_step {s : St} {x : Int} {r : Option Int} (hl : lineB x = true) (hx : hasS s x = true) (hr : ChSpec true s x r) :
  (r = none ∧ ∀ z, x ≤ z → z < 4398046511104 → hasS s z = true) ∨ ∃ e, r = some e ∧ x < e ∧ e ≤ 4398046511104 ∧ hasS s e = false ∧ ∀ z, x ≤ z → z < e → hasS s z = true := by
 unfold ChSpec at hr
 rw [if_neg (by rw [hl]; simp)] at hr
 obtain ⟨q, hq, rfl⟩ := hr
 cases q with
 | none => exact Or.inl ⟨rfl, fun z a _ => next_always hx hq z a⟩
 | some y =>
  obtain ⟨a, b, c⟩ := next_full hx hq
  by_cases hy : 4398046511104 < y
  ·exact Or.inl ⟨by unfold onLine; simp only [if_pos hy], fun z h1 h2 => c z h1 (by omega)⟩
  ·exact Or.inr ⟨y, by unfold onLine; simp only [if_neg hy], a, by omega, b, c⟩
theorem ne_step {s : St} {x : Int} {r : Option Int} (hl : lineB x = true) (hr : NeSpec true s x r) :
  (r = none ∧ ∀ z, x ≤ z → z < 4398046511104 → hasS s z = false) ∨ ∃ y, r = some y ∧ x ≤ y ∧ y ≤ 4398046511104 ∧ hasS s y = true ∧ ∀ z, x ≤ z → z < y → hasS s z = false := by
 have hb := (lineB_iff x).1 hl
 unfold NeSpec at hr
 rw [if_neg (by rw [hl]; simp)] at hr
 by_cases hx : hasS s x = true
 ·rw [if_pos hx] at hr
  exact Or.inr ⟨x, hr, Int.le_refl _, hb.2, hx, fun z a b => by omega⟩
 ·rw [if_neg hx] at hr
  have hx : hasS s x = false := by simpa using hx
  obtain ⟨q, hq, rfl⟩ := hr
  cases q with
  | none => exact Or.inl ⟨rfl, fun z a _ => next_never hx hq z a⟩
  | some y =>
   obtain ⟨a, b, c⟩ := next_first hx hq
   by_cases hy : 4398046511104 < y
   ·exact Or.inl ⟨by unfold onLine; simp only [if_pos hy], fun z h1 h2 => c z h1 (by omega)⟩
   ·exact Or.inr ⟨y, by unfold onLine; simp only [if_neg hy], by omega, by omega, b, c⟩
def earR (s : St) (f x n : Int) : Option Sp := if (addM s x n).2 ≠ 0 then none else some (f, (addM s x n).1)
theorem ear_fits {s : St} (h : GoodS s) {f x n : Int} (hn : 0 < n) (hm : x + n ≤ 4398046511104) (hz : ∀ z, x ≤ z → z < x + n → hasS s z = true) : earR s f x n = some (f, x + n) := by
 unfold earR
 rw [add_run h hn hm hz]
 simp
theorem ear_over {s : St} (h : GoodS s) {f x n : Int} (hx : x ≤ 4398046511104) (hn : 4398046511104 < x + n) (hn0 : 0 < n) (hz : ∀ z, x ≤ z → z < 4398046511104 → hasS s z = true) : earR s f x n = none := by
 unfold earR
 rw [add_over h hx hn hn0 hz]
 simp
theorem ear_skip {s : St} (h : GoodS s) {f x e y n : Int} (hx : x ≤ e) (he : e ≤ y) (hy : y ≤ 4398046511104) (h1 : ∀ z, x ≤ z → z < e → hasS s z = true) (h2 : ∀ z, e ≤ z → z < y → hasS s z = false) (hn : e - x < n) : earR s f x n = earR s f y (n - (e - x)) := by
 unfold earR
 rw [add_skip h hx he hy h1 h2 hn]
theorem ear_end {s : St} (h : GoodS s) {f x e n : Int} (hx : x ≤ e) (he : e ≤ 4398046511104) (h1 : ∀ z, x ≤ z → z < e → hasS s z = true) (h2 : ∀ z, e ≤ z → z < 4398046511104 → hasS s z = false) (hn : e - x < n) : earR s f x n = none := by
 unfold earR
 rw [add_end h hx he h1 h2 hn]
 simp
theorem earl_R {s : St} (h : GoodS s) {n x f : Int} (hx : x ≤ f) (hf : f ≤ 4398046511104) (hh : hasS s f = true) (hz : ∀ z, x ≤ z → z < f → hasS s z = false) (hn : 0 < n) : earlM s n x = earR s f f n := earl_at h hx hf hh hz hn
end Wk
end Go.Proofs.YtlbjfbpejomkmaaGreat
namespace Go.Proofs.YtlbjfbpejomkmaaGreat
open Go.RowKit Wk

set_option maxRecDepth 100000 in
set_option maxHeartbeats 4000000 in
theorem earl48_any (s : St) (vl vr vv : Value) (n X : Int) (w : World) (h : RdSt w s vl vr vv) (hb : VB s = true) (hX : -4398046511104 ≤ X) (hX2 : X ≤ 1152921504606846976) (hw1 : 1 ≤ n) (hw2 : n ≤ 4398046511104) :
  Calls Tryz.prog 78 #[.agg #[.int .i64 s.lf.1, vl, .int .i64 s.rt.1, vr, .int .i64 s.fr, .int .i64 s.to, vv], .int .i64 n, .int .i64 X] w (EaPost (earlM s n X) w) := by
 have HG := Lib.hid (okS_of_VB hb).good
 have HO := Lib.hid (okS_of_VB hb)
 have HN := Lib.hid (fun x W h => next14_any s vl vr vv x W h HO.out)
 have HC := Lib.hid (fun x W h => change14_any s vl vr vv x W h HO.out)
 have HLI := Lib.hid (fun W => line48_any X W)
 obtain ⟨r, hr⟩ : ∃ r, earlM s n X = r := ⟨_, rfl⟩
 rw [hr]
 have HRE := Lib.hid hr
 clear hr
 have HR0 := Lib.hid h
 obtain ⟨a1, n1, rfl⟩ := h.1.form
 obtain ⟨a2, n2, rfl⟩ := h.2.1.form
 obtain ⟨a3, n3, rfl⟩ := h.2.2.form
 clear h hb
 obtain ⟨W, hWe⟩ : ∃ W, (w.alloc (.cells #[.int .i64 s.lf.1, .slice a1 s.lf.2.length n1, .int .i64 s.rt.1, .slice a2 s.rt.2.length n2, .int .i64 s.fr, .int .i64 s.to, .slice a3 s.l.length n3] 54)).alloc (.cells #[.int .i64 0, .int .i64 0] 46) = W := ⟨_, rfl⟩
 have hW : Below w.heap.size w W := by rw [← hWe]; exact ((Below.refl _ w).alloc (Nat.le_refl _) _).alloc (by simp) _
 have HX : Hid (Set7 W w.heap.size (.int .i64 s.lf.1) (.slice a1 s.lf.2.length n1) (.int .i64 s.rt.1) (.slice a2 s.rt.2.length n2) (.int .i64 s.fr) (.int .i64 s.to) (.slice a3 s.l.length n3)) := by
  rw [← hWe]
  refine ⟨⟨?_, ?_, ?_, ?_, ?_, ?_, ?_⟩, ?_, ?_, ?_, ?_, ?_, ?_, ?_⟩ <;> simp [go_sem]
 have HZ : Hid (BoxS W (w.heap.size + 1) 0 0) := by
  rw [← hWe]
  refine ⟨?_, ?_, ?_, ?_⟩ <;> simp [go_sem]
 have HR := Lib.hid (keepSt hW HR0.out)
 have HE := Lib.hid hWe
 have HB := Lib.hid hW
 clear hWe HR0 hW
 obtain ⟨ln, hln⟩ : ∃ ln, lineB X = ln := ⟨_, rfl⟩
 rw [hln] at HLI
 have HLN := Lib.hid hln
 clear hln
 go_enter Tryz.func78, Tryz.ntmps78
 go_upto_region 1 with fail
 rw [HE.out]
 clear HE
 go_wp2_with fail
 refine (HLI.out _).mono ?_
 rintro e w0 ⟨rfl, rfl⟩
 cases ln with
 | false =>
  have hr : r = none := by
   rw [← HRE.out]
   unfold earlM
   rw [if_pos]
   have := HLN.out
   rcases (by omega : 4398046511104 < X ∨ X ≤ 4398046511104) with g | g
   ·exact g
   ·rw [(lineB_iff X).2 ⟨hX, g⟩] at this; cases this
  subst hr
  obtain ⟨Z0, Z1, Z2, Z3⟩ := HZ.out
  go_wp2
  change bodyPost _ _ _ _ _ (puS W (w.heap.size + 1) (.int .i64 0) (.int .i64 0))
  obtain ⟨r0, r1⟩ := puS_at (.int .i64 0) (.int .i64 0) HZ.out
  have hBZ := puS_below (.int .i64 0) (.int .i64 0) HB.out (b := w.heap.size + 1) (by omega)
  generalize puS W (w.heap.size + 1) (.int .i64 0) (.int .i64 0) = Z at *
  refine bodyPost_ret (v := .tuple #[.agg #[.int .i64 0, .int .i64 0], .bool false]) (by simp [results, Tryz.results78, go_sem, r0, r1]) rfl ?_
  exact ⟨rfl, hBZ⟩
 | true =>
 obtain ⟨⟨A0, A1, A2, A3, A4, A5, A6⟩, -⟩ := HX.out
 go_wp2_with fail
 refine (HN.out _ _ HR.out).mono ?_
 rintro e w1 ⟨q, hq, rfl, hb1⟩
 have HQ := Lib.hid (ne_step HLN.out hq)
 have HX1 := Lib.hid (HX.out.below hb1)
 have HZ1 := Lib.hid (HZ.out.below hb1)
 have HR1 := Lib.hid (keepSt hb1 HR.out)
 have HB1 := Lib.hid (keepBelow HB.out hb1)
 clear hb1 hq A0 A1 A2 A3 A4 A5 A6 HX HZ HR HB
 rcases HQ.out with ⟨rfl, hn⟩ | ⟨f, rfl, hf1, hf2, hf3, hf4⟩
 ·have hr : r = none := by rw [← HRE.out]; exact earl_no HG.out hn (by omega)
  subst hr
  clear hn HQ
  obtain ⟨Z0, Z1, Z2, Z3⟩ := HZ1.out
  go_wp2
  change bodyPost _ _ _ _ _ (puS w1 (w.heap.size + 1) (.int .i64 0) (.int .i64 0))
  obtain ⟨r0, r1⟩ := puS_at (.int .i64 0) (.int .i64 0) HZ1.out
  have hBZ := puS_below (.int .i64 0) (.int .i64 0) HB1.out (b := w.heap.size + 1) (by omega)
  generalize puS w1 (w.heap.size + 1) (.int .i64 0) (.int .i64 0) = Z at *
  refine bodyPost_ret (v := .tuple #[.agg #[.int .i64 0, .int .i64 0], .bool false]) (by simp [results, Tryz.results78, go_sem, r0, r1]) rfl ?_
  exact ⟨rfl, hBZ⟩
 have HER : Hid (earR s f f n = r) := by rw [← HRE.out]; exact (earl_R HG.out hf1 hf2 hf3 hf4 (by omega)).symm
 have HF3 := Lib.hid hf3
 have HXF := Lib.hid hf1
 clear hf3 hf4 hf1 HQ HRE
 go_wp2_with fail
 go_loopw [10, 11] (fun u10 u11 wr => ∃ at' rest : Int, u10 = .int .i64 at' ∧ u11 = .int .i64 rest ∧ -4398046511104 ≤ at' ∧ at' ≤ 4398046511104 ∧ 0 < rest ∧ rest ≤ 4398046511104 ∧ Hid (hasS s at' = true) ∧ Hid (earR s f at' rest = r) ∧ Hid (Below w1.heap.size w1 wr)) (fun u10 _ _ => (4398046511104 - intOf u10).toNat)
 case atStart => exact ⟨f, n, rfl, rfl, by have := HXF.out; omega, hf2, by omega, hw2, HF3.out, HER.out, Below.refl _ _⟩
 case round =>
  obtain ⟨x, m, rfl, rfl, hx1, hx2, hm0, hm1, HHX, HEX, HBr⟩ := hrel
  have HX2 := Lib.hid (HX1.out.below HBr.out)
  have HZ2 := Lib.hid (HZ1.out.below HBr.out)
  have HR2 := Lib.hid (keepSt HBr.out HR1.out)
  obtain ⟨⟨A0, A1, A2, A3, A4, A5, A6⟩, -⟩ := HX2.out
  have HLX : Hid (lineB x = true) := (lineB_iff x).2 ⟨hx1, hx2⟩
  go_wp2_with fail
  refine (HC.out _ _ HR2.out).mono ?_
  rintro e w3 ⟨q, hq, rfl, hb3⟩
  have HQ := Lib.hid (ch_step HLX.out HHX.out hq)
  have HX3 := Lib.hid (HX2.out.below hb3)
  have HZ3 := Lib.hid (HZ2.out.below hb3)
  have HR3 := Lib.hid (keepSt hb3 HR2.out)
  have HBR := Lib.hid (keepBelow HBr.out hb3)
  have HB3 := Lib.hid (keepBelow HB1.out HBR.out)
  clear hb3 hq A0 A1 A2 A3 A4 A5 A6 HX2 HZ2 HR2
  rcases HQ.out with ⟨rfl, hn⟩ | ⟨c, rfl, hc1, hc2, hc3, hc4⟩
  ·have HNN := Lib.hid hn
   clear hn HQ
   by_cases hov : 4398046511104 < x + m
   ·have g3 : decide (4398046511104 < x + m) = true := by simpa using hov
    have hr : r = none := by rw [← HEX.out]; exact ear_over HG.out hx2 hov hm0 HNN.out
    subst hr
    clear hov
    obtain ⟨Z0, Z1, Z2, Z3⟩ := HZ3.out
    go_wp2
    change bodyPost _ _ _ _ _ (puS w3 (w.heap.size + 1) (.int .i64 0) (.int .i64 0))
    obtain ⟨r0, r1⟩ := puS_at (.int .i64 0) (.int .i64 0) HZ3.out
    have hBZ := puS_below (.int .i64 0) (.int .i64 0) HB3.out (b := w.heap.size + 1) (by omega)
    generalize puS w3 (w.heap.size + 1) (.int .i64 0) (.int .i64 0) = Z at *
    refine bodyPost_ret (v := .tuple #[.agg #[.int .i64 0, .int .i64 0], .bool false]) (by simp [results, Tryz.results78, go_sem, r0, r1]) rfl ?_
    exact ⟨rfl, hBZ⟩
   ·have g3 : decide (4398046511104 < x + m) = false := by simpa using hov
    have hr : r = some (f, x + m) := by rw [← HEX.out]; exact ear_fits HG.out hm0 (by omega) (fun z a b => HNN.out z a (by omega))
    subst hr
    clear hov
    obtain ⟨Z0, Z1, Z2, Z3⟩ := HZ3.out
    go_wp2
    change bodyPost _ _ _ _ _ (puS w3 (w.heap.size + 1) (.int .i64 f) (.int .i64 (x + m)))
    obtain ⟨r0, r1⟩ := puS_at (.int .i64 f) (.int .i64 (x + m)) HZ3.out
    have hBZ := puS_below (.int .i64 f) (.int .i64 (x + m)) HB3.out (b := w.heap.size + 1) (by omega)
    generalize puS w3 (w.heap.size + 1) (.int .i64 f) (.int .i64 (x + m)) = Z at *
    refine bodyPost_ret (v := .tuple #[.agg #[.int .i64 f, .int .i64 (x + m)], .bool true]) (by simp [results, Tryz.results78, go_sem, r0, r1]) rfl ?_
    exact ⟨rfl, hBZ⟩
  ·have HC3 := Lib.hid hc3
   have HC4 := Lib.hid hc4
   clear hc3 hc4 HQ
   by_cases hge : m ≤ c - x
   ·have g3 : decide (m ≤ c - x) = true := by simpa using hge
    have g4 : decide (4398046511104 < x + m) = false := by simp; omega
    have hr : r = some (f, x + m) := by rw [← HEX.out]; exact ear_fits HG.out hm0 (by omega) (fun z a b => HC4.out z a (by omega))
    subst hr
    clear hge
    obtain ⟨Z0, Z1, Z2, Z3⟩ := HZ3.out
    go_wp2
    change bodyPost _ _ _ _ _ (puS w3 (w.heap.size + 1) (.int .i64 f) (.int .i64 (x + m)))
    obtain ⟨r0, r1⟩ := puS_at (.int .i64 f) (.int .i64 (x + m)) HZ3.out
    have hBZ := puS_below (.int .i64 f) (.int .i64 (x + m)) HB3.out (b := w.heap.size + 1) (by omega)
    generalize puS w3 (w.heap.size + 1) (.int .i64 f) (.int .i64 (x + m)) = Z at *
    refine bodyPost_ret (v := .tuple #[.agg #[.int .i64 f, .int .i64 (x + m)], .bool true]) (by simp [results, Tryz.results78, go_sem, r0, r1]) rfl ?_
    exact ⟨rfl, hBZ⟩
   ·have g3 : decide (m ≤ c - x) = false := by simpa using hge
    have hge' : c - x < m := by omega
    have HLC : Hid (lineB c = true) := (lineB_iff c).2 ⟨by omega, hc2⟩
    clear hge
    obtain ⟨⟨A0, A1, A2, A3, A4, A5, A6⟩, -⟩ := HX3.out
    go_wp2_with fail
    refine (HN.out _ _ HR3.out).mono ?_
    rintro e w4 ⟨q, hq, rfl, hb4⟩
    have HQ := Lib.hid (ne_step HLC.out hq)
    have HZ4 := Lib.hid (HZ3.out.below hb4)
    have HBR4 := Lib.hid (keepBelow HBR.out hb4)
    have HB4 := Lib.hid (keepBelow HB3.out hb4)
    clear hb4 hq A0 A1 A2 A3 A4 A5 A6
    rcases HQ.out with ⟨rfl, hn⟩ | ⟨y, rfl, hy1, hy2, hy3, hy4⟩
    ·have hr : r = none := by rw [← HEX.out]; exact ear_end HG.out (by omega) hc2 HC4.out hn hge'
     subst hr
     clear hn HQ
     obtain ⟨Z0, Z1, Z2, Z3⟩ := HZ4.out
     go_wp2
     change bodyPost _ _ _ _ _ (puS w4 (w.heap.size + 1) (.int .i64 0) (.int .i64 0))
     obtain ⟨r0, r1⟩ := puS_at (.int .i64 0) (.int .i64 0) HZ4.out
     have hBZ := puS_below (.int .i64 0) (.int .i64 0) HB4.out (b := w.heap.size + 1) (by omega)
     generalize puS w4 (w.heap.size + 1) (.int .i64 0) (.int .i64 0) = Z at *
     refine bodyPost_ret (v := .tuple #[.agg #[.int .i64 0, .int .i64 0], .bool false]) (by simp [results, Tryz.results78, go_sem, r0, r1]) rfl ?_
     exact ⟨rfl, hBZ⟩
    ·have HEY : Hid (earR s f y (m - (c - x)) = r) := by rw [← HEX.out]; exact (ear_skip HG.out (by omega) hy1 hy2 HC4.out hy4 hge').symm
     have HY3 := Lib.hid hy3
     clear hy3 hy4 HQ
     go_wp2
     go_roundw
     case rel => exact ⟨y, m - (c - x), by first | rfl | go_num, by first | rfl | go_num, by omega, hy2, by omega, by omega, HY3.out, HEY.out, HBR4.out⟩
     case measure => simp [intOf]; omega
end Go.Proofs.YtlbjfbpejomkmaaGreat
namespace Go.Proofs.YtlbjfbpejomkmaaGreat
open Go.RowKit Wk

structure SeW (W : World) (b : Nat) (vl vR : Value) (start left : Int) : Prop where
 c0 : W.cell? ⟨b, 0, none⟩ = some vl
 c1 : W.cell? ⟨b, 1, none⟩ = some vR
 c2 : W.cell? ⟨b, 2, none⟩ = some (.int .i64 start)
 c3 : W.cell? ⟨b, 3, none⟩ = some (.int .i64 left)
 f3 : W.frozen? ⟨b, 3, none⟩ = false
theorem SeW.below {W X : World} {b : Nat} {vl vR : Value} {start left : Int} (h : SeW W b vl vR start left) (hb : Below W.heap.size W X) : SeW X b vl vR start left :=
 ⟨keepCell hb h.c0, keepCell hb h.c1, keepCell hb h.c2, keepCell hb h.c3, keepFz hb h.c3 h.f3⟩
theorem SeW.setLeft {W : World} {b : Nat} {vl vR : Value} {start left : Int} (h : SeW W b vl vR start left) (x : Int) : SeW (W.setCell ⟨b, 3, none⟩ (.int .i64 x)) b vl vR start x :=
 ⟨(cell_ne (Or.inr (by decide))).trans h.c0, (cell_ne (Or.inr (by decide))).trans h.c1, (cell_ne (Or.inr (by decide))).trans h.c2, cell_eq h.c3, (frz_set ..).trans h.f3⟩
def frB (l : List Tk) (a : List Sp) (i k : Nat) (x : Int) : Bool := ((tkAt l i).af.contains (k : Int) || reOf l k == reOf l i) && decide (x < (spAt a k).2)
theorem fromR_snoc (l : List Tk) (a : List Sp) (i : Nat) (dn : List Nat) (k : Nat) (x : Int) : fromR l a i (dn ++ [k]) x = if frB l a i k (fromR l a i dn x) = true then (spAt a k).2 else fromR l a i dn x := by
 unfold fromR frB
 rw [List.foldl_append]
 rfl
theorem take_snoc' {dn : List Nat} {k : Nat} (h : k < dn.length) : dn.take (k + 1) = dn.take k ++ [dn.getD k 0] := by
 rw [List.take_add_one, List.getElem?_eq_getElem h, List.getD_eq_getElem?_getD, List.getElem?_eq_getElem h]
 rfl
theorem ext_rdJ {W : World} {v : Value} {l : List Int} (h : RdJ W v l) : ∀ x : Ext W, RdJ (extOf W x) v l := fun x => h.below x.2

set_option maxRecDepth 100000 in
set_option maxHeartbeats 8000000 in
theorem from48_any (vl vR vd va : Value) (b : Nat) (start left : Int) (L : List Kv) (dn : List Nat) (a : List Sp) (i : Nat) (w : World) (hS : SeW w b vl vR start left) (hL : RdK w vl L) (hd : RdJ w vd (natI dn)) (ha : RdS w va a)
  (hi : i < L.length) (hdn : ∀ k ∈ dn, k < L.length) (hal : a.length = L.length) (hlen : L.length ≤ 24) (hrs : ∀ k, k < L.length → 0 ≤ (tkAt (tks L) k).rs) :
  Calls Tryz.prog 79 #[.pointer (some ⟨b, 0, none⟩), vd, va, .int .i64 (i : Nat)] w fun e w' => e = .returned (.int .i64 (fromR (tks L) a i dn start)) ∧ Below w.heap.size w w' := by
 have HS := Lib.hid hS
 obtain ⟨al, cl, rfl, hl1, hc⟩ := hL
 obtain ⟨ad, cd, rfl, hl2, hcd⟩ := hd
 obtain ⟨aa, ca, rfl, hl3, hca⟩ := ha
 rw [natI_length] at hl2 hcd
 obtain ⟨hji, bl, ol, rfl, i0, i1, i2, i3, i4⟩ := hc i hi
 obtain ⟨y, hy⟩ : ∃ y, L.getD i kv0 = y := ⟨_, rfl⟩
 rw [hy] at hji i0 i1 i2 i3 i4
 obtain ⟨ay, ny, ey⟩ := hji.form
 rw [ey] at i3 hji
 have HTI : Hid (tkAt (tks L) i = y.1) := by unfold Hid; rw [tks_at, hy]
 have HHS := Lib.hid (fun x W h => has48_any (.slice ay y.1.af.length ny) y.1.af x W h)
 have HJ := Lib.hid hji
 have HI2 := Lib.hid (And.intro i2 i3)
 have HC := Lib.hid hc
 have HCD := Lib.hid hcd
 have HCA := Lib.hid hca
 have HDN := Lib.hid hdn
 have HRS := Lib.hid hrs
 have HAL := Lib.hid hal
 have c2 := HS.out.c2
 clear hS hc hcd hca hdn hrs hal hji i0 i1 i2 i3 i4 hy ey
 go_enter Tryz.func79, Tryz.ntmps79
 rw [natI_length]
 go_wp2_with fail
 go_loopw [9, 10] (fun u v wr => ∃ k : Nat, v = .int .i64 k ∧ k ≤ dn.length ∧ u = .int .i64 (fromR (tks L) a i (dn.take k) start) ∧ Hid (Below w.heap.size w wr)) (fun _ v _ => dn.length - (intOf v).toNat)
 case atStart => exact ⟨0, rfl, Nat.zero_le _, rfl, Below.refl _ _⟩
 case round =>
  obtain ⟨k, rfl, hk, rfl, HBr⟩ := hrel
  by_cases hlt : k < dn.length
  ·obtain ⟨gd, od, rfl, v1⟩ := HCD.out k hlt
   rw [natI_getD] at v1
   obtain ⟨j, hj⟩ : ∃ j, dn.getD k 0 = j := ⟨_, rfl⟩
   rw [hj] at v1
   have hjl : j < L.length := HDN.out j (by rw [← hj]; exact getD_in hlt)
   obtain ⟨-, bl2, ol2, ebl, -, -, j2, -, -⟩ := HC.out j hjl
   cases ebl
   obtain ⟨z, hz⟩ : ∃ z, L.getD j kv0 = z := ⟨_, rfl⟩
   rw [hz] at j2
   have hja : j < a.length := by have := HAL.out; omega
   obtain ⟨ga, oa, rfl, t1, t2⟩ := HCA.out j hja
   obtain ⟨ty, hty⟩ : ∃ t, (a.getD j (0, 0)).2 = t := ⟨_, rfl⟩
   rw [hty] at t2
   obtain ⟨x, hx⟩ : ∃ x, fromR (tks L) a i (dn.take k) start = x := ⟨_, rfl⟩
   rw [hx]
   have HSN : Hid (fromR (tks L) a i (dn.take (k + 1)) start = if ((y.1.af.contains (j : Int) || z.1.rs == y.1.rs) && decide (x < ty)) = true then ty else x) := by
    unfold Hid
    rw [take_snoc' hlt, hj, fromR_snoc, hx]
    unfold frB spAt
    rw [HTI.out, hty]
    have e : (reOf (tks L) j == reOf (tks L) i) = (z.1.rs == y.1.rs) := by
     have h1 := HRS.out j hjl
     have h2 := HRS.out i hi
     rw [tks_at, hz] at h1
     rw [HTI.out] at h2
     unfold reOf
     rw [HTI.out, tks_at, hz, Bool.eq_iff_iff]
     simp
     omega
    rw [e]
   have d1 := keepCell HBr.out v1
   have e1 := ext_cell (keepCell HBr.out HS.out.c0)
   have e2 := ext_cell (keepCell HBr.out HI2.out.1)
   have e3 := ext_cell (keepCell HBr.out HI2.out.2)
   have e4 := ext_cell (keepCell HBr.out j2)
   have e5 := ext_cell (keepCell HBr.out t2)
   have d5 := keepCell HBr.out t2
   have HJr := Lib.hid (HJ.out.below HBr.out)
   have s1 : (i : Int) < (L.length : Int) := by omega
   have s2 : (j : Int) < (L.length : Int) := by omega
   have s3 : (j : Int) < (a.length : Int) := by omega
   obtain ⟨cn, hcn⟩ : ∃ c, y.1.af.contains (j : Int) = c := ⟨_, rfl⟩
   have HCN := Lib.hid hcn
   rw [hcn] at HSN
   clear v1 hj j2 t1 t2 hz hty hx hcn
   have fin : ∀ (bb : Bool), ((cn || z.1.rs == y.1.rs) && decide (x < ty)) = bb → Hid (fromR (tks L) a i (dn.take (k + 1)) start = if bb = true then ty else x) := fun bb h => by rw [← h]; exact HSN
   have HFI := Lib.hid fin
   clear fin
   have HCO : Hid (∀ W, RdJ W (.slice ay y.1.af.length ny) y.1.af → Calls Tryz.prog 106 #[.slice ay y.1.af.length ny, .int .i64 (j : Nat)] W fun e w' => e = .returned (.bool cn) ∧ w' = W) := fun W h => by rw [← HCN.out]; exact HHS.out _ W h
   cases cn with
   | true =>
    by_cases hlt2 : x < ty
    ·have g3 : decide (x < ty) = true := by simpa using hlt2
     have HF := HFI.out true (by rw [g3]; rfl)
     clear hlt2
     go_wp2_with fail
     refine wp_region_ext (by kernel_rfl) (by kernel_rfl) ?_
     iterate 38 (go_big_quiet_step ((first | (go_at_call 106; refine calls_ext_same ((HCO.out _ (ext_rdJ HJr.out _)).mono fun _ _ hh => ⟨hh.1, hh.2.symm⟩)))))
     refine wpQuiet_nil ?_
     intro w2 hb2
     have HB2 := Lib.hid (keepBelow HBr.out hb2)
     have f5 := keepCell hb2 d5
     clear hb2 e1 e2 e3 e4 e5 d1 d5
     go_wp2
     go_roundw
     case rel => exact ⟨k + 1, by go_num, by omega, by rw [HF.out]; rfl, HB2.out⟩
     case measure => simp [intOf]; omega
    ·have g3 : decide (x < ty) = false := by simpa using hlt2
     have HF := HFI.out false (by rw [g3]; rfl)
     clear hlt2
     go_wp2_with fail
     refine wp_region_ext (by kernel_rfl) (by kernel_rfl) ?_
     iterate 38 (go_big_quiet_step ((first | (go_at_call 106; refine calls_ext_same ((HCO.out _ (ext_rdJ HJr.out _)).mono fun _ _ hh => ⟨hh.1, hh.2.symm⟩)))))
     refine wpQuiet_nil ?_
     intro w2 hb2
     have HB2 := Lib.hid (keepBelow HBr.out hb2)
     have f5 := keepCell hb2 d5
     clear hb2 e1 e2 e3 e4 e5 d1 d5
     go_wp2
     go_roundw
     case rel => exact ⟨k + 1, by go_num, by omega, by rw [HF.out]; rfl, HB2.out⟩
     case measure => simp [intOf]; omega
   | false =>
    by_cases hrs : z.1.rs = y.1.rs
    ·by_cases hlt2 : x < ty
     ·have g2 : (z.1.rs == y.1.rs) = true := by simpa using hrs
      have g3 : decide (x < ty) = true := by simpa using hlt2
      have HF := HFI.out true (by rw [g2,g3]; rfl)
      clear hrs
      clear hlt2
      go_wp2_with fail
      refine wp_region_ext (by kernel_rfl) (by kernel_rfl) ?_
      iterate 38 (go_big_quiet_step ((first | (go_at_call 106; refine calls_ext_same ((HCO.out _ (ext_rdJ HJr.out _)).mono fun _ _ hh => ⟨hh.1, hh.2.symm⟩)))))
      refine wpQuiet_nil ?_
      intro w2 hb2
      have HB2 := Lib.hid (keepBelow HBr.out hb2)
      have f5 := keepCell hb2 d5
      clear hb2 e1 e2 e3 e4 e5 d1 d5
      go_wp2
      go_roundw
      case rel => exact ⟨k + 1, by go_num, by omega, by rw [HF.out]; rfl, HB2.out⟩
      case measure => simp [intOf]; omega
     ·have g2 : (z.1.rs == y.1.rs) = true := by simpa using hrs
      have g3 : decide (x < ty) = false := by simpa using hlt2
      have HF := HFI.out false (by rw [g2,g3]; rfl)
      clear hrs
      clear hlt2
      go_wp2_with fail
      refine wp_region_ext (by kernel_rfl) (by kernel_rfl) ?_
      iterate 38 (go_big_quiet_step ((first | (go_at_call 106; refine calls_ext_same ((HCO.out _ (ext_rdJ HJr.out _)).mono fun _ _ hh => ⟨hh.1, hh.2.symm⟩)))))
      refine wpQuiet_nil ?_
      intro w2 hb2
      have HB2 := Lib.hid (keepBelow HBr.out hb2)
      have f5 := keepCell hb2 d5
      clear hb2 e1 e2 e3 e4 e5 d1 d5
      go_wp2
      go_roundw
      case rel => exact ⟨k + 1, by go_num, by omega, by rw [HF.out]; rfl, HB2.out⟩
      case measure => simp [intOf]; omega
    ·have g2 : (z.1.rs == y.1.rs) = false := by simpa using hrs
     have HF := HFI.out false (by rw [g2]; rfl)
     clear hrs
     go_wp2_with fail
     refine wp_region_ext (by kernel_rfl) (by kernel_rfl) ?_
     iterate 38 (go_big_quiet_step ((first | (go_at_call 106; refine calls_ext_same ((HCO.out _ (ext_rdJ HJr.out _)).mono fun _ _ hh => ⟨hh.1, hh.2.symm⟩)))))
     refine wpQuiet_nil ?_
     intro w2 hb2
     have HB2 := Lib.hid (keepBelow HBr.out hb2)
     have f5 := keepCell hb2 d5
     clear hb2 e1 e2 e3 e4 e5 d1 d5
     go_wp2
     go_roundw
     case rel => exact ⟨k + 1, by go_num, by omega, by rw [HF.out]; rfl, HB2.out⟩
     case measure => simp [intOf]; omega
  ·have hke : k = dn.length := by omega
   subst hke
   have HT : Hid (fromR (tks L) a i (dn.take dn.length) start = fromR (tks L) a i dn start) := by unfold Hid; rw [List.take_length]
   go_wp2
   go_ret
   exact ⟨ret_int HT.out, HBr.out⟩
end Go.Proofs.YtlbjfbpejomkmaaGreat
namespace Go.Proofs.YtlbjfbpejomkmaaGreat
open Go.RowKit Wk

def freeU (l : List Tk) (d : List Bool) (i q : Nat) : Bool := !(d.getD i false) && ((tkAt l i).af.take q).all fun j => d.getD j.toNat false
theorem freeU_zero (l : List Tk) (d : List Bool) (i : Nat) : freeU l d i 0 = !(d.getD i false) := by simp [freeU]
theorem freeU_succ (l : List Tk) (d : List Bool) (i q : Nat) (hq : q < (tkAt l i).af.length) : freeU l d i (q + 1) = (freeU l d i q && d.getD ((tkAt l i).af.getD q 0).toNat false) := by
 unfold freeU
 rw [List.take_add_one, List.getElem?_eq_getElem hq, List.all_append, List.getD_eq_getElem?_getD (l := (tkAt l i).af), List.getElem?_eq_getElem hq]
 simp [Bool.and_assoc]
theorem freeU_all (l : List Tk) (d : List Bool) (i : Nat) : freeU l d i (tkAt l i).af.length = freeB l d i := by unfold freeU freeB; rw [List.take_length]
theorem natI_split (o : List Nat) (q i : Nat) : natI (o.take q ++ i :: o.drop q) = (natI o).take q ++ (i : Int) :: (natI o).drop q := by
 unfold natI
 rw [List.map_append, List.map_cons, List.map_take, List.map_drop]
theorem readyU_lt {l : List Tk} {d : List Bool} {n j : Nat} (hj : j < (readyU l d n).length) : (readyU l d n).getD j 0 < n := by
 have h := (readyU_sorted l d n).2.mem_iff.1 (getD_in (d := 0) hj)
 exact List.mem_range.1 (List.mem_filter.1 h).1
theorem readyU_len (l : List Tk) (d : List Bool) (n : Nat) : (readyU l d n).length ≤ n := by
 have h := (readyU_sorted l d n).2.length_eq
 have := List.length_filter_le (freeB l d) (List.range n)
 rw [List.length_range] at this
 omega

set_option maxRecDepth 100000 in
set_option maxHeartbeats 16000000 in
theorem ready48_any (vl vd : Value) (L : List Kv) (dn : List Nat) (d : List Bool) (w : World) (hL : RdK w vl L) (hd : RdJ w vd (natI dn)) (hdd : ∀ k : Nat, (natI dn).contains (k : Int) = dAt d k) (hlen : L.length ≤ 24)
  (haf : ∀ i, i < L.length → ∀ j ∈ (tkAt (tks L) i).af, 0 ≤ j) : Calls Tryz.prog 77 #[vl, vd] w (RyPost (tks L) d w) := by
 have HL := Lib.hid hL
 have HD0 := Lib.hid hd
 have HDD := Lib.hid hdd
 have HAF := Lib.hid haf
 have HN := Lib.hid hlen
 obtain ⟨al, cl, rfl, _, _⟩ := hL
 obtain ⟨ad, cd, rfl, _, _⟩ := hd
 have HH := Lib.hid (fun x W h => has48_any (.slice ad (natI dn).length cd) (natI dn) x W h)
 clear hdd haf
 go_enter Tryz.func77, Tryz.ntmps77
 go_wp2_with fail
 go_loopw [5, 6] (fun u v wr => ∃ i : Nat, i ≤ L.length ∧ v = .int .i64 i ∧ OwnI wr w.heap.size u (natI (readyU (tks L) d i)) ∧ Below w.heap.size w wr) (fun _ v _ => L.length - (intOf v).toNat)
 case atStart => exact ⟨0, Nat.zero_le _, rfl, OwnI.nil _ _, Below.refl _ _⟩
 case round =>
  obtain ⟨i, hi, rfl, ho, hB⟩ := hrel
  by_cases hlt : i < L.length
  ·obtain ⟨al', cl', ea, _, hc⟩ := HL.out
   cases ea
   obtain ⟨hj, bl, ol, rfl, p0, p1, p2, p3, p4⟩ := hc i hlt
   obtain ⟨x, hx⟩ : ∃ x, L.getD i kv0 = x := ⟨_, rfl⟩
   rw [hx] at hj p0 p1 p2 p3 p4
   obtain ⟨ax, nx, ex⟩ := hj.form
   rw [ex] at p3 hj
   have HTI : Hid (tkAt (tks L) i = x.1) := by unfold Hid; rw [tks_at, hx]
   have HC := Lib.hid hc
   have HJ := Lib.hid hj
   have HP := Lib.hid (And.intro p3 p4)
   obtain ⟨o, hoe⟩ : ∃ o, readyU (tks L) d i = o := ⟨_, rfl⟩
   rw [hoe] at ho
   have HOE := Lib.hid hoe
   have HO := Lib.hid ho
   have HB := Lib.hid hB
   have HDR := Lib.hid (HD0.out.below hB)
   obtain ⟨nd, hnd⟩ : ∃ b, (natI dn).contains ((i : Nat) : Int) = b := ⟨_, rfl⟩
   have HNI := Lib.hid (HH.out (i : Nat) wr HDR.out)
   rw [hnd] at HNI
   have HFS : Hid (freeU (tks L) d i 0 = !nd) := by unfold Hid; rw [freeU_zero]; have := HDD.out i; rw [hnd] at this; rw [this]; rfl
   clear hc hj hx ex p0 p1 p2 p3 p4 hoe ho hB hnd
   go_wp2_with fail
   refine HNI.out.mono ?_
   rintro e w2 ⟨rfl, hw2⟩
   subst hw2
   have t3 := keepCell HB.out HP.out.1
   go_wp2_with fail
   go_loopw [7, 8] (fun u v wr' => ∃ q : Nat, v = .int .i64 q ∧ q ≤ x.1.af.length ∧ u = .bool (freeU (tks L) d i q) ∧ Hid (Below w.heap.size w wr') ∧ Hid (OwnI wr' w.heap.size u5 (natI o))) (fun _ v _ => x.1.af.length - (intOf v).toNat)
   case atStart => exact ⟨0, rfl, Nat.zero_le _, by rw [HFS.out], HB.out, HO.out⟩
   case round =>
    obtain ⟨q, rfl, hq, rfl, HBr, HOr⟩ := hrel
    have t3 := keepCell HBr.out HP.out.1
    by_cases hqa : q < x.1.af.length
    ·obtain ⟨fq, hfq⟩ : ∃ f, freeU (tks L) d i q = f := ⟨_, rfl⟩
     rw [hfq]
     have HFU := Lib.hid (freeU_succ (tks L) d i q (by rw [HTI.out]; exact hqa))
     rw [hfq, HTI.out] at HFU
     have HDW := Lib.hid (HD0.out.below HBr.out)
     obtain ⟨aj, cj, ej, hal, hcj⟩ := HJ.out.below HBr.out
     cases ej
     obtain ⟨bj, oj, rfl, v1⟩ := hcj q hqa
     obtain ⟨z, hz⟩ : ∃ z, x.1.af.getD q 0 = z := ⟨_, rfl⟩
     rw [hz] at v1 HFU
     have hz0 : 0 ≤ z := by
      have := HAF.out i hlt z (by rw [HTI.out, ← hz]; exact getD_in hqa)
      exact this
     obtain ⟨hd1, hhd⟩ : ∃ b, (natI dn).contains z = b := ⟨_, rfl⟩
     have HNZ := Lib.hid (HH.out z wr HDW.out)
     rw [hhd] at HNZ
     have HZD : Hid (d.getD z.toNat false = hd1) := by
      have := HDD.out z.toNat
      rw [show ((z.toNat : Nat) : Int) = z by omega, hhd] at this
      exact this.symm
     rw [HZD.out] at HFU
     have hqb : (q : Int) ≤ 1152921504606846976 := by omega
     clear hfq hcj hal hz hz0 hhd
     cases fq with
     | true =>
      go_wp2_with fail
      refine HNZ.out.mono ?_
      rintro e w3 ⟨rfl, hw3⟩
      subst hw3
      go_wp2
      go_roundw
      case rel => exact ⟨q + 1, by go_num, by omega, by rw [HFU.out]; rfl, HBr.out, HOr.out⟩
      case measure => simp [intOf]; omega
     | false =>
      go_wp2
      go_roundw
      case rel => exact ⟨q + 1, by go_num, by omega, by rw [HFU.out]; rfl, HBr.out, HOr.out⟩
      case measure => simp [intOf]; omega
    ·have hqe : q = x.1.af.length := by omega
     subst hqe
     have HFA : Hid (freeU (tks L) d i x.1.af.length = freeB (tks L) d i) := by
      have := freeU_all (tks L) d i
      rw [HTI.out] at this
      exact this
     rw [HFA.out]
     obtain ⟨fb, hfb⟩ : ∃ f, freeB (tks L) d i = f := ⟨_, rfl⟩
     rw [hfb]
     have HIN0 : Hid (readyU (tks L) d (i + 1) = if fb = true then insD (tks L) i o else o) := by
      unfold Hid
      rw [readyU_succ, hfb, HOE.out]
     have hib : (i : Int) ≤ 24 := by have := HN.out; omega
     clear hfb
     cases fb with
     | false =>
      go_wp2
      go_roundw
      case rel => exact ⟨i + 1, by omega, by go_num, by rw [HIN0.out]; exact HOr.out, HBr.out⟩
      case measure => simp [intOf]; omega
     | true =>
      have HIN1 : Hid (readyU (tks L) d (i + 1) = insD (tks L) i o) := HIN0.out
      have HOL : Hid (o.length ≤ 24) := by
       have h1 := readyU_len (tks L) d i
       rw [HOE.out] at h1
       have := HN.out
       unfold Hid
       omega
      have hoc := HOr.out
      rcases hoc.2 with ⟨ev, h0⟩ | ⟨g, cap, cur, ev, hgr⟩
      ·have ho0 : o = [] := List.eq_nil_of_length_eq_zero (by rw [natI_length] at h0; exact h0)
       subst ho0
       rw [ev] at HOr ⊢
       clear hoc h0 HO
       have HIN : Hid (readyU (tks L) d (i + 1) = [i]) := HIN1.out
       have HBW := HBr
       go_wp2_with fail
       clear t3
       go_loopw [9] (fun u wr'' => u = .int .i64 0 ∧ Hid (Below w.heap.size w wr'')) (fun _ _ => 0)
       case atStart => exact ⟨rfl, HBr.out⟩
       case round =>
        obtain ⟨rfl, HBW⟩ := hrel
        go_wp2_with fail
        refine wp_region_ext (by kernel_rfl) (by kernel_rfl) ?_
        iterate 19 (go_big_quiet_step (fail))
        refine wpQuiet_nil ?_
        intro w5 hb5
        have HBW := Lib.hid (keepBelow HBW.out hb5)
        clear hb5
        have H0 : Hid (OwnI (w5.alloc (.cells #[] 3)) w5.heap.size (.slice (some ⟨w5.heap.size, 0, none⟩) 0 0) []) := World.ownsRow_made (base := w5.heap.size) (e := 3) (size := 1) w5 #[] 0 (Nat.le_refl _) (Nat.zero_le _) rfl
        have HB0 : Hid (Below w5.heap.size w5 (w5.alloc (.cells #[] 3))) := (Below.refl _ w5).alloc (Nat.le_refl _) _
        go_wp2_with (at_builtin; first
         | (refine wpList_app_ints (N := []) rfl (.tmp 69) (.tmp 72) rfl rfl H0.out HB0.out rfl rfl (.inl ⟨rfl, rfl, rfl⟩) (by simp) ?_; intro v1 x1 o1 b1)
         | (refine wpList_app_int rfl (.tmp 74) (.tmp 76) rfl rfl o1 b1 rfl rfl (by first | omega | (simp; done) | (simp; omega) | (have := HOL.out; simp [natI_length]; omega)) ?_; intro v2 x2 o2 b2 k2 z2; clear k2 z2)
         | (refine wpList_app_ints (N := []) rfl (.tmp 78) (.tmp 81) rfl rfl o2 b2 rfl rfl (.inl ⟨rfl, rfl, rfl⟩) (by simp) ?_; intro v3 x3 o3 b3))
        all_goals go_roundw
        all_goals (try (case measure => simp [intOf]; omega))
        all_goals (case rel => exact ⟨i + 1, by omega, by go_num, by rw [HIN.out]; have := o3.mono HBW.out.size; simpa [natI] using this, keepBelow HBW.out b3⟩)
      ·rw [ev] at HOr ⊢
       obtain ⟨hgb, hgg, hgn, hgc, hgz, _⟩ := hgr
       rw [natI_length] at hgn HOr ⊢
       unfold maxLen at hgc
       clear hgz
       generalize wr = wq at *
       have HOW : Hid (OwnI wq w.heap.size (.slice (some ⟨g, 0, none⟩) o.length cap) (natI o)) := HOr.out
       have HC0 : Hid (∀ j, j < o.length → wq.cell? ⟨g, j, none⟩ = some (.int .i64 ((natI o).getD j 0))) := fun j hj => by
        obtain ⟨a, c, e, hf⟩ := HOW.out.form
        simp only [Value.slice.injEq] at e
        obtain ⟨rfl, -, -⟩ := e
        obtain ⟨g', e', _, hc⟩ := hf j (by rw [natI_length]; exact hj)
        cases e'
        exact hc
       clear hoc hgb hgg HO
       go_wp2_with fail
       clear t3
       go_loopw [9] (fun u wr'' => ∃ q : Nat, u = .int .i64 q ∧ q ≤ o.length ∧ Hid (∀ j, q ≤ j → j < o.length → dueOf (tks L) i < dueOf (tks L) (o.getD j 0)) ∧ Hid (Below wq.heap.size wq wr'')) (fun u _ => (intOf u).toNat)
       case atStart => exact ⟨o.length, rfl, Nat.le_refl _, fun j h1 h2 => by omega, Below.refl _ _⟩
       case round =>
        obtain ⟨q, rfl, hq, HZQ, HBq⟩ := hrel
        have HCQ : Hid (∀ j, j < o.length → wr.cell? ⟨g, j, none⟩ = some (.int .i64 ((natI o).getD j 0))) := fun j hj => keepCell HBq.out (HC0.out j hj)
        have HBQ := Lib.hid (keepBelow HBr.out HBq.out)
        by_cases hq0 : q = 0
        ·subst hq0
         have HIN : Hid (readyU (tks L) d (i + 1) = i :: o) := by
          rw [HIN1.out]
          exact insD_at (tks L) i o 0 hq (fun j hj => by omega) (fun hj => HZQ.out 0 (Nat.le_refl _) hj)
         go_wp2_with fail
         refine wp_region_ext (by kernel_rfl) (by kernel_rfl) ?_
         iterate 19 (go_big_quiet_step (fail))
         refine wpQuiet_nil ?_
         intro w5 hb5
         have HBW := Lib.hid (keepBelow HBQ.out hb5)
         have HCW : Hid (∀ j, j < o.length → w5.cell? ⟨g, j, none⟩ = some (.int .i64 ((natI o).getD j 0))) := fun j hj => keepCell hb5 (HCQ.out j hj)
         clear hb5
         have H0 : Hid (OwnI (w5.alloc (.cells #[] 3)) w5.heap.size (.slice (some ⟨w5.heap.size, 0, none⟩) 0 0) []) := World.ownsRow_made (base := w5.heap.size) (e := 3) (size := 1) w5 #[] 0 (Nat.le_refl _) (Nat.zero_le _) rfl
         have HB0 : Hid (Below w5.heap.size w5 (w5.alloc (.cells #[] 3))) := (Below.refl _ w5).alloc (Nat.le_refl _) _
         have HT : Hid (∀ i, i ≤ o.length → ∀ j, j < ((natI o).take i).length → (w5.alloc (.cells #[] 3)).cell? ⟨g, 0 + j, none⟩ = some (.int .i64 (((natI o).take i).getD j 0))) := fun i hi j hj => by
          have hj' : j < i := by simp at hj; omega
          rw [Nat.zero_add, List.getD_eq_getElem?_getD, List.getElem?_take, if_pos hj', ← List.getD_eq_getElem?_getD]
          exact keepCell HB0.out (HCW.out j (by simp [natI_length] at hj; omega))
         have HD : Hid (∀ i, i ≤ o.length → ∀ j, j < ((natI o).drop i).length → w5.cell? ⟨g, i + j, none⟩ = some (.int .i64 (((natI o).drop i).getD j 0))) := fun i hi j hj => by
          have hj' : i + j < o.length := by simp [natI_length] at hj; omega
          rw [List.getD_eq_getElem?_getD, List.getElem?_drop, ← List.getD_eq_getElem?_getD]
          exact HCW.out (i + j) hj'
         go_wp2_with (at_builtin; first
          | (refine wpList_app_ints (N := (natI o).take 0) rfl (.tmp 69) (.tmp 72) rfl rfl H0.out HB0.out rfl (by first | rfl | omega | (simp; done) | (simp; omega) | (simp [natI_length]; done) | (simp [natI_length]; omega)) (.inr ⟨g, 0, rfl, HT.out 0 hq⟩) (by first | omega | (simp; done) | (simp; omega) | (have := HOL.out; simp [natI_length]; omega)) ?_; intro v1 x1 o1 b1)
          | (refine wpList_app_int rfl (.tmp 74) (.tmp 76) rfl rfl o1 b1 rfl rfl (by first | omega | (simp; done) | (simp; omega) | (have := HOL.out; simp [natI_length]; omega)) ?_; intro v2 x2 o2 b2 k2 z2; clear k2 z2)
          | (refine wpList_app_ints (N := (natI o).drop 0) rfl (.tmp 78) (.tmp 81) rfl rfl o2 b2 rfl (by first | rfl | omega | (simp; done) | (simp; omega) | (simp [natI_length]; done) | (simp [natI_length]; omega)) (.inr ⟨g, 0, rfl, fun j hj => keepCell b2 (HD.out 0 hq j hj)⟩) (by first | omega | (simp; done) | (simp; omega) | (have := HOL.out; simp [natI_length]; omega)) ?_; intro v3 x3 o3 b3))
         all_goals go_roundw
         all_goals (try (case measure => simp [intOf]; omega))
         all_goals (case rel => exact ⟨i + 1, by omega, by go_num, by rw [HIN.out]; have := o3.mono HBW.out.size; simpa [natI] using this, keepBelow HBW.out b3⟩)
        ·have z0 : decide ((0 : Int) < (q : Int)) = true := by simp; omega
         have z1 : decide (0 < q) = true := by simp; omega
         obtain ⟨pj, hpj⟩ : ∃ p, o.getD (q - 1) 0 = p := ⟨_, rfl⟩
         have hpl : pj < L.length := by
          have := readyU_lt (l := tks L) (d := d) (n := i) (j := q - 1) (by rw [HOE.out]; omega)
          rw [HOE.out, hpj] at this
          omega
         obtain ⟨-, bl2, ol2, ebl, -, -, -, -, j4⟩ := HC.out pj hpl
         cases ebl
         obtain ⟨y, hy⟩ : ∃ y, L.getD pj kv0 = y := ⟨_, rfl⟩
         rw [hy] at j4
         have HDP : Hid (dueOf (tks L) pj = y.1.du) := by unfold Hid dueOf; rw [tks_at, hy]
         have HDI : Hid (dueOf (tks L) i = x.1.du) := by unfold Hid dueOf; rw [HTI.out]
         have c1 := HCQ.out (q - 1) (by omega)
         rw [natI_getD, hpj] at c1
         have HPJ := Lib.hid hpj
         have e1 := ext_cell c1
         have e2 := ext_cell (keepCell HBQ.out j4)
         have e3 := ext_cell (keepCell HBQ.out HP.out.2)
         have s1 : IntKind.i64.wrap ((q : Int) - 1) = (q : Int) - 1 := by rw [IntKind.wrap_i64]; have := HOL.out; omega
         have s2 : ((q : Int) - 1).toNat = q - 1 := by omega
         have s3 : (0 : Int) ≤ (q : Int) - 1 := by omega
         have s4 : (q : Int) - 1 < (o.length : Int) := by omega
         have s5 : (pj : Int) < (L.length : Int) := by omega
         have s6 : (i : Int) < (L.length : Int) := by omega
         have hqb : (q : Int) ≤ 24 := by have := HOL.out; omega
         clear hpj hy j4 c1
         by_cases hdue : x.1.du < y.1.du
         ·have g3 : decide (x.1.du < y.1.du) = true := by simpa using hdue
          have HZN : Hid (∀ j, q - 1 ≤ j → j < o.length → dueOf (tks L) i < dueOf (tks L) (o.getD j 0)) := fun j h1 h2 => by
           rcases Nat.lt_or_ge j q with h | h
           ·obtain rfl : j = q - 1 := by omega
            rw [HPJ.out, HDP.out, HDI.out]
            exact hdue
           ·exact HZQ.out j h h2
          clear hdue
          go_wp2_with fail
          refine wp_region_ext (by kernel_rfl) (by kernel_rfl) ?_
          iterate 19 (go_big_quiet_step (fail))
          refine wpQuiet_nil ?_
          intro w5 hb5
          have HBN := Lib.hid (keepBelow HBq.out hb5)
          have hqp : 1 ≤ q := by omega
          clear hb5 e1 e2 e3 s1 s2 s3 s4 s5 s6 z0 z1
          go_wp2
          go_roundw
          case rel => exact ⟨q - 1, by congr 1; omega, by omega, HZN.out, HBN.out⟩
          case measure => simp [intOf]; omega
         ·have g3 : decide (x.1.du < y.1.du) = false := by simpa using hdue
          have HIN : Hid (readyU (tks L) d (i + 1) = o.take q ++ i :: o.drop q) := by
           rw [HIN1.out]
           refine insD_at (tks L) i o q hq (fun j hj => ?_) (fun hj => HZQ.out q (Nat.le_refl _) hj)
           have h1 := readyU_le (l := tks L) (d := d) (n := i) (i := j) (j := q - 1) (by omega) (by rw [HOE.out]; omega)
           rw [HOE.out, HPJ.out, HDP.out] at h1
           rw [HDI.out]
           omega
          clear hdue
          go_wp2_with fail
          refine wp_region_ext (by kernel_rfl) (by kernel_rfl) ?_
          iterate 19 (go_big_quiet_step (fail))
          refine wpQuiet_nil ?_
          intro w5 hb5
          have HBW := Lib.hid (keepBelow HBQ.out hb5)
          have HCW : Hid (∀ j, j < o.length → w5.cell? ⟨g, j, none⟩ = some (.int .i64 ((natI o).getD j 0))) := fun j hj => keepCell hb5 (HCQ.out j hj)
          clear hb5 e1 e2 e3 s1 s2 s3 s4 s5 s6 z0 z1 g3
          have H0 : Hid (OwnI (w5.alloc (.cells #[] 3)) w5.heap.size (.slice (some ⟨w5.heap.size, 0, none⟩) 0 0) []) := World.ownsRow_made (base := w5.heap.size) (e := 3) (size := 1) w5 #[] 0 (Nat.le_refl _) (Nat.zero_le _) rfl
          have HB0 : Hid (Below w5.heap.size w5 (w5.alloc (.cells #[] 3))) := (Below.refl _ w5).alloc (Nat.le_refl _) _
          have HT : Hid (∀ i, i ≤ o.length → ∀ j, j < ((natI o).take i).length → (w5.alloc (.cells #[] 3)).cell? ⟨g, 0 + j, none⟩ = some (.int .i64 (((natI o).take i).getD j 0))) := fun i hi j hj => by
           have hj' : j < i := by simp at hj; omega
           rw [Nat.zero_add, List.getD_eq_getElem?_getD, List.getElem?_take, if_pos hj', ← List.getD_eq_getElem?_getD]
           exact keepCell HB0.out (HCW.out j (by simp [natI_length] at hj; omega))
          have HD : Hid (∀ i, i ≤ o.length → ∀ j, j < ((natI o).drop i).length → w5.cell? ⟨g, i + j, none⟩ = some (.int .i64 (((natI o).drop i).getD j 0))) := fun i hi j hj => by
           have hj' : i + j < o.length := by simp [natI_length] at hj; omega
           rw [List.getD_eq_getElem?_getD, List.getElem?_drop, ← List.getD_eq_getElem?_getD]
           exact HCW.out (i + j) hj'
          by_cases hql : q = o.length
          ·have HIE : Hid (readyU (tks L) d (i + 1) = o ++ [i]) := by
            have h := HIN.out
            rw [hql, List.take_length, List.drop_length] at h
            exact h
           have HTK : Hid ((natI o).take q = natI o) := List.take_of_length_le (by rw [natI_length]; omega)
           subst hql
           by_cases hcq : cap = o.length
           ·subst hcq
            go_wp2_with (at_builtin; first
             | (refine wpList_app_ints (N := (natI o).take o.length) rfl (.tmp 69) (.tmp 72) rfl rfl H0.out HB0.out rfl (by first | rfl | omega | (simp; done) | (simp; omega) | (simp [natI_length]; done) | (simp [natI_length]; omega)) (.inr ⟨g, 0, rfl, HT.out o.length (Nat.le_refl _)⟩) (by first | omega | (simp; done) | (simp; omega) | (have := HOL.out; simp [natI_length]; omega)) ?_; intro v1 x1 o1 b1)
             | (refine wpList_app_int rfl (.tmp 74) (.tmp 76) rfl rfl o1 b1 rfl rfl (by first | omega | (simp; done) | (simp; omega) | (have := HOL.out; simp [natI_length]; omega)) ?_; intro v2 x2 o2 b2 k2 z2; clear k2 z2)
             | (refine wpList_app_ints (N := []) rfl (.tmp 78) (.tmp 81) rfl rfl o2 b2 rfl (by first | rfl | omega | (simp; done) | (simp; omega) | (simp [natI_length]; done) | (simp [natI_length]; omega)) (.inr ⟨g, _, rfl, fun j hj => by simp at hj⟩) (by first | omega | (simp; done) | (simp; omega) | (have := HOL.out; simp [natI_length]; omega)) ?_; intro v3 x3 o3 b3))
            all_goals go_roundw
            all_goals (try (case measure => simp [intOf]; omega))
            all_goals (case rel => exact ⟨i + 1, by omega, by go_num, by rw [HIE.out]; have := o3.mono HBW.out.size; rw [HTK.out] at this; simpa [natI] using this, keepBelow HBW.out b3⟩)
           ·
            go_wp2_with (at_builtin; first
             | (refine wpList_app_ints (N := (natI o).take o.length) rfl (.tmp 69) (.tmp 72) rfl rfl H0.out HB0.out rfl (by first | rfl | omega | (simp; done) | (simp; omega) | (simp [natI_length]; done) | (simp [natI_length]; omega)) (.inr ⟨g, 0, rfl, HT.out o.length (Nat.le_refl _)⟩) (by first | omega | (simp; done) | (simp; omega) | (have := HOL.out; simp [natI_length]; omega)) ?_; intro v1 x1 o1 b1)
             | (refine wpList_app_int rfl (.tmp 74) (.tmp 76) rfl rfl o1 b1 rfl rfl (by first | omega | (simp; done) | (simp; omega) | (have := HOL.out; simp [natI_length]; omega)) ?_; intro v2 x2 o2 b2 k2 z2; clear k2 z2)
             | (refine wpList_app_ints (N := []) rfl (.tmp 78) (.tmp 81) rfl rfl o2 b2 rfl (by first | rfl | omega | (simp; done) | (simp; omega) | (simp [natI_length]; done) | (simp [natI_length]; omega)) (.inr ⟨g, _, rfl, fun j hj => by simp at hj⟩) (by first | omega | (simp; done) | (simp; omega) | (have := HOL.out; simp [natI_length]; omega)) ?_; intro v3 x3 o3 b3))
            all_goals go_roundw
            all_goals (try (case measure => simp [intOf]; omega))
            all_goals (case rel => exact ⟨i + 1, by omega, by go_num, by rw [HIE.out]; have := o3.mono HBW.out.size; rw [HTK.out] at this; simpa [natI] using this, keepBelow HBW.out b3⟩)
          ·have hqc : ¬ cap = q := by omega
           go_wp2_with (at_builtin; first
            | (refine wpList_app_ints (N := (natI o).take q) rfl (.tmp 69) (.tmp 72) rfl rfl H0.out HB0.out rfl (by first | rfl | omega | (simp; done) | (simp; omega) | (simp [natI_length]; done) | (simp [natI_length]; omega)) (.inr ⟨g, 0, rfl, HT.out q hq⟩) (by first | omega | (simp; done) | (simp; omega) | (have := HOL.out; simp [natI_length]; omega)) ?_; intro v1 x1 o1 b1)
            | (refine wpList_app_int rfl (.tmp 74) (.tmp 76) rfl rfl o1 b1 rfl rfl (by first | omega | (simp; done) | (simp; omega) | (have := HOL.out; simp [natI_length]; omega)) ?_; intro v2 x2 o2 b2 k2 z2; clear k2 z2)
            | (refine wpList_app_ints (N := (natI o).drop q) rfl (.tmp 78) (.tmp 81) rfl rfl o2 b2 rfl (by first | rfl | omega | (simp; done) | (simp; omega) | (simp [natI_length]; done) | (simp [natI_length]; omega)) (.inr ⟨g, q, rfl, fun j hj => keepCell b2 (HD.out q hq j hj)⟩) (by first | omega | (simp; done) | (simp; omega) | (have := HOL.out; simp [natI_length]; omega)) ?_; intro v3 x3 o3 b3))
           all_goals go_roundw
           all_goals (try (case measure => simp [intOf]; omega))
           all_goals (case rel => exact ⟨i + 1, by omega, by go_num, by rw [HIN.out]; have := o3.mono HBW.out.size; simpa [natI_split] using this, keepBelow HBW.out b3⟩)
  ·have hie : i = L.length := by omega
   subst hie
   have HR : Hid (readyU (tks L) d L.length = readyM (tks L) d) := by
    have := readyU_all (tks L) d
    rw [tks_length] at this
    exact this
   rw [HR.out] at ho
   have HO := Lib.hid ho
   have HB := Lib.hid hB
   clear ho hB
   go_wp2
   go_ret
   exact ⟨_, rfl, HO.out, HB.out⟩
end Go.Proofs.YtlbjfbpejomkmaaGreat
namespace Go.Proofs.YtlbjfbpejomkmaaGreat
open Go.RowKit Wk

def RdP1 (b : Nat) (W : World) (v : Value) (a : List Sp) : Prop :=
 ∃ p c, v = .slice p a.length c ∧ a.length ≤ 24 ∧ ∀ i, i < a.length → ∃ g o, p = some ⟨g, o, none⟩ ∧ g ≠ b ∧ W.cell? ⟨g, o + i * 2, none⟩ = some (.int .i64 (spAt a i).1) ∧ W.cell? ⟨g, o + i * 2 + 1, none⟩ = some (.int .i64 (spAt a i).2)
theorem RdP1.rd {b : Nat} {W : World} {v : Value} {a : List Sp} (h : RdP1 b W v a) : RdS W v a := by
 obtain ⟨p, c, rfl, hl, hc⟩ := h
 exact ⟨p, c, rfl, by omega, fun i hi => let ⟨g, o, e, _, c1, c2⟩ := hc i hi; ⟨g, o, e, c1, c2⟩⟩
theorem RdP1.keep {B b : Nat} {W X : World} {v : Value} {a : List Sp} (h : RdP1 b W v a) (hk : K3 B b b b W X) : RdP1 b X v a := by
 obtain ⟨p, c, rfl, hl, hc⟩ := h
 exact ⟨p, c, rfl, hl, fun i hi => let ⟨g, o, e, hn, c1, c2⟩ := hc i hi; ⟨g, o, e, hn, hk.cell hn hn hn c1, hk.cell hn hn hn c2⟩⟩
structure StCtx (w0 : World) (b : Nat) (vl vR : Value) (start : Int) (L : List Kv) (R : List Sw) : Prop where
 hL : RdK w0 vl L
 hR : RdR w0 vR R
 hv : TkV (tks L) (sts R)
 vb : ∀ i, i < R.length → VB (R.getD i sw0).1 = true
 wk : ∀ i, i < L.length → (L.getD i kv0).1.wk ≤ 4398046511104
 hs : -4398046511104 ≤ start ∧ start ≤ 4398046511104
 len : L.length ≤ 24 ∧ R.length ≤ 24
 bs : w0.heap.size ≤ b
structure StSt (w0 : World) (b : Nat) (vl vR : Value) (start : Int) (L : List Kv) (R : List Sw) (W : World) (vd va : Value) (left : Int) (dn : List Nat) (d : List Bool) (e : List Int) (a : List Sp) : Prop where
 S : SeW W b vl vR start left
 B : Below w0.heap.size w0 W
 D : RdJ3 b b b W vd (natI dn)
 A : RdP1 b W va a
 E : EndsR (tks L) (sts R) start dn d e a
 ab : ∀ i, dAt d i = true → (spAt a i).2 ≤ 4398046511104
 l0 : 0 ≤ left ∧ left ≤ 1000000
 d0 : dn = [] → vd = .slice none 0 0
def StR (b : Nat) (vl vR : Value) (start : Int) (r : Rs) (v : Value) (c : Int) (w' : World) : Prop := match r with
 | .ok a' => c = 0 ∧ RdS w' v a'
 | .out => c = 18 ∧ v = .slice none 0 0
 | .no left' => c = 17 ∧ v = .slice none 0 0 ∧ (0 ≤ left' ∧ left' ≤ 1000000) ∧ SeW w' b vl vR start left'
def StPost (w0 : World) (b : Nat) (vl vR : Value) (start : Int) (r : Rs) (W : World) (e : Ending) (w' : World) : Prop :=
 ∃ v c, e = .returned (.tuple #[v, .int .i64 c]) ∧ K3 w0.heap.size b b b W w' ∧ StR b vl vR start r v c w'
theorem app_intsG {ops : Array Oper} {rest : List Oper} {o : Oper} {a : Act} {Q : Exit → Act → World → Prop} {B : Nat} {W : World} {v : Value} {L N : List Int} (hgd : o.guard = none) (s x : Operand)
  (ho : o.op = .call { callee := .builtin .append, args := #[s, x], argTypes := #[36, 36] }) (hs : a.eval s = v) (hown : OwnI W B v L) (hB : B ≤ W.heap.size)
  {p : Option Addr} {m c : Nat} (hx : a.eval x = .slice p m c) (hm : m = N.length) (hp : (p = none ∧ c = 0 ∧ N = []) ∨ ∃ g k, p = some ⟨g, k, none⟩ ∧ ∀ j, j < N.length → W.cell? ⟨g, k + j, none⟩ = some (.int .i64 (N.getD j 0)))
  (hlen : L.length + N.length < 1000000000000)
  (h : ∀ v' w', OwnI w' B v' (L ++ N) → W.grownBy w' v.ownBlock → wpList Tryz.prog ops Q rest (a.put o.dst v') w') : wpList Tryz.prog ops Q (o :: rest) a W := by
 obtain ⟨i0, hi, hz0, hz1, hz2⟩ := info_parts Tryz.infoInt
 rcases hp with ⟨rfl, rfl, rfl⟩ | ⟨g, k, rfl, hc⟩
 ·subst hm
  refine wpList_append_own_none hgd s x 36 ho B 3 i0 1 Tryz.underlying36 hi v L.length (flatI L) hs hown hx ?_
  refine h v W ?_ (World.grownBy.refl _ _)
  rw [List.append_nil]
  exact hown
 ·subst hm
  refine wpList_append_own _ hgd s x 36 ho B 3 i0 (.int .i64 0) 1 8 Tryz.underlying36 hi hz0 hz1 hz2 rfl (by decide) v L.length (flatI L) hs hown ⟨g, k, none⟩ N.length c (flatI N) hx (by simp [flatI]) ?_ ?_ (by unfold maxLen; omega) (by omega) hB ?_
  ·intro j u hu
   have hj := (List.getElem?_eq_some_iff.1 hu).1
   have hj' : j < N.length := by simpa [flatI] using hj
   rw [WideShapes.add_plain, hc j hj']
   rw [← hu]
   simp [flatI, List.getD_eq_getElem?_getD, List.getElem?_eq_getElem hj']
  ·intro u hu
   unfold flatI at hu
   obtain ⟨z, _, rfl⟩ := List.mem_map.1 hu
   rfl
  ·intro v' w' hown' hg _
   refine h v' w' ?_ hg
   unfold OwnI
   rw [List.length_append]
   have : flatI (L ++ N) = flatI L ++ flatI N := by simp [flatI]
   rw [this]
   exact hown'
theorem OwnS.cellsP {W : World} {B : Nat} {v : Value} {a : List Sp} (h : OwnS W B v a) (hp : 0 < a.length) : ∃ g cap, v = .slice (some ⟨g, 0, none⟩) a.length cap ∧ B ≤ g ∧ g < W.heap.size ∧ RowP W g a := by
 have h' := h
 rcases h.2 with ⟨rfl, h0⟩ | ⟨g, cap, cur, rfl, hgb, hgg, _⟩
 ·omega
 ·have hfz : ∀ i, W.frozen? ⟨g, i, none⟩ = false := fun i => by simp [World.frozen?, hgg]
  refine ⟨g, cap, rfl, hgb, (Array.getElem?_eq_some_iff.1 hgg).1, fun i hi => ⟨⟨?_, ?_⟩, hfz _, hfz _⟩⟩
  ·rw [World.ownsRow.cellAt h' (i * 2) (by omega)]
   exact (flatS_get a i hi).1
  ·rw [World.ownsRow.cellAt h' (i * 2 + 1) (by omega)]
   exact (flatS_get a i hi).2
theorem RowP.setAt {W : World} {g : Nat} {a : List Sp} (h : RowP W g a) {i : Nat} (hi : i < a.length) (s : Sp) : RowP ((W.setCell ⟨g, i * 2, none⟩ (.int .i64 s.1)).setCell ⟨g, i * 2 + 1, none⟩ (.int .i64 s.2)) g (a.set i s) := by
 intro k hk
 rw [List.length_set] at hk
 refine ⟨?_, ((frz_set ..).trans (frz_set ..)).trans (h k hk).2.1, ((frz_set ..).trans (frz_set ..)).trans (h k hk).2.2⟩
 unfold spAt
 rw [getD_setL a i k s (0, 0) hi]
 by_cases q : k = i
 ·subst q
  rw [if_pos rfl]
  exact ⟨(cell_ne (Or.inr (by omega))).trans (cell_eq (h k hk).1.1), cell_eq ((cell_ne (Or.inr (by omega))).trans (h k hk).1.2)⟩
 ·rw [if_neg q]
  exact ⟨((cell_ne (Or.inr (by omega))).trans (cell_ne (Or.inr (by omega)))).trans (h k hk).1.1, ((cell_ne (Or.inr (by omega))).trans (cell_ne (Or.inr (by omega)))).trans (h k hk).1.2⟩
theorem RowP.rd1 {W : World} {g b c : Nat} {a : List Sp} (h : RowP W g a) (hl : a.length ≤ 24) (hn : g ≠ b) : RdP1 b W (.slice (some ⟨g, 0, none⟩) a.length c) a :=
 ⟨some ⟨g, 0, none⟩, c, rfl, hl, fun i hi => ⟨g, 0, rfl, hn, by rw [Nat.zero_add]; exact (h i hi).1.1, by rw [Nat.zero_add]; exact (h i hi).1.2⟩⟩
theorem ends_has {l : List Tk} {res : List St} {start : Int} {dn : List Nat} {d : List Bool} {e : List Int} {a : List Sp} (h : EndsR l res start dn d e a) (k : Nat) : (natI dn).contains (k : Int) = dAt d k := by
 rw [Bool.eq_iff_iff, h.mem k, List.contains_iff_mem]
 unfold natI
 rw [List.mem_map]
 constructor
 ·rintro ⟨j, hj, e⟩
  have : j = k := by omega
  rwa [← this]
 ·exact fun hk => ⟨k, hk, rfl⟩
theorem ends_line {l : List Tk} {res : List St} {start : Int} {dn : List Nat} {d : List Bool} {e : List Int} {a : List Sp} (hv : TkV l res) (h : EndsR l res start dn d e a) (hs : start ≤ 4398046511104) (hab : ∀ i, dAt d i = true → (spAt a i).2 ≤ 4398046511104) {i : Nat} (hi : i < l.length) (hf : freeB l d i = true) :
  fromM start e a (tkAt l i) ≤ 4398046511104 := by
 refine from_line hs ?_ fun j hj => hab _ ((free_iff.1 hf).2 j hj)
 rcases h.ex (tkAt l i).rs.toNat (hv.rs i hi).2 with h1 | ⟨k, hk, _, h1⟩
 ·rw [h1]; exact hs
 ·rw [h1]; exact hab k ((h.mem k).2 hk)
end Go.Proofs.YtlbjfbpejomkmaaGreat
