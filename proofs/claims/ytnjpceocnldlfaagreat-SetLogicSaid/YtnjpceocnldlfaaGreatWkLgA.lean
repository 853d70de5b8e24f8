import Derived.Test.YtnjpceocnldlfaaGreatWkPv
import Derived.Test.YtnjpceocnldlfaaGreatWkLq
import Derived.Test.YtnjpceocnldlfaaGreatWkTo
import Derived.Test.YtnjpceocnldlfaaGreatWkTq
import Derived.Test.YtnjpceocnldlfaaGreatWkZb
/- SetLogic's closures: worlds that keep every block but one; of. -/
namespace Go.Proofs.YtnjpceocnldlfaaGreat
open Go.RowKit Wk

def Stp (k : Nat) (W X : World) : Prop := Below k W X ∧ ∀ i, i < W.heap.size → i ≠ k → X.heap[i]? = W.heap[i]?
theorem Stp.refl (k : Nat) (W : World) : Stp k W W := ⟨Below.refl _ _, fun _ _ _ => rfl⟩
theorem Stp.trans {k : Nat} {W X Y : World} (h : Stp k W X) (h' : Stp k X Y) : Stp k W Y :=
  ⟨h.1.trans h'.1, fun i hi hk => (h'.2 i (Nat.lt_of_lt_of_le hi h.1.size) hk).trans (h.2 i hi hk)⟩
theorem Stp.of {k : Nat} {W X : World} (hk : k ≤ W.heap.size) (h : Below W.heap.size W X) : Stp k W X := ⟨h.mono hk, fun i hi _ => h.block i hi⟩
theorem Stp.set {k : Nat} (W : World) (v : Value) : Stp k W (W.setCell ⟨k, 0, none⟩ v) :=
  ⟨(Below.refl _ _).setCell (p := ⟨k, 0, none⟩) (Nat.le_refl _) v, fun i _ hk => Below.heap_setCell _ _ _ _ (by simpa using hk)⟩
theorem Stp.cell {k : Nat} {W X : World} (h : Stp k W X) {b o : Nat} {v : Value} (hb : b ≠ k) (hc : W.cell? ⟨b, o, none⟩ = some v) : X.cell? ⟨b, o, none⟩ = some v := by
  have hlt := World.block_lt_of_cell? W ⟨b, o, none⟩ hc
  rw [World.cell?_of_block (w := W) (a := ⟨b, o, none⟩) (h.2 b hlt hb)]; exact hc
theorem Stp.frozen {k : Nat} {W X : World} (h : Stp k W X) {b o : Nat} {v : Value} {f : Bool} (hb : b ≠ k) (hc : W.cell? ⟨b, o, none⟩ = some v) (hf : W.frozen? ⟨b, o, none⟩ = f) : X.frozen? ⟨b, o, none⟩ = f := by
  have hlt := World.block_lt_of_cell? W ⟨b, o, none⟩ hc
  rw [World.frozen?_of_block (w := W) (a := ⟨b, o, none⟩) (h.2 b hlt hb)]; exact hf
def OneB (W : World) (k : Nat) (b : Bool) : Prop := W.cell? ⟨k, 0, none⟩ = some (.bool b) ∧ W.frozen? ⟨k, 0, none⟩ = false ∧ ∀ o, 1 ≤ o → W.cell? ⟨k, o, none⟩ = none
theorem OneB.lt {W : World} {k : Nat} {b : Bool} (h : OneB W k b) : k < W.heap.size := World.block_lt_of_cell? W ⟨k, 0, none⟩ h.1
theorem OneB.below {W X : World} {k : Nat} {b : Bool} (h : OneB W k b) (hb : Below W.heap.size W X) : OneB X k b :=
  ⟨keepCell hb h.1, keepFrozen hb h.1 h.2.1, fun o ho => (hb.cell (p := ⟨k, o, none⟩) h.lt).trans (h.2.2 o ho)⟩
theorem OneB.set {W : World} {k : Nat} {b : Bool} (h : OneB W k b) (c : Bool) : OneB (W.setCell ⟨k, 0, none⟩ (.bool c)) k c := by
  obtain ⟨h1, h2, h3⟩ := h
  refine ⟨by simp [go_sem, h1], by simp [go_sem, h2], fun o ho => ?_⟩
  have := h3 o ho
  simp [go_sem, this]
  try omega
theorem Stp.rd {k : Nat} {W X : World} {c : Bool} {v : Value} {l : List Sp} (h : Stp k W X) (ho : OneB W k c) (hr : RdS W v l) : RdS X v l := by
  obtain ⟨a, ca, rfl, hl, hc⟩ := hr
  refine ⟨a, ca, rfl, hl, fun i hi => ?_⟩
  obtain ⟨b, o, rfl, c1, c2⟩ := hc i hi
  have hb : b ≠ k := fun e => by
    subst e
    rw [ho.2.2 (o + i * 2 + 1) (by omega)] at c2
    cases c2
  exact ⟨b, o, rfl, h.cell hb c1, h.cell hb c2⟩
theorem Stp.st {k : Nat} {W X : World} {c : Bool} {s : St} {vl vr vv : Value} (h : Stp k W X) (ho : OneB W k c) (hr : RdSt W s vl vr vv) : RdSt X s vl vr vv := ⟨h.rd ho hr.1, h.rd ho hr.2.1, h.rd ho hr.2.2⟩
theorem Stp.set7 {k b : Nat} {W X : World} {x0 x1 x2 x3 x4 x5 x6 : Value} (h : Stp k W X) (hb : b ≠ k) (hs : Set7 W b x0 x1 x2 x3 x4 x5 x6) : Set7 X b x0 x1 x2 x3 x4 x5 x6 := by
  obtain ⟨⟨c0, c1, c2, c3, c4, c5, c6⟩, f0, f1, f2, f3, f4, f5, f6⟩ := hs
  exact ⟨⟨h.cell hb c0, h.cell hb c1, h.cell hb c2, h.cell hb c3, h.cell hb c4, h.cell hb c5, h.cell hb c6⟩, h.frozen hb c0 f0, h.frozen hb c1 f1, h.frozen hb c2 f2, h.frozen hb c3 f3, h.frozen hb c4 f4, h.frozen hb c5 f5, h.frozen hb c6 f6⟩
theorem Stp.zero7 {k b : Nat} {W X : World} (h : Stp k W X) (hb : b ≠ k) (hlt : b < W.heap.size) (hs : Zero7 W b) : Zero7 X b := fun o x y h1 h2 => by
  rw [World.cell?_of_block (w := W) (a := ⟨b, o, none⟩) (h.2 b hlt hb)] at h1
  rw [World.cell?_of_block (w := W) (a := ⟨b, o + 1, none⟩) (h.2 b hlt hb)] at h2
  exact hs o x y h1 h2
theorem Stp.zb {k b : Nat} {W X : World} (h : Stp k W X) (hb : b ≠ k) (hs : ZB W b) : ZB X b := ⟨h.set7 hb hs.1, h.zero7 hb (World.block_lt_of_cell? W ⟨b, 0, none⟩ hs.1.1.1) hs.2⟩

theorem Stp.put7 {k b : Nat} {W X : World} (h : Stp k W X) (hb : W.heap.size ≤ b) (hk : k ≤ b) (u0 u1 u2 u3 u4 u5 u6 : Value) : Stp k W (put7 X b u0 u1 u2 u3 u4 u5 u6) :=
  ⟨h.1.trans (put7_below u0 u1 u2 u3 u4 u5 u6 (Below.refl _ _) hk), fun i hi hik => ((put7_below u0 u1 u2 u3 u4 u5 u6 (Below.refl W.heap.size X) hb).block i hi).trans (h.2 i hi hik)⟩
theorem OneB.put7 {W : World} {k b : Nat} {c : Bool} (h : OneB W k c) (hb : b ≠ k) (u0 u1 u2 u3 u4 u5 u6 : Value) : OneB (put7 W b u0 u1 u2 u3 u4 u5 u6) k c := by
  obtain ⟨o1, o2, o3⟩ := h
  have hb' : k ≠ b := fun e => hb e.symm
  refine ⟨?_, ?_, fun o ho => ?_⟩
  · simp [Go.Proofs.YtnjpceocnldlfaaGreat.put7, go_sem, o1]
  · simp [Go.Proofs.YtnjpceocnldlfaaGreat.put7, go_sem, o2]
  · have := o3 o ho
    simp [Go.Proofs.YtnjpceocnldlfaaGreat.put7, go_sem, this]

set_option maxRecDepth 100000 in
set_option maxHeartbeats 4000000 in
theorem lg_of (T : St) (E : Int) (k : Nat) (c : Bool) (vl vr vv : Value) (w : World) (ho : OneB w k c) (h : RdSt w T vl vr vv) (hp : PosSt T) :
    Calls Tryz.prog 48 #[.agg #[.int .i64 T.lf.1, vl, .int .i64 T.rt.1, vr, .int .i64 T.fr, .int .i64 T.to, vv], .int .i64 E, .pointer (some ⟨k, 0, none⟩)] w fun e w' => e = .returned (.agg #[.int .i64 T.lf.1, vl, .int .i64 T.rt.1, vr, .int .i64 T.fr, .int .i64 T.to, vv]) ∧ RdSt w' T vl vr vv ∧ OneB w' k (c && (E == 0)) ∧ Stp k w w' := by
  have hkl := ho.lt
  obtain ⟨c1, m1, rfl⟩ := h.1.form
  obtain ⟨c2, m2, rfl⟩ := h.2.1.form
  obtain ⟨c3, m3, rfl⟩ := h.2.2.form
  obtain ⟨W, hWe⟩ : ∃ W, (w.alloc (.cells #[.int .i64 T.lf.1, .slice c1 T.lf.2.length m1, .int .i64 T.rt.1, .slice c2 T.rt.2.length m2, .int .i64 T.fr, .int .i64 T.to, .slice c3 T.l.length m3] 26)).alloc (.cells #[.int .i64 0, .slice none 0 0, .int .i64 0, .slice none 0 0, .int .i64 0, .int .i64 0, .slice none 0 0] 26) = W := ⟨_, rfl⟩
  have hW : Below w.heap.size w W := by rw [← hWe]; exact ((Below.refl _ w).alloc (Nat.le_refl _) _).alloc (by simp) _
  have HS1 : Hid (Set7 W w.heap.size (.int .i64 T.lf.1) (.slice c1 T.lf.2.length m1) (.int .i64 T.rt.1) (.slice c2 T.rt.2.length m2) (.int .i64 T.fr) (.int .i64 T.to) (.slice c3 T.l.length m3)) := by
    rw [← hWe]
    refine ⟨⟨?_, ?_, ?_, ?_, ?_, ?_, ?_⟩, ?_, ?_, ?_, ?_, ?_, ?_, ?_⟩ <;> simp [go_sem]
  have HZ1 : Hid (ZB W (w.heap.size + 1)) := by
    rw [← hWe]
    have := ZB.new (w.alloc (.cells #[.int .i64 T.lf.1, .slice c1 T.lf.2.length m1, .int .i64 T.rt.1, .slice c2 T.rt.2.length m2, .int .i64 T.fr, .int .i64 T.to, .slice c3 T.l.length m3] 26))
    rwa [show (w.alloc (.cells #[.int .i64 T.lf.1, .slice c1 T.lf.2.length m1, .int .i64 T.rt.1, .slice c2 T.rt.2.length m2, .int .i64 T.fr, .int .i64 T.to, .slice c3 T.l.length m3] 26)).heap.size = w.heap.size + 1 by simp] at this
  have HO1 := Lib.hid (ho.below hW)
  have HR1 := Lib.hid (keepSt hW h)
  have HW := Lib.hid hW
  have hk1 : w.heap.size ≠ k := by omega
  have hk2 : w.heap.size + 1 ≠ k := by omega
  have HE := Lib.hid hWe
  clear hWe h ho
  have HS0 := Lib.hid (Stp.of (Nat.le_of_lt hkl) hW)
  have HKL := Lib.hid hkl
  obtain ⟨A0, A1, A2, A3, A4, A5, A6⟩ := HS1.out.1
  obtain ⟨o1, o2, _⟩ := HO1.out
  go_enter Tryz.func48, Tryz.ntmps48
  go_upto_region 1 with fail
  rw [HE.out]
  cases c with
  | false =>
      have HOX : Hid (OneB (W.setCell ⟨k, 0, none⟩ (.bool false)) k false) := HO1.out.set false
      have HST : Hid (Stp k W (W.setCell ⟨k, 0, none⟩ (.bool false))) := Stp.set W _
      go_upto_region 2 with fail
      generalize W.setCell ⟨k, 0, none⟩ (.bool false) = X at *
      have HB7 := Lib.hid (HST.out.set7 hk1 HS1.out)
      have HZ7 := Lib.hid (HST.out.zb hk2 HZ1.out)
      have HRX := Lib.hid (HST.out.st HO1.out HR1.out)
      clear A0 A1 A2 A3 A4 A5 A6 o1 o2
      obtain ⟨A0, A1, A2, A3, A4, A5, A6⟩ := HB7.out.1
      obtain ⟨⟨⟨Z0, Z1, Z2, Z3, Z4, Z5, Z6⟩, K0, K1, K2, K3, K4, K5, K6⟩, _⟩ := HZ7.out
      go_wp2
      change bodyPost _ _ _ _ _ (put7 X (w.heap.size + 1) (.int .i64 T.lf.1) (.slice c1 T.lf.2.length m1) (.int .i64 T.rt.1) (.slice c2 T.rt.2.length m2) (.int .i64 T.fr) (.int .i64 T.to) (.slice c3 T.l.length m3))
      obtain ⟨r0, r1, r2, r3, r4, r5, r6⟩ := put7_at (.int .i64 T.lf.1) (.slice c1 T.lf.2.length m1) (.int .i64 T.rt.1) (.slice c2 T.rt.2.length m2) (.int .i64 T.fr) (.int .i64 T.to) (.slice c3 T.l.length m3) Z0 Z1 Z2 Z3 Z4 Z5 Z6
      have hRZ := HRX.out.put (.int .i64 T.lf.1) (.slice c1 T.lf.2.length m1) (.int .i64 T.rt.1) (.slice c2 T.rt.2.length m2) (.int .i64 T.fr) (.int .i64 T.to) (.slice c3 T.l.length m3) hp HZ7.out.2
      have hOZ := HOX.out.put7 hk2 (.int .i64 T.lf.1) (.slice c1 T.lf.2.length m1) (.int .i64 T.rt.1) (.slice c2 T.rt.2.length m2) (.int .i64 T.fr) (.int .i64 T.to) (.slice c3 T.l.length m3)
      have hSZ := (HS0.out.trans HST.out).put7 (b := w.heap.size + 1) (by omega) (by have := HKL.out; omega) (.int .i64 T.lf.1) (.slice c1 T.lf.2.length m1) (.int .i64 T.rt.1) (.slice c2 T.rt.2.length m2) (.int .i64 T.fr) (.int .i64 T.to) (.slice c3 T.l.length m3)
      generalize put7 X (w.heap.size + 1) (.int .i64 T.lf.1) (.slice c1 T.lf.2.length m1) (.int .i64 T.rt.1) (.slice c2 T.rt.2.length m2) (.int .i64 T.fr) (.int .i64 T.to) (.slice c3 T.l.length m3) = Z at *
      refine bodyPost_ret (v := .agg #[.int .i64 T.lf.1, (.slice c1 T.lf.2.length m1), .int .i64 T.rt.1, (.slice c2 T.rt.2.length m2), .int .i64 T.fr, .int .i64 T.to, (.slice c3 T.l.length m3)]) (by simp [results, Tryz.results48, go_sem, r0, r1, r2, r3, r4, r5, r6]) rfl ?_
      exact ⟨rfl, hRZ, by first | exact hOZ | (simpa using hOZ) | (rw [hE']; exact hOZ), hSZ⟩
  | true =>
    by_cases hE : E = 0
    · subst hE
      have HOX : Hid (OneB (W.setCell ⟨k, 0, none⟩ (.bool true)) k true) := HO1.out.set true
      have HST : Hid (Stp k W (W.setCell ⟨k, 0, none⟩ (.bool true))) := Stp.set W _
      go_upto_region 2 with fail
      generalize W.setCell ⟨k, 0, none⟩ (.bool true) = X at *
      have HB7 := Lib.hid (HST.out.set7 hk1 HS1.out)
      have HZ7 := Lib.hid (HST.out.zb hk2 HZ1.out)
      have HRX := Lib.hid (HST.out.st HO1.out HR1.out)
      clear A0 A1 A2 A3 A4 A5 A6 o1 o2
      obtain ⟨A0, A1, A2, A3, A4, A5, A6⟩ := HB7.out.1
      obtain ⟨⟨⟨Z0, Z1, Z2, Z3, Z4, Z5, Z6⟩, K0, K1, K2, K3, K4, K5, K6⟩, _⟩ := HZ7.out
      go_wp2
      change bodyPost _ _ _ _ _ (put7 X (w.heap.size + 1) (.int .i64 T.lf.1) (.slice c1 T.lf.2.length m1) (.int .i64 T.rt.1) (.slice c2 T.rt.2.length m2) (.int .i64 T.fr) (.int .i64 T.to) (.slice c3 T.l.length m3))
      obtain ⟨r0, r1, r2, r3, r4, r5, r6⟩ := put7_at (.int .i64 T.lf.1) (.slice c1 T.lf.2.length m1) (.int .i64 T.rt.1) (.slice c2 T.rt.2.length m2) (.int .i64 T.fr) (.int .i64 T.to) (.slice c3 T.l.length m3) Z0 Z1 Z2 Z3 Z4 Z5 Z6
      have hRZ := HRX.out.put (.int .i64 T.lf.1) (.slice c1 T.lf.2.length m1) (.int .i64 T.rt.1) (.slice c2 T.rt.2.length m2) (.int .i64 T.fr) (.int .i64 T.to) (.slice c3 T.l.length m3) hp HZ7.out.2
      have hOZ := HOX.out.put7 hk2 (.int .i64 T.lf.1) (.slice c1 T.lf.2.length m1) (.int .i64 T.rt.1) (.slice c2 T.rt.2.length m2) (.int .i64 T.fr) (.int .i64 T.to) (.slice c3 T.l.length m3)
      have hSZ := (HS0.out.trans HST.out).put7 (b := w.heap.size + 1) (by omega) (by have := HKL.out; omega) (.int .i64 T.lf.1) (.slice c1 T.lf.2.length m1) (.int .i64 T.rt.1) (.slice c2 T.rt.2.length m2) (.int .i64 T.fr) (.int .i64 T.to) (.slice c3 T.l.length m3)
      generalize put7 X (w.heap.size + 1) (.int .i64 T.lf.1) (.slice c1 T.lf.2.length m1) (.int .i64 T.rt.1) (.slice c2 T.rt.2.length m2) (.int .i64 T.fr) (.int .i64 T.to) (.slice c3 T.l.length m3) = Z at *
      refine bodyPost_ret (v := .agg #[.int .i64 T.lf.1, (.slice c1 T.lf.2.length m1), .int .i64 T.rt.1, (.slice c2 T.rt.2.length m2), .int .i64 T.fr, .int .i64 T.to, (.slice c3 T.l.length m3)]) (by simp [results, Tryz.results48, go_sem, r0, r1, r2, r3, r4, r5, r6]) rfl ?_
      exact ⟨rfl, hRZ, by first | exact hOZ | (simpa using hOZ) | (rw [hE']; exact hOZ), hSZ⟩
    · have hE' : (E == 0) = false := by simpa using hE
      have HOX : Hid (OneB (W.setCell ⟨k, 0, none⟩ (.bool false)) k false) := HO1.out.set false
      have HST : Hid (Stp k W (W.setCell ⟨k, 0, none⟩ (.bool false))) := Stp.set W _
      go_upto_region 2 with fail
      generalize W.setCell ⟨k, 0, none⟩ (.bool false) = X at *
      have HB7 := Lib.hid (HST.out.set7 hk1 HS1.out)
      have HZ7 := Lib.hid (HST.out.zb hk2 HZ1.out)
      have HRX := Lib.hid (HST.out.st HO1.out HR1.out)
      clear A0 A1 A2 A3 A4 A5 A6 o1 o2
      obtain ⟨A0, A1, A2, A3, A4, A5, A6⟩ := HB7.out.1
      obtain ⟨⟨⟨Z0, Z1, Z2, Z3, Z4, Z5, Z6⟩, K0, K1, K2, K3, K4, K5, K6⟩, _⟩ := HZ7.out
      go_wp2
      change bodyPost _ _ _ _ _ (put7 X (w.heap.size + 1) (.int .i64 T.lf.1) (.slice c1 T.lf.2.length m1) (.int .i64 T.rt.1) (.slice c2 T.rt.2.length m2) (.int .i64 T.fr) (.int .i64 T.to) (.slice c3 T.l.length m3))
      obtain ⟨r0, r1, r2, r3, r4, r5, r6⟩ := put7_at (.int .i64 T.lf.1) (.slice c1 T.lf.2.length m1) (.int .i64 T.rt.1) (.slice c2 T.rt.2.length m2) (.int .i64 T.fr) (.int .i64 T.to) (.slice c3 T.l.length m3) Z0 Z1 Z2 Z3 Z4 Z5 Z6
      have hRZ := HRX.out.put (.int .i64 T.lf.1) (.slice c1 T.lf.2.length m1) (.int .i64 T.rt.1) (.slice c2 T.rt.2.length m2) (.int .i64 T.fr) (.int .i64 T.to) (.slice c3 T.l.length m3) hp HZ7.out.2
      have hOZ := HOX.out.put7 hk2 (.int .i64 T.lf.1) (.slice c1 T.lf.2.length m1) (.int .i64 T.rt.1) (.slice c2 T.rt.2.length m2) (.int .i64 T.fr) (.int .i64 T.to) (.slice c3 T.l.length m3)
      have hSZ := (HS0.out.trans HST.out).put7 (b := w.heap.size + 1) (by omega) (by have := HKL.out; omega) (.int .i64 T.lf.1) (.slice c1 T.lf.2.length m1) (.int .i64 T.rt.1) (.slice c2 T.rt.2.length m2) (.int .i64 T.fr) (.int .i64 T.to) (.slice c3 T.l.length m3)
      generalize put7 X (w.heap.size + 1) (.int .i64 T.lf.1) (.slice c1 T.lf.2.length m1) (.int .i64 T.rt.1) (.slice c2 T.rt.2.length m2) (.int .i64 T.fr) (.int .i64 T.to) (.slice c3 T.l.length m3) = Z at *
      refine bodyPost_ret (v := .agg #[.int .i64 T.lf.1, (.slice c1 T.lf.2.length m1), .int .i64 T.rt.1, (.slice c2 T.rt.2.length m2), .int .i64 T.fr, .int .i64 T.to, (.slice c3 T.l.length m3)]) (by simp [results, Tryz.results48, go_sem, r0, r1, r2, r3, r4, r5, r6]) rfl ?_
      exact ⟨rfl, hRZ, by first | exact hOZ | (simpa using hOZ) | (rw [hE']; exact hOZ), hSZ⟩
end Go.Proofs.YtnjpceocnldlfaaGreat
