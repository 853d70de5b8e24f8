import Derived.Test.YtlbjfbpejomkmaaGreatWkRfB
import Derived.Test.YtlbjfbpejomkmaaGreatWkPl
import Derived.Test.YtlbjfbpejomkmaaGreatWkForm
import Derived.Test.YtlbjfbpejomkmaaGreatWkVal
/- The reference's Pure and Form. -/
namespace Go.Proofs.YtlbjfbpejomkmaaGreat
open Go.RowKit Wk

def FoPost2 (s : St) (vl0 : Value) (l0 : List Sp) (vr0 : Value) (m0 : List Sp) (w : World) (e : Ending) (w' : World) : Prop :=
 ∃ vl vr vv, e = .returned (.tuple #[.agg #[.int .i64 (formF s).1.lf.1, vl, .int .i64 (formF s).1.rt.1, vr, .int .i64 (formF s).1.fr, .int .i64 (formF s).1.to, vv], .int .i64 (formF s).2]) ∧ RdSt w' (formF s).1 vl vr vv ∧ Below w.heap.size w w' ∧
  ∀ b, b < w.heap.size → RdX w b vl0 l0 → RdX w b vr0 m0 → RdX w' b vl (formF s).1.lf.2 ∧ RdX w' b vr (formF s).1.rt.2 ∧ RdX w' b vv (formF s).1.l
theorem fo_of2 {s T : St} {vl0 vr0 : Value} {l0 m0 : List Sp} {E : Int} {w w' : World} {e : Ending} (vl vr vv : Value) (h : formF s = (T, E)) (he : e = .returned (.tuple #[.agg #[.int .i64 T.lf.1, vl, .int .i64 T.rt.1, vr, .int .i64 T.fr, .int .i64 T.to, vv], .int .i64 E]))
  (hr : RdSt w' T vl vr vv) (hb : Below w.heap.size w w') (hx : ∀ b, b < w.heap.size → RdX w b vl0 l0 → RdX w b vr0 m0 → RdX w' b vl T.lf.2 ∧ RdX w' b vr T.rt.2 ∧ RdX w' b vv T.l) : FoPost2 s vl0 l0 vr0 m0 w e w' := by
 refine ⟨vl, vr, vv, ?_, ?_, hb, ?_⟩
 ·rw [h]; exact he
 ·rw [h]; exact hr
 ·rw [h]; exact hx
theorem end_lt {s : St} (hs : OkS s) {x : Int} (h : endF s = some x) : x < s.to := by
 have hft := hs.ft
 unfold endF at h
 cases h3 : lastF (fun x => inL s.l x != hasP s.rt x) s.fr s.to with
 | some y => rw [h3] at h; have := last_bd h3; simp at h; omega
 | none => rw [h3, Option.none_or] at h; have := last_bd h; omega
theorem beg_ge {s : St} (hs : OkS s) {x : Int} (h : begF s = some x) : s.fr ≤ x := by
 have hft := hs.ft
 unfold begF at h
 cases h3 : firstF (fun x => inL s.l x != hasP s.lf x) s.fr s.to with
 | some y => rw [h3] at h; have := first_bd h3; simp at h; omega
 | none => rw [h3, Option.none_or] at h; have := first_bd h; omega
theorem memL_form {s : St} (hs : OkS s) {e b : Int} (h1 : endF s = some e) (h2 : begF s = some b) : memL (hasS s) b (e + 1) = clipM s.l b (e + 1) := by
 have a1 := end_lt hs h1
 have a2 := beg_ge hs h2
 exact memL_clip (canon_of_rvB hs.l).1 (canon_of_rvB hs.l).2.2 fun x hx1 hx2 => has_mid (by omega) (by omega)
theorem form_le {s : St} (hs : OkS s) {e b : Int} (hp : pairM s.lf.1 s.lf.2 s.rt.1 s.rt.2 = 0) (he : earlyB s = false) (h1 : endF s = some e) (h2 : begF s = some b) (hbe : b ≤ e + 1) :
  formF s = if (lineB b && lineB (e + 1)) = true then (⟨s.lf, s.rt, b, e + 1, clipM s.l b (e + 1)⟩, 0) else (noSt, 9) := by
 rw [form_some hp he h1 h2]
 unfold formE
 simp only [if_pos hbe]
 rw [memL_form hs h1 h2]
theorem form_gt {s : St} {e b : Int} (hp : pairM s.lf.1 s.lf.2 s.rt.1 s.rt.2 = 0) (he : earlyB s = false) (h1 : endF s = some e) (h2 : begF s = some b) (hbe : ¬ b ≤ e + 1) :
  formF s = if (lineB (e + 1) && lineB (e + 1)) = true then (⟨s.lf, s.rt, e + 1, e + 1, []⟩, 0) else (noSt, 9) := by
 rw [form_some hp he h1 h2]
 unfold formE
 simp only [if_neg hbe]
 rw [memL_none]

theorem peB_valid {P Q : Int} {l k : List Sp} (h1 : pvB P l = true) (h2 : pvB Q k = true) : peB P l Q k = (P == Q && decide (l = k)) := by
 unfold peB; rw [h1, h2]; rfl
theorem pairQ_err {P Q : Int} {l k : List Sp} (h1 : pvB P l = true) (h2 : pvB Q k = true) : (pairQ P l Q k).2 = pairM P l Q k := by
 have hQ := (rvB_of_pvB h2).2.1
 obtain ⟨c1, c2⟩ := common_mulM (P := P) hQ
 unfold pairQ pairM
 rw [peB_valid h1 h2]
 by_cases he : (P == Q && decide (l = k)) = true
 ·rw [if_pos he, if_pos he]
 ·rw [if_neg he, if_neg he]
  unfold pairR
  by_cases hb : 12622780800 < mulM P Q
  ·rw [if_pos hb, if_pos (c1.2 hb)]
  ·rw [if_neg hb, if_neg (fun h => hb (c1.1 h)), c2 hb]
   split <;> rfl
theorem pairQ_ok {P Q : Int} {l k : List Sp} (h1 : pvB P l = true) (h2 : pvB Q k = true) (he : (P == Q && decide (l = k)) = false) (h0 : (pairQ P l Q k).2 = 0) :
  (pairQ P l Q k).1 = commonM P Q ∧ 1 ≤ commonM P Q ∧ commonM P Q ≤ 12622780800 ∧ ∃ c d : Nat, commonM P Q = (c : Int) * P ∧ commonM P Q = (d : Int) * Q ∧ c * l.length ≤ 2000 ∧ d * k.length ≤ 2000 := by
 have hP := (rvB_of_pvB h1).2.1
 have hQ := (rvB_of_pvB h2).2.1
 obtain ⟨c1, c2⟩ := common_mulM (P := P) hQ
 obtain ⟨_, _, b3⟩ := mulM_bd hP hQ
 unfold pairQ at *
 rw [if_neg (by rw [he]; simp)] at *
 unfold pairR at *
 by_cases hb : 12622780800 < mulM P Q
 ·rw [if_pos hb] at h0; simp at h0
 ·rw [if_neg hb] at h0 ⊢
  by_cases hs : 2000 < mulM P Q / P * l.length + mulM P Q / Q * k.length
  ·rw [if_pos hs] at h0; simp at h0
  ·rw [if_neg hs, c2 hb]
   obtain ⟨c, hc⟩ := mulM_left (P := P) (Q := Q)
   obtain ⟨d, hd⟩ := mulM_right (P := P) (Q := Q)
   have hc0 : 0 ≤ c := by
    rcases Int.lt_or_le c 0 with h | h
    ·have := Int.mul_nonpos_of_nonpos_of_nonneg (by omega : c ≤ 0) (by omega : 0 ≤ P); omega
    ·exact h
   have hd0 : 0 ≤ d := by
    rcases Int.lt_or_le d 0 with h | h
    ·have := Int.mul_nonpos_of_nonpos_of_nonneg (by omega : d ≤ 0) (by omega : 0 ≤ Q); omega
    ·exact h
   have e1 : mulM P Q / P = c := by rw [hc]; exact Int.mul_ediv_cancel _ (by omega)
   have e2 : mulM P Q / Q = d := by rw [hd]; exact Int.mul_ediv_cancel _ (by omega)
   rw [e1, e2] at hs
   have p1 : 0 ≤ c * (l.length : Int) := Int.mul_nonneg hc0 (by omega)
   have p2 : 0 ≤ d * (k.length : Int) := Int.mul_nonneg hd0 (by omega)
   refine ⟨rfl, b3, by omega, c.toNat, d.toNat, ?_, ?_, ?_, ?_⟩
   ·rw [Int.toNat_of_nonneg hc0]; exact hc
   ·rw [Int.toNat_of_nonneg hd0]; exact hd
   ·have : ((c.toNat * l.length : Nat) : Int) = c * l.length := by rw [Int.natCast_mul, Int.toNat_of_nonneg hc0]
    omega
   ·have : ((d.toNat * k.length : Nat) : Int) = d * k.length := by rw [Int.natCast_mul, Int.toNat_of_nonneg hd0]
    omega

set_option maxHeartbeats 1000000 in
theorem pure14_any (P : Int) (v : Value) (l : List Sp) (w : World) (h : RdS w v l) :
  Calls Tryz.prog 150 #[.agg #[.int .i64 P, v]] w fun e w' => e = .returned (.agg #[.int .i64 P, v, .int .i64 P, v, .int .i64 0, .int .i64 0, .slice none 0 0]) ∧ Below w.heap.size w w' := by
 obtain ⟨a, c, rfl⟩ := h.form
 go_enter Tryz.func150, Tryz.ntmps150
 go_wp2
 refine bodyPost_ret (v := .agg #[.int .i64 P, .slice a l.length c, .int .i64 P, .slice a l.length c, .int .i64 0, .int .i64 0, .slice none 0 0]) (by simp [results, Tryz.results150, go_sem]) rfl ?_
 exact ⟨rfl, ((Below.refl _ w).alloc (Nat.le_refl _) _).alloc (by simp) _⟩


set_option maxRecDepth 100000 in
set_option maxHeartbeats 40000000 in
theorem form14_any (s : St) (vl vr vv : Value) (w : World) (h : RdSt w s vl vr vv) (hs : OkS s) :
  Calls Tryz.prog 118 #[.agg #[.int .i64 s.lf.1, vl], .agg #[.int .i64 s.rt.1, vr], .int .i64 s.fr, .int .i64 s.to, vv] w (FoPost2 s vl s.lf.2 vr s.rt.2 w) := by
 have HS := Lib.hid hs
 obtain ⟨⟨P, l⟩, ⟨Q, m⟩, f, t, k⟩ := s
 obtain ⟨hv1, hv2, hv3, hf1, hft, ht1, hins⟩ := hs
 clear hins
 obtain ⟨h1, h2, h3⟩ := h
 simp only at h1 h2 h3 hv1 hv2 hv3 hf1 hft ht1 ⊢
 obtain ⟨s, hse⟩ : ∃ s : St, s = ⟨(P, l), (Q, m), f, t, k⟩ := ⟨_, rfl⟩
 rw [← hse] at HS ⊢
 have HSE := Lib.hid hse
 obtain ⟨hP1, hP2⟩ : 1 ≤ P ∧ P ≤ 12622780800 := ⟨(rvB_of_pvB hv1).2.1, (rvB_of_pvB hv1).2.2.1⟩
 obtain ⟨hQ1, hQ2⟩ : 1 ≤ Q ∧ Q ≤ 12622780800 := ⟨(rvB_of_pvB hv2).2.1, (rvB_of_pvB hv2).2.2.1⟩
 have hll : l.length ≤ 2000 := (canon_of_rvB (rvB_of_pvB hv1).1).2.2
 have hlm : m.length ≤ 2000 := (canon_of_rvB (rvB_of_pvB hv2).1).2.2
 obtain ⟨hck, _, hlk⟩ := canon_of_rvB hv3
 have HGP := Lib.hid (goodP_of_pvB hv1)
 have HGQ := Lib.hid (goodP_of_pvB hv2)
 have HVP := Lib.hid hv1
 have HVQ := Lib.hid hv2
 have HCK := Lib.hid hck
 have C1 := Lib.hid (fun W h1 h2 => pair14_any P Q vl vr l m W h1 h2 hP1 hP2 hQ1 hQ2 hll hlm)
 have C2 := Lib.hid (fun W h1 h2 => equal13_any P Q vl vr l m W h1 h2)
 have C3 := Lib.hid (fun W (h3 : RdS W vv k) (h2 : RdS W vr m) => last14_any Q f t vv vr k m W h3 h2 HCK.out HGQ.out hQ2 hlm hf1 hft ht1)
 have C4 := Lib.hid (fun W (h3 : RdS W vv k) (h1 : RdS W vl l) => first14_any P f t vv vl k l W h3 h1 HCK.out HGP.out hP2 hll hf1 hft ht1)
 have C5 := Lib.hid (fun W h1 => pure14_any P vl l W h1)
 have C6 := Lib.hid (fun W (h3 : RdS W vv k) a b => clip14_any vv k a b W h3 (by omega))
 have HLR : Hid (s.lf = (P, l) ∧ s.rt = (Q, m) ∧ s.l = k ∧ s.fr = f ∧ s.to = t) := by rw [hse]; exact ⟨rfl, rfl, rfl, rfl, rfl⟩
 have HPM : Hid (pairM s.lf.1 s.lf.2 s.rt.1 s.rt.2 = (pairQ P l Q m).2) := by unfold Hid; rw [hse]; exact (pairQ_err hv1 hv2).symm
 have HPOK := Lib.hid (pairQ_ok hv1 hv2)
 have HEnd : Hid (endF s = (lastF (dLP k (Q, m)) f t).or (lastF (fun x => hasP (P, l) x != hasP (Q, m) x) (f - commonM P Q) f)) := by rw [hse]; rfl
 have HBeg : Hid (begF s = (firstF (dLP k (P, l)) f t).or (firstF (fun x => hasP (Q, m) x != hasP (P, l) x) t (t + commonM P Q))) := by rw [hse]; rfl
 have HEar : Hid (earlyB s = ((lastF (dLP k (Q, m)) f t).isNone && (P == Q && decide (l = m)) && (firstF (dLP k (P, l)) f t).isNone)) := by unfold Hid; rw [← peB_valid hv1 hv2, hse]; rfl
 have HPU : Hid (pureF s.lf = ⟨(P, l), (P, l), 0, 0, []⟩) := by rw [hse]; rfl
 clear hse hv1 hv2 hv3 hck
 obtain ⟨pq, hpq⟩ : ∃ pq, (pairQ P l Q m).1 = pq := ⟨_, rfl⟩
 obtain ⟨pm, hpm⟩ : ∃ pm, (pairQ P l Q m).2 = pm := ⟨_, rfl⟩
 rw [hpq, hpm] at C1 HPOK
 rw [hpm] at HPM
 obtain ⟨pe, hpe⟩ : ∃ pe, (P == Q && decide (l = m)) = pe := ⟨_, rfl⟩
 rw [hpe] at C2 HEar HPOK
 have HPE := Lib.hid hpe
 clear hpm hpe hpq
 obtain ⟨cm, hcm⟩ : ∃ cm, commonM P Q = cm := ⟨_, rfl⟩
 rw [hcm] at HEnd HBeg HPOK
 clear hcm
 obtain ⟨a1, n1, rfl⟩ := h1.form
 obtain ⟨a2, n2, rfl⟩ := h2.form
 obtain ⟨a3, n3, rfl⟩ := h3.form
 obtain ⟨W, hWe⟩ : ∃ W, ((w.alloc (.cells #[.int .i64 P, .slice a1 l.length n1] 52)).alloc (.cells #[.int .i64 Q, .slice a2 m.length n2] 52)).alloc (.cells #[.int .i64 0, .slice none 0 0, .int .i64 0, .slice none 0 0, .int .i64 0, .int .i64 0, .slice none 0 0] 54) = W := ⟨_, rfl⟩
 have hW : Below w.heap.size w W := by rw [← hWe]; exact (((Below.refl _ w).alloc (Nat.le_refl _) _).alloc (by simp) _).alloc (by simp; omega) _
 have hWs : W.heap.size = w.heap.size + 1 + 1 + 1 := by rw [← hWe]; simp
 have c0 : W.cell? ⟨w.heap.size, 0, none⟩ = some (.int .i64 P) := by rw [← hWe]; simp [go_sem]
 have c1 : W.cell? ⟨w.heap.size, 1, none⟩ = some (.slice a1 l.length n1) := by rw [← hWe]; simp [go_sem]
 have c2 : W.cell? ⟨w.heap.size + 1, 0, none⟩ = some (.int .i64 Q) := by rw [← hWe]; simp [go_sem]
 have c3 : W.cell? ⟨w.heap.size + 1, 1, none⟩ = some (.slice a2 m.length n2) := by rw [← hWe]; simp [go_sem]
 have HBX : Hid (Set7 W (w.heap.size + 1 + 1) (.int .i64 0) (.slice none 0 0) (.int .i64 0) (.slice none 0 0) (.int .i64 0) (.int .i64 0) (.slice none 0 0)) := by
  rw [← hWe]
  refine ⟨⟨?_, ?_, ?_, ?_, ?_, ?_, ?_⟩, ?_, ?_, ?_, ?_, ?_, ?_, ?_⟩ <;> simp [go_sem]
 have I0 := Lib.hid (FoIn.mk c0 c1 c2 c3 HBX.out (keepRd hW h1) (keepRd hW h2) (keepRd hW h3) hW ((RdX.old h1 (by omega)).below hW) ((RdX.old h2 (by omega)).below hW) (by omega))
 have HE := Lib.hid hWe
 clear hWe h1 h2 h3
 go_enter Tryz.func118, Tryz.ntmps118
 go_wp2_with fail
 rw [HE.out]
 go_wp2_with fail
 refine (C1.out _ I0.out.r1 I0.out.r2).mono ?_
 rintro e w1 ⟨rfl, hb1⟩
 have I1 := Lib.hid (I0.out.below hb1)
 clear hb1 c0 c1 c2 c3 HBX I0 HE hW hWs C1
 by_cases hpm : pm = 0
 ·subst hpm
  have HPO := Lib.hid (fun h => HPOK.out h rfl)
  have c0 := I1.out.c0
  have c1 := I1.out.c1
  have c2 := I1.out.c2
  have c3 := I1.out.c3
  go_wp2_with fail
  refine (C3.out _ I1.out.r3 I1.out.r2).mono ?_
  rintro e w2 ⟨cE, bE, rfl, hE1, hE0, hb2⟩
  have I2 := Lib.hid (I1.out.below hb2)
  clear hb2 c0 c1 c2 c3 I1 C3 HPOK
  have L1 : Hid (lastF (dLP k (Q, m)) f t = if bE then some (cE - 1) else none) := by
   unfold Hid
   cases bE with
   | true => exact (last_is (hE1 rfl)).symm
   | false => exact (last_is (hE0 rfl).2).symm
  clear hE1 hE0
  have c0 := I2.out.c0
  have c1 := I2.out.c1
  go_wp2_with fail
  refine (C4.out _ I2.out.r3 I2.out.r1).mono ?_
  rintro e w3 ⟨cB, bB, rfl, hB1, hB0, hb3⟩
  have I3 := Lib.hid (I2.out.below hb3)
  clear hb3 c0 c1 I2 C4
  have L2 : Hid (firstF (dLP k (P, l)) f t = if bB then some cB else none) := by
   unfold Hid
   cases bB with
   | true => exact (first_is (hB1 rfl)).symm
   | false => exact (first_is (hB0 rfl).2).symm
  clear hB1 hB0
  have c0 := I3.out.c0
  have c1 := I3.out.c1
  have c2 := I3.out.c2
  have c3 := I3.out.c3
  go_wp2_with fail
  refine (C2.out _ I3.out.r1 I3.out.r2).mono ?_
  rintro e w4 ⟨rfl, hb4⟩
  have I4 := Lib.hid (I3.out.below hb4)
  clear hb4 c0 c1 c2 c3 I3 C2
  go_upto_if 52 with fail
  go_cut [14, 16, 18, 19, 20, 21, 22] from 53 to 142 (fun u14 u16 _ _ _ _ _ wx => ∃ e0 a : Int, u14 = .int .i64 (e0 + 1) ∧ u16 = .int .i64 a ∧ Hid (endF s = some e0) ∧ Hid (begF s = some a) ∧ Hid (earlyB s = false) ∧ Below w4.heap.size w4 wx)
  case first =>
   have c0 := I4.out.c0
   have c1 := I4.out.c1
   have c2 := I4.out.c2
   have c3 := I4.out.c3
   cases pe with
   | true =>
    have HPL : Hid (P = Q ∧ l = m) := by have := HPE.out; simp at this; exact this
    cases bB with
    | true =>
     have hbE : bE = true := by
      cases bE with
      | true => rfl
      | false =>
       exfalso
       have e1 := lastF_ok (dLP k (Q, m)) f t
       have e2 := firstF_ok (dLP k (P, l)) f t
       rw [L1.out] at e1
       rw [L2.out] at e2
       simp only [if_true, Bool.false_eq_true, if_false] at e1 e2
       rw [← HPL.out.1, ← HPL.out.2] at e1
       have h3 : dLP k (P, l) cB = true := e2.2.2.1
       rw [e1 cB e2.1 e2.2.1] at h3
       cases h3
     subst hbE
     go_wp2_with fail
     go_meet
     case rel => exact ⟨cE - 1, cB, congrArg (Value.int IntKind.i64) (by omega), rfl, by unfold Hid; rw [HEnd.out, L1.out]; rfl, by unfold Hid; rw [HBeg.out, L2.out]; rfl, by unfold Hid; rw [HEar.out, L1.out]; rfl, Below.refl _ _⟩
    | false =>
     have hbE : bE = false := by
      cases bE with
      | false => rfl
      | true =>
       exfalso
       have e1 := lastF_ok (dLP k (Q, m)) f t
       have e2 := firstF_ok (dLP k (P, l)) f t
       rw [L1.out] at e1
       rw [L2.out] at e2
       simp only [if_true, Bool.false_eq_true, if_false] at e1 e2
       rw [HPL.out.1, HPL.out.2] at e2
       have h3 : dLP k (Q, m) (cE - 1) = true := e1.2.2.1
       rw [e2 (cE - 1) e1.1 e1.2.1] at h3
       cases h3
     have HE0 : Hid (earlyB s = true) := by unfold Hid; rw [HEar.out, L1.out, L2.out, hbE]; rfl
     go_wp2_with fail
     refine (C5.out _ I4.out.r1).mono ?_
     rintro e wp ⟨rfl, hbp⟩
     have IP := Lib.hid (I4.out.below hbp)
     clear hbp c0 c1 c2 c3 I4
     obtain ⟨⟨B0, B1, B2, B3, B4, B5, B6⟩, K0, K1, K2, K3, K4, K5, K6⟩ := IP.out.bx
     go_wp2
     change bodyPost _ _ _ _ _ (put7 wp (w.heap.size + 1 + 1) (.int .i64 P) (.slice a1 l.length n1) (.int .i64 P) (.slice a1 l.length n1) (.int .i64 0) (.int .i64 0) (.slice none 0 0))
     obtain ⟨⟨B0, B1, B2, B3, B4, B5, B6⟩, _⟩ := IP.out.bx
     obtain ⟨r0, r1, r2, r3, r4, r5, r6⟩ := put7_at (.int .i64 P) (.slice a1 l.length n1) (.int .i64 P) (.slice a1 l.length n1) (.int .i64 0) (.int .i64 0) (.slice none 0 0) B0 B1 B2 B3 B4 B5 B6
     have hBZ := put7_below (.int .i64 P) (.slice a1 l.length n1) (.int .i64 P) (.slice a1 l.length n1) (.int .i64 0) (.int .i64 0) (.slice none 0 0) IP.out.bl (b := (w.heap.size + 1 + 1)) (by omega)
     have HZ0 := Lib.hid (RdX.put7 (.int .i64 P) (.slice a1 l.length n1) (.int .i64 P) (.slice a1 l.length n1) (.int .i64 0) (.int .i64 0) (.slice none 0 0) IP.out.y1)
     have HZ1 := Lib.hid (RdX.put7 (.int .i64 P) (.slice a1 l.length n1) (.int .i64 P) (.slice a1 l.length n1) (.int .i64 0) (.int .i64 0) (.slice none 0 0) IP.out.y1)
     have HZ2 := Lib.hid (RdX.put7 (.int .i64 P) (.slice a1 l.length n1) (.int .i64 P) (.slice a1 l.length n1) (.int .i64 0) (.int .i64 0) (.slice none 0 0) (RdX.nil wp (w.heap.size + 1 + 1)))
     generalize put7 wp (w.heap.size + 1 + 1) (.int .i64 P) (.slice a1 l.length n1) (.int .i64 P) (.slice a1 l.length n1) (.int .i64 0) (.int .i64 0) (.slice none 0 0) = Z at *
     refine bodyPost_ret (v := .tuple #[.agg #[.int .i64 P, .slice a1 l.length n1, .int .i64 P, .slice a1 l.length n1, .int .i64 0, .int .i64 0, .slice none 0 0], .int .i64 0]) (by simp [results, Tryz.results118, go_sem, r0, r1, r2, r3, r4, r5, r6]) rfl ?_
     exact fo_of2 _ _ _ ((form_early HPM.out HE0.out).trans (by rw [HPU.out])) rfl ⟨HZ0.out.rd, HZ1.out.rd, HZ2.out.rd⟩ hBZ (fun b hb q1 q2 => ⟨q1.below hBZ, q1.below hBZ, RdX.nil _ _⟩)

   | false =>
    obtain ⟨hpq, hcm1, hcm2, cc, dd, hcc, hdd, hcl, hdl⟩ := HPO.out rfl
    subst hpq
    have HNE : Hid (¬ (P, l) = (Q, m)) := by
     intro e
     cases e
     have := HPE.out
     simp at this
    have HDF := Lib.hid (fun W h1 h2 => differ14_any P Q pq cc dd (.slice a1 l.length n1) (.slice a2 m.length n2) l m W h1 h2 HGP.out HGQ.out hP2 hQ2 hcm1 hcm2 hcc hdd hcl hdl)
    have HPD : Hid (∀ x k : Int, (hasP (P, l) (x + k * pq) != hasP (Q, m) (x + k * pq)) = (hasP (P, l) x != hasP (Q, m) x)) := fun x k => per_diff (p := (P, l)) (q := (Q, m)) hP1 hQ1 hcc hdd x k
    have HDP : Hid (∀ D : List Sp, (∀ x, 0 ≤ x → x < pq → inL D x = (hasP (P, l) x != hasP (Q, m) x)) → 0 < D.length) := fun D hv => diff_pos (p := (P, l)) (q := (Q, m)) HVP.out HVQ.out hcm1 hcc hdd HNE.out hv
    have HEF : Hid (earlyB s = false) := by unfold Hid; rw [HEar.out]; simp
    clear hcc hdd hcl hdl
    go_wp2_with fail
    refine (HDF.out _ I4.out.r1 I4.out.r2).mono ?_
    rintro e w5 ⟨v5, D, rfl, ho5, hcD, hiD, hvD, hlD, hb5⟩
    have I5 := Lib.hid (I4.out.below hb5)
    have hD0 := HDP.out D hvD
    obtain ⟨d5, dc5, rfl, hf5⟩ := ho5.form
    have HF5 := Lib.hid hf5
    have HCD := Lib.hid hcD
    have HID := Lib.hid hiD
    have HVD := Lib.hid hvD
    have HB45 := Lib.hid hb5
    clear hb5 c0 c1 c2 c3 hf5 ho5 hcD hiD hvD HDF HDP
    have HM1 := Lib.hid (fun W => rmod_any f pq W hcm1 (by omega) (by omega) (by omega))
    have HM2 := Lib.hid (fun W => rmod_any t pq W hcm1 (by omega) (by omega) (by omega))
    have r0 := Int.emod_nonneg f (b := pq) (by omega)
    have r1 := Int.emod_lt_of_pos f (b := pq) (by omega)
    obtain ⟨r, hr⟩ : ∃ r, f % pq = r := ⟨_, rfl⟩
    rw [hr] at r0 r1 HM1
    have HRF := Lib.hid hr
    have q0 := Int.emod_nonneg t (b := pq) (by omega)
    have q1 := Int.emod_lt_of_pos t (b := pq) (by omega)
    obtain ⟨q, hq⟩ : ∃ q, t % pq = q := ⟨_, rfl⟩
    rw [hq] at q0 q1 HM2
    have HRT := Lib.hid hq
    clear hr hq
    have s1 : IntKind.i64.wrap ((D.length : Int) - 1) = (D.length : Int) - 1 := by rw [IntKind.wrap_i64]; omega
    have s2 : ((D.length : Int) - 1).toNat = D.length - 1 := by omega
    go_upto_if 62 with fail
    go_cut [14, 19, 20] from 63 to 102 (fun u14 _ _ wx => ∃ e0 : Int, u14 = .int .i64 (e0 + 1) ∧ Hid (endF s = some e0) ∧ Below w5.heap.size w5 wx)
    case first =>
     cases bE with
     | true =>
      go_wp2_with fail
      go_meet
      case rel => exact ⟨cE - 1, congrArg (Value.int IntKind.i64) (by omega), by unfold Hid; rw [HEnd.out, L1.out]; rfl, Below.refl _ _⟩
     | false =>
      have HEL : Hid (∀ x, LastD (fun x => hasP (P, l) x != hasP (Q, m) x) (f - pq) f (some x) → endF s = some x) := fun x hx => by
       rw [HEnd.out, L1.out]
       exact (last_is hx).symm
      go_wp2_with fail
      refine (HM1.out _).mono ?_
      rintro e w6 ⟨rfl, hb6⟩
      obtain ⟨g, rfl, _, _, dl⟩ := HF5.out (D.length - 1) (by omega)
      have el := keepCell hb6 dl
      have hlast := HID.out _ (idx_mem (l := D) (j := D.length - 1) (by omega))
      obtain ⟨tl, htl⟩ : ∃ tl, (D.getD (D.length - 1) (0, 0)).2 = tl := ⟨_, rfl⟩
      rw [htl] at el hlast
      have hlp := idx_pos HCD.out (j := D.length - 1) (by omega)
      have hl0 := hlast.1
      have hl1 := hlast.2
      rw [htl] at hlp
      have HTL := Lib.hid htl
      clear htl dl hlast
      have s3 : (0 : Int) ≤ (D.length : Int) - 1 := by omega
      have s4 : (D.length : Int) - 1 < (D.length : Int) := by omega
      go_wp2_with fail
      go_loopw [14, 20] (fun u14 u20 wr => ∃ (i : Nat) (v : Int), u14 = .int .i64 v ∧ u20 = .int .i64 i ∧ i ≤ D.length ∧ Hid ((v = f - r - pq + tl ∧ ∀ j, j < i → r ≤ (D.getD j (0, 0)).1) ∨ ∃ j0, j0 < i ∧ (D.getD j0 (0, 0)).1 < r ∧ (∀ j, j0 < j → j < i → r ≤ (D.getD j (0, 0)).1) ∧ v = f - r + min (D.getD j0 (0, 0)).2 r) ∧ Below w6.heap.size w6 wr) (fun _ u20 _ => D.length - (intOf u20).toNat)
      case atStart => exact ⟨0, _, rfl, rfl, Nat.zero_le _, .inl ⟨rfl, fun j hj => by omega⟩, Below.refl _ _⟩
      case round =>
       obtain ⟨i, v, rfl, rfl, hi, HV, hB⟩ := hrel
       by_cases hlt : i < D.length
       ·obtain ⟨g', e', _, dx, dy⟩ := HF5.out i hlt
        cases e'
        have ex := keepCell hB (keepCell hb6 dx)
        have ey := keepCell hB (keepCell hb6 dy)
        have hin := HID.out _ (idx_mem hlt)
        have hpos := idx_pos HCD.out hlt
        obtain ⟨x, hx⟩ : ∃ x, (D.getD i (0, 0)).1 = x := ⟨_, rfl⟩
        obtain ⟨y, hy⟩ : ∃ y, (D.getD i (0, 0)).2 = y := ⟨_, rfl⟩
        rw [hx] at ex hin hpos
        rw [hy] at ey hin hpos
        have HX := Lib.hid hx
        have HY := Lib.hid hy
        have hi0 := hin.1
        have hi1 := hin.2
        have hlt' : (i : Int) < (D.length : Int) := by omega
        clear hx hy dx dy hin
        by_cases hxr : x < r
        ·have t1 : decide (x < r) = true := by simpa using hxr
         have HV2 : Hid (∀ v', v' = f - r + min y r → Hid ((v' = f - r - pq + tl ∧ ∀ j, j < i + 1 → r ≤ (D.getD j (0, 0)).1) ∨ ∃ j0, j0 < i + 1 ∧ (D.getD j0 (0, 0)).1 < r ∧ (∀ j, j0 < j → j < i + 1 → r ≤ (D.getD j (0, 0)).1) ∧ v' = f - r + min (D.getD j0 (0, 0)).2 r)) := fun v' hv' => .inr ⟨i, by omega, by rw [HX.out]; exact hxr, fun j h1 h2 => by omega, by rw [HY.out]; exact hv'⟩
         go_wp2
         go_roundw
         case rel => exact ⟨i + 1, _, rfl, by go_num, by omega, HV2.out _ rfl, hB⟩
         case measure => simp [intOf]; omega
        ·have t1 : decide (x < r) = false := by simpa using hxr
         have HV2 : Hid ((v = f - r - pq + tl ∧ ∀ j, j < i + 1 → r ≤ (D.getD j (0, 0)).1) ∨ ∃ j0, j0 < i + 1 ∧ (D.getD j0 (0, 0)).1 < r ∧ (∀ j, j0 < j → j < i + 1 → r ≤ (D.getD j (0, 0)).1) ∧ v = f - r + min (D.getD j0 (0, 0)).2 r) := by
          rcases HV.out with ⟨h1, h2⟩ | ⟨j0, h1, h2, h3, h4⟩
          ·refine .inl ⟨h1, fun j hj => ?_⟩
           rcases Nat.lt_succ_iff_lt_or_eq.1 hj with h | rfl
           ·exact h2 j h
           ·rw [HX.out]; omega
          ·refine .inr ⟨j0, by omega, h2, fun j a b => ?_, h4⟩
           rcases Nat.lt_succ_iff_lt_or_eq.1 b with h | rfl
           ·exact h3 j a h
           ·rw [HX.out]; omega
         go_wp2
         go_roundw
         case rel => exact ⟨i + 1, v, rfl, by go_num, by omega, HV2, hB⟩
         case measure => simp [intOf]; omega
       ·have HEN : Hid (endF s = some (v - 1)) := by
         rcases HV.out with ⟨h1, h2⟩ | ⟨j0, h1, h2, h3, h4⟩
         ·have := lastD_out (D := fun x => hasP (P, l) x != hasP (Q, m) x) (f := f) HCD.out HID.out hcm1 HVD.out HPD.out HRF.out hD0 (fun j hj => h2 j (by omega))
          rw [HTL.out, ← h1] at this
          exact HEL.out _ this
         ·have := lastD_in (D := fun x => hasP (P, l) x != hasP (Q, m) x) (f := f) HCD.out HID.out hcm1 HVD.out HPD.out HRF.out (i := j0) (by omega) h2 (fun j a b => h3 j a (by omega))
          rw [← h4] at this
          exact HEL.out _ this
        go_wp2_with fail
        go_meet
        case rel => exact ⟨v - 1, congrArg (Value.int IntKind.i64) (by omega), HEN, keepBelow hb6 hB⟩
    case rest =>
    obtain ⟨e0, rfl, HEE, hb7⟩ := hcut
    have HF7 : Hid (∀ i, i < D.length → ∃ g, d5 = some ⟨g, 0, none⟩ ∧ wc.cell? ⟨g, i * 2, none⟩ = some (.int .i64 (D.getD i (0, 0)).1) ∧ wc.cell? ⟨g, i * 2 + 1, none⟩ = some (.int .i64 (D.getD i (0, 0)).2)) := by
     intro i hi
     obtain ⟨g, e1, _, e2, e3⟩ := HF5.out i hi
     exact ⟨g, e1, keepCell hb7 e2, keepCell hb7 e3⟩
    have HB47 := Lib.hid (keepBelow HB45.out hb7)
    clear hb7 HF5 I5 HM1 HB45
    go_upto_if 104 with fail
    go_cut [16, 21, 22] from 105 to 142 (fun u16 _ _ wx => ∃ a : Int, u16 = .int .i64 a ∧ Hid (begF s = some a) ∧ Below wc.heap.size wc wx)
    case first =>
     cases bB with
     | true =>
      go_wp2_with fail
      go_meet
      case rel => exact ⟨cB, rfl, by unfold Hid; rw [HBeg.out, L2.out]; rfl, Below.refl _ _⟩
     | false =>
      have HBL : Hid (∀ x, FirstD (fun x => hasP (P, l) x != hasP (Q, m) x) t (t + pq) (some x) → begF s = some x) := fun x hx => by
       rw [HBeg.out, L2.out]
       have e : (fun x => hasP (Q, m) x != hasP (P, l) x) = (fun x => hasP (P, l) x != hasP (Q, m) x) := by funext x; exact bne_comm ..
       rw [e]
       exact (first_is hx).symm
      go_wp2_with fail
      refine (HM2.out _).mono ?_
      rintro e w8 ⟨rfl, hb8⟩
      obtain ⟨g, rfl, df, _⟩ := HF7.out 0 hD0
      have ef := keepCell hb8 df
      simp only [Nat.zero_mul] at ef
      have hfirst := HID.out _ (idx_mem (l := D) (j := 0) hD0)
      have hfp := idx_pos HCD.out (j := 0) hD0
      obtain ⟨tf, htf⟩ : ∃ tf, (D.getD 0 (0, 0)).1 = tf := ⟨_, rfl⟩
      rw [htf] at ef hfirst hfp
      have hl0 := hfirst.1
      have hl1 := hfirst.2
      have HTF := Lib.hid htf
      clear htf df hfirst
      have s3 : (0 : Int) ≤ (D.length : Int) - 1 := by omega
      have s5 : (0 : Int) < (D.length : Int) := by omega
      go_wp2_with fail
      go_loopw [16, 22] (fun u16 u22 wr => ∃ (i : Nat) (v : Int), u16 = .int .i64 v ∧ u22 = .int .i64 ((i : Int) - 1) ∧ i ≤ D.length ∧ Hid ((v = t - q + pq + tf ∧ ∀ j, i ≤ j → j < D.length → (D.getD j (0, 0)).2 ≤ q) ∨ ∃ j0, i ≤ j0 ∧ j0 < D.length ∧ q < (D.getD j0 (0, 0)).2 ∧ (∀ j, i ≤ j → j < j0 → (D.getD j (0, 0)).2 ≤ q) ∧ v = t - q + max (D.getD j0 (0, 0)).1 q) ∧ Below w8.heap.size w8 wr) (fun _ u22 _ => (intOf u22 + 1).toNat)
      case atStart => exact ⟨D.length, _, rfl, rfl, Nat.le_refl _, .inl ⟨rfl, fun j h1 h2 => by omega⟩, Below.refl _ _⟩
      case round =>
       obtain ⟨i, v, rfl, rfl, hi, HV, hB⟩ := hrel
       by_cases hlt : 0 < i
       ·obtain ⟨i', rfl⟩ : ∃ i', i = i' + 1 := ⟨i - 1, by omega⟩
        have s6 : ((i' + 1 : Nat) : Int) - 1 = (i' : Int) := by omega
        rw [s6]
        have hi2 : i' < D.length := by omega
        obtain ⟨g', e', dx, dy⟩ := HF7.out i' hi2
        cases e'
        have ex := keepCell hB (keepCell hb8 dx)
        have ey := keepCell hB (keepCell hb8 dy)
        have hin := HID.out _ (idx_mem hi2)
        have hpos := idx_pos HCD.out hi2
        obtain ⟨x, hx⟩ : ∃ x, (D.getD i' (0, 0)).1 = x := ⟨_, rfl⟩
        obtain ⟨y, hy⟩ : ∃ y, (D.getD i' (0, 0)).2 = y := ⟨_, rfl⟩
        rw [hx] at ex hin hpos
        rw [hy] at ey hin hpos
        have HX := Lib.hid hx
        have HY := Lib.hid hy
        have hi0 := hin.1
        have hi1 := hin.2
        have t3 : (0 : Int) ≤ (i' : Int) := by omega
        have hlt' : (i' : Int) < (D.length : Int) := by omega
        clear hx hy dx dy hin s6
        by_cases hyq : q < y
        ·have t1 : decide (q < y) = true := by simpa using hyq
         have HV2 : Hid (∀ v', v' = t - q + max x q → Hid ((v' = t - q + pq + tf ∧ ∀ j, i' ≤ j → j < D.length → (D.getD j (0, 0)).2 ≤ q) ∨ ∃ j0, i' ≤ j0 ∧ j0 < D.length ∧ q < (D.getD j0 (0, 0)).2 ∧ (∀ j, i' ≤ j → j < j0 → (D.getD j (0, 0)).2 ≤ q) ∧ v' = t - q + max (D.getD j0 (0, 0)).1 q)) := fun v' hv' => .inr ⟨i', Nat.le_refl _, hi2, by rw [HY.out]; exact hyq, fun j h1 h2 => by omega, by rw [HX.out]; exact hv'⟩
         go_wp2
         go_roundw
         case rel => exact ⟨i', _, rfl, by go_num, by omega, HV2.out _ rfl, hB⟩
         case measure => simp [intOf]
        ·have t1 : decide (q < y) = false := by simpa using hyq
         have HV2 : Hid ((v = t - q + pq + tf ∧ ∀ j, i' ≤ j → j < D.length → (D.getD j (0, 0)).2 ≤ q) ∨ ∃ j0, i' ≤ j0 ∧ j0 < D.length ∧ q < (D.getD j0 (0, 0)).2 ∧ (∀ j, i' ≤ j → j < j0 → (D.getD j (0, 0)).2 ≤ q) ∧ v = t - q + max (D.getD j0 (0, 0)).1 q) := by
          rcases HV.out with ⟨h1, h2⟩ | ⟨j0, h1, h2, h3, h4, h5⟩
          ·refine .inl ⟨h1, fun j a b => ?_⟩
           rcases Nat.lt_or_eq_of_le a with h | rfl
           ·exact h2 j h b
           ·rw [HY.out]; omega
          ·refine .inr ⟨j0, by omega, h2, h3, fun j a b => ?_, h5⟩
           rcases Nat.lt_or_eq_of_le a with h | rfl
           ·exact h4 j h b
           ·rw [HY.out]; omega
         go_wp2
         go_roundw
         case rel => exact ⟨i', v, rfl, by go_num, by omega, HV2, hB⟩
         case measure => simp [intOf]
       ·obtain rfl : i = 0 := by omega
        have HBN : Hid (begF s = some v) := by
         rcases HV.out with ⟨h1, h2⟩ | ⟨j0, h1, h2, h3, h4, h5⟩
         ·have := firstD_out (D := fun x => hasP (P, l) x != hasP (Q, m) x) (f := t) HCD.out HID.out hcm1 HVD.out HPD.out HRT.out hD0 (fun j hj => h2 j (Nat.zero_le _) hj)
          rw [HTF.out, ← h1] at this
          exact HBL.out _ this
         ·have := firstD_in (D := fun x => hasP (P, l) x != hasP (Q, m) x) (f := t) HCD.out HID.out hcm1 HVD.out HPD.out HRT.out (i := j0) h2 h3 (fun j a => h4 j (Nat.zero_le _) a)
          rw [← h5] at this
          exact HBL.out _ this
        have t3 : decide ((0 : Int) ≤ ((0 : Nat) : Int) - 1) = false := by decide
        go_wp2_with fail
        go_meet
        case rel => exact ⟨v, rfl, HBN, keepBelow hb8 hB⟩
    case rest =>
    obtain ⟨a, rfl, HBB, hb9⟩ := hcut
    go_wp2_with fail
    go_meet
    case rel => exact ⟨e0, a, rfl, rfl, HEE, HBB, HEF, keepBelow HB47.out hb9⟩
  case rest =>
   obtain ⟨e0, a, rfl, rfl, HEE, HBB, HEF, hb5⟩ := hcut
   have I5 := Lib.hid (I4.out.below hb5)
   clear hb5 I4 L1 L2 HPO HEar
   have heb := end_bd HS.out HEE.out
   have hbb := beg_bd HS.out HBB.out
   have c0 := I5.out.c0
   have c1 := I5.out.c1
   have c2 := I5.out.c2
   have c3 := I5.out.c3
   have hys := I5.out.ys
   have HLL : Hid (s.lf = (P, l) ∧ s.rt = (Q, m) ∧ s.l = k) := ⟨HLR.out.1, HLR.out.2.1, HLR.out.2.2.1⟩
   by_cases hae : a ≤ e0 + 1
   ·have t1 : decide (a ≤ e0 + 1) = true := by simpa using hae
    have HFM := Lib.hid (form_le HS.out HPM.out HEF.out HEE.out HBB.out hae)
    rw [HLL.out.1, HLL.out.2.1, HLL.out.2.2] at HFM
    clear hae
    go_wp2_with fail
    obtain ⟨Y, hY⟩ : ∃ Y, wc.alloc (.cells #[.int .i64 P, .slice a1 l.length n1, .int .i64 Q, .slice a2 m.length n2, .int .i64 a, .int .i64 (e0 + 1), .slice none 0 0] 54) = Y := ⟨_, rfl⟩
    have hYB : Below wc.heap.size wc Y := by rw [← hY]; exact (Below.refl _ wc).alloc (Nat.le_refl _) _
    have HYS : Hid (Set7 Y wc.heap.size (.int .i64 P) (.slice a1 l.length n1) (.int .i64 Q) (.slice a2 m.length n2) (.int .i64 a) (.int .i64 (e0 + 1)) (.slice none 0 0)) := by
     rw [← hY]
     refine ⟨⟨?_, ?_, ?_, ?_, ?_, ?_, ?_⟩, ?_, ?_, ?_, ?_, ?_, ?_, ?_⟩ <;> simp [go_sem]
    have hYs : Y.heap.size = wc.heap.size + 1 := by rw [← hY]; simp
    rw [hY]
    clear hY
    have IY := Lib.hid (I5.out.below hYB)
    refine (C6.out _ IY.out.r3 a (e0 + 1)).mono ?_
    rintro e' w12 ⟨vM, rfl, oM, hb12⟩
    have hclen := clip_len k a (e0 + 1)
    have M1 := Lib.hid (RdX.ownLow oM (by omega) (show wc.heap.size < Y.heap.size by omega))
    have M2 := Lib.hid (RdX.ownLow oM (by omega) (show w.heap.size + 1 + 1 < Y.heap.size by omega))
    have XC := Lib.hid (HYS.out.below hb12)
    have hB12 := keepBelow hYB hb12
    obtain ⟨aM, nM, rfl, _⟩ := oM.form
    have HMA : Hid (∀ b' o n c, Value.slice aM (clipM k a (e0 + 1)).length nM = .slice (some ⟨b', o, none⟩) n c → w.heap.size ≤ b') := fun b' o n c e => by have := (oM.lt b' (by rw [e]; rfl)).1; omega
    obtain ⟨cl, hcl⟩ : ∃ cl, (clipM k a (e0 + 1)).length = cl := ⟨_, rfl⟩
    rw [hcl] at M1 M2 HMA
    rw [hcl]
    have HVS : Hid (∀ V, w12.setCell ⟨wc.heap.size, 6, none⟩ (.slice aM cl nM) = V → Set7 V wc.heap.size (.int .i64 P) (.slice a1 l.length n1) (.int .i64 Q) (.slice a2 m.length n2) (.int .i64 a) (.int .i64 (e0 + 1)) (.slice aM cl nM)) := by
     intro V hV
     obtain ⟨⟨D0, D1, D2, D3, D4, D5, D6⟩, E0, E1, E2, E3, E4, E5, E6⟩ := XC.out
     subst hV
     refine ⟨⟨?_, ?_, ?_, ?_, ?_, ?_, ?_⟩, ?_, ?_, ?_, ?_, ?_, ?_, ?_⟩ <;> simp [go_sem, *]
    have HVB : Hid (∀ V, w12.setCell ⟨wc.heap.size, 6, none⟩ (.slice aM cl nM) = V → Below wc.heap.size wc V) := by
     intro V hV
     rw [← hV]
     exact hB12.setCell (p := ⟨wc.heap.size, 6, none⟩) (Nat.le_refl _) _
    have HVM : Hid (∀ V, w12.setCell ⟨wc.heap.size, 6, none⟩ (.slice aM cl nM) = V → RdX V (w.heap.size + 1 + 1) (.slice aM cl nM) (clipM k a (e0 + 1))) := by
     intro V hV
     rw [← hV]
     exact M2.out.set2 M1.out _
    clear hcl oM hb12 hB12 M1 M2 HYS IY c0 c1 c2 c3
    obtain ⟨⟨D0, D1, D2, D3, D4, D5, D6⟩, E0, E1, E2, E3, E4, E5, E6⟩ := XC.out
    go_wp2_with fail
    obtain ⟨V, hV⟩ : ∃ V, w12.setCell ⟨wc.heap.size, 6, none⟩ (.slice aM cl nM) = V := ⟨_, rfl⟩
    rw [hV]
    have XV := Lib.hid (HVS.out V hV)
    have IV := Lib.hid (I5.out.below (HVB.out V hV))
    have MV := Lib.hid (HVM.out V hV)
    clear hV D0 D1 D2 D3 D4 D5 D6 E0 E1 E2 E3 E4 E5 E6 XC HVS HVB HVM I5
    obtain ⟨⟨B0, B1, B2, B3, B4, B5, B6⟩, K0, K1, K2, K3, K4, K5, K6⟩ := IV.out.bx
    obtain ⟨⟨D0, D1, D2, D3, D4, D5, D6⟩, E0, E1, E2, E3, E4, E5, E6⟩ := XV.out
    cases hla : lineB a with
    | false =>
     rw [hla] at HFM
     refine (line10_any a V).mono ?_
     rw [hla]
     rintro e' w' ⟨rfl, rfl⟩
     go_wp2

     change bodyPost _ _ _ _ _ (put7 V (w.heap.size + 1 + 1) (.int .i64 0) (.slice none 0 0) (.int .i64 0) (.slice none 0 0) (.int .i64 0) (.int .i64 0) (.slice none 0 0))
     obtain ⟨⟨B0, B1, B2, B3, B4, B5, B6⟩, _⟩ := IV.out.bx
     obtain ⟨r0, r1, r2, r3, r4, r5, r6⟩ := put7_at (.int .i64 0) (.slice none 0 0) (.int .i64 0) (.slice none 0 0) (.int .i64 0) (.int .i64 0) (.slice none 0 0) B0 B1 B2 B3 B4 B5 B6
     have hBZ := put7_below (.int .i64 0) (.slice none 0 0) (.int .i64 0) (.slice none 0 0) (.int .i64 0) (.int .i64 0) (.slice none 0 0) IV.out.bl (b := (w.heap.size + 1 + 1)) (by omega)
     have HZ0 := Lib.hid (RdX.put7 (.int .i64 0) (.slice none 0 0) (.int .i64 0) (.slice none 0 0) (.int .i64 0) (.int .i64 0) (.slice none 0 0) (RdX.nil V (w.heap.size + 1 + 1)))
     have HZ1 := Lib.hid (RdX.put7 (.int .i64 0) (.slice none 0 0) (.int .i64 0) (.slice none 0 0) (.int .i64 0) (.int .i64 0) (.slice none 0 0) (RdX.nil V (w.heap.size + 1 + 1)))
     have HZ2 := Lib.hid (RdX.put7 (.int .i64 0) (.slice none 0 0) (.int .i64 0) (.slice none 0 0) (.int .i64 0) (.int .i64 0) (.slice none 0 0) (RdX.nil V (w.heap.size + 1 + 1)))
     generalize put7 V (w.heap.size + 1 + 1) (.int .i64 0) (.slice none 0 0) (.int .i64 0) (.slice none 0 0) (.int .i64 0) (.int .i64 0) (.slice none 0 0) = Z at *
     refine bodyPost_ret (v := .tuple #[.agg #[.int .i64 0, .slice none 0 0, .int .i64 0, .slice none 0 0, .int .i64 0, .int .i64 0, .slice none 0 0], .int .i64 9]) (by simp [results, Tryz.results118, go_sem, r0, r1, r2, r3, r4, r5, r6]) rfl ?_
     exact fo_of2 _ _ _ (HFM.out.trans (by rw [if_neg (by simp)])) rfl ⟨HZ0.out.rd, HZ1.out.rd, HZ2.out.rd⟩ hBZ (fun b hb q1 q2 => ⟨RdX.nil _ _, RdX.nil _ _, RdX.nil _ _⟩)

    | true =>
     cases hle : lineB (e0 + 1) with
     | false =>
      rw [hla, hle] at HFM
      refine (line10_any a V).mono ?_
      rw [hla]
      rintro e' w' ⟨rfl, rfl⟩
      go_wp2_with fail
      refine (line10_any (e0 + 1) V).mono ?_
      rw [hle]
      rintro e' w' ⟨rfl, rfl⟩
      go_wp2

      change bodyPost _ _ _ _ _ (put7 V (w.heap.size + 1 + 1) (.int .i64 0) (.slice none 0 0) (.int .i64 0) (.slice none 0 0) (.int .i64 0) (.int .i64 0) (.slice none 0 0))
      obtain ⟨⟨B0, B1, B2, B3, B4, B5, B6⟩, _⟩ := IV.out.bx
      obtain ⟨r0, r1, r2, r3, r4, r5, r6⟩ := put7_at (.int .i64 0) (.slice none 0 0) (.int .i64 0) (.slice none 0 0) (.int .i64 0) (.int .i64 0) (.slice none 0 0) B0 B1 B2 B3 B4 B5 B6
      have hBZ := put7_below (.int .i64 0) (.slice none 0 0) (.int .i64 0) (.slice none 0 0) (.int .i64 0) (.int .i64 0) (.slice none 0 0) IV.out.bl (b := (w.heap.size + 1 + 1)) (by omega)
      have HZ0 := Lib.hid (RdX.put7 (.int .i64 0) (.slice none 0 0) (.int .i64 0) (.slice none 0 0) (.int .i64 0) (.int .i64 0) (.slice none 0 0) (RdX.nil V (w.heap.size + 1 + 1)))
      have HZ1 := Lib.hid (RdX.put7 (.int .i64 0) (.slice none 0 0) (.int .i64 0) (.slice none 0 0) (.int .i64 0) (.int .i64 0) (.slice none 0 0) (RdX.nil V (w.heap.size + 1 + 1)))
      have HZ2 := Lib.hid (RdX.put7 (.int .i64 0) (.slice none 0 0) (.int .i64 0) (.slice none 0 0) (.int .i64 0) (.int .i64 0) (.slice none 0 0) (RdX.nil V (w.heap.size + 1 + 1)))
      generalize put7 V (w.heap.size + 1 + 1) (.int .i64 0) (.slice none 0 0) (.int .i64 0) (.slice none 0 0) (.int .i64 0) (.int .i64 0) (.slice none 0 0) = Z at *
      refine bodyPost_ret (v := .tuple #[.agg #[.int .i64 0, .slice none 0 0, .int .i64 0, .slice none 0 0, .int .i64 0, .int .i64 0, .slice none 0 0], .int .i64 9]) (by simp [results, Tryz.results118, go_sem, r0, r1, r2, r3, r4, r5, r6]) rfl ?_
      exact fo_of2 _ _ _ (HFM.out.trans (by rw [if_neg (by simp)])) rfl ⟨HZ0.out.rd, HZ1.out.rd, HZ2.out.rd⟩ hBZ (fun b hb q1 q2 => ⟨RdX.nil _ _, RdX.nil _ _, RdX.nil _ _⟩)

     | true =>
      rw [hla, hle] at HFM
      refine (line10_any a V).mono ?_
      rw [hla]
      rintro e' w' ⟨rfl, rfl⟩
      go_wp2_with fail
      refine (line10_any (e0 + 1) V).mono ?_
      rw [hle]
      rintro e' w' ⟨rfl, rfl⟩
      go_wp2

      change bodyPost _ _ _ _ _ (put7 V (w.heap.size + 1 + 1) (.int .i64 P) (.slice a1 l.length n1) (.int .i64 Q) (.slice a2 m.length n2) (.int .i64 a) (.int .i64 (e0 + 1)) (.slice aM cl nM))
      obtain ⟨⟨B0, B1, B2, B3, B4, B5, B6⟩, _⟩ := IV.out.bx
      obtain ⟨r0, r1, r2, r3, r4, r5, r6⟩ := put7_at (.int .i64 P) (.slice a1 l.length n1) (.int .i64 Q) (.slice a2 m.length n2) (.int .i64 a) (.int .i64 (e0 + 1)) (.slice aM cl nM) B0 B1 B2 B3 B4 B5 B6
      have hBZ := put7_below (.int .i64 P) (.slice a1 l.length n1) (.int .i64 Q) (.slice a2 m.length n2) (.int .i64 a) (.int .i64 (e0 + 1)) (.slice aM cl nM) IV.out.bl (b := (w.heap.size + 1 + 1)) (by omega)
      have HZ0 := Lib.hid (RdX.put7 (.int .i64 P) (.slice a1 l.length n1) (.int .i64 Q) (.slice a2 m.length n2) (.int .i64 a) (.int .i64 (e0 + 1)) (.slice aM cl nM) IV.out.y1)
      have HZ1 := Lib.hid (RdX.put7 (.int .i64 P) (.slice a1 l.length n1) (.int .i64 Q) (.slice a2 m.length n2) (.int .i64 a) (.int .i64 (e0 + 1)) (.slice aM cl nM) IV.out.y2)
      have HZ2 := Lib.hid (RdX.put7 (.int .i64 P) (.slice a1 l.length n1) (.int .i64 Q) (.slice a2 m.length n2) (.int .i64 a) (.int .i64 (e0 + 1)) (.slice aM cl nM) MV.out)
      generalize put7 V (w.heap.size + 1 + 1) (.int .i64 P) (.slice a1 l.length n1) (.int .i64 Q) (.slice a2 m.length n2) (.int .i64 a) (.int .i64 (e0 + 1)) (.slice aM cl nM) = Z at *
      refine bodyPost_ret (v := .tuple #[.agg #[.int .i64 P, .slice a1 l.length n1, .int .i64 Q, .slice a2 m.length n2, .int .i64 a, .int .i64 (e0 + 1), .slice aM cl nM], .int .i64 0]) (by simp [results, Tryz.results118, go_sem, r0, r1, r2, r3, r4, r5, r6]) rfl ?_
      exact fo_of2 _ _ _ (HFM.out.trans (by rw [if_pos (by simp)])) rfl ⟨HZ0.out.rd, HZ1.out.rd, HZ2.out.rd⟩ hBZ (fun b hb q1 q2 => ⟨q1.below hBZ, q2.below hBZ, ⟨HZ2.out.rd, fun b' o n c e _ => by have := HMA.out b' o n c e; omega⟩⟩)

   ·have t1 : decide (a ≤ e0 + 1) = false := by simpa using hae
    have HFM := Lib.hid (form_gt (s := s) HPM.out HEF.out HEE.out HBB.out hae)
    rw [HLL.out.1, HLL.out.2.1] at HFM
    clear hae
    go_wp2_with fail
    obtain ⟨V, hV⟩ : ∃ V, wc.alloc (.cells #[.int .i64 P, .slice a1 l.length n1, .int .i64 Q, .slice a2 m.length n2, .int .i64 (e0 + 1), .int .i64 (e0 + 1), .slice none 0 0] 54) = V := ⟨_, rfl⟩
    have hVB : Below wc.heap.size wc V := by rw [← hV]; exact (Below.refl _ wc).alloc (Nat.le_refl _) _
    have XV : Hid (Set7 V wc.heap.size (.int .i64 P) (.slice a1 l.length n1) (.int .i64 Q) (.slice a2 m.length n2) (.int .i64 (e0 + 1)) (.int .i64 (e0 + 1)) (.slice none 0 0)) := by
     rw [← hV]
     refine ⟨⟨?_, ?_, ?_, ?_, ?_, ?_, ?_⟩, ?_, ?_, ?_, ?_, ?_, ?_, ?_⟩ <;> simp [go_sem]
    rw [hV]
    have IV := Lib.hid (I5.out.below hVB)
    clear hV hVB I5 c0 c1 c2 c3
    obtain ⟨⟨B0, B1, B2, B3, B4, B5, B6⟩, K0, K1, K2, K3, K4, K5, K6⟩ := IV.out.bx
    obtain ⟨⟨D0, D1, D2, D3, D4, D5, D6⟩, E0, E1, E2, E3, E4, E5, E6⟩ := XV.out
    cases hle : lineB (e0 + 1) with
    | false =>
     rw [hle] at HFM
     refine (line10_any (e0 + 1) V).mono ?_
     rw [hle]
     rintro e' w' ⟨rfl, rfl⟩
     go_wp2

     change bodyPost _ _ _ _ _ (put7 V (w.heap.size + 1 + 1) (.int .i64 0) (.slice none 0 0) (.int .i64 0) (.slice none 0 0) (.int .i64 0) (.int .i64 0) (.slice none 0 0))
     obtain ⟨⟨B0, B1, B2, B3, B4, B5, B6⟩, _⟩ := IV.out.bx
     obtain ⟨r0, r1, r2, r3, r4, r5, r6⟩ := put7_at (.int .i64 0) (.slice none 0 0) (.int .i64 0) (.slice none 0 0) (.int .i64 0) (.int .i64 0) (.slice none 0 0) B0 B1 B2 B3 B4 B5 B6
     have hBZ := put7_below (.int .i64 0) (.slice none 0 0) (.int .i64 0) (.slice none 0 0) (.int .i64 0) (.int .i64 0) (.slice none 0 0) IV.out.bl (b := (w.heap.size + 1 + 1)) (by omega)
     have HZ0 := Lib.hid (RdX.put7 (.int .i64 0) (.slice none 0 0) (.int .i64 0) (.slice none 0 0) (.int .i64 0) (.int .i64 0) (.slice none 0 0) (RdX.nil V (w.heap.size + 1 + 1)))
     have HZ1 := Lib.hid (RdX.put7 (.int .i64 0) (.slice none 0 0) (.int .i64 0) (.slice none 0 0) (.int .i64 0) (.int .i64 0) (.slice none 0 0) (RdX.nil V (w.heap.size + 1 + 1)))
     have HZ2 := Lib.hid (RdX.put7 (.int .i64 0) (.slice none 0 0) (.int .i64 0) (.slice none 0 0) (.int .i64 0) (.int .i64 0) (.slice none 0 0) (RdX.nil V (w.heap.size + 1 + 1)))
     generalize put7 V (w.heap.size + 1 + 1) (.int .i64 0) (.slice none 0 0) (.int .i64 0) (.slice none 0 0) (.int .i64 0) (.int .i64 0) (.slice none 0 0) = Z at *
     refine bodyPost_ret (v := .tuple #[.agg #[.int .i64 0, .slice none 0 0, .int .i64 0, .slice none 0 0, .int .i64 0, .int .i64 0, .slice none 0 0], .int .i64 9]) (by simp [results, Tryz.results118, go_sem, r0, r1, r2, r3, r4, r5, r6]) rfl ?_
     exact fo_of2 _ _ _ (HFM.out.trans (by rw [if_neg (by simp)])) rfl ⟨HZ0.out.rd, HZ1.out.rd, HZ2.out.rd⟩ hBZ (fun b hb q1 q2 => ⟨RdX.nil _ _, RdX.nil _ _, RdX.nil _ _⟩)

    | true =>
     rw [hle] at HFM
     refine (line10_any (e0 + 1) V).mono ?_
     rw [hle]
     rintro e' w' ⟨rfl, rfl⟩
     go_wp2_with fail
     refine (line10_any (e0 + 1) V).mono ?_
     rw [hle]
     rintro e' w' ⟨rfl, rfl⟩
     go_wp2

     change bodyPost _ _ _ _ _ (put7 V (w.heap.size + 1 + 1) (.int .i64 P) (.slice a1 l.length n1) (.int .i64 Q) (.slice a2 m.length n2) (.int .i64 (e0 + 1)) (.int .i64 (e0 + 1)) (.slice none 0 0))
     obtain ⟨⟨B0, B1, B2, B3, B4, B5, B6⟩, _⟩ := IV.out.bx
     obtain ⟨r0, r1, r2, r3, r4, r5, r6⟩ := put7_at (.int .i64 P) (.slice a1 l.length n1) (.int .i64 Q) (.slice a2 m.length n2) (.int .i64 (e0 + 1)) (.int .i64 (e0 + 1)) (.slice none 0 0) B0 B1 B2 B3 B4 B5 B6
     have hBZ := put7_below (.int .i64 P) (.slice a1 l.length n1) (.int .i64 Q) (.slice a2 m.length n2) (.int .i64 (e0 + 1)) (.int .i64 (e0 + 1)) (.slice none 0 0) IV.out.bl (b := (w.heap.size + 1 + 1)) (by omega)
     have HZ0 := Lib.hid (RdX.put7 (.int .i64 P) (.slice a1 l.length n1) (.int .i64 Q) (.slice a2 m.length n2) (.int .i64 (e0 + 1)) (.int .i64 (e0 + 1)) (.slice none 0 0) IV.out.y1)
     have HZ1 := Lib.hid (RdX.put7 (.int .i64 P) (.slice a1 l.length n1) (.int .i64 Q) (.slice a2 m.length n2) (.int .i64 (e0 + 1)) (.int .i64 (e0 + 1)) (.slice none 0 0) IV.out.y2)
     have HZ2 := Lib.hid (RdX.put7 (.int .i64 P) (.slice a1 l.length n1) (.int .i64 Q) (.slice a2 m.length n2) (.int .i64 (e0 + 1)) (.int .i64 (e0 + 1)) (.slice none 0 0) (RdX.nil V (w.heap.size + 1 + 1)))
     generalize put7 V (w.heap.size + 1 + 1) (.int .i64 P) (.slice a1 l.length n1) (.int .i64 Q) (.slice a2 m.length n2) (.int .i64 (e0 + 1)) (.int .i64 (e0 + 1)) (.slice none 0 0) = Z at *
     refine bodyPost_ret (v := .tuple #[.agg #[.int .i64 P, .slice a1 l.length n1, .int .i64 Q, .slice a2 m.length n2, .int .i64 (e0 + 1), .int .i64 (e0 + 1), .slice none 0 0], .int .i64 0]) (by simp [results, Tryz.results118, go_sem, r0, r1, r2, r3, r4, r5, r6]) rfl ?_
     exact fo_of2 _ _ _ (HFM.out.trans (by rw [if_pos (by simp)])) rfl ⟨HZ0.out.rd, HZ1.out.rd, HZ2.out.rd⟩ hBZ (fun b hb q1 q2 => ⟨q1.below hBZ, q2.below hBZ, RdX.nil _ _⟩)

 ·have g1 : (pm == 0) = false := by simpa using hpm
  have g2 : (pm != 0) = true := by simpa using hpm
  have HN := Lib.hid hpm
  obtain ⟨⟨B0, B1, B2, B3, B4, B5, B6⟩, K0, K1, K2, K3, K4, K5, K6⟩ := I1.out.bx
  go_wp2

  change bodyPost _ _ _ _ _ (put7 w1 (w.heap.size + 1 + 1) (.int .i64 0) (.slice none 0 0) (.int .i64 0) (.slice none 0 0) (.int .i64 0) (.int .i64 0) (.slice none 0 0))
  obtain ⟨⟨B0, B1, B2, B3, B4, B5, B6⟩, _⟩ := I1.out.bx
  obtain ⟨r0, r1, r2, r3, r4, r5, r6⟩ := put7_at (.int .i64 0) (.slice none 0 0) (.int .i64 0) (.slice none 0 0) (.int .i64 0) (.int .i64 0) (.slice none 0 0) B0 B1 B2 B3 B4 B5 B6
  have hBZ := put7_below (.int .i64 0) (.slice none 0 0) (.int .i64 0) (.slice none 0 0) (.int .i64 0) (.int .i64 0) (.slice none 0 0) I1.out.bl (b := (w.heap.size + 1 + 1)) (by omega)
  have HZ0 := Lib.hid (RdX.put7 (.int .i64 0) (.slice none 0 0) (.int .i64 0) (.slice none 0 0) (.int .i64 0) (.int .i64 0) (.slice none 0 0) (RdX.nil w1 (w.heap.size + 1 + 1)))
  have HZ1 := Lib.hid (RdX.put7 (.int .i64 0) (.slice none 0 0) (.int .i64 0) (.slice none 0 0) (.int .i64 0) (.int .i64 0) (.slice none 0 0) (RdX.nil w1 (w.heap.size + 1 + 1)))
  have HZ2 := Lib.hid (RdX.put7 (.int .i64 0) (.slice none 0 0) (.int .i64 0) (.slice none 0 0) (.int .i64 0) (.int .i64 0) (.slice none 0 0) (RdX.nil w1 (w.heap.size + 1 + 1)))
  generalize put7 w1 (w.heap.size + 1 + 1) (.int .i64 0) (.slice none 0 0) (.int .i64 0) (.slice none 0 0) (.int .i64 0) (.int .i64 0) (.slice none 0 0) = Z at *
  refine bodyPost_ret (v := .tuple #[.agg #[.int .i64 0, .slice none 0 0, .int .i64 0, .slice none 0 0, .int .i64 0, .int .i64 0, .slice none 0 0], .int .i64 pm]) (by simp [results, Tryz.results118, go_sem, r0, r1, r2, r3, r4, r5, r6]) rfl ?_
  exact fo_of2 _ _ _ (form_pair HPM.out HN.out) rfl ⟨HZ0.out.rd, HZ1.out.rd, HZ2.out.rd⟩ hBZ (fun b hb q1 q2 => ⟨RdX.nil _ _, RdX.nil _ _, RdX.nil _ _⟩)

end Go.Proofs.YtlbjfbpejomkmaaGreat

namespace Go.Proofs.YtlbjfbpejomkmaaGreat
open Go.RowKit Wk

set_option maxRecDepth 100000 in
set_option maxHeartbeats 4000000 in
theorem given14_any (s : St) (vl vr vv : Value) (w : World) (h : RdSt w s vl vr vv) :
  Calls Tryz.prog 117 #[.agg #[.int .i64 s.lf.1, vl], .agg #[.int .i64 s.rt.1, vr], .int .i64 s.fr, .int .i64 s.to, vv] w fun e w' => e = .returned (.bool (givenB s)) ∧ Below w.heap.size w w' := by
 obtain ⟨⟨P, l⟩, ⟨Q, m⟩, f, t, k⟩ := s
 obtain ⟨h1, h2, h3⟩ := h
 simp only at h1 h2 h3 ⊢
 have HGV : Hid (givenB ⟨(P, l), (Q, m), f, t, k⟩ = (((((((pvB P l && pvB Q m) && decide (f ≤ t)) && lineB f) && lineB t) && rvB k) && (decide (k = []) || (decide (f ≤ (k.getD 0 (0, 0)).1) && decide ((k.getD (k.length - 1) (0, 0)).2 ≤ t)))))) := rfl
 have C1 := Lib.hid (fun W => line10_any f W)
 have C2 := Lib.hid (fun W => line10_any t W)
 have C3 := Lib.hid (fun W h1 => pv13_any P vl l W h1)
 have C4 := Lib.hid (fun W h2 => pv13_any Q vr m W h2)
 have C5 := Lib.hid (fun W h3 => rval_any vv k W h3)
 have HR1 := Lib.hid h1
 have HR2 := Lib.hid h2
 have HR3 := Lib.hid h3
 obtain ⟨a1, n1, rfl⟩ := h1.form
 obtain ⟨a2, n2, rfl⟩ := h2.form
 obtain ⟨a3, n3, rfl, _, hc3⟩ := h3
 have HC := Lib.hid hc3
 clear h1 h2 hc3
 obtain ⟨W, hWe⟩ : ∃ W, (w.alloc (.cells #[.int .i64 P, .slice a1 l.length n1] 52)).alloc (.cells #[.int .i64 Q, .slice a2 m.length n2] 52) = W := ⟨_, rfl⟩
 have hW : Below w.heap.size w W := by rw [← hWe]; exact ((Below.refl _ _).alloc (Nat.le_refl _) _).alloc (by simp) _
 have c0 : W.cell? ⟨w.heap.size, 0, none⟩ = some (.int .i64 P) := by rw [← hWe]; simp [go_sem]
 have c1 : W.cell? ⟨w.heap.size, 1, none⟩ = some (.slice a1 l.length n1) := by rw [← hWe]; simp [go_sem]
 have c2 : W.cell? ⟨w.heap.size + 1, 0, none⟩ = some (.int .i64 Q) := by rw [← hWe]; simp [go_sem]
 have c3 : W.cell? ⟨w.heap.size + 1, 1, none⟩ = some (.slice a2 m.length n2) := by rw [← hWe]; simp [go_sem]
 have HE := Lib.hid hWe
 clear hWe
 cases g0 : decide (t < f) with
 | true =>
  have HF : Hid (givenB ⟨(P, l), (Q, m), f, t, k⟩ = false) := by unfold Hid; rw [HGV.out, decide_eq_false (by simpa using g0 : ¬ f ≤ t)]; simp
  go_enter Tryz.func117, Tryz.ntmps117
  go_wp2_with fail
  rw [HE.out]
  go_wp2
  go_ret
  exact ⟨ret_bool HF.out.symm, hW⟩
 | false =>
 have hft : Hid (decide (f ≤ t) = true) := decide_eq_true (by simpa using g0)
 cases g1 : lineB f with
 | false =>
  have HF : Hid (givenB ⟨(P, l), (Q, m), f, t, k⟩ = false) := by unfold Hid; rw [HGV.out, g1]; simp
  rw [g1] at C1
  clear g1
  go_enter Tryz.func117, Tryz.ntmps117
  go_wp2_with fail
  rw [HE.out]
  go_wp2_with fail
  refine (C1.out _).mono ?_
  rintro e w' ⟨rfl, rfl⟩
  go_wp2
  go_ret
  exact ⟨ret_bool HF.out.symm, hW⟩
 | true =>
 rw [g1] at C1
 have G1 := Lib.hid g1
 clear g1
 cases g2 : lineB t with
 | false =>
  have HF : Hid (givenB ⟨(P, l), (Q, m), f, t, k⟩ = false) := by unfold Hid; rw [HGV.out, g2]; simp
  rw [g2] at C2
  clear g2
  go_enter Tryz.func117, Tryz.ntmps117
  go_wp2_with fail
  rw [HE.out]
  go_wp2_with fail
  refine (C1.out _).mono ?_
  rintro e w' ⟨rfl, rfl⟩
  go_wp2_with fail
  refine (C2.out _).mono ?_
  rintro e w' ⟨rfl, rfl⟩
  go_wp2
  go_ret
  exact ⟨ret_bool HF.out.symm, hW⟩
 | true =>
 rw [g2] at C2
 have G2 := Lib.hid g2
 clear g2
 cases g3 : pvB P l with
 | false =>
  have HF : Hid (givenB ⟨(P, l), (Q, m), f, t, k⟩ = false) := by unfold Hid; rw [HGV.out, g3]; simp
  rw [g3] at C3
  clear g3
  go_enter Tryz.func117, Tryz.ntmps117
  go_wp2_with fail
  rw [HE.out]
  go_wp2_with fail
  refine (C1.out _).mono ?_
  rintro e w' ⟨rfl, rfl⟩
  go_wp2_with fail
  refine (C2.out _).mono ?_
  rintro e w' ⟨rfl, rfl⟩
  go_wp2_with fail
  refine (C3.out _ (keepRd hW HR1.out)).mono ?_
  rintro e w2 ⟨rfl, hb2⟩
  have hB2 := keepBelow hW hb2
  have k2 := keepCell hb2 c2
  have k3 := keepCell hb2 c3
  go_wp2
  go_ret
  exact ⟨ret_bool HF.out.symm, hB2⟩
 | true =>
 rw [g3] at C3
 have G3 := Lib.hid g3
 clear g3
 cases g4 : pvB Q m with
 | false =>
  have HF : Hid (givenB ⟨(P, l), (Q, m), f, t, k⟩ = false) := by unfold Hid; rw [HGV.out, g4]; simp
  rw [g4] at C4
  clear g4
  go_enter Tryz.func117, Tryz.ntmps117
  go_wp2_with fail
  rw [HE.out]
  go_wp2_with fail
  refine (C1.out _).mono ?_
  rintro e w' ⟨rfl, rfl⟩
  go_wp2_with fail
  refine (C2.out _).mono ?_
  rintro e w' ⟨rfl, rfl⟩
  go_wp2_with fail
  refine (C3.out _ (keepRd hW HR1.out)).mono ?_
  rintro e w2 ⟨rfl, hb2⟩
  have hB2 := keepBelow hW hb2
  have k2 := keepCell hb2 c2
  have k3 := keepCell hb2 c3
  go_wp2_with fail
  refine (C4.out _ (keepRd hB2 HR2.out)).mono ?_
  rintro e w3 ⟨rfl, hb3⟩
  have hB3 := keepBelow hB2 hb3
  go_wp2
  go_ret
  exact ⟨ret_bool HF.out.symm, hB3⟩
 | true =>
 rw [g4] at C4
 have G4 := Lib.hid g4
 clear g4
 cases g5 : rvB k with
 | false =>
  have HF : Hid (givenB ⟨(P, l), (Q, m), f, t, k⟩ = false) := by unfold Hid; rw [HGV.out, g5]; simp
  rw [g5] at C5
  clear g5
  go_enter Tryz.func117, Tryz.ntmps117
  go_wp2_with fail
  rw [HE.out]
  go_wp2_with fail
  refine (C1.out _).mono ?_
  rintro e w' ⟨rfl, rfl⟩
  go_wp2_with fail
  refine (C2.out _).mono ?_
  rintro e w' ⟨rfl, rfl⟩
  go_wp2_with fail
  refine (C3.out _ (keepRd hW HR1.out)).mono ?_
  rintro e w2 ⟨rfl, hb2⟩
  have hB2 := keepBelow hW hb2
  have k2 := keepCell hb2 c2
  have k3 := keepCell hb2 c3
  go_wp2_with fail
  refine (C4.out _ (keepRd hB2 HR2.out)).mono ?_
  rintro e w3 ⟨rfl, hb3⟩
  have hB3 := keepBelow hB2 hb3
  go_wp2_with fail
  refine (C5.out _ (keepRd hB3 HR3.out)).mono ?_
  rintro e w4 ⟨rfl, hb4⟩
  have hB4 := keepBelow hB3 hb4
  go_wp2
  go_ret
  exact ⟨ret_bool HF.out.symm, hB4⟩
 | true =>
 rw [g5] at C5
 have G5 := Lib.hid g5
 clear g5
 have HV : Hid (givenB ⟨(P, l), (Q, m), f, t, k⟩ = (decide (k = []) || (decide (f ≤ (k.getD 0 (0, 0)).1) && decide ((k.getD (k.length - 1) (0, 0)).2 ≤ t)))) := by unfold Hid; rw [HGV.out, G1.out, G2.out, G3.out, G4.out, G5.out, hft.out]; simp
 have hlk := (canon_of_rvB G5.out).2.2
 by_cases hk : 0 < k.length
 ·obtain ⟨bb, o, x, y0, rfl, hbw, HX, dx, _⟩ := rd_at (k := 0) HC.out (Below.refl _ _) hk
  obtain ⟨bb', o', x0, y, e', _, HY, _, dy⟩ := rd_at (k := k.length - 1) HC.out (Below.refl _ _) (by omega)
  cases e'
  simp only [Nat.zero_mul, Nat.add_zero] at dx
  have t0 : ((k.length : Int) == 0) = false := by simp; intro e; rw [e] at hk; simp at hk
  have s1 : IntKind.i64.wrap ((k.length : Int) - 1) = (k.length : Int) - 1 := by rw [IntKind.wrap_i64]; omega
  have s2 : ((k.length : Int) - 1).toNat = k.length - 1 := by omega
  have s3 : (0 : Int) ≤ (k.length : Int) - 1 := by omega
  have s4 : (k.length : Int) - 1 < (k.length : Int) := by omega
  have s5 : (0 : Int) < (k.length : Int) := by omega
  have hne : decide (k = []) = false := decide_eq_false (by intro e; rw [e] at hk; simp at hk)
  rw [HX.out, HY.out, hne, Bool.false_or] at HV
  clear hne
  cases q1 : decide (f ≤ x) with
  | false =>
   rw [q1] at HV
   go_enter Tryz.func117, Tryz.ntmps117
   go_wp2_with fail
   rw [HE.out]
   go_wp2_with fail
   refine (C1.out _).mono ?_
   rintro e w' ⟨rfl, rfl⟩
   go_wp2_with fail
   refine (C2.out _).mono ?_
   rintro e w' ⟨rfl, rfl⟩
   go_wp2_with fail
   refine (C3.out _ (keepRd hW HR1.out)).mono ?_
   rintro e w2 ⟨rfl, hb2⟩
   have hB2 := keepBelow hW hb2
   have k2 := keepCell hb2 c2
   have k3 := keepCell hb2 c3
   go_wp2_with fail
   refine (C4.out _ (keepRd hB2 HR2.out)).mono ?_
   rintro e w3 ⟨rfl, hb3⟩
   have hB3 := keepBelow hB2 hb3
   go_wp2_with fail
   refine (C5.out _ (keepRd hB3 HR3.out)).mono ?_
   rintro e w4 ⟨rfl, hb4⟩
   have hB4 := keepBelow hB3 hb4
   have ex := keepCell hB4 dx
   have ey := keepCell hB4 dy
   go_wp2
   go_ret
   exact ⟨ret_bool (by rw [HV.out]; rfl), hB4⟩
  | true =>
   rw [q1, Bool.true_and] at HV
   go_enter Tryz.func117, Tryz.ntmps117
   go_wp2_with fail
   rw [HE.out]
   go_wp2_with fail
   refine (C1.out _).mono ?_
   rintro e w' ⟨rfl, rfl⟩
   go_wp2_with fail
   refine (C2.out _).mono ?_
   rintro e w' ⟨rfl, rfl⟩
   go_wp2_with fail
   refine (C3.out _ (keepRd hW HR1.out)).mono ?_
   rintro e w2 ⟨rfl, hb2⟩
   have hB2 := keepBelow hW hb2
   have k2 := keepCell hb2 c2
   have k3 := keepCell hb2 c3
   go_wp2_with fail
   refine (C4.out _ (keepRd hB2 HR2.out)).mono ?_
   rintro e w3 ⟨rfl, hb3⟩
   have hB3 := keepBelow hB2 hb3
   go_wp2_with fail
   refine (C5.out _ (keepRd hB3 HR3.out)).mono ?_
   rintro e w4 ⟨rfl, hb4⟩
   have hB4 := keepBelow hB3 hb4
   have ex := keepCell hB4 dx
   have ey := keepCell hB4 dy
   go_wp2
   go_ret
   exact ⟨ret_bool HV.out.symm, hB4⟩
 ·have e : k = [] := List.length_eq_zero_iff.1 (by omega)
  have t0 : ((k.length : Int) == 0) = true := by simp; exact e
  rw [decide_eq_true e, Bool.true_or] at HV
  clear e
  go_enter Tryz.func117, Tryz.ntmps117
  go_wp2_with fail
  rw [HE.out]
  go_wp2_with fail
  refine (C1.out _).mono ?_
  rintro e w' ⟨rfl, rfl⟩
  go_wp2_with fail
  refine (C2.out _).mono ?_
  rintro e w' ⟨rfl, rfl⟩
  go_wp2_with fail
  refine (C3.out _ (keepRd hW HR1.out)).mono ?_
  rintro e w2 ⟨rfl, hb2⟩
  have hB2 := keepBelow hW hb2
  have k2 := keepCell hb2 c2
  have k3 := keepCell hb2 c3
  go_wp2_with fail
  refine (C4.out _ (keepRd hB2 HR2.out)).mono ?_
  rintro e w3 ⟨rfl, hb3⟩
  have hB3 := keepBelow hB2 hb3
  go_wp2_with fail
  refine (C5.out _ (keepRd hB3 HR3.out)).mono ?_
  rintro e w4 ⟨rfl, hb4⟩
  have hB4 := keepBelow hB3 hb4
  go_wp2
  go_ret
  exact ⟨ret_bool HV.out.symm, hB4⟩
end Go.Proofs.YtlbjfbpejomkmaaGreat
namespace Go.Proofs.YtlbjfbpejomkmaaGreat
open Go.RowKit Wk

def sameB (s t : St) : Bool := ((((s.lf.1 == t.lf.1 && decide (s.lf.2 = t.lf.2)) && (s.rt.1 == t.rt.1 && decide (s.rt.2 = t.rt.2))) && (s.fr == t.fr)) && (s.to == t.to)) && decide (s.l = t.l)
def ofF (s : St) : St × Int := if givenB s then formF s else (noSt, 1)
theorem VB_ref (s : St) : VB s = (((ofF s).2 == 0) && sameB s (ofF s).1) := by
 unfold ofF
 cases hg : givenB s with
 | false =>
  rw [VB_given hg]
  rfl
 | true =>
  rw [VB_eq (s := s) (T := (formF s).1) (E := (formF s).2) hg rfl]
  have h1 : pvB s.lf.1 s.lf.2 = true := (okS_of_givenB hg).lf
  have h2 : pvB s.rt.1 s.rt.2 = true := (okS_of_givenB hg).rt
  simp only [if_true]
  generalize formF s = F
  obtain ⟨T, E⟩ := F
  simp only
  rw [Bool.eq_iff_iff]
  unfold sameB peB
  rw [h1, h2]
  simp only [Bool.and_eq_true, beq_iff_eq, decide_eq_true_eq, Bool.true_and]
  constructor
  ·rintro ⟨⟨⟨⟨⟨e1, e2⟩, e3⟩, ⟨⟨_, e4⟩, e5⟩⟩, ⟨⟨_, e6⟩, e7⟩⟩, e8⟩
   exact ⟨e1, ⟨⟨⟨⟨⟨e4, e5⟩, e6, e7⟩, e2.symm⟩, e3.symm⟩, e8.symm⟩⟩
  ·rintro ⟨e1, ⟨⟨⟨⟨⟨e4, e5⟩, e6, e7⟩, e2⟩, e3⟩, e8⟩⟩
   refine ⟨⟨⟨⟨⟨e1, e2.symm⟩, e3.symm⟩, ⟨⟨?_, e4⟩, e5⟩⟩, ⟨⟨?_, e6⟩, e7⟩⟩, e8.symm⟩
   ·rw [← e4, ← e5]; exact h1
   ·rw [← e6, ← e7]; exact h2

set_option maxRecDepth 100000 in
set_option maxHeartbeats 4000000 in
theorem same14_any (s r : St) (vl vr vv ul ur uv : Value) (w : World) (h : RdSt w s vl vr vv) (h' : RdSt w r ul ur uv) :
  Calls Tryz.prog 74 #[stV s vl vr vv, stV r ul ur uv] w fun e w' => e = .returned (.bool (sameB s r)) ∧ Below w.heap.size w w' := by
 obtain ⟨⟨P, l⟩, ⟨Q, m⟩, f, t, k⟩ := s
 obtain ⟨⟨P', l'⟩, ⟨Q', m'⟩, f', t', k'⟩ := r
 obtain ⟨h1, h2, h3⟩ := h
 obtain ⟨h1', h2', h3'⟩ := h'
 simp only at h1 h2 h3 h1' h2' h3'
 unfold stV
 simp only
 have HSB : Hid (sameB ⟨(P, l), (Q, m), f, t, k⟩ ⟨(P', l'), (Q', m'), f', t', k'⟩ = (((((P == P' && decide (l = l')) && (Q == Q' && decide (m = m'))) && (f == f')) && (t == t')) && decide (k = k'))) := rfl
 have C1 := Lib.hid (fun W a b => equal13_any P P' vl ul l l' W a b)
 have C2 := Lib.hid (fun W a b => equal13_any Q Q' vr ur m m' W a b)
 have C3 := Lib.hid (fun W a b => same12_any vv uv k k' W a b)
 obtain ⟨g1, hg1⟩ : ∃ g, (P == P' && decide (l = l')) = g := ⟨_, rfl⟩
 obtain ⟨g2, hg2⟩ : ∃ g, (Q == Q' && decide (m = m')) = g := ⟨_, rfl⟩
 obtain ⟨g5, hg5⟩ : ∃ g, decide (k = k') = g := ⟨_, rfl⟩
 rw [hg1] at C1 HSB
 rw [hg2] at C2 HSB
 rw [hg5] at C3 HSB
 clear hg1 hg2 hg5
 have HR1 := Lib.hid h1
 have HR2 := Lib.hid h2
 have HR3 := Lib.hid h3
 have HR1' := Lib.hid h1'
 have HR2' := Lib.hid h2'
 have HR3' := Lib.hid h3'
 obtain ⟨a1, n1, rfl⟩ := h1.form
 obtain ⟨a2, n2, rfl⟩ := h2.form
 obtain ⟨a3, n3, rfl⟩ := h3.form
 obtain ⟨b1, o1, rfl⟩ := h1'.form
 obtain ⟨b2, o2, rfl⟩ := h2'.form
 obtain ⟨b3, o3, rfl⟩ := h3'.form
 clear h1 h2 h3 h1' h2' h3'
 obtain ⟨W, hWe⟩ : ∃ W, (w.alloc (.cells #[.int .i64 P, .slice a1 l.length n1, .int .i64 Q, .slice a2 m.length n2, .int .i64 f, .int .i64 t, .slice a3 k.length n3] 54)).alloc (.cells #[.int .i64 P', .slice b1 l'.length o1, .int .i64 Q', .slice b2 m'.length o2, .int .i64 f', .int .i64 t', .slice b3 k'.length o3] 54) = W := ⟨_, rfl⟩
 have hW : Below w.heap.size w W := by rw [← hWe]; exact ((Below.refl _ w).alloc (Nat.le_refl _) _).alloc (by simp) _
 have HX : Hid (Set7 W w.heap.size (.int .i64 P) (.slice a1 l.length n1) (.int .i64 Q) (.slice a2 m.length n2) (.int .i64 f) (.int .i64 t) (.slice a3 k.length n3)) := by
  rw [← hWe]
  refine ⟨⟨?_, ?_, ?_, ?_, ?_, ?_, ?_⟩, ?_, ?_, ?_, ?_, ?_, ?_, ?_⟩ <;> simp [go_sem]
 have HY : Hid (Set7 W (w.heap.size + 1) (.int .i64 P') (.slice b1 l'.length o1) (.int .i64 Q') (.slice b2 m'.length o2) (.int .i64 f') (.int .i64 t') (.slice b3 k'.length o3)) := by
  rw [← hWe]
  refine ⟨⟨?_, ?_, ?_, ?_, ?_, ?_, ?_⟩, ?_, ?_, ?_, ?_, ?_, ?_, ?_⟩ <;> simp [go_sem]
 have HE := Lib.hid hWe
 clear hWe
 have D1 := Lib.hid (C1.out W (keepRd hW HR1.out) (keepRd hW HR1'.out))
 cases g1 with
 | false =>
  obtain ⟨⟨B0, B1, B2, B3, B4, B5, B6⟩, _⟩ := HX.out
  obtain ⟨⟨E0, E1, E2, E3, E4, E5, E6⟩, _⟩ := HY.out
  rw [HSB.out]
  go_enter Tryz.func74, Tryz.ntmps74
  go_wp2_with fail
  rw [HE.out]
  go_wp2_with fail
  refine D1.out.mono ?_
  rintro e w1 ⟨rfl, hb1⟩
  have hB1 := keepBelow hW hb1
  clear B0 B1 B2 B3 B4 B5 B6 E0 E1 E2 E3 E4 E5 E6
  go_wp2
  go_ret
  exact ⟨rfl, hB1⟩
 | true =>
 have go2 : ∀ w1, Below W.heap.size W w1 → Below w.heap.size w w1 := fun w1 hb => keepBelow hW hb
 cases g2 with
 | false =>
  obtain ⟨⟨B0, B1, B2, B3, B4, B5, B6⟩, _⟩ := HX.out
  obtain ⟨⟨E0, E1, E2, E3, E4, E5, E6⟩, _⟩ := HY.out
  rw [HSB.out]
  go_enter Tryz.func74, Tryz.ntmps74
  go_wp2_with fail
  rw [HE.out]
  go_wp2_with fail
  refine D1.out.mono ?_
  rintro e w1 ⟨rfl, hb1⟩
  have hB1 := keepBelow hW hb1
  have HX1 := Lib.hid (HX.out.below hb1)
  have HY1 := Lib.hid (HY.out.below hb1)
  clear B0 B1 B2 B3 B4 B5 B6 E0 E1 E2 E3 E4 E5 E6
  obtain ⟨⟨B0, B1, B2, B3, B4, B5, B6⟩, _⟩ := HX1.out
  obtain ⟨⟨E0, E1, E2, E3, E4, E5, E6⟩, _⟩ := HY1.out
  go_wp2_with fail
  refine (C2.out _ (keepRd hB1 HR2.out) (keepRd hB1 HR2'.out)).mono ?_
  rintro e w2 ⟨rfl, hb2⟩
  have hB2 := keepBelow hB1 hb2
  clear B0 B1 B2 B3 B4 B5 B6 E0 E1 E2 E3 E4 E5 E6
  go_wp2
  go_ret
  exact ⟨rfl, hB2⟩
 | true =>
  cases g3 : (f == f') with
  | false =>
   rw [g3] at HSB
   obtain ⟨⟨B0, B1, B2, B3, B4, B5, B6⟩, _⟩ := HX.out
   obtain ⟨⟨E0, E1, E2, E3, E4, E5, E6⟩, _⟩ := HY.out
   rw [HSB.out]
   go_enter Tryz.func74, Tryz.ntmps74
   go_wp2_with fail
   rw [HE.out]
   go_wp2_with fail
   refine D1.out.mono ?_
   rintro e w1 ⟨rfl, hb1⟩
   have hB1 := keepBelow hW hb1
   have HX1 := Lib.hid (HX.out.below hb1)
   have HY1 := Lib.hid (HY.out.below hb1)
   clear B0 B1 B2 B3 B4 B5 B6 E0 E1 E2 E3 E4 E5 E6
   obtain ⟨⟨B0, B1, B2, B3, B4, B5, B6⟩, _⟩ := HX1.out
   obtain ⟨⟨E0, E1, E2, E3, E4, E5, E6⟩, _⟩ := HY1.out
   go_wp2_with fail
   refine (C2.out _ (keepRd hB1 HR2.out) (keepRd hB1 HR2'.out)).mono ?_
   rintro e w2 ⟨rfl, hb2⟩
   have hB2 := keepBelow hB1 hb2
   have HX2 := Lib.hid (HX1.out.below hb2)
   have HY2 := Lib.hid (HY1.out.below hb2)
   clear B0 B1 B2 B3 B4 B5 B6 E0 E1 E2 E3 E4 E5 E6
   obtain ⟨⟨B0, B1, B2, B3, B4, B5, B6⟩, _⟩ := HX2.out
   obtain ⟨⟨E0, E1, E2, E3, E4, E5, E6⟩, _⟩ := HY2.out
   go_wp2
   go_ret
   exact ⟨rfl, hB2⟩
  | true =>
   cases g4 : (t == t') with
   | false =>
    rw [g3, g4] at HSB
    obtain ⟨⟨B0, B1, B2, B3, B4, B5, B6⟩, _⟩ := HX.out
    obtain ⟨⟨E0, E1, E2, E3, E4, E5, E6⟩, _⟩ := HY.out
    rw [HSB.out]
    go_enter Tryz.func74, Tryz.ntmps74
    go_wp2_with fail
    rw [HE.out]
    go_wp2_with fail
    refine D1.out.mono ?_
    rintro e w1 ⟨rfl, hb1⟩
    have hB1 := keepBelow hW hb1
    have HX1 := Lib.hid (HX.out.below hb1)
    have HY1 := Lib.hid (HY.out.below hb1)
    clear B0 B1 B2 B3 B4 B5 B6 E0 E1 E2 E3 E4 E5 E6
    obtain ⟨⟨B0, B1, B2, B3, B4, B5, B6⟩, _⟩ := HX1.out
    obtain ⟨⟨E0, E1, E2, E3, E4, E5, E6⟩, _⟩ := HY1.out
    go_wp2_with fail
    refine (C2.out _ (keepRd hB1 HR2.out) (keepRd hB1 HR2'.out)).mono ?_
    rintro e w2 ⟨rfl, hb2⟩
    have hB2 := keepBelow hB1 hb2
    have HX2 := Lib.hid (HX1.out.below hb2)
    have HY2 := Lib.hid (HY1.out.below hb2)
    clear B0 B1 B2 B3 B4 B5 B6 E0 E1 E2 E3 E4 E5 E6
    obtain ⟨⟨B0, B1, B2, B3, B4, B5, B6⟩, _⟩ := HX2.out
    obtain ⟨⟨E0, E1, E2, E3, E4, E5, E6⟩, _⟩ := HY2.out
    go_wp2
    go_ret
    exact ⟨rfl, hB2⟩
   | true =>
    rw [g3, g4] at HSB
    obtain ⟨⟨B0, B1, B2, B3, B4, B5, B6⟩, _⟩ := HX.out
    obtain ⟨⟨E0, E1, E2, E3, E4, E5, E6⟩, _⟩ := HY.out
    rw [HSB.out]
    go_enter Tryz.func74, Tryz.ntmps74
    go_wp2_with fail
    rw [HE.out]
    go_wp2_with fail
    refine D1.out.mono ?_
    rintro e w1 ⟨rfl, hb1⟩
    have hB1 := keepBelow hW hb1
    have HX1 := Lib.hid (HX.out.below hb1)
    have HY1 := Lib.hid (HY.out.below hb1)
    clear B0 B1 B2 B3 B4 B5 B6 E0 E1 E2 E3 E4 E5 E6
    obtain ⟨⟨B0, B1, B2, B3, B4, B5, B6⟩, _⟩ := HX1.out
    obtain ⟨⟨E0, E1, E2, E3, E4, E5, E6⟩, _⟩ := HY1.out
    go_wp2_with fail
    refine (C2.out _ (keepRd hB1 HR2.out) (keepRd hB1 HR2'.out)).mono ?_
    rintro e w2 ⟨rfl, hb2⟩
    have hB2 := keepBelow hB1 hb2
    have HX2 := Lib.hid (HX1.out.below hb2)
    have HY2 := Lib.hid (HY1.out.below hb2)
    clear B0 B1 B2 B3 B4 B5 B6 E0 E1 E2 E3 E4 E5 E6
    obtain ⟨⟨B0, B1, B2, B3, B4, B5, B6⟩, _⟩ := HX2.out
    obtain ⟨⟨E0, E1, E2, E3, E4, E5, E6⟩, _⟩ := HY2.out
    go_wp2_with fail
    refine (C3.out _ (keepRd hB2 HR3.out) (keepRd hB2 HR3'.out)).mono ?_
    rintro e w3 ⟨rfl, hb3⟩
    have hB3 := keepBelow hB2 hb3
    go_wp2
    go_ret
    exact ⟨ret_bool (by simp), hB3⟩

def OfPost (s : St) (w : World) (e : Ending) (w' : World) : Prop :=
 ∃ vl vr vv, e = .returned (.tuple #[stV (ofF s).1 vl vr vv, .int .i64 (ofF s).2]) ∧ RdSt w' (ofF s).1 vl vr vv ∧ Below w.heap.size w w'

set_option maxRecDepth 100000 in
set_option maxHeartbeats 4000000 in
theorem of14_any (s : St) (vl vr vv : Value) (w : World) (h : RdSt w s vl vr vv) :
  Calls Tryz.prog 73 #[.agg #[.int .i64 s.lf.1, vl], .agg #[.int .i64 s.rt.1, vr], .int .i64 s.fr, .int .i64 s.to, vv] w (OfPost s w) := by
 have H1 := Lib.hid (fun W h => given14_any s vl vr vv W h)
 have H2 := Lib.hid (fun (hg : givenB s = true) W h => form14_any s vl vr vv W h (okS_of_givenB hg))
 have HOF : Hid (ofF s = if givenB s then formF s else (noSt, 1)) := rfl
 obtain ⟨g, hg⟩ : ∃ g, givenB s = g := ⟨_, rfl⟩
 rw [hg] at H1 HOF
 have HG := Lib.hid hg
 clear hg
 obtain ⟨T, hT⟩ : ∃ T, ofF s = T := ⟨_, rfl⟩
 rw [hT] at HOF
 have HT := Lib.hid hT
 unfold OfPost
 simp only [hT]
 obtain ⟨T, E⟩ := T
 clear hT
 have HR0 := Lib.hid h
 obtain ⟨⟨P, l⟩, ⟨Q, m⟩, f, t, k⟩ := s
 obtain ⟨h1, h2, h3⟩ := h
 have HYS0 : Hid (∀ W b, Below w.heap.size w W → w.heap.size ≤ b → RdX W b vl l ∧ RdX W b vr m ∧ RdX W b vv k) := fun W b hb hbb => ⟨(RdX.old h1 hbb).below hb, (RdX.old h2 hbb).below hb, (RdX.old h3 hbb).below hb⟩
 simp only at H1 H2 HOF HG h1 h2 h3 ⊢
 obtain ⟨a1, n1, rfl⟩ := h1.form
 obtain ⟨a2, n2, rfl⟩ := h2.form
 obtain ⟨a3, n3, rfl⟩ := h3.form
 clear h1 h2 h3
 obtain ⟨W, hWe⟩ : ∃ W, ((w.alloc (.cells #[.int .i64 P, .slice a1 l.length n1] 52)).alloc (.cells #[.int .i64 Q, .slice a2 m.length n2] 52)).alloc (.cells #[.int .i64 0, .slice none 0 0, .int .i64 0, .slice none 0 0, .int .i64 0, .int .i64 0, .slice none 0 0] 54) = W := ⟨_, rfl⟩
 have hW : Below w.heap.size w W := by rw [← hWe]; exact (((Below.refl _ w).alloc (Nat.le_refl _) _).alloc (by simp) _).alloc (by simp; omega) _
 have hWs : W.heap.size = w.heap.size + 1 + 1 + 1 := by rw [← hWe]; simp
 have c0 : W.cell? ⟨w.heap.size, 0, none⟩ = some (.int .i64 P) := by rw [← hWe]; simp [go_sem]
 have c1 : W.cell? ⟨w.heap.size, 1, none⟩ = some (.slice a1 l.length n1) := by rw [← hWe]; simp [go_sem]
 have c2 : W.cell? ⟨w.heap.size + 1, 0, none⟩ = some (.int .i64 Q) := by rw [← hWe]; simp [go_sem]
 have c3 : W.cell? ⟨w.heap.size + 1, 1, none⟩ = some (.slice a2 m.length n2) := by rw [← hWe]; simp [go_sem]
 have HBX : Hid (Set7 W (w.heap.size + 1 + 1) (.int .i64 0) (.slice none 0 0) (.int .i64 0) (.slice none 0 0) (.int .i64 0) (.int .i64 0) (.slice none 0 0)) := by
  rw [← hWe]
  refine ⟨⟨?_, ?_, ?_, ?_, ?_, ?_, ?_⟩, ?_, ?_, ?_, ?_, ?_, ?_, ?_⟩ <;> simp [go_sem]
 have HE := Lib.hid hWe
 clear hWe
 go_enter Tryz.func73, Tryz.ntmps73
 go_wp2_with fail
 rw [HE.out]
 go_wp2_with fail
 refine (H1.out _ (keepSt hW HR0.out)).mono ?_
 rintro e w1 ⟨rfl, hb1⟩
 have hB1 := keepBelow hW hb1
 have HX1 := Lib.hid (HBX.out.below hb1)
 cases g with
 | false =>
  have hTE : (T, E) = (noSt, 1) := HOF.out
  cases hTE
  clear H2 HOF HT HR0
  obtain ⟨⟨B0, B1, B2, B3, B4, B5, B6⟩, K0, K1, K2, K3, K4, K5, K6⟩ := HX1.out
  go_wp2
  change bodyPost _ _ _ _ _ (put7 w1 (w.heap.size + 1 + 1) (.int .i64 0) (.slice none 0 0) (.int .i64 0) (.slice none 0 0) (.int .i64 0) (.int .i64 0) (.slice none 0 0))
  obtain ⟨⟨B0, B1, B2, B3, B4, B5, B6⟩, _⟩ := HX1.out
  obtain ⟨r0, r1, r2, r3, r4, r5, r6⟩ := put7_at (.int .i64 0) (.slice none 0 0) (.int .i64 0) (.slice none 0 0) (.int .i64 0) (.int .i64 0) (.slice none 0 0) B0 B1 B2 B3 B4 B5 B6
  have hBZ := put7_below (.int .i64 0) (.slice none 0 0) (.int .i64 0) (.slice none 0 0) (.int .i64 0) (.int .i64 0) (.slice none 0 0) hB1 (b := (w.heap.size + 1 + 1)) (by omega)
  have HZ0 := Lib.hid (RdX.put7 (.int .i64 0) (.slice none 0 0) (.int .i64 0) (.slice none 0 0) (.int .i64 0) (.int .i64 0) (.slice none 0 0) (RdX.nil w1 (w.heap.size + 1 + 1)))
  generalize put7 w1 (w.heap.size + 1 + 1) (.int .i64 0) (.slice none 0 0) (.int .i64 0) (.slice none 0 0) (.int .i64 0) (.int .i64 0) (.slice none 0 0) = Z at *
  refine bodyPost_ret (v := .tuple #[.agg #[.int .i64 0, .slice none 0 0, .int .i64 0, .slice none 0 0, .int .i64 0, .int .i64 0, .slice none 0 0], .int .i64 1]) (by simp [results, Tryz.results73, go_sem, r0, r1, r2, r3, r4, r5, r6]) rfl ?_
  exact ⟨.slice none 0 0, .slice none 0 0, .slice none 0 0, rfl, ⟨HZ0.out.rd, HZ0.out.rd, HZ0.out.rd⟩, hBZ⟩
 | true =>
  have hTE : (T, E) = formF ⟨(P, l), (Q, m), f, t, k⟩ := HOF.out
  have HTE := Lib.hid hTE
  have HYS := Lib.hid (HYS0.out w1 (w.heap.size + 1 + 1) hB1 (by omega))
  have hsz1 := hb1.size
  have k0 := keepCell hb1 c0
  have k1 := keepCell hb1 c1
  have k2 := keepCell hb1 c2
  have k3 := keepCell hb1 c3
  have hF := H2.out HG.out w1 (keepSt hB1 HR0.out)
  unfold FoPost2 at hF
  rw [← hTE] at hF
  simp only at hF
  have HFF := Lib.hid hF
  clear hTE hF H2 HOF HT c0 c1 c2 c3
  go_wp2_with fail
  refine HFF.out.mono ?_
  rintro e w2 ⟨ul, ur, uv, rfl, hrd, hb2, hxx⟩
  have hX := hxx (w.heap.size + 1 + 1) (by omega) HYS.out.1 HYS.out.2.1
  have HX2 := Lib.hid (HX1.out.below hb2)
  have hB2 := keepBelow hB1 hb2
  have HX := Lib.hid hX
  obtain ⟨x1, y1, rfl⟩ := hrd.1.form
  obtain ⟨x2, y2, rfl⟩ := hrd.2.1.form
  obtain ⟨x3, y3, rfl⟩ := hrd.2.2.form
  obtain ⟨⟨TP, Tl⟩, ⟨TQ, Tm⟩, Tf, Tt, Tk⟩ := T
  simp only at HX
  clear hxx hX hrd HFF HTE k0 k1 k2 k3
  obtain ⟨⟨B0, B1, B2, B3, B4, B5, B6⟩, K0, K1, K2, K3, K4, K5, K6⟩ := HX2.out
  go_wp2
  change bodyPost _ _ _ _ _ (put7 w2 (w.heap.size + 1 + 1) (.int .i64 TP) (.slice x1 Tl.length y1) (.int .i64 TQ) (.slice x2 Tm.length y2) (.int .i64 Tf) (.int .i64 Tt) (.slice x3 Tk.length y3))
  obtain ⟨⟨B0, B1, B2, B3, B4, B5, B6⟩, _⟩ := HX2.out
  obtain ⟨r0, r1, r2, r3, r4, r5, r6⟩ := put7_at (.int .i64 TP) (.slice x1 Tl.length y1) (.int .i64 TQ) (.slice x2 Tm.length y2) (.int .i64 Tf) (.int .i64 Tt) (.slice x3 Tk.length y3) B0 B1 B2 B3 B4 B5 B6
  have hBZ := put7_below (.int .i64 TP) (.slice x1 Tl.length y1) (.int .i64 TQ) (.slice x2 Tm.length y2) (.int .i64 Tf) (.int .i64 Tt) (.slice x3 Tk.length y3) hB2 (b := (w.heap.size + 1 + 1)) (by omega)
  have HZ0 := Lib.hid (RdX.put7 (.int .i64 TP) (.slice x1 Tl.length y1) (.int .i64 TQ) (.slice x2 Tm.length y2) (.int .i64 Tf) (.int .i64 Tt) (.slice x3 Tk.length y3) HX.out.1)
  have HZ1 := Lib.hid (RdX.put7 (.int .i64 TP) (.slice x1 Tl.length y1) (.int .i64 TQ) (.slice x2 Tm.length y2) (.int .i64 Tf) (.int .i64 Tt) (.slice x3 Tk.length y3) HX.out.2.1)
  have HZ2 := Lib.hid (RdX.put7 (.int .i64 TP) (.slice x1 Tl.length y1) (.int .i64 TQ) (.slice x2 Tm.length y2) (.int .i64 Tf) (.int .i64 Tt) (.slice x3 Tk.length y3) HX.out.2.2)
  generalize put7 w2 (w.heap.size + 1 + 1) (.int .i64 TP) (.slice x1 Tl.length y1) (.int .i64 TQ) (.slice x2 Tm.length y2) (.int .i64 Tf) (.int .i64 Tt) (.slice x3 Tk.length y3) = Z at *
  refine bodyPost_ret (v := .tuple #[.agg #[.int .i64 TP, .slice x1 Tl.length y1, .int .i64 TQ, .slice x2 Tm.length y2, .int .i64 Tf, .int .i64 Tt, .slice x3 Tk.length y3], .int .i64 E]) (by simp [results, Tryz.results73, go_sem, r0, r1, r2, r3, r4, r5, r6]) rfl ?_
  exact ⟨_, _, _, rfl, ⟨HZ0.out.rd, HZ1.out.rd, HZ2.out.rd⟩, hBZ⟩

set_option maxRecDepth 100000 in
set_option maxHeartbeats 4000000 in
theorem valid14_any (s : St) (vl vr vv : Value) (w : World) (h : RdSt w s vl vr vv) :
  Calls Tryz.prog 46 #[.agg #[.int .i64 s.lf.1, vl, .int .i64 s.rt.1, vr, .int .i64 s.fr, .int .i64 s.to, vv]] w fun e w' => e = .returned (.bool (VB s)) ∧ Below w.heap.size w w' := by
 have H1 := Lib.hid (fun W h => of14_any s vl vr vv W h)
 have HVB := Lib.hid (VB_ref s)
 obtain ⟨vb, hvb⟩ : ∃ vb, VB s = vb := ⟨_, rfl⟩
 rw [hvb] at HVB ⊢
 clear hvb
 obtain ⟨T, hT⟩ : ∃ T, ofF s = T := ⟨_, rfl⟩
 unfold OfPost at H1
 rw [hT] at H1 HVB
 obtain ⟨T, E⟩ := T
 clear hT
 have H2 := Lib.hid (fun ul ur uv W h h' => same14_any s T vl vr vv ul ur uv W h h')
 unfold stV at H2
 unfold stV at H1
 obtain ⟨sb, hsb⟩ : ∃ sb, sameB s T = sb := ⟨_, rfl⟩
 simp only [hsb] at H2 HVB
 clear hsb
 have HR0 := Lib.hid h
 obtain ⟨⟨P, l⟩, ⟨Q, m⟩, f, t, k⟩ := s
 obtain ⟨⟨TP, Tl⟩, ⟨TQ, Tm⟩, Tf, Tt, Tk⟩ := T
 simp only at H1 H2 ⊢
 obtain ⟨a1, n1, rfl⟩ := h.1.form
 obtain ⟨a2, n2, rfl⟩ := h.2.1.form
 obtain ⟨a3, n3, rfl⟩ := h.2.2.form
 clear h
 obtain ⟨W, hWe⟩ : ∃ W, w.alloc (.cells #[.int .i64 P, .slice a1 l.length n1, .int .i64 Q, .slice a2 m.length n2, .int .i64 f, .int .i64 t, .slice a3 k.length n3] 54) = W := ⟨_, rfl⟩
 have hW : Below w.heap.size w W := by rw [← hWe]; exact (Below.refl _ w).alloc (Nat.le_refl _) _
 have HX : Hid (Set7 W w.heap.size (.int .i64 P) (.slice a1 l.length n1) (.int .i64 Q) (.slice a2 m.length n2) (.int .i64 f) (.int .i64 t) (.slice a3 k.length n3)) := by
  rw [← hWe]
  refine ⟨⟨?_, ?_, ?_, ?_, ?_, ?_, ?_⟩, ?_, ?_, ?_, ?_, ?_, ?_, ?_⟩ <;> simp [go_sem]
 have HE := Lib.hid hWe
 clear hWe
 obtain ⟨⟨B0, B1, B2, B3, B4, B5, B6⟩, _⟩ := HX.out
 go_enter Tryz.func46, Tryz.ntmps46
 go_wp2_with fail
 rw [HE.out]
 go_wp2_with fail
 refine (H1.out W (keepSt hW HR0.out)).mono ?_
 rintro e w1 ⟨ul, ur, uv, rfl, hrd, hb1⟩
 have hB1 := keepBelow hW hb1
 have HX1 := Lib.hid (HX.out.below hb1)
 clear B0 B1 B2 B3 B4 B5 B6 HX H1
 have HRD := Lib.hid hrd
 obtain ⟨x1, y1, rfl⟩ := hrd.1.form
 obtain ⟨x2, y2, rfl⟩ := hrd.2.1.form
 obtain ⟨x3, y3, rfl⟩ := hrd.2.2.form
 simp only at HRD
 clear hrd
 by_cases hE : E = 0
 ·have HV : Hid (vb = sb) := by unfold Hid; rw [HVB.out, hE]; rfl
  subst hE
  obtain ⟨Y, hY⟩ : ∃ Y, w1.alloc (.cells #[.int .i64 TP, .slice x1 Tl.length y1, .int .i64 TQ, .slice x2 Tm.length y2, .int .i64 Tf, .int .i64 Tt, .slice x3 Tk.length y3] 54) = Y := ⟨_, rfl⟩
  have hYB : Below w1.heap.size w1 Y := by rw [← hY]; exact (Below.refl _ w1).alloc (Nat.le_refl _) _
  have HYS : Hid (Set7 Y w1.heap.size (.int .i64 TP) (.slice x1 Tl.length y1) (.int .i64 TQ) (.slice x2 Tm.length y2) (.int .i64 Tf) (.int .i64 Tt) (.slice x3 Tk.length y3)) := by
   rw [← hY]
   refine ⟨⟨?_, ?_, ?_, ?_, ?_, ?_, ?_⟩, ?_, ?_, ?_, ?_, ?_, ?_, ?_⟩ <;> simp [go_sem]
  have HYE := Lib.hid hY
  clear hY
  have HX2 := Lib.hid (HX1.out.below hYB)
  have hB2 := keepBelow hB1 hYB
  have HR2 := Lib.hid (keepSt hYB HRD.out)
  go_upto_region 2 with fail
  rw [HYE.out]
  obtain ⟨⟨B0, B1, B2, B3, B4, B5, B6⟩, _⟩ := HX2.out
  obtain ⟨⟨E0, E1, E2, E3, E4, E5, E6⟩, _⟩ := HYS.out
  go_wp2_with fail
  refine (H2.out _ _ _ _ (keepSt hB2 HR0.out) HR2.out).mono ?_
  rintro e w3 ⟨rfl, hb3⟩
  have hB3 := keepBelow hB2 hb3
  clear B0 B1 B2 B3 B4 B5 B6 E0 E1 E2 E3 E4 E5 E6
  go_wp2
  go_ret
  exact ⟨ret_bool HV.out.symm, hB3⟩
 ·have t1 : (E == 0) = false := by simpa using hE
  have HV : Hid (vb = false) := by unfold Hid; rw [HVB.out]; simp only [t1, Bool.false_and]
  obtain ⟨⟨B0, B1, B2, B3, B4, B5, B6⟩, _⟩ := HX1.out
  clear hE
  go_wp2
  go_ret
  exact ⟨ret_bool HV.out.symm, hB1.alloc hB1.size _⟩
end Go.Proofs.YtlbjfbpejomkmaaGreat
