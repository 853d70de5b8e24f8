import Derived.Test.YtnjpceocnldlfaaGreatWkPr
import Derived.Test.YtnjpceocnldlfaaGreatWkPq
import Derived.Test.YtnjpceocnldlfaaGreatWkBh
import Derived.Test.YtnjpceocnldlfaaGreatWkPl
/- Not and Move, in plain numbers. -/
namespace Go.Proofs.YtnjpceocnldlfaaGreat
namespace Wk
def perNot (p : Per) : Per × Int := if pvB p.1 p.2 = false then ((0, []), 1) else perM p.1 fun x => !(hasP p x)
theorem perNot_lim {P : Int} {l L : List Sp} (h : pvB P l = true) (hc : Canon L) (hv : ∀ x, inL L x = ruleB 2 (inL [(0, P)] x) (inL l x)) : perNot (P, l) = limM P L ∧ inside P L := by
  have hg := goodP_of_pvB h
  have hp : 1 ≤ P := hg.pos
  have hv' : ∀ x, inL L x = ((decide (0 ≤ x) && decide (x < P)) && !(hasP (P, l) x)) := fun x => by
    rw [hv x]
    simp only [inL, Bool.or_false]
    by_cases h0 : 0 ≤ x
    · by_cases h1 : x < P
      · rw [hasP_in (P, l) hp h0 h1, decide_eq_true h0, decide_eq_true h1]; rfl
      · rw [decide_eq_false h1]; simp [ruleB]
    · rw [decide_eq_false h0]; simp [ruleB]
  have hL := memF_of (f := 0) (t := P) (by omega) hc hv'
  rw [Int.sub_zero] at hL
  refine ⟨?_, inside_of_in hc fun x hx => ?_⟩
  · unfold perNot
    simp only [h]
    rw [if_neg (by simp)]
    unfold perM limM
    rw [hL]
  · rw [hv' x] at hx
    simp at hx
    omega
end Wk
end Go.Proofs.YtnjpceocnldlfaaGreat
namespace Go.Proofs.YtnjpceocnldlfaaGreat
namespace Wk
def twoM (op : Per → Per × Int) (rest : Per → Per → St × Int) (a : St) : St × Int :=
  if VB a = false then (noSt, 1)
  else if (op a.lf).2 ≠ 0 then (noSt, (op a.lf).2)
  else if (op a.rt).2 ≠ 0 then (noSt, (op a.rt).2)
  else if pairM (op a.lf).1.1 (op a.lf).1.2 (op a.rt).1.1 (op a.rt).1.2 ≠ 0 then (noSt, pairM (op a.lf).1.1 (op a.lf).1.2 (op a.rt).1.1 (op a.rt).1.2)
  else rest (op a.lf).1 (op a.rt).1
def gapsL : Int → List Sp → List Sp
  | _, [] => []
  | f, s :: r => (if f < s.1 then [(f, s.1)] else []) ++ gapsL s.2 r
def lastTo2 : Int → List Sp → Int
  | f, [] => f
  | _, s :: r => lastTo2 s.2 r
theorem gaps_snoc : ∀ (f : Int) (T : List Sp) (s : Sp), gapsL f (T ++ [s]) = gapsL f T ++ (if lastTo2 f T < s.1 then [(lastTo2 f T, s.1)] else []) ∧ lastTo2 f (T ++ [s]) = s.2
  | f, [], s => by
    refine ⟨?_, rfl⟩
    show (if f < s.1 then [(f, s.1)] else []) ++ [] = _
    rw [List.append_nil]
    rfl
  | f, t :: r, s => by
    have h := gaps_snoc t.2 r s
    refine ⟨?_, ?_⟩
    · show (if f < t.1 then [(f, t.1)] else []) ++ gapsL t.2 (r ++ [s]) = ((if f < t.1 then [(f, t.1)] else []) ++ gapsL t.2 r) ++ _
      rw [h.1, List.append_assoc]
      rfl
    · exact h.2
theorem gaps_len : ∀ (f : Int) (T : List Sp), (gapsL f T).length ≤ T.length
  | _, [] => Nat.le_refl _
  | f, s :: r => by
    have := gaps_len s.2 r
    show ((if f < s.1 then [(f, s.1)] else []) ++ gapsL s.2 r).length ≤ r.length + 1
    split <;> simp <;> omega
theorem gaps_ok : ∀ (l : List Sp) (f t : Int), Canon l → (∀ s ∈ l, f ≤ s.1 ∧ s.2 ≤ t) → f ≤ t →
    Canon (gapsL f (l ++ [(t, t)])) ∧ (∀ u ∈ gapsL f (l ++ [(t, t)]), f ≤ u.1 ∧ u.2 ≤ t) ∧ ∀ x, inL (gapsL f (l ++ [(t, t)])) x = ((decide (f ≤ x) && decide (x < t)) && !(inL l x))
  | [], f, t, _, _, hft => by
    simp only [List.nil_append, gapsL, List.append_nil]
    by_cases h : f < t
    · rw [if_pos h]
      refine ⟨by simp [Canon]; exact h, fun u hu => ?_, fun x => by simp [inL]⟩
      simp only [List.mem_singleton] at hu
      subst hu
      exact ⟨Int.le_refl _, Int.le_refl _⟩
    · rw [if_neg h]
      refine ⟨trivial, fun u hu => by simp at hu, fun x => ?_⟩
      simp only [inL, Bool.not_false, Bool.and_true]
      rw [eq_comm, Bool.and_eq_false_iff]
      by_cases h1 : f ≤ x
      · exact .inr (by simp; omega)
      · exact .inl (by simpa using h1)
  | s :: r, f, t, hc, hi, hft => by
    obtain ⟨c1, c2, c3⟩ := hc
    have hs := hi s (by simp)
    obtain ⟨g1, g2, g3⟩ := gaps_ok r s.2 t c3 (fun u hu => ⟨by have := c2 u hu; omega, (hi u (by simp [hu])).2⟩) hs.2
    have e : gapsL f (s :: r ++ [(t, t)]) = (if f < s.1 then [(f, s.1)] else []) ++ gapsL s.2 (r ++ [(t, t)]) := rfl
    rw [e]
    obtain ⟨G, hG⟩ : ∃ G, gapsL s.2 (r ++ [(t, t)]) = G := ⟨_, rfl⟩
    rw [hG] at g1 g2 g3 ⊢
    have hl : ∀ x, inL r x = true → s.2 ≤ x := fun x hx => by
      rcases Int.lt_or_le x s.2 with h | h
      · rw [inL_low fun u hu => by have := c2 u hu; omega] at hx
        cases hx
      · exact h
    by_cases h : f < s.1
    · rw [if_pos h]
      refine ⟨⟨h, fun u hu => by have := (g2 u hu).1; simp only; omega, g1⟩, fun u hu => ?_, fun x => ?_⟩
      · rcases List.mem_cons.1 hu with rfl | hu
        · exact ⟨Int.le_refl _, by simp only; omega⟩
        · have := g2 u hu; omega
      · show ((decide (f ≤ x) && decide (x < s.1)) || inL G x) = ((decide (f ≤ x) && decide (x < t)) && !((decide (s.1 ≤ x) && decide (x < s.2)) || inL r x))
        rw [g3 x, Bool.eq_iff_iff]
        have hlx := hl x
        cases hr : inL r x with
        | true =>
          have := hlx hr
          simp; omega
        | false => simp; omega
    · rw [if_neg h]
      refine ⟨g1, fun u hu => by have := g2 u hu; omega, fun x => ?_⟩
      show inL G x = ((decide (f ≤ x) && decide (x < t)) && !((decide (s.1 ≤ x) && decide (x < s.2)) || inL r x))
      rw [g3 x, Bool.eq_iff_iff]
      have hlx := hl x
      cases hr : inL r x with
      | true =>
        have := hlx hr
        simp
      | false => simp; omega
def notRest (a : St) (p q : Per) : St × Int := if 2000 < (gapsL a.fr (a.l ++ [(a.to, a.to)])).length then (noSt, 5) else (⟨p, q, a.fr, a.to, gapsL a.fr (a.l ++ [(a.to, a.to)])⟩, 0)
def setNot (a : St) : St × Int := twoM perNot (notRest a) a
theorem two_bad {op : Per → Per × Int} {rest : Per → Per → St × Int} {a : St} (h : VB a = false) : twoM op rest a = (noSt, 1) := by unfold twoM; rw [if_pos h]
theorem two_left {op : Per → Per × Int} {rest : Per → Per → St × Int} {a : St} {e : Int} (h : VB a = true) (h1 : (op a.lf).2 = e) (he : e ≠ 0) : twoM op rest a = (noSt, e) := by
  unfold twoM; rw [if_neg (by rw [h]; simp), if_pos (by rw [h1]; exact he), h1]
theorem two_right {op : Per → Per × Int} {rest : Per → Per → St × Int} {a : St} {e : Int} {p : Per} (h : VB a = true) (h1 : op a.lf = (p, 0)) (h2 : (op a.rt).2 = e) (he : e ≠ 0) : twoM op rest a = (noSt, e) := by
  unfold twoM; rw [if_neg (by rw [h]; simp), if_neg (by rw [h1]; simp), if_pos (by rw [h2]; exact he), h2]
theorem two_pair {op : Per → Per × Int} {rest : Per → Per → St × Int} {a : St} {e : Int} {p q : Per} (h : VB a = true) (h1 : op a.lf = (p, 0)) (h2 : op a.rt = (q, 0)) (h3 : pairM p.1 p.2 q.1 q.2 = e) (he : e ≠ 0) : twoM op rest a = (noSt, e) := by
  unfold twoM; rw [if_neg (by rw [h]; simp), if_neg (by rw [h1]; simp), if_neg (by rw [h2]; simp), if_pos (by rw [h1, h2]; simp only; rw [h3]; exact he), h1, h2]; simp only; rw [h3]
theorem two_rest {op : Per → Per × Int} {rest : Per → Per → St × Int} {a : St} {p q : Per} (h : VB a = true) (h1 : op a.lf = (p, 0)) (h2 : op a.rt = (q, 0)) (h3 : pairM p.1 p.2 q.1 q.2 = 0) : twoM op rest a = rest p q := by
  unfold twoM; rw [if_neg (by rw [h]; simp), if_neg (by rw [h1]; simp), if_neg (by rw [h2]; simp), if_neg (by rw [h1, h2]; simp only; rw [h3]; simp), h1, h2]
theorem perM_len {m : Int} {h : Int → Bool} : (perM m h).1.2.length ≤ 2000 := by
  unfold perM
  split
  · simp
  · simp only; omega
theorem perNot_len {p : Per} : (perNot p).1.2.length ≤ 2000 := by
  unfold perNot
  split
  · simp
  · exact perM_len
theorem perNot_ok {p : Per} (h : pvB p.1 p.2 = true) (he : (perNot p).2 = 0) : pvB (perNot p).1.1 (perNot p).1.2 = true ∧ ∀ x, hasP (perNot p).1 x = !(hasP p x) := by
  have hp := rvB_of_pvB h
  have hg := goodP_of_pvB h
  unfold perNot at he ⊢
  rw [if_neg (by rw [h]; simp)] at he ⊢
  exact perM_ok hp.2.1 hp.2.2.1 (fun x k => by show (!hasP p (x + k * p.1)) = !hasP p x; rw [hasP_period p hp.2.1]) he
end Wk
end Go.Proofs.YtnjpceocnldlfaaGreat
namespace Go.Proofs.YtnjpceocnldlfaaGreat
namespace Wk
theorem com_per {s : St} (hs : OkS s) (h : pairM s.lf.1 s.lf.2 s.rt.1 s.rt.2 = 0) : 1 ≤ commonM s.lf.1 s.rt.1 ∧ (∃ c : Int, commonM s.lf.1 s.rt.1 = c * s.lf.1) ∧ ∃ d : Int, commonM s.lf.1 s.rt.1 = d * s.rt.1 := by
  have h1 := rvB_of_pvB hs.lf
  have h2 := rvB_of_pvB hs.rt
  refine ⟨(commonM_bd h1.2.1 h2.2.1).1, ?_⟩
  unfold pairM at h
  by_cases hp : peB s.lf.1 s.lf.2 s.rt.1 s.rt.2 = true
  · have e : s.lf.1 = s.rt.1 := by
      unfold peB at hp
      simp only [Bool.and_eq_true, beq_iff_eq] at hp
      exact hp.1.2
    rw [← e, commonM_same h1.2.1 h1.2.2.1]
    exact ⟨⟨1, by omega⟩, ⟨1, by omega⟩⟩
  · rw [if_neg hp] at h
    by_cases hb : 12622780800 < commonM s.lf.1 s.rt.1
    · rw [if_pos hb] at h; simp at h
    · obtain ⟨c1, c2⟩ := common_mulM (P := s.lf.1) (Q := s.rt.1) h2.2.1
      rw [c2 (fun hh => hb (c1.2 hh))]
      exact ⟨mulM_left, mulM_right⟩
theorem com_all {s : St} (hs : OkS s) (h : pairM s.lf.1 s.lf.2 s.rt.1 s.rt.2 = 0) {f : Int} (ha : ∀ z, f ≤ z → z < f + commonM s.lf.1 s.rt.1 → hasP s.lf z = hasP s.rt z) : ∀ z, hasP s.lf z = hasP s.rt z := by
  obtain ⟨c0, ⟨c, hc⟩, ⟨d, hd⟩⟩ := com_per hs h
  have h1 := rvB_of_pvB hs.lf
  have h2 := rvB_of_pvB hs.rt
  intro z
  obtain ⟨m, hm⟩ : ∃ m, commonM s.lf.1 s.rt.1 = m := ⟨_, rfl⟩
  rw [hm] at c0 hc hd ha
  have k := mod_lo (z - f) c0
  obtain ⟨q, hq⟩ : ∃ q, (z - f) / m = q := ⟨_, rfl⟩
  rw [hq] at k
  have e1 := hasP_period s.lf h1.2.1 z (-(q * c))
  have e2 := hasP_period s.rt h2.2.1 z (-(q * d))
  have m1 : q * m = q * c * s.lf.1 := by rw [hc, Int.mul_assoc]
  have m2 : q * m = q * d * s.rt.1 := by rw [hd, Int.mul_assoc]
  rw [Int.neg_mul, ← m1] at e1
  rw [Int.neg_mul, ← m2] at e2
  rw [← e1, ← e2]
  exact ha _ (by omega) (by omega)
def EndG (s : St) : Option Int → Prop
  | some e => hasS s e ≠ hasP s.rt e ∧ (∀ z, e < z → hasS s z = hasP s.rt z) ∧ e < s.to
  | none => ∀ z, hasS s z = hasP s.rt z
def BegG (s : St) : Option Int → Prop
  | some b => hasS s b ≠ hasP s.lf b ∧ (∀ z, z < b → hasS s z = hasP s.lf z) ∧ s.fr ≤ b
  | none => ∀ z, hasS s z = hasP s.lf z
theorem endF_glob {s : St} (hs : OkS s) (h : pairM s.lf.1 s.lf.2 s.rt.1 s.rt.2 = 0) : EndG s (endF s) := by
  have hft := hs.ft
  have g1 := lastF_ok (fun x => inL s.l x != hasP s.rt x) s.fr s.to
  have g2 := lastF_ok (fun x => hasP s.lf x != hasP s.rt x) (s.fr - commonM s.lf.1 s.rt.1) s.fr
  unfold endF
  cases e1 : lastF (fun x => inL s.l x != hasP s.rt x) s.fr s.to with
  | some e =>
    rw [e1] at g1
    obtain ⟨a1, a2, a3, a4⟩ := g1
    refine ⟨?_, fun z hz => ?_, a2⟩
    · rw [has_mid a1 a2]; simpa using a3
    · by_cases hz2 : z < s.to
      · rw [has_mid (by omega) hz2]
        have := a4 z hz hz2
        simpa using this
      · exact has_rt hft (by omega)
  | none =>
    rw [e1] at g1
    have W : ∀ z, s.fr ≤ z → hasS s z = hasP s.rt z := fun z hz => by
      by_cases hz2 : z < s.to
      · rw [has_mid hz hz2]
        have := g1 z hz hz2
        simpa using this
      · exact has_rt hft (by omega)
    show EndG s (lastF (fun x => hasP s.lf x != hasP s.rt x) (s.fr - commonM s.lf.1 s.rt.1) s.fr)
    cases e2 : lastF (fun x => hasP s.lf x != hasP s.rt x) (s.fr - commonM s.lf.1 s.rt.1) s.fr with
    | some e =>
      rw [e2] at g2
      obtain ⟨a1, a2, a3, a4⟩ := g2
      refine ⟨?_, fun z hz => ?_, by omega⟩
      · rw [has_lf a2]; simpa using a3
      · by_cases hz2 : z < s.fr
        · rw [has_lf hz2]
          have := a4 z hz hz2
          simpa using this
        · exact W z (by omega)
    | none =>
      rw [e2] at g2
      have A := com_all hs h (f := s.fr - commonM s.lf.1 s.rt.1) fun z h1 h2 => by
        have := g2 z h1 (by omega)
        simpa using this
      intro z
      by_cases hz2 : z < s.fr
      · rw [has_lf hz2]; exact A z
      · exact W z (by omega)
theorem begF_glob {s : St} (hs : OkS s) (h : pairM s.lf.1 s.lf.2 s.rt.1 s.rt.2 = 0) : BegG s (begF s) := by
  have hft := hs.ft
  have g1 := firstF_ok (fun x => inL s.l x != hasP s.lf x) s.fr s.to
  have g2 := firstF_ok (fun x => hasP s.rt x != hasP s.lf x) s.to (s.to + commonM s.lf.1 s.rt.1)
  unfold begF
  cases e1 : firstF (fun x => inL s.l x != hasP s.lf x) s.fr s.to with
  | some e =>
    rw [e1] at g1
    obtain ⟨a1, a2, a3, a4⟩ := g1
    refine ⟨?_, fun z hz => ?_, a1⟩
    · rw [has_mid a1 a2]; simpa using a3
    · by_cases hz2 : z < s.fr
      · exact has_lf hz2
      · rw [has_mid (by omega) (by omega)]
        have := a4 z (by omega) hz
        simpa using this
  | none =>
    rw [e1] at g1
    have W : ∀ z, z < s.to → hasS s z = hasP s.lf z := fun z hz => by
      by_cases hz2 : z < s.fr
      · exact has_lf hz2
      · rw [has_mid (by omega) hz]
        have := g1 z (by omega) hz
        simpa using this
    show BegG s (firstF (fun x => hasP s.rt x != hasP s.lf x) s.to (s.to + commonM s.lf.1 s.rt.1))
    cases e2 : firstF (fun x => hasP s.rt x != hasP s.lf x) s.to (s.to + commonM s.lf.1 s.rt.1) with
    | some e =>
      rw [e2] at g2
      obtain ⟨a1, a2, a3, a4⟩ := g2
      refine ⟨?_, fun z hz => ?_, by omega⟩
      · rw [has_rt hft a1]; simpa using a3
      · by_cases hz2 : z < s.to
        · exact W z hz2
        · rw [has_rt hft (by omega)]
          have := a4 z (by omega) hz
          simpa using this
    | none =>
      rw [e2] at g2
      have A := com_all hs h (f := s.to) fun z h1 h2 => by
        have := g2 z h1 h2
        simp at this
        exact this.symm
      intro z
      by_cases hz2 : z < s.to
      · exact W z hz2
      · rw [has_rt hft (by omega)]; exact (A z).symm
theorem givenB_ok {s : St} (h : OkS s) : givenB s = true := by
  unfold givenB
  have h1 := h.f1
  have h2 := h.ft
  have h3 := h.t1
  simp only [Bool.and_eq_true, Bool.or_eq_true, decide_eq_true_eq]
  refine ⟨⟨⟨⟨⟨⟨h.lf, h.rt⟩, h2⟩, (lineB_iff _).2 ⟨by omega, by omega⟩⟩, (lineB_iff _).2 ⟨by omega, by omega⟩⟩, h.l⟩, ?_⟩
  by_cases h0 : s.l = []
  · exact .inl h0
  · have hl : 0 < s.l.length := List.length_pos_iff.2 h0
    exact .inr ⟨(h.ins _ (mem_first hl)).1, (h.ins _ (mem_last hl)).2⟩
theorem endG_uniq {s t : St} {o q : Option Int} (hh : ∀ x, hasS s x = hasS t x) (hr : s.rt = t.rt) (h1 : EndG s o) (h2 : EndG t q) : o = q := by
  cases o with
  | none =>
    cases q with
    | none => rfl
    | some e => exact absurd (by rw [← hh, h1 e, hr]) h2.1
  | some e =>
    cases q with
    | none => exact absurd (by rw [hh, h2 e, hr]) h1.1
    | some f =>
      rcases Int.lt_trichotomy e f with g | g | g
      · exact absurd (by rw [← hh, h1.2.1 f g, hr]) h2.1
      · rw [g]
      · exact absurd (by rw [hh, h2.2.1 e g, hr]) h1.1
theorem begG_uniq {s t : St} {o q : Option Int} (hh : ∀ x, hasS s x = hasS t x) (hr : s.lf = t.lf) (h1 : BegG s o) (h2 : BegG t q) : o = q := by
  cases o with
  | none =>
    cases q with
    | none => rfl
    | some e => exact absurd (by rw [← hh, h1 e, hr]) h2.1
  | some e =>
    cases q with
    | none => exact absurd (by rw [hh, h2 e, hr]) h1.1
    | some f =>
      rcases Int.lt_trichotomy e f with g | g | g
      · exact absurd (by rw [hh, h2.2.1 e g, hr]) h1.1
      · rw [g]
      · exact absurd (by rw [← hh, h1.2.1 f g, hr]) h2.1
theorem early_glob {s : St} (hs : OkS s) (h : earlyB s = true) : s.rt = s.lf ∧ ∀ z, hasS s z = hasP s.lf z := by
  have hft := hs.ft
  have g1 := firstF_ok (fun x => inL s.l x != hasP s.lf x) s.fr s.to
  unfold earlyB at h
  simp only [Bool.and_eq_true, Option.isNone_iff_eq_none] at h
  obtain ⟨⟨_, hp⟩, h2⟩ := h
  rw [h2] at g1
  have he : s.rt = s.lf := by
    unfold peB at hp
    simp only [Bool.and_eq_true, beq_iff_eq, decide_eq_true_eq] at hp
    exact Prod.ext hp.1.2.symm hp.2.symm
  refine ⟨he, fun z => ?_⟩
  by_cases h1 : z < s.fr
  · exact has_lf h1
  · by_cases h3 : z < s.to
    · rw [has_mid (by omega) h3]
      have := g1 z (by omega) h3
      simpa using this
    · rw [has_rt hft (by omega), he]
theorem hasS_pure (p : Per) (x : Int) : hasS (pureF p) x = hasP p x := by
  unfold hasS pureF
  simp only
  split
  · rfl
  · rfl
theorem form_ok {s t : St} (hs : OkS s) (hf : formF s = (t, 0)) : VB t = true ∧ ∀ x, hasS t x = hasS s x := by
  by_cases hp : pairM s.lf.1 s.lf.2 s.rt.1 s.rt.2 = 0
  · by_cases he : earlyB s = true
    · rw [form_early hp he] at hf
      cases hf
      exact ⟨VB_pure hs.lf, fun x => by rw [hasS_pure, (early_glob hs he).2]⟩
    · have he' : earlyB s = false := by simpa using he
      have E := endF_glob hs hp
      have B := begF_glob hs hp
      by_cases hn : endF s = none ∨ begF s = none
      · rw [form_none hp he' hn] at hf
        cases hf
        refine ⟨VB_pure hs.lf, fun x => ?_⟩
        rw [hasS_pure]
        rcases hn with hn | hn
        · rw [hn] at E
          have A := com_all hs hp (f := s.fr - commonM s.lf.1 s.rt.1) fun z h1 h2 => by
            have := E z
            rwa [has_lf (by omega)] at this
          rw [E x, A x]
        · rw [hn] at B
          rw [B x]
      · cases he1 : endF s with
        | none => exact absurd (.inl he1) hn
        | some e =>
          cases hb1 : begF s with
          | none => exact absurd (.inr hb1) hn
          | some b =>
            rw [form_some hp he' he1 hb1] at hf
            rw [he1] at E
            rw [hb1] at B
            obtain ⟨E1, E2, E3⟩ := E
            obtain ⟨B1, B2, B3⟩ := B
            unfold formE at hf
            simp only at hf
            obtain ⟨f, hfe⟩ : ∃ f, (if b ≤ e + 1 then b else e + 1) = f := ⟨_, rfl⟩
            rw [hfe] at hf
            have hf1 : f ≤ e + 1 ∧ f ≤ b ∧ (f < e + 1 → f = b) := by
              rw [← hfe]
              split <;> refine ⟨by omega, by omega, by omega⟩
            by_cases hl : (lineB f && lineB (e + 1)) = true
            · rw [if_pos hl] at hf
              have hml := memL_clip (h := hasS s) (k := s.l) (a := f) (c := e + 1) (canon_of_rvB hs.l).1 (canon_of_rvB hs.l).2.2 fun x h1 h2 => has_mid (by omega) (by omega)
              rw [hml] at hf
              have ht : t = ⟨s.lf, s.rt, f, e + 1, clipM s.l f (e + 1)⟩ := by cases hf; rfl
              rw [Bool.and_eq_true, lineB_iff, lineB_iff] at hl
              have hcc := clip_canon (f := f) (t := e + 1) (canon_of_rvB hs.l).1
              have hci : ∀ u ∈ clipM s.l f (e + 1), f ≤ u.1 ∧ u.2 ≤ e + 1 := fun u hu => by
                have hpos := canon_pos hcc u hu
                have k1 := inL_of_mem hu (Int.le_refl _) hpos
                have k2 := inL_of_mem hu (x := u.2 - 1) (by omega) (by omega)
                rw [clip_in] at k1 k2
                simp at k1 k2
                omega
              have hok : OkS t := by
                rw [ht]
                refine ⟨hs.lf, hs.rt, ?_, by simp only; omega, by simp only; omega, by simp only; omega, hci⟩
                exact rvB_of hcc (fun u hu => by have := hci u hu; have := canon_pos hcc u hu; omega) (Nat.le_trans (clip_len _ _ _) (canon_of_rvB hs.l).2.2)
              have hhas : ∀ x, hasS t x = hasS s x := fun x => by
                rw [ht]
                unfold hasS
                simp only
                by_cases h1 : x < f
                · rw [if_pos h1]
                  exact (B2 x (by omega)).symm
                · rw [if_neg h1]
                  by_cases h2 : x < e + 1
                  · rw [if_pos h2, clip_in, decide_eq_true (show f ≤ x by omega), decide_eq_true h2]
                    exact (has_mid (by omega) (by omega)).symm
                  · rw [if_neg h2]
                    exact (E2 x (by omega)).symm
              have tl : t.lf = s.lf := by rw [ht]
              have tr : t.rt = s.rt := by rw [ht]
              have hpt : pairM t.lf.1 t.lf.2 t.rt.1 t.rt.2 = 0 := by rw [tl, tr]; exact hp
              have hte : endF t = some e := endG_uniq hhas tr (endF_glob hok hpt) (q := some e) ⟨E1, E2, E3⟩
              have htb : begF t = some b := begG_uniq hhas tl (begF_glob hok hpt) (q := some b) ⟨B1, B2, B3⟩
              have hne : earlyB t = false := by
                cases hq : earlyB t with
                | false => rfl
                | true =>
                  obtain ⟨q1, q2⟩ := early_glob hok hq
                  have := q2 e
                  rw [hhas, ← q1, tr] at this
                  exact absurd this E1
              have hfix : formF t = (t, 0) := by
                rw [form_some hpt hne hte htb]
                unfold formE
                simp only
                rw [hfe, if_pos (by rw [Bool.and_eq_true, lineB_iff, lineB_iff]; exact hl), tl, tr, show hasS t = hasS s from funext hhas, hml, ht]
              refine ⟨?_, hhas⟩
              have hpe : ∀ p : Per, pvB p.1 p.2 = true → peB p.1 p.2 p.1 p.2 = true := fun p h => by unfold peB; rw [h]; simp
              unfold VB
              rw [givenB_ok hok, hfix]
              simp [hpe _ hok.lf, hpe _ hok.rt]
            · rw [if_neg hl] at hf
              simp at hf
  · rw [form_pair rfl hp] at hf
    simp at hf
    exact absurd hf.2 hp
end Wk
end Go.Proofs.YtnjpceocnldlfaaGreat
namespace Go.Proofs.YtnjpceocnldlfaaGreat
namespace Wk
theorem pure_glob {a : St} (h : pureB a = true) : a.fr = 0 ∧ a.to = 0 ∧ a.rt = a.lf := by
  unfold pureB at h
  simp only [Bool.and_eq_true, decide_eq_true_eq] at h
  obtain ⟨⟨h1, h2⟩, hp⟩ := h
  refine ⟨h1, h2, ?_⟩
  unfold peB at hp
  simp only [Bool.and_eq_true, beq_iff_eq, decide_eq_true_eq] at hp
  exact Prod.ext hp.1.2.symm hp.2.symm
theorem pure_has {a : St} (h : pureB a = true) (x : Int) : hasS a x = hasP a.lf x := by
  obtain ⟨h1, h2, h3⟩ := pure_glob h
  rcases Int.lt_or_le x 0 with hx | hx
  · exact has_lf (by omega)
  · rw [has_rt (by omega) (by omega), h3]
theorem win_left {a b : St} {x : Int} (hx : x < winL a b) : hasS a x = hasP a.lf x ∧ hasS b x = hasP b.lf x := by
  unfold winL at hx
  by_cases h1 : pureB a = true
  · rw [if_pos h1] at hx
    exact ⟨pure_has h1 x, has_lf hx⟩
  · rw [if_neg h1] at hx
    by_cases h2 : pureB b = true
    · rw [if_pos h2] at hx
      exact ⟨has_lf hx, pure_has h2 x⟩
    · rw [if_neg h2] at hx
      exact ⟨has_lf (by omega), has_lf (by omega)⟩
theorem win_right {a b : St} (ha : OkS a) (hb : OkS b) {x : Int} (hx : winR a b ≤ x) : hasS a x = hasP a.rt x ∧ hasS b x = hasP b.rt x := by
  have h3 := ha.ft
  have h4 := hb.ft
  unfold winR at hx
  by_cases h1 : pureB a = true
  · rw [if_pos h1] at hx
    exact ⟨by rw [pure_has h1 x, (pure_glob h1).2.2], has_rt h4 hx⟩
  · rw [if_neg h1] at hx
    by_cases h2 : pureB b = true
    · rw [if_pos h2] at hx
      exact ⟨has_rt h3 hx, by rw [pure_has h2 x, (pure_glob h2).2.2]⟩
    · rw [if_neg h2] at hx
      exact ⟨has_rt h3 (by omega), has_rt h4 (by omega)⟩
theorem comb_has {k : Int} {a b c : St} (h : combM k a b = (c, 0)) : VB a = true ∧ VB b = true ∧ VB c = true ∧ ∀ x, hasS c x = ruleB k (hasS a x) (hasS b x) := by
  cases h1 : VB a with
  | false => rw [comb_bad (.inl h1)] at h; simp at h
  | true =>
  cases h2 : VB b with
  | false => rw [comb_bad (.inr h2)] at h; simp at h
  | true =>
  have ha := okS_of_VB h1
  have hb := okS_of_VB h2
  obtain ⟨⟨p, e1⟩, hl⟩ : ∃ r, bothM k a.lf b.lf = r := ⟨_, rfl⟩
  obtain ⟨⟨q, e2⟩, hr⟩ : ∃ r, bothM k a.rt b.rt = r := ⟨_, rfl⟩
  by_cases he1 : e1 ≠ 0
  · rw [comb_left h1 h2 (by rw [hl]) he1] at h
    simp at h
    exact absurd h.2 he1
  have he1 : e1 = 0 := by omega
  subst he1
  by_cases he2 : e2 ≠ 0
  · rw [comb_right h1 h2 (by rw [hl]) (by rw [hr]) he2] at h
    simp at h
    exact absurd h.2 he2
  have he2 : e2 = 0 := by omega
  subst he2
  by_cases he3 : pairM p.1 p.2 q.1 q.2 ≠ 0
  · rw [comb_pair h1 h2 hl hr rfl he3] at h
    simp at h
    exact absurd h.2 he3
  have he3 : pairM p.1 p.2 q.1 q.2 = 0 := by omega
  obtain ⟨f, hf⟩ : ∃ f, winL a b = f := ⟨_, rfl⟩
  obtain ⟨t, ht⟩ : ∃ t, winR a b = t := ⟨_, rfl⟩
  have hw := cwin_ok ha hb
  rw [hf, ht] at hw
  by_cases h5 : 2000 < (memF (hasS a) f (t - f).toNat).length + (memF (hasS b) f (t - f).toNat).length
  · rw [comb_full h1 h2 hl hr he3 hf ht h5] at h
    simp at h
  rw [comb_form h1 h2 hl hr he3 hf ht h5] at h
  have B1 := bothM_ok (kind := k) (p := a.lf) (q := b.lf) (by rw [hl])
  have B2 := bothM_ok (kind := k) (p := a.rt) (q := b.rt) (by rw [hr])
  rw [hl] at B1
  rw [hr] at B2
  have hcl := (comb_lists (kind := k) (ga := hasS a) (gb := hasS b) hw.1 hw.2.1 hw.2.2 (by omega))
  have hok : OkS ⟨p, q, f, t, memF (fun x => ruleB k (hasS a x) (hasS b x)) f (t - f).toNat⟩ := comb_ok B1.2.2.1 B2.2.2.1 hw.1 hw.2.1 hw.2.2 hcl.2
  obtain ⟨v1, v2⟩ := form_ok hok h
  refine ⟨rfl, rfl, v1, fun x => ?_⟩
  rw [v2]
  by_cases hx1 : x < f
  · rw [has_lf hx1]
    have w := win_left (a := a) (b := b) (x := x) (by omega)
    rw [w.1, w.2]
    exact B1.2.2.2 x
  · by_cases hx2 : x < t
    · rw [has_mid (by simp only; omega) hx2]
      simp only
      rw [memF_in hw.1, decide_eq_true (show f ≤ x by omega), decide_eq_true hx2]
      rfl
    · rw [has_rt (by simp only; omega) (by simp only; omega)]
      have w := win_right ha hb (x := x) (by omega)
      rw [w.1, w.2]
      exact B2.2.2.2 x
theorem not_has {a c : St} (h : setNot a = (c, 0)) : VB a = true ∧ OkS c ∧ ∀ x, hasS c x = !(hasS a x) := by
  cases h1 : VB a with
  | false => unfold setNot at h; rw [two_bad h1] at h; simp at h
  | true =>
  have ha := okS_of_VB h1
  obtain ⟨⟨p, e1⟩, hl⟩ : ∃ r, perNot a.lf = r := ⟨_, rfl⟩
  obtain ⟨⟨q, e2⟩, hr⟩ : ∃ r, perNot a.rt = r := ⟨_, rfl⟩
  unfold setNot at h
  by_cases he1 : e1 ≠ 0
  · rw [two_left h1 (by rw [hl]) he1] at h
    simp at h
    exact absurd h.2 he1
  have he1 : e1 = 0 := by omega
  subst he1
  by_cases he2 : e2 ≠ 0
  · rw [two_right h1 hl (by rw [hr]) he2] at h
    simp at h
    exact absurd h.2 he2
  have he2 : e2 = 0 := by omega
  subst he2
  by_cases he3 : pairM p.1 p.2 q.1 q.2 ≠ 0
  · rw [two_pair h1 hl hr rfl he3] at h
    simp at h
    exact absurd h.2 he3
  have he3 : pairM p.1 p.2 q.1 q.2 = 0 := by omega
  rw [two_rest h1 hl hr he3] at h
  unfold notRest at h
  by_cases h5 : 2000 < (gapsL a.fr (a.l ++ [(a.to, a.to)])).length
  · rw [if_pos h5] at h; simp at h
  rw [if_neg h5] at h
  have hc : c = ⟨p, q, a.fr, a.to, gapsL a.fr (a.l ++ [(a.to, a.to)])⟩ := by cases h; rfl
  have N1 := perNot_ok (p := a.lf) ha.lf (by rw [hl])
  have N2 := perNot_ok (p := a.rt) ha.rt (by rw [hr])
  rw [hl] at N1
  rw [hr] at N2
  obtain ⟨g1, g2, g3⟩ := gaps_ok a.l a.fr a.to (canon_of_rvB ha.l).1 ha.ins ha.ft
  have f1 := ha.f1
  have t1 := ha.t1
  have hft := ha.ft
  refine ⟨rfl, ?_, fun x => ?_⟩
  · rw [hc]
    exact ⟨N1.1, N2.1, rvB_of g1 (fun u hu => by have := g2 u hu; have := canon_pos g1 u hu; omega) (by simp only; omega), f1, hft, t1, g2⟩
  · have q1 : c.fr = a.fr := by rw [hc]
    have q2 : c.to = a.to := by rw [hc]
    have q3 : c.lf = p := by rw [hc]
    have q4 : c.rt = q := by rw [hc]
    have q5 : c.l = gapsL a.fr (a.l ++ [(a.to, a.to)]) := by rw [hc]
    by_cases hx1 : x < a.fr
    · rw [has_lf (s := c) (by omega), has_lf (s := a) hx1, q3]; exact N1.2 x
    · by_cases hx2 : x < a.to
      · rw [has_mid (s := c) (by omega) (by omega), has_mid (s := a) (by omega) hx2, q5, g3, decide_eq_true (show a.fr ≤ x by omega), decide_eq_true hx2]
        rfl
      · rw [has_rt (s := c) (by omega) (by omega), has_rt (s := a) hft (by omega), q4]; exact N2.2 x
end Wk
end Go.Proofs.YtnjpceocnldlfaaGreat
namespace Go.Proofs.YtnjpceocnldlfaaGreat
namespace Wk
theorem pe_refl {p : Per} (h : pvB p.1 p.2 = true) : peB p.1 p.2 p.1 p.2 = true := by unfold peB; rw [h]; simp
theorem VB_fix {c : St} (hok : OkS c) (hfix : formF c = (c, 0)) : VB c = true := by
  unfold VB
  rw [givenB_ok hok, hfix]
  simp [pe_refl hok.lf, pe_refl hok.rt]
theorem VB_of {c : St} {e b : Int} (hok : OkS c) (hp : pairM c.lf.1 c.lf.2 c.rt.1 c.rt.2 = 0) (hE : EndG c (some e)) (hB : BegG c (some b)) (ht : c.to = e + 1) (hf : c.fr = if b ≤ e + 1 then b else e + 1) : VB c = true := by
  have hte : endF c = some e := endG_uniq (fun _ => rfl) rfl (endF_glob hok hp) hE
  have htb : begF c = some b := begG_uniq (fun _ => rfl) rfl (begF_glob hok hp) hB
  have hne : earlyB c = false := by
    cases hq : earlyB c with
    | false => rfl
    | true =>
      obtain ⟨q1, q2⟩ := early_glob hok hq
      have := q2 e
      rw [← q1] at this
      exact absurd this hE.1
  refine VB_fix hok ?_
  have f1 := hok.f1
  have t1 := hok.t1
  have hft := hok.ft
  have hml := memL_clip (h := hasS c) (k := c.l) (a := c.fr) (c := c.to) (canon_of_rvB hok.l).1 (canon_of_rvB hok.l).2.2 fun x h1 h2 => has_mid h1 h2
  have hcl : clipM c.l c.fr c.to = c.l := canon_ext (clip_canon (canon_of_rvB hok.l).1) (canon_of_rvB hok.l).1 fun x => by
    rw [clip_in]
    cases hx : inL c.l x with
    | false => simp
    | true =>
      have h1 : c.fr ≤ x := by
        rcases Int.lt_or_le x c.fr with g | g
        · rw [inL_low fun s hs => by have := (hok.ins s hs).1; omega] at hx; cases hx
        · exact g
      have h2 : x < c.to := by
        rcases Int.lt_or_le x c.to with g | g
        · exact g
        · rw [inL_high fun s hs => by have := (hok.ins s hs).2; omega] at hx; cases hx
      rw [decide_eq_true h1, decide_eq_true h2]; rfl
  rw [form_some hp hne hte htb]
  unfold formE
  simp only
  rw [← hf, ← ht, if_pos (by rw [Bool.and_eq_true, lineB_iff, lineB_iff]; omega), hml, hcl]
theorem VB_win {a : St} (h : VB a = true) : (pureB a = true ∧ a.l = []) ∨ ∃ e b, EndG a (some e) ∧ BegG a (some b) ∧ a.to = e + 1 ∧ a.fr = if b ≤ e + 1 then b else e + 1 := by
  have hok := okS_of_VB h
  unfold VB at h
  simp only [Bool.and_eq_true, beq_iff_eq, decide_eq_true_eq] at h
  obtain ⟨⟨⟨⟨⟨⟨_, h0⟩, h1⟩, h2⟩, h3⟩, h4⟩, h5⟩ := h
  have hp : pairM a.lf.1 a.lf.2 a.rt.1 a.rt.2 = 0 := by
    by_cases hp : pairM a.lf.1 a.lf.2 a.rt.1 a.rt.2 = 0
    · exact hp
    · rw [form_pair rfl hp] at h0; exact absurd h0 hp
  have P : formF a = (pureF a.lf, 0) → pureB a = true ∧ a.l = [] := fun hf => by
    rw [hf] at h1 h2 h4 h5
    unfold pureF at h1 h2 h4 h5
    simp only at h1 h2 h4 h5
    refine ⟨?_, h5.symm⟩
    unfold pureB
    rw [← h1, ← h2]
    simp only [decide_true, Bool.and_self, Bool.true_and]
    unfold peB at h4 ⊢
    simp only [Bool.and_eq_true, beq_iff_eq, decide_eq_true_eq] at h4 ⊢
    exact ⟨⟨⟨h4.1.1.2, h4.1.1.1⟩, h4.1.2.symm⟩, h4.2.symm⟩
  by_cases he : earlyB a = true
  · exact .inl (P (form_early hp he))
  · have he' : earlyB a = false := by simpa using he
    have E := endF_glob hok hp
    have B := begF_glob hok hp
    by_cases hn : endF a = none ∨ begF a = none
    · exact .inl (P (form_none hp he' hn))
    · cases he1 : endF a with
      | none => exact absurd (.inl he1) hn
      | some e =>
        cases hb1 : begF a with
        | none => exact absurd (.inr hb1) hn
        | some b =>
          rw [form_some hp he' he1 hb1] at h0 h1 h2
          rw [he1] at E
          rw [hb1] at B
          unfold formE at h0 h1 h2
          simp only at h0 h1 h2
          by_cases hl : (lineB (if b ≤ e + 1 then b else e + 1) && lineB (e + 1)) = true
          · rw [if_pos hl] at h1 h2
            exact .inr ⟨e, b, E, B, h2.symm, h1.symm⟩
          · rw [if_neg hl] at h0
            simp at h0
theorem not_VB {a c : St} (h : setNot a = (c, 0)) : VB c = true := by
  obtain ⟨h1, hok, hh⟩ := not_has h
  have ha := okS_of_VB h1
  obtain ⟨⟨p, e1⟩, hl⟩ : ∃ r, perNot a.lf = r := ⟨_, rfl⟩
  obtain ⟨⟨q, e2⟩, hr⟩ : ∃ r, perNot a.rt = r := ⟨_, rfl⟩
  unfold setNot at h
  by_cases he1 : e1 ≠ 0
  · rw [two_left h1 (by rw [hl]) he1] at h
    simp at h
    exact absurd h.2 he1
  have he1 : e1 = 0 := by omega
  subst he1
  by_cases he2 : e2 ≠ 0
  · rw [two_right h1 hl (by rw [hr]) he2] at h
    simp at h
    exact absurd h.2 he2
  have he2 : e2 = 0 := by omega
  subst he2
  by_cases he3 : pairM p.1 p.2 q.1 q.2 ≠ 0
  · rw [two_pair h1 hl hr rfl he3] at h
    simp at h
    exact absurd h.2 he3
  have he3 : pairM p.1 p.2 q.1 q.2 = 0 := by omega
  rw [two_rest h1 hl hr he3] at h
  unfold notRest at h
  by_cases h5 : 2000 < (gapsL a.fr (a.l ++ [(a.to, a.to)])).length
  · rw [if_pos h5] at h; simp at h
  rw [if_neg h5] at h
  have hc : c = ⟨p, q, a.fr, a.to, gapsL a.fr (a.l ++ [(a.to, a.to)])⟩ := by cases h; rfl
  have N1 := perNot_ok (p := a.lf) ha.lf (by rw [hl])
  have N2 := perNot_ok (p := a.rt) ha.rt (by rw [hr])
  rw [hl] at N1
  rw [hr] at N2
  have q1 : c.fr = a.fr := by rw [hc]
  have q2 : c.to = a.to := by rw [hc]
  have q3 : c.lf = p := by rw [hc]
  have q4 : c.rt = q := by rw [hc]
  rcases VB_win h1 with ⟨hp, hl0⟩ | ⟨e, b, E, B, ht, hf⟩
  · obtain ⟨z1, z2, z3⟩ := pure_glob hp
    have hpq : p = q := by
      have : perNot a.lf = perNot a.rt := by rw [z3]
      rw [hl, hr] at this
      exact (Prod.mk.inj this).1
    have : c = pureF p := by
      rw [hc, ← hpq, z1, z2, hl0]
      rfl
    rw [this]
    exact VB_pure N1.1
  · have n2 : ∀ (x y : Bool), (!x) ≠ (!y) ↔ x ≠ y := by decide
    refine VB_of (e := e) (b := b) hok (by rw [q3, q4]; exact he3) ⟨?_, fun z hz => ?_, ?_⟩ ⟨?_, fun z hz => ?_, ?_⟩ (by rw [q2]; exact ht) (by rw [q1]; exact hf)
    · rw [hh, q4, show hasP q e = _ from N2.2 e]; exact (n2 _ _).2 E.1
    · rw [hh, q4, show hasP q z = _ from N2.2 z, E.2.1 z hz]
    · rw [q2]; exact E.2.2
    · rw [hh, q3, show hasP p b = _ from N1.2 b]; exact (n2 _ _).2 B.1
    · rw [hh, q3, show hasP p z = _ from N1.2 z, B.2.1 z hz]
    · rw [q1]; exact B.2.2
end Wk
end Go.Proofs.YtnjpceocnldlfaaGreat
