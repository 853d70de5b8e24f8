import Derived.Test.YtnjpceocnldlfaaGreatWkPs
import Derived.Test.YtnjpceocnldlfaaGreatWkPq
import Derived.Test.YtnjpceocnldlfaaGreatWkBh
import Derived.Test.YtnjpceocnldlfaaGreatWkPr
import Derived.Test.YtnjpceocnldlfaaGreatWkPl
/- Not and Move, in plain numbers. -/
namespace Go.Proofs.YtnjpceocnldlfaaGreat
namespace Wk
end Wk
end Go.Proofs.YtnjpceocnldlfaaGreat
/- Not and Move of sets, in plain numbers. -/
namespace Go.Proofs.YtnjpceocnldlfaaGreat
namespace Wk
end Wk
end Go.Proofs.YtnjpceocnldlfaaGreat
/- form keeps what a set has. -/
namespace Go.Proofs.YtnjpceocnldlfaaGreat
namespace Wk
theorem com_per {s : St} (hs : OkS s) (h : pairM s.lf.1 s.lf.2 s.rt.1 s.rt.2 = 0) : 1 ≤ commonM s.lf.1 s.rt.1 ∧ (∃ c : Int, commonM s.lf.1 s.rt.1 = c * s.lf.1) ∧ ∃ d : Int, commonM s.lf.1 s.rt.1 = d * s.rt.1 := by
  have h1 := rvB_of_pvB hs.lf
  have h2 := rvB_of_pvB hs.rt
  refine ⟨(commonM_bd h1.2.1 h2.2.1).1, ?_⟩
  unfold pairM at h
  by_cases hp : peB s.lf.1 s.lf.2 s.rt.1 s.rt.2 = true
  · have e : s.lf.1 = s.rt.1 := by
      unfold peB at hp
      simp only [Bool.and_eq_true, beq_iff_eq] at hp
      exact hp.1.2
    rw [← e, commonM_same h1.2.1 h1.2.2.1]
    exact ⟨⟨1, by omega⟩, ⟨1, by omega⟩⟩
  · rw [if_neg hp] at h
    by_cases hb : 12622780800 < commonM s.lf.1 s.rt.1
    · rw [if_pos hb] at h; simp at h
    · obtain ⟨c1, c2⟩ := common_mulM (P := s.lf.1) (Q := s.rt.1) h2.2.1
      rw [c2 (fun hh => hb (c1.2 hh))]
      exact ⟨mulM_left, mulM_right⟩
/-- the two sides are alike everywhere when they are alike in one common period -/
theorem com_all {s : St} (hs : OkS s) (h : pairM s.lf.1 s.lf.2 s.rt.1 s.rt.2 = 0) {f : Int} (ha : ∀ z, f ≤ z → z < f + commonM s.lf.1 s.rt.1 → hasP s.lf z = hasP s.rt z) : ∀ z, hasP s.lf z = hasP s.rt z := by
  obtain ⟨c0, ⟨c, hc⟩, ⟨d, hd⟩⟩ := com_per hs h
  have h1 := rvB_of_pvB hs.lf
  have h2 := rvB_of_pvB hs.rt
  intro z
  obtain ⟨m, hm⟩ : ∃ m, commonM s.lf.1 s.rt.1 = m := ⟨_, rfl⟩
  rw [hm] at c0 hc hd ha
  have k := mod_lo (z - f) c0
  obtain ⟨q, hq⟩ : ∃ q, (z - f) / m = q := ⟨_, rfl⟩
  rw [hq] at k
  have e1 := hasP_period s.lf h1.2.1 z (-(q * c))
  have e2 := hasP_period s.rt h2.2.1 z (-(q * d))
  have m1 : q * m = q * c * s.lf.1 := by rw [hc, Int.mul_assoc]
  have m2 : q * m = q * d * s.rt.1 := by rw [hd, Int.mul_assoc]
  rw [Int.neg_mul, ← m1] at e1
  rw [Int.neg_mul, ← m2] at e2
  rw [← e1, ← e2]
  exact ha _ (by omega) (by omega)
/-- the last number at which a set is not as its right side -/
def EndG (s : St) : Option Int → Prop
  | some e => hasS s e ≠ hasP s.rt e ∧ (∀ z, e < z → hasS s z = hasP s.rt z) ∧ e < s.to
  | none => ∀ z, hasS s z = hasP s.rt z
def BegG (s : St) : Option Int → Prop
  | some b => hasS s b ≠ hasP s.lf b ∧ (∀ z, z < b → hasS s z = hasP s.lf z) ∧ s.fr ≤ b
  | none => ∀ z, hasS s z = hasP s.lf z
theorem endF_glob {s : St} (hs : OkS s) (h : pairM s.lf.1 s.lf.2 s.rt.1 s.rt.2 = 0) : EndG s (endF s) := by
  have hft := hs.ft
  have g1 := lastF_ok (fun x => inL s.l x != hasP s.rt x) s.fr s.to
  have g2 := lastF_ok (fun x => hasP s.lf x != hasP s.rt x) (s.fr - commonM s.lf.1 s.rt.1) s.fr
  unfold endF
  cases e1 : lastF (fun x => inL s.l x != hasP s.rt x) s.fr s.to with
  | some e =>
    rw [e1] at g1
    obtain ⟨a1, a2, a3, a4⟩ := g1
    refine ⟨?_, fun z hz => ?_, a2⟩
    · rw [has_mid a1 a2]; simpa using a3
    · by_cases hz2 : z < s.to
      · rw [has_mid (by omega) hz2]
        have := a4 z hz hz2
        simpa using this
      · exact has_rt hft (by omega)
  | none =>
    rw [e1] at g1
    have W : ∀ z, s.fr ≤ z → hasS s z = hasP s.rt z := fun z hz => by
      by_cases hz2 : z < s.to
      · rw [has_mid hz hz2]
        have := g1 z hz hz2
        simpa using this
      · exact has_rt hft (by omega)
    show EndG s (lastF (fun x => hasP s.lf x != hasP s.rt x) (s.fr - commonM s.lf.1 s.rt.1) s.fr)
    cases e2 : lastF (fun x => hasP s.lf x != hasP s.rt x) (s.fr - commonM s.lf.1 s.rt.1) s.fr with
    | some e =>
      rw [e2] at g2
      obtain ⟨a1, a2, a3, a4⟩ := g2
      refine ⟨?_, fun z hz => ?_, by omega⟩
      · rw [has_lf a2]; simpa using a3
      · by_cases hz2 : z < s.fr
        · rw [has_lf hz2]
          have := a4 z hz hz2
          simpa using this
        · exact W z (by omega)
    | none =>
      rw [e2] at g2
      have A := com_all hs h (f := s.fr - commonM s.lf.1 s.rt.1) fun z h1 h2 => by
        have := g2 z h1 (by omega)
        simpa using this
      intro z
      by_cases hz2 : z < s.fr
      · rw [has_lf hz2]; exact A z
      · exact W z (by omega)
theorem begF_glob {s : St} (hs : OkS s) (h : pairM s.lf.1 s.lf.2 s.rt.1 s.rt.2 = 0) : BegG s (begF s) := by
  have hft := hs.ft
  have g1 := firstF_ok (fun x => inL s.l x != hasP s.lf x) s.fr s.to
  have g2 := firstF_ok (fun x => hasP s.rt x != hasP s.lf x) s.to (s.to + commonM s.lf.1 s.rt.1)
  unfold begF
  cases e1 : firstF (fun x => inL s.l x != hasP s.lf x) s.fr s.to with
  | some e =>
    rw [e1] at g1
    obtain ⟨a1, a2, a3, a4⟩ := g1
    refine ⟨?_, fun z hz => ?_, a1⟩
    · rw [has_mid a1 a2]; simpa using a3
    · by_cases hz2 : z < s.fr
      · exact has_lf hz2
      · rw [has_mid (by omega) (by omega)]
        have := a4 z (by omega) hz
        simpa using this
  | none =>
    rw [e1] at g1
    have W : ∀ z, z < s.to → hasS s z = hasP s.lf z := fun z hz => by
      by_cases hz2 : z < s.fr
      · exact has_lf hz2
      · rw [has_mid (by omega) hz]
        have := g1 z (by omega) hz
        simpa using this
    show BegG s (firstF (fun x => hasP s.rt x != hasP s.lf x) s.to (s.to + commonM s.lf.1 s.rt.1))
    cases e2 : firstF (fun x => hasP s.rt x != hasP s.lf x) s.to (s.to + commonM s.lf.1 s.rt.1) with
    | some e =>
      rw [e2] at g2
      obtain ⟨a1, a2, a3, a4⟩ := g2
      refine ⟨?_, fun z hz => ?_, by omega⟩
      · rw [has_rt hft a1]; simpa using a3
      · by_cases hz2 : z < s.to
        · exact W z hz2
        · rw [has_rt hft (by omega)]
          have := a4 z (by omega) hz
          simpa using this
    | none =>
      rw [e2] at g2
      have A := com_all hs h (f := s.to) fun z h1 h2 => by
        have := g2 z h1 h2
        simp at this
        exact this.symm
      intro z
      by_cases hz2 : z < s.to
      · exact W z hz2
      · rw [has_rt hft (by omega)]; exact (A z).symm
theorem givenB_ok {s : St} (h : OkS s) : givenB s = true := by
  unfold givenB
  have h1 := h.f1
  have h2 := h.ft
  have h3 := h.t1
  simp only [Bool.and_eq_true, Bool.or_eq_true, decide_eq_true_eq]
  refine ⟨⟨⟨⟨⟨⟨h.lf, h.rt⟩, h2⟩, (lineB_iff _).2 ⟨by omega, by omega⟩⟩, (lineB_iff _).2 ⟨by omega, by omega⟩⟩, h.l⟩, ?_⟩
  by_cases h0 : s.l = []
  · exact .inl h0
  · have hl : 0 < s.l.length := List.length_pos_iff.2 h0
    exact .inr ⟨(h.ins _ (mem_first hl)).1, (h.ins _ (mem_last hl)).2⟩
theorem endG_uniq {s t : St} {o q : Option Int} (hh : ∀ x, hasS s x = hasS t x) (hr : s.rt = t.rt) (h1 : EndG s o) (h2 : EndG t q) : o = q := by
  cases o with
  | none =>
    cases q with
    | none => rfl
    | some e => exact absurd (by rw [← hh, h1 e, hr]) h2.1
  | some e =>
    cases q with
    | none => exact absurd (by rw [hh, h2 e, hr]) h1.1
    | some f =>
      rcases Int.lt_trichotomy e f with g | g | g
      · exact absurd (by rw [← hh, h1.2.1 f g, hr]) h2.1
      · rw [g]
      · exact absurd (by rw [hh, h2.2.1 e g, hr]) h1.1
theorem begG_uniq {s t : St} {o q : Option Int} (hh : ∀ x, hasS s x = hasS t x) (hr : s.lf = t.lf) (h1 : BegG s o) (h2 : BegG t q) : o = q := by
  cases o with
  | none =>
    cases q with
    | none => rfl
    | some e => exact absurd (by rw [← hh, h1 e, hr]) h2.1
  | some e =>
    cases q with
    | none => exact absurd (by rw [hh, h2 e, hr]) h1.1
    | some f =>
      rcases Int.lt_trichotomy e f with g | g | g
      · exact absurd (by rw [hh, h2.2.1 e g, hr]) h1.1
      · rw [g]
      · exact absurd (by rw [← hh, h1.2.1 f g, hr]) h2.1
theorem early_glob {s : St} (hs : OkS s) (h : earlyB s = true) : s.rt = s.lf ∧ ∀ z, hasS s z = hasP s.lf z := by
  have hft := hs.ft
  have g1 := firstF_ok (fun x => inL s.l x != hasP s.lf x) s.fr s.to
  unfold earlyB at h
  simp only [Bool.and_eq_true, Option.isNone_iff_eq_none] at h
  obtain ⟨⟨_, hp⟩, h2⟩ := h
  rw [h2] at g1
  have he : s.rt = s.lf := by
    unfold peB at hp
    simp only [Bool.and_eq_true, beq_iff_eq, decide_eq_true_eq] at hp
    exact Prod.ext hp.1.2.symm hp.2.symm
  refine ⟨he, fun z => ?_⟩
  by_cases h1 : z < s.fr
  · exact has_lf h1
  · by_cases h3 : z < s.to
    · rw [has_mid (by omega) h3]
      have := g1 z (by omega) h3
      simpa using this
    · rw [has_rt hft (by omega), he]
theorem hasS_pure (p : Per) (x : Int) : hasS (pureF p) x = hasP p x := by
  unfold hasS pureF
  simp only
  split
  · rfl
  · rfl
/-- what form answers is valid, and has the same numbers -/
theorem form_ok {s t : St} (hs : OkS s) (hf : formF s = (t, 0)) : VB t = true ∧ ∀ x, hasS t x = hasS s x := by
  by_cases hp : pairM s.lf.1 s.lf.2 s.rt.1 s.rt.2 = 0
  · by_cases he : earlyB s = true
    · rw [form_early hp he] at hf
      cases hf
      exact ⟨VB_pure hs.lf, fun x => by rw [hasS_pure, (early_glob hs he).2]⟩
    · have he' : earlyB s = false := by simpa using he
      have E := endF_glob hs hp
      have B := begF_glob hs hp
      by_cases hn : endF s = none ∨ begF s = none
      · rw [form_none hp he' hn] at hf
        cases hf
        refine ⟨VB_pure hs.lf, fun x => ?_⟩
        rw [hasS_pure]
        rcases hn with hn | hn
        · rw [hn] at E
          have A := com_all hs hp (f := s.fr - commonM s.lf.1 s.rt.1) fun z h1 h2 => by
            have := E z
            rwa [has_lf (by omega)] at this
          rw [E x, A x]
        · rw [hn] at B
          rw [B x]
      · cases he1 : endF s with
        | none => exact absurd (.inl he1) hn
        | some e =>
          cases hb1 : begF s with
          | none => exact absurd (.inr hb1) hn
          | some b =>
            rw [form_some hp he' he1 hb1] at hf
            rw [he1] at E
            rw [hb1] at B
            obtain ⟨E1, E2, E3⟩ := E
            obtain ⟨B1, B2, B3⟩ := B
            unfold formE at hf
            simp only at hf
            obtain ⟨f, hfe⟩ : ∃ f, (if b ≤ e + 1 then b else e + 1) = f := ⟨_, rfl⟩
            rw [hfe] at hf
            have hf1 : f ≤ e + 1 ∧ f ≤ b ∧ (f < e + 1 → f = b) := by
              rw [← hfe]
              split <;> refine ⟨by omega, by omega, by omega⟩
            by_cases hl : (lineB f && lineB (e + 1)) = true
            · rw [if_pos hl] at hf
              have hml := memL_clip (h := hasS s) (k := s.l) (a := f) (c := e + 1) (canon_of_rvB hs.l).1 (canon_of_rvB hs.l).2.2 fun x h1 h2 => has_mid (by omega) (by omega)
              rw [hml] at hf
              have ht : t = ⟨s.lf, s.rt, f, e + 1, clipM s.l f (e + 1)⟩ := by cases hf; rfl
              rw [Bool.and_eq_true, lineB_iff, lineB_iff] at hl
              have hcc := clip_canon (f := f) (t := e + 1) (canon_of_rvB hs.l).1
              have hci : ∀ u ∈ clipM s.l f (e + 1), f ≤ u.1 ∧ u.2 ≤ e + 1 := fun u hu => by
                have hpos := canon_pos hcc u hu
                have k1 := inL_of_mem hu (Int.le_refl _) hpos
                have k2 := inL_of_mem hu (x := u.2 - 1) (by omega) (by omega)
                rw [clip_in] at k1 k2
                simp at k1 k2
                omega
              have hok : OkS t := by
                rw [ht]
                refine ⟨hs.lf, hs.rt, ?_, by simp only; omega, by simp only; omega, by simp only; omega, hci⟩
                exact rvB_of hcc (fun u hu => by have := hci u hu; have := canon_pos hcc u hu; omega) (Nat.le_trans (clip_len _ _ _) (canon_of_rvB hs.l).2.2)
              have hhas : ∀ x, hasS t x = hasS s x := fun x => by
                rw [ht]
                unfold hasS
                simp only
                by_cases h1 : x < f
                · rw [if_pos h1]
                  exact (B2 x (by omega)).symm
                · rw [if_neg h1]
                  by_cases h2 : x < e + 1
                  · rw [if_pos h2, clip_in, decide_eq_true (show f ≤ x by omega), decide_eq_true h2]
                    exact (has_mid (by omega) (by omega)).symm
                  · rw [if_neg h2]
                    exact (E2 x (by omega)).symm
              have tl : t.lf = s.lf := by rw [ht]
              have tr : t.rt = s.rt := by rw [ht]
              have hpt : pairM t.lf.1 t.lf.2 t.rt.1 t.rt.2 = 0 := by rw [tl, tr]; exact hp
              have hte : endF t = some e := endG_uniq hhas tr (endF_glob hok hpt) (q := some e) ⟨E1, E2, E3⟩
              have htb : begF t = some b := begG_uniq hhas tl (begF_glob hok hpt) (q := some b) ⟨B1, B2, B3⟩
              have hne : earlyB t = false := by
                cases hq : earlyB t with
                | false => rfl
                | true =>
                  obtain ⟨q1, q2⟩ := early_glob hok hq
                  have := q2 e
                  rw [hhas, ← q1, tr] at this
                  exact absurd this E1
              have hfix : formF t = (t, 0) := by
                rw [form_some hpt hne hte htb]
                unfold formE
                simp only
                rw [hfe, if_pos (by rw [Bool.and_eq_true, lineB_iff, lineB_iff]; exact hl), tl, tr, show hasS t = hasS s from funext hhas, hml, ht]
              refine ⟨?_, hhas⟩
              have hpe : ∀ p : Per, pvB p.1 p.2 = true → peB p.1 p.2 p.1 p.2 = true := fun p h => by unfold peB; rw [h]; simp
              unfold VB
              rw [givenB_ok hok, hfix]
              simp [hpe _ hok.lf, hpe _ hok.rt]
            · rw [if_neg hl] at hf
              simp at hf
  · rw [form_pair rfl hp] at hf
    simp at hf
    exact absurd hf.2 hp
end Wk
end Go.Proofs.YtnjpceocnldlfaaGreat
/- What the results of the operations on sets have. -/
namespace Go.Proofs.YtnjpceocnldlfaaGreat
namespace Wk
theorem pure_glob {a : St} (h : pureB a = true) : a.fr = 0 ∧ a.to = 0 ∧ a.rt = a.lf := by
  unfold pureB at h
  simp only [Bool.and_eq_true, decide_eq_true_eq] at h
  obtain ⟨⟨h1, h2⟩, hp⟩ := h
  refine ⟨h1, h2, ?_⟩
  unfold peB at hp
  simp only [Bool.and_eq_true, beq_iff_eq, decide_eq_true_eq] at hp
  exact Prod.ext hp.1.2.symm hp.2.symm
theorem pure_has {a : St} (h : pureB a = true) (x : Int) : hasS a x = hasP a.lf x := by
  obtain ⟨h1, h2, h3⟩ := pure_glob h
  rcases Int.lt_or_le x 0 with hx | hx
  · exact has_lf (by omega)
  · rw [has_rt (by omega) (by omega), h3]
theorem win_left {a b : St} {x : Int} (hx : x < winL a b) : hasS a x = hasP a.lf x ∧ hasS b x = hasP b.lf x := by
  unfold winL at hx
  by_cases h1 : pureB a = true
  · rw [if_pos h1] at hx
    exact ⟨pure_has h1 x, has_lf hx⟩
  · rw [if_neg h1] at hx
    by_cases h2 : pureB b = true
    · rw [if_pos h2] at hx
      exact ⟨has_lf hx, pure_has h2 x⟩
    · rw [if_neg h2] at hx
      exact ⟨has_lf (by omega), has_lf (by omega)⟩
theorem win_right {a b : St} (ha : OkS a) (hb : OkS b) {x : Int} (hx : winR a b ≤ x) : hasS a x = hasP a.rt x ∧ hasS b x = hasP b.rt x := by
  have h3 := ha.ft
  have h4 := hb.ft
  unfold winR at hx
  by_cases h1 : pureB a = true
  · rw [if_pos h1] at hx
    exact ⟨by rw [pure_has h1 x, (pure_glob h1).2.2], has_rt h4 hx⟩
  · rw [if_neg h1] at hx
    by_cases h2 : pureB b = true
    · rw [if_pos h2] at hx
      exact ⟨has_rt h3 hx, by rw [pure_has h2 x, (pure_glob h2).2.2]⟩
    · rw [if_neg h2] at hx
      exact ⟨has_rt h3 (by omega), has_rt h4 (by omega)⟩
/-- Union, Meet and Minus: what the result has -/
theorem comb_has {k : Int} {a b c : St} (h : combM k a b = (c, 0)) : VB a = true ∧ VB b = true ∧ VB c = true ∧ ∀ x, hasS c x = ruleB k (hasS a x) (hasS b x) := by
  cases h1 : VB a with
  | false => rw [comb_bad (.inl h1)] at h; simp at h
  | true =>
  cases h2 : VB b with
  | false => rw [comb_bad (.inr h2)] at h; simp at h
  | true =>
  have ha := okS_of_VB h1
  have hb := okS_of_VB h2
  obtain ⟨⟨p, e1⟩, hl⟩ : ∃ r, bothM k a.lf b.lf = r := ⟨_, rfl⟩
  obtain ⟨⟨q, e2⟩, hr⟩ : ∃ r, bothM k a.rt b.rt = r := ⟨_, rfl⟩
  by_cases he1 : e1 ≠ 0
  · rw [comb_left h1 h2 (by rw [hl]) he1] at h
    simp at h
    exact absurd h.2 he1
  have he1 : e1 = 0 := by omega
  subst he1
  by_cases he2 : e2 ≠ 0
  · rw [comb_right h1 h2 (by rw [hl]) (by rw [hr]) he2] at h
    simp at h
    exact absurd h.2 he2
  have he2 : e2 = 0 := by omega
  subst he2
  by_cases he3 : pairM p.1 p.2 q.1 q.2 ≠ 0
  · rw [comb_pair h1 h2 hl hr rfl he3] at h
    simp at h
    exact absurd h.2 he3
  have he3 : pairM p.1 p.2 q.1 q.2 = 0 := by omega
  obtain ⟨f, hf⟩ : ∃ f, winL a b = f := ⟨_, rfl⟩
  obtain ⟨t, ht⟩ : ∃ t, winR a b = t := ⟨_, rfl⟩
  have hw := cwin_ok ha hb
  rw [hf, ht] at hw
  by_cases h5 : 2000 < (memF (hasS a) f (t - f).toNat).length + (memF (hasS b) f (t - f).toNat).length
  · rw [comb_full h1 h2 hl hr he3 hf ht h5] at h
    simp at h
  rw [comb_form h1 h2 hl hr he3 hf ht h5] at h
  have B1 := bothM_ok (kind := k) (p := a.lf) (q := b.lf) (by rw [hl])
  have B2 := bothM_ok (kind := k) (p := a.rt) (q := b.rt) (by rw [hr])
  rw [hl] at B1
  rw [hr] at B2
  have hcl := (comb_lists (kind := k) (ga := hasS a) (gb := hasS b) hw.1 hw.2.1 hw.2.2 (by omega))
  have hok : OkS ⟨p, q, f, t, memF (fun x => ruleB k (hasS a x) (hasS b x)) f (t - f).toNat⟩ := comb_ok B1.2.2.1 B2.2.2.1 hw.1 hw.2.1 hw.2.2 hcl.2
  obtain ⟨v1, v2⟩ := form_ok hok h
  refine ⟨rfl, rfl, v1, fun x => ?_⟩
  rw [v2]
  by_cases hx1 : x < f
  · rw [has_lf hx1]
    have w := win_left (a := a) (b := b) (x := x) (by omega)
    rw [w.1, w.2]
    exact B1.2.2.2 x
  · by_cases hx2 : x < t
    · rw [has_mid (by simp only; omega) hx2]
      simp only
      rw [memF_in hw.1, decide_eq_true (show f ≤ x by omega), decide_eq_true hx2]
      rfl
    · rw [has_rt (by simp only; omega) (by simp only; omega)]
      have w := win_right ha hb (x := x) (by omega)
      rw [w.1, w.2]
      exact B2.2.2.2 x
end Wk
end Go.Proofs.YtnjpceocnldlfaaGreat
/- Not and Move of a valid set are valid. -/
namespace Go.Proofs.YtnjpceocnldlfaaGreat
namespace Wk
/-- how the window of a valid set comes about -/
theorem VB_win {a : St} (h : VB a = true) : (pureB a = true ∧ a.l = []) ∨ ∃ e b, EndG a (some e) ∧ BegG a (some b) ∧ a.to = e + 1 ∧ a.fr = if b ≤ e + 1 then b else e + 1 := by
  have hok := okS_of_VB h
  unfold VB at h
  simp only [Bool.and_eq_true, beq_iff_eq, decide_eq_true_eq] at h
  obtain ⟨⟨⟨⟨⟨⟨_, h0⟩, h1⟩, h2⟩, h3⟩, h4⟩, h5⟩ := h
  have hp : pairM a.lf.1 a.lf.2 a.rt.1 a.rt.2 = 0 := by
    by_cases hp : pairM a.lf.1 a.lf.2 a.rt.1 a.rt.2 = 0
    · exact hp
    · rw [form_pair rfl hp] at h0; exact absurd h0 hp
  have P : formF a = (pureF a.lf, 0) → pureB a = true ∧ a.l = [] := fun hf => by
    rw [hf] at h1 h2 h4 h5
    unfold pureF at h1 h2 h4 h5
    simp only at h1 h2 h4 h5
    refine ⟨?_, h5.symm⟩
    unfold pureB
    rw [← h1, ← h2]
    simp only [decide_true, Bool.and_self, Bool.true_and]
    unfold peB at h4 ⊢
    simp only [Bool.and_eq_true, beq_iff_eq, decide_eq_true_eq] at h4 ⊢
    exact ⟨⟨⟨h4.1.1.2, h4.1.1.1⟩, h4.1.2.symm⟩, h4.2.symm⟩
  by_cases he : earlyB a = true
  · exact .inl (P (form_early hp he))
  · have he' : earlyB a = false := by simpa using he
    have E := endF_glob hok hp
    have B := begF_glob hok hp
    by_cases hn : endF a = none ∨ begF a = none
    · exact .inl (P (form_none hp he' hn))
    · cases he1 : endF a with
      | none => exact absurd (.inl he1) hn
      | some e =>
        cases hb1 : begF a with
        | none => exact absurd (.inr hb1) hn
        | some b =>
          rw [form_some hp he' he1 hb1] at h0 h1 h2
          rw [he1] at E
          rw [hb1] at B
          unfold formE at h0 h1 h2
          simp only at h0 h1 h2
          by_cases hl : (lineB (if b ≤ e + 1 then b else e + 1) && lineB (e + 1)) = true
          · rw [if_pos hl] at h1 h2
            exact .inr ⟨e, b, E, B, h2.symm, h1.symm⟩
          · rw [if_neg hl] at h0
            simp at h0
end Wk
end Go.Proofs.YtnjpceocnldlfaaGreat
