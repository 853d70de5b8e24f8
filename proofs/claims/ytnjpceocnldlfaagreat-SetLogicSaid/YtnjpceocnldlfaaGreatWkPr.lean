import Derived.Test.YtnjpceocnldlfaaGreatWkPq
import Derived.Test.YtnjpceocnldlfaaGreatWkPl
/- The chapter's example of sets: what Minus and Of come to there, plain. No conditions. -/
namespace Go.Proofs.YtnjpceocnldlfaaGreat
namespace Wk
def aL : List Sp := [(0, 1)]
theorem ak_sort (P : Int) (h : chg aL P = [0, 1]) : sortI (chg aL P) = [0, 1] := by
  rw [h]
  unfold sortI
  exact List.mergeSort_of_pairwise (by simp)
theorem ak_least7 : leastM aL 7 = 7 := by
  unfold leastM
  rw [leastC_eq (ak_sort 7 (by decide +kernel))]
  decide +kernel
theorem ak_least2 : leastM aL 2 = 2 := by
  unfold leastM
  rw [leastC_eq (ak_sort 2 (by decide +kernel))]
  decide +kernel
theorem ak_least4 : leastM aL 4 = 4 := by
  unfold leastM
  rw [leastC_eq (ak_sort 4 (by decide +kernel))]
  decide +kernel
theorem ak_least1 : leastM [] 1 = 1 := by
  unfold leastM
  rw [leastC_eq (c := []) (by unfold sortI chg; simp)]
  decide +kernel
theorem ak_pv {P : Int} {l : List Sp} (h : leastM l P = P) (h2 : (decide (1 ≤ P) && decide (P ≤ 12622780800) && insB l P) = true) : pvB P l = true := by
  unfold pvB
  rw [h, h2]
  simp
theorem ak_pv7 : pvB 7 aL = true := ak_pv ak_least7 (by decide +kernel)
theorem ak_pv2 : pvB 2 aL = true := ak_pv ak_least2 (by decide +kernel)
theorem ak_pv4 : pvB 4 aL = true := ak_pv ak_least4 (by decide +kernel)
theorem ak_pv1 : pvB 1 [] = true := ak_pv ak_least1 (by decide +kernel)
theorem ak_pe {P : Int} {l : List Sp} (h : pvB P l = true) : peB P l P l = true := by
  unfold peB; rw [h]; simp
theorem ak_pair {P : Int} {l : List Sp} (h : pvB P l = true) : pairM P l P l = 0 := by
  unfold pairM; rw [if_pos (ak_pe h)]
theorem ak_VB {s : St} (h1 : pvB s.lf.1 s.lf.2 = true) (h2 : pvB s.rt.1 s.rt.2 = true) (h3 : (decide (s.fr ≤ s.to) && lineB s.fr && lineB s.to && rvB s.l && (decide (s.l = []) || (decide (s.fr ≤ (s.l.getD 0 (0, 0)).1) && decide ((s.l.getD (s.l.length - 1) (0, 0)).2 ≤ s.to)))) = true) (hf : formF s = (s, 0)) : VB s = true := by
  have hg : givenB s = true := by
    unfold givenB
    rw [h1, h2]
    simpa only [Bool.true_and, Bool.and_assoc] using h3
  unfold VB
  rw [hg, hf]
  simp only [ak_pe h1, ak_pe h2]
  simp
def a7 : St := ⟨(7, aL), (7, aL), 0, 0, []⟩
def aH : St := ⟨(1, []), (1, []), 7, 8, [(7, 8)]⟩
def aA : St := ⟨(7, aL), (7, aL), 7, 8, []⟩
def aB : St := ⟨(2, aL), (4, aL), 7, 7, []⟩
theorem ak_form7 : formF a7 = (a7, 0) := by
  have he : earlyB a7 = true := by
    unfold earlyB
    rw [show a7.lf.1 = 7 from rfl, show a7.lf.2 = aL from rfl, show a7.rt.1 = 7 from rfl, show a7.rt.2 = aL from rfl, ak_pe ak_pv7]
    decide +kernel
  exact form_early (ak_pair ak_pv7) he
theorem ak_V7 : VB a7 = true := ak_VB ak_pv7 ak_pv7 (by decide +kernel) ak_form7
theorem ak_formH : formF aH = (aH, 0) := by
  rw [form_some (e := 7) (b := 7) (ak_pair ak_pv1) (by decide +kernel) (by decide +kernel) (by decide +kernel)]
  have hm : memL (hasS aH) 7 8 = [(7, 8)] := by decide +kernel
  unfold formE
  rw [if_pos (by decide +kernel)]
  show ((⟨aH.lf, aH.rt, 7, 8, memL (hasS aH) 7 8⟩ : St), (0 : Int)) = _
  rw [hm]
  rfl
theorem ak_VH : VB aH = true := ak_VB ak_pv1 ak_pv1 (by decide +kernel) ak_formH
theorem ak_formA : formF aA = (aA, 0) := by
  rw [form_some (e := 7) (b := 7) (ak_pair ak_pv7) (by decide +kernel) (by decide +kernel) (by decide +kernel)]
  have hm : memL (hasS aA) 7 8 = [] := by decide +kernel
  unfold formE
  rw [if_pos (by decide +kernel)]
  show ((⟨aA.lf, aA.rt, 7, 8, memL (hasS aA) 7 8⟩ : St), (0 : Int)) = _
  rw [hm]
  rfl
theorem ak_pe24 : peB 2 aL 4 aL = false := by
  unfold peB
  rw [show ((2 : Int) == 4) = false from rfl]
  simp
theorem ak_pair24 : pairM 2 aL 4 aL = 0 := by
  unfold pairM
  rw [ak_pe24, if_neg (by simp)]
  decide +kernel
theorem ak_early24 (f t : Int) : earlyB ⟨(2, aL), (4, aL), f, t, []⟩ = false := by
  unfold earlyB
  simp only [ak_pe24]
  simp
theorem ak_formB : formF ⟨(2, aL), (4, aL), 10, 10, []⟩ = (aB, 0) := by
  rw [form_some (e := 6) (b := 10) ak_pair24 (ak_early24 _ _) (by decide +kernel) (by decide +kernel)]
  have hm : memL (hasS ⟨(2, aL), (4, aL), 10, 10, []⟩) 7 7 = [] := by decide +kernel
  unfold formE
  rw [if_pos (by decide +kernel)]
  show ((⟨(2, aL), (4, aL), 7, 7, memL (hasS ⟨(2, aL), (4, aL), 10, 10, []⟩) 7 7⟩ : St), (0 : Int)) = _
  rw [hm]
  rfl
theorem ak_formB2 : formF aB = (aB, 0) := by
  rw [show aB = (⟨(2, aL), (4, aL), 7, 7, []⟩ : St) from rfl]
  rw [form_some (e := 6) (b := 10) ak_pair24 (ak_early24 _ _) (by decide +kernel) (by decide +kernel)]
  have hm : memL (hasS ⟨(2, aL), (4, aL), 7, 7, []⟩) 7 7 = [] := by decide +kernel
  unfold formE
  rw [if_pos (by decide +kernel)]
  show ((⟨(2, aL), (4, aL), 7, 7, memL (hasS ⟨(2, aL), (4, aL), 7, 7, []⟩) 7 7⟩ : St), (0 : Int)) = _
  rw [hm]
theorem ak_VB' : VB aB = true := ak_VB ak_pv2 ak_pv4 (by decide +kernel) ak_formB2
theorem ak_givenB : givenB ⟨(2, aL), (4, aL), 10, 10, []⟩ = true := by
  unfold givenB
  simp only [ak_pv2, ak_pv4]
  decide +kernel
theorem ak_both : bothM 2 (7, aL) (1, []) = ((7, aL), 0) := by
  unfold bothM
  simp only [ak_pv7, ak_pv1]
  rw [if_neg (by simp), if_neg (by decide +kernel), show (pairR 7 aL.length 1 ([] : List Sp).length).1 = 7 by decide +kernel]
  have hm : memF (fun x => ruleB 2 (hasP (7, aL) x) (hasP (1, []) x)) 0 (Int.toNat 7) = aL := by decide +kernel
  unfold perM
  rw [hm, ak_least7, show cutM aL 7 = aL by decide +kernel, if_neg (by decide +kernel)]
theorem ak_minus : combM 2 a7 aH = (aA, 0) := by
  unfold combM
  rw [ak_V7, ak_VH, if_neg (by simp)]
  have h1 : bothM 2 a7.lf aH.lf = ((7, aL), 0) := ak_both
  have h2 : bothM 2 a7.rt aH.rt = ((7, aL), 0) := ak_both
  rw [h1, h2]
  have hp : pureB a7 = true := by
    unfold pureB
    rw [show a7.lf.1 = 7 from rfl, show a7.lf.2 = aL from rfl, show a7.rt.1 = 7 from rfl, show a7.rt.2 = aL from rfl, ak_pe ak_pv7]
    decide +kernel
  have hl : winL a7 aH = 7 := by unfold winL; rw [if_pos hp]; rfl
  have hr : winR a7 aH = 8 := by unfold winR; rw [if_pos hp]; rfl
  simp only [hl, hr]
  have h3 : pairM 7 aL 7 aL = 0 := ak_pair ak_pv7
  rw [if_neg (by simp), if_neg (by simp), h3, if_neg (by simp), if_neg (by decide +kernel)]
  have hm : memF (fun x => ruleB 2 (hasS a7 x) (hasS aH x)) 7 (Int.toNat (8 - 7)) = [] := by decide +kernel
  rw [hm]
  exact ak_formA
end Wk
end Go.Proofs.YtnjpceocnldlfaaGreat
namespace Go.Proofs.YtnjpceocnldlfaaGreat
namespace Wk

theorem far_prop {l : List Sp} {P : Int} (hP : 1 ≤ P) : ∀ j : Nat, (farB l P j = P ∨ ∃ i : Int, 1 ≤ i ∧ i ≤ j ∧ P % i = 0 ∧ repB l P (P / i) = true ∧ farB l P j = P / i) ∧ ∀ q : Int, 1 ≤ q → q ≤ j → P % q = 0 → repB l P (P / q) = true → farB l P j ≤ P / q
  | 0 => ⟨.inl rfl, fun q h1 h2 => by omega⟩
  | j + 1 => by
    obtain ⟨h1, h2⟩ := far_prop (l := l) hP j
    simp only [farB]
    by_cases hc : P % ((j : Int) + 1) = 0 ∧ repB l P (P / ((j : Int) + 1)) = true
    · rw [if_pos hc]
      refine ⟨.inr ⟨(j : Int) + 1, by omega, by omega, hc.1, hc.2, rfl⟩, fun q q1 q2 q3 q4 => ?_⟩
      have hd : q ∣ P := Int.dvd_of_emod_eq_zero q3
      have e := Int.mul_ediv_cancel' hd
      have e2 := Int.mul_ediv_cancel' (Int.dvd_of_emod_eq_zero hc.1)
      rcases Int.lt_or_le (P / q) (P / ((j : Int) + 1)) with h | h
      · exfalso
        have h0 : 0 ≤ P / q := Int.ediv_nonneg (by omega) (by omega)
        have a1 : q * (P / q) ≤ ((j : Int) + 1) * (P / q) := Int.mul_le_mul_of_nonneg_right (by omega) h0
        have a2 : ((j : Int) + 1) * (P / q) < ((j : Int) + 1) * (P / ((j : Int) + 1)) := Int.mul_lt_mul_of_pos_left h (by omega)
        omega
      · exact h
    · rw [if_neg hc]
      refine ⟨?_, fun q q1 q2 q3 q4 => ?_⟩
      · rcases h1 with h1 | ⟨i, a, b, c⟩
        · exact .inl h1
        · exact .inr ⟨i, a, by omega, c⟩
      · by_cases he : q = (j : Int) + 1
        · subst he; exact absurd ⟨q3, q4⟩ hc
        · exact h2 q q1 (by omega) q3 q4
theorem least_prop {l : List Sp} {P : Int} (hP : 1 ≤ P) : (leastM l P = P ∨ repB l P (leastM l P) = true) ∧ 1 ≤ leastM l P ∧ leastM l P ≤ P ∧ P % leastM l P = 0 ∧ ∀ g : Int, 1 ≤ g → P % g = 0 → repB l P g = true → leastM l P ≤ g := by
  by_cases hh : ∀ q : Int, 1 ≤ q → q * q ≤ P → ¬(P % q = 0 ∧ repB l P q = true)
  · obtain ⟨j, h1, h2⟩ := root_ex P.toNat
    have h1' : (j : Int) * j ≤ P := by
      have : ((j * j : Nat) : Int) ≤ (P.toNat : Int) := by exact_mod_cast h1
      rw [Int.natCast_mul] at this; omega
    have h2' : ¬ ((j : Int) + 1) * (j + 1) ≤ P := by
      have : (P.toNat : Int) < (((j + 1) * (j + 1) : Nat) : Int) := by exact_mod_cast h2
      rw [Int.natCast_mul] at this
      have e : ((j + 1 : Nat) : Int) = (j : Int) + 1 := by omega
      rw [e] at this; omega
    rw [least_far hh (.inr h1') h2']
    obtain ⟨f1, f2⟩ := far_prop (l := l) hP j
    have hmin : ∀ g : Int, 1 ≤ g → P % g = 0 → repB l P g = true → farB l P j ≤ g := by
      intro g hg hd hr
      have hgg : ¬ g * g ≤ P := fun h => hh g hg h ⟨hd, hr⟩
      have e := Int.mul_ediv_add_emod P g
      rw [hd] at e
      have hq1 : 1 ≤ P / g := by
        rcases Int.lt_or_le (P / g) 1 with h | h
        · have : g * (P / g) ≤ g * 0 := Int.mul_le_mul_of_nonneg_left (by omega) (by omega)
          omega
        · exact h
      have hqg : P / g < g := by
        rcases Int.lt_or_le (P / g) g with h | h
        · exact h
        · have : g * g ≤ g * (P / g) := Int.mul_le_mul_of_nonneg_left h (by omega)
          omega
      have hd2 : P % (P / g) = 0 := by
        have : P / g * g = P := by rw [Int.mul_comm]; omega
        exact Int.emod_eq_zero_of_dvd ⟨g, this.symm⟩
      have hdiv : P / (P / g) = g := Int.ediv_eq_of_eq_mul_right (by omega) (by rw [Int.mul_comm]; omega)
      have hqj : P / g ≤ j := by
        rcases Int.lt_or_le (j : Int) (P / g) with h | h
        · have a1 : ((j : Int) + 1) * (j + 1) ≤ (P / g) * (j + 1) := Int.mul_le_mul_of_nonneg_right (by omega) (by omega)
          have a2 : (P / g) * ((j : Int) + 1) ≤ (P / g) * (P / g) := Int.mul_le_mul_of_nonneg_left (by omega) (by omega)
          have a3 : (P / g) * (P / g) ≤ g * (P / g) := Int.mul_le_mul_of_nonneg_right (by omega) (by omega)
          omega
        · exact h
      have := f2 (P / g) hq1 hqj hd2 (by rw [hdiv]; exact hr)
      rwa [hdiv] at this
    rcases f1 with f1 | ⟨i, i1, i2, i3, i4, i5⟩
    · rw [f1] at hmin ⊢
      exact ⟨.inl rfl, hP, Int.le_refl _, Int.emod_self, hmin⟩
    · rw [i5] at hmin ⊢
      have hd : i ∣ P := Int.dvd_of_emod_eq_zero i3
      have e := Int.mul_ediv_cancel' hd
      have g1 : 1 ≤ P / i := by
        rcases Int.lt_or_le (P / i) 1 with h | h
        · have : i * (P / i) ≤ i * 0 := Int.mul_le_mul_of_nonneg_left (by omega) (by omega)
          omega
        · exact h
      exact ⟨.inr i4, g1, Int.ediv_le_self _ (by omega), Int.emod_eq_zero_of_dvd ⟨i, by rw [Int.mul_comm]; exact e.symm⟩, hmin⟩
  · have hx : ∃ q : Int, 1 ≤ q ∧ q ≤ (P.toNat : Int) ∧ (q * q ≤ P ∧ P % q = 0 ∧ repB l P q = true) := by
      rcases Classical.not_forall.1 hh with ⟨q, h⟩
      rcases Classical.not_forall.1 h with ⟨h1, h⟩
      rcases Classical.not_forall.1 h with ⟨h2, h⟩
      have h3 := Classical.not_not.1 h
      refine ⟨q, h1, ?_, h2, h3⟩
      have : q * 1 ≤ q * q := Int.mul_le_mul_of_nonneg_left (by omega) (by omega)
      omega
    obtain ⟨j, h1, h2, h3, h4⟩ := least_ex _ _ hx
    have e := least_hit (j := j) hP (fun q a b c => h1 q a b ⟨by
      have a1 : q * q ≤ ((j : Int) + 1) * q := Int.mul_le_mul_of_nonneg_right (by omega) (by omega)
      have a2 : ((j : Int) + 1) * q ≤ ((j : Int) + 1) * (j + 1) := Int.mul_le_mul_of_nonneg_left (by omega) (by omega)
      omega, c⟩) h2 h3 h4
    rw [e]
    have hle : (j : Int) + 1 ≤ P := by
      have : ((j : Int) + 1) * 1 ≤ ((j : Int) + 1) * (j + 1) := Int.mul_le_mul_of_nonneg_left (by omega) (by omega)
      omega
    refine ⟨.inr h4, by omega, hle, h3, fun g g1 g2 g3 => ?_⟩
    rcases Int.lt_or_le (j : Int) g with h | h
    · omega
    · exfalso
      refine h1 g g1 h ⟨?_, g2, g3⟩
      have a1 : g * g ≤ ((j : Int) + 1) * g := Int.mul_le_mul_of_nonneg_right (by omega) (by omega)
      have a2 : ((j : Int) + 1) * g ≤ ((j : Int) + 1) * (j + 1) := Int.mul_le_mul_of_nonneg_left (by omega) (by omega)
      omega
theorem cut_clip : ∀ {l : List Sp} {b : Int}, Canon l → (∀ s ∈ l, 0 ≤ s.1) → cutM l b = clipM l 0 b
  | [], _, _, _ => rfl
  | s :: r, b, hc, hi => by
    have ih := cut_clip (l := r) (b := b) hc.2.2 fun t ht => hi t (by simp [ht])
    have h0 := hi s (by simp)
    have h1 := hc.1
    have e : max s.1 0 = s.1 := by omega
    rw [clip_cons, ← ih, e]
    unfold cutM
    by_cases h : s.1 < b
    · rw [if_pos (by omega), List.filter_cons_of_pos (by simpa using h)]
      rfl
    · rw [if_neg (by omega), List.filter_cons_of_neg (by simpa using h)]
      rfl
theorem cut_has {l : List Sp} {P b : Int} (hg : GoodP (P, l)) (hb : 1 ≤ b) (hbP : b ≤ P) (hd : P % b = 0) (hr : b = P ∨ repB l P b = true) : GoodP (b, cutM l b) ∧ ∀ x, hasP (b, cutM l b) x = hasP (P, l) x := by
  have hc := hg.canon
  have hi := hg.ins
  simp only at hc hi
  rw [cut_clip hc fun s hs => (hi s hs).1]
  have hcc : Canon (clipM l 0 b) := clip_canon hc
  have hin : inside b (clipM l 0 b) := inside_of_in hcc fun x hx => by
    rw [clip_in] at hx
    simp at hx
    omega
  refine ⟨⟨hb, hcc, hin⟩, fun x => ?_⟩
  have hper : ∀ x, hasP (P, l) (x + b) = hasP (P, l) x := by
    rcases hr with rfl | hr
    · intro x
      have := hasP_period (b, l) hb x 1
      rwa [Int.one_mul] at this
    · exact (rep_iff (p := (P, l)) hg hb hbP).1 hr
  have hk : ∀ (k : Int) x, hasP (P, l) (x + k * b) = hasP (P, l) x := by
    intro k x
    rcases Int.le_total 0 k with h | h
    · have := per_mul hper k.toNat x
      rwa [Int.toNat_of_nonneg h] at this
    · have := per_mul hper (-k).toNat (x + k * b)
      rw [Int.toNat_of_nonneg (by omega), Int.neg_mul, show x + k * b + -(k * b) = x by omega] at this
      exact this.symm
  have hm := mod_lo x hb
  unfold hasP
  simp only
  rw [clip_in, decide_eq_true hm.1, decide_eq_true hm.2]
  have h2 := hk (-(x / b)) x
  rw [Int.neg_mul] at h2
  have h3 := hasP_in (P, l) hg.pos (x := x - x / b * b) hm.1 (by simp only; omega)
  rw [show x + -(x / b * b) = x - x / b * b by omega, h3] at h2
  simp only [Bool.and_self, Bool.true_and]
  simp only at h2
  rw [h2]
  rfl
theorem insB_of {l : List Sp} {P : Int} (hc : Canon l) (hi : inside P l) (hP : P ≤ 4398046511104) (hl : l.length ≤ 2000) : insB l P = true := by
  have hr : rvB l = true := by
    rw [rvB_iff]
    refine ⟨hl, fun i hi' => ?_⟩
    have hm := idx_mem hi'
    have h1 := hi _ hm
    have h2 := idx_pos hc hi'
    unfold okAt
    rw [Bool.and_eq_true]
    refine ⟨(ivB_iff _).2 ⟨by omega, by omega, by omega⟩, ?_⟩
    by_cases h0 : i = 0
    · subst h0; simp
    · have := canon_lt hc (i := i - 1) (j := i) (by omega) hi'
      rw [Bool.or_eq_true, decide_eq_true_eq]
      exact .inr this.1
  unfold insB
  rw [hr, Bool.true_and]
  by_cases h0 : l.length = 0
  · rw [h0]; rfl
  · have a := hi _ (idx_mem (j := 0) (by omega : 0 < l.length))
    have b := hi _ (idx_mem (j := l.length - 1) (by omega : l.length - 1 < l.length))
    unfold firstFr lastTo
    simp only [Bool.or_eq_true, Bool.and_eq_true, decide_eq_true_eq]
    exact .inr ⟨a.1, b.2⟩
theorem least_form {l : List Sp} {P : Int} (hg : GoodP (P, l)) (hP2 : P ≤ 12622780800) (hl : (cutM l (leastM l P)).length ≤ 2000) :
    pvB (leastM l P) (cutM l (leastM l P)) = true ∧ ∀ x, hasP (leastM l P, cutM l (leastM l P)) x = hasP (P, l) x := by
  have hP : 1 ≤ P := hg.pos
  obtain ⟨h1, h2, h3, h4, h5⟩ := least_prop (l := l) hP
  obtain ⟨b, hb⟩ : ∃ b, leastM l P = b := ⟨_, rfl⟩
  rw [hb] at h1 h2 h3 h4 h5 hl ⊢
  obtain ⟨g1, g2⟩ := cut_has hg h2 h3 h4 h1
  refine ⟨?_, g2⟩
  obtain ⟨k1, k2, k3, k4, k5⟩ := least_prop (l := cutM l b) h2
  obtain ⟨c, hc⟩ : ∃ c, leastM (cutM l b) b = c := ⟨_, rfl⟩
  have hcb : leastM (cutM l b) b = b := by
    rw [hc] at k1 k2 k3 k4 k5 ⊢
    rcases k1 with h | h
    · exact h
    · have hp := (rep_iff (p := (b, cutM l b)) g1 k2 k3).1 h
      have hp2 : ∀ z, hasP (P, l) (z + c) = hasP (P, l) z := fun z => by rw [← g2, ← g2]; exact hp z
      have hdvd : c ∣ P := Int.dvd_trans (Int.dvd_of_emod_eq_zero k4) (Int.dvd_of_emod_eq_zero h4)
      have := h5 c k2 (Int.emod_eq_zero_of_dvd hdvd) ((rep_iff (p := (P, l)) hg k2 (by simp only; omega)).2 hp2)
      omega
  unfold pvB
  rw [hcb, insB_of g1.canon g1.ins (by omega) hl]
  simp
  omega
end Wk
end Go.Proofs.YtnjpceocnldlfaaGreat
namespace Go.Proofs.YtnjpceocnldlfaaGreat
namespace Wk

theorem perM_good {m : Int} {h : Int → Bool} (hm : 1 ≤ m) (hp : ∀ x k : Int, h (x + k * m) = h x) : GoodP (m, memF h 0 m.toNat) ∧ ∀ x, hasP (m, memF h 0 m.toNat) x = h x := by
  have hr := memF_runs h 0 m.toNat
  rw [show (0 : Int) + (m.toNat : Int) = m by omega] at hr
  refine ⟨⟨hm, hr.can, fun s hs => hr.ins s hs⟩, fun x => ?_⟩
  have hx := mod_lo x hm
  unfold hasP
  simp only
  rw [runs_in hr hx.1 hx.2]
  have := hp x (-(x / m))
  rw [Int.neg_mul] at this
  exact this
theorem perM_ok {m : Int} {h : Int → Bool} (hm : 1 ≤ m) (hm2 : m ≤ 12622780800) (hp : ∀ x k : Int, h (x + k * m) = h x) (he : (perM m h).2 = 0) :
    pvB (perM m h).1.1 (perM m h).1.2 = true ∧ ∀ x, hasP (perM m h).1 x = h x := by
  obtain ⟨g1, g2⟩ := perM_good hm hp
  unfold perM at he ⊢
  split at he
  · simp at he
  · rename_i hl
    rw [if_neg hl]
    obtain ⟨f1, f2⟩ := least_form g1 hm2 (by omega)
    exact ⟨f1, fun x => by rw [f2, g2]⟩
theorem pair_lcm {P Q : Int} {la lb : Nat} (hP : 1 ≤ P) (hQ : 1 ≤ Q) (he : (pairR P la Q lb).2 = 0) : (pairR P la Q lb).1 = mulM P Q ∧ 1 ≤ mulM P Q ∧ mulM P Q ≤ 12622780800 ∧ mulM P Q / P * la + mulM P Q / Q * lb ≤ 2000 := by
  have hb := mulM_bd hP hQ
  unfold pairR at he ⊢
  split at he
  · simp at he
  · split at he
    · simp at he
    · rename_i h1 h2
      rw [if_neg h1, if_neg h2]
      exact ⟨rfl, hb.2.2, by omega, by omega⟩
theorem bothM_ok {kind : Int} {p q : Per} (he : (bothM kind p q).2 = 0) :
    pvB p.1 p.2 = true ∧ pvB q.1 q.2 = true ∧ pvB (bothM kind p q).1.1 (bothM kind p q).1.2 = true ∧ ∀ x, hasP (bothM kind p q).1 x = ruleB kind (hasP p x) (hasP q x) := by
  unfold bothM at he ⊢
  split at he
  · simp at he
  · rename_i hv
    have hv1 : pvB p.1 p.2 = true := by
      cases h : pvB p.1 p.2 with
      | true => rfl
      | false => exact absurd (.inl h) hv
    have hv2 : pvB q.1 q.2 = true := by
      cases h : pvB q.1 q.2 with
      | true => rfl
      | false => exact absurd (.inr h) hv
    split at he
    · rename_i h2; exact absurd he h2
    · rename_i h2
      have hP := (rvB_of_pvB hv1).2.1
      have hQ := (rvB_of_pvB hv2).2.1
      obtain ⟨e1, e2, e3, _⟩ := pair_lcm hP hQ (by simpa using h2)
      rw [if_neg hv, if_neg h2]
      rw [e1] at he ⊢
      refine ⟨hv1, hv2, perM_ok e2 e3 (fun x k => ?_) he⟩
      obtain ⟨c, hc⟩ := mulM_left (P := p.1) (Q := q.1)
      obtain ⟨d, hd⟩ := mulM_right (P := p.1) (Q := q.1)
      have a1 := hasP_period p hP x (k * c)
      have a2 := hasP_period q hQ x (k * d)
      rw [Int.mul_assoc, ← hc] at a1
      rw [Int.mul_assoc, ← hd] at a2
      rw [a1, a2]
end Wk
end Go.Proofs.YtnjpceocnldlfaaGreat
namespace Go.Proofs.YtnjpceocnldlfaaGreat
namespace Wk

theorem MSt.run {R : Bool → Bool → Bool} (hR : R false false = false) {a b : List Sp} (ha : Canon a) (hb : Canon b) (ba : Bnd a) (bb : Bnd b) : ∀ (n : Nat) {p : Int} {i k : Nat} {ins : Bool} {fr : Int} {L : List Sp}, 2 * a.length + 2 * b.length ≤ n + (i + k) → i ≤ 2 * a.length → k ≤ 2 * b.length → MSt R a b p i k ins fr L →
    ∃ L', Canon L' ∧ (∀ x, inL L' x = R (inL a x) (inL b x)) ∧ L'.length ≤ a.length + b.length
  | 0, p, i, k, ins, fr, L, hn, hi, hk, h => by
    obtain ⟨h1, h2, h3⟩ := h.done hR (by omega) (by omega)
    have := h.len
    exact ⟨L, h2, h3, by omega⟩
  | n + 1, p, i, k, ins, fr, L, hn, hi, hk, h => by
    by_cases hd : i = 2 * a.length ∧ k = 2 * b.length
    · obtain ⟨h1, h2, h3⟩ := h.done hR hd.1 hd.2
      have := h.len
      exact ⟨L, h2, h3, by omega⟩
    · have hik : i < 2 * a.length ∨ k < 2 * b.length := by omega
      obtain ⟨x, hx⟩ : ∃ x, endX a i = x := ⟨_, rfl⟩
      obtain ⟨y, hy⟩ : ∃ y, endX b k = y := ⟨_, rfl⟩
      obtain ⟨at', hat⟩ : ∃ z, min x y = z := ⟨_, rfl⟩
      obtain ⟨i', hi'⟩ : ∃ i', (x = at' → i' = i + 1) ∧ (x ≠ at' → i' = i) := by
        by_cases e : x = at'
        · exact ⟨i + 1, fun _ => rfl, fun hh => absurd e hh⟩
        · exact ⟨i, fun hh => absurd hh e, fun _ => rfl⟩
      obtain ⟨k', hk'⟩ : ∃ k', (y = at' → k' = k + 1) ∧ (y ≠ at' → k' = k) := by
        by_cases e : y = at'
        · exact ⟨k + 1, fun _ => rfl, fun hh => absurd e hh⟩
        · exact ⟨k, fun hh => absurd hh e, fun _ => rfl⟩
      obtain ⟨g1, g2, g3, g4, _, _⟩ := h.go ha hb ba bb hik hx hy hat hi' hk' rfl
      exact MSt.run hR ha hb ba bb n (by omega) g2 g3 g1
theorem mix_len {kind : Int} {a b : List Sp} (ha : Canon a) (hb : Canon b) (ba : Bnd a) (bb : Bnd b) : (mixM kind a b).length ≤ a.length + b.length := by
  obtain ⟨p, hp⟩ := MSt.start (R := ruleB kind) (rule_ff _) ha hb 0
  obtain ⟨L, h1, h2, h3⟩ := hp.run (rule_ff _) ha hb ba bb (2 * a.length + 2 * b.length) (by omega) (by omega) (by omega)
  rw [← mix_of ba bb h1 h2]
  exact h3
theorem rvB_of {l : List Sp} (hc : Canon l) (hb : Bnd l) (hl : l.length ≤ 2000) : rvB l = true := by
  rw [rvB_iff]
  refine ⟨hl, fun i hi => ?_⟩
  have h1 := hb _ (idx_mem hi)
  unfold okAt
  rw [Bool.and_eq_true]
  refine ⟨(ivB_iff _).2 ⟨h1.1, h1.2.1, h1.2.2⟩, ?_⟩
  by_cases h0 : i = 0
  · subst h0; simp
  · have := canon_lt hc (i := i - 1) (j := i) (by omega) hi
    rw [Bool.or_eq_true, decide_eq_true_eq]
    exact .inr this.1
theorem memF_can (h : Int → Bool) (f : Int) (n : Nat) : Canon (memF h f n) ∧ ∀ s ∈ memF h f n, f ≤ s.1 ∧ s.2 ≤ f + (n : Int) := by
  have hr := memF_runs h f n
  exact ⟨hr.can, hr.ins⟩
theorem memF_bnd {h : Int → Bool} {f t : Int} (hft : f ≤ t) (h1 : -4398046511104 ≤ f) (h2 : t ≤ 4398046511104) : Bnd (memF h f (t - f).toNat) := fun s hs => by
  obtain ⟨hc, hi⟩ := memF_can h f (t - f).toNat
  have a := hi s hs
  have b := canon_pos hc s hs
  omega
theorem comb_lists {kind : Int} {ga gb : Int → Bool} {f t : Int} (hft : f ≤ t) (h1 : -4398046511104 ≤ f) (h2 : t ≤ 4398046511104) (hl : (memF ga f (t - f).toNat).length + (memF gb f (t - f).toNat).length ≤ 2000) :
    rcM kind (memF ga f (t - f).toNat) (memF gb f (t - f).toNat) = (memF (fun x => ruleB kind (ga x) (gb x)) f (t - f).toNat, 0) ∧ (memF (fun x => ruleB kind (ga x) (gb x)) f (t - f).toNat).length ≤ 2000 := by
  have ca := (memF_can ga f (t - f).toNat).1
  have cb := (memF_can gb f (t - f).toNat).1
  have ba := memF_bnd (h := ga) hft h1 h2
  have bb := memF_bnd (h := gb) hft h1 h2
  have hlen := mix_len (kind := kind) ca cb ba bb
  obtain ⟨p, hp⟩ := MSt.start (R := ruleB kind) (rule_ff _) ca cb 0
  obtain ⟨L, l1, l2, _⟩ := hp.run (rule_ff _) ca cb ba bb _ (Nat.le_add_right _ _) (by omega) (by omega)
  have e1 := mix_of ba bb l1 l2
  have e2 := memF_rule (kind := kind) (a := ga) (b := gb) hft l1 l2
  rw [← e1] at hlen
  rw [← e2]
  unfold rcM
  rw [if_neg (by rw [rvB_of ca ba (by omega), rvB_of cb bb (by omega)]; simp), ← e1]
  unfold dnM
  rw [if_neg (by omega)]
  exact ⟨rfl, by omega⟩
theorem comb_bad {kind : Int} {a b : St} (h : VB a = false ∨ VB b = false) : combM kind a b = (noSt, 1) := by
  unfold combM; rw [if_pos h]
theorem comb_left {kind e : Int} {a b : St} (h1 : VB a = true) (h2 : VB b = true) (he : (bothM kind a.lf b.lf).2 = e) (h0 : e ≠ 0) : combM kind a b = (noSt, e) := by
  unfold combM; rw [if_neg (by rw [h1, h2]; simp), if_pos (by rw [he]; exact h0), he]
theorem comb_right {kind e : Int} {a b : St} (h1 : VB a = true) (h2 : VB b = true) (hl : (bothM kind a.lf b.lf).2 = 0) (he : (bothM kind a.rt b.rt).2 = e) (h0 : e ≠ 0) : combM kind a b = (noSt, e) := by
  unfold combM; rw [if_neg (by rw [h1, h2]; simp), if_neg (by rw [hl]; simp), if_pos (by rw [he]; exact h0), he]
theorem comb_pair {kind e : Int} {p q : Per} {a b : St} (h1 : VB a = true) (h2 : VB b = true) (hl : bothM kind a.lf b.lf = (p, 0)) (hr : bothM kind a.rt b.rt = (q, 0)) (he : pairM p.1 p.2 q.1 q.2 = e) (h0 : e ≠ 0) : combM kind a b = (noSt, e) := by
  unfold combM; rw [if_neg (by rw [h1, h2]; simp), if_neg (by rw [hl]; simp), if_neg (by rw [hr]; simp), hl, hr]
  simp only
  rw [if_pos (by rw [he]; exact h0), he]
theorem comb_full {kind f t : Int} {p q : Per} {a b : St} (h1 : VB a = true) (h2 : VB b = true) (hl : bothM kind a.lf b.lf = (p, 0)) (hr : bothM kind a.rt b.rt = (q, 0)) (he : pairM p.1 p.2 q.1 q.2 = 0) (hf : winL a b = f) (ht : winR a b = t)
    (h5 : 2000 < (memF (hasS a) f (t - f).toNat).length + (memF (hasS b) f (t - f).toNat).length) : combM kind a b = (noSt, 5) := by
  unfold combM; rw [if_neg (by rw [h1, h2]; simp), if_neg (by rw [hl]; simp), if_neg (by rw [hr]; simp), hl, hr, hf, ht]
  simp only
  rw [if_neg (by rw [he]; simp), if_pos h5]
theorem comb_form {kind f t : Int} {p q : Per} {a b : St} (h1 : VB a = true) (h2 : VB b = true) (hl : bothM kind a.lf b.lf = (p, 0)) (hr : bothM kind a.rt b.rt = (q, 0)) (he : pairM p.1 p.2 q.1 q.2 = 0) (hf : winL a b = f) (ht : winR a b = t)
    (h5 : ¬ 2000 < (memF (hasS a) f (t - f).toNat).length + (memF (hasS b) f (t - f).toNat).length) : combM kind a b = formF ⟨p, q, f, t, memF (fun x => ruleB kind (hasS a x) (hasS b x)) f (t - f).toNat⟩ := by
  unfold combM; rw [if_neg (by rw [h1, h2]; simp), if_neg (by rw [hl]; simp), if_neg (by rw [hr]; simp), hl, hr, hf, ht]
  simp only
  rw [if_neg (by rw [he]; simp), if_neg h5]
theorem cwin_ok {a b : St} (ha : OkS a) (hb : OkS b) : winL a b ≤ winR a b ∧ -4398046511104 ≤ winL a b ∧ winR a b ≤ 4398046511104 := by
  have a1 := ha.f1; have a2 := ha.ft; have a3 := ha.t1
  have b1 := hb.f1; have b2 := hb.ft; have b3 := hb.t1
  unfold winL winR
  split
  · omega
  · split <;> omega
theorem comb_ok {p q : Per} {h : Int → Bool} {f t : Int} (hp : pvB p.1 p.2 = true) (hq : pvB q.1 q.2 = true) (hft : f ≤ t) (h1 : -4398046511104 ≤ f) (h2 : t ≤ 4398046511104) (hl : (memF h f (t - f).toNat).length ≤ 2000) : OkS ⟨p, q, f, t, memF h f (t - f).toNat⟩ := by
  obtain ⟨hc, hi⟩ := memF_can h f (t - f).toNat
  exact ⟨hp, hq, rvB_of hc (memF_bnd hft h1 h2) hl, h1, hft, h2, fun s hs => by have := hi s hs; simp only; omega⟩
end Wk
end Go.Proofs.YtnjpceocnldlfaaGreat
namespace Go.Proofs.YtnjpceocnldlfaaGreat
namespace Wk
theorem form_pure {p : Per} (h : pvB p.1 p.2 = true) : formF (pureF p) = (pureF p, 0) := by
  have he : earlyB (pureF p) = true := by
    unfold earlyB pureF
    simp only [ak_pe h]
    rfl
  exact form_early (ak_pair h) he
theorem VB_pure {p : Per} (h : pvB p.1 p.2 = true) : VB (pureF p) = true := ak_VB h h rfl (form_pure h)
end Wk
end Go.Proofs.YtnjpceocnldlfaaGreat
