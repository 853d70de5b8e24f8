/- The laws of working time, about the mirrors. No conditions. -/
import Derived.Test.YtkfonfheakpcbaaGreatWkPlainF
namespace Go.Proofs.YtkfonfheakpcbaaGreat
namespace Wk

theorem AtPot.next {s : St} (h : GoodS s) {x g : Int} (hx : AtPot s x g) : potS s (x + 1) = g + 1 := by
  have := potS_steps h x
  rw [hx.1, b2i_true, hx.2] at this
  exact this
theorem AtPot.uniq {s : St} (h : GoodS s) {x y g : Int} (hx : AtPot s x g) (hy : AtPot s y g) : x = y :=
  (potS_steps h).uniq hx.1 hy.1 (by rw [hx.2, hy.2])
theorem cnt_same (s : St) (t : Int) : cnt s t t = 0 := by unfold cnt; rw [if_neg (by omega), if_neg (by omega), if_neg (by omega)]; omega

theorem addM_no {s : St} (h : GoodS s) {t n : Int} (ht : t ≤ 4398046511104) (hn : n ≠ 0) (hc : potS s 4398046511104 - potS s t < n) : addM s t n = (0, 7) := by
  unfold addM
  rw [if_neg hn, if_pos (by rw [cnt_pot s h.ft _ _ ht]; exact hc)]
theorem addM_yes {s : St} (h : GoodS s) {t n : Int} (ht : t ≤ 4398046511104) (hn : 0 < n) (hc : n ≤ potS s 4398046511104 - potS s t) :
    addM s t n = (addLf s t n, 0) ∧ AtPot s (addLf s t n - 1) (potS s t + n - 1) ∧ potS s (addLf s t n) = potS s t + n ∧ t < addLf s t n ∧ addLf s t n ≤ 4398046511104 := by
  have hp := addLf_spec h hn hc
  have hnx := hp.next h
  rw [show addLf s t n - 1 + 1 = addLf s t n by omega] at hnx
  refine ⟨?_, hp, by omega, ?_, ?_⟩
  · unfold addM
    rw [if_neg (by omega), if_neg (by rw [cnt_pot s h.ft _ _ ht]; omega)]
  · exact (potS_steps h).lt_of (by omega)
  · have : addLf s t n - 1 < 4398046511104 := (potS_steps h).lt_of (by rw [hp.2]; omega)
    omega
theorem addM_zero (s : St) (t : Int) : addM s t 0 = (t, 0) := by unfold addM; rw [if_pos rfl]

/-- what adding answers, in one -/
theorem addM_ok {s : St} (h : GoodS s) {t n u : Int} (ht : t ≤ 4398046511104) (h0 : 0 ≤ n) (he : addM s t n = (u, 0)) :
    potS s u = potS s t + n ∧ t ≤ u ∧ u ≤ 4398046511104 ∧ (n = 0 → u = t) ∧ (t < u → 0 < n ∧ AtPot s (u - 1) (potS s t + n - 1)) := by
  rcases Int.lt_or_eq_of_le h0 with hn | hn
  · by_cases hc : n ≤ potS s 4398046511104 - potS s t
    · obtain ⟨e, a1, a2, a3, a4⟩ := addM_yes h ht hn hc
      rw [e] at he
      obtain rfl : addLf s t n = u := congrArg Prod.fst he
      exact ⟨a2, by omega, a4, by omega, fun _ => ⟨hn, a1⟩⟩
    · rw [addM_no h ht (by omega) (by omega)] at he
      exact absurd (congrArg Prod.snd he) (by simp)
  · subst hn
    rw [addM_zero] at he
    obtain rfl : t = u := congrArg Prod.fst he
    exact ⟨by omega, by omega, ht, fun _ => rfl, fun hh => by omega⟩
theorem addM_err {s : St} {t n : Int} (he : (addM s t n).2 ≠ 0) : addM s t n = (0, 7) := by
  unfold addM at he ⊢
  split
  · rename_i h1; rw [if_pos h1] at he; exact absurd rfl he
  · split
    · rfl
    · rename_i h1 h2; rw [if_neg h1, if_neg h2] at he; exact absurd rfl he

theorem subM_no {s : St} (h : GoodS s) {t n : Int} (ht : -4398046511104 ≤ t) (hn : n ≠ 0) (hc : potS s t - potS s (-4398046511104) < n) : subM s t n = (0, 7) := by
  unfold subM
  rw [if_neg hn, if_pos (by rw [cnt_pot s h.ft _ _ ht]; exact hc)]
theorem subM_yes {s : St} (h : GoodS s) {t n : Int} (ht : -4398046511104 ≤ t) (hn : 0 < n) (hc : n ≤ potS s t - potS s (-4398046511104)) :
    subM s t n = (subRt s t n, 0) ∧ AtPot s (subRt s t n) (potS s t - n) ∧ subRt s t n < t ∧ -4398046511104 ≤ subRt s t n := by
  have hp := subRt_spec h hn hc
  refine ⟨?_, hp, ?_, ?_⟩
  · unfold subM
    rw [if_neg (by omega), if_neg (by rw [cnt_pot s h.ft _ _ ht]; omega)]
  · exact (potS_steps h).lt_of (by rw [hp.2]; omega)
  · exact (potS_steps h).le_of hp.1 (by rw [hp.2]; omega)
theorem subM_zero (s : St) (t : Int) : subM s t 0 = (t, 0) := by unfold subM; rw [if_pos rfl]
theorem subM_ok {s : St} (h : GoodS s) {t n v : Int} (ht : -4398046511104 ≤ t) (h0 : 0 ≤ n) (he : subM s t n = (v, 0)) :
    potS s v = potS s t - n ∧ v ≤ t ∧ -4398046511104 ≤ v ∧ (n = 0 → v = t) ∧ (v < t → 0 < n ∧ AtPot s v (potS s t - n)) := by
  rcases Int.lt_or_eq_of_le h0 with hn | hn
  · by_cases hc : n ≤ potS s t - potS s (-4398046511104)
    · obtain ⟨e, a1, a2, a3⟩ := subM_yes h ht hn hc
      rw [e] at he
      obtain rfl : subRt s t n = v := congrArg Prod.fst he
      exact ⟨a1.2, by omega, a3, by omega, fun _ => ⟨hn, a1⟩⟩
    · rw [subM_no h ht (by omega) (by omega)] at he
      exact absurd (congrArg Prod.snd he) (by simp)
  · subst hn
    rw [subM_zero] at he
    obtain rfl : t = v := congrArg Prod.fst he
    exact ⟨by omega, by omega, ht, fun _ => rfl, fun hh => by omega⟩

/-! ## the exported functions -/
def amountB (n : Int) : Bool := decide (0 ≤ n) && decide (n ≤ 8796093022208)
def faultM (b : Bool) (t : Int) : Int := if b = false then 1 else if lineB t = false then 2 else 0
def AddM (b : Bool) (s : St) (t n : Int) : Int × Int := if faultM b t ≠ 0 then (0, faultM b t) else if amountB n = false then (0, 2) else addM s t n
def SubM (b : Bool) (s : St) (t n : Int) : Int × Int := if faultM b t ≠ 0 then (0, faultM b t) else if amountB n = false then (0, 2) else subM s t n
def MeaM (b : Bool) (s : St) (x y : Int) : Int × Int := if faultM b x ≠ 0 then (0, faultM b x) else if lineB y = false then (0, 2) else if y < x then (-cnt s y x, 0) else (cnt s x y, 0)
/-- when work begins that comes in at t -/
def cutT0 (t cut : Int) : Int := if cut ≤ t - t / 86400 * 86400 then (t / 86400 + 1) * 86400 else t
def DlM (b : Bool) (s : St) (t n cut : Int) : Int × Int :=
  if faultM b t ≠ 0 then (0, faultM b t) else if amountB n = false ∨ cut < 0 ∨ 86400 < cut then (0, 2) else if lineB (cutT0 t cut) = false then (0, 2) else addM s (cutT0 t cut) n

theorem fault_ok {b : Bool} {t : Int} (hb : b = true) (ht : lineB t = true) : faultM b t = 0 := by unfold faultM; rw [hb, ht]; rfl
theorem fault_iff {b : Bool} {t : Int} : faultM b t = 0 ↔ b = true ∧ lineB t = true := by
  unfold faultM; cases b <;> cases lineB t <;> simp
theorem MeaM_ok {b : Bool} {s : St} (h : GoodS s) {x y : Int} (hb : b = true) (hx : lineB x = true) (hy : lineB y = true) : MeaM b s x y = (potS s y - potS s x, 0) := by
  unfold MeaM
  rw [fault_ok hb hx, if_neg (by simp), hy, if_neg (by simp)]
  split
  · rw [cnt_pot s h.ft _ _ (by omega)]
    rw [Prod.mk.injEq]; exact ⟨by omega, rfl⟩
  · rw [cnt_pot s h.ft _ _ (by omega)]
theorem AddM_ok {b : Bool} {s : St} {t n u : Int} (he : AddM b s t n = (u, 0)) : b = true ∧ lineB t = true ∧ 0 ≤ n ∧ n ≤ 8796093022208 ∧ addM s t n = (u, 0) := by
  unfold AddM at he
  split at he
  · rename_i h; exact absurd (congrArg Prod.snd he) h
  · rename_i h
    have hf : b = true ∧ lineB t = true := fault_iff.1 (by simpa using h)
    split at he
    · exact absurd (congrArg Prod.snd he) (by simp)
    · rename_i h2
      have h3 : amountB n = true := by simpa using h2
      unfold amountB at h3
      simp only [Bool.and_eq_true, decide_eq_true_eq] at h3
      exact ⟨hf.1, hf.2, h3.1, h3.2, he⟩
theorem SubM_ok {b : Bool} {s : St} {t n u : Int} (he : SubM b s t n = (u, 0)) : b = true ∧ lineB t = true ∧ 0 ≤ n ∧ n ≤ 8796093022208 ∧ subM s t n = (u, 0) := by
  unfold SubM at he
  split at he
  · rename_i h; exact absurd (congrArg Prod.snd he) h
  · rename_i h
    have hf : b = true ∧ lineB t = true := fault_iff.1 (by simpa using h)
    split at he
    · exact absurd (congrArg Prod.snd he) (by simp)
    · rename_i h2
      have h3 : amountB n = true := by simpa using h2
      unfold amountB at h3
      simp only [Bool.and_eq_true, decide_eq_true_eq] at h3
      exact ⟨hf.1, hf.2, h3.1, h3.2, he⟩
theorem AddM_eq {b : Bool} {s : St} {t n : Int} (hb : b = true) (ht : lineB t = true) (h0 : 0 ≤ n) (h1 : n ≤ 8796093022208) : AddM b s t n = addM s t n := by
  unfold AddM
  rw [fault_ok hb ht, if_neg (by simp), show amountB n = true by unfold amountB; rw [decide_eq_true h0, decide_eq_true h1]; rfl, if_neg (by simp)]
theorem SubM_eq {b : Bool} {s : St} {t n : Int} (hb : b = true) (ht : lineB t = true) (h0 : 0 ≤ n) (h1 : n ≤ 8796093022208) : SubM b s t n = subM s t n := by
  unfold SubM
  rw [fault_ok hb ht, if_neg (by simp), show amountB n = true by unfold amountB; rw [decide_eq_true h0, decide_eq_true h1]; rfl, if_neg (by simp)]
theorem AddM_err {b : Bool} {s : St} {t n : Int} (he : (AddM b s t n).2 ≠ 0) : (AddM b s t n).1 = 0 := by
  unfold AddM at he ⊢
  split
  · rfl
  · rename_i h
    rw [if_neg h] at he
    split
    · rfl
    · rename_i h2
      rw [if_neg h2] at he
      rw [addM_err he]

/-! ## adding reaches the amount -/
theorem reach_add {b : Bool} {s : St} (hb : b = true → GoodS s) {t n u : Int} (he : AddM b s t n = (u, 0)) :
    MeaM b s t u = (n, 0) ∧ t ≤ u ∧ (t < u → MeaM b s t (u - 1) = (n - 1, 0) ∧ hasS s (u - 1) = true) ∧ b = true ∧ -4398046511104 ≤ u ∧ u ≤ 4398046511104 := by
  obtain ⟨e1, e2, e3, e4, e5⟩ := AddM_ok he
  have h := hb e1
  have ht := (lineB_iff t).1 e2
  obtain ⟨a1, a2, a3, a4, a5⟩ := addM_ok h ht.2 e3 e5
  refine ⟨?_, a2, fun hlt => ?_, e1, by omega, a3⟩
  · rw [MeaM_ok h e1 e2 ((lineB_iff u).2 (by omega)), Prod.mk.injEq]; exact ⟨by omega, rfl⟩
  · obtain ⟨b1, b2⟩ := a5 hlt
    refine ⟨?_, b2.1⟩
    rw [MeaM_ok h e1 e2 ((lineB_iff (u - 1)).2 (by omega)), Prod.mk.injEq, b2.2]; exact ⟨by omega, rfl⟩
theorem reach_sub {b : Bool} {s : St} (hb : b = true → GoodS s) {t n v : Int} (he : SubM b s t n = (v, 0)) :
    MeaM b s v t = (n, 0) ∧ v ≤ t ∧ (v < t → MeaM b s (v + 1) t = (n - 1, 0) ∧ hasS s v = true) ∧ b = true ∧ -4398046511104 ≤ v ∧ v ≤ 4398046511104 := by
  obtain ⟨e1, e2, e3, e4, e5⟩ := SubM_ok he
  have h := hb e1
  have ht := (lineB_iff t).1 e2
  obtain ⟨a1, a2, a3, a4, a5⟩ := subM_ok h ht.1 e3 e5
  refine ⟨?_, a2, fun hlt => ?_, e1, a3, by omega⟩
  · rw [MeaM_ok h e1 ((lineB_iff v).2 (by omega)) e2, Prod.mk.injEq]; exact ⟨by omega, rfl⟩
  · obtain ⟨b1, b2⟩ := a5 hlt
    have := b2.next h
    refine ⟨?_, b2.1⟩
    rw [MeaM_ok h e1 ((lineB_iff (v + 1)).2 (by omega)) e2, Prod.mk.injEq]; exact ⟨by omega, rfl⟩

/-! ## what was added can be subtracted -/
theorem undone {b : Bool} {s : St} (hb : b = true → GoodS s) {t n m u : Int} (hm : 0 ≤ m) (hm2 : m ≤ 1099511627776) (hn : n ≤ 1099511627776) (he : AddM b s t n = (u, 0)) :
    ∃ back, SubM b s u n = (back, 0) ∧ MeaM b s t back = (0, 0) ∧ t ≤ back ∧ (AddM b s u m).2 = (AddM b s t (n + m)).2 ∧ (m ≠ 0 → (AddM b s u m).1 = (AddM b s t (n + m)).1) := by
  obtain ⟨e1, e2, e3, e4, e5⟩ := AddM_ok he
  have h := hb e1
  have ht := (lineB_iff t).1 e2
  obtain ⟨a1, a2, a3, a4, a5⟩ := addM_ok h ht.2 e3 e5
  have hlu : lineB u = true := (lineB_iff u).2 (by omega)
  have mon := (potS_steps h).mono (-4398046511104) t ht.1
  have hback : ∃ back, subM s u n = (back, 0) ∧ potS s back = potS s t ∧ t ≤ back ∧ back ≤ u := by
    rcases Int.lt_or_eq_of_le e3 with hn0 | hn0
    · obtain ⟨c1, c2, c3, c4⟩ := subM_yes h (t := u) (n := n) (by omega) hn0 (by omega)
      have c5 : potS s (subRt s u n) = potS s t := by rw [c2.2]; omega
      exact ⟨_, c1, c5, (potS_steps h).le_of c2.1 (by omega), by omega⟩
    · obtain rfl : u = t := a4 hn0.symm
      rw [← hn0, subM_zero]
      exact ⟨_, rfl, rfl, Int.le_refl _, Int.le_refl _⟩
  obtain ⟨back, b1, b2, b3, b4⟩ := hback
  refine ⟨back, by rw [SubM_eq e1 hlu e3 e4]; exact b1, ?_, b3, ?_⟩
  · rw [MeaM_ok h e1 e2 ((lineB_iff back).2 (by omega)), Prod.mk.injEq]; exact ⟨by omega, rfl⟩
  · rw [AddM_eq e1 hlu hm (by omega), AddM_eq e1 e2 (by omega) (by omega)]
    rcases Int.lt_or_eq_of_le hm with hm0 | hm0
    · by_cases hc : n + m ≤ potS s 4398046511104 - potS s t
      · obtain ⟨c1, c2, _⟩ := addM_yes h (t := u) (n := m) a3 hm0 (by omega)
        obtain ⟨d1, d2, _⟩ := addM_yes h (t := t) (n := n + m) ht.2 (by omega) hc
        rw [c1, d1]
        refine ⟨rfl, fun _ => ?_⟩
        rw [show potS s u + m - 1 = potS s t + (n + m) - 1 by omega] at c2
        have := c2.uniq h d2
        show addLf s u m = addLf s t (n + m)
        omega
      · rw [addM_no h a3 (by omega) (by omega), addM_no h ht.2 (by omega) (by omega)]
        exact ⟨rfl, fun _ => rfl⟩
    · subst hm0
      rw [addM_zero, Int.add_zero, e5]
      exact ⟨rfl, fun hh => absurd rfl hh⟩

/-! ## the cut -/
theorem cut_same {b : Bool} {s : St} {t n cut : Int} (ht : lineB t = true) (h0 : 0 ≤ cut) (h1 : cut ≤ 86400) : DlM b s t n cut = AddM b s (cutT0 t cut) n := by
  unfold DlM AddM
  cases hb : b with
  | false => rfl
  | true =>
    rw [fault_ok rfl ht, if_neg (by simp)]
    cases ha : amountB n with
    | false =>
      rw [if_pos (.inl rfl)]
      unfold faultM
      cases lineB (cutT0 t cut) <;> rfl
    | true =>
      rw [if_neg (by simp; omega)]
      unfold faultM
      cases lineB (cutT0 t cut) <;> rfl
theorem cutT0_full (t : Int) : cutT0 t 86400 = t := by
  unfold cutT0
  rw [if_neg (by omega)]
theorem cut_full {b : Bool} {s : St} {t n : Int} (ht : lineB t = true) : DlM b s t n 86400 = AddM b s t n := by
  rw [cut_same ht (by omega) (by omega), cutT0_full]

/-! ## shares -/
def partM (k m n : Int) : Int := m / n * k + m % n * k / n
theorem partM_eq (k m n : Int) (hn : 0 < n) : partM k m n = k * m / n := by
  unfold partM
  have e : k * m = m % n * k + m / n * k * n := by
    have := Int.mul_ediv_add_emod m n
    have e1 : m / n * k * n = n * (m / n) * k := by rw [Int.mul_comm (m / n * k) n, ← Int.mul_assoc]
    rw [e1, ← Int.add_mul, show m % n + n * (m / n) = m by omega, Int.mul_comm]
  rw [e, Int.add_mul_ediv_right _ _ (by omega), Int.add_comm]
theorem partM_step (k m n : Int) (hn : 0 < n) : m / n ≤ partM (k + 1) m n - partM k m n ∧ partM (k + 1) m n - partM k m n ≤ m / n + 1 := by
  unfold partM
  have h1 := Int.emod_nonneg m (b := n) (by omega)
  have h2 := Int.emod_lt_of_pos m hn
  have e1 : m / n * (k + 1) = m / n * k + m / n := by rw [Int.mul_add]; omega
  have e2 : m % n * (k + 1) = m % n * k + m % n := by rw [Int.mul_add]; omega
  rw [e1, e2]
  have h3 : m % n * k / n ≤ (m % n * k + m % n) / n := Int.ediv_le_ediv hn (by omega)
  have h4 : (m % n * k + m % n) / n ≤ (m % n * k + 1 * n) / n := Int.ediv_le_ediv hn (by omega)
  rw [Int.add_mul_ediv_right _ _ (by omega)] at h4
  omega
theorem partM_zero (m n : Int) : partM 0 m n = 0 := by unfold partM; simp
theorem partM_full (m n : Int) (hn : 0 < n) : partM n m n = m := by
  rw [partM_eq _ _ _ hn, Int.mul_comm, Int.mul_ediv_cancel _ (by omega)]
theorem partM_mono (m n : Int) (hn : 0 < n) (hm : n ≤ m) : ∀ (i : Nat) (k : Int), partM k m n + i ≤ partM (k + i) m n
  | 0, k => by simp
  | i + 1, k => by
    have ih := partM_mono m n hn hm i k
    have := partM_step (k + i) m n hn
    have h1 : 1 ≤ m / n := (Int.le_ediv_iff_mul_le hn).2 (by omega)
    rw [show k + ((i + 1 : Nat) : Int) = k + i + 1 by omega]
    omega

/-- the bounds of the parts -/
def bndM (s : St) (f t : Int) (n : Nat) (k : Nat) : Int := if k = 0 then f else if k < n then (addM s f (partM k (cnt s f t) n)).1 else t
def shareL (s : St) (f t : Int) (n : Nat) (k : Nat) : List Sp := (List.range k).map fun i => (bndM s f t n i, bndM s f t n (i + 1))
theorem bnd_pot {s : St} (h : GoodS s) {f t : Int} (hf : -4398046511104 ≤ f) (hft : f < t) (ht : t ≤ 4398046511104) {n : Nat} (hn : 1 ≤ n) (hm : (n : Int) ≤ cnt s f t) {k : Nat} (hk : k ≤ n) :
    potS s (bndM s f t n k) = potS s f + partM k (cnt s f t) n ∧ f ≤ bndM s f t n k ∧ bndM s f t n k ≤ t ∧ (0 < k → k < n → (addM s f (partM k (cnt s f t) n)).2 = 0) := by
  have hc := cnt_pot s h.ft f t (by omega)
  obtain ⟨m, hme⟩ : ∃ m, cnt s f t = m := ⟨_, rfl⟩
  unfold bndM
  rw [hme] at hm hc ⊢
  have hn0 : (0 : Int) < n := by omega
  by_cases h0 : k = 0
  · subst h0
    rw [if_pos rfl]
    refine ⟨?_, Int.le_refl _, by omega, fun hh => by omega⟩
    have : partM ((0 : Nat) : Int) m n = 0 := partM_zero m n
    rw [this]; omega
  · rw [if_neg h0]
    by_cases h1 : k < n
    · rw [if_pos h1]
      have p1 := partM_mono m n hn0 hm k 0
      rw [partM_zero, Int.zero_add] at p1
      have p2 := partM_mono m n hn0 hm (n - k) k
      rw [show (k : Int) + ((n - k : Nat) : Int) = n by omega, partM_full _ _ hn0] at p2
      have mon := (potS_steps h).mono t 4398046511104 ht
      obtain ⟨c1, c2, c3, c4, c5⟩ := addM_yes h (t := f) (n := partM k m n) (by omega) (by omega) (by omega)
      rw [c1]
      refine ⟨c3, by show f ≤ addLf s f (partM k m n); omega, ?_, fun _ _ => rfl⟩
      have : addLf s f (partM k m n) < t := (potS_steps h).lt_of (by omega)
      show addLf s f (partM k m n) ≤ t
      omega
    · rw [if_neg h1]
      obtain rfl : k = n := by omega
      rw [partM_full _ _ hn0]
      exact ⟨by omega, by omega, Int.le_refl _, fun _ hh => absurd hh (Nat.lt_irrefl _)⟩
theorem bnd_step {s : St} (h : GoodS s) {f t : Int} (hf : -4398046511104 ≤ f) (hft : f < t) (ht : t ≤ 4398046511104) {n : Nat} (hn : 1 ≤ n) (hm : (n : Int) ≤ cnt s f t) {k : Nat} (hk : k < n) :
    bndM s f t n k < bndM s f t n (k + 1) ∧ cnt s f t / n ≤ potS s (bndM s f t n (k + 1)) - potS s (bndM s f t n k) ∧ potS s (bndM s f t n (k + 1)) - potS s (bndM s f t n k) ≤ cnt s f t / n + 1 := by
  have h1 := bnd_pot h hf hft ht hn hm (k := k) (by omega)
  have h2 := bnd_pot h hf hft ht hn hm (k := k + 1) (by omega)
  have h3 := partM_step k (cnt s f t) n (by omega)
  have h4 : 1 ≤ cnt s f t / n := (Int.le_ediv_iff_mul_le (by omega)).2 (by omega)
  have e : ((k + 1 : Nat) : Int) = (k : Int) + 1 := by omega
  rw [e] at h2
  exact ⟨(potS_steps h).lt_of (by omega), by omega, by omega⟩
end Wk
end Go.Proofs.YtkfonfheakpcbaaGreat
