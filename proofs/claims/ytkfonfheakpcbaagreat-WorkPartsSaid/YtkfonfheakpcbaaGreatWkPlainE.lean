/- Definite mirrors of timeset's form and Valid. No conditions. -/
import Derived.Test.YtkfonfheakpcbaaGreatWkLst
namespace Go.Proofs.YtkfonfheakpcbaaGreat
namespace Wk

/-- the least x from low on, of the next n, with d x -/
def firstN (d : Int → Bool) (low : Int) : Nat → Option Int
  | 0 => none
  | n + 1 => if d low then some low else firstN d (low + 1) n
def firstF (d : Int → Bool) (low high : Int) : Option Int := firstN d low (high - low).toNat
theorem firstN_ok (d : Int → Bool) : ∀ (n : Nat) (low : Int), FirstD d low (low + n) (firstN d low n)
  | 0, low => by intro z h1 h2; omega
  | n + 1, low => by
    unfold firstN
    by_cases h : d low
    · rw [if_pos h]
      exact ⟨by omega, by omega, h, fun z h1 h2 => by omega⟩
    · rw [if_neg h]
      have ih := firstN_ok d n (low + 1)
      have e : low + 1 + (n : Int) = low + ((n + 1 : Nat) : Int) := by omega
      rw [e] at ih
      cases hr : firstN d (low + 1) n with
      | none =>
        rw [hr] at ih
        intro z h1 h2
        rcases Int.lt_or_eq_of_le h1 with h3 | h3
        · exact ih z (by omega) h2
        · subst h3; simpa using h
      | some x =>
        rw [hr] at ih
        obtain ⟨a1, a2, a3, a4⟩ := ih
        refine ⟨by omega, a2, a3, fun z h1 h2 => ?_⟩
        rcases Int.lt_or_eq_of_le h1 with h3 | h3
        · exact a4 z (by omega) h2
        · subst h3; simpa using h
theorem firstF_ok (d : Int → Bool) (low high : Int) : FirstD d low high (firstF d low high) := by
  by_cases h : low ≤ high
  · have := firstN_ok d (high - low).toNat low
    rwa [show low + ((high - low).toNat : Int) = high by omega] at this
  · unfold firstF
    rw [show (high - low).toNat = 0 by omega]
    intro z h1 h2; omega
theorem first_is {d : Int → Bool} {low high : Int} {r : Option Int} (h : FirstD d low high r) : r = firstF d low high := first_uniq h (firstF_ok d low high)

/-- the greatest x below high, of the n ahead of it, with d x -/
def lastN (d : Int → Bool) (high : Int) : Nat → Option Int
  | 0 => none
  | n + 1 => if d (high - 1) then some (high - 1) else lastN d (high - 1) n
def lastF (d : Int → Bool) (low high : Int) : Option Int := lastN d high (high - low).toNat
theorem lastN_ok (d : Int → Bool) : ∀ (n : Nat) (high : Int), LastD d (high - n) high (lastN d high n)
  | 0, high => by intro z h1 h2; omega
  | n + 1, high => by
    unfold lastN
    by_cases h : d (high - 1)
    · rw [if_pos h]
      exact ⟨by omega, by omega, h, fun z h1 h2 => by omega⟩
    · rw [if_neg h]
      have ih := lastN_ok d n (high - 1)
      have e : high - 1 - (n : Int) = high - ((n + 1 : Nat) : Int) := by omega
      rw [e] at ih
      cases hr : lastN d (high - 1) n with
      | none =>
        rw [hr] at ih
        intro z h1 h2
        by_cases h3 : z < high - 1
        · exact ih z h1 h3
        · obtain rfl : z = high - 1 := by omega
          simpa using h
      | some x =>
        rw [hr] at ih
        obtain ⟨a1, a2, a3, a4⟩ := ih
        refine ⟨a1, by omega, a3, fun z h1 h2 => ?_⟩
        by_cases h3 : z < high - 1
        · exact a4 z h1 h3
        · obtain rfl : z = high - 1 := by omega
          simpa using h
theorem lastF_ok (d : Int → Bool) (low high : Int) : LastD d low high (lastF d low high) := by
  by_cases h : low ≤ high
  · have := lastN_ok d (high - low).toNat high
    rwa [show high - ((high - low).toNat : Int) = low by omega] at this
  · unfold lastF
    rw [show (high - low).toNat = 0 by omega]
    intro z h1 h2; omega
theorem last_is {d : Int → Bool} {low high : Int} {r : Option Int} (h : LastD d low high r) : r = lastF d low high := last_uniq h (lastF_ok d low high)

/-- the runs of h among the n numbers from f on -/
def memF (h : Int → Bool) (f : Int) : Nat → List Sp
  | 0 => []
  | n + 1 =>
    if h (f + n) then
      match (memF h f n).getLast? with
      | some s => if s.2 = f + n then (memF h f n).dropLast ++ [(s.1, f + n + 1)] else memF h f n ++ [(f + n, f + n + 1)]
      | none => memF h f n ++ [(f + n, f + n + 1)]
    else memF h f n

theorem memF_len (h : Int → Bool) (f : Int) (n : Nat) : (memF h f n).length ≤ (memF h f (n + 1)).length := by
  rw [memF]
  split
  · split
    · rename_i s hs
      have hne : memF h f n ≠ [] := by intro e; rw [e] at hs; simp at hs
      have := List.length_pos_iff.2 hne
      split <;> simp <;> omega
    · simp
  · exact Nat.le_refl _
theorem memF_mono (h : Int → Bool) (f : Int) (n : Nat) : ∀ k, (memF h f n).length ≤ (memF h f (n + k)).length
  | 0 => Nat.le_refl _
  | k + 1 => Nat.le_trans (memF_mono h f n k) (memF_len h f (n + k))
/-- the last run ends where h does -/
theorem memF_last (h : Int → Bool) (f : Int) : ∀ (n : Nat) (s : Sp), (memF h f n).getLast? = some s → s.2 ≤ f + n ∧ (s.2 = f + n → h (f + n - 1) = true)
  | 0, s, hs => by simp [memF] at hs
  | n + 1, s, hs => by
    rw [memF] at hs
    have e : f + ((n + 1 : Nat) : Int) = f + n + 1 := by omega
    by_cases hh : h (f + n) = true
    · refine ⟨?_, fun _ => by rw [e, show f + (n : Int) + 1 - 1 = f + n by omega]; exact hh⟩
      rw [if_pos hh] at hs
      split at hs
      · split at hs
        · simp at hs; subst hs; simp only; omega
        · simp at hs; subst hs; simp only; omega
      · simp at hs; subst hs; simp only; omega
    · rw [if_neg hh] at hs
      have := memF_last h f n s hs
      exact ⟨by omega, fun h2 => by omega⟩
theorem memF_off (h : Int → Bool) (f : Int) (n : Nat) : ∀ k : Nat, (∀ z, f + n ≤ z → z < f + n + k → h z = false) → memF h f (n + k) = memF h f n
  | 0, _ => rfl
  | k + 1, hz => by
    rw [← Nat.add_assoc, memF, if_neg (by rw [hz _ (by omega) (by omega)]; simp)]
    exact memF_off h f n k fun z h1 h2 => hz z h1 (by omega)
theorem memF_on (h : Int → Bool) (f : Int) (n : Nat) (hs : ∀ s, (memF h f n).getLast? = some s → s.2 ≠ f + n) : ∀ k : Nat, (∀ z, f + n ≤ z → z < f + n + (k + 1 : Nat) → h z = true) →
    memF h f (n + (k + 1)) = memF h f n ++ [(f + n, f + n + (k + 1 : Nat))]
  | 0, hz => by
    rw [memF, if_pos (hz _ (by omega) (by omega))]
    split
    · rename_i s hs'
      rw [if_neg (hs s hs')]
      simp
    · simp
  | k + 1, hz => by
    have ih := memF_on h f n hs k fun z h1 h2 => hz z h1 (by omega)
    rw [← Nat.add_assoc, memF, if_pos (hz _ (by omega) (by omega)), ih]
    have e : f + (n : Int) + ((k + 1 : Nat) : Int) = f + ((n + (k + 1) : Nat) : Int) := by omega
    simp only [List.getLast?_append, List.getLast?_singleton, Option.some_or, List.dropLast_concat]
    rw [if_pos (by omega)]
    congr 2
    simp only [Prod.mk.injEq, true_and]
    omega

/-- the least common multiple, as the program reckons it -/
def commonM (m n : Int) : Int := if 12622780800 / n < m / (Int.gcd m n : Int) then 12622780801 else m / (Int.gcd m n : Int) * n
theorem commonM_bd {m n : Int} (hm : 1 ≤ m) (hn : 1 ≤ n) : 1 ≤ commonM m n ∧ commonM m n ≤ 12622780801 := by
  unfold commonM
  split
  · omega
  · rename_i h
    have hg : 0 < Int.gcd m n := Int.gcd_pos_of_ne_zero_left _ (by omega)
    have hd : (Int.gcd m n : Int) ∣ m := Int.gcd_dvd_left ..
    have h1 : 1 ≤ m / (Int.gcd m n : Int) := by
      have := Int.ediv_mul_cancel hd
      rcases Int.lt_or_le (m / (Int.gcd m n : Int)) 1 with h2 | h2
      · have : m / (Int.gcd m n : Int) * (Int.gcd m n : Int) ≤ 0 := Int.mul_nonpos_of_nonpos_of_nonneg (by omega) (by omega)
        omega
      · exact h2
    have h3 : m / (Int.gcd m n : Int) * n ≤ 12622780800 / n * n := Int.mul_le_mul_of_nonneg_right (by omega) (by omega)
    have h4 : 12622780800 / n * n ≤ 12622780800 := Int.ediv_mul_le _ (by omega)
    have h5 : 1 * 1 ≤ m / (Int.gcd m n : Int) * n := Int.mul_le_mul h1 hn (by omega) (by omega)
    omega
theorem commonM_same {m : Int} (hm : 1 ≤ m) (hm2 : m ≤ 12622780800) : commonM m m = m := by
  have hg : (Int.gcd m m : Int) = m := by rw [Int.gcd_self]; omega
  unfold commonM
  rw [hg, Int.ediv_self (by omega), if_neg, Int.one_mul]
  have : 1 ≤ 12622780800 / m := (Int.le_ediv_iff_mul_le (by omega)).2 (by omega)
  omega

def pairM (P : Int) (l : List Sp) (Q : Int) (k : List Sp) : Int :=
  if peB P l Q k then 0
  else if 12622780800 < commonM P Q then 9
  else if 2000 < commonM P Q / P * l.length + commonM P Q / Q * k.length then 5
  else 0

def givenB (s : St) : Bool := pvB s.lf.1 s.lf.2 && pvB s.rt.1 s.rt.2 && decide (s.fr ≤ s.to) && lineB s.fr && lineB s.to && rvB s.l &&
  (decide (s.l = []) || (decide (s.fr ≤ (s.l.getD 0 (0, 0)).1) && decide ((s.l.getD (s.l.length - 1) (0, 0)).2 ≤ s.to)))

def noSt : St := ⟨(0, []), (0, []), 0, 0, []⟩
def pureF (p : Per) : St := ⟨p, p, 0, 0, []⟩
def memL (h : Int → Bool) (f t : Int) : List Sp := if (memF h f (t - f).toNat).length ≤ 2000 then memF h f (t - f).toNat else []

/-- what form answers, both ends of the window found -/
def formE (s : St) (e b : Int) : St × Int :=
  let fr := if b ≤ e + 1 then b else e + 1
  if lineB fr && lineB (e + 1) then (⟨s.lf, s.rt, fr, e + 1, memL (hasS s) fr (e + 1)⟩, 0) else (noSt, 9)
def endF (s : St) : Option Int :=
  (lastF (fun x => inL s.l x != hasP s.rt x) s.fr s.to).or (lastF (fun x => hasP s.lf x != hasP s.rt x) (s.fr - commonM s.lf.1 s.rt.1) s.fr)
def begF (s : St) : Option Int :=
  (firstF (fun x => inL s.l x != hasP s.lf x) s.fr s.to).or (firstF (fun x => hasP s.rt x != hasP s.lf x) s.to (s.to + commonM s.lf.1 s.rt.1))
def formF (s : St) : St × Int :=
  if pairM s.lf.1 s.lf.2 s.rt.1 s.rt.2 ≠ 0 then (noSt, pairM s.lf.1 s.lf.2 s.rt.1 s.rt.2)
  else if (lastF (fun x => inL s.l x != hasP s.rt x) s.fr s.to).isNone && peB s.lf.1 s.lf.2 s.rt.1 s.rt.2 && (firstF (fun x => inL s.l x != hasP s.lf x) s.fr s.to).isNone then (pureF s.lf, 0)
  else match endF s, begF s with
    | some e, some b => formE s e b
    | _, _ => (pureF s.lf, 0)

def VB (s : St) : Bool := givenB s && ((formF s).2 == 0) && ((formF s).1.fr == s.fr) && ((formF s).1.to == s.to) &&
  peB s.lf.1 s.lf.2 (formF s).1.lf.1 (formF s).1.lf.2 && peB s.rt.1 s.rt.2 (formF s).1.rt.1 (formF s).1.rt.2 && decide ((formF s).1.l = s.l)

theorem okS_of_givenB {s : St} (h : givenB s = true) : OkS s := by
  unfold givenB at h
  simp only [Bool.and_eq_true, Bool.or_eq_true, decide_eq_true_eq] at h
  obtain ⟨⟨⟨⟨⟨⟨h1, h2⟩, h3⟩, h4⟩, h5⟩, h6⟩, h7⟩ := h
  rw [lineB_iff] at h4 h5
  refine ⟨h1, h2, h6, h4.1, h3, h5.2, fun x hx => ?_⟩
  rcases h7 with h7 | ⟨h7, h8⟩
  · rw [h7] at hx; simp at hx
  · have hc := (canon_of_rvB h6).1
    obtain ⟨j, hj, e⟩ := mem_idx hx
    have p1 := idx_pos hc hj
    rw [e] at p1
    constructor
    · by_cases h0 : j = 0
      · subst h0; rw [e] at h7; exact h7
      · have := canon_lt hc (i := 0) (j := j) (by omega) hj
        have p0 := idx_pos hc (j := 0) (by omega)
        rw [e] at this
        omega
    · by_cases h0 : j = s.l.length - 1
      · subst h0; rw [e] at h8; exact h8
      · have := canon_lt hc (i := j) (j := s.l.length - 1) (by omega) (by omega)
        have p0 := idx_pos hc (j := s.l.length - 1) (by omega)
        rw [e] at this
        omega
theorem okS_of_VB {s : St} (h : VB s = true) : OkS s := by
  unfold VB at h
  simp only [Bool.and_eq_true] at h
  exact okS_of_givenB h.1.1.1.1.1.1
end Wk
end Go.Proofs.YtkfonfheakpcbaaGreat
