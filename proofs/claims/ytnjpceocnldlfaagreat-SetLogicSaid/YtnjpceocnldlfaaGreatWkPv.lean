import Derived.Test.YtnjpceocnldlfaaGreatWkPu
/- Two valid sets with the same numbers are the same. -/
namespace Go.Proofs.YtnjpceocnldlfaaGreat
namespace Wk
theorem uq_least (h : Int → Bool) : ∀ n : Nat, 1 ≤ n → (∀ z : Int, h (z + n) = h z) → ∃ g : Nat, 1 ≤ g ∧ (∀ z : Int, h (z + g) = h z) ∧ ∀ k : Nat, 1 ≤ k → (∀ z : Int, h (z + k) = h z) → g ≤ k := by
  intro n
  induction n using Nat.strongRecOn with
  | _ n ih =>
    intro h1 h2
    by_cases hc : ∃ k : Nat, 1 ≤ k ∧ (∀ z : Int, h (z + k) = h z) ∧ k < n
    · obtain ⟨k, k1, k2, k3⟩ := hc
      exact ih k k3 k1 k2
    · refine ⟨n, h1, h2, fun k k1 k2 => ?_⟩
      rcases Nat.lt_or_ge k n with g | g
      · exact absurd ⟨k, k1, k2, g⟩ hc
      · exact g
theorem uq_mul {h : Int → Bool} {g : Int} (hg : ∀ z : Int, h (z + g) = h z) : ∀ (k : Nat) (z : Int), h (z + k * g) = h z
  | 0, z => by simp
  | k + 1, z => by
    have e : z + ((k + 1 : Nat) : Int) * g = (z + k * g) + g := by
      rw [Int.natCast_add, Int.add_mul]; simp; omega
    rw [e, hg, uq_mul hg k z]
theorem uq_dvd {h : Int → Bool} {g : Nat} (g1 : 1 ≤ g) (gp : ∀ z : Int, h (z + g) = h z) (gm : ∀ k : Nat, 1 ≤ k → (∀ z : Int, h (z + k) = h z) → g ≤ k) {P : Int} (hP : 1 ≤ P) (pp : ∀ z : Int, h (z + P) = h z) : P % (g : Int) = 0 := by
  have hr0 := Int.emod_nonneg P (b := (g : Int)) (by omega)
  have hr1 := Int.emod_lt_of_pos P (b := (g : Int)) (by omega)
  by_cases hz : P % (g : Int) = 0
  · exact hz
  · exfalso
    have hq : 0 ≤ P / (g : Int) := Int.ediv_nonneg (by omega) (by omega)
    have hd : (g : Int) * (P / (g : Int)) + P % (g : Int) = P := Int.mul_ediv_add_emod P g
    have := gm (P % (g : Int)).toNat (by omega) fun z => by
      have h1 := uq_mul gp (P / (g : Int)).toNat (z + (P % (g : Int)).toNat)
      rw [← h1]
      have e : z + ((P % (g : Int)).toNat : Int) + ((P / (g : Int)).toNat : Int) * g = z + P := by
        rw [Int.toNat_of_nonneg hr0, Int.toNat_of_nonneg hq, Int.mul_comm]; omega
      rw [e, pp]
    omega
theorem uq_per {p q : Per} (hp : pvB p.1 p.2 = true) (hq : pvB q.1 q.2 = true) (h : ∀ x, hasP p x = hasP q x) : p = q := by
  have gp := goodP_of_pvB hp
  have gq := goodP_of_pvB hq
  have lp : leastM p.2 p.1 = p.1 := by unfold pvB at hp; simp only [Bool.and_eq_true, beq_iff_eq] at hp; exact hp.2
  have lq : leastM q.2 q.1 = q.1 := by unfold pvB at hq; simp only [Bool.and_eq_true, beq_iff_eq] at hq; exact hq.2
  have p1 : 1 ≤ p.1 := gp.pos
  have q1 : 1 ≤ q.1 := gq.pos
  have pp : ∀ z, hasP p (z + p.1) = hasP p z := fun z => by
    have := hasP_period p p1 z 1
    rwa [Int.one_mul] at this
  have qq : ∀ z, hasP q (z + q.1) = hasP q z := fun z => by
    have := hasP_period q q1 z 1
    rwa [Int.one_mul] at this
  obtain ⟨g, g1, g2, g3⟩ := uq_least (hasP p) p.1.toNat (by omega) fun z => by
    rw [Int.toNat_of_nonneg (by omega)]; exact pp z
  have d1 := uq_dvd g1 g2 g3 p1 pp
  have d2 := uq_dvd g1 g2 g3 q1 fun z => by rw [h, h]; exact qq z
  have le1 : (g : Int) ≤ p.1 := Int.le_of_dvd (by omega) (Int.dvd_of_emod_eq_zero d1)
  have le2 : (g : Int) ≤ q.1 := Int.le_of_dvd (by omega) (Int.dvd_of_emod_eq_zero d2)
  have e1 : (g : Int) = p.1 := by
    rcases Int.lt_or_le (g : Int) p.1 with w | w
    · exact (least_min p1 lp (by omega) w d1 ((rep_iff (p := p) gp (by omega) le1).2 g2)).elim
    · omega
  have e2 : (g : Int) = q.1 := by
    rcases Int.lt_or_le (g : Int) q.1 with w | w
    · exact (least_min q1 lq (by omega) w d2 ((rep_iff (p := q) gq (by omega) le2).2 fun z => by rw [← h, ← h]; exact g2 z)).elim
    · omega
  have e3 : p.1 = q.1 := by omega
  refine Prod.ext e3 (canon_ext gp.canon gq.canon fun x => ?_)
  rcases Int.lt_or_le x 0 with w | w
  · rw [inL_low fun s hs => by have := (gp.ins s hs).1; omega, inL_low fun s hs => by have := (gq.ins s hs).1; omega]
  · rcases Int.lt_or_le x p.1 with v | v
    · have := h x
      unfold hasP at this
      rw [Int.ediv_eq_zero_of_lt w v, Int.ediv_eq_zero_of_lt w (by omega)] at this
      simpa using this
    · rw [inL_high fun s hs => by have := (gp.ins s hs).2; simp only at this; omega, inL_high fun s hs => by have := (gq.ins s hs).2; simp only at this; omega]
theorem uq_far {p q : Per} (p1 : 1 ≤ p.1) (q1 : 1 ≤ q.1) (x m : Int) : (∃ y, y < m ∧ hasP p y = hasP p x ∧ hasP q y = hasP q x) ∧ ∃ y, m ≤ y ∧ hasP p y = hasP p x ∧ hasP q y = hasP q x := by
  have hk : (1 : Int) ≤ p.1 * q.1 := by
    have := Int.mul_le_mul p1 q1 (by omega) (by omega)
    omega
  have key : ∀ k : Int, hasP p (x + k * (p.1 * q.1)) = hasP p x ∧ hasP q (x + k * (p.1 * q.1)) = hasP q x := fun k => by
    constructor
    · rw [Int.mul_comm p.1 q.1, ← Int.mul_assoc]; exact hasP_period p p1 x _
    · rw [← Int.mul_assoc]; exact hasP_period q q1 x _
  have hn : (((x - m).natAbs + 1 : Nat) : Int) * 1 ≤ (((x - m).natAbs + 1 : Nat) : Int) * (p.1 * q.1) := Int.mul_le_mul_of_nonneg_left hk (by omega)
  constructor
  · refine ⟨_, ?_, key (-(((x - m).natAbs + 1 : Nat) : Int))⟩
    rw [Int.neg_mul]
    omega
  · refine ⟨_, ?_, key (((x - m).natAbs + 1 : Nat) : Int)⟩
    omega
theorem VB_uniq {a b : St} (ha : VB a = true) (hb : VB b = true) (h : ∀ x, hasS a x = hasS b x) : a = b := by
  have oa := okS_of_VB ha
  have ob := okS_of_VB hb
  have fa := oa.ft
  have fb := ob.ft
  have hl : a.lf = b.lf := uq_per oa.lf ob.lf fun x => by
    obtain ⟨⟨y, h1, h2, h3⟩, _⟩ := uq_far (p := a.lf) (q := b.lf) (goodP_of_pvB oa.lf).pos (goodP_of_pvB ob.lf).pos x (min a.fr b.fr)
    rw [← h2, ← h3, ← has_lf (s := a) (by omega), ← has_lf (s := b) (by omega), h]
  have hr : a.rt = b.rt := uq_per oa.rt ob.rt fun x => by
    obtain ⟨_, y, h1, h2, h3⟩ := uq_far (p := a.rt) (q := b.rt) (goodP_of_pvB oa.rt).pos (goodP_of_pvB ob.rt).pos x (max a.to b.to)
    rw [← h2, ← h3, ← has_rt (s := a) fa (by omega), ← has_rt (s := b) fb (by omega), h]
  have key : a.fr = b.fr → a.to = b.to → a = b := fun h1 h2 => by
    have hc : a.l = b.l := canon_ext (canon_of_rvB oa.l).1 (canon_of_rvB ob.l).1 fun x => by
      rcases Int.lt_or_le x a.fr with g | g
      · rw [inL_low fun s hs => by have := (oa.ins s hs).1; omega, inL_low fun s hs => by have := (ob.ins s hs).1; omega]
      · rcases Int.lt_or_le x a.to with g' | g'
        · rw [← has_mid g g', ← has_mid (s := b) (by omega) (by omega), h]
        · rw [inL_high fun s hs => by have := (oa.ins s hs).2; omega, inL_high fun s hs => by have := (ob.ins s hs).2; omega]
    cases a
    cases b
    simp only at hl hr h1 h2 hc
    rw [hl, hr, h1, h2, hc]
  rcases VB_win ha with ⟨pa, la⟩ | ⟨e, c, E, B, ht, hf⟩
  · obtain ⟨z1, z2, z3⟩ := pure_glob pa
    rcases VB_win hb with ⟨pb, lb⟩ | ⟨e', c', E', B', ht', hf'⟩
    · obtain ⟨y1, y2, y3⟩ := pure_glob pb
      exact key (by omega) (by omega)
    · exfalso
      have := E'.1
      rw [← h, ← hr, pure_has pa, z3] at this
      exact this rfl
  · rcases VB_win hb with ⟨pb, lb⟩ | ⟨e', c', E', B', ht', hf'⟩
    · exfalso
      obtain ⟨y1, y2, y3⟩ := pure_glob pb
      have := E.1
      rw [h, hr, pure_has pb, y3] at this
      exact this rfl
    · have e1 : some e = some e' := endG_uniq h hr E E'
      have e2 : some c = some c' := begG_uniq h hl B B'
      cases e1
      cases e2
      exact key (by omega) (by omega)
end Wk
end Go.Proofs.YtnjpceocnldlfaaGreat
