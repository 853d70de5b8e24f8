import Derived.Test.YtnjpceocnldlfaaGreatWkPs
import Derived.Test.YtnjpceocnldlfaaGreatWkPq
import Derived.Test.YtnjpceocnldlfaaGreatWkBh
/- Not and Move, in plain numbers. -/
namespace Go.Proofs.YtnjpceocnldlfaaGreat
namespace Wk
def perNot (p : Per) : Per × Int := if pvB p.1 p.2 = false then ((0, []), 1) else perM p.1 fun x => !(hasP p x)
def perMove (k : Int) (p : Per) : Per × Int := if pvB p.1 p.2 = false then ((0, []), 1) else if k < -4398046511104 ∨ 4398046511104 < k then ((0, []), 2) else perM p.1 fun x => hasP p (x - k)
theorem perNot_lim {P : Int} {l L : List Sp} (h : pvB P l = true) (hc : Canon L) (hv : ∀ x, inL L x = ruleB 2 (inL [(0, P)] x) (inL l x)) : perNot (P, l) = limM P L ∧ inside P L := by
  have hg := goodP_of_pvB h
  have hp : 1 ≤ P := hg.pos
  have hv' : ∀ x, inL L x = ((decide (0 ≤ x) && decide (x < P)) && !(hasP (P, l) x)) := fun x => by
    rw [hv x]
    simp only [inL, Bool.or_false]
    by_cases h0 : 0 ≤ x
    · by_cases h1 : x < P
      · rw [hasP_in (P, l) hp h0 h1, decide_eq_true h0, decide_eq_true h1]; rfl
      · rw [decide_eq_false h1]; simp [ruleB]
    · rw [decide_eq_false h0]; simp [ruleB]
  have hL := memF_of (f := 0) (t := P) (by omega) hc hv'
  rw [Int.sub_zero] at hL
  refine ⟨?_, inside_of_in hc fun x hx => ?_⟩
  · unfold perNot
    simp only [h]
    rw [if_neg (by simp)]
    unfold perM limM
    rw [hL]
  · rw [hv' x] at hx
    simp at hx
    omega
/-- a list moved, everywhere -/
theorem rot_has {P k : Int} {l R : List Sp} (hp : 1 ≤ P) (hr : RotP l P k R) (z : Int) : hasP (P, R) z = hasP (P, l) (z - k) := by
  have hm := mod_lo z hp
  have e := hr.2.2 _ hm.1 hm.2
  have e2 := hasP_period (P, l) hp (z - k) (-(z / P))
  simp only at e2
  rw [Int.neg_mul, show z - k + -(z / P * P) = z - z / P * P - k by omega] at e2
  rw [← e2, ← e]
  rfl
theorem rot_least {P k : Int} {l R : List Sp} (h : pvB P l = true) (hr : RotP l P k R) : leastM R P = P ∧ cutM R P = R := by
  have hg := goodP_of_pvB h
  have hp : 1 ≤ P := hg.pos
  have hgR : GoodP (P, R) := ⟨hp, hr.1, hr.2.1⟩
  have hl : leastM l P = P := by
    unfold pvB at h
    simp only [Bool.and_eq_true, beq_iff_eq] at h
    exact h.2
  have H := rot_has hp hr
  refine ⟨?_, ?_⟩
  · obtain ⟨h1, h2, h3, h4, _⟩ := least_prop (l := R) hp
    obtain ⟨_, _, _, _, k5⟩ := least_prop (l := l) hp
    rcases h1 with h1 | h1
    · exact h1
    · have r1 := (rep_iff (p := (P, R)) hgR h2 h3).1 h1
      have r2 : repB l P (leastM R P) = true := (rep_iff (p := (P, l)) hg h2 h3).2 fun z => by
        have := r1 (z + k)
        rw [H, H, show z + k + leastM R P - k = z + leastM R P by omega, show z + k - k = z by omega] at this
        exact this
      have := k5 _ h2 h4 r2
      rw [hl] at this
      omega
  · obtain ⟨c1, c2⟩ := cut_has hgR hp (Int.le_refl _) (Int.emod_self) (.inl rfl)
    refine canon_ext c1.canon hr.1 fun x => ?_
    by_cases hx : 0 ≤ x ∧ x < P
    · have := c2 x
      rwa [hasP_in (P, cutM R P) hp hx.1 hx.2, hasP_in (P, R) hp hx.1 hx.2] at this
    · have n1 : ∀ {M : List Sp}, inside P M → inL M x = false := fun {M} hi => by
        rcases Int.lt_or_le x 0 with hl | hl
        · exact inL_low fun s hs => by have := (hi s hs).1; omega
        · exact inL_high fun s hs => by have := (hi s hs).2; omega
      rw [n1 c1.ins, n1 hr.2.1]
theorem rot_move {P k : Int} {l R : List Sp} (h : pvB P l = true) (h1 : -4398046511104 ≤ k) (h2 : k ≤ 4398046511104) (hr : RotP l P k R) :
    perMove k (P, l) = (if 2000 < R.length then ((0, []), 5) else ((P, R), 0)) ∧ limM P R = (if 2000 < R.length then ((0, []), 5) else ((P, R), 0)) := by
  have hg := goodP_of_pvB h
  have hp : 1 ≤ P := hg.pos
  obtain ⟨e1, e2⟩ := rot_least h hr
  have hL := memF_of (h := fun x => hasP (P, l) (x - k)) (f := 0) (t := P) (by omega) hr.1 fun x => by
    by_cases h0 : 0 ≤ x
    · by_cases h3 : x < P
      · rw [hr.2.2 x h0 h3, decide_eq_true h0, decide_eq_true h3]; rfl
      · rw [decide_eq_false h3, inL_high fun s hs => by have := (hr.2.1 s hs).2; omega]; simp
    · rw [decide_eq_false h0, inL_low fun s hs => by have := (hr.2.1 s hs).1; omega]; simp
  rw [Int.sub_zero] at hL
  refine ⟨?_, ?_⟩
  · unfold perMove
    simp only [h]
    rw [if_neg (by simp), if_neg (by omega)]
    unfold perM
    rw [← hL, e1, e2]
  · unfold limM
    rw [e1, e2]
/-- what the fold of a moved list adds up to -/
theorem rot_fold {P k : Int} {l F : List Sp} (hg : GoodP (P, l)) (hc : Canon F) (hv : ∀ x, inL F x = ((decide (0 ≤ x) && decide (x < P)) && (inL (l.map (shf (k % P))) x || inL (l.map (shf (k % P))) (x + P)))) : RotP l P k F :=
  rot_union hg hc fun x => by
    rw [hv x, lo_in, hi_in, inL_shf, inL_shf]
    unfold ruleB
    rw [if_pos rfl]
    cases (decide (0 ≤ x) && decide (x < P)) with
    | false => simp
    | true => simp only [Bool.true_and]; rw [Bool.or_comm]
/-- one span folded into a period -/
theorem fold_step {P y1 y2 : Int} {A T : List Sp} (hy : 0 ≤ y1) (hy2 : y1 < y2) (hy3 : y2 - y1 < P) (hy4 : y2 ≤ 2 * P)
    (h : ∀ x, inL A x = ((decide (0 ≤ x) && decide (x < P)) && (inL T x || inL T (x + P)))) (hb : ∀ s ∈ A, 0 ≤ s.1 ∧ s.1 < s.2 ∧ s.2 ≤ P) :
    ∀ at' e, at' = y1 - y1 / P * P → e = at' + y2 - y1 → 0 ≤ at' ∧ at' < P ∧ at' < e ∧ e < 2 * P ∧
      (e ≤ P → (∀ x, inL (A ++ [(at', min e P)]) x = ((decide (0 ≤ x) && decide (x < P)) && (inL (T ++ [(y1, y2)]) x || inL (T ++ [(y1, y2)]) (x + P)))) ∧ ∀ s ∈ A ++ [(at', min e P)], 0 ≤ s.1 ∧ s.1 < s.2 ∧ s.2 ≤ P) ∧
      (P < e → (∀ x, inL (A ++ [(at', min e P)] ++ [(0, e - P)]) x = ((decide (0 ≤ x) && decide (x < P)) && (inL (T ++ [(y1, y2)]) x || inL (T ++ [(y1, y2)]) (x + P)))) ∧ ∀ s ∈ A ++ [(at', min e P)] ++ [(0, e - P)], 0 ≤ s.1 ∧ s.1 < s.2 ∧ s.2 ≤ P) := by
  intro at' e hat he
  have hm := mod_lo y1 (P := P) (by omega)
  rw [← hat] at hm
  have hq : (y1 < P ∧ at' = y1) ∨ (P ≤ y1 ∧ at' = y1 - P) := by
    by_cases h1 : y1 < P
    · left
      rw [hat, Int.ediv_eq_zero_of_lt hy h1]
      omega
    · right
      have h2 : y1 / P = 1 := div_uniq (P := P) (by omega) (by omega) (by omega)
      rw [hat, h2]
      omega
  have hone : ∀ x : Int, inL [(y1, y2)] x = (decide (y1 ≤ x) && decide (x < y2)) := fun x => by simp [inL]
  refine ⟨hm.1, hm.2, by omega, by omega, fun hep => ⟨fun x => ?_, fun s hs => ?_⟩, fun hep => ⟨fun x => ?_, fun s hs => ?_⟩⟩
  · rw [inL_append, h x, inL_append, inL_append, hone, hone]
    simp only [inL, Bool.or_false]
    rw [Bool.eq_iff_iff]
    simp only [Bool.or_eq_true, Bool.and_eq_true, decide_eq_true_eq]
    rw [Int.min_eq_left hep]
    constructor
    · rintro (⟨a, b | b⟩ | ⟨a, b⟩)
      · exact ⟨a, .inl (.inl b)⟩
      · exact ⟨a, .inr (.inl b)⟩
      · rcases hq with ⟨q1, q2⟩ | ⟨q1, q2⟩
        · exact ⟨⟨by omega, by omega⟩, .inl (.inr ⟨by omega, by omega⟩)⟩
        · exact ⟨⟨by omega, by omega⟩, .inr (.inr ⟨by omega, by omega⟩)⟩
    · rintro ⟨a, (b | b) | (b | b)⟩
      · exact .inl ⟨a, .inl b⟩
      · exact .inr (by rcases hq with ⟨q1, q2⟩ | ⟨q1, q2⟩ <;> omega)
      · exact .inl ⟨a, .inr b⟩
      · exact .inr (by rcases hq with ⟨q1, q2⟩ | ⟨q1, q2⟩ <;> omega)
  · rcases List.mem_append.1 hs with hs | hs
    · exact hb s hs
    · simp only [List.mem_singleton] at hs
      subst hs
      simp only
      omega
  · rw [inL_append, inL_append, h x, inL_append, inL_append, hone, hone]
    simp only [inL, Bool.or_false]
    rw [Bool.eq_iff_iff]
    simp only [Bool.or_eq_true, Bool.and_eq_true, decide_eq_true_eq]
    rw [Int.min_eq_right (by omega)]
    constructor
    · rintro ((⟨a, b | b⟩ | ⟨a, b⟩) | ⟨a, b⟩)
      · exact ⟨a, .inl (.inl b)⟩
      · exact ⟨a, .inr (.inl b)⟩
      · exact ⟨⟨by omega, by omega⟩, .inl (.inr (by rcases hq with ⟨q1, q2⟩ | ⟨q1, q2⟩ <;> omega))⟩
      · exact ⟨⟨by omega, by omega⟩, .inr (.inr (by rcases hq with ⟨q1, q2⟩ | ⟨q1, q2⟩ <;> omega))⟩
    · rintro ⟨a, (b | b) | (b | b)⟩
      · exact .inl (.inl ⟨a, .inl b⟩)
      · exact .inl (.inr (by rcases hq with ⟨q1, q2⟩ | ⟨q1, q2⟩ <;> omega))
      · exact .inl (.inl ⟨a, .inr b⟩)
      · exact .inr (by rcases hq with ⟨q1, q2⟩ | ⟨q1, q2⟩ <;> omega)
  · rcases List.mem_append.1 hs with hs | hs
    · rcases List.mem_append.1 hs with hs | hs
      · exact hb s hs
      · simp only [List.mem_singleton] at hs
        subst hs
        simp only
        omega
    · simp only [List.mem_singleton] at hs
      subst hs
      simp only
      omega
/-- a span as long as the period covers it -/
theorem fold_full {P y1 y2 : Int} {T r : List Sp} (hy : 0 ≤ y1) (hy3 : P ≤ y2 - y1) (hy4 : y2 ≤ 2 * P) :
    ∀ x, inL [(0, P)] x = ((decide (0 ≤ x) && decide (x < P)) && (inL (T ++ (y1, y2) :: r) x || inL (T ++ (y1, y2) :: r) (x + P))) := by
  intro x
  rw [inL_append, inL_append]
  simp only [inL, Bool.or_false]
  by_cases h0 : 0 ≤ x
  · by_cases h1 : x < P
    · rw [decide_eq_true h0, decide_eq_true h1]
      by_cases h2 : y1 ≤ x
      · rw [decide_eq_true h2, decide_eq_true (show x < y2 by omega)]; simp
      · rw [decide_eq_true (show y1 ≤ x + P by omega), decide_eq_true (show x + P < y2 by omega)]; simp
    · rw [decide_eq_false h1]; simp
  · rw [decide_eq_false h0]; simp
end Wk
end Go.Proofs.YtnjpceocnldlfaaGreat
/- Not and Move of sets, in plain numbers. -/
namespace Go.Proofs.YtnjpceocnldlfaaGreat
namespace Wk
/-- an operation on both periodic sets, and what follows -/
def twoM (op : Per → Per × Int) (rest : Per → Per → St × Int) (a : St) : St × Int :=
  if VB a = false then (noSt, 1)
  else if (op a.lf).2 ≠ 0 then (noSt, (op a.lf).2)
  else if (op a.rt).2 ≠ 0 then (noSt, (op a.rt).2)
  else if pairM (op a.lf).1.1 (op a.lf).1.2 (op a.rt).1.1 (op a.rt).1.2 ≠ 0 then (noSt, pairM (op a.lf).1.1 (op a.lf).1.2 (op a.rt).1.1 (op a.rt).1.2)
  else rest (op a.lf).1 (op a.rt).1
/-- what lies between the spans -/
def gapsL : Int → List Sp → List Sp
  | _, [] => []
  | f, s :: r => (if f < s.1 then [(f, s.1)] else []) ++ gapsL s.2 r
def lastTo2 : Int → List Sp → Int
  | f, [] => f
  | _, s :: r => lastTo2 s.2 r
theorem gaps_snoc : ∀ (f : Int) (T : List Sp) (s : Sp), gapsL f (T ++ [s]) = gapsL f T ++ (if lastTo2 f T < s.1 then [(lastTo2 f T, s.1)] else []) ∧ lastTo2 f (T ++ [s]) = s.2
  | f, [], s => by
    refine ⟨?_, rfl⟩
    show (if f < s.1 then [(f, s.1)] else []) ++ [] = _
    rw [List.append_nil]
    rfl
  | f, t :: r, s => by
    have h := gaps_snoc t.2 r s
    refine ⟨?_, ?_⟩
    · show (if f < t.1 then [(f, t.1)] else []) ++ gapsL t.2 (r ++ [s]) = ((if f < t.1 then [(f, t.1)] else []) ++ gapsL t.2 r) ++ _
      rw [h.1, List.append_assoc]
      rfl
    · exact h.2
theorem gaps_len : ∀ (f : Int) (T : List Sp), (gapsL f T).length ≤ T.length
  | _, [] => Nat.le_refl _
  | f, s :: r => by
    have := gaps_len s.2 r
    show ((if f < s.1 then [(f, s.1)] else []) ++ gapsL s.2 r).length ≤ r.length + 1
    split <;> simp <;> omega
theorem gaps_ok : ∀ (l : List Sp) (f t : Int), Canon l → (∀ s ∈ l, f ≤ s.1 ∧ s.2 ≤ t) → f ≤ t →
    Canon (gapsL f (l ++ [(t, t)])) ∧ (∀ u ∈ gapsL f (l ++ [(t, t)]), f ≤ u.1 ∧ u.2 ≤ t) ∧ ∀ x, inL (gapsL f (l ++ [(t, t)])) x = ((decide (f ≤ x) && decide (x < t)) && !(inL l x))
  | [], f, t, _, _, hft => by
    simp only [List.nil_append, gapsL, List.append_nil]
    by_cases h : f < t
    · rw [if_pos h]
      refine ⟨by simp [Canon]; exact h, fun u hu => ?_, fun x => by simp [inL]⟩
      simp only [List.mem_singleton] at hu
      subst hu
      exact ⟨Int.le_refl _, Int.le_refl _⟩
    · rw [if_neg h]
      refine ⟨trivial, fun u hu => by simp at hu, fun x => ?_⟩
      simp only [inL, Bool.not_false, Bool.and_true]
      rw [eq_comm, Bool.and_eq_false_iff]
      by_cases h1 : f ≤ x
      · exact .inr (by simp; omega)
      · exact .inl (by simpa using h1)
  | s :: r, f, t, hc, hi, hft => by
    obtain ⟨c1, c2, c3⟩ := hc
    have hs := hi s (by simp)
    obtain ⟨g1, g2, g3⟩ := gaps_ok r s.2 t c3 (fun u hu => ⟨by have := c2 u hu; omega, (hi u (by simp [hu])).2⟩) hs.2
    have e : gapsL f (s :: r ++ [(t, t)]) = (if f < s.1 then [(f, s.1)] else []) ++ gapsL s.2 (r ++ [(t, t)]) := rfl
    rw [e]
    obtain ⟨G, hG⟩ : ∃ G, gapsL s.2 (r ++ [(t, t)]) = G := ⟨_, rfl⟩
    rw [hG] at g1 g2 g3 ⊢
    have hl : ∀ x, inL r x = true → s.2 ≤ x := fun x hx => by
      rcases Int.lt_or_le x s.2 with h | h
      · rw [inL_low fun u hu => by have := c2 u hu; omega] at hx
        cases hx
      · exact h
    by_cases h : f < s.1
    · rw [if_pos h]
      refine ⟨⟨h, fun u hu => by have := (g2 u hu).1; simp only; omega, g1⟩, fun u hu => ?_, fun x => ?_⟩
      · rcases List.mem_cons.1 hu with rfl | hu
        · exact ⟨Int.le_refl _, by simp only; omega⟩
        · have := g2 u hu; omega
      · show ((decide (f ≤ x) && decide (x < s.1)) || inL G x) = ((decide (f ≤ x) && decide (x < t)) && !((decide (s.1 ≤ x) && decide (x < s.2)) || inL r x))
        rw [g3 x, Bool.eq_iff_iff]
        have hlx := hl x
        cases hr : inL r x with
        | true =>
          have := hlx hr
          simp; omega
        | false => simp; omega
    · rw [if_neg h]
      refine ⟨g1, fun u hu => by have := g2 u hu; omega, fun x => ?_⟩
      show inL G x = ((decide (f ≤ x) && decide (x < t)) && !((decide (s.1 ≤ x) && decide (x < s.2)) || inL r x))
      rw [g3 x, Bool.eq_iff_iff]
      have hlx := hl x
      cases hr : inL r x with
      | true =>
        have := hlx hr
        simp
      | false => simp; omega
def notRest (a : St) (p q : Per) : St × Int := if 2000 < (gapsL a.fr (a.l ++ [(a.to, a.to)])).length then (noSt, 5) else (⟨p, q, a.fr, a.to, gapsL a.fr (a.l ++ [(a.to, a.to)])⟩, 0)
def moveRest (n : Int) (a : St) (p q : Per) : St × Int := if pureB a = true then (pureF p, 0) else if lineB (a.fr + n) = false ∨ lineB (a.to + n) = false then (noSt, 9) else (⟨p, q, a.fr + n, a.to + n, a.l.map (shf n)⟩, 0)
def setNot (a : St) : St × Int := twoM perNot (notRest a) a
def setMove (n : Int) (a : St) : St × Int := twoM (perMove n) (moveRest n a) a
theorem two_bad {op : Per → Per × Int} {rest : Per → Per → St × Int} {a : St} (h : VB a = false) : twoM op rest a = (noSt, 1) := by unfold twoM; rw [if_pos h]
theorem two_left {op : Per → Per × Int} {rest : Per → Per → St × Int} {a : St} {e : Int} (h : VB a = true) (h1 : (op a.lf).2 = e) (he : e ≠ 0) : twoM op rest a = (noSt, e) := by
  unfold twoM; rw [if_neg (by rw [h]; simp), if_pos (by rw [h1]; exact he), h1]
theorem two_right {op : Per → Per × Int} {rest : Per → Per → St × Int} {a : St} {e : Int} {p : Per} (h : VB a = true) (h1 : op a.lf = (p, 0)) (h2 : (op a.rt).2 = e) (he : e ≠ 0) : twoM op rest a = (noSt, e) := by
  unfold twoM; rw [if_neg (by rw [h]; simp), if_neg (by rw [h1]; simp), if_pos (by rw [h2]; exact he), h2]
theorem two_pair {op : Per → Per × Int} {rest : Per → Per → St × Int} {a : St} {e : Int} {p q : Per} (h : VB a = true) (h1 : op a.lf = (p, 0)) (h2 : op a.rt = (q, 0)) (h3 : pairM p.1 p.2 q.1 q.2 = e) (he : e ≠ 0) : twoM op rest a = (noSt, e) := by
  unfold twoM; rw [if_neg (by rw [h]; simp), if_neg (by rw [h1]; simp), if_neg (by rw [h2]; simp), if_pos (by rw [h1, h2]; simp only; rw [h3]; exact he), h1, h2]; simp only; rw [h3]
theorem two_rest {op : Per → Per × Int} {rest : Per → Per → St × Int} {a : St} {p q : Per} (h : VB a = true) (h1 : op a.lf = (p, 0)) (h2 : op a.rt = (q, 0)) (h3 : pairM p.1 p.2 q.1 q.2 = 0) : twoM op rest a = rest p q := by
  unfold twoM; rw [if_neg (by rw [h]; simp), if_neg (by rw [h1]; simp), if_neg (by rw [h2]; simp), if_neg (by rw [h1, h2]; simp only; rw [h3]; simp), h1, h2]
theorem perM_len {m : Int} {h : Int → Bool} : (perM m h).1.2.length ≤ 2000 := by
  unfold perM
  split
  · simp
  · simp only; omega
theorem perNot_len {p : Per} : (perNot p).1.2.length ≤ 2000 := by
  unfold perNot
  split
  · simp
  · exact perM_len
theorem perMove_len {n : Int} {p : Per} : (perMove n p).1.2.length ≤ 2000 := by
  unfold perMove
  split
  · simp
  · split
    · simp
    · exact perM_len
theorem perNot_ok {p : Per} (h : pvB p.1 p.2 = true) (he : (perNot p).2 = 0) : pvB (perNot p).1.1 (perNot p).1.2 = true ∧ ∀ x, hasP (perNot p).1 x = !(hasP p x) := by
  have hp := rvB_of_pvB h
  have hg := goodP_of_pvB h
  unfold perNot at he ⊢
  rw [if_neg (by rw [h]; simp)] at he ⊢
  exact perM_ok hp.2.1 hp.2.2.1 (fun x k => by show (!hasP p (x + k * p.1)) = !hasP p x; rw [hasP_period p hp.2.1]) he
theorem perMove_ok {n : Int} {p : Per} (h : pvB p.1 p.2 = true) (he : (perMove n p).2 = 0) : pvB (perMove n p).1.1 (perMove n p).1.2 = true ∧ (∀ x, hasP (perMove n p).1 x = hasP p (x - n)) ∧ -4398046511104 ≤ n ∧ n ≤ 4398046511104 := by
  have hp := rvB_of_pvB h
  unfold perMove at he ⊢
  rw [if_neg (by rw [h]; simp)] at he ⊢
  by_cases hn : n < -4398046511104 ∨ 4398046511104 < n
  · rw [if_pos hn] at he; simp at he
  · rw [if_neg hn] at he ⊢
    obtain ⟨a, b⟩ := perM_ok (h := fun x => hasP p (x - n)) hp.2.1 hp.2.2.1 (fun x k => by show hasP p (x + k * p.1 - n) = hasP p (x - n); rw [show x + k * p.1 - n = x - n + k * p.1 by omega, hasP_period p hp.2.1]) he
    exact ⟨a, b, by omega, by omega⟩
end Wk
end Go.Proofs.YtnjpceocnldlfaaGreat
