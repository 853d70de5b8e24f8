import Derived.Test.YtlbjfbpejomkmaaGreatWkPn
/- Going through two canonical lists at the same time, plain. -/
namespace Go.Proofs.YtlbjfbpejomkmaaGreat
namespace Wk

def endE (l : List Sp) (n : Nat) : Int := if n % 2 = 0 then (l.getD (n / 2) (0, 0)).1 else (l.getD (n / 2) (0, 0)).2
theorem endE_succ {l : List Sp} (hc : Canon l) {n : Nat} (hn : n + 1 < 2 * l.length) : endE l n < endE l (n + 1) := by
  unfold endE
  rcases Nat.mod_two_eq_zero_or_one n with h | h
  · rw [if_pos h, if_neg (by omega), show (n + 1) / 2 = n / 2 by omega]
    exact canon_pos hc _ (idx_mem (by omega))
  · rw [if_neg (by omega), if_pos (by omega), show (n + 1) / 2 = n / 2 + 1 by omega]
    exact (canon_lt hc (by omega) (by omega)).1
theorem endE_mono {l : List Sp} (hc : Canon l) {n : Nat} : ∀ (d : Nat), n + d + 1 < 2 * l.length → endE l n < endE l (n + d + 1)
  | 0, h => endE_succ hc h
  | d + 1, h => Int.lt_trans (endE_mono hc d (by omega)) (endE_succ hc (n := n + d + 1) h)
theorem endE_lt {l : List Sp} (hc : Canon l) {i j : Nat} (h : i < j) (hj : j < 2 * l.length) : endE l i < endE l j := by
  have := endE_mono hc (n := i) (j - i - 1) (by omega)
  rwa [show i + (j - i - 1) + 1 = j by omega] at this

structure Bhd (l : List Sp) (n : Nat) (x : Int) : Prop where
  le : n ≤ 2 * l.length
  lo : ∀ j, j < n → endE l j ≤ x
  hi : ∀ j, n ≤ j → j < 2 * l.length → x < endE l j
theorem Bhd.par {l : List Sp} {n : Nat} {x : Int} (h : Bhd l n x) : inL l x = decide (n % 2 = 1) := by
  have hle := h.le
  rcases Nat.mod_two_eq_zero_or_one n with h2 | h2
  · rw [decide_eq_false (by omega)]
    cases hh : inL l x with
    | false => rfl
    | true =>
      exfalso
      obtain ⟨s, hs, h3, h4⟩ := inL_mem hh
      obtain ⟨j, hj, rfl⟩ := mem_idx hs
      by_cases hjn : 2 * j < n
      · have := h.lo (2 * j + 1) (by omega)
        unfold endE at this
        rw [if_neg (by omega), show (2 * j + 1) / 2 = j by omega] at this
        omega
      · have := h.hi (2 * j) (by omega) (by omega)
        unfold endE at this
        rw [if_pos (by omega), show 2 * j / 2 = j by omega] at this
        omega
  · rw [decide_eq_true h2]
    have hm : n / 2 < l.length := by omega
    refine inL_of_mem (idx_mem hm) ?_ ?_
    · have := h.lo (n - 1) (by omega)
      unfold endE at this
      rwa [if_pos (by omega), show (n - 1) / 2 = n / 2 by omega] at this
    · have := h.hi n (Nat.le_refl _) (by omega)
      unfold endE at this
      rwa [if_neg (by omega)] at this
theorem Bhd.stay {l : List Sp} {n : Nat} {p x : Int} (h : Bhd l n p) (hx : p ≤ x) (hn : n < 2 * l.length → x < endE l n) (hc : Canon l) : Bhd l n x := by
  refine ⟨h.le, fun j hj => Int.le_trans (h.lo j hj) hx, fun j h1 h2 => ?_⟩
  rcases Nat.lt_or_eq_of_le h1 with h3 | h3
  · exact Int.lt_trans (hn (by omega)) (endE_lt hc h3 h2)
  · subst h3; exact hn h2
theorem Bhd.pass {l : List Sp} {n : Nat} {p : Int} (h : Bhd l n p) (hc : Canon l) (hn : n < 2 * l.length) : Bhd l (n + 1) (endE l n) := by
  refine ⟨hn, fun j hj => ?_, fun j h1 h2 => endE_lt hc (by omega) h2⟩
  rcases Nat.lt_succ_iff_lt_or_eq.1 hj with h3 | h3
  · exact Int.le_of_lt (endE_lt hc h3 hn)
  · subst h3; exact Int.le_refl _
theorem Bhd.step {l : List Sp} {n m : Nat} {p at' : Int} (h : Bhd l n p) (hc : Canon l) (hp : p < at') (hle : n < 2 * l.length → at' ≤ endE l n)
    (h1 : m = n + 1 → n < 2 * l.length ∧ endE l n = at') (h0 : m = n → n < 2 * l.length → endE l n ≠ at') (hm : m = n ∨ m = n + 1) : Bhd l m at' := by
  rcases hm with rfl | rfl
  · exact h.stay (by omega) (fun hn => by have a := hle hn; have b := h0 rfl hn; omega) hc
  · obtain ⟨hn, e⟩ := h1 rfl
    rw [← e]
    exact h.pass hc hn
theorem bhd_start {l : List Sp} (hc : Canon l) : ∃ p, ∀ q, q ≤ p → Bhd l 0 q := by
  refine ⟨endE l 0 - 1, fun q hq => ⟨Nat.zero_le _, fun j hj => by omega, fun j _ h2 => ?_⟩⟩
  rcases Nat.eq_zero_or_pos j with rfl | hj
  · omega
  · have := endE_lt hc hj h2
    omega
theorem Bhd.none {l : List Sp} {n : Nat} {p x : Int} (h : Bhd l n p) (hn : n = 2 * l.length) (hx : p ≤ x) : inL l x = false := by
  have : Bhd l n x := ⟨h.le, fun j hj => Int.le_trans (h.lo j hj) hx, fun j h1 h2 => by omega⟩
  rw [this.par, decide_eq_false (by omega)]
theorem Bhd.lt {l : List Sp} {n : Nat} {p : Int} (h : Bhd l n p) (hn : n < 2 * l.length) : p < endE l n := h.hi n (Nat.le_refl _) hn

structure MSt (R : Bool → Bool → Bool) (a b : List Sp) (p : Int) (i k : Nat) (ins : Bool) (fr : Int) (L : List Sp) : Prop where
  ba : Bhd a i p
  bb : Bhd b k p
  now : ins = R (decide (i % 2 = 1)) (decide (k % 2 = 1))
  can : Canon L
  shut : ∀ s ∈ L, s.2 ≤ p
  opn : ins = true → fr ≤ p ∧ (∀ s ∈ L, s.2 < fr) ∧ ∀ x, fr ≤ x → x ≤ p → R (inL a x) (inL b x) = true
  all : ∀ x, x ≤ p → (ins = true → x < fr) → inL L x = R (inL a x) (inL b x)
  len : 2 * L.length + (if ins = true then 1 else 0) ≤ i + k
theorem MSt.start {R : Bool → Bool → Bool} (hR : R false false = false) {a b : List Sp} (ha : Canon a) (hb : Canon b) (fr : Int) : ∃ p, MSt R a b p 0 0 false fr [] := by
  obtain ⟨p, hp⟩ := bhd_start ha
  obtain ⟨q, hq⟩ := bhd_start hb
  have h1 := fun x (hx : x ≤ min p q) => (hp x (by omega)).par
  have h2 := fun x (hx : x ≤ min p q) => (hq x (by omega)).par
  refine ⟨min p q, hp _ (by omega), hq _ (by omega), hR.symm, trivial, fun s hs => by simp at hs, fun h => by simp at h, fun x hx _ => ?_, by simp⟩
  rw [h1 x hx, h2 x hx]
  exact hR.symm
theorem MSt.mid {R : Bool → Bool → Bool} {a b : List Sp} {p : Int} {i k : Nat} {ins : Bool} {fr : Int} {L : List Sp} (h : MSt R a b p i k ins fr L) (ha : Canon a) (hb : Canon b) {at' : Int}
    (h1 : i < 2 * a.length → at' ≤ endE a i) (h2 : k < 2 * b.length → at' ≤ endE b k) {x : Int} (hx : p ≤ x) (hx2 : x < at') : R (inL a x) (inL b x) = ins := by
  rw [(h.ba.stay hx (fun hn => by have := h1 hn; omega) ha).par, (h.bb.stay hx (fun hn => by have := h2 hn; omega) hb).par]
  exact h.now.symm
theorem MSt.step {R : Bool → Bool → Bool} {a b : List Sp} {p : Int} {i k : Nat} {ins : Bool} {fr : Int} {L : List Sp} (h : MSt R a b p i k ins fr L) (ha : Canon a) (hb : Canon b) {at' : Int} {i' k' : Nat}
    (hp : p < at') (h1 : i < 2 * a.length → at' ≤ endE a i) (h2 : k < 2 * b.length → at' ≤ endE b k) (hi : Bhd a i' at') (hk : Bhd b k' at') (hgo : i + k < i' + k')
    {ins' : Bool} (hin : ins' = R (decide (i' % 2 = 1)) (decide (k' % 2 = 1))) :
    MSt R a b at' i' k' ins' (if ins' = ins then fr else at') (if ins = true ∧ ins' = false then L ++ [(fr, at')] else L) := by
  have hmid := fun x (hx : p ≤ x) (hx2 : x < at') => h.mid ha hb h1 h2 hx hx2
  have hat : R (inL a at') (inL b at') = ins' := by rw [hi.par, hk.par]; exact hin.symm
  have hlen := h.len
  have hsh := h.shut
  cases ins with
  | false =>
    have e1 : (if false = true ∧ ins' = false then L ++ [(fr, at')] else L) = L := by rw [if_neg (by simp)]
    rw [e1]
    have hout : ∀ x, x ≤ at' → x < at' ∨ ins' = false → inL L x = R (inL a x) (inL b x) := by
      intro x hx hx2
      by_cases hxp : x ≤ p
      · exact h.all x hxp (fun hh => by simp at hh)
      · rw [inL_high fun s hs => by have := hsh s hs; omega]
        by_cases hxa : x < at'
        · exact (hmid x (by omega) hxa).symm
        · obtain rfl : x = at' := by omega
          rcases hx2 with hx2 | hx2
          · omega
          · rw [hat, hx2]
    cases ins' with
    | false =>
      rw [if_pos rfl]
      exact ⟨hi, hk, hin, h.can, fun s hs => by have := hsh s hs; omega, fun hh => by simp at hh, fun x hx _ => hout x hx (.inr rfl), by simp at hlen ⊢; omega⟩
    | true =>
      rw [if_neg (by simp)]
      refine ⟨hi, hk, hin, h.can, fun s hs => by have := hsh s hs; omega, fun _ => ⟨Int.le_refl _, fun s hs => by have := hsh s hs; omega, fun x hx hx2 => ?_⟩, fun x hx hh => hout x hx (.inl (hh rfl)), by simp at hlen ⊢; omega⟩
      obtain rfl : x = at' := by omega
      exact hat
  | true =>
    obtain ⟨o1, o2, o3⟩ := h.opn rfl
    cases ins' with
    | true =>
      rw [if_pos rfl, if_neg (by simp)]
      refine ⟨hi, hk, hin, h.can, fun s hs => by have := hsh s hs; omega, fun _ => ⟨by omega, o2, fun x hx hx2 => ?_⟩, fun x hx hh => ?_, by simp at hlen ⊢; omega⟩
      · by_cases hxp : x ≤ p
        · exact o3 x hx hxp
        · by_cases hxa : x < at'
          · exact hmid x (by omega) hxa
          · obtain rfl : x = at' := by omega
            exact hat
      · exact h.all x (by have := hh rfl; omega) hh
    | false =>
      rw [if_neg (by simp), if_pos (by simp)]
      refine ⟨hi, hk, hin, canon_snoc.2 ⟨h.can, by show fr < at'; omega, o2⟩, fun s hs => ?_, fun hh => by simp at hh, fun x hx _ => ?_, by simp at hlen ⊢; omega⟩
      · rcases List.mem_append.1 hs with h3 | h3
        · have := hsh s h3; omega
        · simp at h3; subst h3; exact Int.le_refl _
      · rw [inL_snoc]
        by_cases hxf : x < fr
        · rw [decide_eq_false (by show ¬ fr ≤ x; omega), Bool.false_and, Bool.or_false]
          exact h.all x (by omega) (fun _ => hxf)
        · rw [decide_eq_true (by show fr ≤ x; omega), Bool.true_and, inL_high fun s hs => by have := o2 s hs; omega, Bool.false_or]
          by_cases hxa : x < at'
          · rw [decide_eq_true (by show x < at'; exact hxa)]
            by_cases hxp : x ≤ p
            · exact (o3 x (by omega) hxp).symm
            · exact (hmid x (by omega) hxa).symm
          · obtain rfl : x = at' := by omega
            rw [decide_eq_false (by show ¬ x < x; omega), hat]
theorem MSt.done {R : Bool → Bool → Bool} (hR : R false false = false) {a b : List Sp} {p : Int} {i k : Nat} {ins : Bool} {fr : Int} {L : List Sp} (h : MSt R a b p i k ins fr L) (hi : i = 2 * a.length) (hk : k = 2 * b.length) :
    ins = false ∧ Canon L ∧ (∀ x, inL L x = R (inL a x) (inL b x)) := by
  have hn : ins = false := by
    rw [h.now, decide_eq_false (by omega), decide_eq_false (by omega), hR]
  subst hn
  refine ⟨rfl, h.can, fun x => ?_⟩
  by_cases hx : x ≤ p
  · exact h.all x hx (fun hh => by simp at hh)
  · rw [inL_high fun s hs => by have := h.shut s hs; omega, h.ba.none hi (by omega), h.bb.none hk (by omega), hR]
end Wk
end Go.Proofs.YtlbjfbpejomkmaaGreat
namespace Go.Proofs.YtlbjfbpejomkmaaGreat
namespace Wk

def joinStep (out : List Sp) (s : Sp) : List Sp :=
  if out = [] then [s] else if s.1 ≤ (out.getD (out.length - 1) (0, 0)).2 then out.dropLast ++ [((out.getD (out.length - 1) (0, 0)).1, max (out.getD (out.length - 1) (0, 0)).2 s.2)] else out ++ [s]
def joinL (l : List Sp) : List Sp := l.foldl joinStep []
theorem join_take (l : List Sp) (k : Nat) (hk : k < l.length) : joinL (l.take (k + 1)) = joinStep (joinL (l.take k)) (l.getD k (0, 0)) := by
  unfold joinL
  rw [List.take_add_one, List.foldl_append, List.getElem?_eq_getElem hk]
  simp [List.getD_eq_getElem?_getD, List.getElem?_eq_getElem hk]
theorem join_len (out : List Sp) (s : Sp) : (joinStep out s).length ≤ out.length + 1 := by
  unfold joinStep
  split
  · simp
  · split
    · simp
    · simp
theorem joinL_len (l : List Sp) : ∀ k, k ≤ l.length → (joinL (l.take k)).length ≤ k
  | 0, _ => by simp [joinL]
  | k + 1, h => by
    rw [join_take l k (by omega)]
    have := join_len (joinL (l.take k)) (l.getD k (0, 0))
    have := joinL_len l k (by omega)
    omega
theorem last_split {l : List Sp} (h : l ≠ []) : l = l.dropLast ++ [l.getD (l.length - 1) (0, 0)] := by
  have h0 : 0 < l.length := List.length_pos_iff.2 h
  have h1 := List.dropLast_concat_getLast h
  rw [show l.getD (l.length - 1) (0, 0) = l.getLast h by rw [List.getLast_eq_getElem, List.getD_eq_getElem?_getD, List.getElem?_eq_getElem (by omega)]; rfl]
  exact h1.symm
theorem join_ok {out : List Sp} {s : Sp} (hc : Canon out) (hs : s.1 < s.2) (hb : ∀ o ∈ out, o.1 ≤ s.1) :
    Canon (joinStep out s) ∧ (∀ x, inL (joinStep out s) x = (inL out x || (decide (s.1 ≤ x) && decide (x < s.2)))) ∧ ∀ o ∈ joinStep out s, o.1 ≤ s.1 := by
  unfold joinStep
  by_cases h0 : out = []
  · rw [if_pos h0]
    subst h0
    exact ⟨⟨hs, fun t ht => by simp at ht, trivial⟩, fun x => by simp [inL], fun o ho => by simp at ho; subst ho; exact Int.le_refl _⟩
  · rw [if_neg h0]
    obtain ⟨t, ht⟩ : ∃ t, out.getD (out.length - 1) (0, 0) = t := ⟨_, rfl⟩
    have hsp := last_split h0
    rw [ht] at hsp ⊢
    obtain ⟨d, hd⟩ : ∃ d, out.dropLast = d := ⟨_, rfl⟩
    rw [hd] at hsp ⊢
    subst hsp
    obtain ⟨c1, c2, c3⟩ := canon_snoc.1 hc
    have hbt := hb t (by simp)
    split
    · rename_i hle
      refine ⟨canon_snoc.2 ⟨c1, by show t.1 < max t.2 s.2; omega, c3⟩, fun x => ?_, fun o ho => ?_⟩
      · rw [inL_snoc, inL_snoc, Bool.or_assoc]
        congr 1
        show (decide (t.1 ≤ x) && decide (x < max t.2 s.2)) = _
        rw [Bool.eq_iff_iff]
        simp only [Bool.or_eq_true, Bool.and_eq_true, decide_eq_true_eq]
        omega
      · rcases List.mem_append.1 ho with h1 | h1
        · exact hb o (by simp [h1])
        · simp at h1; subst h1; exact hbt
    · rename_i hle
      refine ⟨canon_snoc.2 ⟨hc, hs, fun o ho => ?_⟩, fun x => inL_snoc _ _ _, fun o ho => ?_⟩
      · rcases List.mem_append.1 ho with h1 | h1
        · have := c3 o h1; omega
        · simp at h1; subst h1; omega
      · rcases List.mem_append.1 ho with h1 | h1
        · exact hb o (by simpa using h1)
        · simp at h1; subst h1; exact Int.le_refl _
theorem inL_append (a b : List Sp) (x : Int) : inL (a ++ b) x = (inL a x || inL b x) := by
  induction a with
  | nil => simp [inL]
  | cons t r ih => simp only [List.cons_append, inL, ih, Bool.or_assoc]
theorem joinL_ok {l : List Sp} (hp : ∀ s ∈ l, s.1 < s.2) (hs : l.Pairwise (fun a b => a.1 ≤ b.1)) : Canon (joinL l) ∧ ∀ x, inL (joinL l) x = inL l x := by
  have key : ∀ k, k ≤ l.length → Canon (joinL (l.take k)) ∧ (∀ x, inL (joinL (l.take k)) x = inL (l.take k) x) ∧ ∀ o ∈ joinL (l.take k), ∀ s ∈ l.drop k, o.1 ≤ s.1 := by
    intro k
    induction k with
    | zero => intro _; refine ⟨trivial, fun x => rfl, fun o ho => by simp [joinL] at ho⟩
    | succ k ih =>
      intro hk
      obtain ⟨i1, i2, i3⟩ := ih (by omega)
      have hm : l.getD k (0, 0) ∈ l := idx_mem (by omega)
      have hdr : l.drop k = l.getD k (0, 0) :: l.drop (k + 1) := by
        rw [List.drop_eq_getElem_cons (by omega), List.getD_eq_getElem?_getD, List.getElem?_eq_getElem (by omega)]; rfl
      have htk : l.take (k + 1) = l.take k ++ [l.getD k (0, 0)] := by
        rw [List.take_add_one, List.getElem?_eq_getElem (by omega), List.getD_eq_getElem?_getD, List.getElem?_eq_getElem (by omega)]; rfl
      obtain ⟨j1, j2, j3⟩ := join_ok i1 (hp _ hm) (fun o ho => i3 o ho _ (by rw [hdr]; simp))
      rw [join_take l k (by omega)]
      refine ⟨j1, fun x => ?_, fun o ho s hss => ?_⟩
      · rw [j2, i2, htk, inL_append]
        simp [inL]
      · have h1 := j3 o ho
        have h2 : (l.drop k).Pairwise (fun a b => a.1 ≤ b.1) := hs.sublist (List.drop_sublist k l)
        rw [hdr] at h2
        have := (List.pairwise_cons.1 h2).1 s hss
        omega
  have := key l.length (Nat.le_refl _)
  rw [List.take_length] at this
  exact ⟨this.1, this.2.1⟩
end Wk
end Go.Proofs.YtlbjfbpejomkmaaGreat
namespace Go.Proofs.YtlbjfbpejomkmaaGreat
namespace Wk

end Wk
end Go.Proofs.YtlbjfbpejomkmaaGreat
namespace Go.Proofs.YtlbjfbpejomkmaaGreat
namespace Wk

def mulM (P Q : Int) : Int := P / (Int.gcd P Q : Int) * Q
theorem mulM_bd {P Q : Int} (hP : 1 ≤ P) (hQ : 1 ≤ Q) : 1 ≤ P / (Int.gcd P Q : Int) ∧ P / (Int.gcd P Q : Int) ≤ P ∧ 1 ≤ mulM P Q := by
  have hg : 0 < Int.gcd P Q := Int.gcd_pos_of_ne_zero_left _ (by omega)
  have hle := Int.le_of_dvd (by omega) (Int.gcd_dvd_left (a := P) (b := Q))
  have h1 : 1 ≤ P / (Int.gcd P Q : Int) := Int.le_ediv_of_mul_le (by omega) (by omega)
  refine ⟨h1, Int.ediv_le_self _ (by omega), ?_⟩
  unfold mulM
  have := Int.mul_le_mul h1 hQ (by omega) (by omega)
  omega
theorem mulM_left {P Q : Int} : ∃ c : Int, mulM P Q = c * P := by
  have hd : (Int.gcd P Q : Int) ∣ Q := Int.gcd_dvd_right ..
  have hd2 : (Int.gcd P Q : Int) ∣ P := Int.gcd_dvd_left ..
  obtain ⟨k, hk⟩ := hd
  refine ⟨k, ?_⟩
  unfold mulM
  have h1 := Int.ediv_mul_cancel hd2
  calc P / (Int.gcd P Q : Int) * Q = P / (Int.gcd P Q : Int) * ((Int.gcd P Q : Int) * k) := by rw [← hk]
    _ = P / (Int.gcd P Q : Int) * (Int.gcd P Q : Int) * k := by rw [Int.mul_assoc]
    _ = k * P := by rw [h1, Int.mul_comm]
theorem mulM_right {P Q : Int} : ∃ c : Int, mulM P Q = c * Q := ⟨_, rfl⟩
theorem common_mulM {P Q : Int} (hQ : 1 ≤ Q) : (12622780800 < commonM P Q ↔ 12622780800 < mulM P Q) ∧ (¬ 12622780800 < mulM P Q → commonM P Q = mulM P Q) := by
  have e : 12622780800 / Q < P / (Int.gcd P Q : Int) ↔ 12622780800 < mulM P Q := by
    unfold mulM
    rw [Int.ediv_lt_iff_lt_mul (by omega)]
  unfold commonM
  by_cases h : 12622780800 / Q < P / (Int.gcd P Q : Int)
  · rw [if_pos h]
    exact ⟨⟨fun _ => e.1 h, fun _ => by omega⟩, fun hn => absurd (e.1 h) hn⟩
  · rw [if_neg h]
    exact ⟨Iff.rfl, fun _ => rfl⟩
def pairR (P : Int) (la : Nat) (Q : Int) (lb : Nat) : Int × Int :=
  if 12622780800 < mulM P Q then (0, 9) else if 2000 < mulM P Q / P * la + mulM P Q / Q * lb then (0, 5) else (mulM P Q, 0)
end Wk
end Go.Proofs.YtlbjfbpejomkmaaGreat
namespace Go.Proofs.YtlbjfbpejomkmaaGreat
namespace Wk

theorem memF_of {h : Int → Bool} {f t : Int} (hft : f ≤ t) {L : List Sp} (hc : Canon L) (hv : ∀ x, inL L x = ((decide (f ≤ x) && decide (x < t)) && h x)) : L = memF h f (t - f).toNat := by
  have hr := memF_runs h f (t - f).toNat
  rw [show f + ((t - f).toNat : Int) = t by omega] at hr
  refine canon_ext hc hr.can fun x => ?_
  rw [hv x]
  by_cases hx : f ≤ x ∧ x < t
  · rw [runs_in hr hx.1 hx.2, decide_eq_true hx.1, decide_eq_true hx.2]; rfl
  · rcases (by omega : x < f ∨ t ≤ x) with h1 | h1
    · rw [inL_low (l := memF h f _) fun s hs => by have := (hr.ins s hs).1; omega, decide_eq_false (by omega : ¬ f ≤ x)]; rfl
    · rw [inL_high (l := memF h f _) fun s hs => by have := (hr.ins s hs).2; omega, decide_eq_false (by omega : ¬ x < t)]; simp
end Wk
end Go.Proofs.YtlbjfbpejomkmaaGreat
namespace Go.Proofs.YtlbjfbpejomkmaaGreat
namespace Wk

def endX (l : List Sp) (n : Nat) : Int := if n = 2 * l.length then 8796093022208 else endE l n
theorem endE_bnd {l : List Sp} (hb : Bnd l) {n : Nat} (hn : n < 2 * l.length) : -4398046511104 ≤ endE l n ∧ endE l n ≤ 4398046511104 := by
  have h1 := hb _ (idx_mem (l := l) (j := n / 2) (by omega))
  unfold endE
  split <;> omega
theorem MSt.go {R : Bool → Bool → Bool} {a b : List Sp} {p : Int} {i k : Nat} {ins : Bool} {fr : Int} {L : List Sp} (h : MSt R a b p i k ins fr L) (ha : Canon a) (hb : Canon b) (ba : Bnd a) (bb : Bnd b)
    (hik : i < 2 * a.length ∨ k < 2 * b.length) {x y at' : Int} (hx : endX a i = x) (hy : endX b k = y) (hat : min x y = at') {i' k' : Nat} (hi' : (x = at' → i' = i + 1) ∧ (x ≠ at' → i' = i)) (hk' : (y = at' → k' = k + 1) ∧ (y ≠ at' → k' = k))
    {r : Bool} (hr : R (decide (i' % 2 = 1)) (decide (k' % 2 = 1)) = r) :
    MSt R a b at' i' k' r (if r = ins then fr else at') (if ins = true ∧ r = false then L ++ [(fr, at')] else L) ∧ i' ≤ 2 * a.length ∧ k' ≤ 2 * b.length ∧ i + k < i' + k' ∧ -4398046511104 ≤ at' ∧ at' ≤ 4398046511104 := by
  have hia := h.ba.le
  have hkb := h.bb.le
  have X : (i < 2 * a.length → x = endE a i ∧ -4398046511104 ≤ x ∧ x ≤ 4398046511104 ∧ p < x) ∧ (i = 2 * a.length → x = 8796093022208) := by
    refine ⟨fun hlt => ?_, fun he => by rw [← hx]; unfold endX; rw [if_pos he]⟩
    have e : x = endE a i := by rw [← hx]; unfold endX; rw [if_neg (by omega)]
    have := endE_bnd ba hlt
    have := h.ba.lt hlt
    rw [e]
    exact ⟨rfl, by omega, by omega, by omega⟩
  have Y : (k < 2 * b.length → y = endE b k ∧ -4398046511104 ≤ y ∧ y ≤ 4398046511104 ∧ p < y) ∧ (k = 2 * b.length → y = 8796093022208) := by
    refine ⟨fun hlt => ?_, fun he => by rw [← hy]; unfold endX; rw [if_pos he]⟩
    have e : y = endE b k := by rw [← hy]; unfold endX; rw [if_neg (by omega)]
    have := endE_bnd bb hlt
    have := h.bb.lt hlt
    rw [e]
    exact ⟨rfl, by omega, by omega, by omega⟩
  have hp : p < at' ∧ -4398046511104 ≤ at' ∧ at' ≤ 4398046511104 := by
    rcases Nat.lt_or_eq_of_le hia with h1 | h1
    · obtain ⟨_, x1, x2, x3⟩ := X.1 h1
      rcases Nat.lt_or_eq_of_le hkb with h2 | h2
      · obtain ⟨_, y1, y2, y3⟩ := Y.1 h2; omega
      · have := Y.2 h2; omega
    · have x1 := X.2 h1
      rcases Nat.lt_or_eq_of_le hkb with h2 | h2
      · obtain ⟨_, y1, y2, y3⟩ := Y.1 h2; omega
      · omega
  have h1 : i < 2 * a.length → at' ≤ endE a i := fun hlt => by rw [← (X.1 hlt).1]; omega
  have h2 : k < 2 * b.length → at' ≤ endE b k := fun hlt => by rw [← (Y.1 hlt).1]; omega
  have hbi : Bhd a i' at' := by
    by_cases e : x = at'
    · have hi := hi'.1 e
      have hlt : i < 2 * a.length := by
        rcases Nat.lt_or_eq_of_le hia with h3 | h3
        · exact h3
        · have := X.2 h3; omega
      exact h.ba.step ha hp.1 h1 (fun _ => ⟨hlt, by rw [← (X.1 hlt).1]; exact e⟩) (fun hh => by omega) (.inr hi)
    · have hi := hi'.2 e
      exact h.ba.step ha hp.1 h1 (fun hh => by omega) (fun _ hlt => by rw [← (X.1 hlt).1]; exact e) (.inl hi)
  have hbk : Bhd b k' at' := by
    by_cases e : y = at'
    · have hk := hk'.1 e
      have hlt : k < 2 * b.length := by
        rcases Nat.lt_or_eq_of_le hkb with h3 | h3
        · exact h3
        · have := Y.2 h3; omega
      exact h.bb.step hb hp.1 h2 (fun _ => ⟨hlt, by rw [← (Y.1 hlt).1]; exact e⟩) (fun hh => by omega) (.inr hk)
    · have hk := hk'.2 e
      exact h.bb.step hb hp.1 h2 (fun hh => by omega) (fun _ hlt => by rw [← (Y.1 hlt).1]; exact e) (.inl hk)
  have hgo : i + k < i' + k' := by
    rcases (by omega : x = at' ∨ y = at') with e | e
    · have := hi'.1 e
      by_cases e2 : y = at'
      · have := hk'.1 e2; omega
      · have := hk'.2 e2; omega
    · have := hk'.1 e
      by_cases e2 : x = at'
      · have := hi'.1 e2; omega
      · have := hi'.2 e2; omega
  exact ⟨h.step ha hb hp.1 h1 h2 hbi hbk hgo hr.symm, hbi.le, hbk.le, hgo, hp.2⟩

def dnM (L : List Sp) : List Sp × Int := if 2000 < L.length then ([], 5) else (L, 0)
end Wk
end Go.Proofs.YtlbjfbpejomkmaaGreat
