import Derived.Test.YtlbglinpgjlbkaaGreatDoorWkQa
import Derived.Lib.Replace
/- Zone texts, plain: what was parsed has a text; the lines of a text. -/
namespace Go.Proofs.YtlbglinpgjlbkaaGreatDoor
namespace Wk
open Go.Lib

end Wk
end Go.Proofs.YtlbglinpgjlbkaaGreatDoor
namespace Go.Proofs.YtlbglinpgjlbkaaGreatDoor
namespace Wk
open Go.Lib

theorem more_mem {ws : List Tok} {c : UInt8} {w : Tok} (hn : ws ≠ []) (hw : w ∈ moreT ws c) : w ∈ ws ∨ ∃ v ∈ ws, w.tx = v.tx ++ [c] ∧ w.ln = v.ln ∧ w.co = v.co := by
 unfold moreT at hw
 rw [List.mem_append] at hw
 rcases hw with hw | hw
 ·exact .inl ((List.dropLast_sublist ws).subset hw)
 ·rw [List.mem_singleton] at hw
  refine .inr ⟨ws.getLastD tok0, ?_, by rw [hw], by rw [hw], by rw [hw]⟩
  rw [List.getLastD_eq_getLast?, List.getLast?_eq_some_getLast hn]
  exact List.getLast_mem hn
/-! readers that see the same words -/
end Wk
end Go.Proofs.YtlbglinpgjlbkaaGreatDoor
namespace Go.Proofs.YtlbglinpgjlbkaaGreatDoor
namespace Wk
open Go.Lib

/-! blanks and comments -/
/-! the lines before an error -/
end Wk
end Go.Proofs.YtlbglinpgjlbkaaGreatDoor
namespace Go.Proofs.YtlbglinpgjlbkaaGreatDoor
namespace Wk
open Go.Lib

end Wk
end Go.Proofs.YtlbglinpgjlbkaaGreatDoor
namespace Go.Proofs.YtlbglinpgjlbkaaGreatDoor
namespace Wk
open Go.Lib

theorem wday_back {s : Bs} (h : (findM' wdayL s).2 = 0) : getM wdayL (findM' wdayL s).1 = s ∧ wdB (findM' wdayL s).1 = true := by
 unfold findM' at h ⊢
 cases hf : wdayL.findIdx? (· == s) with
 | none => rw [hf] at h; exact absurd h (by simp)
 | some k =>
  simp only
  rw [List.findIdx?_eq_some_iff_getElem] at hf
  obtain ⟨hk, he, -⟩ := hf
  have he : wdayL[k] = s := by simpa using he
  have h7 : wdayL.length = 7 := rfl
  refine ⟨?_, ?_⟩
  ·unfold getM
   rw [if_neg (by omega), List.getD_eq_getElem?_getD, show ((k : Int) + 1).toNat - 1 = k by omega, List.getElem?_eq_getElem hk]
   exact he
  ·unfold wdB
   simp
   omega
end Wk
end Go.Proofs.YtlbglinpgjlbkaaGreatDoor
namespace Go.Proofs.YtlbglinpgjlbkaaGreatDoor
namespace Wk
open Go.Lib

theorem index_one : ∀ (s : Bs) (c : UInt8), index s [c] = if s.contains c = true then ((s.takeWhile (· != c)).length : Int) else -1
 | [], c => rfl
 | d :: r, c => by
  unfold index
  by_cases h : c = d
  ·subst h
   rw [if_pos (by simp [List.isPrefixOf]), if_pos (by simp)]
   simp
  ·have h0 : [c].isPrefixOf (d :: r) = false := by simp [List.isPrefixOf, h]
   have h1 : (d != c) = true := by simpa using fun e => h e.symm
   rw [h0, if_neg (by simp), index_one r c, List.takeWhile_cons_of_pos (p := (· != c)) h1]
   have h2 : (d :: r).contains c = r.contains c := by simp [h]
   rw [h2]
   by_cases h3 : r.contains c = true
   ·rw [if_pos h3, if_pos h3, if_neg (by simp), List.length_cons]
    omega
   ·rw [if_neg h3, if_neg h3, if_pos (by simp)]
theorem take_while (s : Bs) (c : UInt8) : s.take (s.takeWhile (· != c)).length = s.takeWhile (· != c) ∧ s.drop ((s.takeWhile (· != c)).length + 1) = (s.dropWhile (· != c)).tail := by
 have e := List.takeWhile_append_dropWhile (p := (· != c)) (l := s)
 generalize s.takeWhile (· != c) = a at *
 generalize s.dropWhile (· != c) = b at *
 subst e
 refine ⟨by simp, ?_⟩
 rw [← List.drop_drop, List.drop_left]
 cases b <;> rfl
theorem cut_one (s : Bs) (c : UInt8) : cut s [c] = if s.contains c = true then (s.takeWhile (· != c), (s.dropWhile (· != c)).tail, true) else (s, [], false) := by
 obtain ⟨g1, g2⟩ := take_while s c
 unfold cut
 rw [index_one]
 by_cases h : s.contains c = true
 ·rw [if_pos h, if_pos h, if_pos (by omega)]
  simp only [Int.toNat_natCast, List.length_cons, List.length_nil]
  rw [g1, g2]
 ·rw [if_neg h, if_neg h, if_neg (by omega)]
theorem split_take : ∀ (s : Bs), splitNl s = if s.contains 10 = true then s.takeWhile (· != 10) :: splitNl (s.dropWhile (· != 10)).tail else [s]
 | [] => rfl
 | c :: r => by
  rw [splitNl]
  by_cases h : c = 10
  ·subst h
   simp
  ·have h1 : (c != 10) = true := by simpa using h
   have h2 : (c :: r).contains 10 = r.contains 10 := by
    have : ((10 : UInt8) == c) = false := by simpa using fun e => h e.symm
    rw [List.contains_cons, this, Bool.false_or]
   have h0 : ¬(c == 10) = true := by simpa using h
   rw [if_neg h0, split_take r, h2, List.takeWhile_cons_of_pos (p := (· != 10)) h1, List.dropWhile_cons_of_pos (p := (· != 10)) h1]
   by_cases h3 : r.contains 10 = true
   ·rw [if_pos h3, if_pos h3]
   ·rw [if_neg h3, if_neg h3]
theorem drop_less {s : Bs} (h : s.contains 10 = true) : ((s.dropWhile (· != 10)).tail).length < s.length := by
 have := congrArg List.length (show s = s.takeWhile (· != 10) ++ 10 :: (s.dropWhile (· != 10)).tail from by
  have e := List.takeWhile_append_dropWhile (p := (· != 10)) (l := s)
  have : ∀ (t : Bs), t.contains 10 = true → ∃ y, t.dropWhile (· != 10) = 10 :: y := fun t => by
   induction t with
   | nil => intro q; exact absurd q (by simp)
   | cons c r ih =>
    intro q
    by_cases hc : c = 10
    ·subst hc; exact ⟨r, by simp⟩
    ·have h1 : (c != 10) = true := by simpa using hc
     have h2 : r.contains 10 = true := by
      simp only [List.contains_cons, Bool.or_eq_true, beq_iff_eq] at q
      exact q.resolve_left fun e => hc e.symm
     rw [List.dropWhile_cons_of_pos (p := (· != 10)) h1]
     exact ih h2
  obtain ⟨y, hy⟩ := this s h
  rw [hy] at e ⊢
  exact e.symm)
 rw [List.length_append, List.length_cons] at this
 omega
theorem splitK_nl : ∀ (n : Nat) (s : Bs), s.length ≤ n → splitK [10] 0 (countFrom [10] (n + 1) s) s = splitNl s
 | n, s, hn => by
  obtain ⟨g1, g2⟩ := take_while s 10
  rw [countFrom, index_one, split_take]
  by_cases h : s.contains 10 = true
  ·have hl := drop_less h
   rw [if_pos h, if_pos h, if_neg (by simp), Nat.add_comm 1, splitK, index_one, if_pos h, if_neg (by simp)]
   simp only [Int.toNat_natCast, List.length_cons, List.length_nil, Nat.add_zero]
   rw [g1, g2]
   cases n with
   | zero => omega
   | succ n => rw [splitK_nl n _ (by omega)]
  ·rw [if_neg h, if_neg h, if_pos (by simp), splitK]
theorem split_nl (s : Bs) : split s [10] = splitNl s := splitK_nl s.length s (Nat.le_refl _)
theorem cutPct_index : ∀ (s : Bs), cutPct s = if index s [37, 115] = -1 then none else some (s.take (index s [37, 115]).toNat, s.drop ((index s [37, 115]).toNat + 2))
 | [] => rfl
 | [c] => by
  have h0 : [37, 115].isPrefixOf [c] = false := by simp [List.isPrefixOf]
  have : index [c] [37, 115] = -1 := by
   unfold index
   rw [h0]
   rfl
  rw [this, if_pos rfl, cutPct]
  ·rfl
  ·intro r' _ e2
   exact absurd e2 (by simp)
 | c :: d :: r => by
  by_cases hc : c = 37 ∧ d = 115
  ·obtain ⟨rfl, rfl⟩ := hc
   have : index (37 :: 115 :: r) [37, 115] = 0 := by
    unfold index
    rw [if_pos (by simp [List.isPrefixOf])]
   rw [this, if_neg (by decide), cutPct]
   rfl
  ·have h0 : [37, 115].isPrefixOf (c :: d :: r) = false := by
    rw [← Bool.not_eq_true]
    intro q
    simp only [List.isPrefixOf, Bool.and_eq_true, beq_iff_eq, Bool.and_true] at q
    exact hc ⟨q.1.symm, q.2.symm⟩
   have ih := cutPct_index (d :: r)
   have hx : index (c :: d :: r) [37, 115] = if index (d :: r) [37, 115] == -1 then -1 else index (d :: r) [37, 115] + 1 := by
    conv => lhs; unfold index
    rw [h0, if_neg (by simp)]
   rw [cutPct, ih]
   ·have hge := index_ge (d :: r) [37, 115]
    by_cases h : index (d :: r) [37, 115] = -1
    ·rw [hx, h]; rfl
    ·have hb : (index (d :: r) [37, 115] == -1) = false := by simpa using h
     have hge2 : 0 ≤ index (d :: r) [37, 115] := by omega
     have e : (index (d :: r) [37, 115] + 1).toNat = (index (d :: r) [37, 115]).toNat + 1 := by omega
     have e2 : index (d :: r) [37, 115] + 1 ≠ -1 := by omega
     rw [hb, if_neg (by simp)] at hx
     rw [hx, if_neg h, if_neg e2, e]
     rfl
   ·intro r' e1 e2
    injection e2 with e2 _
    exact hc ⟨e1, e2⟩
theorem count_pct (s : Bs) : (cutPct s = none → count s [37, 115] = 0) ∧ ∀ a b, cutPct s = some (a, b) → (cutPct b = none → count s [37, 115] = 1) ∧ (cutPct b ≠ none → count s [37, 115] ≠ 1) := by
 have h := cutPct_index s
 have hge := index_ge s [37, 115]
 constructor
 ·intro hn
  have hi : index s [37, 115] = -1 := by
   by_cases q : index s [37, 115] = -1
   ·exact q
   ·rw [if_neg q, hn] at h
    exact absurd h (by simp)
  unfold count
  rw [countFrom, hi]
  rfl
 ·intro a b hs
  have hi : index s [37, 115] ≠ -1 := fun q => by
   rw [if_pos q, hs] at h
   exact absurd h (by simp)
  rw [if_neg hi, hs] at h
  injection h with h
  injection h with h1 h2
  have hbq : (index s [37, 115] == -1) = false := by simpa using hi
  have hlen := congrArg List.length (cutPct_eq hs)
  simp only [List.length_append, List.length_cons] at hlen
  have hc : count s [37, 115] = 1 + countFrom [37, 115] s.length b := by
   unfold count
   rw [countFrom, hbq, if_neg (by simp), h2]
   rfl
  have hb := cutPct_index b
  obtain ⟨n, hn⟩ : ∃ n, s.length = n + 1 := ⟨s.length - 1, by omega⟩
  rw [hc, hn, countFrom]
  constructor
  ·intro hbn
   have hi2 : index b [37, 115] = -1 := by
    by_cases q : index b [37, 115] = -1
    ·exact q
    ·rw [if_neg q, hbn] at hb
     exact absurd hb (by simp)
   rw [hi2]
   rfl
  ·intro hbn
   have hi2 : (index b [37, 115] == -1) = false := by
    rw [beq_eq_false_iff_ne]
    intro q
    rw [if_pos q] at hb
    exact hbn hb
   rw [hi2, if_neg (by simp)]
   omega
theorem not_only {s m : Bs} {c : UInt8} (hc : c ∈ s) (h : (letC c || digC c || m.contains c) = false) : onlyB s m = false := by
 unfold onlyB
 rw [List.all_eq_false]
 exact ⟨c, hc, by rw [h]; simp⟩
theorem not_plain {s : Bs} {c : UInt8} (hc : c ∈ s) (h : (letC c || digC c || ([43, 45] : Bs).contains c) = false) : plainB s = false := by
 unfold plainB
 rw [not_only hc h, Bool.and_false]
def fmtP (s : Bs) : Bool :=
 if count s [37, 115] = 1 then decide (1 ≤ (replace s [37, 115] [] 1).length) && decide ((replace s [37, 115] [] 1).length ≤ 4) && onlyB (replace s [37, 115] [] 1) [43, 45]
 else if (cut s [47]).2.2 = true then plainB (cut s [47]).1 && plainB (cut s [47]).2.1 else plainB s
theorem mem_cut {s : Bs} (h : s.contains 47 = true) {c : UInt8} (hc : c ∈ s) (h47 : c ≠ 47) : c ∈ s.takeWhile (· != 47) ∨ c ∈ (s.dropWhile (· != 47)).tail := by
 rw [slash_eq h, List.mem_append, List.mem_cons] at hc
 rcases hc with hc | hc | hc
 ·exact .inl hc
 ·exact absurd hc h47
 ·exact .inr hc
theorem fmt_prog (s : Bs) : fmtP s = fmtB s := by
 obtain ⟨c1, c2⟩ := count_pct s
 have h := cutPct_index s
 unfold fmtP fmtB
 cases hs : cutPct s with
 | none =>
  rw [c1 hs, if_neg (by decide), cut_one]
  by_cases h47 : s.contains 47 = true
  ·simp only [h47, if_true]
  ·simp only [h47, Bool.false_eq_true, if_false]
 | some p =>
  obtain ⟨a, b⟩ := p
  obtain ⟨d1, d2⟩ := c2 a b hs
  simp only
  have he := cutPct_eq hs
  by_cases hb : cutPct b = none
  ·have hr : replace s [37, 115] [] 1 = a ++ b := by
    have hi : index s [37, 115] ≠ -1 := fun q => by
     rw [if_pos q, hs] at h
     exact absurd h (by simp)
    rw [if_neg hi, hs] at h
    injection h with h
    injection h with h1 h2
    have hnum : replaceNum s [37, 115] 1 = 1 := by
     unfold replaceNum
     rw [d1 hb, if_neg (by decide)]
     rfl
    have hbq : ¬(index s [37, 115] == -1) = true := by simpa using hi
    unfold replace
    rw [if_neg (by decide), hnum, replaceK, if_neg hbq, List.append_nil, ← h1, replaceK]
    exact congrArg (a ++ ·) h2.symm
   rw [if_pos (d1 hb), hr]
  ·have hm : (37 : UInt8) ∈ b := by
    cases hq : cutPct b with
    | none => exact absurd hq hb
    | some q => rw [cutPct_eq (a := q.1) (b := q.2) hq]; simp
   have hf : onlyB (a ++ b) [43, 45] = false := not_only (c := 37) (by simp [hm]) (by decide)
   have hms : (37 : UInt8) ∈ s := by rw [he]; simp
   rw [if_neg (d2 hb), hf, Bool.and_false, cut_one]
   by_cases h47 : s.contains 47 = true
   ·simp only [h47, if_true]
    rcases mem_cut h47 hms (by decide) with g | g
    ·rw [not_plain g (by decide), Bool.false_and]
    ·rw [not_plain g (by decide), Bool.and_false]
   ·simp only [h47, Bool.false_eq_true, if_false]
    exact not_plain hms (by decide)
def fmtF (p : Bs) : Bs → Bool
 | [] => false
 | c :: r => if c = 47 then plainB p && plainB r else if c = 37 ∧ r.head? = some 115 then decide (1 ≤ (p ++ r.tail).length) && decide ((p ++ r.tail).length ≤ 4) && onlyB (p ++ r.tail) [43, 45] else fmtF (p ++ [c]) r
def fmtR (s : Bs) : Bool := if plainB s = true then true else fmtF [] s
theorem cutPct_cons (c : UInt8) (r : Bs) (h : ¬(c = 37 ∧ r.head? = some 115)) : cutPct (c :: r) = (cutPct r).map fun p => (c :: p.1, p.2) := by
 rw [cutPct]
 intro r' e1 e2
 exact h ⟨e1, by rw [e2]; rfl⟩
theorem fmtF_eq : ∀ (s p : Bs), (∀ c ∈ p, c ≠ 47) → fmtF p s = match cutPct s with
  | some (a, b) => decide (1 ≤ (p ++ a ++ b).length) && decide ((p ++ a ++ b).length ≤ 4) && onlyB (p ++ a ++ b) [43, 45]
  | none => if s.contains 47 = true then plainB (p ++ s.takeWhile (· != 47)) && plainB ((s.dropWhile (· != 47)).tail) else false
 | [], p, _ => rfl
 | c :: r, p, hp => by
  rw [fmtF]
  by_cases h47 : c = 47
  ·subst h47
   rw [if_pos rfl, cutPct_cons _ _ (fun q => absurd q.1 (by decide))]
   cases hr : cutPct r with
   | none => simp
   | some q =>
    have hm : (37 : UInt8) ∈ r := by rw [cutPct_eq (a := q.1) (b := q.2) hr]; simp
    simp only [Option.map_some]
    rw [not_plain hm (by decide), Bool.and_false, not_only (c := 47) (by simp) (by decide), Bool.and_false]
  ·rw [if_neg h47]
   by_cases hc : c = 37 ∧ r.head? = some 115
   ·rw [if_pos hc]
    obtain ⟨rfl, h2⟩ := hc
    cases r with
    | nil => exact absurd h2 (by simp)
    | cons d r =>
     have : d = 115 := by simpa using h2
     subst this
     rw [cutPct]
     simp
   ·rw [if_neg hc, cutPct_cons _ _ hc, fmtF_eq r (p ++ [c]) fun x hx => by
     rw [List.mem_append, List.mem_singleton] at hx
     rcases hx with hx | rfl
     ·exact hp x hx
     ·exact h47]
    have h1 : (c != 47) = true := by simpa using h47
    have h2 : (c :: r).contains 47 = r.contains 47 := by
     have : ((47 : UInt8) == c) = false := by simpa using fun e => h47 e.symm
     rw [List.contains_cons, this, Bool.false_or]
    rw [h2, List.takeWhile_cons_of_pos (p := (· != 47)) h1, List.dropWhile_cons_of_pos (p := (· != 47)) h1]
    cases cutPct r with
    | none => simp
    | some q => simp
theorem fmt_ref (s : Bs) : fmtR s = fmtB s := by
 unfold fmtR fmtB
 rw [fmtF_eq s [] (by simp)]
 by_cases hp : plainB s = true
 ·rw [if_pos hp]
  have hno : ∀ c : UInt8, (letC c || digC c || ([43, 45] : Bs).contains c) = false → c ∉ s := fun c h q => by
   rw [not_plain q h] at hp
   exact absurd hp (by simp)
  cases hs : cutPct s with
  | none =>
   have : s.contains 47 = false := by
    rw [← Bool.not_eq_true]
    intro q
    exact hno 47 (by decide) (by simpa using q)
   simp only [this, Bool.false_eq_true, if_false]
   exact hp.symm
  | some q =>
   exact absurd (show (37 : UInt8) ∈ s by rw [cutPct_eq (a := q.1) (b := q.2) hs]; simp) (hno 37 (by decide))
 ·rw [if_neg hp]
  cases hs : cutPct s with
  | none =>
   simp only [List.nil_append]
   by_cases h47 : s.contains 47 = true
   ·simp only [h47, if_true]
   ·simp only [h47, Bool.false_eq_true, if_false]
    simpa using hp
  | some q => rfl
end Wk
end Go.Proofs.YtlbglinpgjlbkaaGreatDoor
namespace Go.Proofs.YtlbglinpgjlbkaaGreatDoor
namespace Wk
open Go.Lib

def splitC (c : UInt8) : Bs → List Bs
 | [] => [[]]
 | d :: r => if d == c then [] :: splitC c r else match splitC c r with
  | [] => [[d]]
  | l :: ls => (d :: l) :: ls
theorem splitC_ne (c : UInt8) : ∀ (s : Bs), splitC c s ≠ []
 | [] => by simp [splitC]
 | d :: r => by
  rw [splitC]
  split
  ·simp
  ·split <;> simp
theorem splitC_take (c : UInt8) : ∀ (s : Bs), splitC c s = if s.contains c = true then s.takeWhile (· != c) :: splitC c (s.dropWhile (· != c)).tail else [s]
 | [] => rfl
 | d :: r => by
  rw [splitC]
  by_cases h : d = c
  ·subst h
   simp
  ·have h1 : (d != c) = true := by simpa using h
   have h2 : (d :: r).contains c = r.contains c := by
    have : (c == d) = false := by simpa using fun e => h e.symm
    rw [List.contains_cons, this, Bool.false_or]
   have h0 : ¬(d == c) = true := by simpa using h
   rw [if_neg h0, splitC_take c r, h2, List.takeWhile_cons_of_pos (p := (· != c)) h1, List.dropWhile_cons_of_pos (p := (· != c)) h1]
   by_cases h3 : r.contains c = true
   ·rw [if_pos h3, if_pos h3]
   ·rw [if_neg h3, if_neg h3]
theorem drop_lessC (c : UInt8) : ∀ {s : Bs}, s.contains c = true → ((s.dropWhile (· != c)).tail).length < s.length
 | [], h => absurd h (by simp)
 | d :: r, h => by
  by_cases hc : d = c
  ·subst hc
   simp
  ·have h1 : (d != c) = true := by simpa using hc
   have h2 : r.contains c = true := by
    simp only [List.contains_cons, Bool.or_eq_true, beq_iff_eq] at h
    exact h.resolve_left fun e => hc e.symm
   rw [List.dropWhile_cons_of_pos (p := (· != c)) h1, List.length_cons]
   have := drop_lessC c h2
   omega
theorem splitK_c (c : UInt8) : ∀ (n : Nat) (s : Bs), s.length ≤ n → splitK [c] 0 (countFrom [c] (n + 1) s) s = splitC c s
 | n, s, hn => by
  obtain ⟨g1, g2⟩ := take_while s c
  rw [countFrom, index_one, splitC_take]
  by_cases h : s.contains c = true
  ·have hl := drop_lessC c h
   rw [if_pos h, if_pos h, if_neg (by simp), Nat.add_comm 1, splitK, index_one, if_pos h, if_neg (by simp)]
   simp only [Int.toNat_natCast, List.length_cons, List.length_nil, Nat.add_zero]
   rw [g1, g2]
   cases n with
   | zero => omega
   | succ n => rw [splitK_c c n _ (by omega)]
  ·rw [if_neg h, if_neg h, if_pos (by simp), splitK]
theorem split_c (c : UInt8) (s : Bs) : split s [c] = splitC c s := splitK_c c s.length s (Nat.le_refl _)
/-! spans of time -/
def partB (p : Bs) : Bool := decide (p.length = 2) && p.all digC && decide (decV p ≤ 59)
def spanL : List Bs → Option Nat
 | [h] => if hourB h = true then some (3600 * decV h) else none
 | [h, m] => if (hourB h && partB m) = true then some (3600 * decV h + 60 * decV m) else none
 | [h, m, s] => if (hourB h && partB m && partB s) = true then some (3600 * decV h + 60 * decV m + decV s) else none
 | _ => none
theorem decV_two (a b : UInt8) : decV [a, b] = sixV a b := by
 unfold decV decF sixV
 simp
theorem part_two (a b : UInt8) : partB [a, b] = sixB a b := by
 rw [Bool.eq_iff_iff]
 unfold partB sixB
 rw [decV_two]
 unfold sixV
 simp only [List.all_cons, List.all_nil, Bool.and_true, Bool.and_eq_true, decide_eq_true_eq, List.length_cons, List.length_nil]
 constructor
 ·rintro ⟨⟨-, h1, h2⟩, h3⟩
  have := dig_of h1
  have := dig_of h2
  exact ⟨⟨h1, h2⟩, by omega⟩
 ·rintro ⟨⟨h1, h2⟩, h3⟩
  have := dig_of h1
  have := dig_of h2
  exact ⟨⟨trivial, h1, h2⟩, by omega⟩
theorem dig_ne58 {c : UInt8} (h : digC c = true) : (c == 58) = false := by
 rw [beq_eq_false_iff_ne]
 rintro rfl
 exact absurd h (by decide)
theorem part_len {p : Bs} (h : p.length ≠ 2) : partB p = false := by
 unfold partB
 rw [decide_eq_false h]
 rfl
theorem split_one {p : Bs} (h : p.contains 58 = false) : splitC 58 p = [p] := by
 rw [splitC_take, h]
 rfl
theorem part_no {p : Bs} (h : partB p = true) : ∃ a b, p = [a, b] ∧ sixB a b = true ∧ (a == 58) = false ∧ (b == 58) = false := by
 match p, h with
 | [], h => exact absurd h (by decide)
 | [a], h => exact absurd h (by rw [part_len (by simp)]; simp)
 | [a, b], h =>
  rw [part_two] at h
  have h' := h
  unfold sixB at h'
  simp only [Bool.and_eq_true] at h'
  exact ⟨a, b, rfl, h, dig_ne58 h'.1.1, dig_ne58 h'.1.2⟩
 | a :: b :: c :: r, h => exact absurd h (by rw [part_len (by simp)]; simp)
theorem six_no {a b : UInt8} (h : sixB a b = true) : (a == 58) = false ∧ (b == 58) = false := by
 unfold sixB at h
 simp only [Bool.and_eq_true] at h
 exact ⟨dig_ne58 h.1.1, dig_ne58 h.1.2⟩
theorem splitC_cons {c d : UInt8} (r : Bs) (h : (d == c) = false) : ∃ l ls, splitC c r = l :: ls ∧ splitC c (d :: r) = (d :: l) :: ls := by
 cases hs : splitC c r with
 | nil => exact absurd hs (splitC_ne c r)
 | cons l ls =>
  refine ⟨l, ls, rfl, ?_⟩
  rw [splitC, h, if_neg (by simp), hs]
def spanTl (H : Nat) : Bs → Option Nat
 | [] => some H
 | [_, a, b] => if sixB a b = true then some (H + 60 * sixV a b) else none
 | [_, a, b, c, d, e] => if (sixB a b && c == 58 && sixB d e) = true then some (H + 60 * sixV a b + sixV d e) else none
 | _ => none
theorem span_tl (s : Bs) : spanM s = if hourB (s.takeWhile (· != 58)) = false then none else spanTl (3600 * decV (s.takeWhile (· != 58))) (s.dropWhile (· != 58)) := by
 unfold spanM
 generalize s.dropWhile (· != 58) = t
 split
 ·rfl
 ·match t with
  | [] => rfl
  | [_] => rfl
  | [_, _] => rfl
  | [_, _, _] => rfl
  | [_, _, _, _] => rfl
  | [_, _, _, _, _] => rfl
  | [_, _, _, _, _, _] => rfl
  | _ :: _ :: _ :: _ :: _ :: _ :: _ :: _ => rfl
theorem parts_back : ∀ (t : Bs) (H : Nat), spanTl H (58 :: t) = match splitC 58 t with
  | [m] => if partB m = true then some (H + 60 * decV m) else none
  | [m, s] => if (partB m && partB s) = true then some (H + 60 * decV m + decV s) else none
  | _ => none := by
 intro t H
 -- what the parts say of the bytes
 have key : ∀ m s, splitC 58 t = [m, s] → partB m = true → partB s = true → ∃ a b d e, t = [a, b, 58, d, e] := fun m s ht hm hs => by
  have h1 : t.contains 58 = true := by
   rw [← Bool.not_eq_false]
   intro q
   rw [split_one q] at ht
   exact absurd ht (by simp)
  rw [splitC_take, if_pos h1] at ht
  injection ht with ht1 ht2
  obtain ⟨a, b, rfl, -, -, -⟩ := part_no hm
  obtain ⟨d, e, rfl, -, -, -⟩ := part_no hs
  have h2 : ((t.dropWhile (· != 58)).tail).contains 58 = false := by
   rw [← Bool.not_eq_true]
   intro q
   rw [splitC_take, if_pos q] at ht2
   injection ht2 with _ q2
   exact splitC_ne _ _ q2
  rw [split_one h2] at ht2
  injection ht2 with ht2 _
  have e : ∀ (u : Bs), u.contains 58 = true → u = u.takeWhile (· != 58) ++ 58 :: (u.dropWhile (· != 58)).tail := fun u => by
   induction u with
   | nil => intro q; exact absurd q (by simp)
   | cons c r ih =>
    intro q
    by_cases hc : c = 58
    ·subst hc; simp
    ·have g1 : (c != 58) = true := by simpa using hc
     have g2 : r.contains 58 = true := by
      simp only [List.contains_cons, Bool.or_eq_true, beq_iff_eq] at q
      exact q.resolve_left fun e => hc e.symm
     rw [List.takeWhile_cons_of_pos (p := (· != 58)) g1, List.dropWhile_cons_of_pos (p := (· != 58)) g1, List.cons_append]
     exact congrArg (c :: ·) (ih g2)
  have := e t h1
  rw [ht1, ht2] at this
  exact ⟨a, b, d, _, this⟩
 have key1 : ∀ m, splitC 58 t = [m] → t = m := fun m ht => by
  by_cases q : t.contains 58 = true
  ·rw [splitC_take, if_pos q] at ht
   injection ht with _ q2
   exact absurd q2 (splitC_ne _ _)
  ·rw [split_one (by simpa using q)] at ht
   injection ht
 by_cases hlen : t.length = 2
 ·match t, hlen with
  | [a, b], _ =>
   rw [spanTl]
   by_cases hs : sixB a b = true
   ·obtain ⟨n1, n2⟩ := six_no hs
    have : splitC 58 [a, b] = [[a, b]] := by
     apply split_one
     simp only [List.contains_cons, List.contains_nil, Bool.or_false]
     rw [Bool.or_eq_false_iff, beq_eq_false_iff_ne, beq_eq_false_iff_ne]
     rw [beq_eq_false_iff_ne] at n1 n2
     exact ⟨fun e => n1 e.symm, fun e => n2 e.symm⟩
    rw [this]
    simp only
    rw [part_two, decV_two]
   ·rw [if_neg hs]
    split
    ·rename_i m ht
     have := key1 m ht
     subst this
     rw [part_two, if_neg hs]
    ·rename_i m s ht
     rw [if_neg]
     intro q
     rw [Bool.and_eq_true] at q
     obtain ⟨_, _, _, _, e⟩ := key m s ht q.1 q.2
     exact absurd (congrArg List.length e) (by simp)
    ·rfl
 ·by_cases hlen5 : t.length = 5
  ·match t, hlen5 with
   | [a, b, c, d, e], _ =>
    rw [spanTl]
    by_cases hs : (sixB a b && c == 58 && sixB d e) = true
    ·rw [if_pos hs]
     simp only [Bool.and_eq_true, beq_iff_eq] at hs
     obtain ⟨⟨h1, rfl⟩, h3⟩ := hs
     obtain ⟨n1, n2⟩ := six_no h1
     obtain ⟨n3, n4⟩ := six_no h3
     have : splitC 58 [a, b, 58, d, e] = [[a, b], [d, e]] := by
      simp [splitC, n1, n2, n3, n4]
     rw [this]
     simp only
     rw [part_two, part_two, decV_two, decV_two, h1, h3]
     rfl
    ·rw [if_neg hs]
     split
     ·rename_i m ht
      have := key1 m ht
      subst this
      rw [part_len (by simp), if_neg (by simp)]
     ·rename_i m s ht
      rw [if_neg]
      intro q
      rw [Bool.and_eq_true] at q
      obtain ⟨a', b', d', e', he⟩ := key m s ht q.1 q.2
      injection he with e1 he
      injection he with e2 he
      injection he with e3 he
      injection he with e4 he
      injection he with e5 he
      subst e1 e2 e3 e4 e5
      have hm := part_no q.1
      have hsp := part_no q.2
      obtain ⟨x1, x2, rfl, k1, n1, n2⟩ := hm
      obtain ⟨x3, x4, rfl, k2, n3, n4⟩ := hsp
      have ht' := ht
      rw [splitC_take, if_pos (by simp)] at ht'
      apply hs
      have hab : splitC 58 [a, b, 58, d, e] = [[x1, x2], [x3, x4]] := ht
      cases ha : (a == 58) with
      | true =>
       rw [splitC, ha, if_pos rfl] at hab
       injection hab with q1 _
       exact absurd q1 (by simp)
      | false =>
       obtain ⟨l, ls, g1, g2⟩ := splitC_cons (c := 58) [b, 58, d, e] ha
       rw [g2] at hab
       injection hab with q1 q2
       injection q1 with q3 q4
       subst q3 q4 q2
       cases hb : (b == 58) with
       | true =>
        rw [splitC, hb, if_pos rfl] at g1
        injection g1 with q5 _
        exact absurd q5 (by simp)
       | false =>
        obtain ⟨l2, ls2, g3, g4⟩ := splitC_cons (c := 58) [58, d, e] hb
        rw [g4] at g1
        injection g1 with q5 q6
        injection q5 with q7 q8
        subst q7 q8 q6
        have : splitC 58 [58, d, e] = [] :: splitC 58 [d, e] := by rw [splitC, if_pos (by decide)]
        rw [this] at g3
        injection g3 with _ q9
        have hde : splitC 58 [d, e] = [[x3, x4]] := q9
        have hc : ([d, e] : Bs) = [x3, x4] := by
         by_cases q : ([d, e] : Bs).contains 58 = true
         ·rw [splitC_take, if_pos q] at hde
          injection hde with _ q2
          exact absurd q2 (splitC_ne _ _)
         ·rw [split_one (by simpa using q)] at hde
          injection hde
        injection hc with q10 q11
        injection q11 with q11 _
        rw [q10, q11, k1, k2]
        rfl
     ·rfl
  ·have hL : spanTl H (58 :: t) = none := by
    match t, hlen, hlen5 with
    | [], _, _ => rfl
    | [_], _, _ => rfl
    | [_, _], h, _ => exact absurd rfl h
    | [_, _, _], _, _ => rfl
    | [_, _, _, _], _, _ => rfl
    | [_, _, _, _, _], _, h => exact absurd rfl h
    | _ :: _ :: _ :: _ :: _ :: _ :: _, _, _ => rfl
   rw [hL]
   split
   ·rename_i m ht
    have := key1 m ht
    subst this
    rw [part_len hlen, if_neg (by simp)]
   ·rename_i m s ht
    rw [if_neg]
    intro q
    rw [Bool.and_eq_true] at q
    obtain ⟨_, _, _, _, e⟩ := key m s ht q.1 q.2
    exact hlen5 (by rw [e]; rfl)
   ·rfl
theorem span_parts (s : Bs) : spanM s = spanL (splitC 58 s) := by
 rw [span_tl]
 by_cases h : s.contains 58 = true
 ·rw [splitC_take, if_pos h]
  have e : ∀ (u : Bs), u.contains 58 = true → ∃ y, u.dropWhile (· != 58) = 58 :: y := fun u => by
   induction u with
   | nil => intro q; exact absurd q (by simp)
   | cons c r ih =>
    intro q
    by_cases hc : c = 58
    ·subst hc; exact ⟨r, by simp⟩
    ·have g1 : (c != 58) = true := by simpa using hc
     have g2 : r.contains 58 = true := by
      simp only [List.contains_cons, Bool.or_eq_true, beq_iff_eq] at q
      exact q.resolve_left fun e => hc e.symm
     rw [List.dropWhile_cons_of_pos (p := (· != 58)) g1]
     exact ih g2
  obtain ⟨t, ht⟩ := e s h
  rw [ht, List.tail_cons, parts_back t]
  generalize s.takeWhile (· != 58) = u
  cases hu : hourB u with
  | false =>
   rw [if_pos rfl]
   cases splitC 58 t with
   | nil => simp [spanL, hu]
   | cons m r =>
    cases r with
    | nil => simp [spanL, hu]
    | cons n r =>
     cases r with
     | nil => simp [spanL, hu]
     | cons _ _ => rfl
  | true =>
   rw [if_neg (by simp)]
   cases hc : splitC 58 t with
   | nil => exact absurd hc (splitC_ne _ _)
   | cons m r =>
    cases r with
    | nil => simp [spanL, hu]
    | cons n r =>
     cases r with
     | nil => simp [spanL, hu]
     | cons _ _ => rfl
 ·have h' : s.contains 58 = false := by simpa using h
  have e1 : s.takeWhile (· != 58) = s ∧ s.dropWhile (· != 58) = [] := by
   have : ∀ (u : Bs), u.contains 58 = false → u.takeWhile (· != 58) = u ∧ u.dropWhile (· != 58) = [] := fun u => by
    induction u with
    | nil => intro _; exact ⟨rfl, rfl⟩
    | cons c r ih =>
     intro q
     rw [List.contains_cons, Bool.or_eq_false_iff, beq_eq_false_iff_ne] at q
     have g1 : (c != 58) = true := by simpa using fun e => q.1 e.symm
     rw [List.takeWhile_cons_of_pos (p := (· != 58)) g1, List.dropWhile_cons_of_pos (p := (· != 58)) g1, (ih q.2).1, (ih q.2).2]
     exact ⟨rfl, rfl⟩
   exact this s h'
  rw [split_one h', e1.1, e1.2]
  unfold spanL spanTl
  simp only
  cases hourB s <;> rfl
end Wk
end Go.Proofs.YtlbglinpgjlbkaaGreatDoor
namespace Go.Proofs.YtlbglinpgjlbkaaGreatDoor
namespace Wk
open Go.Lib

theorem decV_snoc (s : Bs) (c : UInt8) : decV (s ++ [c]) = 10 * decV s + (c.toNat - 48) := by
 unfold decV
 rw [decF_append]
 rfl
theorem tdiv_neg (d : Int) (h0 : 0 ≤ d) (h1 : d ≤ 9) : (-9223372036854775808 + d).tdiv 10 = -((9223372036854775808 - d) / 10) := by
 rw [show -9223372036854775808 + d = -(9223372036854775808 - d) by omega, Int.neg_tdiv, Int.tdiv_eq_ediv_of_nonneg (by omega)]
theorem num_step {V : Nat} {n d : Int} (hn : n = -(V : Int)) (h0 : 0 ≤ d) (h1 : d ≤ 9) : (n < (-9223372036854775808 + d).tdiv 10 ↔ 9223372036854775808 < 10 * V + d.toNat) ∧ (¬ n < (-9223372036854775808 + d).tdiv 10 → 10 * n - d = -((10 * V + d.toNat : Nat) : Int) ∧ -9223372036854775808 ≤ 10 * n - d) := by
 rw [tdiv_neg d h0 h1]
 constructor
 ·omega
 ·intro h
  omega
theorem form_parts (s : Bs) : formN s = true ↔ absB s ≠ [] ∧ ¬((absB s).head? = some 48 ∧ (1 < (absB s).length ∨ negB s = true)) ∧ (absB s).all digC = true := by
 unfold formN
 rw [Bool.and_eq_true, Bool.not_eq_true', Bool.and_eq_false_iff, whole_iff]
 constructor
 ·rintro ⟨⟨h1, h2, h3⟩, h4⟩
  refine ⟨h1, ?_, h2⟩
  rintro ⟨h5, h6⟩
  rcases h6 with h6 | h6
  ·exact h3 h6 h5
  ·rcases h4 with h4 | h4
   ·rw [h6] at h4; exact absurd h4 (by simp)
   ·rw [h5] at h4; exact absurd h4 (by simp)
 ·rintro ⟨h1, h2, h3⟩
  refine ⟨⟨h1, h3, fun h h' => h2 ⟨h', .inl h⟩⟩, ?_⟩
  cases hn : negB s with
  | false => exact .inl rfl
  | true =>
   right
   rw [beq_eq_false_iff_ne]
   exact fun h => h2 ⟨h, .inr hn⟩
theorem num_bad {s : Bs} {lo hi : Int} (h : formN s = false) : numM s lo hi = (0, 3) := by
 unfold numM
 rw [if_pos h]
theorem num_fin {s : Bs} {lo hi : Int} (h : formN s = true) (hlo : -9223372036854775808 ≤ lo) (hhi : hi ≤ 9223372036854775807) : numM s lo hi = if 9223372036854775808 < decV (absB s) ∨ (negB s = false ∧ decV (absB s) = 9223372036854775808) then (0, 2) else if numV s < lo ∨ hi < numV s then (0, 2) else (numV s, 0) := by
 unfold numM
 rw [if_neg (by rw [h]; simp)]
 by_cases h1 : 9223372036854775808 < decV (absB s) ∨ (negB s = false ∧ decV (absB s) = 9223372036854775808)
 ·rw [if_pos h1, if_pos]
  unfold numV
  cases hn : negB s with
  | true =>
   rw [if_pos rfl]
   rcases h1 with h1 | h1
   ·omega
   ·rw [hn] at h1; exact absurd h1.1 (by simp)
  | false =>
   rw [if_neg (by simp)]
   rcases h1 with h1 | h1 <;> omega
 ·rw [if_neg h1]
end Wk
end Go.Proofs.YtlbglinpgjlbkaaGreatDoor
namespace Go.Proofs.YtlbglinpgjlbkaaGreatDoor
namespace Wk
open Go.Lib

theorem day_no {t : Bs} {c : UInt8} (hc : c ∈ t) (hd : digC c = false) : dayM t = (0, 3) := by
 unfold dayM
 by_cases hn : negB t = true
 ·rw [if_pos hn]
 ·rw [if_neg hn]
  refine num_bad ?_
  rw [← Bool.not_eq_true]
  intro q
  obtain ⟨-, -, h3⟩ := (form_parts t).1 q
  unfold absB at h3
  rw [if_neg hn] at h3
  have := List.all_eq_true.1 h3 c hc
  rw [hd] at this
  exact absurd this (by simp)
theorem wday_len {s : Bs} (h : (findM' wdayL s).2 = 0) : s.length = 3 ∧ ∀ c ∈ s, letC c = true := by
 have h1 := (wday_back h).1
 have h2 := (wday_back h).2
 have : ∀ w : Fin 8, 1 ≤ w.val → (getM wdayL w.val).length = 3 ∧ ∀ c ∈ getM wdayL w.val, letC c = true := by decide +kernel
 have hb : 1 ≤ (findM' wdayL s).1 ∧ (findM' wdayL s).1 ≤ 7 := by
  unfold wdB at h2
  simpa using h2
 have hw := this ⟨(findM' wdayL s).1.toNat, by omega⟩ (by show 1 ≤ (findM' wdayL s).1.toNat; omega)
 have e : (((findM' wdayL s).1.toNat : Nat) : Int) = (findM' wdayL s).1 := by omega
 simp only [e] at hw
 rw [h1] at hw
 exact hw
def signB (sg : Bs) : Prop := sg = [62, 61] ∨ sg = [60, 61]
theorem cut_found {s sg : Bs} (h : (cut s sg).2.2 = true) : ∃ i, occAt s sg i = true ∧ (cut s sg).1 = s.take i ∧ (cut s sg).2.1 = s.drop (i + sg.length) ∧ i ≤ s.length := by
 unfold cut at h ⊢
 rcases index_spec s sg with ⟨h1, -⟩ | ⟨i, h1, h2, h3, -⟩
 ·rw [h1] at h
  exact absurd h (by simp)
 ·rw [h1, if_pos (by omega)]
  exact ⟨i, h3, rfl, rfl, h2⟩
theorem cut_not {s sg : Bs} (h : (cut s sg).2.2 = false) (i : Nat) (hi : i ≤ s.length) : occAt s sg i = false := by
 unfold cut at h
 rcases index_spec s sg with ⟨h1, h2⟩ | ⟨j, h1, -, -, -⟩
 ·exact h2 i hi
 ·rw [h1, if_pos (by omega)] at h
  exact absurd h (by simp)
theorem occ_two {s : Bs} {a b : UInt8} {i : Nat} (h : occAt s [a, b] i = true) : s[i]? = some a ∧ s[i + 1]? = some b := by
 unfold occAt at h
 obtain ⟨t, ht⟩ := List.isPrefixOf_iff_prefix.1 h
 have e0 : (s.drop i)[0]? = some a := by rw [← ht]; rfl
 have e1 : (s.drop i)[1]? = some b := by rw [← ht]; rfl
 rw [List.getElem?_drop] at e0 e1
 exact ⟨e0, e1⟩
theorem occ_at3 {s : Bs} {a b : UInt8} : (s.drop 3).take 2 = [a, b] ↔ occAt s [a, b] 3 = true := by
 unfold occAt
 constructor
 ·intro h
  refine List.isPrefixOf_iff_prefix.2 ⟨(s.drop 3).drop 2, ?_⟩
  rw [← h, List.take_append_drop]
 ·intro h
  obtain ⟨t, ht⟩ := List.isPrefixOf_iff_prefix.1 h
  rw [← ht]
  rfl
theorem mem_at {s : Bs} {i : Nat} {a : UInt8} (h : s[i]? = some a) : a ∈ s := List.mem_of_getElem? h
theorem on_bad {s sg : Bs} (hs : signB sg) (hp : [108, 97, 115, 116].isPrefixOf s = false) (h : (cut s sg).2.2 = true) (hw : (findM' wdayL (cut s sg).1).2 ≠ 0) : onM s = (on0, 3) := by
 obtain ⟨i, h1, h2, -, -⟩ := cut_found h
 have hsg : ∃ a : UInt8, sg = [a, 61] ∧ letC a = false ∧ digC a = false ∧ a ≠ 61 := by
  rcases hs with rfl | rfl
  ·exact ⟨62, rfl, by decide, by decide, by decide⟩
  ·exact ⟨60, rfl, by decide, by decide, by decide⟩
 obtain ⟨a, rfl, l1, l2, l4⟩ := hsg
 obtain ⟨o1, o2⟩ := occ_two h1
 rw [h2] at hw
 unfold onM
 rw [if_neg (by rw [hp]; simp)]
 by_cases h3 : (s.drop 3).take 2 = [62, 61] ∨ (s.drop 3).take 2 = [60, 61]
 ·rw [if_pos h3]
  by_cases h4 : (findM' wdayL (s.take 3)).2 ≠ 0
  ·rw [if_pos h4]
  ·rw [if_neg h4]
   obtain ⟨w1, w2⟩ := wday_len (s := s.take 3) (by simpa using h4)
   have hi : ¬ i < 3 := fun q => by
    have : (s.take 3)[i]? = some a := by rw [List.getElem?_take_of_lt q]; exact o1
    have := w2 a (mem_at this)
    rw [l1] at this
    exact absurd this (by simp)
   have hi3 : i ≠ 3 := fun q => by
    rw [q] at hw
    exact hw (by simpa using h4)
   have hi4 : i ≠ 4 := fun q => by
    have : ∃ b, occAt s [b, 61] 3 = true := by
     rcases h3 with h3 | h3
     ·exact ⟨62, occ_at3.1 h3⟩
     ·exact ⟨60, occ_at3.1 h3⟩
    obtain ⟨b, hb⟩ := this
    have := (occ_two hb).2
    rw [q] at o1
    rw [o1] at this
    injection this with this
    exact l4 this
   have hm : a ∈ s.drop 5 := by
    have : (s.drop 5)[i - 5]? = some a := by
     rw [List.getElem?_drop, show 5 + (i - 5) = i by omega]
     exact o1
    exact mem_at this
   rw [day_no hm l2, if_pos (by decide)]
 ·rw [if_neg h3, day_no (mem_at o1) l2, if_pos (by decide)]
theorem on_good {s sg : Bs} {k : Int} (hs : sg = [62, 61] ∧ k = 3 ∨ sg = [60, 61] ∧ k = 4) (hp : [108, 97, 115, 116].isPrefixOf s = false) (h : (cut s sg).2.2 = true) (hw : (findM' wdayL (cut s sg).1).2 = 0) : onM s = if (dayM (cut s sg).2.1).2 ≠ 0 then (on0, (dayM (cut s sg).2.1).2) else (⟨k, (findM' wdayL (cut s sg).1).1, (dayM (cut s sg).2.1).1⟩, 0) := by
 obtain ⟨i, h1, h2, h3, h4⟩ := cut_found h
 have hl := (wday_len hw).1
 rw [h2, List.length_take] at hl
 have hi : i = 3 := by omega
 subst hi
 have hsl : sg.length = 2 := by rcases hs with ⟨rfl, -⟩ | ⟨rfl, -⟩ <;> rfl
 rw [hsl] at h3
 rw [h2] at hw
 rw [h2, h3]
 unfold onM
 rw [if_neg (by rw [hp]; simp)]
 rcases hs with ⟨rfl, rfl⟩ | ⟨rfl, rfl⟩
 ·have h5 := occ_at3.2 h1
  rw [if_pos (.inl h5), if_neg (by rw [hw]; simp), if_pos h5]
 ·have h5 := occ_at3.2 h1
  have hk : (if (s.drop 3).take 2 = [62, 61] then (3 : Int) else 4) = 4 := if_neg (by rw [h5]; decide)
  rw [if_pos (.inr h5), if_neg (by rw [hw]; simp), hk]
theorem on_none {s : Bs} (hp : [108, 97, 115, 116].isPrefixOf s = false) (h1 : (cut s [62, 61]).2.2 = false) (h2 : (cut s [60, 61]).2.2 = false) : onM s = if (dayM s).2 ≠ 0 then (on0, (dayM s).2) else (⟨1, 0, (dayM s).1⟩, 0) := by
 unfold onM
 rw [if_neg (by rw [hp]; simp), if_neg]
 have hlen : ∀ a : UInt8, (s.drop 3).take 2 = [a, 61] → 3 ≤ s.length := fun a q => by
  have := congrArg List.length q
  simp only [List.length_take, List.length_drop, List.length_cons, List.length_nil] at this
  omega
 rintro (q | q)
 ·have := cut_not h1 3 (hlen _ q)
  rw [occ_at3.1 q] at this
  exact absurd this (by simp)
 ·have := cut_not h2 3 (hlen _ q)
  rw [occ_at3.1 q] at this
  exact absurd this (by simp)
theorem on_last {s : Bs} (hp : [108, 97, 115, 116].isPrefixOf s = true) : onM s = if (findM' wdayL (s.drop 4)).2 ≠ 0 then (on0, 3) else (⟨2, (findM' wdayL (s.drop 4)).1, 0⟩, 0) := by
 unfold onM
 rw [if_pos hp]
end Wk
end Go.Proofs.YtlbglinpgjlbkaaGreatDoor
namespace Go.Proofs.YtlbglinpgjlbkaaGreatDoor
namespace Wk
open Go.Lib

end Wk
end Go.Proofs.YtlbglinpgjlbkaaGreatDoor
namespace Go.Proofs.YtlbglinpgjlbkaaGreatDoor
namespace Wk
open Go.Lib

structure RSt where
 n : Nat
 p : Nat × Nat
 e : Int
def st0 (n : Nat) : RSt := ⟨n, (0, 0), 0⟩
abbrev SM (α : Type) := RSt → α × RSt
def SM.bind {α β : Type} (f : SM α) (g : α → SM β) : SM β := fun s => g (f s).1 (f s).2
def SM.ret {α : Type} (a : α) : SM α := fun s => (a, s)
structure Sim {α : Type} (ws : List Tok) (f : SM α) (m : Rd α) : Prop where
 ok : ∀ n, n ≤ ws.length → match m ws n with
  | .inl (a, k) => f (st0 n) = (a, st0 k) ∧ k ≤ ws.length
  | .inr (p, e) => (f (st0 n)).2.p = p ∧ (f (st0 n)).2.e = e ∧ e ≠ 0 ∧ (f (st0 n)).2.n ≤ ws.length
 er : ∀ s : RSt, s.e ≠ 0 → s.n ≤ ws.length → (f s).2.p = s.p ∧ (f s).2.e = s.e ∧ (f s).2.n ≤ ws.length
theorem Sim.bind {α β : Type} {ws : List Tok} {f : SM α} {m : Rd α} {g : α → SM β} {k : α → Rd β} (h : Sim ws f m) (h' : ∀ a, Sim ws (g a) (k a)) : Sim ws (SM.bind f g) (Rd.bind m k) := by
 constructor
 ·intro n hn
  have h1 := h.ok n hn
  unfold Rd.bind SM.bind
  cases hm : m ws n with
  | inl r =>
   obtain ⟨a, j⟩ := r
   rw [hm] at h1
   simp only at h1 ⊢
   rw [h1.1]
   exact (h' a).ok j h1.2
  | inr r =>
   obtain ⟨p, e⟩ := r
   rw [hm] at h1
   simp only at h1 ⊢
   obtain ⟨q1, q2, q3, q4⟩ := h1
   have h2 := (h' (f (st0 n)).1).er (f (st0 n)).2 (by rw [q2]; exact q3) q4
   exact ⟨h2.1.trans q1, h2.2.1.trans q2, q3, h2.2.2⟩
 ·intro s hs hn
  unfold SM.bind
  obtain ⟨q1, q2, q3⟩ := h.er s hs hn
  have h2 := (h' (f s).1).er (f s).2 (by rw [q2]; exact hs) q3
  exact ⟨h2.1.trans q1, h2.2.1.trans q2, h2.2.2⟩
theorem Sim.ret {α : Type} (ws : List Tok) (a : α) : Sim ws (SM.ret a) (Rd.pure a) := ⟨fun _ hn => ⟨rfl, hn⟩, fun _ _ hn => ⟨rfl, rfl, hn⟩⟩

theorem rd_assoc {α β γ : Type} (m : Rd α) (f : α → Rd β) (g : β → Rd γ) : Rd.bind (Rd.bind m f) g = Rd.bind m fun a => Rd.bind (f a) g := by
 funext ws n
 unfold Rd.bind
 cases m ws n with
 | inl q => rfl
 | inr e => rfl
/-! the program's reader -/
def failS (ws : List Tok) (e : Int) (s : RSt) : RSt := if s.e = 0 ∧ e ≠ 0 then ⟨s.n, plT ws (s.n - 1), e⟩ else s
def wordS (ws : List Tok) : SM Bs := fun s => if ws.length ≤ s.n then ([], failS ws 4 ⟨ws.length, s.p, s.e⟩) else ((ws.getD s.n tok0).tx, ⟨s.n + 1, s.p, s.e⟩)
def needS (ws : List Tok) (b : Bool) (e : Int) : SM Unit := fun s => ((), if b = true then s else failS ws e s)
def errS (ws : List Tok) (e : Int) : SM Unit := fun s => ((), failS ws e s)
def checkS (ws : List Tok) (good : Bs → Bool) : SM Bs := SM.bind (wordS ws) fun s => SM.bind (needS ws (good s) 3) fun _ => SM.ret s
def numS (ws : List Tok) (f : Bs → Int × Int) : SM Int := SM.bind (wordS ws) fun s => SM.bind (errS ws (f s).2) fun _ => SM.ret (f s).1
def yearS (ws : List Tok) : SM Int := numS ws fun s => numM s 1 9999
def limS (ws : List Tok) (good : Int → Bool) : SM Int := SM.bind (numS ws offsetM) fun n => SM.bind (needS ws (good n) 2) fun _ => SM.ret n
def whenS (ws : List Tok) : SM (Int × OnT × Int × Int) :=
 SM.bind (numS ws (findM' monthL)) fun m => SM.bind (wordS ws) fun s => SM.bind (errS ws (onM s).2) fun _ => SM.bind (needS ws (fitsB (onM s).1 m) 2) fun _ =>
 SM.bind (wordS ws) fun t => SM.bind (errS ws (clockM t).2.2) fun _ => SM.ret (m, (onM s).1, (clockM t).1, (clockM t).2.1)
def endS (ws : List Tok) : SM Unit := fun s => ((), if s.e = 0 ∧ s.n < ws.length then failS ws 3 ⟨s.n + 1, s.p, s.e⟩ else s)
def toS (ws : List Tok) (fr : Int) : SM Int := SM.bind (wordS ws) fun s => if s = [111, 110, 108, 121] then SM.ret fr else if s = [109, 97, 120] then SM.ret 9999 else
 SM.bind (errS ws (numM s 1 9999).2) fun _ => SM.bind (needS ws (decide (fr ≤ (numM s 1 9999).1)) 2) fun _ => SM.ret (numM s 1 9999).1
def leB (s : Bs) : Bool := s == [45] || (!(s == []) && letterB s)
def ruleS (ws : List Tok) : SM RuT := SM.bind (checkS ws nameB) fun nm => SM.bind (yearS ws) fun fr => SM.bind (toS ws fr) fun to => SM.bind (whenS ws) fun w => SM.bind (limS ws savB) fun sv =>
 SM.bind (checkS ws leB) fun le => SM.ret ⟨nm, fr, to, w.1, w.2.1, w.2.2.1, w.2.2.2, sv, if le = [45] then [] else le⟩
def rulesS (ws : List Tok) : SM (Bs × Int) := SM.bind (wordS ws) fun s => if s = [45] then SM.ret ([], 0) else if nameB s = true then SM.ret (s, 0) else
 SM.bind (errS ws (offsetM s).2) fun _ => SM.bind (needS ws (savB (offsetM s).1) 2) fun _ => SM.ret ([], (offsetM s).1)
def lastS (ws : List Tok) : SM Bool := fun s => (s.n == ws.length, s)
def untB (s : Bs) : Bool := s == [117, 110, 116, 105, 108]
def offB (n : Int) : Bool := decide (-57600 ≤ n) && decide (n ≤ 57600)
def lineS (ws : List Tok) : SM LiT := SM.bind (limS ws offB) fun o => SM.bind (rulesS ws) fun r => SM.bind (checkS ws fmtB) fun f => SM.bind (lastS ws) fun la =>
 if la = true then SM.ret ⟨o, r.1, r.2, f, true, un0⟩ else
 SM.bind (checkS ws untB) fun _ => SM.bind (yearS ws) fun y => SM.bind (whenS ws) fun w => SM.ret ⟨o, r.1, r.2, f, false, ⟨y, w.1, w.2.1, w.2.2.1, w.2.2.2⟩⟩
def zoneS (ws : List Tok) : SM ZoT := SM.bind (checkS ws nameB) fun nm => SM.ret ⟨nm, []⟩
def linkS (ws : List Tok) : SM LkT := SM.bind (checkS ws nameB) fun nm => SM.bind (checkS ws nameB) fun zo => SM.ret ⟨nm, zo⟩

theorem failS_ok (ws : List Tok) (n : Nat) {e : Int} (he : e ≠ 0) : failS ws e (st0 n) = ⟨n, plT ws (n - 1), e⟩ := by
 unfold failS st0
 rw [if_pos ⟨rfl, he⟩]
theorem failS_zero (ws : List Tok) (s : RSt) : failS ws 0 s = s := by
 unfold failS
 rw [if_neg (by simp)]
theorem failS_er (ws : List Tok) (e : Int) {s : RSt} (h : s.e ≠ 0) : failS ws e s = s := by
 unfold failS
 rw [if_neg (fun q => h q.1)]
theorem sim_need (ws : List Tok) (b : Bool) {e : Int} (he : e ≠ 0) : Sim ws (needS ws b e) (needR b e) := by
 cases b with
 | true => exact ⟨fun _ hn => ⟨rfl, hn⟩, fun _ _ hn => ⟨rfl, rfl, hn⟩⟩
 | false =>
  refine ⟨fun n hn => ?_, fun s hs hn => ?_⟩
  ·show (failS ws e (st0 n)).p = plT ws (n - 1) ∧ (failS ws e (st0 n)).e = e ∧ e ≠ 0 ∧ (failS ws e (st0 n)).n ≤ ws.length
   rw [failS_ok ws n he]
   exact ⟨rfl, rfl, he, hn⟩
  ·show (failS ws e s).p = s.p ∧ (failS ws e s).e = s.e ∧ (failS ws e s).n ≤ ws.length
   rw [failS_er ws e hs]
   exact ⟨rfl, rfl, hn⟩
theorem sim_err (ws : List Tok) (e : Int) : Sim ws (errS ws e) (needR (e == 0) e) := by
 by_cases h : e = 0
 ·subst h
  refine ⟨fun n hn => ⟨?_, hn⟩, fun s _ hn => ?_⟩
  ·show ((), failS ws 0 (st0 n)) = _
   rw [failS_zero]
  ·show (failS ws 0 s).p = s.p ∧ (failS ws 0 s).e = s.e ∧ (failS ws 0 s).n ≤ ws.length
   rw [failS_zero]
   exact ⟨rfl, rfl, hn⟩
 ·have hb : (e == 0) = false := by simpa using h
  rw [hb]
  exact sim_need ws false h
theorem sim_word (ws : List Tok) : Sim ws (wordS ws) wordR := by
 refine ⟨fun n hn => ?_, fun s hs hn => ?_⟩
 ·unfold wordR wordS
  by_cases h : n < ws.length
  ·rw [if_pos h]
   show (if ws.length ≤ n then _ else _) = _ ∧ _
   rw [if_neg (by omega)]
   exact ⟨rfl, by omega⟩
  ·rw [if_neg h]
   obtain rfl : n = ws.length := by omega
   show (if ws.length ≤ ws.length then ([], failS ws 4 (st0 ws.length)) else _).2.p = _ ∧ (if ws.length ≤ ws.length then ([], failS ws 4 (st0 ws.length)) else _).2.e = _ ∧ _ ∧ (if ws.length ≤ ws.length then ([], failS ws 4 (st0 ws.length)) else _).2.n ≤ _
   rw [if_pos (Nat.le_refl _), failS_ok ws ws.length (by decide)]
   exact ⟨rfl, rfl, by decide, Nat.le_refl _⟩
 ·unfold wordS
  by_cases h : ws.length ≤ s.n
  ·rw [if_pos h, failS_er (s := ⟨ws.length, s.p, s.e⟩) ws 4 hs]
   exact ⟨rfl, rfl, Nat.le_refl _⟩
  ·rw [if_neg h]
   exact ⟨rfl, rfl, by show s.n + 1 ≤ _; omega⟩
theorem sim_end (ws : List Tok) : Sim ws (endS ws) endR := by
 refine ⟨fun n hn => ?_, fun s hs hn => ?_⟩
 ·unfold endR endS
  by_cases h : n < ws.length
  ·rw [if_pos h]
   show (if (0 : Int) = 0 ∧ n < ws.length then failS ws 3 (st0 (n + 1)) else st0 n).p = _ ∧ (if (0 : Int) = 0 ∧ n < ws.length then failS ws 3 (st0 (n + 1)) else st0 n).e = _ ∧ _ ∧ (if (0 : Int) = 0 ∧ n < ws.length then failS ws 3 (st0 (n + 1)) else st0 n).n ≤ _
   rw [if_pos ⟨rfl, h⟩, failS_ok ws (n + 1) (by decide)]
   exact ⟨rfl, rfl, by decide, by show n + 1 ≤ _; omega⟩
  ·rw [if_neg h]
   refine ⟨?_, hn⟩
   show ((), if (0 : Int) = 0 ∧ n < ws.length then failS ws 3 (st0 (n + 1)) else st0 n) = _
   rw [if_neg (fun q => h q.2)]
 ·unfold endS
  rw [if_neg (fun q => hs q.1)]
  exact ⟨rfl, rfl, hn⟩
theorem sim_check (ws : List Tok) (good : Bs → Bool) : Sim ws (checkS ws good) (checkR good) := (sim_word ws).bind fun _ => (sim_need ws _ (by decide)).bind fun _ => Sim.ret ws _
theorem sim_num (ws : List Tok) (f : Bs → Int × Int) : Sim ws (numS ws f) (numR f) := (sim_word ws).bind fun _ => (sim_err ws _).bind fun _ => Sim.ret ws _
theorem sim_lim (ws : List Tok) (good : Int → Bool) : Sim ws (limS ws good) (limR good) := (sim_num ws _).bind fun _ => (sim_need ws _ (by decide)).bind fun _ => Sim.ret ws _
theorem sim_when (ws : List Tok) : Sim ws (whenS ws) whenR :=
 (sim_num ws _).bind fun _ => (sim_word ws).bind fun _ => (sim_err ws _).bind fun _ => (sim_need ws _ (by decide)).bind fun _ => (sim_word ws).bind fun _ => (sim_err ws _).bind fun _ => Sim.ret ws _
theorem sim_if {α : Type} {ws : List Tok} {c : Prop} [Decidable c] {f g : SM α} {m k : Rd α} (h : Sim ws f m) (h' : Sim ws g k) : Sim ws (if c then f else g) (if c then m else k) := by
 by_cases hc : c
 ·rw [if_pos hc, if_pos hc]; exact h
 ·rw [if_neg hc, if_neg hc]; exact h'
theorem sim_to (ws : List Tok) (fr : Int) : Sim ws (toS ws fr) (toR fr) :=
 (sim_word ws).bind fun _ => sim_if (Sim.ret ws _) (sim_if (Sim.ret ws _) ((sim_err ws _).bind fun _ => (sim_need ws _ (by decide)).bind fun _ => Sim.ret ws _))
theorem sim_rules (ws : List Tok) : Sim ws (rulesS ws) rulesR :=
 (sim_word ws).bind fun _ => sim_if (Sim.ret ws _) (sim_if (Sim.ret ws _) ((sim_err ws _).bind fun _ => (sim_need ws _ (by decide)).bind fun _ => Sim.ret ws _))
def thenEnd {α : Type} (ws : List Tok) (f : SM α) : SM α := SM.bind f fun a => SM.bind (endS ws) fun _ => SM.ret a
theorem end_full (ws : List Tok) : endR ws ws.length = .inl ((), ws.length) := by unfold endR; rw [if_neg (by omega)]
theorem sim_rule (ws : List Tok) : Sim ws (thenEnd ws (ruleS ws)) ruleR := by
 have e : thenEnd ws (ruleS ws) = SM.bind (checkS ws nameB) fun nm => SM.bind (yearS ws) fun fr => SM.bind (toS ws fr) fun to => SM.bind (whenS ws) fun w => SM.bind (limS ws savB) fun sv =>
   SM.bind (checkS ws leB) fun le => SM.bind (endS ws) fun _ => SM.ret ⟨nm, fr, to, w.1, w.2.1, w.2.2.1, w.2.2.2, sv, if le = [45] then [] else le⟩ := rfl
 rw [e]
 exact (sim_check ws _).bind fun _ => (sim_num ws _).bind fun _ => (sim_to ws _).bind fun _ => (sim_when ws).bind fun _ => (sim_lim ws _).bind fun _ => (sim_check ws _).bind fun _ => (sim_end ws).bind fun _ => Sim.ret ws _
theorem sim_zone (ws : List Tok) : Sim ws (thenEnd ws (zoneS ws)) zoneR := by
 have e : thenEnd ws (zoneS ws) = SM.bind (checkS ws nameB) fun nm => SM.bind (endS ws) fun _ => SM.ret ⟨nm, []⟩ := rfl
 rw [e]
 exact (sim_check ws _).bind fun _ => (sim_end ws).bind fun _ => Sim.ret ws _
theorem sim_link (ws : List Tok) : Sim ws (thenEnd ws (linkS ws)) linkR := by
 have e : thenEnd ws (linkS ws) = SM.bind (checkS ws nameB) fun nm => SM.bind (checkS ws nameB) fun zo => SM.bind (endS ws) fun _ => SM.ret ⟨nm, zo⟩ := rfl
 rw [e]
 exact (sim_check ws _).bind fun _ => (sim_check ws _).bind fun _ => (sim_end ws).bind fun _ => Sim.ret ws _
theorem sim_lastEnd {α : Type} {ws : List Tok} {x : α} {g : SM α} {k : Rd α} (h : Sim ws g k) :
  Sim ws (SM.bind (lastS ws) fun la => SM.bind (if la = true then SM.ret x else g) fun a => SM.bind (endS ws) fun _ => SM.ret a) (Rd.bind lastR fun la => if la = true then Rd.pure x else Rd.bind k fun a => Rd.bind endR fun _ => Rd.pure a) := by
 constructor
 ·intro n hn
  show match (if (n == ws.length) = true then (Rd.pure x : Rd α) else Rd.bind k fun a => Rd.bind endR fun _ => Rd.pure a) ws n with
   | .inl (a, j) => SM.bind (if (n == ws.length) = true then SM.ret x else g) (fun a => SM.bind (endS ws) fun _ => SM.ret a) (st0 n) = (a, st0 j) ∧ j ≤ ws.length
   | .inr (p, e) => (SM.bind (if (n == ws.length) = true then SM.ret x else g) (fun a => SM.bind (endS ws) fun _ => SM.ret a) (st0 n)).2.p = p ∧ (SM.bind (if (n == ws.length) = true then SM.ret x else g) (fun a => SM.bind (endS ws) fun _ => SM.ret a) (st0 n)).2.e = e ∧ e ≠ 0 ∧ (SM.bind (if (n == ws.length) = true then SM.ret x else g) (fun a => SM.bind (endS ws) fun _ => SM.ret a) (st0 n)).2.n ≤ ws.length
  by_cases hq : n = ws.length
  ·subst hq
   rw [if_pos (by simp), if_pos (by simp)]
   refine ⟨?_, Nat.le_refl _⟩
   have h1 := (sim_end ws).ok ws.length (Nat.le_refl _)
   rw [end_full] at h1
   show (x, (endS ws (st0 ws.length)).2) = _
   rw [h1.1]
  ·have hb : (n == ws.length) = false := by simpa using hq
   rw [hb, if_neg (by simp), if_neg (by simp)]
   exact (h.bind fun _ => (sim_end ws).bind fun _ => Sim.ret ws _).ok n hn
 ·intro s hs hn
  show (SM.bind (if (s.n == ws.length) = true then SM.ret x else g) (fun a => SM.bind (endS ws) fun _ => SM.ret a) s).2.p = _ ∧ (SM.bind (if (s.n == ws.length) = true then SM.ret x else g) (fun a => SM.bind (endS ws) fun _ => SM.ret a) s).2.e = _ ∧ (SM.bind (if (s.n == ws.length) = true then SM.ret x else g) (fun a => SM.bind (endS ws) fun _ => SM.ret a) s).2.n ≤ _
  by_cases hq : (s.n == ws.length) = true
  ·rw [if_pos hq]
   exact ((sim_end ws).bind fun _ => Sim.ret ws x).er s hs hn
  ·rw [if_neg hq]
   exact (h.bind fun _ => (sim_end ws).bind fun _ => Sim.ret ws _).er s hs hn
theorem sim_line (ws : List Tok) : Sim ws (thenEnd ws (lineS ws)) lineR := by
 have e : thenEnd ws (lineS ws) = SM.bind (limS ws offB) fun o => SM.bind (rulesS ws) fun r => SM.bind (checkS ws fmtB) fun f => SM.bind (lastS ws) fun la => SM.bind (if la = true then SM.ret ⟨o, r.1, r.2, f, true, un0⟩ else
   SM.bind (checkS ws untB) fun _ => SM.bind (yearS ws) fun y => SM.bind (whenS ws) fun w => SM.ret ⟨o, r.1, r.2, f, false, ⟨y, w.1, w.2.1, w.2.2.1, w.2.2.2⟩⟩) fun a => SM.bind (endS ws) fun _ => SM.ret a := rfl
 rw [e]
 refine (sim_lim ws _).bind fun o => (sim_rules ws).bind fun r => (sim_check ws _).bind fun f => ?_
 have hk : (Rd.bind lastR fun la => if la = true then Rd.pure (⟨o, r.1, r.2, f, true, un0⟩ : LiT) else
   Rd.bind (checkR fun s => s == [117, 110, 116, 105, 108]) fun _ => Rd.bind yearR fun y => Rd.bind whenR fun w => Rd.bind endR fun _ => Rd.pure ⟨o, r.1, r.2, f, false, ⟨y, w.1, w.2.1, w.2.2.1, w.2.2.2⟩⟩) =
  Rd.bind lastR fun la => if la = true then Rd.pure (⟨o, r.1, r.2, f, true, un0⟩ : LiT) else Rd.bind (Rd.bind (checkR untB) fun _ => Rd.bind yearR fun y => Rd.bind whenR fun w => Rd.pure ⟨o, r.1, r.2, f, false, ⟨y, w.1, w.2.1, w.2.2.1, w.2.2.2⟩⟩) fun a => Rd.bind endR fun _ => Rd.pure a := by
  congr 1
  funext la
  congr 1
  simp only [rd_assoc]
  rfl
 rw [hk]
 exact sim_lastEnd ((sim_check ws _).bind fun _ => (sim_num ws _).bind fun _ => (sim_when ws).bind fun _ => Sim.ret ws _)
def stepS (ws : List Tok) (s : SrT) : SrT × RSt :=
 if (ws.getD 0 tok0).tx = [114, 117, 108, 101] then ({ s with ru := s.ru ++ [(ruleS ws (st0 1)).1] }, (endS ws (ruleS ws (st0 1)).2).2)
 else if (ws.getD 0 tok0).tx = [122, 111, 110, 101] then ({ s with zo := s.zo ++ [(zoneS ws (st0 1)).1] }, (endS ws (zoneS ws (st0 1)).2).2)
 else if (ws.getD 0 tok0).tx = [108, 105, 110, 101] then (if (s.zo == [] || doneB (s.zo.getLastD ⟨[], []⟩)) = true then (s, (endS ws (failS ws 6 (st0 1))).2) else (addLine s (lineS ws (st0 1)).1, (endS ws (lineS ws (st0 1)).2).2))
 else if (ws.getD 0 tok0).tx = [108, 105, 110, 107] then ({ s with lk := s.lk ++ [(linkS ws (st0 1)).1] }, (endS ws (linkS ws (st0 1)).2).2)
 else (s, ⟨1, plT ws 0, 3⟩)
theorem step_sim {α : Type} {ws : List Tok} {f : SM α} {m : Rd α} {g : α → SrT} (h : Sim ws (thenEnd ws f) m) (hw : 1 ≤ ws.length) {R : SrT ⊕ ((Nat × Nat) × Int)} (h1 : ∀ a k, m ws 1 = .inl (a, k) → R = .inl (g a)) (h2 : ∀ e, m ws 1 = .inr e → R = .inr e) :
  R = if (endS ws (f (st0 1)).2).2.e = 0 then .inl (g (f (st0 1)).1) else .inr ((endS ws (f (st0 1)).2).2.p, (endS ws (f (st0 1)).2).2.e) := by
 have h3 := h.ok 1 hw
 have e : thenEnd ws f (st0 1) = ((f (st0 1)).1, (endS ws (f (st0 1)).2).2) := rfl
 rw [e] at h3
 cases hm : m ws 1 with
 | inl r =>
  obtain ⟨a, k⟩ := r
  rw [hm] at h3
  have h4 := h3.1
  injection h4 with h5 h6
  rw [h1 a k hm, h5, h6, if_pos (show (st0 k).e = 0 from rfl)]
 | inr r =>
  obtain ⟨p, e⟩ := r
  rw [hm] at h3
  obtain ⟨q1, q2, q3, q4⟩ := h3
  have q1 : (endS ws (f (st0 1)).2).2.p = p := q1
  have q2 : (endS ws (f (st0 1)).2).2.e = e := q2
  rw [h2 _ hm, q1, q2, if_neg q3]
theorem step_prog (ws : List Tok) (s : SrT) (hw : 1 ≤ ws.length) : lineStep ws s = if (stepS ws s).2.e = 0 then .inl (stepS ws s).1 else .inr ((stepS ws s).2.p, (stepS ws s).2.e) := by
 unfold lineStep stepS
 by_cases h1 : (ws.getD 0 tok0).tx = [114, 117, 108, 101]
 ·rw [if_pos h1, if_pos h1]
  exact step_sim (g := fun r => { s with ru := s.ru ++ [r] }) (sim_rule ws) hw (fun a k hm => by rw [hm]) (fun e hm => by rw [hm])
 rw [if_neg h1, if_neg h1]
 by_cases h2 : (ws.getD 0 tok0).tx = [122, 111, 110, 101]
 ·rw [if_pos h2, if_pos h2]
  exact step_sim (g := fun r => { s with zo := s.zo ++ [r] }) (sim_zone ws) hw (fun a k hm => by rw [hm]) (fun e hm => by rw [hm])
 rw [if_neg h2, if_neg h2]
 by_cases h3 : (ws.getD 0 tok0).tx = [108, 105, 110, 101]
 ·rw [if_pos h3, if_pos h3]
  by_cases h5 : (s.zo == [] || doneB (s.zo.getLastD ⟨[], []⟩)) = true
  ·rw [if_pos h5, if_pos h5]
   simp only
   have he : (endS ws (failS ws 6 (st0 1))).2 = ⟨1, plT ws 0, 6⟩ := by
    rw [failS_ok ws 1 (by decide)]
    unfold endS
    rw [if_neg (fun q => absurd q.1 (show ¬(6 : Int) = 0 by decide))]
   rw [he, if_neg (show ¬(6 : Int) = 0 by decide)]
  ·rw [if_neg h5, if_neg h5]
   exact step_sim (g := fun l => addLine s l) (sim_line ws) hw (fun a k hm => by rw [hm]) (fun e hm => by rw [hm])
 rw [if_neg h3, if_neg h3]
 by_cases h4 : (ws.getD 0 tok0).tx = [108, 105, 110, 107]
 ·rw [if_pos h4, if_pos h4]
  exact step_sim (g := fun r => { s with lk := s.lk ++ [r] }) (sim_link ws) hw (fun a k hm => by rw [hm]) (fun e hm => by rw [hm])
 rw [if_neg h4, if_neg h4]
 simp
end Wk
end Go.Proofs.YtlbglinpgjlbkaaGreatDoor
