import Derived.Test.YtmfdnbfjdhlonaaGreatDoorWkBa
import Derived.Test.YtmfdnbfjdhlonaaGreatDoorWkOzA
import Derived.Lib.TrimByte
import Derived.Test.YtmfdnbfjdhlonaaGreatDoorWkOzG
/- opening hours, plain: reading a text. -/
namespace Go.Proofs.YtmfdnbfjdhlonaaGreatDoor
open Go.RowKit Wk Lib

def wsuB (c : UInt8) : Bool := c == 119 || (c == 115 || c == 117)
def oclk (s : Bs) : Int × Int := if s.any wsuB = true then (0, 3) else if (clockM s).2.2 = 0 ∧ 86400 < (clockM s).1 then (0, 2) else ((clockM s).1, (clockM s).2.2)
def behB (l : List Sp) (x : Int) : Bool := match l.getLast? with
 | none => false
 | some q => decide (x ≤ q.2)
def spnStep (st : Bool × List Sp) (p : Bs) : Option (Bool × List Sp) :=
 if (cut p [45]).2.2 = false ∨ (oclk (cut p [45]).1).2 = 3 ∨ (oclk (cut p [45]).2.1).2 = 3 then none else
 some (st.1 || (oclk (cut p [45]).1).2 != 0 || (oclk (cut p [45]).2.1).2 != 0 || decide ((oclk (cut p [45]).2.1).1 ≤ (oclk (cut p [45]).1).1) || behB st.2 (oclk (cut p [45]).1).1, st.2 ++ [((oclk (cut p [45]).1).1, (oclk (cut p [45]).2.1).1)])
def spnRun : List Bs → (Bool × List Sp) → Option (Bool × List Sp)
 | [], st => some st
 | p :: r, st => match spnStep st p with
  | none => none
  | some st' => spnRun r st'
def scanM (s : Bs) : Bs × Bs := (s.takeWhile (· != 32), s.dropWhile (· != 32))
def badG : Int × Int × List Sp := (0, 0, [])
def groupEnd (f g : Int) (r : Option (Bool × List Sp)) : (Int × Int × List Sp) × Int := match r with
 | none => (badG, 3)
 | some (w, l) => if w = true ∨ 10 < l.length then (badG, 2) else ((f, g, l), 0)
def groupTo (days : Bs) : Int × Int := if (cut days [45]).2.2 = true then findM' wdayL (cut days [45]).2.1 else findM' wdayL (cut days [45]).1
def groupM (s : Bs) : (Int × Int × List Sp) × Int :=
 if (findM' wdayL (cut (scanM (trimB s 32)).1 [45]).1).2 ≠ 0 then (badG, 3) else
 if (groupTo (scanM (trimB s 32)).1).2 ≠ 0 then (badG, 3) else
 groupEnd (findM' wdayL (cut (scanM (trimB s 32)).1 [45]).1).1 (groupTo (scanM (trimB s 32)).1).1
  (spnRun (splitC 44 (trimLeftB (scanM (trimB s 32)).2 32)) (decide ((groupTo (scanM (trimB s 32)).1).1 < (findM' wdayL (cut (scanM (trimB s 32)).1 [45]).1).1), []))
def noH : List (List Sp) := [[], [], [], [], [], [], []]
def putM (l : List Sp) : Nat → Nat → List (List Sp) → Option (List (List Sp))
 | 0, _, H => some H
 | n + 1, k, H => if H.getD k [] ≠ [] then none else putM l n (k + 1) (H.set k l)
def parseGr : List Bs → List (List Sp) → List (List Sp) × Int
 | [], H => (H, 0)
 | g :: r, H => if (groupM g).2 ≠ 0 then (noH, (groupM g).2) else
  match putM (groupM g).1.2.2 ((groupM g).1.2.1 - (groupM g).1.1 + 1).toNat ((groupM g).1.1 - 1).toNat H with
  | none => (noH, 8)
  | some H' => parseGr r H'
def closedT : Bs := [99, 108, 111, 115, 101, 100]
def hoursM (s : Bs) : List (List Sp) × Int := if 2000 < s.length then (noH, 5) else if s = closedT then (noH, 0) else parseGr (splitC 59 s) noH
def awT : Bs := [77, 111, 110, 45, 70, 114, 105, 32, 57, 58, 48, 48, 45, 49, 50, 58, 48, 48, 44, 49, 51, 58, 48, 48, 45, 49, 55, 58, 51, 48, 59, 32, 83, 97, 116, 32, 49, 48, 58, 48, 48, 45, 49, 52, 58, 48, 48]
def awH : List (List Sp) := [[(32400, 43200), (46800, 63000)], [(32400, 43200), (46800, 63000)], [(32400, 43200), (46800, 63000)], [(32400, 43200), (46800, 63000)], [(32400, 43200), (46800, 63000)], [(36000, 50400)], []]
theorem hours_awake : hoursM awT = (awH, 0) := by decide +kernel

theorem find_bdO (L : List Bs) (s : Bs) (h : (findM' L s).2 = 0) : 1 ≤ (findM' L s).1 ∧ (findM' L s).1 ≤ L.length := by
 unfold findM' at h ⊢
 cases e : L.findIdx? (· == s) with
 | none => rw [e] at h; simp at h
 | some k =>
  rw [e] at h
  have := (List.findIdx?_eq_some_iff_findIdx_eq.1 e).1
  simp only
  omega
theorem findM_e (L : List Bs) (s : Bs) : (findM' L s).2 = 0 ∨ (findM' L s).2 = 3 := by
 unfold findM'
 cases L.findIdx? (· == s) <;> simp
theorem spnRun_len : ∀ (ps : List Bs) (st r : Bool × List Sp), spnRun ps st = some r → r.2.length = st.2.length + ps.length
 | [], st, r, h => by simp only [spnRun, Option.some.injEq] at h; subst h; simp
 | p :: ps, st, r, h => by
  rw [spnRun] at h
  cases e : spnStep st p with
  | none => rw [e] at h; simp at h
  | some st' =>
   rw [e] at h
   have h1 := spnRun_len ps st' r h
   have h2 : st'.2.length = st.2.length + 1 := by
    unfold spnStep at e
    split at e
    ·simp at e
    ·simp only [Option.some.injEq] at e; rw [← e]; simp
   simp only [List.length_cons]; omega
theorem group_ok {s : Bs} (h : (groupM s).2 = 0) : 1 ≤ (groupM s).1.1 ∧ (groupM s).1.1 ≤ 7 ∧ 1 ≤ (groupM s).1.2.1 ∧ (groupM s).1.2.1 ≤ 7 ∧ (groupM s).1.2.2 ≠ [] ∧ (groupM s).1.2.2.length ≤ 10 := by
 revert h
 unfold groupM
 split
 ·intro h; simp at h
 ·rename_i h1
  split
  ·intro h; simp at h
  ·rename_i h2
   have g1 := find_bdO wdayL _ (by simpa using h1)
   have g2 : 1 ≤ (groupTo (scanM (trimB s 32)).1).1 ∧ (groupTo (scanM (trimB s 32)).1).1 ≤ 7 := by
    have h2' : (groupTo (scanM (trimB s 32)).1).2 = 0 := by simpa using h2
    unfold groupTo at h2' ⊢
    split
    ·rw [if_pos (by assumption)] at h2'; exact find_bdO wdayL _ h2'
    ·rw [if_neg (by assumption)] at h2'; exact find_bdO wdayL _ h2'
   have g3 : (wdayL.length : Int) = 7 := by decide
   unfold groupEnd
   cases e : spnRun (splitC 44 (trimLeftB (scanM (trimB s 32)).2 32)) (decide ((groupTo (scanM (trimB s 32)).1).1 < (findM' wdayL (cut (scanM (trimB s 32)).1 [45]).1).1), []) with
   | none => intro h; simp at h
   | some r =>
    obtain ⟨w, l⟩ := r
    simp only
    split
    ·intro h; simp at h
    ·rename_i h4
     intro _
     have h5 := spnRun_len _ _ _ e
     have h6 := splitC_ne 44 (trimLeftB (scanM (trimB s 32)).2 32)
     have h7 : 0 < (splitC 44 (trimLeftB (scanM (trimB s 32)).2 32)).length := List.length_pos_iff.2 h6
     simp only [List.length_nil] at h5
     have g4 := g1.2
     rw [g3] at g4
     refine ⟨g1.1, g4, g2.1, g2.2, ?_, by simp only; omega⟩
     intro h8
     simp only at h8
     rw [h8] at h5
     simp at h5
     omega
end Go.Proofs.YtmfdnbfjdhlonaaGreatDoor
namespace Go.Proofs.YtmfdnbfjdhlonaaGreatDoor
open Go.RowKit Wk

theorem tw_c {c : UInt8} {n : Nat} (hc : c.toNat = n) (s : ByteArray) {k : Nat} (hk : k ≤ s.size) (h : ∀ j (hj : j < s.size), j < k → ((s[j].toNat : Int) == n) = false) (he : ∀ hj : k < s.size, ((s[k].toNat : Int) == n) = true) : (bsO s).takeWhile (· != c) = (bsO s).take k ∧ (bsO s).dropWhile (· != c) = (bsO s).drop k := by
 have key : ∀ (l : Bs) (k : Nat), k ≤ l.length → (∀ j (hj : j < l.length), j < k → l[j] ≠ c) → (∀ hj : k < l.length, l[k] = c) → l.takeWhile (· != c) = l.take k ∧ l.dropWhile (· != c) = l.drop k := fun l => by
  induction l with
  | nil => intro k _ _ _; simp
  | cons d r ih =>
   intro k hk h he
   cases k with
   | zero =>
    have : d = c := he (by simp)
    subst this
    simp
   | succ k =>
    have hcc : d ≠ c := h 0 (by simp) (by omega)
    have hb : (d != c) = true := by simpa using hcc
    obtain ⟨i1, i2⟩ := ih k (by simpa using hk) (fun j hj hlt => h (j + 1) (by simpa using hj) (by omega)) (fun hj => he (by simpa using hj))
    rw [List.takeWhile_cons_of_pos (p := (· != c)) hb, List.dropWhile_cons_of_pos (p := (· != c)) hb, i1, i2]
    exact ⟨rfl, rfl⟩
 have hn : ∀ x : UInt8, ((x.toNat : Int) == n) = true ↔ x = c := fun x => by
  rw [← hc]
  constructor
  ·intro h; have h : (x.toNat : Int) = c.toNat := by simpa using h
   exact UInt8.toNat_inj.1 (by omega)
  ·rintro rfl; simp
 refine key (bsO s) k (by rw [bs_len]; exact hk) (fun j hj hlt => ?_) (fun hj => ?_)
 ·rw [bs_len] at hj
  rw [bs_at s j hj]
  intro q
  have := h j hj hlt
  rw [(hn _).2 q] at this
  cases this
 ·rw [bs_len] at hj
  rw [bs_at s k hj]
  exact (hn _).1 (he hj)
theorem tup_str {a b c d : ByteArray} (h1 : a = c) (h2 : b = d) : Ending.returned (.tuple #[.string a, .string b]) = .returned (.tuple #[.string c, .string d]) := by rw [h1, h2]
set_option maxRecDepth 100000 in
set_option maxHeartbeats 1000000 in
theorem isBl_any (c : Int) (w : World) :
  Calls Tryz.prog 105 #[.int .u8 c] w fun e w' => e = .returned (.bool (c == 32)) ∧ w' = w := by
 go_enter Tryz.func105, Tryz.ntmps105
 go_wp2_with fail
 go_ret
 exact ⟨rfl, rfl⟩
set_option maxRecDepth 100000 in
set_option maxHeartbeats 4000000 in
theorem scan_any (s : ByteArray) (hs : s.size < 4294967281) (w : World) :
    Calls Tryz.prog 103 #[.string s, .func (.func 105) #[] #[]] w fun e w' => e = .returned (.tuple #[.string ⟨(scanM (bsO s)).1.toArray⟩, .string ⟨(scanM (bsO s)).2.toArray⟩]) ∧ Below w.heap.size w w' := by
  have HB := Lib.hid (fun c W => isBl_any c W)
  go_enter Tryz.func103, Tryz.ntmps103
  go_wp2_with fail
  go_loopw [6, 9] (fun _ u wr => ∃ k : Nat, u = .int .i64 k ∧ k ≤ s.size ∧ Hid (∀ j (h : j < s.size), j < k → ((s[j].toNat : Int) == 32) = false) ∧ wr = w) (fun _ u _ => s.size - (intOf u).toNat)
  case atStart => exact ⟨0, rfl, Nat.zero_le _, fun j _ h => absurd h (by omega), rfl⟩
  case round =>
    obtain ⟨k, rfl, hk, HZ, hw⟩ := hrel
    subst hw
    have hkb : (k : Int) ≤ 4294967280 := by omega
    by_cases hlt : k < s.size
    · have hlt' : (k : Int) < s.size := by omega
      obtain ⟨q, hq⟩ : ∃ q, ((s[k].toNat : Int) == 32) = q := ⟨_, rfl⟩
      cases q with
      | true =>
        have HQ := Lib.hid hq
        obtain ⟨g1, g2⟩ := tw_c (c := 32) (n := 32) rfl s hk HZ.out (fun hj => hq)
        have HG : Hid ((bsO s).takeWhile (· != 32) = (bsO s).take k ∧ (bsO s).dropWhile (· != 32) = (bsO s).drop k) := Lib.hid ⟨g1, g2⟩
        clear g1 g2
        have hle : (k : Int) ≤ s.size := by omega
        go_wp2_with (refine (HB.out _ _).mono ?_; rintro e w' ⟨rfl, hw⟩; rw [hw]; clear hw)
        go_region
        all_goals go_wp2_with fail
        all_goals go_ret2
        all_goals refine ⟨tup_str (bs_inj ?_) (bs_inj ?_), by first | exact (Below.refl _ _).drew | exact Below.refl _ _⟩
        all_goals first
          | (rw [bs_ext, List.drop_zero]; exact HG.out.1.symm)
          | (rw [bs_ext]
             show _ = (bsO s).dropWhile (· != 32)
             rw [HG.out.2, List.take_of_length_le (by rw [bs_len]; exact Nat.le_refl _)])
      | false =>
        have HQ := Lib.hid hq
        go_wp2_with (refine (HB.out _ _).mono ?_; rintro e w' ⟨rfl, hw⟩; rw [hw]; clear hw)
        go_roundw
        case rel =>
          refine ⟨k + 1, by go_num, by omega, fun j hj h => ?_, trivial⟩
          rcases Nat.lt_succ_iff_lt_or_eq.1 h with h | rfl
          · exact HZ.out j hj h
          · exact HQ.out
        case measure => simp [intOf]; omega
    · obtain ⟨g1, g2⟩ := tw_c (c := 32) (n := 32) rfl s hk HZ.out (fun hj => absurd hj hlt)
      have hks : k = s.size := by omega
      have HG : Hid ((bsO s).takeWhile (· != 32) = bsO s ∧ (bsO s).dropWhile (· != 32) = []) := Lib.hid ⟨by rw [g1, List.take_of_length_le (by rw [bs_len]; omega)], by rw [g2, List.drop_eq_nil_of_le (by rw [bs_len]; omega)]⟩
      clear g1 g2
      go_wp2_with fail
      go_ret2
      refine ⟨tup_str (bs_inj ?_) ?_, Below.refl _ _⟩
      · exact HG.out.1.symm
      · show _ = (⟨((bsO s).dropWhile (· != 32)).toArray⟩ : ByteArray)
        rw [HG.out.2]

def CAny (s : ByteArray) : Prop := ∀ W, Calls Tryz.prog 152 #[.string s, .string ⟨#[119, 115, 117]⟩] W (fun e w' => e = .returned (.bool ((bsO s).any wsuB)) ∧ Below W.heap.size W w')
set_option maxRecDepth 100000 in
set_option maxHeartbeats 4000000 in
theorem oclk_any (s : ByteArray) (hs : s.size < 4294967281) (hc : CAny s) (w : World) (hg : Glob w) :
  Calls Tryz.prog 109 #[.string s] w fun e w' => e = .returned (.tuple #[.int .i64 (oclk (bsO s)).1, .int .i64 (oclk (bsO s)).2]) ∧ Below w.heap.size w w' := by
 obtain ⟨r, hr⟩ : ∃ r, oclk (bsO s) = r := ⟨_, rfl⟩
 rw [hr]
 have HC := Lib.hid (hc w)
 have HK : Hid (∀ w', Below w.heap.size w w' → Calls Tryz.prog 153 #[.string s] w' fun e w'' => e = .returned (.tuple #[.int .i64 (clockM (bsO s)).1, .int .i64 (clockM (bsO s)).2.1, .int .i64 (clockM (bsO s)).2.2]) ∧ Below w'.heap.size w' w'') := Lib.hid fun w' hb => clock_any s hs w' (hg.below hb)
 unfold oclk at hr
 obtain ⟨p, hp⟩ : ∃ p, (bsO s).any wsuB = p := ⟨_, rfl⟩
 obtain ⟨⟨n, c, e⟩, hn⟩ : ∃ n, clockM (bsO s) = n := ⟨_, rfl⟩
 rw [hp, hn] at hr
 rw [hp] at HC
 rw [hn] at HK
 clear hp hn hg hc
 simp only at hr HK
 go_enter Tryz.func109, Tryz.ntmps109
 cases p with
 | true =>
  rw [if_pos rfl] at hr
  subst hr
  go_wp2_with (refine HC.out.mono ?_; rintro e w' ⟨rfl, hb⟩)
  go_ret2
  exact ⟨rfl, by assumption⟩
 | false =>
  rw [if_neg (by simp)] at hr
  by_cases he : e = 0 ∧ 86400 < n
  ·rw [if_pos he] at hr
   subst hr
   obtain ⟨rfl, h2⟩ := he
   go_wp2_with (first | (go_at_call 152; refine HC.out.mono ?_; rintro e w1 ⟨rfl, hb1⟩; have HB1 := Lib.hid hb1; clear hb1) | (go_at_call 153; refine (HK.out _ HB1.out).mono ?_; rintro e w2 ⟨rfl, hb2⟩) | fail)
   go_ret2
   exact ⟨rfl, keepBelow HB1.out (by assumption)⟩
  ·rw [if_neg he] at hr
   subst hr
   by_cases h0 : e = 0
   ·subst h0
    have h2 : ¬86400 < n := fun q => he ⟨rfl, q⟩
    go_wp2_with (first | (go_at_call 152; refine HC.out.mono ?_; rintro e w1 ⟨rfl, hb1⟩; have HB1 := Lib.hid hb1; clear hb1) | (go_at_call 153; refine (HK.out _ HB1.out).mono ?_; rintro e w2 ⟨rfl, hb2⟩) | fail)
    go_ret2
    exact ⟨rfl, keepBelow HB1.out (by assumption)⟩
   ·have h1 : (e == 0) = false := by simpa using h0
    go_wp2_with (first | (go_at_call 152; refine HC.out.mono ?_; rintro e w1 ⟨rfl, hb1⟩; have HB1 := Lib.hid hb1; clear hb1) | (go_at_call 153; refine (HK.out _ HB1.out).mono ?_; rintro e w2 ⟨rfl, hb2⟩) | fail)
    go_ret2
    exact ⟨rfl, keepBelow HB1.out (by assumption)⟩
end Go.Proofs.YtmfdnbfjdhlonaaGreatDoor
