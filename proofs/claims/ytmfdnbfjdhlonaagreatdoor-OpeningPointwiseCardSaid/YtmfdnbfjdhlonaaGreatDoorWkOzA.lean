import Derived.Lib.ItoaNum
import Derived.Lib.Replace
/- Zone texts, plain: letters, names, numbers, spans of time, as lists of bytes. -/
namespace Go.Proofs.YtmfdnbfjdhlonaaGreatDoor
namespace Wk

abbrev Bs := List UInt8
def digC (c : UInt8) : Bool := decide (48 ≤ c.toNat) && decide (c.toNat ≤ 57)
def letC (c : UInt8) : Bool := (decide (65 ≤ c.toNat) && decide (c.toNat ≤ 90)) || (decide (97 ≤ c.toNat) && decide (c.toNat ≤ 122))
def namC (c : UInt8) : Bool := letC c || digC c || c == 95 || c == 47 || c == 43 || c == 45
def nameB : Bs → Bool
 | [] => false
 | c :: r => decide (r.length + 1 ≤ 30) && letC c && (c :: r).all namC
def decF (n : Nat) (s : Bs) : Nat := s.foldl (fun n c => 10 * n + (c.toNat - 48)) n
def decV (s : Bs) : Nat := decF 0 s
def wholeB (s : Bs) : Bool := match s with
 | [] => false
 | [c] => digC c
 | c :: r => !(c == 48) && (c :: r).all digC
def negB (s : Bs) : Bool := s.head? == some 45
def absB (s : Bs) : Bs := if negB s = true then s.tail else s
def formN (s : Bs) : Bool := wholeB (absB s) && !(negB s && (absB s).head? == some 48)
def numV (s : Bs) : Int := if negB s = true then -(decV (absB s) : Int) else decV (absB s)
def numM (s : Bs) (lo hi : Int) : Int × Int := if formN s = false then (0, 3) else if numV s < lo ∨ hi < numV s then (0, 2) else (numV s, 0)
def sixB (a b : UInt8) : Bool := digC a && digC b && decide (a.toNat ≤ 53)
def sixV (a b : UInt8) : Nat := 10 * (a.toNat - 48) + (b.toNat - 48)
def hourB (s : Bs) : Bool := wholeB s && decide (s.length ≤ 2)
def spanM (s : Bs) : Option Nat :=
 if hourB (s.takeWhile (· != 58)) = false then none else
 match s.dropWhile (· != 58) with
 | [] => some (3600 * decV (s.takeWhile (· != 58)))
 | [_, a, b] => if sixB a b = true then some (3600 * decV (s.takeWhile (· != 58)) + 60 * sixV a b) else none
 | [_, a, b, c, d, e] => if (sixB a b && c == 58 && sixB d e) = true then some (3600 * decV (s.takeWhile (· != 58)) + 60 * sixV a b + sixV d e) else none
 | _ => none
def clkOf (s : Bs) : Int := match s.getLast? with
 | some 115 => 2
 | some 117 => 3
 | _ => 1
def clkCut (s : Bs) : Bs := match s.getLast? with
 | some 119 => s.dropLast
 | some 115 => s.dropLast
 | some 117 => s.dropLast
 | _ => s
def clockM (s : Bs) : Int × Int × Int := match spanM (clkCut s) with
 | none => (0, 0, 3)
 | some n => if 93600 < n then (0, 0, 2) else (n, clkOf s, 0)
def offsetM (s : Bs) : Int × Int := match spanM (absB s) with
 | none => (0, 3)
 | some n => if (negB s && n == 0) = true then (0, 3) else if 93600 < n then (0, 2) else ((if negB s = true then -(n : Int) else n), 0)
def digU (n : Nat) : UInt8 := UInt8.ofNat (48 + n)
def twoT (n : Nat) : Bs := [digU (n / 10), digU (n % 10)]
def spanT (n : Nat) : Bs := (if n < 36000 then (twoT (n / 3600)).tail else twoT (n / 3600)) ++ (58 :: twoT (n / 60 % 60)) ++ if 0 < n % 60 then 58 :: twoT (n % 60) else []
def clockT (n c : Int) : Bs := if 0 ≤ n ∧ n ≤ 93600 ∧ 1 ≤ c ∧ c ≤ 3 then spanT n.toNat ++ (if c = 2 then [115] else if c = 3 then [117] else []) else []
def offsetT (n : Int) : Bs := if n < -93600 ∨ 93600 < n then [] else if n < 0 then 45 :: spanT (-n).toNat else spanT n.toNat
def monthL : List Bs := [[74, 97, 110], [70, 101, 98], [77, 97, 114], [65, 112, 114], [77, 97, 121], [74, 117, 110], [74, 117, 108], [65, 117, 103], [83, 101, 112], [79, 99, 116], [78, 111, 118], [68, 101, 99]]
def wdayL : List Bs := [[77, 111, 110], [84, 117, 101], [87, 101, 100], [84, 104, 117], [70, 114, 105], [83, 97, 116], [83, 117, 110]]
def findM' (l : List Bs) (s : Bs) : Int × Int := match l.findIdx? (· == s) with
 | some k => ((k : Int) + 1, 0)
 | none => (0, 3)
def getM (l : List Bs) (n : Int) : Bs := if n < 1 ∨ (l.length : Int) < n then [] else l.getD (n.toNat - 1) []
theorem digU_dig {n : Nat} (h : n < 10) : digC (digU n) = true ∧ (digU n).toNat = 48 + n := by
 have hn : (digU n).toNat = 48 + n := by
  unfold digU
  rw [UInt8.toNat_ofNat']
  omega
 refine ⟨?_, hn⟩
 unfold digC
 rw [hn]
 simp
 omega
end Wk
end Go.Proofs.YtmfdnbfjdhlonaaGreatDoor
namespace Go.Proofs.YtmfdnbfjdhlonaaGreatDoor
namespace Wk
open Go.Lib

theorem decF_append (n : Nat) (s t : Bs) : decF n (s ++ t) = decF (decF n s) t := List.foldl_append ..
theorem dig_of {c : UInt8} (h : digC c = true) : 48 ≤ c.toNat ∧ c.toNat ≤ 57 := by
 unfold digC at h
 simpa using h
theorem decDigits_small {u : Nat} (h : u < 10) : decDigits u = [digU u] := decDigits_one h
theorem decDigits_step {u : Nat} (h : ¬ u < 10) : decDigits u = decDigits (u / 10) ++ [digU (u % 10)] := by
 conv => lhs; rw [decDigits, dif_neg h]
 rfl
theorem dec_ok : ∀ (n u : Nat), u ≤ n → decV (decDigits u) = u ∧ (decDigits u).all digC = true ∧ decDigits u ≠ [] ∧ (0 < u → (decDigits u).head? ≠ some 48) := by
 intro n
 induction n with
 | zero =>
  intro u hu
  obtain rfl : u = 0 := by omega
  rw [decDigits_small (by omega)]
  exact ⟨by decide, by decide, by simp, fun h => by omega⟩
 | succ n ih =>
  intro u hu
  by_cases h : u < 10
  ·rw [decDigits_small h]
   obtain ⟨h1, h2⟩ := digU_dig h
   refine ⟨?_, by simpa using h1, by simp, fun h0 e => ?_⟩
   ·show 10 * 0 + ((digU u).toNat - 48) = u
    rw [h2]; omega
   ·simp at e
    rw [e] at h2
    simp at h2
    omega
  ·rw [decDigits_step h]
   obtain ⟨g1, g2, g3, g4⟩ := ih (u / 10) (by omega)
   obtain ⟨h1, h2⟩ := digU_dig (n := u % 10) (by omega)
   refine ⟨?_, ?_, by simp, fun _ => ?_⟩
   ·unfold decV
    rw [decF_append]
    unfold decV at g1
    rw [g1]
    show 10 * (u / 10) + ((digU (u % 10)).toNat - 48) = u
    rw [h2]; omega
   ·rw [List.all_append, g2]
    simpa using h1
   ·have := g4 (by omega)
    cases hd : decDigits (u / 10) with
    | nil => exact absurd hd g3
    | cons c r =>
     rw [hd] at this
     simpa using this
theorem whole_iff {s : Bs} : wholeB s = true ↔ s ≠ [] ∧ s.all digC = true ∧ (1 < s.length → s.head? ≠ some 48) := by
 unfold wholeB
 split
 ·simp
 ·simp
 ·rename_i c r hne
  have : r ≠ [] := fun e => hne e
  cases r with
  | nil => exact absurd rfl this
  | cons d r => simp; constructor <;> (intro h; exact ⟨h.2, h.1⟩)
theorem dec_whole (u : Nat) : wholeB (decDigits u) = true := by
 obtain ⟨h1, h2, h3, h4⟩ := dec_ok u u (Nat.le_refl _)
 refine whole_iff.2 ⟨h3, h2, fun hl => ?_⟩
 by_cases h : u < 10
 ·rw [decDigits_small h] at hl; simp at hl
 ·exact h4 (by omega)
theorem dec_val (u : Nat) : decV (decDigits u) = u := (dec_ok u u (Nat.le_refl _)).1
theorem whole_head {s : Bs} (h : wholeB s = true) : negB s = false := by
 obtain ⟨h1, h2, -⟩ := whole_iff.1 h
 cases s with
 | nil => exact absurd rfl h1
 | cons c r =>
  unfold negB
  simp at h2 ⊢
  intro e
  rw [e] at h2
  exact absurd h2.1 (by decide)
theorem num_pos {u : Nat} {lo hi : Int} (h1 : lo ≤ u) (h2 : (u : Int) ≤ hi) : numM (decDigits u) lo hi = ((u : Int), 0) := by
 have hw := dec_whole u
 have hn := whole_head hw
 have ha : absB (decDigits u) = decDigits u := by unfold absB; rw [hn]; simp
 have hf : formN (decDigits u) = true := by unfold formN; rw [ha, hw, hn]; rfl
 have hv : numV (decDigits u) = u := by unfold numV; rw [ha, hn, dec_val]; simp
 unfold numM
 rw [hf, hv, if_neg (by simp), if_neg (by omega)]
theorem six_ok {n : Nat} (h : n < 60) : sixB (digU (n / 10)) (digU (n % 10)) = true ∧ sixV (digU (n / 10)) (digU (n % 10)) = n := by
 obtain ⟨a1, a2⟩ := digU_dig (n := n / 10) (by omega)
 obtain ⟨b1, b2⟩ := digU_dig (n := n % 10) (by omega)
 unfold sixB sixV
 rw [a1, b1, a2, b2]
 refine ⟨by simp; omega, by omega⟩
theorem span_cut {k t : Bs} (hk : ∀ c ∈ k, c ≠ 58) : (k ++ 58 :: t).takeWhile (· != 58) = k ∧ (k ++ 58 :: t).dropWhile (· != 58) = 58 :: t := by
 induction k with
 | nil => simp
 | cons c r ih =>
  obtain ⟨i1, i2⟩ := ih fun x hx => hk x (by simp [hx])
  have hc : (c != 58) = true := by simpa using hk c (by simp)
  constructor
  ·rw [List.cons_append, List.takeWhile_cons, if_pos hc, i1]
  ·rw [List.cons_append, List.dropWhile_cons, if_pos hc, i2]
theorem digU_ne {n : Nat} (h : n < 10) : digU n ≠ 58 := fun e => by
 have := (digU_dig h).2
 rw [e] at this
 simp at this
 omega
theorem span_ok {n : Nat} (h : n < 360000) : spanM (spanT n) = some n := by
 have hm := six_ok (n := n / 60 % 60) (by omega)
 have hs := six_ok (n := n % 60) (by omega)
 obtain ⟨k, hk, hk1, hk2, hk3⟩ : ∃ k : Bs, (if n < 36000 then (twoT (n / 3600)).tail else twoT (n / 3600)) = k ∧ (∀ c ∈ k, c ≠ 58) ∧ hourB k = true ∧ decV k = n / 3600 := by
  by_cases h1 : n < 36000
  ·refine ⟨_, rfl, ?_⟩
   rw [if_pos h1]
   have hd : n / 3600 % 10 = n / 3600 := by omega
   show (∀ c ∈ [digU (n / 3600 % 10)], c ≠ 58) ∧ hourB [digU (n / 3600 % 10)] = true ∧ decV [digU (n / 3600 % 10)] = _
   rw [hd]
   obtain ⟨d1, d2⟩ := digU_dig (n := n / 3600) (by omega)
   refine ⟨fun c hc => by rw [List.mem_singleton] at hc; rw [hc]; exact digU_ne (by omega), by unfold hourB; rw [show wholeB [digU (n / 3600)] = digC (digU (n / 3600)) from rfl, d1]; rfl, ?_⟩
   show 10 * 0 + ((digU (n / 3600)).toNat - 48) = _
   rw [d2]; omega
  ·refine ⟨_, rfl, ?_⟩
   rw [if_neg h1]
   show (∀ c ∈ [digU (n / 3600 / 10), digU (n / 3600 % 10)], c ≠ 58) ∧ hourB [digU (n / 3600 / 10), digU (n / 3600 % 10)] = true ∧ decV [digU (n / 3600 / 10), digU (n / 3600 % 10)] = _
   obtain ⟨d1, d2⟩ := digU_dig (n := n / 3600 / 10) (by omega)
   obtain ⟨e1, e2⟩ := digU_dig (n := n / 3600 % 10) (by omega)
   refine ⟨fun c hc => ?_, ?_, ?_⟩
   ·simp at hc
    rcases hc with rfl | rfl
    ·exact digU_ne (by omega)
    ·exact digU_ne (by omega)
   ·unfold hourB
    have hw : wholeB [digU (n / 3600 / 10), digU (n / 3600 % 10)] = true := whole_iff.2 ⟨by simp, by simp [d1, e1], fun _ e => by
     simp at e
     rw [e] at d2
     simp at d2
     omega⟩
    rw [hw]; rfl
   ·show 10 * (10 * 0 + ((digU (n / 3600 / 10)).toNat - 48)) + ((digU (n / 3600 % 10)).toNat - 48) = _
    rw [d2, e2]; omega
 unfold spanT
 rw [hk]
 have hc := span_cut (k := k) (t := twoT (n / 60 % 60) ++ if 0 < n % 60 then 58 :: twoT (n % 60) else []) hk1
 have e : k ++ 58 :: twoT (n / 60 % 60) ++ (if 0 < n % 60 then 58 :: twoT (n % 60) else []) = k ++ 58 :: (twoT (n / 60 % 60) ++ if 0 < n % 60 then 58 :: twoT (n % 60) else []) := by simp
 rw [e]
 unfold spanM
 rw [hc.1, hc.2, hk2, hk3]
 by_cases h0 : 0 < n % 60
 ·rw [if_pos h0]
  show (if (sixB (digU (n / 60 % 60 / 10)) (digU (n / 60 % 60 % 10)) && (58 : UInt8) == 58 && sixB (digU (n % 60 / 10)) (digU (n % 60 % 10))) = true then some (3600 * (n / 3600) + 60 * sixV (digU (n / 60 % 60 / 10)) (digU (n / 60 % 60 % 10)) + sixV (digU (n % 60 / 10)) (digU (n % 60 % 10))) else none) = _
  rw [hm.1, hs.1, hm.2, hs.2, if_pos (by decide)]
  congr 1
  omega
 ·rw [if_neg h0]
  show (if sixB (digU (n / 60 % 60 / 10)) (digU (n / 60 % 60 % 10)) = true then some (3600 * (n / 3600) + 60 * sixV (digU (n / 60 % 60 / 10)) (digU (n / 60 % 60 % 10))) else none) = _
  rw [hm.1, hm.2, if_pos rfl]
  congr 1
  omega
end Wk
end Go.Proofs.YtmfdnbfjdhlonaaGreatDoor
namespace Go.Proofs.YtmfdnbfjdhlonaaGreatDoor
namespace Wk
open Go.Lib

structure OnT where
 k : Int
 w : Int
 d : Int
deriving DecidableEq
structure RuT where
 nm : Bs
 fr : Int
 to : Int
 mo : Int
 on : OnT
 at_ : Int
 ck : Int
 sv : Int
 le : Bs
deriving DecidableEq
structure UnT where
 yr : Int
 mo : Int
 on : OnT
 at_ : Int
 ck : Int
deriving DecidableEq
structure LiT where
 of_ : Int
 ru : Bs
 sv : Int
 fm : Bs
 la : Bool
 un : UnT
deriving DecidableEq
structure ZoT where
 nm : Bs
 li : List LiT
deriving DecidableEq
structure LkT where
 nm : Bs
 zo : Bs
deriving DecidableEq
structure SrT where
 ru : List RuT
 zo : List ZoT
 lk : List LkT
deriving DecidableEq
def on0 : OnT := ⟨0, 0, 0⟩
def un0 : UnT := ⟨0, 0, on0, 0, 0⟩
def li0 : LiT := ⟨0, [], 0, [], false, un0⟩
def sr0 : SrT := ⟨[], [], []⟩
def onlyB (s more : Bs) : Bool := s.all fun c => letC c || digC c || more.contains c
def letterB (s : Bs) : Bool := decide (s.length ≤ 4) && onlyB s []
def plainB (s : Bs) : Bool := decide (1 ≤ s.length) && decide (s.length ≤ 8) && onlyB s [43, 45]
def cutPct : Bs → Option (Bs × Bs)
 | 37 :: 115 :: r => some ([], r)
 | c :: r => (cutPct r).map fun p => (c :: p.1, p.2)
 | [] => none
def fmtB (s : Bs) : Bool := match cutPct s with
 | some (a, b) => decide (1 ≤ (a ++ b).length) && decide ((a ++ b).length ≤ 4) && onlyB (a ++ b) [43, 45]
 | none => if s.contains 47 = true then plainB (s.takeWhile (· != 47)) && plainB ((s.dropWhile (· != 47)).tail) else plainB s
def savB (n : Int) : Bool := n % 60 == 0 && decide (-10800 ≤ n) && decide (n ≤ 10800)
def dayB (n : Int) : Bool := decide (1 ≤ n) && decide (n ≤ 31)
def wdB (n : Int) : Bool := decide (1 ≤ n) && decide (n ≤ 7)
def onB (o : OnT) : Bool :=
 if o.k = 1 then dayB o.d && o.w == 0 else if o.k = 2 then wdB o.w && o.d == 0 else if o.k = 3 ∨ o.k = 4 then wdB o.w && dayB o.d else false
def lenM (m : Int) : Int := if m < 1 ∨ 12 < m then 0 else if m = 2 then 29 else if m = 4 ∨ m = 6 ∨ m = 9 ∨ m = 11 then 30 else 31
def fitsB (o : OnT) (m : Int) : Bool := decide (o.d ≤ lenM m)
def momB (m : Int) (o : OnT) (a c : Int) : Bool := decide (1 ≤ m) && decide (m ≤ 12) && onB o && fitsB o m && decide (0 ≤ a) && decide (a ≤ 93600) && decide (1 ≤ c) && decide (c ≤ 3)
def ruB (r : RuT) : Bool := nameB r.nm && decide (1 ≤ r.fr) && decide (r.fr ≤ r.to) && decide (r.to ≤ 9999) && momB r.mo r.on r.at_ r.ck && savB r.sv && letterB r.le
def liB (l : LiT) : Bool := decide (-57600 ≤ l.of_) && decide (l.of_ ≤ 57600) && fmtB l.fm && (if l.ru = [] then true else nameB l.ru && l.sv == 0) && savB l.sv &&
 (if l.la = true then decide (l.un = un0) else decide (1 ≤ l.un.yr) && decide (l.un.yr ≤ 9999) && momB l.un.mo l.un.on l.un.at_ l.un.ck)
def zoB (z : ZoT) : Bool := nameB z.nm && decide (1 ≤ z.li.length) && decide (z.li.length ≤ 100) && (List.range z.li.length).all fun i => liB (z.li.getD i li0) && (z.li.getD i li0).la == (i + 1 == z.li.length)
def chkR : List RuT → Option (Bs × Int)
 | [] => none
 | r :: t => if ruB r = true then chkR t else some (r.nm, 1)
def chkN (names : List Bs) : List LiT → Option (Bs × Int)
 | [] => none
 | l :: t => if (l.ru == [] || names.contains l.ru) = true then chkN names t else some (l.ru, 7)
def chkZ (names : List Bs) (seen : List Bs) : List ZoT → Option (Bs × Int)
 | [] => none
 | z :: t => if zoB z = false then some (z.nm, 1) else if seen.contains z.nm = true then some (z.nm, 8) else match chkN names z.li with
  | some e => some e
  | none => chkZ names (z.nm :: seen) t
def chkL (zones : List Bs) (seen : List Bs) : List LkT → Option (Bs × Int)
 | [] => none
 | x :: t => if nameB x.nm = false then some (x.nm, 1) else if (zones.contains x.nm || seen.contains x.nm) = true then some (x.nm, 8) else if zones.contains x.zo = false then some (x.zo, 7) else chkL zones (x.nm :: seen) t
def checkM (s : SrT) : Bs × Int :=
 if 100 < s.ru.length ∨ 30 < s.zo.length + s.lk.length then ([], 5) else
 match chkR s.ru with
 | some e => e
 | none => match chkZ (s.ru.map RuT.nm) [] s.zo with
  | some e => e
  | none => match chkL (s.zo.map ZoT.nm) [] s.lk with
   | some e => e
   | none => ([], 0)
def validB (s : SrT) : Bool := (checkM s).2 == 0
def onT (o : OnT) : Bs := if onB o = false then [] else if o.k = 1 then itoa o.d else if o.k = 2 then [108, 97, 115, 116] ++ getM wdayL o.w else getM wdayL o.w ++ (if o.k = 3 then [62, 61] else [60, 61]) ++ itoa o.d
def dayM (s : Bs) : Int × Int := if negB s = true then (0, 3) else numM s 1 31
def onM (s : Bs) : OnT × Int :=
 if [108, 97, 115, 116].isPrefixOf s = true then (if (findM' wdayL (s.drop 4)).2 ≠ 0 then (on0, 3) else (⟨2, (findM' wdayL (s.drop 4)).1, 0⟩, 0)) else
 if (s.drop 3).take 2 = [62, 61] ∨ (s.drop 3).take 2 = [60, 61] then (if (findM' wdayL (s.take 3)).2 ≠ 0 then (on0, 3) else if (dayM (s.drop 5)).2 ≠ 0 then (on0, (dayM (s.drop 5)).2) else (⟨if (s.drop 3).take 2 = [62, 61] then 3 else 4, (findM' wdayL (s.take 3)).1, (dayM (s.drop 5)).1⟩, 0)) else
 if (dayM s).2 ≠ 0 then (on0, (dayM s).2) else (⟨1, 0, (dayM s).1⟩, 0)
def dashT (s : Bs) : Bs := if s = [] then [45] else s
def joinT : List Bs → Bs
 | [] => []
 | [a] => a
 | a :: r => a ++ 32 :: joinT r
def ruleW (r : RuT) : List Bs := [[114, 117, 108, 101], r.nm, itoa r.fr, if r.to = r.fr then [111, 110, 108, 121] else if r.to = 9999 then [109, 97, 120] else itoa r.to, getM monthL r.mo, onT r.on, clockT r.at_ r.ck, offsetT r.sv, dashT r.le]
def lineW (l : LiT) : List Bs := [[108, 105, 110, 101], offsetT l.of_, if l.ru = [] ∧ l.sv ≠ 0 then offsetT l.sv else dashT l.ru, l.fm] ++ if l.la = true then [] else [[117, 110, 116, 105, 108], itoa l.un.yr, getM monthL l.un.mo, onT l.un.on, clockT l.un.at_ l.un.ck]
def zoneW (z : ZoT) : List Bs := [[122, 111, 110, 101], z.nm]
def linkW (x : LkT) : List Bs := [[108, 105, 110, 107], x.nm, x.zo]
def wordsT (s : SrT) : List (List Bs) := s.ru.map ruleW ++ s.zo.flatMap (fun z => zoneW z :: z.li.map lineW) ++ s.lk.map linkW
def flatT (l : List (List Bs)) : Bs := l.flatMap fun ws => joinT ws ++ [10]
def textM (s : SrT) : Bs × Int := if validB s = false then ([], 1) else if 65536 < (flatT (wordsT s)).length then ([], 5) else (flatT (wordsT s), 0)
end Wk
end Go.Proofs.YtmfdnbfjdhlonaaGreatDoor
namespace Go.Proofs.YtmfdnbfjdhlonaaGreatDoor
namespace Wk
open Go.Lib

structure Tok where
 tx : Bs
 ln : Nat
 co : Nat
deriving DecidableEq
def tok0 : Tok := ⟨[], 0, 0⟩
def badC (c : UInt8) : Bool := !(c == 9) && (decide (c.toNat < 32) || decide (126 < c.toNat))
def blkC (c : UInt8) : Bool := c == 32 || c == 9
def moreT (ws : List Tok) (c : UInt8) : List Tok := ws.dropLast ++ [{ (ws.getLastD tok0) with tx := (ws.getLastD tok0).tx ++ [c] }]
structure LxS where
 cm : Bool
 op : Bool
 ws : List Tok
def lxStep (ln k : Nat) (s : LxS) (c : UInt8) : LxS :=
 if (s.cm || c == 35 || blkC c) = true then ⟨s.cm || c == 35, false, s.ws⟩ else if s.op = true then ⟨false, true, moreT s.ws c⟩ else ⟨false, true, s.ws ++ [⟨[c], ln, k⟩]⟩
def lexS (ln : Nat) : Bs → Nat → LxS → List Tok ⊕ Nat
 | [], _, s => .inl s.ws
 | c :: r, k, s => if badC c = true then .inr k else lexS ln r (k + 1) (lxStep ln k s c)
def lexL (ln : Nat) (s : Bs) : List Tok ⊕ Nat := lexS ln s 1 ⟨false, false, []⟩
def splitNl : Bs → List Bs
 | [] => [[]]
 | c :: r => if c == 10 then [] :: splitNl r else match splitNl r with
  | [] => [[c]]
  | l :: ls => (c :: l) :: ls
def linesS : Nat → List Bs → List (List Tok) ⊕ (Nat × Nat)
 | _, [] => .inl []
 | ln, l :: r => match lexL ln l with
  | .inr k => .inr (ln, k)
  | .inl ws => match linesS (ln + 1) r with
   | .inr p => .inr p
   | .inl out => .inl (if ws = [] then out else ws :: out)
def linesM (s : Bs) : List (List Tok) × (Nat × Nat) × Int :=
 if 65536 < s.length then ([], (0, 0), 5) else match linesS 1 (splitNl s) with
 | .inl out => (out, (0, 0), 0)
 | .inr p => ([], p, 3)
abbrev Rd (α : Type) := List Tok → Nat → (α × Nat) ⊕ ((Nat × Nat) × Int)
def plT (ws : List Tok) (i : Nat) : Nat × Nat := ((ws.getD i tok0).ln, (ws.getD i tok0).co)
def Rd.bind {α β : Type} (m : Rd α) (f : α → Rd β) : Rd β := fun ws n => match m ws n with
 | .inl (a, k) => f a ws k
 | .inr e => .inr e
def Rd.pure {α : Type} (a : α) : Rd α := fun _ n => .inl (a, n)
def Rd.fail {α : Type} (e : Int) : Rd α := fun ws n => .inr (plT ws (n - 1), e)
instance : Monad Rd where
 pure := Rd.pure
 bind := Rd.bind
def wordR : Rd Bs := fun ws n => if n < ws.length then .inl ((ws.getD n tok0).tx, n + 1) else .inr (plT ws (ws.length - 1), 4)
def needR (b : Bool) (e : Int) : Rd Unit := if b = true then Rd.pure () else Rd.fail e
def checkR (good : Bs → Bool) : Rd Bs := Rd.bind wordR fun s => Rd.bind (needR (good s) 3) fun _ => Rd.pure s
def numR (f : Bs → Int × Int) : Rd Int := Rd.bind wordR fun s => Rd.bind (needR ((f s).2 == 0) (f s).2) fun _ => Rd.pure (f s).1
def yearR : Rd Int := numR fun s => numM s 1 9999
def limR (good : Int → Bool) : Rd Int := Rd.bind (numR offsetM) fun n => Rd.bind (needR (good n) 2) fun _ => Rd.pure n
def whenR : Rd (Int × OnT × Int × Int) :=
 Rd.bind (numR (findM' monthL)) fun m => Rd.bind wordR fun s => Rd.bind (needR ((onM s).2 == 0) (onM s).2) fun _ => Rd.bind (needR (fitsB (onM s).1 m) 2) fun _ =>
 Rd.bind wordR fun t => Rd.bind (needR ((clockM t).2.2 == 0) (clockM t).2.2) fun _ => Rd.pure (m, (onM s).1, (clockM t).1, (clockM t).2.1)
def endR : Rd Unit := fun ws n => if n < ws.length then .inr (plT ws n, 3) else .inl ((), n)
def toR (fr : Int) : Rd Int := Rd.bind wordR fun s => if s = [111, 110, 108, 121] then Rd.pure fr else if s = [109, 97, 120] then Rd.pure 9999 else
 Rd.bind (needR ((numM s 1 9999).2 == 0) (numM s 1 9999).2) fun _ => Rd.bind (needR (decide (fr ≤ (numM s 1 9999).1)) 2) fun _ => Rd.pure (numM s 1 9999).1
def ruleR : Rd RuT := Rd.bind (checkR nameB) fun nm => Rd.bind yearR fun fr => Rd.bind (toR fr) fun to => Rd.bind whenR fun w => Rd.bind (limR savB) fun sv =>
 Rd.bind (checkR fun s => s == [45] || (!(s == []) && letterB s)) fun le => Rd.bind endR fun _ => Rd.pure ⟨nm, fr, to, w.1, w.2.1, w.2.2.1, w.2.2.2, sv, if le = [45] then [] else le⟩
def rulesR : Rd (Bs × Int) := Rd.bind wordR fun s => if s = [45] then Rd.pure ([], 0) else if nameB s = true then Rd.pure (s, 0) else
 Rd.bind (needR ((offsetM s).2 == 0) (offsetM s).2) fun _ => Rd.bind (needR (savB (offsetM s).1) 2) fun _ => Rd.pure ([], (offsetM s).1)
def lastR : Rd Bool := fun ws n => .inl (n == ws.length, n)
def lineR : Rd LiT := Rd.bind (limR fun n => decide (-57600 ≤ n) && decide (n ≤ 57600)) fun o => Rd.bind rulesR fun r => Rd.bind (checkR fmtB) fun f => Rd.bind lastR fun la =>
 if la = true then Rd.pure ⟨o, r.1, r.2, f, true, un0⟩ else
 Rd.bind (checkR fun s => s == [117, 110, 116, 105, 108]) fun _ => Rd.bind yearR fun y => Rd.bind whenR fun w => Rd.bind endR fun _ => Rd.pure ⟨o, r.1, r.2, f, false, ⟨y, w.1, w.2.1, w.2.2.1, w.2.2.2⟩⟩
def zoneR : Rd ZoT := Rd.bind (checkR nameB) fun nm => Rd.bind endR fun _ => Rd.pure ⟨nm, []⟩
def linkR : Rd LkT := Rd.bind (checkR nameB) fun nm => Rd.bind (checkR nameB) fun zo => Rd.bind endR fun _ => Rd.pure ⟨nm, zo⟩
def doneB (z : ZoT) : Bool := match z.li.getLast? with
 | some l => l.la
 | none => false
def addLine (s : SrT) (l : LiT) : SrT := { s with zo := s.zo.dropLast ++ [{ (s.zo.getLastD ⟨[], []⟩) with li := (s.zo.getLastD ⟨[], []⟩).li ++ [l] }] }
def lineStep (ws : List Tok) (s : SrT) : SrT ⊕ ((Nat × Nat) × Int) :=
 if (ws.getD 0 tok0).tx = [114, 117, 108, 101] then (match ruleR ws 1 with
  | .inl (r, _) => .inl { s with ru := s.ru ++ [r] }
  | .inr e => .inr e)
 else if (ws.getD 0 tok0).tx = [122, 111, 110, 101] then (match zoneR ws 1 with
  | .inl (z, _) => .inl { s with zo := s.zo ++ [z] }
  | .inr e => .inr e)
 else if (ws.getD 0 tok0).tx = [108, 105, 110, 101] then (if (s.zo == [] || doneB (s.zo.getLastD ⟨[], []⟩)) = true then .inr (plT ws 0, 6) else match lineR ws 1 with
  | .inl (l, _) => .inl (addLine s l)
  | .inr e => .inr e)
 else if (ws.getD 0 tok0).tx = [108, 105, 110, 107] then (match linkR ws 1 with
  | .inl (x, _) => .inl { s with lk := s.lk ++ [x] }
  | .inr e => .inr e)
 else .inr (plT ws 0, 3)
def readS : List (List Tok) → SrT → SrT ⊕ ((Nat × Nat) × Int)
 | [], s => .inl s
 | ws :: r, s => match lineStep ws s with
  | .inl s' => readS r s'
  | .inr e => .inr e
def parseM (t : Bs) : SrT × (Nat × Nat) × Int :=
 if (linesM t).2.2 ≠ 0 then (sr0, (linesM t).2.1, (linesM t).2.2) else match readS (linesM t).1 sr0 with
 | .inr e => (sr0, e.1, e.2)
 | .inl s => if s.zo.any (fun z => !doneB z) = true then (sr0, (0, 0), 4) else if (checkM s).2 ≠ 0 then (sr0, (0, 0), (checkM s).2) else (s, (0, 0), 0)
end Wk
end Go.Proofs.YtmfdnbfjdhlonaaGreatDoor
namespace Go.Proofs.YtmfdnbfjdhlonaaGreatDoor
namespace Wk
open Go.Lib

def wdC (c : UInt8) : Bool := decide (33 ≤ c.toNat) && decide (c.toNat ≤ 126) && !(c == 35)
def wdT (w : Bs) : Prop := w ≠ [] ∧ w.all wdC = true
theorem wdC_ok {c : UInt8} (h : wdC c = true) : badC c = false ∧ blkC c = false ∧ (c == 35) = false ∧ (c == 10) = false := by
 unfold wdC at h
 simp only [Bool.and_eq_true, decide_eq_true_eq, Bool.not_eq_true'] at h
 have h2 : ∀ n : Nat, n < 33 → n < 256 → (c == UInt8.ofNat n) = false := fun n hn _ => by
  rw [beq_eq_false_iff_ne]
  intro e
  rw [e, UInt8.toNat_ofNat'] at h
  omega
 have e9 : (c == 9) = false := h2 9 (by omega) (by omega)
 have e32 : (c == 32) = false := h2 32 (by omega) (by omega)
 have e10 : (c == 10) = false := h2 10 (by omega) (by omega)
 refine ⟨?_, ?_, h.2, e10⟩
 ·unfold badC
  rw [e9, decide_eq_false (by omega), decide_eq_false (by omega)]
  rfl
 ·unfold blkC
  rw [e9, e32]
  rfl
def tokJ (ln : Nat) : Nat → List Bs → List Tok
 | _, [] => []
 | k, w :: r => ⟨w, ln, k⟩ :: tokJ ln (k + w.length + 1) r
theorem lex_more (ln : Nat) : ∀ (w r t : Bs) (k c : Nat) (ws : List Tok), w.all wdC = true → lexS ln (w ++ r) k ⟨false, true, ws ++ [⟨t, ln, c⟩]⟩ = lexS ln r (k + w.length) ⟨false, true, ws ++ [⟨t ++ w, ln, c⟩]⟩
 | [], r, t, k, c, ws, _ => by simp
 | a :: w, r, t, k, c, ws, h => by
  rw [List.all_cons, Bool.and_eq_true] at h
  obtain ⟨h1, h2, h3, -⟩ := wdC_ok h.1
  rw [List.cons_append, lexS, if_neg (by rw [h1]; simp)]
  have e : lxStep ln k ⟨false, true, ws ++ [⟨t, ln, c⟩]⟩ a = ⟨false, true, ws ++ [⟨t ++ [a], ln, c⟩]⟩ := by
   unfold lxStep
   simp only [h2, h3, Bool.or_false, Bool.false_eq_true, if_false, if_true]
   unfold moreT
   simp
  rw [e, lex_more ln w r (t ++ [a]) (k + 1) c ws h.2, List.append_assoc, show k + 1 + w.length = k + (a :: w).length by rw [List.length_cons]; omega]
  rfl
theorem lex_word (ln : Nat) (w r : Bs) (k : Nat) (ws : List Tok) (h : wdT w) : lexS ln (w ++ r) k ⟨false, false, ws⟩ = lexS ln r (k + w.length) ⟨false, true, ws ++ [⟨w, ln, k⟩]⟩ := by
 obtain ⟨h0, h1⟩ := h
 cases w with
 | nil => exact absurd rfl h0
 | cons a w =>
  rw [List.all_cons, Bool.and_eq_true] at h1
  obtain ⟨g1, g2, g3, -⟩ := wdC_ok h1.1
  rw [List.cons_append, lexS, if_neg (by rw [g1]; simp)]
  have e : lxStep ln k ⟨false, false, ws⟩ a = ⟨false, true, ws ++ [⟨[a], ln, k⟩]⟩ := by
   unfold lxStep
   simp only [g2, g3, Bool.or_false, Bool.false_eq_true, if_false]
  rw [e, lex_more ln w r [a] (k + 1) k ws h1.2, show k + 1 + w.length = k + (a :: w).length by rw [List.length_cons]; omega]
  rfl
theorem lex_blank (ln : Nat) (r : Bs) (k : Nat) (op : Bool) (ws : List Tok) : lexS ln (32 :: r) k ⟨false, op, ws⟩ = lexS ln r (k + 1) ⟨false, false, ws⟩ := by
 rw [lexS, if_neg (by decide)]
 rfl
theorem lex_join (ln : Nat) : ∀ (l : List Bs) (k : Nat) (ws : List Tok), (∀ w ∈ l, wdT w) → lexS ln (joinT l) k ⟨false, false, ws⟩ = .inl (ws ++ tokJ ln k l)
 | [], k, ws, _ => by simp [joinT, lexS, tokJ]
 | [w], k, ws, h => by
  have := lex_word ln w [] k ws (h w (by simp))
  rw [List.append_nil] at this
  show lexS ln w k _ = _
  rw [this]
  simp [lexS, tokJ]
 | w :: v :: r, k, ws, h => by
  show lexS ln (w ++ 32 :: joinT (v :: r)) k _ = _
  rw [lex_word ln w _ k ws (h w (by simp)), lex_blank, lex_join ln (v :: r) (k + w.length + 1) _ fun x hx => h x (by simp [hx])]
  simp [tokJ]
theorem split_line : ∀ (x y : Bs), (∀ c ∈ x, (c == 10) = false) → splitNl (x ++ 10 :: y) = x :: splitNl y
 | [], y, _ => by simp [splitNl]
 | c :: x, y, h => by
  rw [List.cons_append, splitNl, if_neg (by rw [h c (by simp)]; simp), split_line x y fun d hd => h d (by simp [hd])]
theorem join_noNl : ∀ (l : List Bs), (∀ w ∈ l, wdT w) → ∀ c ∈ joinT l, (c == 10) = false
 | [], _, c, hc => by simp [joinT] at hc
 | [w], h, c, hc => (wdC_ok (List.all_eq_true.1 (h w (by simp)).2 c hc)).2.2.2
 | w :: v :: r, h, c, hc => by
  have hc : c ∈ w ++ 32 :: joinT (v :: r) := hc
  rw [List.mem_append, List.mem_cons] at hc
  rcases hc with hc | rfl | hc
  ·exact (wdC_ok (List.all_eq_true.1 (h w (by simp)).2 c hc)).2.2.2
  ·decide
  ·exact join_noNl (v :: r) (fun x hx => h x (by simp [hx])) c hc
theorem split_flat : ∀ (l : List (List Bs)), (∀ ws ∈ l, ∀ w ∈ ws, wdT w) → splitNl (flatT l) = l.map joinT ++ [[]]
 | [], _ => rfl
 | ws :: r, h => by
  have e : flatT (ws :: r) = joinT ws ++ 10 :: flatT r := by unfold flatT; simp
  rw [e, split_line _ _ (join_noNl ws fun w hw => h ws (by simp) w hw), split_flat r fun x hx => h x (by simp [hx])]
  rfl
def toksJ (ln : Nat) : List (List Bs) → List (List Tok)
 | [] => []
 | ws :: r => tokJ ln 1 ws :: toksJ (ln + 1) r
theorem lines_flat : ∀ (l : List (List Bs)) (ln : Nat), (∀ ws ∈ l, ws ≠ [] ∧ ∀ w ∈ ws, wdT w) → linesS ln (l.map joinT ++ [[]]) = .inl (toksJ ln l)
 | [], ln, _ => by simp [linesS, lexL, lexS, toksJ]
 | ws :: r, ln, h => by
  have h1 := h ws (by simp)
  rw [List.map_cons, List.cons_append, linesS]
  have e : lexL ln (joinT ws) = .inl (tokJ ln 1 ws) := by
   have := lex_join ln ws 1 [] h1.2
   unfold lexL
   rw [this, List.nil_append]
  rw [e, lines_flat r (ln + 1) fun x hx => h x (by simp [hx])]
  have hne : tokJ ln 1 ws ≠ [] := by
   cases ws with
   | nil => exact absurd rfl h1.1
   | cons a b => simp [tokJ]
  simp only [toksJ]
  rw [if_neg hne]
theorem linesM_flat {l : List (List Bs)} (h : ∀ ws ∈ l, ws ≠ [] ∧ ∀ w ∈ ws, wdT w) (hl : (flatT l).length ≤ 65536) : linesM (flatT l) = (toksJ 1 l, (0, 0), 0) := by
 unfold linesM
 rw [if_neg (by omega), split_flat l fun ws hw => (h ws hw).2, lines_flat l 1 h]
/-! what is read in a line -/
theorem tokJ_tx : ∀ (l : List Bs) (ln k : Nat), (tokJ ln k l).map Tok.tx = l
 | [], _, _ => rfl
 | w :: r, ln, k => by simp [tokJ, tokJ_tx r]
theorem word_at {ws : List Tok} {n : Nat} {T : List Bs} (h : ws.map Tok.tx = T) (hn : n < T.length) : wordR ws n = .inl (T.getD n [], n + 1) := by
 have hl : ws.length = T.length := by rw [← h, List.length_map]
 unfold wordR
 rw [if_pos (by omega), ← h]
 congr 2
 rw [List.getD_eq_getElem?_getD, List.getD_eq_getElem?_getD, List.getElem?_map, List.getElem?_eq_getElem (by omega)]
 rfl
theorem bind_ok {α β : Type} {m : Rd α} {f : α → Rd β} {ws : List Tok} {n k : Nat} {a : α} (h : m ws n = .inl (a, k)) : Rd.bind m f ws n = f a ws k := by unfold Rd.bind; rw [h]
theorem need_ok {b : Bool} {e : Int} {ws : List Tok} {n : Nat} (h : b = true) : needR b e ws n = .inl ((), n) := by unfold needR; rw [if_pos h]; rfl
theorem check_ok {ws : List Tok} {n : Nat} {T : List Bs} (h : ws.map Tok.tx = T) (hn : n < T.length) {good : Bs → Bool} (hg : good (T.getD n []) = true) : checkR good ws n = .inl (T.getD n [], n + 1) := by
 unfold checkR
 rw [bind_ok (word_at h hn), bind_ok (need_ok hg)]
 rfl
theorem num_ok {ws : List Tok} {n : Nat} {T : List Bs} (h : ws.map Tok.tx = T) (hn : n < T.length) {f : Bs → Int × Int} {v : Int} (hf : f (T.getD n []) = (v, 0)) : numR f ws n = .inl (v, n + 1) := by
 unfold numR
 rw [bind_ok (word_at h hn), bind_ok (need_ok (by rw [hf]; rfl)), hf]
 rfl
theorem lim_ok {ws : List Tok} {n : Nat} {T : List Bs} (h : ws.map Tok.tx = T) (hn : n < T.length) {good : Int → Bool} {v : Int} (hf : offsetM (T.getD n []) = (v, 0)) (hg : good v = true) : limR good ws n = .inl (v, n + 1) := by
 unfold limR
 rw [bind_ok (num_ok h hn hf), bind_ok (need_ok hg)]
 rfl
theorem when_ok {ws : List Tok} {n : Nat} {T : List Bs} (h : ws.map Tok.tx = T) (hn : n + 2 < T.length) {m : Int} {o : OnT} {a c : Int} (h1 : findM' monthL (T.getD n []) = (m, 0)) (h2 : onM (T.getD (n + 1) []) = (o, 0)) (h3 : fitsB o m = true) (h4 : clockM (T.getD (n + 2) []) = (a, c, 0)) : whenR ws n = .inl ((m, o, a, c), n + 3) := by
 unfold whenR
 rw [bind_ok (num_ok h (by omega) h1), bind_ok (word_at h (by omega)), bind_ok (need_ok (by rw [h2]; rfl)), h2, bind_ok (need_ok h3), bind_ok (word_at h (by omega)), bind_ok (need_ok (by rw [h4]; rfl)), h4]
 rfl
theorem end_ok {ws : List Tok} {n : Nat} {T : List Bs} (h : ws.map Tok.tx = T) (hn : n = T.length) : endR ws n = .inl ((), n) := by
 have hl : ws.length = T.length := by rw [← h, List.length_map]
 unfold endR
 rw [if_neg (by omega)]
end Wk
end Go.Proofs.YtmfdnbfjdhlonaaGreatDoor
namespace Go.Proofs.YtmfdnbfjdhlonaaGreatDoor
namespace Wk
open Go.Lib

theorem on_all : ∀ (k : Fin 5) (w : Fin 8) (d : Fin 32), onB ⟨k.val, w.val, d.val⟩ = true → onM (onT ⟨k.val, w.val, d.val⟩) = (⟨k.val, w.val, d.val⟩, 0) ∧ (onT ⟨k.val, w.val, d.val⟩ ≠ [] ∧ (onT ⟨k.val, w.val, d.val⟩).all wdC = true) ∧ (onT ⟨k.val, w.val, d.val⟩).length ≤ 7 := by
 decide +kernel
theorem on_fin {o : OnT} (h : onB o = true) : ∃ (k : Fin 5) (w : Fin 8) (d : Fin 32), o = ⟨k.val, w.val, d.val⟩ := by
 obtain ⟨k, w, d⟩ := o
 have hb : (1 ≤ k ∧ k ≤ 4) ∧ (0 ≤ w ∧ w ≤ 7) ∧ (0 ≤ d ∧ d ≤ 31) := by
  unfold onB dayB wdB at h
  simp only at h
  split at h
  ·simp at h; omega
  ·split at h
   ·simp at h; omega
   ·split at h
    ·simp at h; omega
    ·cases h
 exact ⟨⟨k.toNat, by omega⟩, ⟨w.toNat, by omega⟩, ⟨d.toNat, by omega⟩, by simp; omega⟩
theorem on_ok {o : OnT} (h : onB o = true) : onM (onT o) = (o, 0) ∧ wdT (onT o) ∧ (onT o).length ≤ 7 := by
 obtain ⟨k, w, d, rfl⟩ := on_fin h
 exact on_all k w d h
theorem month_all : ∀ m : Fin 13, 1 ≤ m.val → findM' monthL (getM monthL m.val) = ((m.val : Int), 0) ∧ getM monthL m.val ≠ [] ∧ (getM monthL m.val).all wdC = true ∧ (getM monthL m.val).length = 3 := by
 decide +kernel
theorem month_ok {m : Int} (h1 : 1 ≤ m) (h2 : m ≤ 12) : findM' monthL (getM monthL m) = (m, 0) ∧ wdT (getM monthL m) ∧ (getM monthL m).length = 3 := by
 have := month_all ⟨m.toNat, by omega⟩ (by show 1 ≤ m.toNat; omega)
 rw [show ((m.toNat : Nat) : Int) = m by omega] at this
 exact ⟨this.1, ⟨this.2.1, this.2.2.1⟩, this.2.2.2⟩
theorem dig_wd {c : UInt8} (h : digC c = true) : wdC c = true := by
 have := dig_of h
 unfold wdC
 rw [decide_eq_true (by omega), decide_eq_true (by omega)]
 simp
 intro e
 rw [e] at this
 simp at this
theorem let_wd {c : UInt8} (h : letC c = true) : wdC c = true := by
 unfold letC at h
 simp only [Bool.or_eq_true, Bool.and_eq_true, decide_eq_true_eq] at h
 unfold wdC
 rw [decide_eq_true (by omega), decide_eq_true (by omega)]
 simp
 intro e
 rw [e] at h
 simp at h
theorem nam_wd {c : UInt8} (h : namC c = true) : wdC c = true := by
 unfold namC at h
 simp only [Bool.or_eq_true, beq_iff_eq] at h
 rcases h with ((((h | h) | h) | h) | h) | h
 ·exact let_wd h
 ·exact dig_wd h
 ·rw [h]; decide
 ·rw [h]; decide
 ·rw [h]; decide
 ·rw [h]; decide
theorem name_wd {s : Bs} (h : nameB s = true) : wdT s ∧ s.length ≤ 30 := by
 cases s with
 | nil => cases h
 | cons c r =>
  unfold nameB at h
  simp only [Bool.and_eq_true, decide_eq_true_eq] at h
  exact ⟨⟨by simp, List.all_eq_true.2 fun x hx => nam_wd (List.all_eq_true.1 h.2 x hx)⟩, by rw [List.length_cons]; exact h.1.1⟩
theorem dec_wd (u : Nat) : wdT (decDigits u) := by
 obtain ⟨-, h2, h3, -⟩ := dec_ok u u (Nat.le_refl _)
 exact ⟨h3, List.all_eq_true.2 fun x hx => dig_wd (List.all_eq_true.1 h2 x hx)⟩
theorem only_wd {s m : Bs} (h : onlyB s m = true) (hm : ∀ c ∈ m, wdC c = true) : s.all wdC = true := by
 unfold onlyB at h
 refine List.all_eq_true.2 fun x hx => ?_
 have := List.all_eq_true.1 h x hx
 simp only [Bool.or_eq_true] at this
 rcases this with (h | h) | h
 ·exact let_wd h
 ·exact dig_wd h
 ·exact hm x (by simpa using h)
theorem twoT_wd {n : Nat} (h : n < 100) : (twoT n).all digC = true := by
 unfold twoT
 simp [(digU_dig (n := n / 10) (by omega)).1, (digU_dig (n := n % 10) (by omega)).1]
theorem span_wd {n : Nat} (h : n < 360000) : wdT (spanT n) ∧ (spanT n).length ≤ 8 ∧ negB (spanT n) = false ∧ ∃ c, (spanT n).getLast? = some c ∧ digC c = true := by
 have t1 := twoT_wd (n := n / 3600) (by omega)
 have t2 := twoT_wd (n := n / 60 % 60) (by omega)
 have t3 := twoT_wd (n := n % 60) (by omega)
 obtain ⟨k, hk, hk1, hk2, hk3⟩ : ∃ k : Bs, (if n < 36000 then (twoT (n / 3600)).tail else twoT (n / 3600)) = k ∧ k.all digC = true ∧ k.length ≤ 2 ∧ k ≠ [] := by
  refine ⟨_, rfl, ?_⟩
  split
  ·exact ⟨List.all_eq_true.2 fun x hx => List.all_eq_true.1 t1 x (List.mem_of_mem_tail hx), by simp [twoT], by simp [twoT]⟩
  ·exact ⟨t1, by simp [twoT], by simp [twoT]⟩
 have hd : ∀ l : Bs, l.all digC = true → l.all wdC = true := fun l hl => List.all_eq_true.2 fun x hx => dig_wd (List.all_eq_true.1 hl x hx)
 unfold spanT
 rw [hk]
 refine ⟨⟨by simp, ?_⟩, ?_, ?_, ?_⟩
 ·rw [List.all_append, List.all_append, List.all_cons, hd k hk1, hd _ t2]
  split
  ·rw [List.all_cons, hd _ t3]; rfl
  ·rfl
 ·simp only [List.length_append, List.length_cons]
  have : (twoT (n / 60 % 60)).length = 2 := rfl
  split
  ·simp [twoT]; omega
  ·simp [twoT]; omega
 ·cases k with
  | nil => exact absurd rfl hk3
  | cons a r =>
   unfold negB
   simp at hk1 ⊢
   intro e
   rw [e] at hk1
   exact absurd hk1.1 (by decide)
 ·split
  ·refine ⟨digU (n % 60 % 10), ?_, (digU_dig (by omega)).1⟩
   rw [List.getLast?_append]
   simp [twoT]
  ·refine ⟨digU (n / 60 % 60 % 10), ?_, (digU_dig (by omega)).1⟩
   rw [List.append_nil, List.getLast?_append]
   simp [twoT]
theorem dig_not {c : UInt8} (h : digC c = true) : c ≠ 119 ∧ c ≠ 115 ∧ c ≠ 117 := by
 have := dig_of h
 refine ⟨fun e => ?_, fun e => ?_, fun e => ?_⟩ <;> (rw [e] at this; simp at this)
theorem clk_dig {s : Bs} {c : UInt8} (h : s.getLast? = some c) (hd : digC c = true) : clkOf s = 1 ∧ clkCut s = s := by
 obtain ⟨h1, h2, h3⟩ := dig_not hd
 unfold clkOf clkCut
 rw [h]
 constructor
 ·split
  ·rename_i e; injection e with e; exact absurd e h2
  ·rename_i e; injection e with e; exact absurd e h3
  ·rfl
 ·split
  ·rename_i e; injection e with e; exact absurd e h1
  ·rename_i e; injection e with e; exact absurd e h2
  ·rename_i e; injection e with e; exact absurd e h3
  ·rfl
theorem clock_ok {n c : Int} (h0 : 0 ≤ n) (h1 : n ≤ 93600) (h2 : 1 ≤ c) (h3 : c ≤ 3) : clockM (clockT n c) = (n, c, 0) ∧ wdT (clockT n c) ∧ (clockT n c).length ≤ 9 := by
 obtain ⟨w1, w2, -, d, hl, hd⟩ := span_wd (n := n.toNat) (by omega)
 have hs := span_ok (n := n.toNat) (by omega)
 unfold clockT
 rw [if_pos ⟨h0, h1, h2, h3⟩]
 rcases (by omega : c = 1 ∨ c = 2 ∨ c = 3) with rfl | rfl | rfl
 ·rw [if_neg (by omega), if_neg (by omega), List.append_nil]
  obtain ⟨k1, k2⟩ := clk_dig hl hd
  refine ⟨?_, w1, by omega⟩
  unfold clockM
  rw [k2, hs, k1]
  simp only
  rw [if_neg (by omega), show ((n.toNat : Nat) : Int) = n by omega]
 ·rw [if_pos rfl]
  have k1 : clkOf (spanT n.toNat ++ [115]) = 2 := by unfold clkOf; simp
  have k2 : clkCut (spanT n.toNat ++ [115]) = spanT n.toNat := by unfold clkCut; simp
  refine ⟨?_, ⟨by simp, by rw [List.all_append, w1.2]; rfl⟩, by simp; omega⟩
  unfold clockM
  rw [k2, hs, k1]
  simp only
  rw [if_neg (by omega), show ((n.toNat : Nat) : Int) = n by omega]
 ·rw [if_neg (by omega), if_pos rfl]
  have k1 : clkOf (spanT n.toNat ++ [117]) = 3 := by unfold clkOf; simp
  have k2 : clkCut (spanT n.toNat ++ [117]) = spanT n.toNat := by unfold clkCut; simp
  refine ⟨?_, ⟨by simp, by rw [List.all_append, w1.2]; rfl⟩, by simp; omega⟩
  unfold clockM
  rw [k2, hs, k1]
  simp only
  rw [if_neg (by omega), show ((n.toNat : Nat) : Int) = n by omega]
theorem offset_ok {n : Int} (h0 : -93600 ≤ n) (h1 : n ≤ 93600) : offsetM (offsetT n) = (n, 0) ∧ wdT (offsetT n) ∧ (offsetT n).length ≤ 9 := by
 unfold offsetT
 rw [if_neg (by omega)]
 by_cases hn : n < 0
 ·rw [if_pos hn]
  obtain ⟨w1, w2, -, -⟩ := span_wd (n := (-n).toNat) (by omega)
  have hs := span_ok (n := (-n).toNat) (by omega)
  refine ⟨?_, ⟨by simp, by rw [List.all_cons, w1.2]; rfl⟩, by rw [List.length_cons]; omega⟩
  have hb : negB (45 :: spanT (-n).toNat) = true := rfl
  unfold offsetM absB
  rw [hb, if_pos rfl, List.tail_cons, hs]
  simp only
  rw [if_neg (by simp; omega), if_neg (by omega), if_pos (by trivial), show -(((-n).toNat : Nat) : Int) = n by omega]
 ·rw [if_neg hn]
  obtain ⟨w1, w2, w3, -⟩ := span_wd (n := n.toNat) (by omega)
  have hs := span_ok (n := n.toNat) (by omega)
  refine ⟨?_, w1, by omega⟩
  unfold offsetM absB
  rw [w3, if_neg (by simp), hs]
  simp only
  rw [if_neg (by simp), if_neg (by omega), if_neg (by simp), show ((n.toNat : Nat) : Int) = n by omega]
theorem itoa_pos {n : Int} (h : 0 ≤ n) : itoa n = decDigits n.toNat := by unfold itoa; rw [if_neg (by omega)]
theorem year_ok {n : Int} (h1 : 1 ≤ n) (h2 : n ≤ 9999) : numM (itoa n) 1 9999 = (n, 0) ∧ wdT (itoa n) ∧ (itoa n).length ≤ 4 := by
 rw [itoa_pos (by omega)]
 refine ⟨?_, dec_wd _, ?_⟩
 ·have := num_pos (u := n.toNat) (lo := 1) (hi := 9999) (by omega) (by omega)
  rw [this, show ((n.toNat : Nat) : Int) = n by omega]
 ·rw [decDigits_length]
  have : ∀ u : Fin 10000, nDigits u.val ≤ 4 := by
   intro u
   have h3 : ∀ v, v < 10 → nDigits v ≤ 1 := fun v hv => by rw [nDigits_small hv]; exact Nat.le_refl _
   have step : ∀ v k, (∀ x, x < 10 ^ k → nDigits x ≤ k) → 1 ≤ k → v < 10 ^ (k + 1) → nDigits v ≤ k + 1 := fun v k hx hk hv => by
    by_cases h : v < 10
    ·rw [nDigits_small h]; omega
    ·rw [nDigits_big h]
     have := hx (v / 10) (by rw [Nat.pow_succ] at hv; omega)
     omega
   have s1 : ∀ x, x < 10 ^ 1 → nDigits x ≤ 1 := fun x hx => h3 x (by simpa using hx)
   have s2 : ∀ x, x < 10 ^ 2 → nDigits x ≤ 2 := fun x hx => step x 1 s1 (by omega) hx
   have s3 : ∀ x, x < 10 ^ 3 → nDigits x ≤ 3 := fun x hx => step x 2 s2 (by omega) hx
   exact step u.val 3 s3 (by omega) u.isLt
  exact this ⟨n.toNat, by omega⟩
end Wk
end Go.Proofs.YtmfdnbfjdhlonaaGreatDoor
namespace Go.Proofs.YtmfdnbfjdhlonaaGreatDoor
namespace Wk
open Go.Lib

theorem dec_head (u : Nat) : ∃ c r, decDigits u = c :: r ∧ digC c = true := by
 obtain ⟨-, h2, h3, -⟩ := dec_ok u u (Nat.le_refl _)
 cases hd : decDigits u with
 | nil => exact absurd hd h3
 | cons c r =>
  rw [hd, List.all_cons, Bool.and_eq_true] at h2
  exact ⟨c, r, rfl, h2.1⟩
theorem mom_parts {m : Int} {o : OnT} {a c : Int} (h : momB m o a c = true) : (1 ≤ m ∧ m ≤ 12) ∧ onB o = true ∧ fitsB o m = true ∧ (0 ≤ a ∧ a ≤ 93600) ∧ 1 ≤ c ∧ c ≤ 3 := by
 unfold momB at h
 simp only [Bool.and_eq_true, decide_eq_true_eq] at h
 exact ⟨⟨h.1.1.1.1.1.1.1, h.1.1.1.1.1.1.2⟩, h.1.1.1.1.1.2, h.1.1.1.1.2, ⟨h.1.1.1.2, h.1.1.2⟩, h.1.2, h.2⟩
theorem when_w {ws : List Tok} {n : Nat} {T : List Bs} (h : ws.map Tok.tx = T) {m : Int} {o : OnT} {a c : Int} (hm : momB m o a c = true) (hn : n + 2 < T.length) (h1 : T.getD n [] = getM monthL m) (h2 : T.getD (n + 1) [] = onT o) (h3 : T.getD (n + 2) [] = clockT a c) : whenR ws n = .inl ((m, o, a, c), n + 3) := by
 obtain ⟨p1, p2, p3, p4, p5⟩ := mom_parts hm
 refine when_ok h hn ?_ ?_ p3 ?_
 ·rw [h1]; exact (month_ok p1.1 p1.2).1
 ·rw [h2]; exact (on_ok p2).1
 ·rw [h3]; exact (clock_ok p4.1 p4.2 p5.1 p5.2).1
theorem ru_parts {r : RuT} (h : ruB r = true) : nameB r.nm = true ∧ 1 ≤ r.fr ∧ r.fr ≤ r.to ∧ r.to ≤ 9999 ∧ momB r.mo r.on r.at_ r.ck = true ∧ savB r.sv = true ∧ letterB r.le = true := by
 unfold ruB at h
 simp only [Bool.and_eq_true, decide_eq_true_eq] at h
 exact ⟨h.1.1.1.1.1.1, h.1.1.1.1.1.2, h.1.1.1.1.2, h.1.1.1.2, h.1.1.2, h.1.2, h.2⟩
theorem sav_parts {n : Int} (h : savB n = true) : n % 60 = 0 ∧ -10800 ≤ n ∧ n ≤ 10800 := by
 unfold savB at h
 simp only [Bool.and_eq_true, beq_iff_eq, decide_eq_true_eq] at h
 exact ⟨h.1.1, h.1.2, h.2⟩
theorem to_ok {ws : List Tok} {n : Nat} {T : List Bs} (h : ws.map Tok.tx = T) (hn : n < T.length) {fr to : Int} (h1 : 1 ≤ fr) (h2 : fr ≤ to) (h3 : to ≤ 9999) (ht : T.getD n [] = if to = fr then [111, 110, 108, 121] else if to = 9999 then [109, 97, 120] else itoa to) : toR fr ws n = .inl (to, n + 1) := by
 unfold toR
 rw [bind_ok (word_at h hn), ht]
 by_cases e : to = fr
 ·rw [if_pos e, if_pos rfl, e]; rfl
 ·rw [if_neg e]
  by_cases e2 : to = 9999
  ·rw [if_pos e2, if_neg (by decide), if_pos rfl, e2]; rfl
  ·rw [if_neg e2]
   obtain ⟨c, r, hc, hd⟩ := dec_head to.toNat
   have hi : itoa to = c :: r := by rw [itoa_pos (by omega), hc]
   have hne1 : itoa to ≠ [111, 110, 108, 121] := fun q => by rw [hi] at q; injection q with q _; rw [q] at hd; exact absurd hd (by decide)
   have hne2 : itoa to ≠ [109, 97, 120] := fun q => by rw [hi] at q; injection q with q _; rw [q] at hd; exact absurd hd (by decide)
   have hy := (year_ok (n := to) (by omega) h3).1
   rw [if_neg hne1, if_neg hne2, hy, bind_ok (need_ok (by rfl)), bind_ok (need_ok (by simpa using h2))]
   rfl
theorem letter_ok {ws : List Tok} {n : Nat} {T : List Bs} (h : ws.map Tok.tx = T) (hn : n < T.length) {le : Bs} (hl : letterB le = true) (ht : T.getD n [] = dashT le) : checkR (fun s => s == [45] || (!(s == []) && letterB s)) ws n = .inl (dashT le, n + 1) := by
 have := check_ok h hn (good := fun s => s == [45] || (!(s == []) && letterB s)) (by
  rw [ht]
  unfold dashT
  by_cases e : le = []
  ·rw [if_pos e]; rfl
  ·rw [if_neg e]
   have : (le == []) = false := by simpa using e
   simp [hl, this])
 rw [ht] at this
 exact this
theorem dash_back {le : Bs} (h : le ≠ [45]) : (if dashT le = [45] then [] else dashT le) = le := by
 unfold dashT
 by_cases e : le = []
 ·rw [if_pos e, if_pos rfl, e]
 ·rw [if_neg e, if_neg h]
theorem letter_ne {le : Bs} (hl : letterB le = true) : le ≠ [45] := fun e => by
 rw [e] at hl
 exact absurd hl (by decide)
theorem rule_ok {ws : List Tok} {r : RuT} (hr : ruB r = true) (h : ws.map Tok.tx = ruleW r) : ruleR ws 1 = .inl (r, 9) := by
 obtain ⟨p1, p2, p3, p4, p5, p6, p7⟩ := ru_parts hr
 have hs := sav_parts p6
 have hl : (ruleW r).length = 9 := rfl
 unfold ruleR yearR
 rw [bind_ok (check_ok h (by omega) (show nameB ((ruleW r).getD 1 []) = true from p1)), bind_ok (num_ok h (n := 2) (v := r.fr) (by omega) (year_ok p2 (by omega)).1),
  bind_ok (to_ok h (n := 3) (by omega) p2 p3 p4 rfl), bind_ok (when_w h (n := 4) p5 (by omega) rfl rfl rfl), bind_ok (lim_ok h (n := 7) (v := r.sv) (by omega) (offset_ok (by omega) (by omega)).1 p6), bind_ok (letter_ok h (n := 8) (by omega) p7 rfl), bind_ok (end_ok h (n := 9) hl.symm)]
 rw [dash_back (letter_ne p7)]
 rfl
theorem li_parts {l : LiT} (h : liB l = true) : (-57600 ≤ l.of_ ∧ l.of_ ≤ 57600) ∧ fmtB l.fm = true ∧ (l.ru ≠ [] → nameB l.ru = true ∧ l.sv = 0) ∧ savB l.sv = true ∧ (l.la = true → l.un = un0) ∧ (l.la = false → (1 ≤ l.un.yr ∧ l.un.yr ≤ 9999) ∧ momB l.un.mo l.un.on l.un.at_ l.un.ck = true) := by
 unfold liB at h
 simp only [Bool.and_eq_true, decide_eq_true_eq] at h
 refine ⟨⟨h.1.1.1.1.1, h.1.1.1.1.2⟩, h.1.1.1.2, fun hn => ?_, h.1.2, fun hl => ?_, fun hl => ?_⟩
 ·have := h.1.1.2
  rw [if_neg hn] at this
  simpa using this
 ·have := h.2
  rw [if_pos hl] at this
  simpa using this
 ·have := h.2
  rw [if_neg (by rw [hl]; simp)] at this
  simpa using this
theorem offset_head {n : Int} (h0 : -93600 ≤ n) (h1 : n ≤ 93600) : nameB (offsetT n) = false ∧ offsetT n ≠ [45] := by
 unfold offsetT
 rw [if_neg (by omega)]
 by_cases hn : n < 0
 ·rw [if_pos hn]
  obtain ⟨w1, -, -, -⟩ := span_wd (n := (-n).toNat) (by omega)
  refine ⟨?_, fun e => w1.1 (by injection e)⟩
  show (decide (_ ≤ 30) && letC 45 && _) = false
  rw [show letC 45 = false from by decide, Bool.and_false, Bool.false_and]
 ·rw [if_neg hn]
  obtain ⟨w1, -, w3, c, hl, hd⟩ := span_wd (n := n.toNat) (by omega)
  have hh : ∃ a r, spanT n.toNat = a :: r ∧ digC a = true := by
   unfold spanT
   split
   ·exact ⟨_, _, rfl, (digU_dig (by omega)).1⟩
   ·exact ⟨_, _, rfl, (digU_dig (by omega)).1⟩
  obtain ⟨a, r, ha, had⟩ := hh
  rw [ha]
  have hla : letC a = false := by
   have := dig_of had
   unfold letC
   rw [decide_eq_false (p := 65 ≤ a.toNat) (by omega), decide_eq_false (p := 97 ≤ a.toNat) (by omega)]
   rfl
  refine ⟨?_, fun e => ?_⟩
  ·show (decide (_ ≤ 30) && letC a && _) = false
   rw [hla, Bool.and_false, Bool.false_and]
  ·injection e with e _
   rw [e] at had
   exact absurd had (by decide)
theorem name_ne {s : Bs} (h : nameB s = true) : s ≠ [45] ∧ s ≠ [] := ⟨fun e => by rw [e] at h; exact absurd h (by decide), fun e => by rw [e] at h; exact absurd h (by decide)⟩
theorem rules_ok {ws : List Tok} {n : Nat} {T : List Bs} (h : ws.map Tok.tx = T) (hn : n < T.length) {ru : Bs} {sv : Int} (h1 : ru ≠ [] → nameB ru = true ∧ sv = 0) (h2 : savB sv = true) (ht : T.getD n [] = if ru = [] ∧ sv ≠ 0 then offsetT sv else dashT ru) : rulesR ws n = .inl ((ru, sv), n + 1) := by
 have hs := sav_parts h2
 unfold rulesR
 rw [bind_ok (word_at h hn), ht]
 by_cases e : ru = []
 ·by_cases e2 : sv = 0
  ·have hx : (if ru = [] ∧ sv ≠ 0 then offsetT sv else dashT ru) = [45] := by rw [if_neg (fun q => q.2 e2), e]; rfl
   rw [hx, if_pos rfl, e, e2]
   rfl
  ·obtain ⟨o1, o2⟩ := offset_head (n := sv) (by omega) (by omega)
   have hx : (if ru = [] ∧ sv ≠ 0 then offsetT sv else dashT ru) = offsetT sv := if_pos ⟨e, e2⟩
   rw [hx, if_neg o2, if_neg (by rw [o1]; simp), (offset_ok (n := sv) (by omega) (by omega)).1, bind_ok (need_ok (by rfl)), bind_ok (need_ok h2), e]
   rfl
 ·obtain ⟨g1, g2⟩ := h1 e
  have hd : dashT ru = ru := by unfold dashT; rw [if_neg e]
  have hx : (if ru = [] ∧ sv ≠ 0 then offsetT sv else dashT ru) = ru := by rw [if_neg (fun q => e q.1), hd]
  rw [hx, if_neg (name_ne g1).1, if_pos g1, g2]
  rfl
theorem lineW_last {l : LiT} (h : l.la = true) : lineW l = [[108, 105, 110, 101], offsetT l.of_, if l.ru = [] ∧ l.sv ≠ 0 then offsetT l.sv else dashT l.ru, l.fm] := by
 have hb : (if l.la = true then [] else [[117, 110, 116, 105, 108], itoa l.un.yr, getM monthL l.un.mo, onT l.un.on, clockT l.un.at_ l.un.ck] : List Bs) = [] := if_pos h
 unfold lineW
 rw [hb]
 rfl
theorem lineW_more {l : LiT} (h : l.la = false) : lineW l = [[108, 105, 110, 101], offsetT l.of_, if l.ru = [] ∧ l.sv ≠ 0 then offsetT l.sv else dashT l.ru, l.fm, [117, 110, 116, 105, 108], itoa l.un.yr, getM monthL l.un.mo, onT l.un.on, clockT l.un.at_ l.un.ck] := by
 have hb : (if l.la = true then [] else [[117, 110, 116, 105, 108], itoa l.un.yr, getM monthL l.un.mo, onT l.un.on, clockT l.un.at_ l.un.ck] : List Bs) = [[117, 110, 116, 105, 108], itoa l.un.yr, getM monthL l.un.mo, onT l.un.on, clockT l.un.at_ l.un.ck] := if_neg (by rw [h]; simp)
 unfold lineW
 rw [hb]
 rfl
theorem line_ok {ws : List Tok} {l : LiT} (hl : liB l = true) (h : ws.map Tok.tx = lineW l) : lineR ws 1 = .inl (l, (lineW l).length) := by
 obtain ⟨p1, p2, p3, p4, p5, p6⟩ := li_parts hl
 have hlen : ws.length = (lineW l).length := by rw [← h, List.length_map]
 have h4 : 4 ≤ (lineW l).length := by unfold lineW; simp
 have e1 : (lineW l).getD 1 [] = offsetT l.of_ := rfl
 have e2 : (lineW l).getD 2 [] = if l.ru = [] ∧ l.sv ≠ 0 then offsetT l.sv else dashT l.ru := rfl
 have e3 : (lineW l).getD 3 [] = l.fm := rfl
 unfold lineR yearR
 rw [bind_ok (lim_ok h (n := 1) (v := l.of_) (by omega) (by rw [e1]; exact (offset_ok (by omega) (by omega)).1) (by simp; omega)), bind_ok (rules_ok h (n := 2) (by omega) p3 p4 e2), bind_ok (check_ok h (n := 3) (by omega) (by rw [e3]; exact p2))]
 have hla : lastR ws 4 = .inl (l.la, 4) := by
  unfold lastR
  rw [hlen]
  cases hb : l.la with
  | true =>
   have : (lineW l).length = 4 := by rw [lineW_last hb]; rfl
   rw [this]; rfl
  | false =>
   have : (lineW l).length = 9 := by rw [lineW_more hb]; rfl
   rw [this]; rfl
 rw [show 3 + 1 = 4 from rfl, bind_ok hla, e3]
 cases hb : l.la with
 | true =>
  have hlen4 : (lineW l).length = 4 := by rw [lineW_last hb]; rfl
  rw [if_pos rfl, hlen4]
  have hu := p5 hb
  obtain ⟨a1, a2, a3, a4, a5, a6⟩ := l
  simp only at hb hu
  subst hb
  subst hu
  rfl
 | false =>
  have hlen9 : (lineW l).length = 9 := by rw [lineW_more hb]; rfl
  obtain ⟨q1, q2⟩ := p6 hb
  have g : ∀ i, (lineW l).getD i [] = ([[108, 105, 110, 101], offsetT l.of_, if l.ru = [] ∧ l.sv ≠ 0 then offsetT l.sv else dashT l.ru, l.fm, [117, 110, 116, 105, 108], itoa l.un.yr, getM monthL l.un.mo, onT l.un.on, clockT l.un.at_ l.un.ck] : List Bs).getD i [] := fun i => by
   rw [lineW_more hb]
  rw [if_neg (by simp), bind_ok (check_ok h (n := 4) (by omega) (by rw [g 4]; rfl)), bind_ok (num_ok h (n := 5) (v := l.un.yr) (by omega) (by rw [g 5]; exact (year_ok q1.1 q1.2).1)), bind_ok (when_w h (n := 6) q2 (by omega) (by rw [g 6]; rfl) (by rw [g 7]; rfl) (by rw [g 8]; rfl)), bind_ok (end_ok h (n := 9) hlen9.symm), hlen9]
  obtain ⟨a1, a2, a3, a4, a5, ⟨u1, u2, u3, u4, u5⟩⟩ := l
  simp only at hb
  subst hb
  rfl
end Wk
end Go.Proofs.YtmfdnbfjdhlonaaGreatDoor
namespace Go.Proofs.YtmfdnbfjdhlonaaGreatDoor
namespace Wk
open Go.Lib

theorem chkR_ok : ∀ {l : List RuT}, chkR l = none → ∀ r ∈ l, ruB r = true
 | [], _, r, hr => absurd hr (by simp)
 | a :: t, h, r, hr => by
  rw [chkR] at h
  by_cases ha : ruB a = true
  ·rw [if_pos ha] at h
   rcases List.mem_cons.1 hr with rfl | hr
   ·exact ha
   ·exact chkR_ok h r hr
  ·rw [if_neg ha] at h
   exact absurd h (by simp)
theorem chkZ_ok : ∀ {l : List ZoT} {names seen : List Bs}, chkZ names seen l = none → ∀ z ∈ l, zoB z = true
 | [], _, _, _, z, hz => absurd hz (by simp)
 | a :: t, names, seen, h, z, hz => by
  rw [chkZ] at h
  by_cases h1 : zoB a = false
  ·rw [if_pos h1] at h; exact absurd h (by simp)
  ·rw [if_neg h1] at h
   by_cases h2 : seen.contains a.nm = true
   ·rw [if_pos h2] at h; exact absurd h (by simp)
   ·rw [if_neg h2] at h
    cases h3 : chkN names a.li with
    | some e => rw [h3] at h; exact absurd h (by simp)
    | none =>
     rw [h3] at h
     rcases List.mem_cons.1 hz with rfl | hz
     ·simpa using h1
     ·exact chkZ_ok h z hz
theorem chkL_ok : ∀ {l : List LkT} {zones seen : List Bs}, chkL zones seen l = none → ∀ x ∈ l, nameB x.nm = true ∧ x.zo ∈ zones
 | [], _, _, _, z, hz => absurd hz (by simp)
 | a :: t, zones, seen, h, z, hz => by
  rw [chkL] at h
  by_cases h1 : nameB a.nm = false
  ·rw [if_pos h1] at h; exact absurd h (by simp)
  ·rw [if_neg h1] at h
   by_cases h2 : (zones.contains a.nm || seen.contains a.nm) = true
   ·rw [if_pos h2] at h; exact absurd h (by simp)
   ·rw [if_neg h2] at h
    by_cases h3 : zones.contains a.zo = false
    ·rw [if_pos h3] at h; exact absurd h (by simp)
    ·rw [if_neg h3] at h
     rcases List.mem_cons.1 hz with rfl | hz
     ·exact ⟨by simpa using h1, by simpa using h3⟩
     ·exact chkL_ok h z hz
theorem chkZ_err : ∀ {l : List ZoT} {names seen : List Bs} {e : Bs × Int}, chkZ names seen l = some e → e.2 ≠ 0
 | [], _, _, _, h => absurd h (by simp [chkZ])
 | a :: t, names, seen, e, h => by
  rw [chkZ] at h
  by_cases h1 : zoB a = false
  ·rw [if_pos h1] at h; injection h with h; rw [← h]; simp
  ·rw [if_neg h1] at h
   by_cases h2 : seen.contains a.nm = true
   ·rw [if_pos h2] at h; injection h with h; rw [← h]; simp
   ·rw [if_neg h2] at h
    cases h3 : chkN names a.li with
    | some f =>
     rw [h3] at h
     injection h with h
     rw [← h]
     have : ∀ (L : List LiT), chkN names L = some f → f.2 ≠ 0 := fun L => by
      induction L with
      | nil => intro q; exact absurd q (by simp [chkN])
      | cons b r ih =>
       intro q
       rw [chkN] at q
       split at q
       ·exact ih q
       ·injection q with q; rw [← q]; simp
     exact this _ h3
    | none => rw [h3] at h; exact chkZ_err h
theorem chkL_err : ∀ {l : List LkT} {zones seen : List Bs} {e : Bs × Int}, chkL zones seen l = some e → e.2 ≠ 0
 | [], _, _, _, h => absurd h (by simp [chkL])
 | a :: t, zones, seen, e, h => by
  rw [chkL] at h
  split at h
  ·injection h with h; rw [← h]; simp
  ·split at h
   ·injection h with h; rw [← h]; simp
   ·split at h
    ·injection h with h; rw [← h]; simp
    ·exact chkL_err h
theorem chkR_err : ∀ {l : List RuT} {e : Bs × Int}, chkR l = some e → e.2 ≠ 0
 | [], _, h => absurd h (by simp [chkR])
 | a :: t, e, h => by
  rw [chkR] at h
  split at h
  ·exact chkR_err h
  ·injection h with h; rw [← h]; simp
theorem valid_parts {s : SrT} (h : validB s = true) : s.ru.length ≤ 100 ∧ s.zo.length + s.lk.length ≤ 30 ∧ (∀ r ∈ s.ru, ruB r = true) ∧ (∀ z ∈ s.zo, zoB z = true) ∧ (∀ x ∈ s.lk, nameB x.nm = true ∧ nameB x.zo = true) ∧ (checkM s).2 = 0 := by
 have h0 : (checkM s).2 = 0 := by
  unfold validB at h
  simpa using h
 unfold checkM at h0
 by_cases hl : 100 < s.ru.length ∨ 30 < s.zo.length + s.lk.length
 ·rw [if_pos hl] at h0; exact absurd h0 (by simp)
 ·rw [if_neg hl] at h0
  cases h1 : chkR s.ru with
  | some e => rw [h1] at h0; exact absurd h0 (chkR_err h1)
  | none =>
   rw [h1] at h0
   cases h2 : chkZ (s.ru.map RuT.nm) [] s.zo with
   | some e => simp only [h2] at h0; exact absurd h0 (chkZ_err h2)
   | none =>
    simp only [h2] at h0
    cases h3 : chkL (s.zo.map ZoT.nm) [] s.lk with
    | some e => simp only [h3] at h0; exact absurd h0 (chkL_err h3)
    | none =>
     have hz := chkZ_ok h2
     refine ⟨by omega, by omega, chkR_ok h1, hz, fun x hx => ?_, by unfold validB at h; simpa using h⟩
     obtain ⟨g1, g2⟩ := chkL_ok h3 x hx
     obtain ⟨z, hzm, hze⟩ := List.mem_map.1 g2
     have := hz z hzm
     unfold zoB at this
     simp only [Bool.and_eq_true] at this
     exact ⟨g1, by rw [← hze]; exact this.1.1.1⟩
theorem zo_parts {z : ZoT} (h : zoB z = true) : nameB z.nm = true ∧ 1 ≤ z.li.length ∧ z.li.length ≤ 100 ∧ ∀ i (hi : i < z.li.length), liB z.li[i] = true ∧ z.li[i].la = (i + 1 == z.li.length) := by
 unfold zoB at h
 simp only [Bool.and_eq_true, decide_eq_true_eq, List.all_eq_true, List.mem_range] at h
 refine ⟨h.1.1.1, h.1.1.2, h.1.2, fun i hi => ?_⟩
 have := h.2 i hi
 rw [List.getD_eq_getElem?_getD, List.getElem?_eq_getElem hi] at this
 exact ⟨this.1, by simpa using this.2⟩
/-! the words -/
theorem cutPct_eq : ∀ {s a b : Bs}, cutPct s = some (a, b) → s = a ++ 37 :: 115 :: b
 | [], a, b, h => absurd h (by simp [cutPct])
 | [c], a, b, h => by
  unfold cutPct at h
  simp [cutPct] at h
 | c :: d :: r, a, b, h => by
  by_cases hc : c = 37 ∧ d = 115
  ·obtain ⟨rfl, rfl⟩ := hc
   rw [cutPct] at h
   injection h with h
   injection h with h1 h2
   rw [← h1, ← h2]
   rfl
  ·rw [cutPct] at h
   ·cases hp : cutPct (d :: r) with
    | none => rw [hp] at h; exact absurd h (by simp)
    | some p =>
     rw [hp] at h
     simp only [Option.map_some] at h
     injection h with h
     injection h with h1 h2
     have := cutPct_eq (a := p.1) (b := p.2) hp
     rw [← h1, ← h2, List.cons_append, ← this]
   ·intro r' e1 e2
    injection e2 with e2 _
    exact hc ⟨e1, e2⟩
theorem plus_wd : ∀ c ∈ ([43, 45] : Bs), wdC c = true := by decide
theorem plain_wd {s : Bs} (h : plainB s = true) : wdT s ∧ s.length ≤ 8 := by
 unfold plainB at h
 simp only [Bool.and_eq_true, decide_eq_true_eq] at h
 exact ⟨⟨fun e => by rw [e] at h; exact absurd h.1.1 (by simp), only_wd h.2 plus_wd⟩, h.1.2⟩
theorem slash_eq : ∀ {s : Bs}, s.contains 47 = true → s = s.takeWhile (· != 47) ++ 47 :: (s.dropWhile (· != 47)).tail
 | [], h => absurd h (by simp)
 | c :: r, h => by
  by_cases hc : c = 47
  ·subst hc
   simp
  ·have hne : (c != 47) = true := by simpa using hc
   rw [List.takeWhile_cons_of_pos (p := (· != 47)) hne, List.dropWhile_cons_of_pos (p := (· != 47)) hne, List.cons_append]
   have : r.contains 47 = true := by
    simp only [List.contains_cons, Bool.or_eq_true, beq_iff_eq] at h
    rcases h with h | h
    ·exact absurd h.symm hc
    ·exact h
   exact congrArg (c :: ·) (slash_eq this)
theorem fmt_wd {s : Bs} (h : fmtB s = true) : wdT s ∧ s.length ≤ 17 := by
 unfold fmtB at h
 cases hc : cutPct s with
 | some p =>
  obtain ⟨a, b⟩ := p
  rw [hc] at h
  have he := cutPct_eq hc
  simp only [Bool.and_eq_true, decide_eq_true_eq] at h
  have hw := only_wd h.2 plus_wd
  rw [List.all_append, Bool.and_eq_true] at hw
  rw [he]
  refine ⟨⟨by simp, ?_⟩, ?_⟩
  ·rw [List.all_append, hw.1, List.all_cons, List.all_cons, hw.2]
   decide
  ·have := h.1.2
   simp only [List.length_append] at this
   simp only [List.length_append, List.length_cons]
   omega
 | none =>
  rw [hc] at h
  by_cases hs : s.contains 47 = true
  ·simp only [hs, if_true, Bool.and_eq_true] at h
   obtain ⟨⟨a1, a2⟩, a3⟩ := plain_wd h.1
   obtain ⟨⟨b1, b2⟩, b3⟩ := plain_wd h.2
   have he := slash_eq hs
   generalize s.takeWhile (· != 47) = u at *
   generalize (s.dropWhile (· != 47)).tail = v at *
   rw [he]
   refine ⟨⟨by simp, ?_⟩, ?_⟩
   ·rw [List.all_append, a2, List.all_cons, b2]
    decide
   ·simp only [List.length_append, List.length_cons]
    omega
  ·simp only [hs, Bool.false_eq_true, if_false] at h
   obtain ⟨a1, a2⟩ := plain_wd h
   exact ⟨a1, by omega⟩
theorem dash_wd {s : Bs} (h : s = [] ∨ wdT s) : wdT (dashT s) := by
 unfold dashT
 by_cases e : s = []
 ·rw [if_pos e]; exact ⟨by simp, by decide⟩
 ·rw [if_neg e]
  rcases h with h | h
  ·exact absurd h e
  ·exact h
theorem letter_wd {s : Bs} (h : letterB s = true) : wdT (dashT s) ∧ (dashT s).length ≤ 4 := by
 unfold letterB at h
 simp only [Bool.and_eq_true, decide_eq_true_eq] at h
 refine ⟨dash_wd ?_, ?_⟩
 ·by_cases e : s = []
  ·exact .inl e
  ·exact .inr ⟨e, only_wd h.2 (by simp)⟩
 ·unfold dashT
  split
  ·simp
  ·exact h.1
theorem to_wd {fr to : Int} (h1 : 1 ≤ fr) (h2 : fr ≤ to) (h3 : to ≤ 9999) : wdT (if to = fr then [111, 110, 108, 121] else if to = 9999 then [109, 97, 120] else itoa to) ∧ (if to = fr then [111, 110, 108, 121] else if to = 9999 then [109, 97, 120] else itoa to).length ≤ 4 := by
 by_cases e : to = fr
 ·rw [if_pos e]; exact ⟨⟨by simp, by decide⟩, by simp⟩
 ·rw [if_neg e]
  by_cases e2 : to = 9999
  ·rw [if_pos e2]; exact ⟨⟨by simp, by decide⟩, by simp⟩
  ·rw [if_neg e2]
   obtain ⟨-, g1, g2⟩ := year_ok (n := to) (by omega) h3
   exact ⟨g1, g2⟩
theorem key_wd : wdT [114, 117, 108, 101] ∧ wdT [108, 105, 110, 101] ∧ wdT [117, 110, 116, 105, 108] ∧ wdT [122, 111, 110, 101] ∧ wdT [108, 105, 110, 107] := by
 refine ⟨⟨by simp, by decide⟩, ⟨by simp, by decide⟩, ⟨by simp, by decide⟩, ⟨by simp, by decide⟩, by simp, by decide⟩
theorem ruleW_wd {r : RuT} (hr : ruB r = true) : ∀ w ∈ ruleW r, wdT w := by
 obtain ⟨p1, p2, p3, p4, p5, p6, p7⟩ := ru_parts hr
 obtain ⟨q1, q2, q3, q4, q5⟩ := mom_parts p5
 have hs := sav_parts p6
 unfold ruleW
 intro w hw
 simp only [List.mem_cons, List.not_mem_nil, or_false] at hw
 rcases hw with rfl | rfl | rfl | rfl | rfl | rfl | rfl | rfl | rfl
 ·exact key_wd.1
 ·exact (name_wd p1).1
 ·exact (year_ok (by omega) (by omega)).2.1
 ·exact (to_wd p2 p3 p4).1
 ·exact (month_ok q1.1 q1.2).2.1
 ·exact (on_ok q2).2.1
 ·exact (clock_ok q4.1 q4.2 q5.1 q5.2).2.1
 ·exact (offset_ok (by omega) (by omega)).2.1
 ·exact (letter_wd p7).1
theorem lineW_wd {l : LiT} (hl : liB l = true) : ∀ w ∈ lineW l, wdT w := by
 obtain ⟨p1, p2, p3, p4, p5, p6⟩ := li_parts hl
 have hs := sav_parts p4
 have hx : wdT (if l.ru = [] ∧ l.sv ≠ 0 then offsetT l.sv else dashT l.ru) := by
  by_cases e : l.ru = [] ∧ l.sv ≠ 0
  ·rw [if_pos e]; exact (offset_ok (by omega) (by omega)).2.1
  ·rw [if_neg e]
   by_cases e2 : l.ru = []
   ·exact dash_wd (.inl e2)
   ·exact dash_wd (.inr (name_wd (p3 e2).1).1)
 have ho := (offset_ok (n := l.of_) (by omega) (by omega)).2.1
 have hf := (fmt_wd p2).1
 intro w hw
 cases hb : l.la with
 | true =>
  rw [lineW_last hb] at hw
  simp only [List.mem_cons, List.not_mem_nil, or_false] at hw
  rcases hw with rfl | rfl | rfl | rfl
  ·exact key_wd.2.1
  ·exact ho
  ·exact hx
  ·exact hf
 | false =>
  obtain ⟨g1, g2⟩ := p6 hb
  obtain ⟨q1, q2, q3, q4, q5⟩ := mom_parts g2
  rw [lineW_more hb] at hw
  simp only [List.mem_cons, List.not_mem_nil, or_false] at hw
  rcases hw with rfl | rfl | rfl | rfl | rfl | rfl | rfl | rfl | rfl
  ·exact key_wd.2.1
  ·exact ho
  ·exact hx
  ·exact hf
  ·exact key_wd.2.2.1
  ·exact (year_ok g1.1 g1.2).2.1
  ·exact (month_ok q1.1 q1.2).2.1
  ·exact (on_ok q2).2.1
  ·exact (clock_ok q4.1 q4.2 q5.1 q5.2).2.1
theorem words_wd {s : SrT} (h : validB s = true) : ∀ ws ∈ wordsT s, ws ≠ [] ∧ ∀ w ∈ ws, wdT w := by
 obtain ⟨-, -, h1, h2, h3, -⟩ := valid_parts h
 intro ws hw
 unfold wordsT at hw
 rw [List.mem_append, List.mem_append] at hw
 rcases hw with (hw | hw) | hw
 ·obtain ⟨r, hr, rfl⟩ := List.mem_map.1 hw
  exact ⟨by unfold ruleW; simp, ruleW_wd (h1 r hr)⟩
 ·obtain ⟨z, hz, hw⟩ := List.mem_flatMap.1 hw
  obtain ⟨g1, -, -, g4⟩ := zo_parts (h2 z hz)
  rcases List.mem_cons.1 hw with rfl | hw
  ·refine ⟨by unfold zoneW; simp, fun w hw => ?_⟩
   unfold zoneW at hw
   simp only [List.mem_cons, List.not_mem_nil, or_false] at hw
   rcases hw with rfl | rfl
   ·exact key_wd.2.2.2.1
   ·exact (name_wd g1).1
  ·obtain ⟨l, hl, rfl⟩ := List.mem_map.1 hw
   obtain ⟨i, hi, rfl⟩ := List.mem_iff_getElem.1 hl
   refine ⟨fun e => ?_, lineW_wd (g4 i hi).1⟩
   have := congrArg List.length e
   unfold lineW at this
   simp at this
 ·obtain ⟨x, hx, rfl⟩ := List.mem_map.1 hw
  obtain ⟨g1, g2⟩ := h3 x hx
  refine ⟨by unfold linkW; simp, fun w hw => ?_⟩
  unfold linkW at hw
  simp only [List.mem_cons, List.not_mem_nil, or_false] at hw
  rcases hw with rfl | rfl | rfl
  ·exact key_wd.2.2.2.2
  ·exact (name_wd g1).1
  ·exact (name_wd g2).1
end Wk
end Go.Proofs.YtmfdnbfjdhlonaaGreatDoor
namespace Go.Proofs.YtmfdnbfjdhlonaaGreatDoor
namespace Wk
open Go.Lib

def txsT (ls : List (List Tok)) : List (List Bs) := ls.map fun ws => ws.map Tok.tx
theorem toksJ_tx : ∀ (l : List (List Bs)) (ln : Nat), txsT (toksJ ln l) = l
 | [], _ => rfl
 | ws :: r, ln => by
  unfold txsT at *
  rw [toksJ, List.map_cons, tokJ_tx]
  exact congrArg (ws :: ·) (toksJ_tx r (ln + 1))
theorem readS_app : ∀ (A B : List (List Tok)) (s s' : SrT), readS A s = .inl s' → readS (A ++ B) s = readS B s'
 | [], B, s, s', h => by
  rw [readS] at h
  injection h with h
  rw [List.nil_append, h]
 | ws :: A, B, s, s', h => by
  rw [readS] at h
  rw [List.cons_append, readS]
  cases hl : lineStep ws s with
  | inl s2 =>
   rw [hl] at h
   exact readS_app A B s2 s' h
  | inr e =>
   rw [hl] at h
   exact absurd h (by simp)
theorem key_at {ws : List Tok} {T : List Bs} (h : ws.map Tok.tx = T) (hn : 0 < T.length) : (ws.getD 0 tok0).tx = T.getD 0 [] := by
 have hl : ws.length = T.length := by rw [← h, List.length_map]
 rw [← h, List.getD_eq_getElem?_getD, List.getD_eq_getElem?_getD, List.getElem?_map, List.getElem?_eq_getElem (by omega)]
 rfl
theorem step_rule {ws : List Tok} {r : RuT} (hr : ruB r = true) (h : ws.map Tok.tx = ruleW r) (s : SrT) : lineStep ws s = .inl { s with ru := s.ru ++ [r] } := by
 have e0 : (ruleW r).getD 0 [] = [114, 117, 108, 101] := rfl
 unfold lineStep
 rw [key_at h (by unfold ruleW; simp), e0, if_pos rfl, rule_ok hr h]
theorem step_zone {ws : List Tok} {z : ZoT} (hz : nameB z.nm = true) (h : ws.map Tok.tx = zoneW z) (s : SrT) : lineStep ws s = .inl { s with zo := s.zo ++ [⟨z.nm, []⟩] } := by
 have hr : zoneR ws 1 = .inl (⟨z.nm, []⟩, 2) := by
  unfold zoneR
  rw [bind_ok (check_ok h (n := 1) (by unfold zoneW; simp) (by unfold zoneW; exact hz)), bind_ok (end_ok h (n := 2) rfl)]
  rfl
 have e0 : (zoneW z).getD 0 [] = [122, 111, 110, 101] := rfl
 unfold lineStep
 rw [key_at h (by unfold zoneW; simp), e0, if_neg (by decide), if_pos rfl, hr]
theorem step_link {ws : List Tok} {x : LkT} (h1 : nameB x.nm = true) (h2 : nameB x.zo = true) (h : ws.map Tok.tx = linkW x) (s : SrT) : lineStep ws s = .inl { s with lk := s.lk ++ [x] } := by
 have hr : linkR ws 1 = .inl (x, 3) := by
  unfold linkR
  rw [bind_ok (check_ok h (n := 1) (by unfold linkW; simp) (by unfold linkW; exact h1)), bind_ok (check_ok h (n := 2) (by unfold linkW; simp) (by unfold linkW; exact h2)), bind_ok (end_ok h (n := 3) rfl)]
  rfl
 have e0 : (linkW x).getD 0 [] = [108, 105, 110, 107] := rfl
 unfold lineStep
 rw [key_at h (by unfold linkW; simp), e0, if_neg (by decide), if_neg (by decide), if_neg (by decide), if_pos rfl, hr]
theorem step_line {ws : List Tok} {l : LiT} (hl : liB l = true) (h : ws.map Tok.tx = lineW l) {s : SrT} (h1 : s.zo ≠ []) (h2 : doneB (s.zo.getLastD ⟨[], []⟩) = false) : lineStep ws s = .inl (addLine s l) := by
 have hr := line_ok hl h
 have e0 : (lineW l).getD 0 [] = [108, 105, 110, 101] := rfl
 have hg : (s.zo == [] || doneB (s.zo.getLastD ⟨[], []⟩)) = false := by
  rw [h2, Bool.or_false]
  simpa using h1
 unfold lineStep
 rw [key_at h (by unfold lineW; simp), e0, if_neg (by decide), if_neg (by decide), if_pos rfl, hg, if_neg (by simp), hr]
theorem read_rules : ∀ (L : List RuT) (ls : List (List Tok)) (s : SrT), (∀ r ∈ L, ruB r = true) → txsT ls = L.map ruleW → readS ls s = .inl { s with ru := s.ru ++ L }
 | [], ls, s, _, h => by
  have : ls = [] := by cases ls with
   | nil => rfl
   | cons a b => simp [txsT] at h
  subst this
  rw [readS, List.append_nil]
 | r :: L, [], s, _, h => by simp [txsT] at h
 | r :: L, ws :: ls, s, hv, h => by
  unfold txsT at h
  rw [List.map_cons, List.map_cons] at h
  injection h with h1 h2
  rw [readS, step_rule (hv r (by simp)) h1]
  simp only
  rw [read_rules L ls _ (fun x hx => hv x (by simp [hx])) h2]
  simp
theorem read_links : ∀ (L : List LkT) (ls : List (List Tok)) (s : SrT), (∀ x ∈ L, nameB x.nm = true ∧ nameB x.zo = true) → txsT ls = L.map linkW → readS ls s = .inl { s with lk := s.lk ++ L }
 | [], ls, s, _, h => by
  have : ls = [] := by cases ls with
   | nil => rfl
   | cons a b => simp [txsT] at h
  subst this
  rw [readS, List.append_nil]
 | r :: L, [], s, _, h => by simp [txsT] at h
 | r :: L, ws :: ls, s, hv, h => by
  unfold txsT at h
  rw [List.map_cons, List.map_cons] at h
  injection h with h1 h2
  rw [readS, step_link (hv r (by simp)).1 (hv r (by simp)).2 h1]
  simp only
  rw [read_links L ls _ (fun x hx => hv x (by simp [hx])) h2]
  simp
theorem addLine_at (s : SrT) (Z : List ZoT) (nm : Bs) (p : List LiT) (l : LiT) : addLine { s with zo := Z ++ [⟨nm, p⟩] } l = { s with zo := Z ++ [⟨nm, p ++ [l]⟩] } := by
 unfold addLine
 simp
theorem read_lines (s : SrT) (Z : List ZoT) (nm : Bs) : ∀ (L p : List LiT) (ls : List (List Tok)), doneB ⟨nm, p⟩ = false → (∀ i (hi : i < L.length), liB L[i] = true ∧ L[i].la = (i + 1 == L.length)) → txsT ls = L.map lineW → readS ls { s with zo := Z ++ [⟨nm, p⟩] } = .inl { s with zo := Z ++ [⟨nm, p ++ L⟩] }
 | [], p, ls, _, _, h => by
  have : ls = [] := by cases ls with
   | nil => rfl
   | cons a b => simp [txsT] at h
  subst this
  rw [readS, List.append_nil]
 | l :: L, p, [], _, _, h => by simp [txsT] at h
 | l :: L, p, ws :: ls, hd, hv, h => by
  unfold txsT at h
  rw [List.map_cons, List.map_cons] at h
  injection h with h1 h2
  have h0 : liB l = true ∧ l.la = (0 + 1 == (l :: L).length) := hv 0 (by simp)
  rw [readS, step_line h0.1 h1 (by simp) (by simpa using hd), addLine_at]
  simp only
  cases L with
  | nil =>
   have : ls = [] := by cases ls with
    | nil => rfl
    | cons a b => simp at h2
   subst this
   rw [readS]
  | cons b r =>
   rw [read_lines s Z nm (b :: r) (p ++ [l]) ls ?_ ?_ h2]
   ·simp
   ·unfold doneB
    simp only [List.getLast?_concat]
    have := h0.2
    simpa using this
   ·intro i hi
    have := hv (i + 1) (by simp at hi ⊢; omega)
    simpa using this
theorem read_zones : ∀ (L : List ZoT) (ls : List (List Tok)) (s : SrT), (∀ z ∈ L, zoB z = true) → txsT ls = L.flatMap (fun z => zoneW z :: z.li.map lineW) → readS ls s = .inl { s with zo := s.zo ++ L }
 | [], ls, s, _, h => by
  have : ls = [] := by cases ls with
   | nil => rfl
   | cons a b => simp [txsT] at h
  subst this
  rw [readS, List.append_nil]
 | z :: L, ls, s, hv, h => by
  obtain ⟨g1, -, -, g4⟩ := zo_parts (hv z (by simp))
  rw [List.flatMap_cons] at h
  cases ls with
  | nil => simp [txsT] at h
  | cons ws ls =>
   unfold txsT at h
   rw [List.map_cons, List.cons_append] at h
   injection h with h1 h2
   obtain ⟨A, B, rfl, hA, hB⟩ := List.map_eq_append_iff.1 h2
   rw [readS, step_zone g1 h1]
   simp only
   rw [readS_app A B _ _ (read_lines s s.zo z.nm z.li [] A rfl g4 hA), read_zones L B _ (fun x hx => hv x (by simp [hx])) hB]
   simp
theorem zone_done {z : ZoT} (h : zoB z = true) : doneB z = true := by
 obtain ⟨-, g2, -, g4⟩ := zo_parts h
 have := (g4 (z.li.length - 1) (by omega)).2
 unfold doneB
 rw [List.getLast?_eq_getElem?, List.getElem?_eq_getElem (by omega)]
 simp only
 rw [this]
 simp
 omega
theorem read_words {s : SrT} (h : validB s = true) {ls : List (List Tok)} (hw : txsT ls = wordsT s) : readS ls sr0 = .inl s := by
 obtain ⟨-, -, h1, h2, h3, -⟩ := valid_parts h
 unfold wordsT at hw
 obtain ⟨AB, C, rfl, hAB, hC⟩ := List.map_eq_append_iff.1 hw
 obtain ⟨A, B, rfl, hA, hB⟩ := List.map_eq_append_iff.1 hAB
 rw [readS_app (A ++ B) C _ { s with lk := [] } ?_, read_links s.lk C _ h3 hC]
 ·simp
 ·rw [readS_app A B _ { s with zo := [], lk := [] } ?_, read_zones s.zo B _ h2 hB]
  ·simp
  ·rw [read_rules s.ru A _ h1 hA]
   simp [sr0]
theorem parse_text {s : SrT} (h : validB s = true) (hl : (flatT (wordsT s)).length ≤ 65536) : parseM (flatT (wordsT s)) = (s, (0, 0), 0) := by
 obtain ⟨-, -, -, h2, -, h0⟩ := valid_parts h
 unfold parseM
 rw [linesM_flat (words_wd h) hl, if_neg (by simp)]
 simp only
 rw [read_words h (toksJ_tx _ _)]
 simp only
 rw [if_neg (by
  simp only [List.any_eq_true, Bool.not_eq_true', not_exists, not_and]
  intro z hz
  rw [zone_done (h2 z hz)]
  simp), if_neg (by rw [h0]; simp)]
end Wk
end Go.Proofs.YtmfdnbfjdhlonaaGreatDoor
namespace Go.Proofs.YtmfdnbfjdhlonaaGreatDoor
namespace Wk
open Go.Lib

theorem moreT_len {ws : List Tok} (c : UInt8) (h : ws ≠ []) : (moreT ws c).length = ws.length := by
 have := List.length_pos_iff.2 h
 unfold moreT
 rw [List.length_append, List.length_dropLast, List.length_cons, List.length_nil]
 omega
theorem lexS_len (ln : Nat) : ∀ (s : Bs) (k : Nat) (st : LxS) (ws : List Tok), (st.op = true → st.ws ≠ []) → lexS ln s k st = .inl ws → 2 * ws.length ≤ 2 * st.ws.length + s.length + if st.op = true then 0 else 1
 | [], k, st, ws, _, h => by
  rw [lexS] at h
  injection h with h
  subst h
  split <;> simp
 | c :: r, k, st, ws, ho, h => by
  rw [lexS] at h
  split at h
  ·exact absurd h (by simp)
  ·unfold lxStep at h
   split at h
   ·have := lexS_len ln r (k + 1) _ ws (by simp) h
    simp only [Bool.false_eq_true, if_false, List.length_cons] at this ⊢
    split <;> omega
   ·split at h
    ·rename_i h2
     have := lexS_len ln r (k + 1) _ ws (by
      intro _ e
      have hl := congrArg List.length e
      rw [moreT_len c (ho h2), List.length_nil] at hl
      have := List.length_pos_iff.2 (ho h2)
      omega) h
     simp only [if_true, moreT_len c (ho h2), List.length_cons] at this ⊢
     rw [if_pos h2]
     omega
    ·rename_i h2
     have := lexS_len ln r (k + 1) _ ws (by simp) h
     simp only [if_true, List.length_append, List.length_cons, List.length_nil] at this ⊢
     rw [if_neg h2]
     omega
def sumW (ls : List (List Tok)) : Nat := (ls.map List.length).sum
theorem linesS_len : ∀ (L : List Bs) (ln : Nat) (out : List (List Tok)), linesS ln L = .inl out → 2 * sumW out ≤ (L.map fun l => l.length + 1).sum
 | [], ln, out, h => by
  rw [linesS] at h
  injection h with h
  subst h
  simp [sumW]
 | l :: r, ln, out, h => by
  rw [linesS] at h
  cases h1 : lexL ln l with
  | inr k => rw [h1] at h; exact absurd h (by simp)
  | inl ws =>
   rw [h1] at h
   simp only at h
   cases h2 : linesS (ln + 1) r with
   | inr k => rw [h2] at h; exact absurd h (by simp)
   | inl o =>
    rw [h2] at h
    simp only at h
    injection h with h
    have ih := linesS_len r (ln + 1) o h2
    have hl := lexS_len ln l 1 ⟨false, false, []⟩ ws (by simp) h1
    simp only [Bool.false_eq_true, if_false, List.length_nil] at hl
    rw [List.map_cons, List.sum_cons]
    subst h
    split
    ·omega
    ·unfold sumW at ih ⊢
     rw [List.map_cons, List.sum_cons]
     omega
theorem split_len : ∀ (s : Bs), ((splitNl s).map fun l => l.length + 1).sum = s.length + 1
 | [] => by simp [splitNl]
 | c :: r => by
  have ih := split_len r
  rw [splitNl]
  split
  ·rw [List.map_cons, List.sum_cons, ih]
   simp
   omega
  ·cases hs : splitNl r with
   | nil => rw [hs] at ih; simp at ih
   | cons l ls =>
    rw [hs] at ih
    simp only [List.map_cons, List.sum_cons, List.length_cons] at ih ⊢
    omega
theorem linesM_len {t : Bs} (h : (linesM t).2.2 = 0) : 2 * sumW (linesM t).1 ≤ t.length + 1 := by
 unfold linesM at h ⊢
 split
 ·rename_i h1
  rw [if_pos h1] at h
  exact absurd h (by simp)
 ·rename_i h1
  rw [if_neg h1] at h
  cases hl : linesS 1 (splitNl t) with
  | inr p => rw [hl] at h; exact absurd h (by simp)
  | inl out =>
   have := linesS_len _ _ _ hl
   rw [split_len] at this
   exact this
/-! what a reader that succeeds has read -/
theorem bind_inv {α β : Type} {m : Rd α} {f : α → Rd β} {ws : List Tok} {n k : Nat} {b : β} (h : Rd.bind m f ws n = .inl (b, k)) : ∃ a j, m ws n = .inl (a, j) ∧ f a ws j = .inl (b, k) := by
 unfold Rd.bind at h
 cases hm : m ws n with
 | inr e => rw [hm] at h; exact absurd h (by simp)
 | inl p =>
  obtain ⟨a, j⟩ := p
  rw [hm] at h
  exact ⟨a, j, rfl, h⟩
theorem need_inv {b : Bool} {e : Int} {ws : List Tok} {n k : Nat} {u : Unit} (h : needR b e ws n = .inl (u, k)) : k = n ∧ b = true := by
 unfold needR at h
 cases b with
 | true => simp only [if_true, Rd.pure] at h; injection h with h; injection h with _ h; exact ⟨h.symm, rfl⟩
 | false => simp [Rd.fail] at h
theorem word_inv {ws : List Tok} {n k : Nat} {s : Bs} (h : wordR ws n = .inl (s, k)) : k = n + 1 ∧ n < ws.length := by
 unfold wordR at h
 split at h
 ·rename_i hn
  injection h with h
  injection h with _ h
  exact ⟨h.symm, hn⟩
 ·exact absurd h (by simp)
theorem pure_inv {α : Type} {a b : α} {ws : List Tok} {n k : Nat} (h : Rd.pure a ws n = .inl (b, k)) : k = n ∧ b = a := by
 unfold Rd.pure at h
 injection h with h
 injection h with h1 h2
 exact ⟨h2.symm, h1.symm⟩
theorem check_inv {good : Bs → Bool} {ws : List Tok} {n k : Nat} {s : Bs} (h : checkR good ws n = .inl (s, k)) : k = n + 1 ∧ n < ws.length := by
 unfold checkR at h
 obtain ⟨a, j, h1, h⟩ := bind_inv h
 obtain ⟨_, i, h2, h⟩ := bind_inv h
 have := word_inv h1
 have := need_inv h2
 have := pure_inv h
 omega
theorem num_inv {f : Bs → Int × Int} {ws : List Tok} {n k : Nat} {s : Int} (h : numR f ws n = .inl (s, k)) : k = n + 1 ∧ n < ws.length := by
 unfold numR at h
 obtain ⟨a, j, h1, h⟩ := bind_inv h
 obtain ⟨_, i, h2, h⟩ := bind_inv h
 have := word_inv h1
 have := need_inv h2
 have := pure_inv h
 omega
theorem lim_inv {f : Int → Bool} {ws : List Tok} {n k : Nat} {s : Int} (h : limR f ws n = .inl (s, k)) : k = n + 1 ∧ n < ws.length := by
 unfold limR at h
 obtain ⟨a, j, h1, h⟩ := bind_inv h
 obtain ⟨_, i, h2, h⟩ := bind_inv h
 have := num_inv h1
 have := need_inv h2
 have := pure_inv h
 omega
theorem when_inv {ws : List Tok} {n k : Nat} {s : Int × OnT × Int × Int} (h : whenR ws n = .inl (s, k)) : k = n + 3 ∧ n + 2 < ws.length := by
 unfold whenR at h
 obtain ⟨a1, j1, h1, h⟩ := bind_inv h
 obtain ⟨a2, j2, h2, h⟩ := bind_inv h
 obtain ⟨a3, j3, h3, h⟩ := bind_inv h
 obtain ⟨a4, j4, h4, h⟩ := bind_inv h
 obtain ⟨a5, j5, h5, h⟩ := bind_inv h
 obtain ⟨a6, j6, h6, h⟩ := bind_inv h
 have := num_inv h1
 have := word_inv h2
 have := need_inv h3
 have := need_inv h4
 have := word_inv h5
 have := need_inv h6
 have := pure_inv h
 omega
theorem end_inv {ws : List Tok} {n k : Nat} {u : Unit} (h : endR ws n = .inl (u, k)) : k = n ∧ ws.length ≤ n := by
 unfold endR at h
 split at h
 ·exact absurd h (by simp)
 ·injection h with h
  injection h with _ h
  exact ⟨h.symm, by omega⟩
theorem to_inv {fr : Int} {ws : List Tok} {n k : Nat} {s : Int} (h : toR fr ws n = .inl (s, k)) : k = n + 1 ∧ n < ws.length := by
 unfold toR at h
 obtain ⟨a, j, h1, h⟩ := bind_inv h
 have := word_inv h1
 split at h
 ·have := pure_inv h
  omega
 ·split at h
  ·have := pure_inv h
   omega
  ·obtain ⟨_, i, h2, h⟩ := bind_inv h
   obtain ⟨_, i2, h3, h⟩ := bind_inv h
   have := need_inv h2
   have := need_inv h3
   have := pure_inv h
   omega
theorem rules_inv {ws : List Tok} {n k : Nat} {s : Bs × Int} (h : rulesR ws n = .inl (s, k)) : k = n + 1 ∧ n < ws.length := by
 unfold rulesR at h
 obtain ⟨a, j, h1, h⟩ := bind_inv h
 have := word_inv h1
 split at h
 ·have := pure_inv h
  omega
 ·split at h
  ·have := pure_inv h
   omega
  ·obtain ⟨_, i, h2, h⟩ := bind_inv h
   obtain ⟨_, i2, h3, h⟩ := bind_inv h
   have := need_inv h2
   have := need_inv h3
   have := pure_inv h
   omega
theorem rule_inv {ws : List Tok} {k : Nat} {r : RuT} (h : ruleR ws 1 = .inl (r, k)) : ws.length = 9 := by
 unfold ruleR yearR at h
 obtain ⟨a1, j1, h1, h⟩ := bind_inv h
 obtain ⟨a2, j2, h2, h⟩ := bind_inv h
 obtain ⟨a3, j3, h3, h⟩ := bind_inv h
 obtain ⟨a4, j4, h4, h⟩ := bind_inv h
 obtain ⟨a5, j5, h5, h⟩ := bind_inv h
 obtain ⟨a6, j6, h6, h⟩ := bind_inv h
 obtain ⟨a7, j7, h7, h⟩ := bind_inv h
 have := check_inv h1
 have := num_inv h2
 have := to_inv h3
 have := when_inv h4
 have := lim_inv h5
 have := check_inv h6
 have := end_inv h7
 omega
theorem zone_inv {ws : List Tok} {k : Nat} {z : ZoT} (h : zoneR ws 1 = .inl (z, k)) : ws.length = 2 ∧ z.li = [] := by
 unfold zoneR at h
 obtain ⟨a1, j1, h1, h⟩ := bind_inv h
 obtain ⟨a2, j2, h2, h⟩ := bind_inv h
 have := check_inv h1
 have := end_inv h2
 have := (pure_inv h).2
 exact ⟨by omega, by rw [this]⟩
theorem link_inv {ws : List Tok} {k : Nat} {x : LkT} (h : linkR ws 1 = .inl (x, k)) : ws.length = 3 := by
 unfold linkR at h
 obtain ⟨a1, j1, h1, h⟩ := bind_inv h
 obtain ⟨a2, j2, h2, h⟩ := bind_inv h
 obtain ⟨a3, j3, h3, h⟩ := bind_inv h
 have := check_inv h1
 have := check_inv h2
 have := end_inv h3
 omega
theorem line_inv {ws : List Tok} {k : Nat} {l : LiT} (h : lineR ws 1 = .inl (l, k)) : ws.length = (lineW l).length := by
 unfold lineR yearR at h
 obtain ⟨a1, j1, h1, h⟩ := bind_inv h
 obtain ⟨a2, j2, h2, h⟩ := bind_inv h
 obtain ⟨a3, j3, h3, h⟩ := bind_inv h
 obtain ⟨a4, j4, h4, h⟩ := bind_inv h
 have e1 := lim_inv h1
 have e2 := rules_inv h2
 have e3 := check_inv h3
 unfold lastR at h4
 injection h4 with h4
 injection h4 with h4 h5
 split at h
 ·rename_i hla
  have := (pure_inv h).2
  have hb : l.la = true := by rw [this]
  rw [lineW_last hb]
  subst h4
  have : j3 = ws.length := by simpa using hla
  show ws.length = 4
  omega
 ·obtain ⟨b1, i1, g1, h⟩ := bind_inv h
  obtain ⟨b2, i2, g2, h⟩ := bind_inv h
  obtain ⟨b3, i3, g3, h⟩ := bind_inv h
  obtain ⟨b4, i4, g4, h⟩ := bind_inv h
  have := check_inv g1
  have := num_inv g2
  have := when_inv g3
  have := end_inv g4
  have hp := (pure_inv h).2
  have hb : l.la = false := by rw [hp]
  rw [lineW_more hb]
  show ws.length = 9
  omega
def cntS (s : SrT) : Nat := ((wordsT s).map List.length).sum
theorem cnt_eq (s : SrT) : cntS s = 9 * s.ru.length + (s.zo.map fun z => 2 + (z.li.map fun l => (lineW l).length).sum).sum + 3 * s.lk.length := by
 have h1 : ∀ L : List RuT, ((L.map ruleW).map List.length).sum = 9 * L.length := fun L => by
  induction L with
  | nil => rfl
  | cons a b ih =>
   rw [List.map_cons, List.map_cons, List.sum_cons, ih, List.length_cons, show (ruleW a).length = 9 from rfl]
   omega
 have h3 : ∀ L : List LkT, ((L.map linkW).map List.length).sum = 3 * L.length := fun L => by
  induction L with
  | nil => rfl
  | cons a b ih =>
   rw [List.map_cons, List.map_cons, List.sum_cons, ih, List.length_cons, show (linkW a).length = 3 from rfl]
   omega
 have h2 : ∀ L : List ZoT, ((L.flatMap fun z => zoneW z :: z.li.map lineW).map List.length).sum = (L.map fun z => 2 + (z.li.map fun l => (lineW l).length).sum).sum := fun L => by
  induction L with
  | nil => rfl
  | cons a b ih =>
   rw [List.flatMap_cons, List.map_append, List.sum_append, ih, List.map_cons, List.sum_cons, List.map_cons, List.sum_cons, show (zoneW a).length = 2 from rfl, List.map_map]
   rfl
 unfold cntS wordsT
 rw [List.map_append, List.sum_append, List.map_append, List.sum_append, h1, h2, h3]
theorem step_cnt {ws : List Tok} {s s' : SrT} (h : lineStep ws s = .inl s') : cntS s' = cntS s + ws.length := by
 unfold lineStep at h
 rw [cnt_eq, cnt_eq]
 split at h
 ·cases hr : ruleR ws 1 with
  | inr e => rw [hr] at h; exact absurd h (by simp)
  | inl p =>
   rw [hr] at h
   injection h with h
   subst h
   have := rule_inv (k := p.2) hr
   simp only [List.length_append, List.length_cons, List.length_nil]
   omega
 ·split at h
  ·cases hr : zoneR ws 1 with
   | inr e => rw [hr] at h; exact absurd h (by simp)
   | inl p =>
    rw [hr] at h
    injection h with h
    subst h
    obtain ⟨g1, g2⟩ := zone_inv (k := p.2) hr
    simp only [List.map_append, List.sum_append, List.map_cons, List.sum_cons, List.map_nil, List.sum_nil, g2]
    omega
  ·split at h
   ·split at h
    ·exact absurd h (by simp)
    ·rename_i hd
     cases hr : lineR ws 1 with
     | inr e => rw [hr] at h; exact absurd h (by simp)
     | inl p =>
      rw [hr] at h
      injection h with h
      subst h
      have g1 := line_inv (k := p.2) hr
      have hz : s.zo ≠ [] := fun e => hd (by rw [e]; rfl)
      have hs : s.zo = s.zo.dropLast ++ [s.zo.getLastD ⟨[], []⟩] := by
       rw [List.getLastD_eq_getLast?, List.getLast?_eq_some_getLast hz]
       exact (List.dropLast_concat_getLast hz).symm
      have e2 : (s.zo.map fun z => 2 + (z.li.map fun l => (lineW l).length).sum).sum = (s.zo.dropLast.map fun z => 2 + (z.li.map fun l => (lineW l).length).sum).sum + (2 + ((s.zo.getLastD ⟨[], []⟩).li.map fun l => (lineW l).length).sum) := by
       conv => lhs; rw [hs]
       simp only [List.map_append, List.sum_append, List.map_cons, List.sum_cons, List.map_nil, List.sum_nil]
       omega
      rw [e2]
      unfold addLine
      simp only [List.map_append, List.sum_append, List.map_cons, List.sum_cons, List.map_nil, List.sum_nil]
      omega
   ·split at h
    ·cases hr : linkR ws 1 with
     | inr e => rw [hr] at h; exact absurd h (by simp)
     | inl p =>
      rw [hr] at h
      injection h with h
      subst h
      have := link_inv (k := p.2) hr
      simp only [List.length_append, List.length_cons, List.length_nil]
      omega
    ·exact absurd h (by simp)
theorem read_cnt : ∀ (ls : List (List Tok)) (s s' : SrT), readS ls s = .inl s' → cntS s' = cntS s + sumW ls
 | [], s, s', h => by
  rw [readS] at h
  injection h with h
  rw [h]
  simp [sumW]
 | ws :: r, s, s', h => by
  rw [readS] at h
  cases hl : lineStep ws s with
  | inr e => rw [hl] at h; exact absurd h (by simp)
  | inl s2 =>
   rw [hl] at h
   have := read_cnt r s2 s' h
   have := step_cnt hl
   unfold sumW at *
   rw [List.map_cons, List.sum_cons]
   omega
end Wk
end Go.Proofs.YtmfdnbfjdhlonaaGreatDoor
namespace Go.Proofs.YtmfdnbfjdhlonaaGreatDoor
namespace Wk
open Go.Lib

def ErrW (ws : List Tok) (e : (Nat × Nat) × Int) : Prop := e.2 ≠ 0 ∧ ∃ i, i < ws.length ∧ e.1 = plT ws i
def RdOk {α : Type} (m : Rd α) : Prop := ∀ ws n, 1 ≤ n → n ≤ ws.length → (∀ a k, m ws n = .inl (a, k) → n ≤ k ∧ k ≤ ws.length) ∧ ∀ e, m ws n = .inr e → ErrW ws e
theorem rd_bind {α β : Type} {m : Rd α} {f : α → Rd β} (hm : RdOk m) (hf : ∀ a, RdOk (f a)) : RdOk (Rd.bind m f) := by
 intro ws n h1 h2
 obtain ⟨g1, g2⟩ := hm ws n h1 h2
 unfold Rd.bind
 cases h : m ws n with
 | inr e =>
  simp only
  refine ⟨fun a k q => absurd q (by simp), fun e' q => ?_⟩
  injection q with q
  rw [← q]
  exact g2 e h
 | inl p =>
  obtain ⟨a, j⟩ := p
  obtain ⟨k1, k2⟩ := g1 a j h
  obtain ⟨f1, f2⟩ := hf a ws j (by omega) k2
  simp only
  exact ⟨fun b k q => by have := f1 b k q; omega, f2⟩
theorem rd_pure {α : Type} (a : α) : RdOk (Rd.pure a) := by
 intro ws n h1 h2
 unfold Rd.pure
 refine ⟨fun b k q => ?_, fun e q => absurd q (by simp)⟩
 injection q with q
 injection q with _ q
 omega
theorem rd_fail {α : Type} {e : Int} (he : e ≠ 0) : RdOk (Rd.fail e : Rd α) := by
 intro ws n h1 h2
 unfold Rd.fail
 refine ⟨fun b k q => absurd q (by simp), fun x q => ?_⟩
 injection q with q
 rw [← q]
 exact ⟨he, n - 1, by omega, rfl⟩
theorem rd_need {b : Bool} {e : Int} (h : b = false → e ≠ 0) : RdOk (needR b e) := by
 unfold needR
 cases b with
 | true => exact rd_pure ()
 | false => exact rd_fail (h rfl)
theorem rd_word : RdOk wordR := by
 intro ws n h1 h2
 unfold wordR
 by_cases hn : n < ws.length
 ·rw [if_pos hn]
  refine ⟨fun a k q => ?_, fun e q => absurd q (by simp)⟩
  injection q with q
  injection q with _ q
  omega
 ·rw [if_neg hn]
  refine ⟨fun a k q => absurd q (by simp), fun e q => ?_⟩
  injection q with q
  rw [← q]
  exact ⟨by simp, ws.length - 1, by omega, rfl⟩
theorem rd_check (good : Bs → Bool) : RdOk (checkR good) := rd_bind rd_word fun _ => rd_bind (rd_need fun _ => by decide) fun _ => rd_pure _
theorem beq0 {n : Int} (h : (n == 0) = false) : n ≠ 0 := by simpa using h
theorem rd_num (f : Bs → Int × Int) : RdOk (numR f) := rd_bind rd_word fun _ => rd_bind (rd_need beq0) fun _ => rd_pure _
theorem rd_lim (good : Int → Bool) : RdOk (limR good) := rd_bind (rd_num _) fun _ => rd_bind (rd_need fun _ => by decide) fun _ => rd_pure _
theorem rd_when : RdOk whenR := rd_bind (rd_num _) fun _ => rd_bind rd_word fun _ => rd_bind (rd_need beq0) fun _ => rd_bind (rd_need fun _ => by decide) fun _ => rd_bind rd_word fun _ => rd_bind (rd_need beq0) fun _ => rd_pure _
theorem rd_end : RdOk endR := by
 intro ws n h1 h2
 unfold endR
 by_cases hn : n < ws.length
 ·rw [if_pos hn]
  refine ⟨fun a k q => absurd q (by simp), fun e q => ?_⟩
  injection q with q
  rw [← q]
  exact ⟨by simp, n, hn, rfl⟩
 ·rw [if_neg hn]
  refine ⟨fun a k q => ?_, fun e q => absurd q (by simp)⟩
  injection q with q
  injection q with _ q
  omega
theorem rd_ite {α : Type} {c : Prop} [Decidable c] {a b : Rd α} (ha : RdOk a) (hb : RdOk b) : RdOk (if c then a else b) := by
 split
 ·exact ha
 ·exact hb
theorem rd_to (fr : Int) : RdOk (toR fr) := rd_bind rd_word fun _ => rd_ite (rd_pure _) (rd_ite (rd_pure _) (rd_bind (rd_need beq0) fun _ => rd_bind (rd_need fun _ => by decide) fun _ => rd_pure _))
theorem rd_rules : RdOk rulesR := rd_bind rd_word fun _ => rd_ite (rd_pure _) (rd_ite (rd_pure _) (rd_bind (rd_need beq0) fun _ => rd_bind (rd_need fun _ => by decide) fun _ => rd_pure _))
theorem rd_last : RdOk lastR := by
 intro ws n h1 h2
 unfold lastR
 refine ⟨fun b k q => ?_, fun e q => absurd q (by simp)⟩
 injection q with q
 injection q with _ q
 omega
theorem rd_rule : RdOk ruleR := rd_bind (rd_check _) fun _ => rd_bind (rd_num _) fun _ => rd_bind (rd_to _) fun _ => rd_bind rd_when fun _ => rd_bind (rd_lim _) fun _ => rd_bind (rd_check _) fun _ => rd_bind rd_end fun _ => rd_pure _
theorem rd_line : RdOk lineR := rd_bind (rd_lim _) fun _ => rd_bind rd_rules fun _ => rd_bind (rd_check _) fun _ => rd_bind rd_last fun _ => rd_ite (rd_pure _) (rd_bind (rd_check _) fun _ => rd_bind (rd_num _) fun _ => rd_bind rd_when fun _ => rd_bind rd_end fun _ => rd_pure _)
theorem rd_zone : RdOk zoneR := rd_bind (rd_check _) fun _ => rd_bind rd_end fun _ => rd_pure _
theorem rd_link : RdOk linkR := rd_bind (rd_check _) fun _ => rd_bind (rd_check _) fun _ => rd_bind rd_end fun _ => rd_pure _
theorem step_err {ws : List Tok} (hw : ws ≠ []) {s : SrT} {e : (Nat × Nat) × Int} (h : lineStep ws s = .inr e) : ErrW ws e := by
 have hl := List.length_pos_iff.2 hw
 unfold lineStep at h
 split at h
 ·cases hr : ruleR ws 1 with
  | inl p => rw [hr] at h; exact absurd h (by simp)
  | inr e' =>
   rw [hr] at h
   injection h with h
   exact h ▸ (rd_rule ws 1 (Nat.le_refl 1) hl).2 _ hr
 ·split at h
  ·cases hr : zoneR ws 1 with
   | inl p => rw [hr] at h; exact absurd h (by simp)
   | inr e' =>
    rw [hr] at h
    injection h with h
    exact h ▸ (rd_zone ws 1 (Nat.le_refl 1) hl).2 _ hr
  ·split at h
   ·split at h
    ·injection h with h
     exact h ▸ ⟨by simp, 0, hl, rfl⟩
    ·cases hr : lineR ws 1 with
     | inl p => rw [hr] at h; exact absurd h (by simp)
     | inr e' =>
      rw [hr] at h
      injection h with h
      exact h ▸ (rd_line ws 1 (Nat.le_refl 1) hl).2 _ hr
   ·split at h
    ·cases hr : linkR ws 1 with
     | inl p => rw [hr] at h; exact absurd h (by simp)
     | inr e' =>
      rw [hr] at h
      injection h with h
      exact h ▸ (rd_link ws 1 (Nat.le_refl 1) hl).2 _ hr
    ·injection h with h
     exact h ▸ ⟨by simp, 0, hl, rfl⟩
theorem read_fail : ∀ (ls : List (List Tok)) (s : SrT) (e : (Nat × Nat) × Int), (∀ ws ∈ ls, ws ≠ []) → readS ls s = .inr e → ∃ A ws B s', ls = A ++ ws :: B ∧ readS A s = .inl s' ∧ lineStep ws s' = .inr e ∧ ErrW ws e
 | [], s, e, _, h => by rw [readS] at h; exact absurd h (by simp)
 | ws :: r, s, e, hn, h => by
  rw [readS] at h
  cases hl : lineStep ws s with
  | inr e' =>
   rw [hl] at h
   injection h with h
   subst h
   exact ⟨[], ws, r, s, rfl, rfl, hl, step_err (hn ws (by simp)) hl⟩
  | inl s2 =>
   rw [hl] at h
   obtain ⟨A, w, B, s', h1, h2, h3, h4⟩ := read_fail r s2 e (fun x hx => hn x (by simp [hx])) h
   refine ⟨ws :: A, w, B, s', by rw [h1]; rfl, ?_, h3, h4⟩
   rw [readS, hl]
   exact h2
theorem linesS_ne : ∀ (L : List Bs) (ln : Nat) (out : List (List Tok)), linesS ln L = .inl out → ∀ ws ∈ out, ws ≠ []
 | [], ln, out, h, ws, hw => by
  rw [linesS] at h
  injection h with h
  subst h
  exact absurd hw (by simp)
 | l :: r, ln, out, h, ws, hw => by
  rw [linesS] at h
  cases h1 : lexL ln l with
  | inr k => rw [h1] at h; exact absurd h (by simp)
  | inl v =>
   rw [h1] at h
   simp only at h
   cases h2 : linesS (ln + 1) r with
   | inr k => rw [h2] at h; exact absurd h (by simp)
   | inl o =>
    rw [h2] at h
    simp only at h
    injection h with h
    have ih := linesS_ne r (ln + 1) o h2
    subst h
    split at hw
    ·exact ih ws hw
    ·rename_i hv
     rcases List.mem_cons.1 hw with rfl | hw
     ·exact hv
     ·exact ih ws hw
theorem linesM_ne (t : Bs) : ∀ ws ∈ (linesM t).1, ws ≠ [] := by
 unfold linesM
 split
 ·simp
 ·cases h : linesS 1 (splitNl t) with
  | inr p => simp
  | inl out => exact linesS_ne _ _ _ h
theorem read_err {t : Bs} {e : (Nat × Nat) × Int} (h : readS (linesM t).1 sr0 = .inr e) : e.2 ≠ 0 := by
 obtain ⟨_, _, _, _, _, _, _, h4⟩ := read_fail _ _ _ (linesM_ne t) h
 exact h4.1
end Wk
end Go.Proofs.YtmfdnbfjdhlonaaGreatDoor
namespace Go.Proofs.YtmfdnbfjdhlonaaGreatDoor
namespace Wk
open Go.Lib

theorem ruleW_len {r : RuT} (hr : ruB r = true) : ∀ w ∈ ruleW r, w.length ≤ 30 := by
 obtain ⟨p1, p2, p3, p4, p5, p6, p7⟩ := ru_parts hr
 obtain ⟨q1, q2, q3, q4, q5⟩ := mom_parts p5
 have hs := sav_parts p6
 have g1 := (name_wd p1).2
 have g2 := (year_ok (n := r.fr) (by omega) (by omega)).2.2
 have g3 := (to_wd p2 p3 p4).2
 have g4 := (month_ok q1.1 q1.2).2.2
 have g5 := (on_ok q2).2.2
 have g6 := (clock_ok q4.1 q4.2 q5.1 q5.2).2.2
 have g7 := (offset_ok (n := r.sv) (by omega) (by omega)).2.2
 have g8 := (letter_wd p7).2
 unfold ruleW
 intro w hw
 simp only [List.mem_cons, List.not_mem_nil, or_false] at hw
 rcases hw with rfl | rfl | rfl | rfl | rfl | rfl | rfl | rfl | rfl
 ·decide
 all_goals omega
theorem lineW_len {l : LiT} (hl : liB l = true) : ∀ w ∈ lineW l, w.length ≤ 30 := by
 obtain ⟨p1, p2, p3, p4, p5, p6⟩ := li_parts hl
 have hs := sav_parts p4
 have hx : (if l.ru = [] ∧ l.sv ≠ 0 then offsetT l.sv else dashT l.ru).length ≤ 30 := by
  by_cases e : l.ru = [] ∧ l.sv ≠ 0
  ·rw [if_pos e]
   have := (offset_ok (n := l.sv) (by omega) (by omega)).2.2
   omega
  ·rw [if_neg e]
   unfold dashT
   by_cases e2 : l.ru = []
   ·rw [if_pos e2]; decide
   ·rw [if_neg e2]; exact (name_wd (p3 e2).1).2
 have ho := (offset_ok (n := l.of_) (by omega) (by omega)).2.2
 have hf := (fmt_wd p2).2
 intro w hw
 cases hb : l.la with
 | true =>
  rw [lineW_last hb] at hw
  simp only [List.mem_cons, List.not_mem_nil, or_false] at hw
  rcases hw with rfl | rfl | rfl | rfl
  ·decide
  all_goals omega
 | false =>
  obtain ⟨g1, g2⟩ := p6 hb
  obtain ⟨q1, q2, q3, q4, q5⟩ := mom_parts g2
  have y1 := (year_ok g1.1 g1.2).2.2
  have y2 := (month_ok q1.1 q1.2).2.2
  have y3 := (on_ok q2).2.2
  have y4 := (clock_ok q4.1 q4.2 q5.1 q5.2).2.2
  rw [lineW_more hb] at hw
  simp only [List.mem_cons, List.not_mem_nil, or_false] at hw
  rcases hw with rfl | rfl | rfl | rfl | rfl | rfl | rfl | rfl | rfl
  ·decide
  ·omega
  ·omega
  ·omega
  ·decide
  all_goals omega
theorem words_len {s : SrT} (h : validB s = true) : ∀ ws ∈ wordsT s, ∀ w ∈ ws, w.length ≤ 30 := by
 obtain ⟨-, -, h1, h2, h3, -⟩ := valid_parts h
 intro ws hw
 unfold wordsT at hw
 rw [List.mem_append, List.mem_append] at hw
 rcases hw with (hw | hw) | hw
 ·obtain ⟨r, hr, rfl⟩ := List.mem_map.1 hw
  exact ruleW_len (h1 r hr)
 ·obtain ⟨z, hz, hw⟩ := List.mem_flatMap.1 hw
  obtain ⟨g1, -, -, g4⟩ := zo_parts (h2 z hz)
  rcases List.mem_cons.1 hw with rfl | hw
  ·intro w hw
   unfold zoneW at hw
   simp only [List.mem_cons, List.not_mem_nil, or_false] at hw
   rcases hw with rfl | rfl
   ·decide
   ·exact (name_wd g1).2
  ·obtain ⟨l, hl, rfl⟩ := List.mem_map.1 hw
   obtain ⟨i, hi, rfl⟩ := List.mem_iff_getElem.1 hl
   exact lineW_len (g4 i hi).1
 ·obtain ⟨x, hx, rfl⟩ := List.mem_map.1 hw
  obtain ⟨g1, g2⟩ := h3 x hx
  intro w hw
  unfold linkW at hw
  simp only [List.mem_cons, List.not_mem_nil, or_false] at hw
  rcases hw with rfl | rfl | rfl
  ·decide
  ·exact (name_wd g1).2
  ·exact (name_wd g2).2
theorem join_lenZ : ∀ (l : List Bs), (∀ w ∈ l, w.length ≤ 30) → l ≠ [] → (joinT l).length + 1 ≤ 31 * l.length
 | [], _, h => absurd rfl h
 | [w], h, _ => by
  have := h w (by simp)
  show w.length + 1 ≤ 31
  omega
 | w :: v :: r, h, _ => by
  have h1 := h w (by simp)
  have ih := join_lenZ (v :: r) (fun x hx => h x (by simp [hx])) (by simp)
  show (w ++ 32 :: joinT (v :: r)).length + 1 ≤ _
  rw [List.length_append, List.length_cons, List.length_cons]
  omega
theorem flat_len : ∀ (l : List (List Bs)), (∀ ws ∈ l, ws ≠ [] ∧ ∀ w ∈ ws, w.length ≤ 30) → (flatT l).length ≤ 31 * (l.map List.length).sum
 | [], _ => by simp [flatT]
 | ws :: r, h => by
  have e : flatT (ws :: r) = joinT ws ++ 10 :: flatT r := by unfold flatT; simp
  have h1 := join_lenZ ws (h ws (by simp)).2 (h ws (by simp)).1
  have ih := flat_len r fun x hx => h x (by simp [hx])
  rw [e, List.length_append, List.length_cons, List.map_cons, List.sum_cons]
  omega
theorem parse_inv {t : Bs} {s : SrT} {p : Nat × Nat} (h : parseM t = (s, p, 0)) : (linesM t).2.2 = 0 ∧ readS (linesM t).1 sr0 = .inl s ∧ p = (0, 0) ∧ (s.zo.any fun z => !doneB z) = false ∧ validB s = true := by
 unfold parseM at h
 by_cases h1 : (linesM t).2.2 ≠ 0
 ·rw [if_pos h1] at h
  injection h with _ h
  injection h with _ h
  exact absurd h h1
 ·rw [if_neg h1] at h
  cases hr : readS (linesM t).1 sr0 with
  | inr e =>
   rw [hr] at h
   simp only at h
   injection h with _ h
   injection h with _ h
   exact absurd h (read_err hr)
  | inl s2 =>
   rw [hr] at h
   simp only at h
   by_cases h2 : (s2.zo.any fun z => !doneB z) = true
   ·rw [if_pos h2] at h
    injection h with _ h
    injection h with _ h
    exact absurd h (by decide)
   ·rw [if_neg h2] at h
    by_cases h3 : (checkM s2).2 ≠ 0
    ·rw [if_pos h3] at h
     injection h with _ h
     injection h with _ h
     exact absurd h h3
    ·rw [if_neg h3] at h
     injection h with ha h
     injection h with hb _
     subst ha
     refine ⟨by simpa using h1, rfl, hb.symm, by simpa using h2, ?_⟩
     unfold validB
     simpa using h3
theorem canon {t : Bs} {s : SrT} {p : Nat × Nat} (h : parseM t = (s, p, 0)) (hl : t.length ≤ 3000) : validB s = true ∧ textM s = (flatT (wordsT s), 0) ∧ parseM (flatT (wordsT s)) = (s, (0, 0), 0) ∧ (flatT (wordsT s)).length ≤ 65536 := by
 obtain ⟨h1, h2, -, -, h5⟩ := parse_inv h
 have hc := read_cnt _ _ _ h2
 have hs := linesM_len h1
 have h0 : cntS sr0 = 0 := rfl
 have hf := flat_len (wordsT s) fun ws hw => ⟨(words_wd h5 ws hw).1, words_len h5 ws hw⟩
 have he : cntS s = ((wordsT s).map List.length).sum := rfl
 have hb : (flatT (wordsT s)).length ≤ 65536 := by omega
 refine ⟨h5, ?_, parse_text h5 hb, hb⟩
 unfold textM
 rw [if_neg (by rw [h5]; simp), if_neg (by omega)]
end Wk
end Go.Proofs.YtmfdnbfjdhlonaaGreatDoor
namespace Go.Proofs.YtmfdnbfjdhlonaaGreatDoor
namespace Wk
open Go.Lib

/-! readers that see the same words -/
end Wk
end Go.Proofs.YtmfdnbfjdhlonaaGreatDoor
namespace Go.Proofs.YtmfdnbfjdhlonaaGreatDoor
namespace Wk
open Go.Lib

/-! blanks and comments -/
/-! the lines before an error -/
end Wk
end Go.Proofs.YtmfdnbfjdhlonaaGreatDoor
namespace Go.Proofs.YtmfdnbfjdhlonaaGreatDoor
namespace Wk
open Go.Lib

end Wk
end Go.Proofs.YtmfdnbfjdhlonaaGreatDoor
namespace Go.Proofs.YtmfdnbfjdhlonaaGreatDoor
namespace Wk
open Go.Lib

end Wk
end Go.Proofs.YtmfdnbfjdhlonaaGreatDoor
namespace Go.Proofs.YtmfdnbfjdhlonaaGreatDoor
namespace Wk
open Go.Lib

theorem index_one : ∀ (s : Bs) (c : UInt8), index s [c] = if s.contains c = true then ((s.takeWhile (· != c)).length : Int) else -1
 | [], c => rfl
 | d :: r, c => by
  unfold index
  by_cases h : c = d
  ·subst h
   rw [if_pos (by simp [List.isPrefixOf]), if_pos (by simp)]
   simp
  ·have h0 : [c].isPrefixOf (d :: r) = false := by simp [List.isPrefixOf, h]
   have h1 : (d != c) = true := by simpa using fun e => h e.symm
   rw [h0, if_neg (by simp), index_one r c, List.takeWhile_cons_of_pos (p := (· != c)) h1]
   have h2 : (d :: r).contains c = r.contains c := by simp [h]
   rw [h2]
   by_cases h3 : r.contains c = true
   ·rw [if_pos h3, if_pos h3, if_neg (by simp), List.length_cons]
    omega
   ·rw [if_neg h3, if_neg h3, if_pos (by simp)]
theorem take_while (s : Bs) (c : UInt8) : s.take (s.takeWhile (· != c)).length = s.takeWhile (· != c) ∧ s.drop ((s.takeWhile (· != c)).length + 1) = (s.dropWhile (· != c)).tail := by
 have e := List.takeWhile_append_dropWhile (p := (· != c)) (l := s)
 generalize s.takeWhile (· != c) = a at *
 generalize s.dropWhile (· != c) = b at *
 subst e
 refine ⟨by simp, ?_⟩
 rw [← List.drop_drop, List.drop_left]
 cases b <;> rfl
theorem cut_one (s : Bs) (c : UInt8) : cut s [c] = if s.contains c = true then (s.takeWhile (· != c), (s.dropWhile (· != c)).tail, true) else (s, [], false) := by
 obtain ⟨g1, g2⟩ := take_while s c
 unfold cut
 rw [index_one]
 by_cases h : s.contains c = true
 ·rw [if_pos h, if_pos h, if_pos (by omega)]
  simp only [Int.toNat_natCast, List.length_cons, List.length_nil]
  rw [g1, g2]
 ·rw [if_neg h, if_neg h, if_neg (by omega)]
end Wk
end Go.Proofs.YtmfdnbfjdhlonaaGreatDoor
namespace Go.Proofs.YtmfdnbfjdhlonaaGreatDoor
namespace Wk
open Go.Lib

def splitC (c : UInt8) : Bs → List Bs
 | [] => [[]]
 | d :: r => if d == c then [] :: splitC c r else match splitC c r with
  | [] => [[d]]
  | l :: ls => (d :: l) :: ls
theorem splitC_ne (c : UInt8) : ∀ (s : Bs), splitC c s ≠ []
 | [] => by simp [splitC]
 | d :: r => by
  rw [splitC]
  split
  ·simp
  ·split <;> simp
theorem splitC_take (c : UInt8) : ∀ (s : Bs), splitC c s = if s.contains c = true then s.takeWhile (· != c) :: splitC c (s.dropWhile (· != c)).tail else [s]
 | [] => rfl
 | d :: r => by
  rw [splitC]
  by_cases h : d = c
  ·subst h
   simp
  ·have h1 : (d != c) = true := by simpa using h
   have h2 : (d :: r).contains c = r.contains c := by
    have : (c == d) = false := by simpa using fun e => h e.symm
    rw [List.contains_cons, this, Bool.false_or]
   have h0 : ¬(d == c) = true := by simpa using h
   rw [if_neg h0, splitC_take c r, h2, List.takeWhile_cons_of_pos (p := (· != c)) h1, List.dropWhile_cons_of_pos (p := (· != c)) h1]
   by_cases h3 : r.contains c = true
   ·rw [if_pos h3, if_pos h3]
   ·rw [if_neg h3, if_neg h3]
theorem drop_lessC (c : UInt8) : ∀ {s : Bs}, s.contains c = true → ((s.dropWhile (· != c)).tail).length < s.length
 | [], h => absurd h (by simp)
 | d :: r, h => by
  by_cases hc : d = c
  ·subst hc
   simp
  ·have h1 : (d != c) = true := by simpa using hc
   have h2 : r.contains c = true := by
    simp only [List.contains_cons, Bool.or_eq_true, beq_iff_eq] at h
    exact h.resolve_left fun e => hc e.symm
   rw [List.dropWhile_cons_of_pos (p := (· != c)) h1, List.length_cons]
   have := drop_lessC c h2
   omega
theorem splitK_c (c : UInt8) : ∀ (n : Nat) (s : Bs), s.length ≤ n → splitK [c] 0 (countFrom [c] (n + 1) s) s = splitC c s
 | n, s, hn => by
  obtain ⟨g1, g2⟩ := take_while s c
  rw [countFrom, index_one, splitC_take]
  by_cases h : s.contains c = true
  ·have hl := drop_lessC c h
   rw [if_pos h, if_pos h, if_neg (by simp), Nat.add_comm 1, splitK, index_one, if_pos h, if_neg (by simp)]
   simp only [Int.toNat_natCast, List.length_cons, List.length_nil, Nat.add_zero]
   rw [g1, g2]
   cases n with
   | zero => omega
   | succ n => rw [splitK_c c n _ (by omega)]
  ·rw [if_neg h, if_neg h, if_pos (by simp), splitK]
theorem split_c (c : UInt8) (s : Bs) : split s [c] = splitC c s := splitK_c c s.length s (Nat.le_refl _)
/-! spans of time -/
def partB (p : Bs) : Bool := decide (p.length = 2) && p.all digC && decide (decV p ≤ 59)
def spanL : List Bs → Option Nat
 | [h] => if hourB h = true then some (3600 * decV h) else none
 | [h, m] => if (hourB h && partB m) = true then some (3600 * decV h + 60 * decV m) else none
 | [h, m, s] => if (hourB h && partB m && partB s) = true then some (3600 * decV h + 60 * decV m + decV s) else none
 | _ => none
theorem decV_two (a b : UInt8) : decV [a, b] = sixV a b := by
 unfold decV decF sixV
 simp
theorem part_two (a b : UInt8) : partB [a, b] = sixB a b := by
 rw [Bool.eq_iff_iff]
 unfold partB sixB
 rw [decV_two]
 unfold sixV
 simp only [List.all_cons, List.all_nil, Bool.and_true, Bool.and_eq_true, decide_eq_true_eq, List.length_cons, List.length_nil]
 constructor
 ·rintro ⟨⟨-, h1, h2⟩, h3⟩
  have := dig_of h1
  have := dig_of h2
  exact ⟨⟨h1, h2⟩, by omega⟩
 ·rintro ⟨⟨h1, h2⟩, h3⟩
  have := dig_of h1
  have := dig_of h2
  exact ⟨⟨trivial, h1, h2⟩, by omega⟩
theorem dig_ne58 {c : UInt8} (h : digC c = true) : (c == 58) = false := by
 rw [beq_eq_false_iff_ne]
 rintro rfl
 exact absurd h (by decide)
theorem part_len {p : Bs} (h : p.length ≠ 2) : partB p = false := by
 unfold partB
 rw [decide_eq_false h]
 rfl
theorem split_one {p : Bs} (h : p.contains 58 = false) : splitC 58 p = [p] := by
 rw [splitC_take, h]
 rfl
theorem part_no {p : Bs} (h : partB p = true) : ∃ a b, p = [a, b] ∧ sixB a b = true ∧ (a == 58) = false ∧ (b == 58) = false := by
 match p, h with
 | [], h => exact absurd h (by decide)
 | [a], h => exact absurd h (by rw [part_len (by simp)]; simp)
 | [a, b], h =>
  rw [part_two] at h
  have h' := h
  unfold sixB at h'
  simp only [Bool.and_eq_true] at h'
  exact ⟨a, b, rfl, h, dig_ne58 h'.1.1, dig_ne58 h'.1.2⟩
 | a :: b :: c :: r, h => exact absurd h (by rw [part_len (by simp)]; simp)
theorem six_no {a b : UInt8} (h : sixB a b = true) : (a == 58) = false ∧ (b == 58) = false := by
 unfold sixB at h
 simp only [Bool.and_eq_true] at h
 exact ⟨dig_ne58 h.1.1, dig_ne58 h.1.2⟩
theorem splitC_cons {c d : UInt8} (r : Bs) (h : (d == c) = false) : ∃ l ls, splitC c r = l :: ls ∧ splitC c (d :: r) = (d :: l) :: ls := by
 cases hs : splitC c r with
 | nil => exact absurd hs (splitC_ne c r)
 | cons l ls =>
  refine ⟨l, ls, rfl, ?_⟩
  rw [splitC, h, if_neg (by simp), hs]
def spanTl (H : Nat) : Bs → Option Nat
 | [] => some H
 | [_, a, b] => if sixB a b = true then some (H + 60 * sixV a b) else none
 | [_, a, b, c, d, e] => if (sixB a b && c == 58 && sixB d e) = true then some (H + 60 * sixV a b + sixV d e) else none
 | _ => none
theorem span_tl (s : Bs) : spanM s = if hourB (s.takeWhile (· != 58)) = false then none else spanTl (3600 * decV (s.takeWhile (· != 58))) (s.dropWhile (· != 58)) := by
 unfold spanM
 generalize s.dropWhile (· != 58) = t
 split
 ·rfl
 ·match t with
  | [] => rfl
  | [_] => rfl
  | [_, _] => rfl
  | [_, _, _] => rfl
  | [_, _, _, _] => rfl
  | [_, _, _, _, _] => rfl
  | [_, _, _, _, _, _] => rfl
  | _ :: _ :: _ :: _ :: _ :: _ :: _ :: _ => rfl
theorem parts_back : ∀ (t : Bs) (H : Nat), spanTl H (58 :: t) = match splitC 58 t with
  | [m] => if partB m = true then some (H + 60 * decV m) else none
  | [m, s] => if (partB m && partB s) = true then some (H + 60 * decV m + decV s) else none
  | _ => none := by
 intro t H
 -- what the parts say of the bytes
 have key : ∀ m s, splitC 58 t = [m, s] → partB m = true → partB s = true → ∃ a b d e, t = [a, b, 58, d, e] := fun m s ht hm hs => by
  have h1 : t.contains 58 = true := by
   rw [← Bool.not_eq_false]
   intro q
   rw [split_one q] at ht
   exact absurd ht (by simp)
  rw [splitC_take, if_pos h1] at ht
  injection ht with ht1 ht2
  obtain ⟨a, b, rfl, -, -, -⟩ := part_no hm
  obtain ⟨d, e, rfl, -, -, -⟩ := part_no hs
  have h2 : ((t.dropWhile (· != 58)).tail).contains 58 = false := by
   rw [← Bool.not_eq_true]
   intro q
   rw [splitC_take, if_pos q] at ht2
   injection ht2 with _ q2
   exact splitC_ne _ _ q2
  rw [split_one h2] at ht2
  injection ht2 with ht2 _
  have e : ∀ (u : Bs), u.contains 58 = true → u = u.takeWhile (· != 58) ++ 58 :: (u.dropWhile (· != 58)).tail := fun u => by
   induction u with
   | nil => intro q; exact absurd q (by simp)
   | cons c r ih =>
    intro q
    by_cases hc : c = 58
    ·subst hc; simp
    ·have g1 : (c != 58) = true := by simpa using hc
     have g2 : r.contains 58 = true := by
      simp only [List.contains_cons, Bool.or_eq_true, beq_iff_eq] at q
      exact q.resolve_left fun e => hc e.symm
     rw [List.takeWhile_cons_of_pos (p := (· != 58)) g1, List.dropWhile_cons_of_pos (p := (· != 58)) g1, List.cons_append]
     exact congrArg (c :: ·) (ih g2)
  have := e t h1
  rw [ht1, ht2] at this
  exact ⟨a, b, d, _, this⟩
 have key1 : ∀ m, splitC 58 t = [m] → t = m := fun m ht => by
  by_cases q : t.contains 58 = true
  ·rw [splitC_take, if_pos q] at ht
   injection ht with _ q2
   exact absurd q2 (splitC_ne _ _)
  ·rw [split_one (by simpa using q)] at ht
   injection ht
 by_cases hlen : t.length = 2
 ·match t, hlen with
  | [a, b], _ =>
   rw [spanTl]
   by_cases hs : sixB a b = true
   ·obtain ⟨n1, n2⟩ := six_no hs
    have : splitC 58 [a, b] = [[a, b]] := by
     apply split_one
     simp only [List.contains_cons, List.contains_nil, Bool.or_false]
     rw [Bool.or_eq_false_iff, beq_eq_false_iff_ne, beq_eq_false_iff_ne]
     rw [beq_eq_false_iff_ne] at n1 n2
     exact ⟨fun e => n1 e.symm, fun e => n2 e.symm⟩
    rw [this]
    simp only
    rw [part_two, decV_two]
   ·rw [if_neg hs]
    split
    ·rename_i m ht
     have := key1 m ht
     subst this
     rw [part_two, if_neg hs]
    ·rename_i m s ht
     rw [if_neg]
     intro q
     rw [Bool.and_eq_true] at q
     obtain ⟨_, _, _, _, e⟩ := key m s ht q.1 q.2
     exact absurd (congrArg List.length e) (by simp)
    ·rfl
 ·by_cases hlen5 : t.length = 5
  ·match t, hlen5 with
   | [a, b, c, d, e], _ =>
    rw [spanTl]
    by_cases hs : (sixB a b && c == 58 && sixB d e) = true
    ·rw [if_pos hs]
     simp only [Bool.and_eq_true, beq_iff_eq] at hs
     obtain ⟨⟨h1, rfl⟩, h3⟩ := hs
     obtain ⟨n1, n2⟩ := six_no h1
     obtain ⟨n3, n4⟩ := six_no h3
     have : splitC 58 [a, b, 58, d, e] = [[a, b], [d, e]] := by
      simp [splitC, n1, n2, n3, n4]
     rw [this]
     simp only
     rw [part_two, part_two, decV_two, decV_two, h1, h3]
     rfl
    ·rw [if_neg hs]
     split
     ·rename_i m ht
      have := key1 m ht
      subst this
      rw [part_len (by simp), if_neg (by simp)]
     ·rename_i m s ht
      rw [if_neg]
      intro q
      rw [Bool.and_eq_true] at q
      obtain ⟨a', b', d', e', he⟩ := key m s ht q.1 q.2
      injection he with e1 he
      injection he with e2 he
      injection he with e3 he
      injection he with e4 he
      injection he with e5 he
      subst e1 e2 e3 e4 e5
      have hm := part_no q.1
      have hsp := part_no q.2
      obtain ⟨x1, x2, rfl, k1, n1, n2⟩ := hm
      obtain ⟨x3, x4, rfl, k2, n3, n4⟩ := hsp
      have ht' := ht
      rw [splitC_take, if_pos (by simp)] at ht'
      apply hs
      have hab : splitC 58 [a, b, 58, d, e] = [[x1, x2], [x3, x4]] := ht
      cases ha : (a == 58) with
      | true =>
       rw [splitC, ha, if_pos rfl] at hab
       injection hab with q1 _
       exact absurd q1 (by simp)
      | false =>
       obtain ⟨l, ls, g1, g2⟩ := splitC_cons (c := 58) [b, 58, d, e] ha
       rw [g2] at hab
       injection hab with q1 q2
       injection q1 with q3 q4
       subst q3 q4 q2
       cases hb : (b == 58) with
       | true =>
        rw [splitC, hb, if_pos rfl] at g1
        injection g1 with q5 _
        exact absurd q5 (by simp)
       | false =>
        obtain ⟨l2, ls2, g3, g4⟩ := splitC_cons (c := 58) [58, d, e] hb
        rw [g4] at g1
        injection g1 with q5 q6
        injection q5 with q7 q8
        subst q7 q8 q6
        have : splitC 58 [58, d, e] = [] :: splitC 58 [d, e] := by rw [splitC, if_pos (by decide)]
        rw [this] at g3
        injection g3 with _ q9
        have hde : splitC 58 [d, e] = [[x3, x4]] := q9
        have hc : ([d, e] : Bs) = [x3, x4] := by
         by_cases q : ([d, e] : Bs).contains 58 = true
         ·rw [splitC_take, if_pos q] at hde
          injection hde with _ q2
          exact absurd q2 (splitC_ne _ _)
         ·rw [split_one (by simpa using q)] at hde
          injection hde
        injection hc with q10 q11
        injection q11 with q11 _
        rw [q10, q11, k1, k2]
        rfl
     ·rfl
  ·have hL : spanTl H (58 :: t) = none := by
    match t, hlen, hlen5 with
    | [], _, _ => rfl
    | [_], _, _ => rfl
    | [_, _], h, _ => exact absurd rfl h
    | [_, _, _], _, _ => rfl
    | [_, _, _, _], _, _ => rfl
    | [_, _, _, _, _], _, h => exact absurd rfl h
    | _ :: _ :: _ :: _ :: _ :: _ :: _, _, _ => rfl
   rw [hL]
   split
   ·rename_i m ht
    have := key1 m ht
    subst this
    rw [part_len hlen, if_neg (by simp)]
   ·rename_i m s ht
    rw [if_neg]
    intro q
    rw [Bool.and_eq_true] at q
    obtain ⟨_, _, _, _, e⟩ := key m s ht q.1 q.2
    exact hlen5 (by rw [e]; rfl)
   ·rfl
theorem span_parts (s : Bs) : spanM s = spanL (splitC 58 s) := by
 rw [span_tl]
 by_cases h : s.contains 58 = true
 ·rw [splitC_take, if_pos h]
  have e : ∀ (u : Bs), u.contains 58 = true → ∃ y, u.dropWhile (· != 58) = 58 :: y := fun u => by
   induction u with
   | nil => intro q; exact absurd q (by simp)
   | cons c r ih =>
    intro q
    by_cases hc : c = 58
    ·subst hc; exact ⟨r, by simp⟩
    ·have g1 : (c != 58) = true := by simpa using hc
     have g2 : r.contains 58 = true := by
      simp only [List.contains_cons, Bool.or_eq_true, beq_iff_eq] at q
      exact q.resolve_left fun e => hc e.symm
     rw [List.dropWhile_cons_of_pos (p := (· != 58)) g1]
     exact ih g2
  obtain ⟨t, ht⟩ := e s h
  rw [ht, List.tail_cons, parts_back t]
  generalize s.takeWhile (· != 58) = u
  cases hu : hourB u with
  | false =>
   rw [if_pos rfl]
   cases splitC 58 t with
   | nil => simp [spanL, hu]
   | cons m r =>
    cases r with
    | nil => simp [spanL, hu]
    | cons n r =>
     cases r with
     | nil => simp [spanL, hu]
     | cons _ _ => rfl
  | true =>
   rw [if_neg (by simp)]
   cases hc : splitC 58 t with
   | nil => exact absurd hc (splitC_ne _ _)
   | cons m r =>
    cases r with
    | nil => simp [spanL, hu]
    | cons n r =>
     cases r with
     | nil => simp [spanL, hu]
     | cons _ _ => rfl
 ·have h' : s.contains 58 = false := by simpa using h
  have e1 : s.takeWhile (· != 58) = s ∧ s.dropWhile (· != 58) = [] := by
   have : ∀ (u : Bs), u.contains 58 = false → u.takeWhile (· != 58) = u ∧ u.dropWhile (· != 58) = [] := fun u => by
    induction u with
    | nil => intro _; exact ⟨rfl, rfl⟩
    | cons c r ih =>
     intro q
     rw [List.contains_cons, Bool.or_eq_false_iff, beq_eq_false_iff_ne] at q
     have g1 : (c != 58) = true := by simpa using fun e => q.1 e.symm
     rw [List.takeWhile_cons_of_pos (p := (· != 58)) g1, List.dropWhile_cons_of_pos (p := (· != 58)) g1, (ih q.2).1, (ih q.2).2]
     exact ⟨rfl, rfl⟩
   exact this s h'
  rw [split_one h', e1.1, e1.2]
  unfold spanL spanTl
  simp only
  cases hourB s <;> rfl
end Wk
end Go.Proofs.YtmfdnbfjdhlonaaGreatDoor
namespace Go.Proofs.YtmfdnbfjdhlonaaGreatDoor
namespace Wk
open Go.Lib

theorem decV_snoc (s : Bs) (c : UInt8) : decV (s ++ [c]) = 10 * decV s + (c.toNat - 48) := by
 unfold decV
 rw [decF_append]
 rfl
end Wk
end Go.Proofs.YtmfdnbfjdhlonaaGreatDoor
namespace Go.Proofs.YtmfdnbfjdhlonaaGreatDoor
namespace Wk
open Go.Lib

end Wk
end Go.Proofs.YtmfdnbfjdhlonaaGreatDoor
namespace Go.Proofs.YtmfdnbfjdhlonaaGreatDoor
namespace Wk
open Go.Lib

end Wk
end Go.Proofs.YtmfdnbfjdhlonaaGreatDoor
