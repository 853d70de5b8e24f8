import Derived.Lib.ItoaNum
/- Zone texts, plain: letters, names, numbers, spans of time, as lists of bytes. -/
namespace Go.Proofs.YtlbglinpgjlbkaaGreatDoor
namespace Wk

abbrev Bs := List UInt8
def digC (c : UInt8) : Bool := decide (48 ≤ c.toNat) && decide (c.toNat ≤ 57)
def letC (c : UInt8) : Bool := (decide (65 ≤ c.toNat) && decide (c.toNat ≤ 90)) || (decide (97 ≤ c.toNat) && decide (c.toNat ≤ 122))
def namC (c : UInt8) : Bool := letC c || digC c || c == 95 || c == 47 || c == 43 || c == 45
def nameB : Bs → Bool
 | [] => false
 | c :: r => decide (r.length + 1 ≤ 30) && letC c && (c :: r).all namC
def decF (n : Nat) (s : Bs) : Nat := s.foldl (fun n c => 10 * n + (c.toNat - 48)) n
def decV (s : Bs) : Nat := decF 0 s
def wholeB (s : Bs) : Bool := match s with
 | [] => false
 | [c] => digC c
 | c :: r => !(c == 48) && (c :: r).all digC
def negB (s : Bs) : Bool := s.head? == some 45
def absB (s : Bs) : Bs := if negB s = true then s.tail else s
def formN (s : Bs) : Bool := wholeB (absB s) && !(negB s && (absB s).head? == some 48)
def numV (s : Bs) : Int := if negB s = true then -(decV (absB s) : Int) else decV (absB s)
def numM (s : Bs) (lo hi : Int) : Int × Int := if formN s = false then (0, 3) else if numV s < lo ∨ hi < numV s then (0, 2) else (numV s, 0)
def sixB (a b : UInt8) : Bool := digC a && digC b && decide (a.toNat ≤ 53)
def sixV (a b : UInt8) : Nat := 10 * (a.toNat - 48) + (b.toNat - 48)
def hourB (s : Bs) : Bool := wholeB s && decide (s.length ≤ 2)
def spanM (s : Bs) : Option Nat :=
 if hourB (s.takeWhile (· != 58)) = false then none else
 match s.dropWhile (· != 58) with
 | [] => some (3600 * decV (s.takeWhile (· != 58)))
 | [_, a, b] => if sixB a b = true then some (3600 * decV (s.takeWhile (· != 58)) + 60 * sixV a b) else none
 | [_, a, b, c, d, e] => if (sixB a b && c == 58 && sixB d e) = true then some (3600 * decV (s.takeWhile (· != 58)) + 60 * sixV a b + sixV d e) else none
 | _ => none
def clkOf (s : Bs) : Int := match s.getLast? with
 | some 115 => 2
 | some 117 => 3
 | _ => 1
def clkCut (s : Bs) : Bs := match s.getLast? with
 | some 119 => s.dropLast
 | some 115 => s.dropLast
 | some 117 => s.dropLast
 | _ => s
def clockM (s : Bs) : Int × Int × Int := match spanM (clkCut s) with
 | none => (0, 0, 3)
 | some n => if 93600 < n then (0, 0, 2) else (n, clkOf s, 0)
def offsetM (s : Bs) : Int × Int := match spanM (absB s) with
 | none => (0, 3)
 | some n => if (negB s && n == 0) = true then (0, 3) else if 93600 < n then (0, 2) else ((if negB s = true then -(n : Int) else n), 0)
def monthL : List Bs := [[74, 97, 110], [70, 101, 98], [77, 97, 114], [65, 112, 114], [77, 97, 121], [74, 117, 110], [74, 117, 108], [65, 117, 103], [83, 101, 112], [79, 99, 116], [78, 111, 118], [68, 101, 99]]
def wdayL : List Bs := [[77, 111, 110], [84, 117, 101], [87, 101, 100], [84, 104, 117], [70, 114, 105], [83, 97, 116], [83, 117, 110]]
def findM' (l : List Bs) (s : Bs) : Int × Int := match l.findIdx? (· == s) with
 | some k => ((k : Int) + 1, 0)
 | none => (0, 3)
def getM (l : List Bs) (n : Int) : Bs := if n < 1 ∨ (l.length : Int) < n then [] else l.getD (n.toNat - 1) []
end Wk
end Go.Proofs.YtlbglinpgjlbkaaGreatDoor
namespace Go.Proofs.YtlbglinpgjlbkaaGreatDoor
namespace Wk
open Go.Lib

theorem decF_append (n : Nat) (s t : Bs) : decF n (s ++ t) = decF (decF n s) t := List.foldl_append ..
theorem dig_of {c : UInt8} (h : digC c = true) : 48 ≤ c.toNat ∧ c.toNat ≤ 57 := by
 unfold digC at h
 simpa using h
theorem whole_iff {s : Bs} : wholeB s = true ↔ s ≠ [] ∧ s.all digC = true ∧ (1 < s.length → s.head? ≠ some 48) := by
 unfold wholeB
 split
 ·simp
 ·simp
 ·rename_i c r hne
  have : r ≠ [] := fun e => hne e
  cases r with
  | nil => exact absurd rfl this
  | cons d r => simp; constructor <;> (intro h; exact ⟨h.2, h.1⟩)
end Wk
end Go.Proofs.YtlbglinpgjlbkaaGreatDoor
namespace Go.Proofs.YtlbglinpgjlbkaaGreatDoor
namespace Wk
open Go.Lib

structure OnT where
 k : Int
 w : Int
 d : Int
deriving DecidableEq
structure RuT where
 nm : Bs
 fr : Int
 to : Int
 mo : Int
 on : OnT
 at_ : Int
 ck : Int
 sv : Int
 le : Bs
deriving DecidableEq
structure UnT where
 yr : Int
 mo : Int
 on : OnT
 at_ : Int
 ck : Int
deriving DecidableEq
structure LiT where
 of_ : Int
 ru : Bs
 sv : Int
 fm : Bs
 la : Bool
 un : UnT
deriving DecidableEq
structure ZoT where
 nm : Bs
 li : List LiT
deriving DecidableEq
structure LkT where
 nm : Bs
 zo : Bs
deriving DecidableEq
structure SrT where
 ru : List RuT
 zo : List ZoT
 lk : List LkT
deriving DecidableEq
def on0 : OnT := ⟨0, 0, 0⟩
def un0 : UnT := ⟨0, 0, on0, 0, 0⟩
def li0 : LiT := ⟨0, [], 0, [], false, un0⟩
def sr0 : SrT := ⟨[], [], []⟩
def onlyB (s more : Bs) : Bool := s.all fun c => letC c || digC c || more.contains c
def letterB (s : Bs) : Bool := decide (s.length ≤ 4) && onlyB s []
def plainB (s : Bs) : Bool := decide (1 ≤ s.length) && decide (s.length ≤ 8) && onlyB s [43, 45]
def cutPct : Bs → Option (Bs × Bs)
 | 37 :: 115 :: r => some ([], r)
 | c :: r => (cutPct r).map fun p => (c :: p.1, p.2)
 | [] => none
def fmtB (s : Bs) : Bool := match cutPct s with
 | some (a, b) => decide (1 ≤ (a ++ b).length) && decide ((a ++ b).length ≤ 4) && onlyB (a ++ b) [43, 45]
 | none => if s.contains 47 = true then plainB (s.takeWhile (· != 47)) && plainB ((s.dropWhile (· != 47)).tail) else plainB s
def savB (n : Int) : Bool := n % 60 == 0 && decide (-10800 ≤ n) && decide (n ≤ 10800)
def dayB (n : Int) : Bool := decide (1 ≤ n) && decide (n ≤ 31)
def wdB (n : Int) : Bool := decide (1 ≤ n) && decide (n ≤ 7)
def onB (o : OnT) : Bool :=
 if o.k = 1 then dayB o.d && o.w == 0 else if o.k = 2 then wdB o.w && o.d == 0 else if o.k = 3 ∨ o.k = 4 then wdB o.w && dayB o.d else false
def lenM (m : Int) : Int := if m < 1 ∨ 12 < m then 0 else if m = 2 then 29 else if m = 4 ∨ m = 6 ∨ m = 9 ∨ m = 11 then 30 else 31
def fitsB (o : OnT) (m : Int) : Bool := decide (o.d ≤ lenM m)
def momB (m : Int) (o : OnT) (a c : Int) : Bool := decide (1 ≤ m) && decide (m ≤ 12) && onB o && fitsB o m && decide (0 ≤ a) && decide (a ≤ 93600) && decide (1 ≤ c) && decide (c ≤ 3)
def ruB (r : RuT) : Bool := nameB r.nm && decide (1 ≤ r.fr) && decide (r.fr ≤ r.to) && decide (r.to ≤ 9999) && momB r.mo r.on r.at_ r.ck && savB r.sv && letterB r.le
def liB (l : LiT) : Bool := decide (-57600 ≤ l.of_) && decide (l.of_ ≤ 57600) && fmtB l.fm && (if l.ru = [] then true else nameB l.ru && l.sv == 0) && savB l.sv &&
 (if l.la = true then decide (l.un = un0) else decide (1 ≤ l.un.yr) && decide (l.un.yr ≤ 9999) && momB l.un.mo l.un.on l.un.at_ l.un.ck)
def zoB (z : ZoT) : Bool := nameB z.nm && decide (1 ≤ z.li.length) && decide (z.li.length ≤ 100) && (List.range z.li.length).all fun i => liB (z.li.getD i li0) && (z.li.getD i li0).la == (i + 1 == z.li.length)
def chkR : List RuT → Option (Bs × Int)
 | [] => none
 | r :: t => if ruB r = true then chkR t else some (r.nm, 1)
def chkN (names : List Bs) : List LiT → Option (Bs × Int)
 | [] => none
 | l :: t => if (l.ru == [] || names.contains l.ru) = true then chkN names t else some (l.ru, 7)
def chkZ (names : List Bs) (seen : List Bs) : List ZoT → Option (Bs × Int)
 | [] => none
 | z :: t => if zoB z = false then some (z.nm, 1) else if seen.contains z.nm = true then some (z.nm, 8) else match chkN names z.li with
  | some e => some e
  | none => chkZ names (z.nm :: seen) t
def chkL (zones : List Bs) (seen : List Bs) : List LkT → Option (Bs × Int)
 | [] => none
 | x :: t => if nameB x.nm = false then some (x.nm, 1) else if (zones.contains x.nm || seen.contains x.nm) = true then some (x.nm, 8) else if zones.contains x.zo = false then some (x.zo, 7) else chkL zones (x.nm :: seen) t
def checkM (s : SrT) : Bs × Int :=
 if 100 < s.ru.length ∨ 30 < s.zo.length + s.lk.length then ([], 5) else
 match chkR s.ru with
 | some e => e
 | none => match chkZ (s.ru.map RuT.nm) [] s.zo with
  | some e => e
  | none => match chkL (s.zo.map ZoT.nm) [] s.lk with
   | some e => e
   | none => ([], 0)
def validB (s : SrT) : Bool := (checkM s).2 == 0
def dayM (s : Bs) : Int × Int := if negB s = true then (0, 3) else numM s 1 31
def onM (s : Bs) : OnT × Int :=
 if [108, 97, 115, 116].isPrefixOf s = true then (if (findM' wdayL (s.drop 4)).2 ≠ 0 then (on0, 3) else (⟨2, (findM' wdayL (s.drop 4)).1, 0⟩, 0)) else
 if (s.drop 3).take 2 = [62, 61] ∨ (s.drop 3).take 2 = [60, 61] then (if (findM' wdayL (s.take 3)).2 ≠ 0 then (on0, 3) else if (dayM (s.drop 5)).2 ≠ 0 then (on0, (dayM (s.drop 5)).2) else (⟨if (s.drop 3).take 2 = [62, 61] then 3 else 4, (findM' wdayL (s.take 3)).1, (dayM (s.drop 5)).1⟩, 0)) else
 if (dayM s).2 ≠ 0 then (on0, (dayM s).2) else (⟨1, 0, (dayM s).1⟩, 0)
end Wk
end Go.Proofs.YtlbglinpgjlbkaaGreatDoor
namespace Go.Proofs.YtlbglinpgjlbkaaGreatDoor
namespace Wk
open Go.Lib

structure Tok where
 tx : Bs
 ln : Nat
 co : Nat
deriving DecidableEq
def tok0 : Tok := ⟨[], 0, 0⟩
def badC (c : UInt8) : Bool := !(c == 9) && (decide (c.toNat < 32) || decide (126 < c.toNat))
def blkC (c : UInt8) : Bool := c == 32 || c == 9
def moreT (ws : List Tok) (c : UInt8) : List Tok := ws.dropLast ++ [{ (ws.getLastD tok0) with tx := (ws.getLastD tok0).tx ++ [c] }]
structure LxS where
 cm : Bool
 op : Bool
 ws : List Tok
def lxStep (ln k : Nat) (s : LxS) (c : UInt8) : LxS :=
 if (s.cm || c == 35 || blkC c) = true then ⟨s.cm || c == 35, false, s.ws⟩ else if s.op = true then ⟨false, true, moreT s.ws c⟩ else ⟨false, true, s.ws ++ [⟨[c], ln, k⟩]⟩
def lexS (ln : Nat) : Bs → Nat → LxS → List Tok ⊕ Nat
 | [], _, s => .inl s.ws
 | c :: r, k, s => if badC c = true then .inr k else lexS ln r (k + 1) (lxStep ln k s c)
def lexL (ln : Nat) (s : Bs) : List Tok ⊕ Nat := lexS ln s 1 ⟨false, false, []⟩
def splitNl : Bs → List Bs
 | [] => [[]]
 | c :: r => if c == 10 then [] :: splitNl r else match splitNl r with
  | [] => [[c]]
  | l :: ls => (c :: l) :: ls
def linesS : Nat → List Bs → List (List Tok) ⊕ (Nat × Nat)
 | _, [] => .inl []
 | ln, l :: r => match lexL ln l with
  | .inr k => .inr (ln, k)
  | .inl ws => match linesS (ln + 1) r with
   | .inr p => .inr p
   | .inl out => .inl (if ws = [] then out else ws :: out)
def linesM (s : Bs) : List (List Tok) × (Nat × Nat) × Int :=
 if 65536 < s.length then ([], (0, 0), 5) else match linesS 1 (splitNl s) with
 | .inl out => (out, (0, 0), 0)
 | .inr p => ([], p, 3)
abbrev Rd (α : Type) := List Tok → Nat → (α × Nat) ⊕ ((Nat × Nat) × Int)
def plT (ws : List Tok) (i : Nat) : Nat × Nat := ((ws.getD i tok0).ln, (ws.getD i tok0).co)
def Rd.bind {α β : Type} (m : Rd α) (f : α → Rd β) : Rd β := fun ws n => match m ws n with
 | .inl (a, k) => f a ws k
 | .inr e => .inr e
def Rd.pure {α : Type} (a : α) : Rd α := fun _ n => .inl (a, n)
def Rd.fail {α : Type} (e : Int) : Rd α := fun ws n => .inr (plT ws (n - 1), e)
instance : Monad Rd where
 pure := Rd.pure
 bind := Rd.bind
def wordR : Rd Bs := fun ws n => if n < ws.length then .inl ((ws.getD n tok0).tx, n + 1) else .inr (plT ws (ws.length - 1), 4)
def needR (b : Bool) (e : Int) : Rd Unit := if b = true then Rd.pure () else Rd.fail e
def checkR (good : Bs → Bool) : Rd Bs := Rd.bind wordR fun s => Rd.bind (needR (good s) 3) fun _ => Rd.pure s
def numR (f : Bs → Int × Int) : Rd Int := Rd.bind wordR fun s => Rd.bind (needR ((f s).2 == 0) (f s).2) fun _ => Rd.pure (f s).1
def yearR : Rd Int := numR fun s => numM s 1 9999
def limR (good : Int → Bool) : Rd Int := Rd.bind (numR offsetM) fun n => Rd.bind (needR (good n) 2) fun _ => Rd.pure n
def whenR : Rd (Int × OnT × Int × Int) :=
 Rd.bind (numR (findM' monthL)) fun m => Rd.bind wordR fun s => Rd.bind (needR ((onM s).2 == 0) (onM s).2) fun _ => Rd.bind (needR (fitsB (onM s).1 m) 2) fun _ =>
 Rd.bind wordR fun t => Rd.bind (needR ((clockM t).2.2 == 0) (clockM t).2.2) fun _ => Rd.pure (m, (onM s).1, (clockM t).1, (clockM t).2.1)
def endR : Rd Unit := fun ws n => if n < ws.length then .inr (plT ws n, 3) else .inl ((), n)
def toR (fr : Int) : Rd Int := Rd.bind wordR fun s => if s = [111, 110, 108, 121] then Rd.pure fr else if s = [109, 97, 120] then Rd.pure 9999 else
 Rd.bind (needR ((numM s 1 9999).2 == 0) (numM s 1 9999).2) fun _ => Rd.bind (needR (decide (fr ≤ (numM s 1 9999).1)) 2) fun _ => Rd.pure (numM s 1 9999).1
def ruleR : Rd RuT := Rd.bind (checkR nameB) fun nm => Rd.bind yearR fun fr => Rd.bind (toR fr) fun to => Rd.bind whenR fun w => Rd.bind (limR savB) fun sv =>
 Rd.bind (checkR fun s => s == [45] || (!(s == []) && letterB s)) fun le => Rd.bind endR fun _ => Rd.pure ⟨nm, fr, to, w.1, w.2.1, w.2.2.1, w.2.2.2, sv, if le = [45] then [] else le⟩
def rulesR : Rd (Bs × Int) := Rd.bind wordR fun s => if s = [45] then Rd.pure ([], 0) else if nameB s = true then Rd.pure (s, 0) else
 Rd.bind (needR ((offsetM s).2 == 0) (offsetM s).2) fun _ => Rd.bind (needR (savB (offsetM s).1) 2) fun _ => Rd.pure ([], (offsetM s).1)
def lastR : Rd Bool := fun ws n => .inl (n == ws.length, n)
def lineR : Rd LiT := Rd.bind (limR fun n => decide (-57600 ≤ n) && decide (n ≤ 57600)) fun o => Rd.bind rulesR fun r => Rd.bind (checkR fmtB) fun f => Rd.bind lastR fun la =>
 if la = true then Rd.pure ⟨o, r.1, r.2, f, true, un0⟩ else
 Rd.bind (checkR fun s => s == [117, 110, 116, 105, 108]) fun _ => Rd.bind yearR fun y => Rd.bind whenR fun w => Rd.bind endR fun _ => Rd.pure ⟨o, r.1, r.2, f, false, ⟨y, w.1, w.2.1, w.2.2.1, w.2.2.2⟩⟩
def zoneR : Rd ZoT := Rd.bind (checkR nameB) fun nm => Rd.bind endR fun _ => Rd.pure ⟨nm, []⟩
def linkR : Rd LkT := Rd.bind (checkR nameB) fun nm => Rd.bind (checkR nameB) fun zo => Rd.bind endR fun _ => Rd.pure ⟨nm, zo⟩
def doneB (z : ZoT) : Bool := match z.li.getLast? with
 | some l => l.la
 | none => false
def addLine (s : SrT) (l : LiT) : SrT := { s with zo := s.zo.dropLast ++ [{ (s.zo.getLastD ⟨[], []⟩) with li := (s.zo.getLastD ⟨[], []⟩).li ++ [l] }] }
def lineStep (ws : List Tok) (s : SrT) : SrT ⊕ ((Nat × Nat) × Int) :=
 if (ws.getD 0 tok0).tx = [114, 117, 108, 101] then (match ruleR ws 1 with
  | .inl (r, _) => .inl { s with ru := s.ru ++ [r] }
  | .inr e => .inr e)
 else if (ws.getD 0 tok0).tx = [122, 111, 110, 101] then (match zoneR ws 1 with
  | .inl (z, _) => .inl { s with zo := s.zo ++ [z] }
  | .inr e => .inr e)
 else if (ws.getD 0 tok0).tx = [108, 105, 110, 101] then (if (s.zo == [] || doneB (s.zo.getLastD ⟨[], []⟩)) = true then .inr (plT ws 0, 6) else match lineR ws 1 with
  | .inl (l, _) => .inl (addLine s l)
  | .inr e => .inr e)
 else if (ws.getD 0 tok0).tx = [108, 105, 110, 107] then (match linkR ws 1 with
  | .inl (x, _) => .inl { s with lk := s.lk ++ [x] }
  | .inr e => .inr e)
 else .inr (plT ws 0, 3)
def readS : List (List Tok) → SrT → SrT ⊕ ((Nat × Nat) × Int)
 | [], s => .inl s
 | ws :: r, s => match lineStep ws s with
  | .inl s' => readS r s'
  | .inr e => .inr e
def parseM (t : Bs) : SrT × (Nat × Nat) × Int :=
 if (linesM t).2.2 ≠ 0 then (sr0, (linesM t).2.1, (linesM t).2.2) else match readS (linesM t).1 sr0 with
 | .inr e => (sr0, e.1, e.2)
 | .inl s => if s.zo.any (fun z => !doneB z) = true then (sr0, (0, 0), 4) else if (checkM s).2 ≠ 0 then (sr0, (0, 0), (checkM s).2) else (s, (0, 0), 0)
theorem parse_awake : parseM [114, 117, 108, 101, 32, 69, 88, 32, 49, 57, 57, 48, 32, 109, 97, 120, 32, 77, 97, 114, 32, 108, 97, 115, 116, 83, 117, 110, 32, 50, 58, 48, 48, 32, 49, 58, 48, 48, 32, 83, 10, 122, 111, 110, 101, 32, 73, 115, 108, 101, 10, 108, 105, 110, 101, 32, 49, 58, 48, 48, 32, 69, 88, 32, 69, 37, 115, 84, 10] = (⟨[⟨[69, 88], 1990, 9999, 3, ⟨2, 7, 0⟩, 7200, 1, 3600, [83]⟩], [⟨[73, 115, 108, 101], [⟨3600, [69, 88], 0, [69, 37, 115, 84], true, un0⟩]⟩], []⟩, (0, 0), 0) := by
 decide +kernel
end Wk
end Go.Proofs.YtlbglinpgjlbkaaGreatDoor
namespace Go.Proofs.YtlbglinpgjlbkaaGreatDoor
namespace Wk
open Go.Lib

/-! what is read in a line -/
end Wk
end Go.Proofs.YtlbglinpgjlbkaaGreatDoor
namespace Go.Proofs.YtlbglinpgjlbkaaGreatDoor
namespace Wk
open Go.Lib

end Wk
end Go.Proofs.YtlbglinpgjlbkaaGreatDoor
namespace Go.Proofs.YtlbglinpgjlbkaaGreatDoor
namespace Wk
open Go.Lib

end Wk
end Go.Proofs.YtlbglinpgjlbkaaGreatDoor
namespace Go.Proofs.YtlbglinpgjlbkaaGreatDoor
namespace Wk
open Go.Lib

theorem chkR_ok : ∀ {l : List RuT}, chkR l = none → ∀ r ∈ l, ruB r = true
 | [], _, r, hr => absurd hr (by simp)
 | a :: t, h, r, hr => by
  rw [chkR] at h
  by_cases ha : ruB a = true
  ·rw [if_pos ha] at h
   rcases List.mem_cons.1 hr with rfl | hr
   ·exact ha
   ·exact chkR_ok h r hr
  ·rw [if_neg ha] at h
   exact absurd h (by simp)
theorem chkZ_ok : ∀ {l : List ZoT} {names seen : List Bs}, chkZ names seen l = none → ∀ z ∈ l, zoB z = true
 | [], _, _, _, z, hz => absurd hz (by simp)
 | a :: t, names, seen, h, z, hz => by
  rw [chkZ] at h
  by_cases h1 : zoB a = false
  ·rw [if_pos h1] at h; exact absurd h (by simp)
  ·rw [if_neg h1] at h
   by_cases h2 : seen.contains a.nm = true
   ·rw [if_pos h2] at h; exact absurd h (by simp)
   ·rw [if_neg h2] at h
    cases h3 : chkN names a.li with
    | some e => rw [h3] at h; exact absurd h (by simp)
    | none =>
     rw [h3] at h
     rcases List.mem_cons.1 hz with rfl | hz
     ·simpa using h1
     ·exact chkZ_ok h z hz
theorem chkL_ok : ∀ {l : List LkT} {zones seen : List Bs}, chkL zones seen l = none → ∀ x ∈ l, nameB x.nm = true ∧ x.zo ∈ zones
 | [], _, _, _, z, hz => absurd hz (by simp)
 | a :: t, zones, seen, h, z, hz => by
  rw [chkL] at h
  by_cases h1 : nameB a.nm = false
  ·rw [if_pos h1] at h; exact absurd h (by simp)
  ·rw [if_neg h1] at h
   by_cases h2 : (zones.contains a.nm || seen.contains a.nm) = true
   ·rw [if_pos h2] at h; exact absurd h (by simp)
   ·rw [if_neg h2] at h
    by_cases h3 : zones.contains a.zo = false
    ·rw [if_pos h3] at h; exact absurd h (by simp)
    ·rw [if_neg h3] at h
     rcases List.mem_cons.1 hz with rfl | hz
     ·exact ⟨by simpa using h1, by simpa using h3⟩
     ·exact chkL_ok h z hz
theorem chkZ_err : ∀ {l : List ZoT} {names seen : List Bs} {e : Bs × Int}, chkZ names seen l = some e → e.2 ≠ 0
 | [], _, _, _, h => absurd h (by simp [chkZ])
 | a :: t, names, seen, e, h => by
  rw [chkZ] at h
  by_cases h1 : zoB a = false
  ·rw [if_pos h1] at h; injection h with h; rw [← h]; simp
  ·rw [if_neg h1] at h
   by_cases h2 : seen.contains a.nm = true
   ·rw [if_pos h2] at h; injection h with h; rw [← h]; simp
   ·rw [if_neg h2] at h
    cases h3 : chkN names a.li with
    | some f =>
     rw [h3] at h
     injection h with h
     rw [← h]
     have : ∀ (L : List LiT), chkN names L = some f → f.2 ≠ 0 := fun L => by
      induction L with
      | nil => intro q; exact absurd q (by simp [chkN])
      | cons b r ih =>
       intro q
       rw [chkN] at q
       split at q
       ·exact ih q
       ·injection q with q; rw [← q]; simp
     exact this _ h3
    | none => rw [h3] at h; exact chkZ_err h
theorem chkL_err : ∀ {l : List LkT} {zones seen : List Bs} {e : Bs × Int}, chkL zones seen l = some e → e.2 ≠ 0
 | [], _, _, _, h => absurd h (by simp [chkL])
 | a :: t, zones, seen, e, h => by
  rw [chkL] at h
  split at h
  ·injection h with h; rw [← h]; simp
  ·split at h
   ·injection h with h; rw [← h]; simp
   ·split at h
    ·injection h with h; rw [← h]; simp
    ·exact chkL_err h
theorem chkR_err : ∀ {l : List RuT} {e : Bs × Int}, chkR l = some e → e.2 ≠ 0
 | [], _, h => absurd h (by simp [chkR])
 | a :: t, e, h => by
  rw [chkR] at h
  split at h
  ·exact chkR_err h
  ·injection h with h; rw [← h]; simp
theorem valid_parts {s : SrT} (h : validB s = true) : s.ru.length ≤ 100 ∧ s.zo.length + s.lk.length ≤ 30 ∧ (∀ r ∈ s.ru, ruB r = true) ∧ (∀ z ∈ s.zo, zoB z = true) ∧ (∀ x ∈ s.lk, nameB x.nm = true ∧ nameB x.zo = true) ∧ (checkM s).2 = 0 := by
 have h0 : (checkM s).2 = 0 := by
  unfold validB at h
  simpa using h
 unfold checkM at h0
 by_cases hl : 100 < s.ru.length ∨ 30 < s.zo.length + s.lk.length
 ·rw [if_pos hl] at h0; exact absurd h0 (by simp)
 ·rw [if_neg hl] at h0
  cases h1 : chkR s.ru with
  | some e => rw [h1] at h0; exact absurd h0 (chkR_err h1)
  | none =>
   rw [h1] at h0
   cases h2 : chkZ (s.ru.map RuT.nm) [] s.zo with
   | some e => simp only [h2] at h0; exact absurd h0 (chkZ_err h2)
   | none =>
    simp only [h2] at h0
    cases h3 : chkL (s.zo.map ZoT.nm) [] s.lk with
    | some e => simp only [h3] at h0; exact absurd h0 (chkL_err h3)
    | none =>
     have hz := chkZ_ok h2
     refine ⟨by omega, by omega, chkR_ok h1, hz, fun x hx => ?_, by unfold validB at h; simpa using h⟩
     obtain ⟨g1, g2⟩ := chkL_ok h3 x hx
     obtain ⟨z, hzm, hze⟩ := List.mem_map.1 g2
     have := hz z hzm
     unfold zoB at this
     simp only [Bool.and_eq_true] at this
     exact ⟨g1, by rw [← hze]; exact this.1.1.1⟩
theorem zo_parts {z : ZoT} (h : zoB z = true) : nameB z.nm = true ∧ 1 ≤ z.li.length ∧ z.li.length ≤ 100 ∧ ∀ i (hi : i < z.li.length), liB z.li[i] = true ∧ z.li[i].la = (i + 1 == z.li.length) := by
 unfold zoB at h
 simp only [Bool.and_eq_true, decide_eq_true_eq, List.all_eq_true, List.mem_range] at h
 refine ⟨h.1.1.1, h.1.1.2, h.1.2, fun i hi => ?_⟩
 have := h.2 i hi
 rw [List.getD_eq_getElem?_getD, List.getElem?_eq_getElem hi] at this
 exact ⟨this.1, by simpa using this.2⟩
/-! the words -/
theorem cutPct_eq : ∀ {s a b : Bs}, cutPct s = some (a, b) → s = a ++ 37 :: 115 :: b
 | [], a, b, h => absurd h (by simp [cutPct])
 | [c], a, b, h => by
  unfold cutPct at h
  simp [cutPct] at h
 | c :: d :: r, a, b, h => by
  by_cases hc : c = 37 ∧ d = 115
  ·obtain ⟨rfl, rfl⟩ := hc
   rw [cutPct] at h
   injection h with h
   injection h with h1 h2
   rw [← h1, ← h2]
   rfl
  ·rw [cutPct] at h
   ·cases hp : cutPct (d :: r) with
    | none => rw [hp] at h; exact absurd h (by simp)
    | some p =>
     rw [hp] at h
     simp only [Option.map_some] at h
     injection h with h
     injection h with h1 h2
     have := cutPct_eq (a := p.1) (b := p.2) hp
     rw [← h1, ← h2, List.cons_append, ← this]
   ·intro r' e1 e2
    injection e2 with e2 _
    exact hc ⟨e1, e2⟩
theorem slash_eq : ∀ {s : Bs}, s.contains 47 = true → s = s.takeWhile (· != 47) ++ 47 :: (s.dropWhile (· != 47)).tail
 | [], h => absurd h (by simp)
 | c :: r, h => by
  by_cases hc : c = 47
  ·subst hc
   simp
  ·have hne : (c != 47) = true := by simpa using hc
   rw [List.takeWhile_cons_of_pos (p := (· != 47)) hne, List.dropWhile_cons_of_pos (p := (· != 47)) hne, List.cons_append]
   have : r.contains 47 = true := by
    simp only [List.contains_cons, Bool.or_eq_true, beq_iff_eq] at h
    rcases h with h | h
    ·exact absurd h.symm hc
    ·exact h
   exact congrArg (c :: ·) (slash_eq this)
end Wk
end Go.Proofs.YtlbglinpgjlbkaaGreatDoor
namespace Go.Proofs.YtlbglinpgjlbkaaGreatDoor
namespace Wk
open Go.Lib

theorem addLine_at (s : SrT) (Z : List ZoT) (nm : Bs) (p : List LiT) (l : LiT) : addLine { s with zo := Z ++ [⟨nm, p⟩] } l = { s with zo := Z ++ [⟨nm, p ++ [l]⟩] } := by
 unfold addLine
 simp
end Wk
end Go.Proofs.YtlbglinpgjlbkaaGreatDoor
namespace Go.Proofs.YtlbglinpgjlbkaaGreatDoor
namespace Wk
open Go.Lib

theorem moreT_len {ws : List Tok} (c : UInt8) (h : ws ≠ []) : (moreT ws c).length = ws.length := by
 have := List.length_pos_iff.2 h
 unfold moreT
 rw [List.length_append, List.length_dropLast, List.length_cons, List.length_nil]
 omega
theorem lexS_len (ln : Nat) : ∀ (s : Bs) (k : Nat) (st : LxS) (ws : List Tok), (st.op = true → st.ws ≠ []) → lexS ln s k st = .inl ws → 2 * ws.length ≤ 2 * st.ws.length + s.length + if st.op = true then 0 else 1
 | [], k, st, ws, _, h => by
  rw [lexS] at h
  injection h with h
  subst h
  split <;> simp
 | c :: r, k, st, ws, ho, h => by
  rw [lexS] at h
  split at h
  ·exact absurd h (by simp)
  ·unfold lxStep at h
   split at h
   ·have := lexS_len ln r (k + 1) _ ws (by simp) h
    simp only [Bool.false_eq_true, if_false, List.length_cons] at this ⊢
    split <;> omega
   ·split at h
    ·rename_i h2
     have := lexS_len ln r (k + 1) _ ws (by
      intro _ e
      have hl := congrArg List.length e
      rw [moreT_len c (ho h2), List.length_nil] at hl
      have := List.length_pos_iff.2 (ho h2)
      omega) h
     simp only [if_true, moreT_len c (ho h2), List.length_cons] at this ⊢
     rw [if_pos h2]
     omega
    ·rename_i h2
     have := lexS_len ln r (k + 1) _ ws (by simp) h
     simp only [if_true, List.length_append, List.length_cons, List.length_nil] at this ⊢
     rw [if_neg h2]
     omega
def sumW (ls : List (List Tok)) : Nat := (ls.map List.length).sum
theorem linesS_len : ∀ (L : List Bs) (ln : Nat) (out : List (List Tok)), linesS ln L = .inl out → 2 * sumW out ≤ (L.map fun l => l.length + 1).sum
 | [], ln, out, h => by
  rw [linesS] at h
  injection h with h
  subst h
  simp [sumW]
 | l :: r, ln, out, h => by
  rw [linesS] at h
  cases h1 : lexL ln l with
  | inr k => rw [h1] at h; exact absurd h (by simp)
  | inl ws =>
   rw [h1] at h
   simp only at h
   cases h2 : linesS (ln + 1) r with
   | inr k => rw [h2] at h; exact absurd h (by simp)
   | inl o =>
    rw [h2] at h
    simp only at h
    injection h with h
    have ih := linesS_len r (ln + 1) o h2
    have hl := lexS_len ln l 1 ⟨false, false, []⟩ ws (by simp) h1
    simp only [Bool.false_eq_true, if_false, List.length_nil] at hl
    rw [List.map_cons, List.sum_cons]
    subst h
    split
    ·omega
    ·unfold sumW at ih ⊢
     rw [List.map_cons, List.sum_cons]
     omega
theorem split_len : ∀ (s : Bs), ((splitNl s).map fun l => l.length + 1).sum = s.length + 1
 | [] => by simp [splitNl]
 | c :: r => by
  have ih := split_len r
  rw [splitNl]
  split
  ·rw [List.map_cons, List.sum_cons, ih]
   simp
   omega
  ·cases hs : splitNl r with
   | nil => rw [hs] at ih; simp at ih
   | cons l ls =>
    rw [hs] at ih
    simp only [List.map_cons, List.sum_cons, List.length_cons] at ih ⊢
    omega
theorem linesM_len {t : Bs} (h : (linesM t).2.2 = 0) : 2 * sumW (linesM t).1 ≤ t.length + 1 := by
 unfold linesM at h ⊢
 split
 ·rename_i h1
  rw [if_pos h1] at h
  exact absurd h (by simp)
 ·rename_i h1
  rw [if_neg h1] at h
  cases hl : linesS 1 (splitNl t) with
  | inr p => rw [hl] at h; exact absurd h (by simp)
  | inl out =>
   have := linesS_len _ _ _ hl
   rw [split_len] at this
   exact this
/-! what a reader that succeeds has read -/
end Wk
end Go.Proofs.YtlbglinpgjlbkaaGreatDoor
namespace Go.Proofs.YtlbglinpgjlbkaaGreatDoor
namespace Wk
open Go.Lib

theorem linesS_ne : ∀ (L : List Bs) (ln : Nat) (out : List (List Tok)), linesS ln L = .inl out → ∀ ws ∈ out, ws ≠ []
 | [], ln, out, h, ws, hw => by
  rw [linesS] at h
  injection h with h
  subst h
  exact absurd hw (by simp)
 | l :: r, ln, out, h, ws, hw => by
  rw [linesS] at h
  cases h1 : lexL ln l with
  | inr k => rw [h1] at h; exact absurd h (by simp)
  | inl v =>
   rw [h1] at h
   simp only at h
   cases h2 : linesS (ln + 1) r with
   | inr k => rw [h2] at h; exact absurd h (by simp)
   | inl o =>
    rw [h2] at h
    simp only at h
    injection h with h
    have ih := linesS_ne r (ln + 1) o h2
    subst h
    split at hw
    ·exact ih ws hw
    ·rename_i hv
     rcases List.mem_cons.1 hw with rfl | hw
     ·exact hv
     ·exact ih ws hw
theorem linesM_ne (t : Bs) : ∀ ws ∈ (linesM t).1, ws ≠ [] := by
 unfold linesM
 split
 ·simp
 ·cases h : linesS 1 (splitNl t) with
  | inr p => simp
  | inl out => exact linesS_ne _ _ _ h
end Wk
end Go.Proofs.YtlbglinpgjlbkaaGreatDoor
