import Derived.Test.YtlbglinpgjlbkaaGreatDoorWkQh
import Derived.Deep.AppendLies
import Derived.Deep.RegionLaw
/- Zone texts: the reference's Lines. Printed by gen_x3.py. -/
namespace Go.Proofs.YtlbglinpgjlbkaaGreatDoor
open Go.RowKit Wk

theorem wp_app_G {α : Type} {P : Program} {o : Oper} {a : Act} {K : Act → World → Prop} {Q : Exit → Act → World → Prop} {B : Nat} {w0 W : World} {T TS : TypeId} {sz : Nat} {fl : α → List Value} (hf : ∀ x, (fl x).length = sz) (h0 : 0 < sz)
  (hTS : P.underlying TS = some (.slice T)) {zv : Value} {by_ : Nat} (hinfo : (P.info? T).map (fun i => (i.zero, i.size, i.bytes)) = some (some zv, sz, by_)) (hzv : zv.cells.size = sz) (hby : by_ ≤ 1000)
  {v : Value} {L : List α} {z : α} (s x : Operand)
  (ho : o.op = .call { callee := .builtin .append, args := #[s, x], argTypes := #[TS, TS] }) (hs : a.eval s = v) (hown : OwnG T sz fl W B v L) (hbB : w0.heap.size ≤ B) (hBW : B ≤ W.heap.size) (hbw : Below w0.heap.size w0 W) (hone : ∀ u ∈ fl z, u.oneCell' = true)
  {n : Nat} (hx : a.eval x = .slice (some ⟨n, 0, none⟩) 1 1) (hn : n = W.heap.size) (hlen : L.length < 1000000) {cs : Array Value} (hcs : cs = (fl z).toArray)
  (h : ∀ v' w', OwnG T sz fl w' B v' (L ++ [z]) → Below w0.heap.size w0 w' → (∀ b, b < W.heap.size → v.ownBlock ≠ some b → w'.heap[b]? = W.heap[b]?) → W.heap.size ≤ w'.heap.size → K (a.put o.dst v') w') : o.wp P a (W.alloc (.cells cs T)) K Q := by
 subst hn
 subst hcs
 obtain ⟨i0, hi, hz0, hz1, hz2⟩ := info_parts hinfo
 have hl := hf z
 refine wp_append_lies _ s x TS ho B T i0 zv sz by_ hTS hi hz0 hz1 hz2 hzv h0 v L.length (flatG fl L) hs (World.ownsRow.alloc hown _) ⟨W.heap.size, 0, none⟩ 1 1 (fl z) hx (by rw [hl, Nat.one_mul]) ?_ hone (by decide) (by unfold maxLen; omega) ?_ (by simp; omega) _ rfl ?_
 ·intro j u hu
  rw [WideShapes.add_plain]
  simp only [Nat.zero_add]
  rw [World.cell?_alloc_new]
  simpa using hu
 ·have : (L.length + 1) * by_ ≤ 1000001 * 1000 := Nat.mul_le_mul (by omega) hby
  omega
 ·intro g cap w' hown' hg _ _
  have hkeep : ∀ b, b < W.heap.size → v.ownBlock ≠ some b → w'.heap[b]? = W.heap[b]? := fun b hb hne => by
   rw [hg.block b (by simp; omega) (fun e => hne e.symm)]
   exact heap_alloc_old W _ hb
  have hbw' : Below w0.heap.size w0 w' := (hbw.alloc (by omega) _).grown hg (by simp; omega) (fun k hk => by have := (World.ownsRow.lt hown k hk).1; omega)
  refine h _ w' ?_ hbw' hkeep ?_
  ·unfold OwnG
   rw [flatG_append]
   simpa [flatG] using hown'
  ·have := hg.size
   simp at this
   omega
theorem step_app_G {α : Type} {P : Program} {ops : Array Oper} {o : Oper} {a : Act} {K : Act → World → Prop} {Q : Exit → Act → World → Prop} {E : Prop} {B : Nat} {w0 W : World} {T TS : TypeId} {sz : Nat} {fl : α → List Value} (hf : ∀ x, (fl x).length = sz) (h0 : 0 < sz)
  (hTS : P.underlying TS = some (.slice T)) {zv : Value} {by_ : Nat} (hinfo : (P.info? T).map (fun i => (i.zero, i.size, i.bytes)) = some (some zv, sz, by_)) (hzv : zv.cells.size = sz) (hby : by_ ≤ 1000)
  {v : Value} {L : List α} {z : α} (hgd : o.guard = none) (s x : Operand)
  (ho : o.op = .call { callee := .builtin .append, args := #[s, x], argTypes := #[TS, TS] }) (hs : a.eval s = v) (hown : OwnG T sz fl W B v L) (hbB : w0.heap.size ≤ B) (hBW : B ≤ W.heap.size) (hbw : Below w0.heap.size w0 W) (hone : ∀ u ∈ fl z, u.oneCell' = true)
  {n : Nat} (hx : a.eval x = .slice (some ⟨n, 0, none⟩) 1 1) (hn : n = W.heap.size) (hlen : L.length < 1000000) {cs : Array Value} (hcs : cs = (fl z).toArray)
  (h : ∀ v' w', OwnG T sz fl w' B v' (L ++ [z]) → Below w0.heap.size w0 w' → (∀ b, b < W.heap.size → v.ownBlock ≠ some b → w'.heap[b]? = W.heap[b]?) → W.heap.size ≤ w'.heap.size → K (a.put o.dst v') w') :
  if Region.wanted o (yielded ops a.tmps) = true then Oper.wp P o a (W.alloc (.cells cs T)) K Q else E := by
 have hw : Region.wanted o (yielded ops a.tmps) = true := by simp [Region.wanted, hgd]
 rw [if_pos hw]
 exact wp_app_G hf h0 hTS hinfo hzv hby s x ho hs hown hbB hBW hbw hone hx hn hlen hcs h

def Blk (w : World) (b : Nat) (cs : Array Value) (T : TypeId) : Prop := w.heap[b]? = some (.cells cs T (0, 0))
theorem Blk.cell {w : World} {b j : Nat} {cs : Array Value} {T : TypeId} {u : Value} (h : Blk w b cs T) (hu : cs[j]? = some u) : w.cell? ⟨b, j, none⟩ = some u := by
 rw [cell_of_row w b j cs T (0, 0) h]; exact hu
theorem Blk.frz {w : World} {b : Nat} {cs : Array Value} {T : TypeId} (h : Blk w b cs T) (j : Nat) : w.frozen? ⟨b, j, none⟩ = false := frozen_of_row w b j cs T h
theorem Blk.lt {w : World} {b : Nat} {cs : Array Value} {T : TypeId} (h : Blk w b cs T) : b < w.heap.size := (Array.getElem?_eq_some_iff.1 h).1
theorem Blk.below {w w' : World} {b : Nat} {cs : Array Value} {T : TypeId} (h : Blk w b cs T) (hb : Below w.heap.size w w') : Blk w' b cs T := (hb.block b h.lt).trans h
theorem Blk.same {w w' : World} {b : Nat} {cs : Array Value} {T : TypeId} (h : Blk w b cs T) (hb : w'.heap[b]? = w.heap[b]?) : Blk w' b cs T := hb.trans h
theorem Blk.set {w : World} {b j : Nat} {cs : Array Value} {T : TypeId} (h : Blk w b cs T) (u : Value) : Blk (w.setCell ⟨b, j, none⟩ u) b (cs.setIfInBounds j u) T := heap_setCell_same w b j cs T u h
theorem Blk.far {w : World} {b j b' : Nat} {cs : Array Value} {T : TypeId} (h : Blk w b cs T) (hn : b ≠ b') (u : Value) : Blk (w.setCell ⟨b', j, none⟩ u) b cs T := (Below.heap_setCell _ _ _ _ hn).trans h
theorem Blk.new (w : World) (cs : Array Value) (T : TypeId) : Blk (w.alloc (.cells cs T)) w.heap.size cs T := heap_alloc_new w _
theorem set_far {w : World} {b j g : Nat} {u : Value} (h : g ≠ b) : (w.setCell ⟨b, j, none⟩ u).heap[g]? = w.heap[g]? := Below.heap_setCell _ _ _ _ h

end Go.Proofs.YtlbglinpgjlbkaaGreatDoor
namespace Go.Proofs.YtlbglinpgjlbkaaGreatDoor
open Go.RowKit Wk

theorem count_c (c : UInt8) : ∀ (n : Nat) (s : Bs), s.length ≤ n → (splitC c s).length = Lib.countFrom [c] (n + 1) s + 1
 | n, s, hn => by
  obtain ⟨g1, g2⟩ := take_while s c
  rw [Lib.countFrom, index_one, splitC_take]
  by_cases h : s.contains c = true
  ·have hl := drop_lessC c h
   rw [if_pos h, if_pos h, if_neg (by simp)]
   simp only [Int.toNat_natCast, List.length_cons, List.length_nil]
   rw [g2]
   cases n with
   | zero => omega
   | succ n =>
    rw [count_c c n _ (by omega)]
    omega
  ·rw [if_neg h, if_neg h, if_pos (by simp)]
   rfl
theorem parts_any (c : UInt8) (s : ByteArray) (hs : s.size < 4294967281) (w : World) (hg : Glob w) :
  Calls Tryz.prog 116 #[.string s, .string ⟨#[c]⟩] w fun e w' => (∃ a k, e = .returned (.slice (some ⟨a, 0, none⟩) (splitC c (bsO s)).length k) ∧ ∀ i, i < (splitC c (bsO s)).length → w'.cell? ⟨a, i, none⟩ = some (.string ⟨((splitC c (bsO s)).getD i []).toArray⟩)) ∧ Below w.heap.size w w' := by
 obtain ⟨m, hm⟩ := hg
 refine (Tryz.strings_Split s ⟨#[c]⟩ m w hs hm (show 1 ≤ 1 from Nat.le_refl _)).mono ?_
 rintro e w' ⟨rfl, rfl⟩
 have hl : (Lib.splitB ⟨#[c]⟩ 0 (Lib.countB s ⟨#[c]⟩) s).map (fun b => bsO b) = splitC c (bsO s) := by
  have h := Lib.splitB_data ⟨#[c]⟩ 0 (Lib.countB s ⟨#[c]⟩) s
  have e : Lib.splitK [c] 0 (Lib.count (bsO s) [c]) (bsO s) = splitC c (bsO s) := split_c c (bsO s)
  have hc : Lib.countB s ⟨#[c]⟩ = Lib.count (bsO s) [c] := rfl
  rw [hc] at h ⊢
  exact h.trans e
 have hlen : (Lib.splitB ⟨#[c]⟩ 0 (Lib.countB s ⟨#[c]⟩) s).length = (splitC c (bsO s)).length := by rw [← hl, List.length_map]
 have hn : (splitC c (bsO s)).length = Lib.countB s ⟨#[c]⟩ + 1 := count_c c _ _ (Nat.le_refl _)
 refine ⟨⟨w.heap.size, Lib.countB s ⟨#[c]⟩ + 1, by rw [hn], fun i hi => ?_⟩, (Below.refl _ w).alloc (Nat.le_refl _) _⟩
 rw [World.cell?_alloc_new, List.getElem?_toArray, List.getElem?_map]
 have hi2 : i < (Lib.splitB ⟨#[c]⟩ 0 (Lib.countB s ⟨#[c]⟩) s).length := by rw [hlen]; exact hi
 rw [List.getElem?_eq_getElem hi2]
 have hx : (splitC c (bsO s)).getD i [] = bsO (Lib.splitB ⟨#[c]⟩ 0 (Lib.countB s ⟨#[c]⟩) s)[i] := by
  rw [← hl, List.getD_eq_getElem?_getD, List.getElem?_map, List.getElem?_eq_getElem hi2]
  rfl
 rw [hx]
 rfl
theorem part_size (c : UInt8) : ∀ (s : Bs), ∀ l ∈ splitC c s, l.length ≤ s.length
 | [], l, h => by simp [splitC] at h; rw [h]; simp
 | d :: r, l, h => by
  have ih := part_size c r
  unfold splitC at h
  by_cases hc : (d == c) = true
  ·rw [if_pos hc] at h
   rcases List.mem_cons.1 h with rfl | h
   ·simp
   ·have := ih l h
    simp
    omega
  ·rw [if_neg hc] at h
   cases hs : splitC c r with
   | nil => exact absurd hs (splitC_ne c r)
   | cons a b =>
    rw [hs] at h ih
    rcases List.mem_cons.1 h with rfl | h
    ·have := ih a (by simp)
     simp
     omega
    ·have := ih l (by simp [h])
     simp
     omega
def wtP : Nat → Int
 | 0 => 3600
 | 1 => 60
 | _ => 1
def okP (i : Nat) (p : Bs) : Bool := if i = 0 then hourB p else partB p
def totP (LS : List Bs) : Nat → Int
 | 0 => 0
 | i + 1 => totP LS i + (decV (LS.getD i []) : Int) * wtP i
theorem spanL_bad {LS : List Bs} {i : Nat} (hi : i < LS.length) (h : okP i (LS.getD i []) = false) : spanL LS = none := by
 unfold okP at h
 match LS, hi with
 | [a], hi =>
  obtain rfl : i = 0 := by simp at hi; omega
  simp at h
  simp [spanL, h]
 | [a, b], hi =>
  simp at hi
  rcases (by omega : i = 0 ∨ i = 1) with rfl | rfl <;> (simp at h; simp [spanL, h])
 | [a, b, c], hi =>
  simp at hi
  rcases (by omega : i = 0 ∨ i = 1 ∨ i = 2) with rfl | rfl | rfl <;> (simp at h; simp [spanL, h])
 | a :: b :: c :: d :: r, _ => rfl
theorem spanL_long {LS : List Bs} (h : 3 < LS.length) : spanL LS = none := by
 match LS, h with
 | a :: b :: c :: d :: r, _ => rfl
theorem spanL_ok {LS : List Bs} (h1 : 1 ≤ LS.length) (h3 : LS.length ≤ 3) (h : ∀ j, j < LS.length → okP j (LS.getD j []) = true) : ∃ n : Nat, spanL LS = some n ∧ totP LS LS.length = n := by
 match LS, h1, h3 with
 | [a], _, _ =>
  have q0 : hourB a = true := h 0 (by simp)
  refine ⟨3600 * decV a, by simp [spanL, q0], ?_⟩
  simp [totP, wtP]
  omega
 | [a, b], _, _ =>
  have q0 : hourB a = true := h 0 (by simp)
  have q1 : partB b = true := h 1 (by simp)
  refine ⟨3600 * decV a + 60 * decV b, by simp [spanL, q0, q1], ?_⟩
  simp [totP, wtP]
  omega
 | [a, b, c], _, _ =>
  have q0 : hourB a = true := h 0 (by simp)
  have q1 : partB b = true := h 1 (by simp)
  have q2 : partB c = true := h 2 (by simp)
  refine ⟨3600 * decV a + 60 * decV b + decV c, by simp [spanL, q0, q1, q2], ?_⟩
  simp [totP, wtP]
  omega
 | a :: b :: c :: d :: r, _, h3 => simp at h3
theorem spanP_none {s : Bs} (h : spanL (splitC 58 s) = none) : spanP s = (0, false) := by
 unfold spanP
 rw [span_parts, h]
theorem spanP_some {s : Bs} {n : Nat} (h : spanL (splitC 58 s) = some n) : spanP s = ((n : Int), true) := by
 unfold spanP
 rw [span_parts, h]
theorem hour_iff (p : ByteArray) : hourB (bsO p) = true ↔ (1 ≤ p.size ∧ p.size ≤ 2) ∧ (bsO p).all digC = true ∧ ∀ h : 0 < p.size, p.size = 2 → (p[0].toNat : Int) ≠ 48 := by
 unfold hourB
 rw [Bool.and_eq_true, decide_eq_true_eq, whole_ix, bs_len, List.all_eq_true]
 constructor
 ·rintro ⟨⟨h1, h2, h3⟩, h4⟩
  refine ⟨⟨h1, h4⟩, fun x hx => ?_, fun h5 h6 => h3 h5 (by omega)⟩
  obtain ⟨k, hk, rfl⟩ := List.mem_iff_getElem.1 hx
  rw [bs_len] at hk
  rw [bs_at p k hk]
  exact h2 k hk
 ·rintro ⟨⟨h1, h4⟩, h2, h3⟩
  exact ⟨⟨h1, fun k hk => by rw [← bs_at p k hk]; exact h2 _ (List.getElem_mem _), fun h5 h6 => h3 h5 (by omega)⟩, h4⟩
theorem part_iff (p : ByteArray) : partB (bsO p) = true ↔ p.size = 2 ∧ (bsO p).all digC = true ∧ decV (bsO p) ≤ 59 := by
 unfold partB
 rw [Bool.and_eq_true, Bool.and_eq_true, decide_eq_true_eq, decide_eq_true_eq, bs_len, and_assoc]
theorem okP_no {i : Nat} {p : ByteArray} (h : ¬((i = 0 → (1 ≤ p.size ∧ p.size ≤ 2) ∧ (bsO p).all digC = true ∧ ∀ h : 0 < p.size, p.size = 2 → (p[0].toNat : Int) ≠ 48) ∧ (i ≠ 0 → p.size = 2 ∧ (bsO p).all digC = true ∧ decV (bsO p) ≤ 59))) : okP i (bsO p) = false := by
 rw [← Bool.not_eq_true]
 intro q
 apply h
 unfold okP at q
 by_cases hi : i = 0
 ·rw [if_pos hi] at q
  exact ⟨fun _ => (hour_iff p).1 q, fun h => absurd hi h⟩
 ·rw [if_neg hi] at q
  exact ⟨fun h => absurd h hi, fun _ => (part_iff p).1 q⟩

set_option maxRecDepth 100000 in
set_option maxHeartbeats 4000000 in
theorem span_any (s : ByteArray) (hs : s.size < 4294967281) (w : World) (hg : Glob w) :
  Calls Tryz.prog 185 #[.string s] w fun e w' => e = .returned (.tuple #[.int .i64 (spanP (bsO s)).1, .bool (spanP (bsO s)).2]) ∧ Below w.heap.size w w' := by
 obtain ⟨pr, hpr⟩ : ∃ pr, spanP (bsO s) = pr := ⟨_, rfl⟩
 rw [hpr]
 have HP := Lib.hid hpr
 have HSP := Lib.hid (parts_any 58 s hs w hg)
 clear hpr
 go_enter Tryz.func185, Tryz.ntmps185
 obtain ⟨LS, hLS⟩ : ∃ LS, splitC 58 (bsO s) = LS := ⟨_, rfl⟩
 have HPL : Hid (∀ l ∈ LS, l.length ≤ 4294967280) := Lib.hid fun l hl => by
  have := part_size 58 (bsO s) l (by rw [hLS]; exact hl)
  rw [bs_len] at this
  omega
 have hne : 1 ≤ LS.length := by
  have := splitC_ne 58 (bsO s)
  rw [hLS] at this
  exact List.length_pos_iff.2 this
 rw [hLS] at HSP
 have HLS := Lib.hid hLS
 clear hLS
 by_cases h3 : 3 < LS.length
 ·have HN : Hid (spanP (bsO s) = (0, false)) := Lib.hid (spanP_none (by rw [HLS.out]; exact spanL_long h3))
  have g3 : (3 : Int) < LS.length := by omega
  go_wp2_with (first | (go_at_call 116; refine HSP.out.mono ?_; rintro e w1 ⟨⟨ga, gc, rfl, hc⟩, hb⟩; clear hc) | fail)
  go_ret2
  exact ⟨span_ret HP.out HN.out, hb⟩
 have g3 : ¬(3 : Int) < LS.length := by omega
 have g3b : (LS.length : Int) ≤ 3 := by omega
 go_wp2_with (first | (go_at_call 116; refine HSP.out.mono ?_; rintro e w1 ⟨⟨ga, gc, rfl, hc⟩, hb⟩) | fail)
 have HC := Lib.hid hc
 have HB1 := Lib.hid hb
 have HNE := Lib.hid hne
 clear hc hb HSP hne
 go_loopw [5, 6, 7, 8, 9, 17] (fun u5 _ _ _ _ u17 wr => ∃ (i : Nat), u17 = .int .i64 i ∧ i ≤ LS.length ∧ u5 = .int .i64 (totP LS i) ∧ Hid (∀ j, j < i → okP j (LS.getD j []) = true) ∧ Hid (0 ≤ totP LS i ∧ totP LS i ≤ 360000 * i) ∧ Hid (Below w1.heap.size w1 wr)) (fun _ _ _ _ _ u _ => LS.length - (intOf u).toNat)
 case atStart => exact ⟨0, rfl, Nat.zero_le _, rfl, fun j h => absurd h (by omega), ⟨Int.le_refl _, Int.le_refl _⟩, Below.refl _ _⟩
 case round =>
  obtain ⟨i, rfl, hi, rfl, HOK, HT, HBr⟩ := hrel
  by_cases hlt : i < LS.length
  ·obtain ⟨P, hP⟩ : ∃ P : ByteArray, ⟨(LS.getD i []).toArray⟩ = P := ⟨_, rfl⟩
   have hq := keepCell HBr.out (HC.out i hlt)
   rw [hP] at hq
   have HPP : Hid (bsO P = LS.getD i []) := Lib.hid (by rw [← hP])
   have HBAD : Hid (okP i (bsO P) = false → spanP (bsO s) = (0, false)) := Lib.hid fun h => spanP_none (by rw [HLS.out]; exact spanL_bad hlt (by rw [← HPP.out]; exact h))
   have HNX : Hid (okP i (bsO P) = true → (decV (bsO P) : Int) ≤ 99 ∧ totP LS (i + 1) = totP LS i + (decV (bsO P) : Int) * wtP i ∧ ∀ j, j < i + 1 → okP j (LS.getD j []) = true) := Lib.hid fun h => by
    refine ⟨?_, by rw [HPP.out]; rfl, fun j hj => ?_⟩
    ·have : (bsO P).length ≤ 2 ∧ (bsO P).all digC = true := by
      unfold okP at h
      split at h
      ·have := (hour_iff P).1 h
       rw [bs_len]
       exact ⟨this.1.2, this.2.1⟩
      ·have := (part_iff P).1 h
       rw [bs_len]
       exact ⟨by omega, this.2.1⟩
     have := (decV_dig _ this.1 this.2).1
     omega
    ·rcases Nat.lt_or_ge j i with q | q
     ·exact HOK.out j q
     ·obtain rfl : j = i := by omega
      rw [← HPP.out]
      exact h
   have HDB : Hid ((bsO P).length ≤ 2 → ∀ k, ((bsO P).take k).all digC = true → decV ((bsO P).take k) ≤ 99) := Lib.hid fun h k hk => (decV_dig _ (by rw [List.length_take]; omega) hk).1
   have HPS : Hid (P.size ≤ 4294967280) := Lib.hid (by
    have := HPL.out (LS.getD i []) (by rw [List.getD_eq_getElem?_getD, List.getElem?_eq_getElem hlt]; exact List.getElem_mem _)
    rw [← HPP.out, bs_len] at this
    exact this)
   have hps : (P.size : Int) ≤ 4294967280 := by have := HPS.out; omega
   have hib : (i : Int) ≤ 2 := by omega
   clear hP
   obtain ⟨tot, htot⟩ : ∃ t, totP LS i = t := ⟨_, rfl⟩
   rw [htot] at HT HNX ⊢
   have ht0 := HT.out.1
   have ht1 : tot ≤ 720000 := by have := HT.out.2; omega
   clear htot
   by_cases hs1 : P.size < 1
   ·have HNO := Lib.hid (HBAD.out (okP_no fun q => by
     by_cases h0 : i = 0
     ·have := (q.1 h0).1; omega
     ·have := (q.2 h0).1; omega))
    have gs1 : (P.size : Int) < 1 := by omega
    clear hs1
    go_wp2_with fail
    go_ret2
    exact ⟨span_ret HP.out HNO.out, keepBelow HB1.out HBr.out⟩
   have gs1 : ¬(P.size : Int) < 1 := by omega
   by_cases hs2 : 2 < P.size
   ·have HNO := Lib.hid (HBAD.out (okP_no fun q => by
     by_cases h0 : i = 0
     ·have := (q.1 h0).1; omega
     ·have := (q.2 h0).1; omega))
    have gs2 : (2 : Int) < P.size := by omega
    clear hs1 hs2
    go_wp2_with fail
    go_ret2
    exact ⟨span_ret HP.out HNO.out, keepBelow HB1.out HBr.out⟩
   have gs2 : ¬(2 : Int) < P.size := by omega
   by_cases h0 : i = 0
   ·subst h0
    have HS2 : Hid (P.size ≤ 2) := Lib.hid (by omega)
    have HBW := Lib.hid (keepBelow HB1.out HBr.out)
    have hwt : ∀ X : World, (X.alloc (.cells #[.int .i64 3600, .int .i64 60, .int .i64 1] 3)).cell? ⟨X.heap.size, 0, none⟩ = some (.int .i64 3600) := fun X => by simp [go_sem]
    clear hs1 hs2
    go_wp2_with fail
    go_loopw [8, 9, 41] (fun u8 _ u41 wx => ∃ (k n : Nat), u41 = .int .i64 k ∧ u8 = .int .i64 n ∧ k ≤ P.size ∧ Hid (((bsO P).take k).all digC = true) ∧ Hid (n = decV ((bsO P).take k)) ∧ wx = wr) (fun _ _ u _ => P.size - (intOf u).toNat)
    case atStart => exact ⟨0, 0, rfl, rfl, Nat.zero_le _, Lib.hid rfl, Lib.hid rfl, rfl⟩
    case round =>
     obtain ⟨k, n, rfl, rfl, hk, HD, HV, hw⟩ := hrel
     rw [hw]
     clear hw
     have hn9 := HDB.out (by rw [bs_len]; exact HS2.out) k HD.out
     rw [← HV.out] at hn9
     have hnb : (n : Int) ≤ 99 := by omega
     have hkb : (k : Int) ≤ 2 := by have := HS2.out; omega
     by_cases hkt : k < P.size
     ·cases hd : digC P[k] with
      | false =>
       have HNO := Lib.hid (HBAD.out (okP_no fun q => not_dig hd ((q.1 rfl).2.1)))
       go_wp2_with (first | (go_at_call 143; refine (digit_any _ _).mono ?_; rintro e w' ⟨rfl, rfl⟩) | (fail))
       go_ret2
       exact ⟨span_ret HP.out HNO.out, HBW.out⟩
      | true =>
       have hd1 : 48 ≤ (P[k].toNat : Int) := by have := dig_of hd; omega
       have hd2 : (P[k].toNat : Int) ≤ 57 := by have := dig_of hd; omega
       have HT2 : Hid (((10 * n + (P[k].toNat - 48) : Nat)) = decV ((bsO P).take (k + 1))) := by
        rw [take_dig hkt, ← HV.out]
        exact Lib.hid rfl
       have HD2 : Hid (((bsO P).take (k + 1)).all digC = true) := by
        rw [List.take_add_one, List.getElem?_eq_getElem (by rw [bs_len]; exact hkt), bs_at P k hkt, List.all_append, HD.out]
        exact Lib.hid (by simp [hd])
       clear hn9
       go_wp2_with (first | (go_at_call 143; refine (digit_any _ _).mono ?_; rintro e w' ⟨rfl, rfl⟩) | (fail))
       go_roundw
       case rel => exact ⟨k + 1, 10 * n + (P[k].toNat - 48), by go_num, by congr 1; omega, by omega, HD2, HT2, by first | trivial | rfl⟩
       case measure => simp [intOf]; omega
     ·have hke : k = P.size := by omega
      have e : (bsO P).take k = bsO P := List.take_of_length_le (by rw [bs_len]; omega)
      rw [e] at HD HV
      clear e hn9
      by_cases hz : P.size = 2 ∧ ∃ h : 0 < P.size, (P[0].toNat : Int) = 48
      ·obtain ⟨hz2, hz0, hz48⟩ := hz
       have HNO := Lib.hid (HBAD.out (okP_no fun q => (q.1 rfl).2.2 hz0 hz2 hz48))
       have gz : ((P.size : Int) == 2) = true := by rw [hz2]; rfl
       have gz2 : ((P[0].toNat : Int) == 48) = true := by rw [hz48]; rfl
       clear hz48 hz2
       go_wp2_with fail
       go_ret2
       exact ⟨span_ret HP.out HNO.out, HBW.out⟩
      ·have HY := HNX.out (by
        show hourB (bsO P) = true
        exact (hour_iff P).2 ⟨⟨by omega, HS2.out⟩, HD.out, fun h1 h2 h3 => hz ⟨h2, h1, h3⟩⟩)
       rw [← HV.out] at HY
       have HYY := Lib.hid HY
       clear HY
       by_cases hz2 : P.size = 2
       ·have gz : ((P.size : Int) == 2) = true := by rw [hz2]; rfl
        have hp0 : 0 < P.size := by omega
        have gz2 : ((P[0].toNat : Int) == 48) = false := by
         have : ¬(P[0].toNat : Int) = 48 := fun q => hz ⟨hz2, hp0, q⟩
         simpa using this
        clear hz hz2
        go_wp2_with fail
        go_roundw
        case rel => exact ⟨1, by go_num, by omega, by rw [HYY.out.2.1]; rfl, HYY.out.2.2, by rw [HYY.out.2.1]; have := HYY.out.1; have := HT.out; rw [show wtP 0 = 3600 from rfl]; exact ⟨by omega, by omega⟩, keepBelow HBr.out ((Below.refl _ _).alloc (Nat.le_refl _) _)⟩
        case measure => simp [intOf]; omega
       ·have gz : ((P.size : Int) == 2) = false := by simp; omega
        clear hz
        go_wp2_with fail
        go_roundw
        case rel => exact ⟨1, by go_num, by omega, by rw [HYY.out.2.1]; rfl, HYY.out.2.2, by rw [HYY.out.2.1]; have := HYY.out.1; have := HT.out; rw [show wtP 0 = 3600 from rfl]; exact ⟨by omega, by omega⟩, keepBelow HBr.out ((Below.refl _ _).alloc (Nat.le_refl _) _)⟩
        case measure => simp [intOf]; omega
   ·have HI0 := Lib.hid h0
    have gi : (0 : Int) < i := by omega
    have gi2 : ((i : Int) == 0) = false := by simp; omega
    have HBW := Lib.hid (keepBelow HB1.out HBr.out)
    by_cases hs3 : P.size = 2
    ·have HS2 : Hid (P.size ≤ 2) := Lib.hid (by omega)
     have HS3 := Lib.hid hs3
     have gs3 : ((P.size : Int) != 2) = false := by rw [hs3]; rfl
     have hwt : ∀ X : World, (X.alloc (.cells #[.int .i64 3600, .int .i64 60, .int .i64 1] 3)).cell? ⟨X.heap.size, i, none⟩ = some (.int .i64 (wtP i)) := fun X => by
      rcases (by omega : i = 1 ∨ i = 2) with rfl | rfl <;> simp [go_sem, wtP]
     have hw1 : 0 ≤ wtP i := by unfold wtP; split <;> decide
     have hw2 : wtP i ≤ 60 := by rcases (by omega : i = 1 ∨ i = 2) with rfl | rfl <;> decide
     clear hs1 hs2 hs3 h0
     go_wp2_with fail
     go_loopw [8, 9, 41] (fun u8 _ u41 wx => ∃ (k n : Nat), u41 = .int .i64 k ∧ u8 = .int .i64 n ∧ k ≤ P.size ∧ Hid (((bsO P).take k).all digC = true) ∧ Hid (n = decV ((bsO P).take k)) ∧ wx = wr) (fun _ _ u _ => P.size - (intOf u).toNat)
     case atStart => exact ⟨0, 0, rfl, rfl, Nat.zero_le _, Lib.hid rfl, Lib.hid rfl, rfl⟩
     case round =>
      obtain ⟨k, n, rfl, rfl, hk, HD, HV, hw⟩ := hrel
      rw [hw]
      clear hw
      have hn9 := HDB.out (by rw [bs_len]; exact HS2.out) k HD.out
      rw [← HV.out] at hn9
      have hnb : (n : Int) ≤ 99 := by omega
      have hkb : (k : Int) ≤ 2 := by have := HS2.out; omega
      by_cases hkt : k < P.size
      ·cases hd : digC P[k] with
       | false =>
        have HNO := Lib.hid (HBAD.out (okP_no fun q => not_dig hd ((q.2 HI0.out).2.1)))
        go_wp2_with (first | (go_at_call 143; refine (digit_any _ _).mono ?_; rintro e w' ⟨rfl, rfl⟩) | (fail))
        go_ret2
        exact ⟨span_ret HP.out HNO.out, HBW.out⟩
       | true =>
        have hd1 : 48 ≤ (P[k].toNat : Int) := by have := dig_of hd; omega
        have hd2 : (P[k].toNat : Int) ≤ 57 := by have := dig_of hd; omega
        have HT2 : Hid (((10 * n + (P[k].toNat - 48) : Nat)) = decV ((bsO P).take (k + 1))) := by
         rw [take_dig hkt, ← HV.out]
         exact Lib.hid rfl
        have HD2 : Hid (((bsO P).take (k + 1)).all digC = true) := by
         rw [List.take_add_one, List.getElem?_eq_getElem (by rw [bs_len]; exact hkt), bs_at P k hkt, List.all_append, HD.out]
         exact Lib.hid (by simp [hd])
        clear hn9
        go_wp2_with (first | (go_at_call 143; refine (digit_any _ _).mono ?_; rintro e w' ⟨rfl, rfl⟩) | (fail))
        go_roundw
        case rel => exact ⟨k + 1, 10 * n + (P[k].toNat - 48), by go_num, by congr 1; omega, by omega, HD2, HT2, by first | trivial | rfl⟩
        case measure => simp [intOf]; omega
      ·have hke : k = P.size := by omega
       have e : (bsO P).take k = bsO P := List.take_of_length_le (by rw [bs_len]; omega)
       rw [e] at HD HV
       clear e hn9
       by_cases hz : 59 < n
       ·have HNO := Lib.hid (HBAD.out (okP_no fun q => by have := (q.2 HI0.out).2.2; rw [← HV.out] at this; omega))
        have gz : (59 : Int) < n := by omega
        clear hz
        go_wp2_with fail
        go_ret2
        exact ⟨span_ret HP.out HNO.out, HBW.out⟩
       ·have HY := HNX.out (by
         unfold okP
         rw [if_neg HI0.out]
         exact (part_iff P).2 ⟨HS3.out, HD.out, by rw [← HV.out]; omega⟩)
        rw [← HV.out] at HY
        have HYY := Lib.hid HY
        have gz : ¬(59 : Int) < n := by omega
        have hmul : 0 ≤ (n : Int) * wtP i ∧ (n : Int) * wtP i ≤ 5940 := by
         refine ⟨Int.mul_nonneg (by omega) hw1, ?_⟩
         have := Int.mul_le_mul (show (n : Int) ≤ 99 by omega) hw2 hw1 (by omega)
         omega
        have hm1 := hmul.1
        have hm2 := hmul.2
        have HMU := Lib.hid hmul
        clear HY hz hmul
        go_wp2_with fail
        go_roundw
        case rel => exact ⟨i + 1, by go_num, by omega, by rw [HYY.out.2.1], HYY.out.2.2, by rw [HYY.out.2.1]; have := HMU.out; have := HT.out; exact ⟨by omega, by omega⟩, keepBelow HBr.out ((Below.refl _ _).alloc (Nat.le_refl _) _)⟩
        case measure => simp [intOf]; omega
    ·have HNO := Lib.hid (HBAD.out (okP_no fun q => hs3 (q.2 HI0.out).1))
     have gs3 : ((P.size : Int) != 2) = true := by simp; omega
     clear hs1 hs2 hs3
     go_wp2_with fail
     go_ret2
     exact ⟨span_ret HP.out HNO.out, HBW.out⟩
  ·have hie : i = LS.length := by omega
   obtain ⟨n, h1, h2⟩ := spanL_ok (LS := LS) HNE.out (by omega) (by rw [← hie]; exact HOK.out)
   rw [← hie] at h2
   have HNO : Hid (spanP (bsO s) = ((n : Int), true)) := Lib.hid (spanP_some (by rw [HLS.out]; exact h1))
   rw [h2]
   clear h1 h2
   go_wp2_with fail
   go_ret2
   exact ⟨span_ret HP.out HNO.out, keepBelow HB1.out HBr.out⟩
end Go.Proofs.YtlbglinpgjlbkaaGreatDoor
