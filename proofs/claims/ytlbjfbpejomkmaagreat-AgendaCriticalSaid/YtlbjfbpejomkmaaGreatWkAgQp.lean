import Derived.Test.YtlbjfbpejomkmaaGreatWkAgQm
import Derived.Test.YtlbjfbpejomkmaaGreatWkBb
import Derived.ArgAppend
import Derived.Test.YtlbjfbpejomkmaaGreatWkAgPl
import Derived.Test.YtlbjfbpejomkmaaGreatWkPl
import Derived.Test.YtlbjfbpejomkmaaGreatWkAgQa
import Derived.Deep.AppendLies
/- Agenda: a queue of integers: a slice of the call's own that loses its first element. -/
namespace Go.Proofs.YtlbjfbpejomkmaaGreat
open Go.RowKit Wk

structure QueI (w : World) (B : Nat) (v : Value) (L : List Int) : Prop where
 form : ∃ a c, v = .slice a L.length c ∧ L.length ≤ c ∧ (a = none → c = 0) ∧ (∀ ad, a = some ad → B ≤ ad.block ∧ ad.block < w.heap.size) ∧
  (0 < c → ∃ g o cur, a = some ⟨g, o, none⟩ ∧ w.heap[g]? = some (.cells cur 3 (0, 0)) ∧ o + c ≤ cur.size ∧ ∀ i, i < L.length → w.cell? ⟨g, o + i, none⟩ = some (.int .i64 (L.getD i 0)))
theorem QueI.nil (w : World) (B : Nat) : QueI w B (.slice none 0 0) [] := ⟨none, 0, rfl, Nat.le_refl _, fun _ => rfl, (fun _ h => by cases h), fun h => by omega⟩
theorem QueI.below {w w' : World} {B : Nat} {v : Value} {L : List Int} (h : QueI w B v L) (hb : Below w.heap.size w w') : QueI w' B v L := by
 obtain ⟨a, c, e, h1, h2, h3, h4⟩ := h.form
 refine ⟨a, c, e, h1, h2, fun ad ha => ⟨(h3 ad ha).1, Nat.lt_of_lt_of_le (h3 ad ha).2 hb.size⟩, fun hc => ?_⟩
 obtain ⟨g, o, cur, e, h5, h6, h7⟩ := h4 hc
 exact ⟨g, o, cur, e, (hb.block g (Array.getElem?_eq_some_iff.1 h5).1).trans h5, h6, fun i hi => keepCell hb (h7 i hi)⟩
theorem QueI.move {w w' : World} {B : Nat} {v : Value} {L : List Int} (h : QueI w B v L) (hs : w.heap.size ≤ w'.heap.size) (hk : ∀ g, v.ownBlock = some g → w'.heap[g]? = w.heap[g]?) : QueI w' B v L := by
 obtain ⟨a, c, e, h1, h2, h3, h4⟩ := h.form
 refine ⟨a, c, e, h1, h2, fun ad ha => ⟨(h3 ad ha).1, Nat.lt_of_lt_of_le (h3 ad ha).2 hs⟩, fun hc => ?_⟩
 obtain ⟨g, o, cur, ea, h5, h6, h7⟩ := h4 hc
 have hg := hk g (by rw [e, ea]; rfl)
 exact ⟨g, o, cur, ea, hg.trans h5, h6, fun i hi => (World.cell?_of_block (a := ⟨g, o + i, none⟩) hg).trans (h7 i hi)⟩
theorem QueI.lt {w : World} {B : Nat} {v : Value} {L : List Int} (h : QueI w B v L) {k : Nat} (hk : v.ownBlock = some k) : B ≤ k ∧ k < w.heap.size := by
 obtain ⟨a, c, e, -, -, h3, -⟩ := h.form
 cases a with
 | none => rw [e] at hk; simp [Value.ownBlock] at hk
 | some ad =>
  rw [e] at hk
  simp [Value.ownBlock] at hk
  rw [← hk]
  exact h3 ad rfl
theorem OwnI.que {w : World} {B : Nat} {v : Value} {L : List Int} (h : OwnI w B v L) : QueI w B v L := by
 have h' := h
 rcases h.2 with ⟨rfl, h0⟩ | ⟨g, cap, cur, rfl, hB, hg, hn, hcap, hsz, htk⟩
 ·obtain rfl : L = [] := List.eq_nil_of_length_eq_zero h0
  exact QueI.nil _ _
 ·refine ⟨some ⟨g, 0, none⟩, cap, rfl, hn, (fun e => by cases e), (fun ad e => by cases e; exact ⟨hB, (Array.getElem?_eq_some_iff.1 hg).1⟩), fun _ => ⟨g, 0, cur, rfl, hg, by omega, fun i hi => ?_⟩⟩
  rw [Nat.zero_add, World.ownsRow.cellAt h' i (by omega)]
  simp [flatI, List.getElem?_map, List.getElem?_eq_getElem hi, List.getD_eq_getElem?_getD]
theorem QueI.tail {w : World} {B g o c : Nat} {L : List Int} {x : Int} (h : QueI w B (.slice (some ⟨g, o, none⟩) (x :: L).length c) (x :: L)) : QueI w B (.slice (if c = 1 then some ⟨g, o, none⟩ else some ⟨g, o + 1, none⟩) L.length (c - 1)) L := by
 obtain ⟨a, c', e, h1, h2, h3, h4⟩ := h.form
 cases e
 rw [List.length_cons] at h1
 obtain ⟨g', o', cur, e, h5, h6, h7⟩ := h4 (by omega)
 cases e
 have h3 := h3 _ rfl
 by_cases hc : c = 1
 ·rw [if_pos hc]
  have hl : L = [] := List.eq_nil_of_length_eq_zero (by omega)
  subst hl
  exact ⟨_, _, rfl, (by simp), (fun e => by cases e), (fun ad e => by cases e; exact h3), (fun h => by omega)⟩
 ·rw [if_neg hc]
  refine ⟨_, _, rfl, (by omega), (fun e => by cases e), (fun ad e => by cases e; exact h3), fun _ => ⟨g, o + 1, cur, rfl, h5, by omega, fun i hi => ?_⟩⟩
  have := h7 (i + 1) (by rw [List.length_cons]; omega)
  rw [show o + 1 + i = o + (i + 1) by omega, this]
  rfl
theorem wpList_app_que {ops : Array Oper} {rest : List Oper} {o : Oper} {a : Act} {Q : Exit → Act → World → Prop} {B : Nat} {W : World} {v : Value} {L : List Int} {z : Int} (hgd : o.guard = none) (s x : Operand)
  (ho : o.op = .call { callee := .builtin .append, args := #[s, x], argTypes := #[36, 36] }) (hs : a.eval s = v) (hq : QueI W B v L) (hBW : B ≤ W.heap.size)
  {n : Nat} (hx : a.eval x = .slice (some ⟨n, 0, none⟩) 1 1) (hn : n = W.heap.size) (hlen : L.length < 1000000000000)
  (h : ∀ v' w', QueI w' B v' (L ++ [z]) → (W.alloc (.cells #[.int .i64 z] 3)).grownBy w' v.ownBlock → (v'.ownBlock = v.ownBlock ∨ ∃ k, v'.ownBlock = some k ∧ W.heap.size ≤ k) →
   wpList Tryz.prog ops Q rest (a.put o.dst v') w') : wpList Tryz.prog ops Q (o :: rest) a (W.alloc (.cells #[.int .i64 z] 3)) := by
 subst hn
 obtain ⟨i0, hi, hz0, hz1, hz2⟩ := info_parts Tryz.infoInt
 have hq' := hq.below ((Below.refl _ W).alloc (Nat.le_refl _) (.cells #[.int .i64 z] 3))
 have hsz : (W.alloc (.cells #[.int .i64 z] 3)).heap.size = W.heap.size + 1 := by simp
 obtain ⟨ao, c, rfl, h1, h2, h3, h4⟩ := hq'.form
 have hnews : ∀ j u, ([.int .i64 z] : List Value)[j]? = some u → (W.alloc (.cells #[.int .i64 z] 3)).cell? ((⟨W.heap.size, 0, none⟩ : Addr).add j) = some u := by
  intro j u hu
  have hj := (List.getElem?_eq_some_iff.1 hu).1
  have : j = 0 := by simp at hj; exact hj
  subst this
  simp at hu
  subst hu
  rw [WideShapes.add_plain]
  simp
 have hone : ∀ u ∈ ([.int .i64 z] : List Value), u.oneCell' = true := by intro u hu; simp at hu; subst hu; rfl
 by_cases hroom : L.length + 1 ≤ c
 ·obtain ⟨g, off, cur, rfl, h5, h6, h7⟩ := h4 (by omega)
  have h3 := h3 _ rfl
  have hcc : ∀ k, k < c → ∃ u, (W.alloc (.cells #[.int .i64 z] 3)).cell? ⟨g, off + k, none⟩ = some u := fun k hk => by
   rw [cell_of_row _ _ _ _ _ _ h5]
   exact ⟨_, Array.getElem?_eq_getElem (by omega)⟩
  refine wpList_append_arg _ hgd s x 36 ho 3 i0 (.int .i64 0) 1 8 Tryz.underlying36 hi hz0 hz1 hz2 rfl (by decide) g off L.length c (flatI L) hs (by simp [flatI]) (fun j u hu => ?_) ⟨W.heap.size, 0, none⟩ 1 1 [.int .i64 z] hx rfl hnews hone
   (fun _ j hj => ?_) (by unfold maxLen; omega) (by omega) (fun _ => ?_) (fun hc => by omega)
  ·have hj := (List.getElem?_eq_some_iff.1 hu).1
   have hj' : j < L.length := by simpa [flatI] using hj
   rw [h7 j hj']
   simp [flatI, List.getElem?_map, List.getElem?_eq_getElem hj'] at hu
   rw [← hu, List.getD_eq_getElem?_getD, List.getElem?_eq_getElem hj']
   rfl
  ·have hj0 : j = 0 := by simp at hj; exact hj
   subst hj0
   obtain ⟨u, hu⟩ := hcc L.length (by omega)
   rw [Nat.mul_one, Nat.add_zero, hu]
   exact ⟨rfl, by simp [World.frozen?, h5]⟩
  ·rw [Nat.mul_one]
   have hset : (W.alloc (.cells #[.int .i64 z] 3)).setCells g (off + L.length) [.int .i64 z] = (W.alloc (.cells #[.int .i64 z] 3)).setCell ⟨g, off + L.length, none⟩ (.int .i64 z) := rfl
   obtain ⟨cur', h8, h9⟩ := heap_setCells (b := g) [.int .i64 z] (off + L.length) (W.alloc (.cells #[.int .i64 z] 3)) cur 3 (0, 0) h5
   have hgr := grown_setCells (b := g) [.int .i64 z] (off + L.length) (W.alloc (.cells #[.int .i64 z] 3))
   refine h _ _ ⟨some ⟨g, off, none⟩, c, by simp, by simpa using hroom, (fun e => by cases e), (fun ad e => by cases e; exact ⟨h3.1, Nat.lt_of_lt_of_le h3.2 hgr.size⟩), fun _ => ⟨g, off, cur', rfl, h8, by omega, fun i hi => ?_⟩⟩ hgr (Or.inl rfl)
   rw [hset]
   rw [List.length_append, List.length_singleton] at hi
   obtain ⟨u, hu⟩ := hcc L.length (by omega)
   rcases (by omega : i < L.length ∨ i = L.length) with e | e
   ·rw [cell_ne (Or.inr (by omega)), h7 i e]
    simp [List.getD_eq_getElem?_getD, List.getElem?_append_left e]
   ·subst e
    rw [cell_eq hu]
    simp [List.getD_eq_getElem?_getD]
 ·have hcl : c = L.length := by omega
  refine wpList_append_grows _ hgd s x 36 ho 3 i0 (.int .i64 0) 1 8 Tryz.underlying36 hi hz0 hz1 hz2 rfl (by decide) ao L.length c (flatI L) hs (fun e => by have := h2 e; omega) (by simp [flatI]) (fun b e j u hu => ?_) ⟨W.heap.size, 0, none⟩ 1 1 [.int .i64 z] hx rfl hnews hone (by omega) (by unfold maxLen; omega) (by omega) ?_
  ·have hj := (List.getElem?_eq_some_iff.1 hu).1
   have hj' : j < L.length := by simpa [flatI] using hj
   obtain ⟨g, off, cur, e2, h5, h6, h7⟩ := h4 (by omega)
   rw [e] at e2
   cases e2
   rw [WideShapes.add_plain, h7 j hj']
   simp [flatI, List.getElem?_map, List.getElem?_eq_getElem hj'] at hu
   rw [← hu, List.getD_eq_getElem?_getD, List.getElem?_eq_getElem hj']
   rfl
  ·intro v' w' hown hgr
   have hown' : OwnI w' (W.heap.size + 1) v' (L ++ [z]) := by
    unfold OwnI
    rw [hsz] at hown
    simpa [flatI] using hown
   refine h v' w' (OwnI.que (hown'.mono (by omega))) ⟨hgr.os, hgr.tape, hgr.output, hgr.size, fun k hk _ => hgr.block k hk (by simp)⟩ ?_
   rcases hown'.2 with ⟨_, h0⟩ | ⟨g, cap, cur, rfl, hB, _⟩
   ·simp at h0
   ·exact Or.inr ⟨g, rfl, by omega⟩
end Go.Proofs.YtlbjfbpejomkmaaGreat
namespace Go.Proofs.YtlbjfbpejomkmaaGreat
namespace Wk

def lastK (b : List Sp) : Nat → Int
 | 0 => -4398046511104
 | k + 1 => max (lastK b k) (spAt b k).2
def initM (n : Nat) (b : List Sp) : List Bool := (List.range n).map fun i => (spAt b i).2 == lastK b n
theorem initM_len (n : Nat) (b : List Sp) : (initM n b).length = n := by unfold initM; rw [List.length_map, List.length_range]
theorem initM_at {n i : Nat} (b : List Sp) (hi : i < n) : dAt (initM n b) i = ((spAt b i).2 == lastK b n) := by
 unfold initM dAt
 rw [List.getD_eq_getElem?_getD, List.getElem?_map, List.getElem?_range hi]
 rfl
def iO (n : Nat) (lk : Nat → Nat → Bool) (i : Nat) : List (List Bool → List Bool) := (List.range' i (n - i)).flatMap fun i => (List.range n).map fun j => stepK lk i j
def restO (n : Nat) (lk : Nat → Nat → Bool) (i j : Nat) : List (List Bool → List Bool) := ((List.range' j (n - j)).map fun j => stepK lk i j) ++ iO n lk (i + 1)
theorem iO_zero (n : Nat) (lk : Nat → Nat → Bool) : iO n lk 0 = opsK n lk := by unfold iO opsK; rw [Nat.sub_zero, ← List.range_eq_range']
theorem iO_end (n : Nat) (lk : Nat → Nat → Bool) : iO n lk n = [] := by unfold iO; rw [Nat.sub_self]; rfl
theorem iO_step {n i : Nat} (lk : Nat → Nat → Bool) (hi : i < n) : iO n lk i = restO n lk i 0 := by
 unfold iO restO iO
 rw [show n - i = (n - (i + 1)) + 1 by omega, List.range'_succ, List.flatMap_cons, Nat.sub_zero, ← List.range_eq_range']
theorem restO_end (n : Nat) (lk : Nat → Nat → Bool) (i : Nat) : restO n lk i n = iO n lk (i + 1) := by unfold restO; rw [Nat.sub_self]; rfl
theorem restO_step {n j : Nat} (lk : Nat → Nat → Bool) (i : Nat) (hj : j < n) (m : List Bool) : foldK (restO n lk i j) m = foldK (restO n lk i (j + 1)) (stepK lk i j m) := by
 unfold restO foldK
 rw [show n - j = (n - (j + 1)) + 1 by omega, List.range'_succ, List.map_cons, List.cons_append, List.foldl_cons]
theorem stepK_len (lk : Nat → Nat → Bool) (i j : Nat) (m : List Bool) : (stepK lk i j m).length = m.length := by
 unfold stepK
 split
 ·rw [List.length_set]
 ·rfl
theorem dAt_set {m : List Bool} {j : Nat} (hj : j < m.length) (i : Nat) : dAt (m.set j true) i = if i = j then true else dAt m i := by
 unfold dAt
 rw [getD_setL _ _ _ _ _ hj]
def critL (n : Nat) (lk : Nat → Nat → Bool) (b : List Sp) : List Nat := keptL n (dAt (roundsK n lk n (initM n b)))
theorem crit_mem {n : Nat} {lk : Nat → Nat → Bool} {b : List Sp} {i : Nat} : i ∈ critL n lk b ↔ ReachK n lk (fun i => (spAt b i).2 == lastK b n) i := by
 unfold critL
 rw [kept_mem, marks_reach (initM_len n b) (fun i hi => initM_at b hi)]
 exact ⟨fun h => h.2, fun h => ⟨h.lt, h⟩⟩
end Wk
end Go.Proofs.YtlbjfbpejomkmaaGreat
namespace Go.Proofs.YtlbjfbpejomkmaaGreat
namespace Wk

structure BfsK (n : Nat) (lk : Nat → Nat → Bool) (init : Nat → Bool) (out queue : List Nat) (seen : Nat → Bool) (i jj : Nat) : Prop where
 lt : ∀ x ∈ out ++ queue, x < n
 nd : (out ++ queue).Nodup
 mem : ∀ x, seen x = true ↔ x ∈ out ++ queue
 reach : ∀ x ∈ out ++ queue, ReachK n lk init x
 base : ∀ x, x < n → init x = true → seen x = true
 closed : ∀ x ∈ out, ∀ j, j < n → (x ≠ i ∨ j < jj) → lk j x = true → seen j = true
theorem bfs_pop {n : Nat} {lk : Nat → Nat → Bool} {init : Nat → Bool} {out q : List Nat} {seen : Nat → Bool} {i0 i : Nat} (h : BfsK n lk init out (i :: q) seen i0 n) : BfsK n lk init (out ++ [i]) q seen i 0 := by
 have e : out ++ [i] ++ q = out ++ i :: q := by simp
 refine ⟨by rw [e]; exact h.lt, by rw [e]; exact h.nd, by rw [e]; exact h.mem, by rw [e]; exact h.reach, h.base, fun x hx j hj hc hl => ?_⟩
 rcases List.mem_append.1 hx with hx | hx
 ·exact h.closed x hx j hj (Or.inr hj) hl
 ·rw [List.mem_singleton] at hx
  subst hx
  rcases hc with hc | hc
  ·exact absurd rfl hc
  ·omega
theorem bfs_no {n : Nat} {lk : Nat → Nat → Bool} {init : Nat → Bool} {out q : List Nat} {seen : Nat → Bool} {i j : Nat} (h : BfsK n lk init out q seen i j) (hs : seen j = true ∨ lk j i = false) : BfsK n lk init out q seen i (j + 1) := by
 refine ⟨h.lt, h.nd, h.mem, h.reach, h.base, fun x hx k hk hc hl => ?_⟩
 by_cases e : x = i
 ·subst e
  rcases hc with hc | hc
  ·exact absurd rfl hc
  ·rcases (by omega : k < j ∨ k = j) with g | g
   ·exact h.closed x hx k hk (Or.inr g) hl
   ·subst g
    rcases hs with hs | hs
    ·exact hs
    ·rw [hs] at hl; cases hl
 ·exact h.closed x hx k hk (Or.inl e) hl
theorem bfs_yes {n : Nat} {lk : Nat → Nat → Bool} {init : Nat → Bool} {out q : List Nat} {seen : Nat → Bool} {i j : Nat} (h : BfsK n lk init out q seen i j) (hi : i ∈ out) (hj : j < n) (hs : seen j = false) (hl : lk j i = true) : BfsK n lk init out (q ++ [j]) (updK seen j true) i (j + 1) := by
 have e : out ++ (q ++ [j]) = (out ++ q) ++ [j] := by simp
 have hnj : j ∉ out ++ q := fun hm => by rw [(h.mem j).2 hm] at hs; cases hs
 have hmono : ∀ x, seen x = true → updK seen j true x = true := fun x hx => by
  unfold updK
  split
  ·rfl
  ·exact hx
 refine ⟨fun x hx => ?_, ?_, fun x => ?_, fun x hx => ?_, fun x hx hb => hmono x (h.base x hx hb), fun x hx k hk hc hlk => ?_⟩
 ·rw [e] at hx
  rcases List.mem_append.1 hx with hx | hx
  ·exact h.lt x hx
  ·rw [List.mem_singleton] at hx; omega
 ·rw [e, List.nodup_append]
  exact ⟨h.nd, by simp, fun a ha b hb => by rw [List.mem_singleton] at hb; subst hb; exact fun he => hnj (he ▸ ha)⟩
 ·rw [e, List.mem_append, List.mem_singleton, ← h.mem x]
  unfold updK
  by_cases hx : x = j
  ·simp [hx]
  ·simp [hx]
 ·rw [e] at hx
  rcases List.mem_append.1 hx with hx | hx
  ·exact h.reach x hx
  ·rw [List.mem_singleton] at hx
   subst hx
   exact .step (h.reach i (List.mem_append.2 (Or.inl hi))) hj hl
 ·by_cases ex : x = i
  ·subst ex
   rcases hc with hc | hc
   ·exact absurd rfl hc
   ·rcases (by omega : k < j ∨ k = j) with g | g
    ·exact hmono k (h.closed x hx k hk (Or.inr g) hlk)
    ·subst g
     unfold updK
     rw [if_pos rfl]
  ·exact hmono k (h.closed x hx k hk (Or.inl ex) hlk)
theorem bfs_start {n : Nat} {lk : Nat → Nat → Bool} {init : Nat → Bool} {seen : Nat → Bool} (hs : ∀ x, seen x = true ↔ x ∈ keptL n init) : BfsK n lk init [] (keptL n init) seen 0 n :=
 ⟨fun x hx => (kept_mem.1 hx).1, List.Pairwise.filter _ List.nodup_range, hs, fun x hx => .base (kept_mem.1 hx).1 (kept_mem.1 hx).2, fun x hx hb => (hs x).2 (kept_mem.2 ⟨hx, hb⟩), fun x hx => by simp at hx⟩
theorem bfs_len {n : Nat} {lk : Nat → Nat → Bool} {init : Nat → Bool} {out q : List Nat} {seen : Nat → Bool} {i j : Nat} (h : BfsK n lk init out q seen i j) : out.length + q.length ≤ n := by
 have h1 := List.Nodup.length_le_of_subset (l₂ := List.range n) h.nd (fun x hx => List.mem_range.2 (h.lt x hx))
 rw [List.length_append, List.length_range] at h1
 exact h1
theorem kept_pw (n : Nat) (keep : Nat → Bool) : (keptL n keep).Pairwise (· < ·) := List.Pairwise.filter _ List.pairwise_lt_range
theorem sortI_pw (l : List Int) : (sortI l).Pairwise (· ≤ ·) := by
 have h := List.pairwise_mergeSort (le := fun x y : Int => decide (x ≤ y)) (fun a b c h1 h2 => by simp at h1 h2 ⊢; omega) (fun a b => by simp; omega) l
 exact h.imp fun {a b} h => by simpa using h
theorem bfs_end {n : Nat} {lk : Nat → Nat → Bool} {b : List Sp} {out : List Nat} {seen : Nat → Bool} {i : Nat} (h : BfsK n lk (fun i => (spAt b i).2 == lastK b n) out [] seen i n) : sortI (out.map fun k : Nat => (k : Int)) = (critL n lk b).map fun k : Nat => (k : Int) := by
 have hm : ∀ x, x ∈ out ↔ x ∈ critL n lk b := by
  intro x
  rw [crit_mem]
  constructor
  ·intro hx
   exact h.reach x (by simpa using hx)
  ·intro hx
   have : seen x = true := by
    induction hx with
    | base hi hb => exact h.base _ hi hb
    | step hr hj hl ih => exact h.closed _ (by have := (h.mem _).1 ih; simpa using this) _ hj (Or.inr hj) hl
   have := (h.mem x).1 this
   simpa using this
 have hp : out.Perm (critL n lk b) := (List.perm_ext_iff_of_nodup (by have := h.nd; simpa using this) (List.Pairwise.filter _ List.nodup_range)).2 hm
 have hp2 : (sortI (out.map fun k : Nat => (k : Int))).Perm ((critL n lk b).map fun k : Nat => (k : Int)) := (List.mergeSort_perm _ _).trans (hp.map _)
 refine List.Perm.eq_of_pairwise (le := fun x y : Int => x ≤ y) (fun a b _ _ h1 h2 => by omega) (sortI_pw _) ?_ hp2
 rw [List.pairwise_map]
 exact (kept_pw n _).imp fun {a b} h => by omega
end Wk
end Go.Proofs.YtlbjfbpejomkmaaGreat
namespace Go.Proofs.YtlbjfbpejomkmaaGreat
open Go.RowKit Wk Go.Maps

theorem lawI : Keyed Tryz.prog 3 := int_keyed Tryz.underlying3
def KeysF (D : DataW Unit) (seen : Nat → Bool) : Prop := IsMap D ∧ ∀ k : Nat, D.atKey (.int .i64 k) (.lit (.bool false)) = .lit (.bool (seen k))
theorem KeysF.nil : KeysF (.map []) fun _ => false := ⟨isMap_empty, fun _ => rfl⟩
theorem KeysF.put {D : DataW Unit} {seen : Nat → Bool} (h : KeysF D seen) (j : Nat) : KeysF (D.put (.int .i64 (j : Nat)) (.lit (.bool true))) (updK seen j true) := by
 refine ⟨h.1.put _ _, fun k => ?_⟩
 unfold updK
 by_cases e : k = j
 ·subst e
  rw [if_pos rfl]
  exact atKey_put_same h.1 (show WideAt.IsKeyLit (.int .i64 (k : Nat)) from trivial) _ _
 ·rw [if_neg e, atKey_put_other (by intro h; injection h with _ h; omega)]
  exact h.2 k
theorem wfNat {j : Nat} (hj : j ≤ 1000) : (Lit.int .i64 (j : Nat)).wf = true := by
 have e1 : IntKind.i64.min = -9223372036854775808 := by decide
 have e2 : IntKind.i64.max = 9223372036854775807 := by decide
 simp only [Lit.wf, e1, e2, Bool.and_eq_true, decide_eq_true_eq]
 omega
def SeenM (w : World) (bm m : Nat) (seen : Nat → Bool) : Prop := ∃ D, w.ownsMap (H := Unit) Tryz.prog 3 (plainElem Tryz.prog 4) bm m D ∧ KeysF D seen
theorem SeenM.blk {w w' : World} {bm m : Nat} {seen : Nat → Bool} (h : SeenM w bm m seen) (hb : w'.heap[bm]? = w.heap[bm]?) : SeenM w' bm m seen := by
 obtain ⟨D, ⟨es, clock, hb', F, hs, hD⟩, hk⟩ := h
 exact ⟨D, ⟨es, clock, hb.trans hb', F, hs, hD⟩, hk⟩
set_option maxRecDepth 100000 in
theorem SeenM.look {w : World} {bm m : Nat} {seen : Nat → Bool} (h : SeenM w bm m seen) {j : Nat} (hj : j ≤ 1000) : (Instr.lookup 89 (.map (some bm)) (.int .i64 (j : Nat)) false).run Tryz.prog w = .ok (.bool (seen j)) w := by
 obtain ⟨D, hown, hk⟩ := h
 obtain ⟨c, hrun, hat⟩ := owns_lookup_bool hown lawI Tryz.underlying89 Tryz.underlying4 (zeroB w) (keyOf_int_mk Tryz.underlying3 (a := (j : Nat)) (wfNat hj))
 have h3 := (hk.2 j).symm.trans hat
 injection h3 with h3
 injection h3 with h3
 rw [hrun, h3]
structure CrW (w : World) (B bm : Nat) (u v : Value) (out q : List Nat) (m : Nat) (seen : Nat → Bool) (wr : World) : Prop where
 que : QueI wr B u (natI q)
 own : OwnI wr B v (natI out)
 ap : ∀ g, u.ownBlock = some g → v.ownBlock ≠ some g
 map : SeenM wr bm m seen
 below : Below w.heap.size w wr
 sz : w.heap.size ≤ bm ∧ bm < B ∧ B ≤ wr.heap.size
theorem CrW.keep {w : World} {B bm m : Nat} {u v : Value} {out q : List Nat} {seen : Nat → Bool} {wr wr' : World} (h : CrW w B bm u v out q m seen wr) (hb : Below wr.heap.size wr wr') : CrW w B bm u v out q m seen wr' :=
 ⟨h.que.below hb, h.own.below hb, h.ap, h.map.blk (hb.block bm (by have := h.sz; omega)), keepBelow h.below hb, h.sz.1, h.sz.2.1, Nat.le_trans h.sz.2.2 hb.size⟩
theorem CrW.app {w : World} {B bm m j : Nat} {u v v2 : Value} {out q : List Nat} {seen : Nat → Bool} {wr w2 : World} (h : CrW w B bm u v out q m seen wr) (hq : QueI w2 B v2 (natI q ++ [(j : Int)])) (hg : (wr.alloc (.cells #[.int .i64 (j : Nat)] 3)).grownBy w2 u.ownBlock) (hl : v2.ownBlock = u.ownBlock ∨ ∃ k, v2.ownBlock = some k ∧ wr.heap.size ≤ k) : CrW w B bm u v out q m seen (wr.alloc (.cells #[.int .i64 (j : Nat)] 3)) ∧ CrW w B bm v2 v out (q ++ [j]) m seen w2 := by
 have h1 := h.keep ((Below.refl _ wr).alloc (Nat.le_refl _) (.cells #[.int .i64 (j : Nat)] 3))
 have hz := h.sz
 have hn : natI (q ++ [j]) = natI q ++ [(j : Int)] := natI_append q j
 refine ⟨h1, by rw [hn]; exact hq, World.ownsRow.kept h1.own hg ?_, fun g hg1 hg2 => ?_, h1.map.blk (hg.block bm (by have := h1.sz; omega) fun e => by have := (h.que.lt e.symm).1; omega), h1.below.grown hg h1.below.size (fun k hk => by have := (h.que.lt hk).1; omega), hz.1, hz.2.1, Nat.le_trans h1.sz.2.2 hg.size⟩
 ·cases hv : v.ownBlock with
  | none => exact Or.inl rfl
  | some g => exact Or.inr fun e => h.ap g e.symm hv
 ·rcases hl with e | ⟨k, e, hk⟩
  ·exact h.ap g (e ▸ hg1) hg2
  ·rw [e] at hg1
   obtain rfl := Option.some.inj hg1
   have := (h.own.lt _ hg2).2
   omega
theorem CrW.put {w : World} {B bm m j : Nat} {u v : Value} {out q : List Nat} {seen : Nat → Bool} {wr w2 : World} (h : CrW w B bm u v out q m seen wr) (hm : SeenM w2 bm (m + 1) (updK seen j true)) (hg : wr.grownBy w2 (some bm)) : CrW w B bm u v out q (m + 1) (updK seen j true) w2 := by
 have hz := h.sz
 refine ⟨h.que.move hg.size fun g hu => hg.block g (h.que.lt hu).2 fun e => ?_, World.ownsRow.kept h.own hg ?_, h.ap, hm, h.below.grown hg h.below.size (fun k hk => by cases hk; omega), hz.1, hz.2.1, Nat.le_trans hz.2.2 hg.size⟩
 ·cases e
  have := (h.que.lt hu).1
  omega
 ·cases hv : v.ownBlock with
  | none => exact Or.inl rfl
  | some g =>
   refine Or.inr fun e => ?_
   cases e
   have := (h.own.lt bm hv).1
   omega
theorem step_app_out {ops : Array Oper} {o : Oper} {a : Act} {K : Act → World → Prop} {Q : Exit → Act → World → Prop} {E : Prop} {B : Nat} {W : World} {v : Value} {L : List Int} {z : Int} (hgd : o.guard = none) (s x : Operand)
  (ho : o.op = .call { callee := .builtin .append, args := #[s, x], argTypes := #[36, 36] }) (hs : a.eval s = v) (hown : OwnI W B v L) (hBW : B ≤ W.heap.size)
  {n : Nat} (hx : a.eval x = .slice (some ⟨n, 0, none⟩) 1 1) (hn : n = W.heap.size) (hlen : L.length < 1000000000000)
  (h : ∀ v' w', OwnI w' B v' (L ++ [z]) → (W.alloc (.cells #[.int .i64 z] 3)).grownBy w' v.ownBlock → (∀ k, v'.ownBlock = some k → v.ownBlock = some k ∨ k = W.heap.size + 1) → K (a.put o.dst v') w') :
  if Region.wanted o (yielded ops a.tmps) = true then Oper.wp Tryz.prog o a (W.alloc (.cells #[.int .i64 z] 3)) K Q else E := by
 subst hn
 have hw : Region.wanted o (yielded ops a.tmps) = true := by simp [Region.wanted, hgd]
 rw [if_pos hw]
 obtain ⟨i0, hi, hz0, hz1, hz2⟩ := info_parts Tryz.infoInt
 refine wp_append_lies _ s x 36 ho B 3 i0 (.int .i64 0) 1 8 Tryz.underlying36 hi hz0 hz1 hz2 rfl (by decide) v L.length (flatI L) hs (hown.alloc _) ⟨W.heap.size, 0, none⟩ 1 1 [.int .i64 z] hx rfl ?_ ?_ (by decide) (by unfold maxLen; omega) (by omega) (by simp; omega) _ rfl ?_
 ·intro j u hu
  have hj := (List.getElem?_eq_some_iff.1 hu).1
  have : j = 0 := by simp at hj; exact hj
  subst this
  simp at hu
  subst hu
  rw [WideShapes.add_plain]
  simp
 ·intro u hu; simp at hu; subst hu; rfl
 ·intro g cap w' hown' hg hl _
  refine h _ w' ?_ hg ?_
  ·unfold OwnI
   simpa [flatI] using hown'
  ·intro k hk
   simp [Value.ownBlock] at hk
   subst hk
   rcases hl with e | e
   ·exact Or.inl e
   ·exact Or.inr (by simpa using e)
theorem CrW.pop {w : World} {B bm m i g o c : Nat} {v v2 : Value} {out q : List Nat} {seen : Nat → Bool} {wr W w2 : World} (h : CrW w B bm (.slice (some ⟨g, o, none⟩) (q.length + 1) c) v out (i :: q) m seen wr) (hb : Below wr.heap.size wr W)
  (ho : OwnI w2 B v2 (natI out ++ [(i : Int)])) (hg : (W.alloc (.cells #[.int .i64 (i : Nat)] 3)).grownBy w2 v.ownBlock) (hl : ∀ k, v2.ownBlock = some k → v.ownBlock = some k ∨ k = W.heap.size + 1) :
  CrW w B bm (.slice (if c = 1 then some ⟨g, o, none⟩ else some ⟨g, o + 1, none⟩) q.length (c - 1)) v2 (out ++ [i]) q m seen w2 := by
 have h1 := (h.keep hb).keep ((Below.refl _ W).alloc (Nat.le_refl _) (.cells #[.int .i64 (i : Nat)] 3))
 have hq1 : QueI (W.alloc (.cells #[.int .i64 (i : Nat)] 3)) B (.slice (if c = 1 then some ⟨g, o, none⟩ else some ⟨g, o + 1, none⟩) (natI q).length (c - 1)) (natI q) := by
  have e : (.slice (some ⟨g, o, none⟩) (q.length + 1) c : Value) = .slice (some ⟨g, o, none⟩) ((i : Int) :: natI q).length c := by rw [List.length_cons, natI_length]
  have h2 := h1.que
  rw [e] at h2
  exact QueI.tail (x := (i : Int)) h2
 rw [natI_length] at hq1
 have hgo : (Value.slice (if c = 1 then some ⟨g, o, none⟩ else some ⟨g, o + 1, none⟩) q.length (c - 1)).ownBlock = some g := by split <;> rfl
 have hgl := h1.que.lt (k := g) rfl
 have hap := h.ap g rfl
 have hz := h1.sz
 have hn : natI (out ++ [i]) = natI out ++ [(i : Int)] := natI_append out i
 refine ⟨hq1.move hg.size fun k hk => ?_, by rw [hn]; exact ho, fun k hk hk2 => ?_, h1.map.blk (hg.block bm (by omega) fun e => by have := (h.own.lt bm e.symm).1; omega), h1.below.grown hg h1.below.size (fun k hk => by have := (h.own.lt k hk).1; omega), hz.1, hz.2.1, Nat.le_trans hz.2.2 hg.size⟩
 ·rw [hgo] at hk
  cases hk
  exact hg.block g hgl.2 fun e => hap e.symm
 ·rw [hgo] at hk
  cases hk
  rcases hl g hk2 with e | e
  ·exact hap e
  ·have := hgl.2
   have hs : (W.alloc (.cells #[.int .i64 (i : Nat)] 3)).heap.size = W.heap.size + 1 := by simp
   omega
end Go.Proofs.YtlbjfbpejomkmaaGreat
