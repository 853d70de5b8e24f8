import Derived.Test.YtlbjfbpejomkmaaGreatWkAgQd
import Derived.Test.YtlbjfbpejomkmaaGreatWkAgPl
import Derived.Test.YtlbjfbpejomkmaaGreatWkAgQf
/- slices.Equal of integers. -/
namespace Go.Proofs.YtlbjfbpejomkmaaGreat
open Go.RowKit Wk

theorem OwnI.rdJ {w : World} {B : Nat} {v : Value} {L : List Int} (h : OwnI w B v L) (hl : L.length ≤ 1152921504606846976) : RdJ w v L := by
 obtain ⟨a, c, rfl, hc⟩ := h.form
 refine ⟨a, c, rfl, hl, fun i hi => ?_⟩
 obtain ⟨g, rfl, _, c1⟩ := hc i hi
 exact ⟨g, 0, rfl, by rw [Nat.zero_add]; exact c1⟩
end Go.Proofs.YtlbjfbpejomkmaaGreat
namespace Go.Proofs.YtlbjfbpejomkmaaGreat
open Go.RowKit Wk

def flatK (L : List Kv) : List Value := L.flatMap fun x => [.string x.1.nm, .int .i64 x.1.wk, .int .i64 x.1.rs, x.2, .int .i64 x.1.du]
theorem flatK_length (L : List Kv) : (flatK L).length = L.length * 5 := by
 induction L with
 | nil => rfl
 | cons s r ih => simp only [flatK, List.flatMap_cons, List.length_append, List.length_cons, List.length_nil] at *; omega
theorem flatK_append (a b : List Kv) : flatK (a ++ b) = flatK a ++ flatK b := by simp [flatK]
theorem flatK_get : ∀ (l : List Kv) (i : Nat), i < l.length → (flatK l)[i * 5]? = some (.string (l.getD i kv0).1.nm) ∧ (flatK l)[i * 5 + 1]? = some (.int .i64 (l.getD i kv0).1.wk) ∧ (flatK l)[i * 5 + 2]? = some (.int .i64 (l.getD i kv0).1.rs) ∧ (flatK l)[i * 5 + 3]? = some (l.getD i kv0).2 ∧ (flatK l)[i * 5 + 4]? = some (.int .i64 (l.getD i kv0).1.du)
 | [], i, h => by simp at h
 | s :: r, 0, _ => by simp [flatK]
 | s :: r, i + 1, h => by
  have ih := flatK_get r i (by simpa using h)
  have e : flatK (s :: r) = .string s.1.nm :: .int .i64 s.1.wk :: .int .i64 s.1.rs :: s.2 :: .int .i64 s.1.du :: flatK r := rfl
  rw [e, show (i + 1) * 5 = i * 5 + 1 + 1 + 1 + 1 + 1 by omega]
  simpa using ih
structure OwnK (w : World) (B : Nat) (v : Value) (L : List Kv) : Prop where
 row : w.ownsRow B 44 5 v L.length (flatK L)
 af : ∀ i, i < L.length → OwnI w B (L.getD i kv0).2 (L.getD i kv0).1.af
theorem OwnK.nil (w : World) (B : Nat) : OwnK w B (.slice none 0 0) [] := ⟨World.ownsRow_nil _ _ _ _, fun i hi => by simp at hi⟩
theorem OwnK.below {w w' : World} {B : Nat} {v : Value} {L : List Kv} (h : OwnK w B v L) (hb : Below w.heap.size w w') : OwnK w' B v L := by
 refine ⟨⟨h.row.1, ?_⟩, fun i hi => (h.af i hi).below hb⟩
 rcases h.row.2 with hn | ⟨g, cap, cur, rfl, hbb, hgg, rest⟩
 ·exact .inl hn
 ·exact .inr ⟨g, cap, cur, rfl, hbb, (hb.block g (Array.getElem?_eq_some_iff.1 hgg).1).trans hgg, rest⟩
theorem OwnK.setCell {w : World} {B : Nat} {v : Value} {L : List Kv} (h : OwnK w B v L) {b o : Nat} (hb : b < B) (u : Value) : OwnK (w.setCell ⟨b, o, none⟩ u) B v L :=
 ⟨ownsRow_setCell_below h.row hb u, fun i hi => (h.af i hi).setCell hb u⟩
theorem OwnK.mono {w : World} {B B' : Nat} {v : Value} {L : List Kv} (h : OwnK w B v L) (hB : B' ≤ B) : OwnK w B' v L := by
 refine ⟨⟨h.row.1, ?_⟩, fun i hi => (h.af i hi).mono hB⟩
 rcases h.row.2 with hn | ⟨g, cap, cur, rfl, hbb, rest⟩
 ·exact .inl hn
 ·exact .inr ⟨g, cap, cur, rfl, by omega, rest⟩
theorem OwnK.rd {w : World} {B : Nat} {v : Value} {L : List Kv} (h : OwnK w B v L) (hl : L.length ≤ 1000000) (ha : ∀ i, i < L.length → (L.getD i kv0).1.af.length ≤ 1000000) : RdK w v L := by
 have h' := h.row
 rcases h.row.2 with ⟨rfl, h0⟩ | ⟨g, cap, cur, rfl, _⟩
 ·obtain rfl : L = [] := List.eq_nil_of_length_eq_zero h0
  exact ⟨none, 0, rfl, by simp, fun i hi => by simp at hi⟩
 ·refine ⟨some ⟨g, 0, none⟩, cap, rfl, by omega, fun i hi => ⟨(h.af i hi).rdJ (by have := ha i hi; omega), g, 0, rfl, ?_⟩⟩
  obtain ⟨q0, q1, q2, q3, q4⟩ := flatK_get L i hi
  unfold Cells5
  rw [Nat.zero_add, World.ownsRow.cellAt h' (i * 5) (by omega), World.ownsRow.cellAt h' (i * 5 + 1) (by omega), World.ownsRow.cellAt h' (i * 5 + 2) (by omega), World.ownsRow.cellAt h' (i * 5 + 3) (by omega), World.ownsRow.cellAt h' (i * 5 + 4) (by omega)]
  exact ⟨q0, q1, q2, q3, q4⟩
theorem OwnK.form {w : World} {B : Nat} {v : Value} {L : List Kv} (h : OwnK w B v L) : ∃ a c, v = .slice a L.length c := by
 rcases h.row.2 with ⟨rfl, h0⟩ | ⟨g, cap, cur, rfl, _⟩
 ·exact ⟨none, 0, by rw [h0]⟩
 ·exact ⟨_, _, rfl⟩
theorem Tryz.infoTask : (Tryz.prog.info? 44).map (fun i => (i.zero, i.size, i.bytes)) = some (some (.agg #[.string ⟨#[]⟩, .int .i64 0, .int .i64 0, .slice none 0 0, .int .i64 0]), 5, 64) := by kernel_rfl
theorem own_apart {w : World} {B B' : Nat} {v u : Value} {n m : Nat} {xs ys : List Value} (h : w.ownsRow B 44 5 v n xs) (h' : w.ownsRow B' 3 1 u m ys) : u.ownBlock = none ∨ u.ownBlock ≠ v.ownBlock := by
 rcases h.2 with ⟨rfl, _⟩ | ⟨g, cap, cur, rfl, _, hg, _⟩
 ·rcases h'.2 with ⟨rfl, _⟩ | ⟨g', cap', cur', rfl, _, hg', _⟩
  ·exact .inl rfl
  ·exact .inr (by simp [Value.ownBlock])
 ·rcases h'.2 with ⟨rfl, _⟩ | ⟨g', cap', cur', rfl, _, hg', _⟩
  ·exact .inl rfl
  ·refine .inr fun e => ?_
   simp [Value.ownBlock] at e
   subst e
   rw [hg] at hg'
   simp at hg'
theorem wpList_app_task {ops : Array Oper} {rest : List Oper} {o : Oper} {a : Act} {Q : Exit → Act → World → Prop} {B : Nat} {w0 W : World} {v : Value} {L : List Kv} {z : Kv} (hgd : o.guard = none) (s x : Operand)
  (ho : o.op = .call { callee := .builtin .append, args := #[s, x], argTypes := #[22, 22] }) (hs : a.eval s = v) (hown : OwnK W B v L) (hbB : w0.heap.size ≤ B) (hBW : B ≤ W.heap.size) (hbw : Below w0.heap.size w0 W) (hz : OwnI W B z.2 z.1.af)
  {n : Nat} (hx : a.eval x = .slice (some ⟨n, 0, none⟩) 1 1) (hn : n = W.heap.size) (hlen : L.length < 1000000)
  (h : ∀ v' w', OwnK w' B v' (L ++ [z]) → Below w0.heap.size w0 w' → (∀ b off, b < W.heap.size → v.ownBlock ≠ some b → w'.cell? ⟨b, off, none⟩ = W.cell? ⟨b, off, none⟩ ∧ w'.frozen? ⟨b, off, none⟩ = W.frozen? ⟨b, off, none⟩) → W.heap.size ≤ w'.heap.size →
   wpList Tryz.prog ops Q rest (a.put o.dst v') w') : wpList Tryz.prog ops Q (o :: rest) a (W.alloc (.cells #[.string z.1.nm, .int .i64 z.1.wk, .int .i64 z.1.rs, z.2, .int .i64 z.1.du] 44)) := by
 subst hn
 obtain ⟨i0, hi, hz0, hz1, hz2⟩ := info_parts Tryz.infoTask
 have hz2' : ∃ p q r, z.2 = .slice p q r := by
  obtain ⟨p, q, e, _⟩ := hz.form
  exact ⟨_, _, _, e⟩
 refine wpList_append_own _ hgd s x 22 ho B 44 i0 (.agg #[.string ⟨#[]⟩, .int .i64 0, .int .i64 0, .slice none 0 0, .int .i64 0]) 5 64 Tryz.underlying22 hi hz0 hz1 hz2 rfl (by decide) v L.length (flatK L) hs (hown.row.alloc _) ⟨W.heap.size, 0, none⟩ 1 1 [.string z.1.nm, .int .i64 z.1.wk, .int .i64 z.1.rs, z.2, .int .i64 z.1.du] hx rfl ?_ ?_ (by unfold maxLen; omega) (by omega) (by simp; omega) ?_
 ·intro j u hu
  have hj := (List.getElem?_eq_some_iff.1 hu).1
  rw [WideShapes.add_plain]
  simp at hj
  rcases (by omega : j = 0 ∨ j = 1 ∨ j = 2 ∨ j = 3 ∨ j = 4) with rfl | rfl | rfl | rfl | rfl <;> (simp at hu; subst hu; simp)
 ·intro u hu
  obtain ⟨p, q, r, e⟩ := hz2'
  rw [e] at hu
  simp at hu
  rcases hu with rfl | rfl | rfl | rfl | rfl <;> rfl
 ·intro v' w' hown' hg _
  have hkeep : ∀ b, b < W.heap.size → v.ownBlock ≠ some b → w'.heap[b]? = W.heap[b]? := fun b hb hne => by
   rw [hg.block b (by simp; omega) (fun e => hne e.symm)]
   exact heap_alloc_old W _ hb
  have hbw' : Below w0.heap.size w0 w' := (hbw.alloc (by omega) _).grown hg (by simp; omega) (fun k hk => by have := (World.ownsRow.lt hown.row k hk).1; omega)
  have hkI : ∀ u l, OwnI W B u l → OwnI w' B u l := fun u l hu => World.ownsRow.kept (World.ownsRow.alloc hu _) hg (own_apart hown.row hu)
  refine h v' w' ⟨?_, ?_⟩ hbw' (fun b off hb hne => ?_) ?_
  ·rw [flatK_append]
   simpa [flatK] using hown'
  ·intro i hi
   simp only [List.length_append, List.length_singleton] at hi
   rcases (by omega : i < L.length ∨ i = L.length) with g | g
   ·rw [show (L ++ [z]).getD i kv0 = L.getD i kv0 by simp [List.getD_eq_getElem?_getD, List.getElem?_append_left g]]
    exact hkI _ _ (hown.af i g)
   ·subst g
    rw [show (L ++ [z]).getD L.length kv0 = z by simp [List.getD_eq_getElem?_getD]]
    exact hkI _ _ hz
  ·exact ⟨World.cell?_of_block (hkeep b hb hne), World.frozen?_of_block (hkeep b hb hne)⟩
  ·have := hg.size; simp at this; omega
theorem wpList_app_intB {ops : Array Oper} {rest : List Oper} {o : Oper} {a : Act} {Q : Exit → Act → World → Prop} {B : Nat} {w0 W : World} {v : Value} {L : List Int} {z : Int} (hgd : o.guard = none) (s x : Operand)
  (ho : o.op = .call { callee := .builtin .append, args := #[s, x], argTypes := #[36, 36] }) (hs : a.eval s = v) (hown : OwnI W B v L) (hbB : w0.heap.size ≤ B) (hBW : B ≤ W.heap.size) (hbw : Below w0.heap.size w0 W)
  {n : Nat} (hx : a.eval x = .slice (some ⟨n, 0, none⟩) 1 1) (hn : n = W.heap.size) (hlen : L.length < 1000000000000)
  (h : ∀ v' w', OwnI w' B v' (L ++ [z]) → Below w0.heap.size w0 w' → (∀ b off, b < W.heap.size → v.ownBlock ≠ some b → w'.cell? ⟨b, off, none⟩ = W.cell? ⟨b, off, none⟩ ∧ w'.frozen? ⟨b, off, none⟩ = W.frozen? ⟨b, off, none⟩) → W.heap.size ≤ w'.heap.size →
   wpList Tryz.prog ops Q rest (a.put o.dst v') w') : wpList Tryz.prog ops Q (o :: rest) a (W.alloc (.cells #[.int .i64 z] 3)) := by
 subst hn
 obtain ⟨i0, hi, hz0, hz1, hz2⟩ := info_parts Tryz.infoInt
 refine wpList_append_own _ hgd s x 36 ho B 3 i0 (.int .i64 0) 1 8 Tryz.underlying36 hi hz0 hz1 hz2 rfl (by decide) v L.length (flatI L) hs (hown.alloc _) ⟨W.heap.size, 0, none⟩ 1 1 [.int .i64 z] hx rfl ?_ ?_ (by unfold maxLen; omega) (by omega) (by simp; omega) ?_
 ·intro j u hu
  have hj := (List.getElem?_eq_some_iff.1 hu).1
  have : j = 0 := by simp at hj; exact hj
  subst this
  simp at hu
  subst hu
  rw [WideShapes.add_plain]
  simp
 ·intro u hu; simp at hu; subst hu; rfl
 ·intro v' w' hown' hg _
  have hkeep : ∀ b, b < W.heap.size → v.ownBlock ≠ some b → w'.heap[b]? = W.heap[b]? := fun b hb hne => by
   rw [hg.block b (by simp; omega) (fun e => hne e.symm)]
   exact heap_alloc_old W _ hb
  refine h v' w' ?_ ?_ (fun b off hb hne => ⟨World.cell?_of_block (hkeep b hb hne), World.frozen?_of_block (hkeep b hb hne)⟩) ?_
  ·unfold OwnI
   simpa [flatI] using hown'
  ·exact (hbw.alloc (by omega) _).grown hg (by simp; omega) (fun k hk => by have := (hown.lt k hk).1; omega)
  ·have := hg.size; simp at this; omega
end Go.Proofs.YtlbjfbpejomkmaaGreat
namespace Go.Proofs.YtlbjfbpejomkmaaGreat
namespace Wk

theorem afB_mem {i : Nat} {af : List Int} : afB i af = true ↔ (∀ j ∈ af, 0 ≤ j ∧ j < i) ∧ af.Pairwise (· < ·) := by
 unfold afB
 simp only [Bool.and_eq_true, Bool.or_eq_true, beq_iff_eq, decide_eq_true_eq, List.all_eq_true, List.mem_range]
 constructor
 ·intro h
  refine ⟨fun j hj => ?_, ?_⟩
  ·obtain ⟨k, hk, rfl⟩ := List.getElem_of_mem hj
   have := (h k hk).1
   rw [List.getD_eq_getElem?_getD, List.getElem?_eq_getElem hk] at this
   exact this
  ·rw [List.pairwise_iff_getElem]
   intro a b ha hb hab
   have hs : ∀ d, a + d + 1 < af.length → af.getD a 0 < af.getD (a + d + 1) 0 := by
    intro d
    induction d with
    | zero =>
     intro hd
     rcases (h (a + 0 + 1) hd).2 with e | e
     ·omega
     ·exact e
    | succ d ih =>
     intro hd
     have := ih (by omega)
     rcases (h (a + (d + 1) + 1) hd).2 with e | e
     ·omega
     ·rw [show a + (d + 1) + 1 - 1 = a + d + 1 by omega] at e
      omega
   have := hs (b - a - 1) (by omega)
   rw [show a + (b - a - 1) + 1 = b by omega, List.getD_eq_getElem?_getD, List.getElem?_eq_getElem ha, List.getD_eq_getElem?_getD, List.getElem?_eq_getElem hb] at this
   exact this
 ·rintro ⟨h1, h2⟩ k hk
  rw [List.pairwise_iff_getElem] at h2
  have hg : ∀ m, m < af.length → af.getD m 0 = af[m]?.getD 0 := fun m _ => List.getD_eq_getElem?_getD ..
  refine ⟨?_, ?_⟩
  ·rw [hg k hk, List.getElem?_eq_getElem hk]
   exact h1 _ (List.getElem_mem hk)
  ·rcases Nat.eq_zero_or_pos k with e | e
   ·exact Or.inl e
   ·right
    rw [hg k hk, hg (k - 1) (by omega), List.getElem?_eq_getElem hk, List.getElem?_eq_getElem (show k - 1 < af.length by omega)]
    exact h2 (k - 1) k (by omega) hk (by omega)
theorem af_len {i : Nat} {af : List Int} (h : afB i af = true) : af.length ≤ i := by
 obtain ⟨h1, h2⟩ := afB_mem.1 h
 rw [List.pairwise_iff_getElem] at h2
 have hs : ∀ k (hk : k < af.length), (k : Int) ≤ af[k] := by
  intro k
  induction k with
  | zero => intro hk; exact (h1 _ (List.getElem_mem hk)).1
  | succ k ih =>
   intro hk
   have := ih (by omega)
   have := h2 k (k + 1) (by omega) hk (by omega)
   omega
 rcases Nat.eq_zero_or_pos af.length with e | e
 ·omega
 ·have := hs (af.length - 1) (by omega)
  have := (h1 _ (List.getElem_mem (show af.length - 1 < af.length by omega))).2
  omega
theorem okT_parts {l : List Tk} {n i : Nat} : okT l n i = true ↔ (1 ≤ (tkAt l i).nm.size ∧ (tkAt l i).nm.size ≤ 30 ∧ (∀ k, k < i → (tkAt l k).nm ≠ (tkAt l i).nm) ∧ 1 ≤ (tkAt l i).wk ∧ (tkAt l i).wk ≤ 4398046511104 ∧ 0 ≤ (tkAt l i).rs ∧ (tkAt l i).rs < n ∧ lineB (tkAt l i).du = true ∧ afB i (tkAt l i).af = true) := by
 unfold okT
 simp only [Bool.and_eq_true, decide_eq_true_eq, List.all_eq_true, List.mem_range]
 constructor
 ·rintro ⟨⟨⟨⟨⟨⟨⟨⟨h1, h2⟩, h3⟩, h4⟩, h5⟩, h6⟩, h7⟩, h8⟩, h9⟩
  exact ⟨h1, h2, h3, h4, h5, h6, h7, h8, h9⟩
 ·rintro ⟨h1, h2, h3, h4, h5, h6, h7, h8, h9⟩
  exact ⟨⟨⟨⟨⟨⟨⟨⟨h1, h2⟩, h3⟩, h4⟩, h5⟩, h6⟩, h7⟩, h8⟩, h9⟩
theorem vld_ok {l : List Tk} {res : List St} (h : vldM l res = true) : ∀ i, i < l.length → okT l res.length i = true := by
 unfold vldM at h
 simp only [Bool.and_eq_true, List.all_eq_true, List.mem_range, decide_eq_true_eq] at h
 exact h.2
theorem some_vld {l : List Tk} {res : List St} {keep : Nat → Bool} (h : vldM l res = true) : vldM (someM l keep) res = true := by
 have ho := vld_ok h
 unfold vldM at h ⊢
 simp only [Bool.and_eq_true, List.all_eq_true, List.mem_range, decide_eq_true_eq] at h ⊢
 refine ⟨⟨⟨by have := some_le l keep; omega, h.1.1.2⟩, h.1.2⟩, fun m hm => ?_⟩
 obtain ⟨i, hi, hk, hn, he⟩ := some_at hm
 obtain ⟨o1, o2, o3, o4, o5, o6, o7, o8, o9⟩ := okT_parts.1 (ho i hi)
 refine okT_parts.2 ?_
 rw [he]
 refine ⟨o1, o2, fun k hkm => ?_, o4, o5, o6, o7, o8, ?_⟩
 ·obtain ⟨i', hi', hk', hn', he'⟩ := some_at (l := l) (keep := keep) (m := k) (by omega)
  rw [he']
  have hlt : i' < i := by
   rcases (by omega : i' < i ∨ i' = i ∨ i < i') with g | g | g
   ·exact g
   ·subst g; omega
   ·have := num_lt hk g; omega
  exact o3 i' hlt
 ·obtain ⟨a1, a2⟩ := afB_mem.1 o9
  refine afB_mem.2 ⟨fun j hj => ?_, ?_⟩
  ·obtain ⟨j0, hj0, rfl⟩ := List.mem_map.1 hj
   obtain ⟨hj1, hj2⟩ := List.mem_filter.1 hj0
   obtain ⟨g1, g2⟩ := a1 j0 hj1
   have := num_lt (i := i) hj2 (by omega)
   omega
  ·show (((tkAt l i).af.filter fun j => keep j.toNat).map fun j => (numK keep j.toNat : Int)).Pairwise (· < ·)
   rw [List.pairwise_map, List.pairwise_filter]
   refine a2.imp_of_mem fun {a b} ha hb hab h1 h2 => ?_
   have h1' := (a1 a ha).1
   have h2' := (a1 b hb).1
   have := num_lt (i := b.toNat) h1 (by omega)
   omega
def wnL (l : List Tk) (keep : Nat → Bool) (k : Nat) : List Tk := (keptL k keep).map (tkCut l keep)
theorem wnL_succ (l : List Tk) (keep : Nat → Bool) (k : Nat) : wnL l keep (k + 1) = if keep k = true then wnL l keep k ++ [tkCut l keep k] else wnL l keep k := by
 unfold wnL
 rw [kept_succ]
 split <;> simp
theorem wnL_len (l : List Tk) (keep : Nat → Bool) (k : Nat) : (wnL l keep k).length = numK keep k := by unfold wnL numK; rw [List.length_map]
theorem numK_le (keep : Nat → Bool) (k : Nat) : numK keep k ≤ k := by
 unfold numK keptL
 have := List.length_filter_le keep (List.range k)
 rwa [List.length_range] at this
def afK (af : List Int) (keep : Nat → Bool) (q : Nat) : List Int := ((af.take q).filter fun j => keep j.toNat).map fun j => (numK keep j.toNat : Int)
theorem afK_succ (af : List Int) (keep : Nat → Bool) {q : Nat} (hq : q < af.length) : afK af keep (q + 1) = if keep (af.getD q 0).toNat = true then afK af keep q ++ [(numK keep (af.getD q 0).toNat : Int)] else afK af keep q := by
 unfold afK
 rw [List.take_add_one, List.getElem?_eq_getElem hq, List.getD_eq_getElem?_getD, List.getElem?_eq_getElem hq]
 simp only [Option.toList_some, List.filter_append, List.map_append, Option.getD_some]
 by_cases h : keep (af[q]).toNat = true <;> simp [h]
theorem afK_len (af : List Int) (keep : Nat → Bool) (q : Nat) : (afK af keep q).length ≤ q := by
 unfold afK
 rw [List.length_map]
 have := List.length_filter_le (fun j : Int => keep j.toNat) (af.take q)
 have := List.length_take_le q af
 omega
theorem afK_all (l : List Tk) (keep : Nat → Bool) (i : Nat) : tkCut l keep i = { tkAt l i with af := afK (tkAt l i).af keep (tkAt l i).af.length } := by
 unfold tkCut afK
 rw [List.take_length]
theorem updK_back {keep : Nat → Bool} {i : Nat} (h : keep i = true) : updK (updK keep i false) i true = keep := by
 funext k
 unfold updK
 by_cases e : k = i
 ·subst e; simp [h]
 ·simp [e]
theorem kept_upd {keep : Nat → Bool} {k m : Nat} (hm : m ≤ k) (v : Bool) : keptL m (updK keep k v) = keptL m keep := by
 unfold keptL
 refine List.filter_congr fun x hx => ?_
 have := List.mem_range.1 hx
 unfold updK
 rw [if_neg (by omega)]
def cfR (l : List Tk) (res : List St) (start : Int) (k : Nat) (keep : Nat → Bool) : Option (Nat → Bool) := conflL l res start (List.range' k (l.length - k)) keep
theorem cfR_end (l : List Tk) (res : List St) (start : Int) (keep : Nat → Bool) : cfR l res start l.length keep = some keep := by unfold cfR; rw [Nat.sub_self]; rfl
theorem cfR_start (l : List Tk) (res : List St) (start : Int) (keep : Nat → Bool) : cfR l res start 0 keep = conflL l res start (List.range l.length) keep := by unfold cfR; rw [List.range_eq_range', Nat.sub_zero]
theorem cfR_step {l : List Tk} {res : List St} {start : Int} {k : Nat} (keep : Nat → Bool) (hk : k < l.length) : cfR l res start k keep = match findM (someM l (updK keep k false)) res start 1000 with
  | .out => none
  | .ok _ => cfR l res start (k + 1) keep
  | .no _ => cfR l res start (k + 1) (updK keep k false) := by
 unfold cfR
 rw [show l.length - k = (l.length - (k + 1)) + 1 by omega, List.range'_succ]
 rfl
end Wk
end Go.Proofs.YtlbjfbpejomkmaaGreat
namespace Go.Proofs.YtlbjfbpejomkmaaGreat
open Go.RowKit Wk

def RowV (W : World) (g n : Nat) (F : Nat → Value) : Prop := ∀ i, i < n → W.cell? ⟨g, i, none⟩ = some (F i) ∧ W.frozen? ⟨g, i, none⟩ = false
theorem RowV.below {W X : World} {g n : Nat} {F : Nat → Value} (h : RowV W g n F) (hb : Below W.heap.size W X) : RowV X g n F := fun i hi => ⟨keepCell hb (h i hi).1, keepFz hb (h i hi).1 (h i hi).2⟩
theorem RowV.far {W : World} {g n b o : Nat} {F : Nat → Value} (h : RowV W g n F) (hn : b ≠ g) (v : Value) : RowV (W.setCell ⟨b, o, none⟩ v) g n F := fun i hi => ⟨(cell_ne (Or.inl hn)).trans (h i hi).1, (frz_set ..).trans (h i hi).2⟩
theorem RowV.set {W : World} {g n k : Nat} {F : Nat → Value} (h : RowV W g n F) (hk : k < n) (v : Value) : RowV (W.setCell ⟨g, k, none⟩ v) g n fun i => if i = k then v else F i := fun i hi => by
 by_cases e : i = k
 ·subst e
  show _ = some (if i = i then v else F i) ∧ _
  rw [if_pos rfl]
  exact ⟨cell_eq (h i hi).1, (frz_set ..).trans (h i hi).2⟩
 ·show _ = some (if i = k then v else F i) ∧ _
  rw [if_neg e]
  exact ⟨(cell_ne (Or.inr (fun q => e q.symm))).trans (h i hi).1, (frz_set ..).trans (h i hi).2⟩
theorem RowV.congr {W : World} {g n : Nat} {F G : Nat → Value} (h : RowV W g n F) (he : ∀ i, i < n → F i = G i) : RowV W g n G := fun i hi => by rw [← he i hi]; exact h i hi
theorem rowV_zeroI {W : World} {B g N : Nat} (h : W.ownsRow B 3 1 (.slice (some ⟨g, 0, none⟩) N N) N (madeCells (Value.int .i64 0).cells (N * 1)).toList) : g < W.heap.size ∧ RowV W g N fun _ => .int .i64 0 := by
 have h' := h
 rcases h.2 with ⟨e, _⟩ | ⟨g', cap, cur, e, hgb, hgg, hn, hcap, hsz, _⟩
 ·cases e
 ·cases e
  have hfz : ∀ i, W.frozen? ⟨g, i, none⟩ = false := fun i => by simp [World.frozen?, hgg]
  refine ⟨(Array.getElem?_eq_some_iff.1 hgg).1, fun i hi => ?_⟩
  rw [World.ownsRow.cellAt h' i (by omega)]
  refine ⟨?_, hfz _⟩
  show (madeCells #[.int .i64 0] (N * 1)).toList[i]? = _
  rw [toList_madeCells_one, List.getElem?_replicate, if_pos (by omega)]
theorem OwnK.move {w w' : World} {B : Nat} {v : Value} {L : List Kv} (h : OwnK w B v L) (hk : ∀ g, B ≤ g → g < w.heap.size → w'.heap[g]? = w.heap[g]?) : OwnK w' B v L := by
 refine ⟨⟨h.row.1, ?_⟩, fun i hi => ⟨(h.af i hi).1, ?_⟩⟩
 ·rcases h.row.2 with hn | ⟨g, cap, cur, rfl, hbb, hgg, rest⟩
  ·exact .inl hn
  ·exact .inr ⟨g, cap, cur, rfl, hbb, (hk g hbb (Array.getElem?_eq_some_iff.1 hgg).1).trans hgg, rest⟩
 ·rcases (h.af i hi).2 with hn | ⟨g, cap, cur, e, hbb, hgg, rest⟩
  ·exact .inl hn
  ·exact .inr ⟨g, cap, cur, e, hbb, (hk g hbb (Array.getElem?_eq_some_iff.1 hgg).1).trans hgg, rest⟩
def WoPost (l : List Tk) (w : World) (e : Ending) (w' : World) : Prop := ∃ v L', e = .returned v ∧ RdK w' v L' ∧ tks L' = l ∧ Below w.heap.size w w'
theorem wo_done {l : List Tk} {keep : Nat → Bool} {w w' : World} {B : Nat} {v : Value} {L' : List Kv} (hlen : l.length ≤ 24) (haf : ∀ i, i < l.length → afB i (tkAt l i).af = true) (h : OwnK w' B v L') (ht : tks L' = wnL l keep l.length) (hb : Below w.heap.size w w') : WoPost (someM l keep) w (.returned v) w' := by
 have hl : L'.length = numK keep l.length := by rw [← tks_length, ht, wnL_len]
 have hle := numK_le keep l.length
 refine ⟨v, L', rfl, h.rd (by omega) fun i hi => ?_, ht, hb⟩
 have h1 := tks_at L' i
 rw [ht] at h1
 obtain ⟨k, hk, _, _, he⟩ := some_at (l := l) (keep := keep) (m := i) (by show i < (wnL l keep l.length).length; rw [wnL_len]; omega)
 have he : tkAt (wnL l keep l.length) i = tkCut l keep k := he
 rw [← h1, he, afK_all]
 have := afK_len (tkAt l k).af keep (tkAt l k).af.length
 have := af_len (haf k hk)
 show (afK (tkAt l k).af keep (tkAt l k).af.length).length ≤ _
 omega

set_option maxRecDepth 100000 in
set_option maxHeartbeats 16000000 in
theorem without_any (vl : Value) (g c : Nat) (L : List Kv) (keep : Nat → Bool) (w : World) (hL : RdK w vl L) (hK : RowV w g L.length fun i => .bool (keep i)) (haf : ∀ i, i < (tks L).length → afB i (tkAt (tks L) i).af = true) (hlen : L.length ≤ 24) :
  Calls Tryz.prog 57 #[vl, .slice (some ⟨g, 0, none⟩) L.length c] w (WoPost (someM (tks L) keep) w) := by
 have HL := Lib.hid hL
 have HK := Lib.hid hK
 have HAF := Lib.hid haf
 have HN := Lib.hid hlen
 obtain ⟨al, cl, rfl⟩ := hL.form
 clear hL hK haf hlen
 obtain ⟨i0, hi, hz0, hz1, hz2⟩ := info_parts Tryz.infoInt
 have HI := Lib.hid (And.intro hi (And.intro hz0 (And.intro hz1 hz2)))
 clear hi hz0 hz1 hz2
 go_enter Tryz.func57, Tryz.ntmps57
 go_wp2_with (first | ((with_reducible show wpList _ _ _ _ _ _); refine wpList_make_full _ rfl (.tmp 13) (.tmp 13) 36 rfl w.heap.size 3 i0 (.int .i64 0) 1 Tryz.underlying36 HI.out.1 HI.out.2.1 HI.out.2.2.1 .i64 .i64 _ _ L.length rfl rfl rfl rfl (by rw [HI.out.2.2.2]; have := HN.out; omega) (by unfold maxLen; have := HN.out; omega) (Nat.le_refl _) ?_; intro W0 hown hgr) | fail)
 have hb0 : Below w.heap.size w W0 := (Below.refl _ w).grown hgr (Nat.le_refl _) (fun k hk => by cases hk)
 obtain ⟨hz, hrow⟩ := rowV_zeroI hown
 have HB0 := Lib.hid hb0
 have HZ := Lib.hid hz
 have HR0 := Lib.hid hrow
 clear hown hgr hb0 hz hrow HI
 obtain ⟨g0, hg0⟩ : ∃ g0, w.heap.size = g0 := ⟨_, rfl⟩
 rw [hg0] at HZ HR0
 have HG0 : Hid (w.heap.size = g0) := hg0
 rw [hg0]
 clear hg0
 go_wp2_with fail
 go_loopw [6, 17] (fun u v wr => ∃ (k : Nat) (f : Nat → Int) (Lk : List Kv), k ≤ L.length ∧ v = .int .i64 k ∧ OwnK wr W0.heap.size u Lk ∧ Hid (tks Lk = wnL (tks L) keep k) ∧ RowV wr g0 L.length (fun i => .int .i64 (f i)) ∧ Hid (∀ j, j < k → keep j = true → f j = (numK keep j : Int)) ∧ Below w.heap.size w wr ∧ W0.heap.size ≤ wr.heap.size) (fun _ v _ => L.length - (intOf v).toNat)
 case atStart => exact ⟨0, fun _ => 0, [], Nat.zero_le _, rfl, OwnK.nil _ _, rfl, HR0.out, fun j hj => by omega, HB0.out, Nat.le_refl _⟩
 case round =>
  obtain ⟨k, f, Lk, hk, rfl, ho, HTK, hrow, HF, hB, hW0⟩ := hrel
  by_cases hlt : k < L.length
  ·obtain ⟨al', cl', ea, _, hc⟩ := HL.out
   cases ea
   obtain ⟨hj, bl, ol, rfl, q0, q1, q2, q3, q4⟩ := hc k hlt
   obtain ⟨x, hx⟩ : ∃ x, L.getD k kv0 = x := ⟨_, rfl⟩
   rw [hx] at hj q0 q1 q2 q3 q4
   obtain ⟨a1, n1, e1⟩ := hj.form
   rw [e1] at q3 hj
   have HTX : Hid (tkAt (tks L) k = x.1) := by unfold Hid; rw [tks_at, hx]
   have p0 := keepCell hB q0
   have p1 := keepCell hB q1
   have p2 := keepCell hB q2
   have p3 := keepCell hB q3
   have p4 := keepCell hB q4
   obtain ⟨O, hO⟩ : ∃ O, (Obj.cells #[.string x.1.nm, .int .i64 x.1.wk, .int .i64 x.1.rs, .slice a1 x.1.af.length n1, .int .i64 x.1.du] 44) = O := ⟨_, rfl⟩
   obtain ⟨bx, hbx⟩ : ∃ bx, wr.heap.size = bx := ⟨_, rfl⟩
   have hBX : Below wr.heap.size wr (wr.alloc O) := (Below.refl _ _).alloc (Nat.le_refl _) _
   have HB5 : Hid (∀ i, i < 5 → (wr.alloc O).frozen? ⟨bx, i, none⟩ = false) := by intro i hi; rw [← hbx, ← hO]; simp [go_sem]
   have t0 : (wr.alloc O).cell? ⟨bx, 0, none⟩ = some (.string x.1.nm) := by rw [← hO, ← hbx]; simp [go_sem]
   have t1 : (wr.alloc O).cell? ⟨bx, 1, none⟩ = some (.int .i64 x.1.wk) := by rw [← hO, ← hbx]; simp [go_sem]
   have t2 : (wr.alloc O).cell? ⟨bx, 2, none⟩ = some (.int .i64 x.1.rs) := by rw [← hO, ← hbx]; simp [go_sem]
   have t3 : (wr.alloc O).cell? ⟨bx, 3, none⟩ = some (.slice a1 x.1.af.length n1) := by rw [← hO, ← hbx]; simp [go_sem]
   have t4 : (wr.alloc O).cell? ⟨bx, 4, none⟩ = some (.int .i64 x.1.du) := by rw [← hO, ← hbx]; simp [go_sem]
   go_upto_region 6 with fail
   obtain ⟨X, hX⟩ : ∃ X, wr.alloc O = X := ⟨_, rfl⟩
   try rw [hO]
   try rw [hbx]
   rw [hX] at t0 t1 t2 t3 t4 HB5 hBX ⊢
   have hXs : X.heap.size = bx + 1 := by rw [← hX, ← hbx]; simp
   have hBw : Below w.heap.size w X := keepBelow hB hBX
   have HOX := Lib.hid (ho.below hBX)
   have HRX := Lib.hid (hrow.below hBX)
   have HJ := Lib.hid hj
   have HKX := Lib.hid (HK.out.below hBw)
   have HBW := Lib.hid hBw
   have HWX : Hid (W0.heap.size ≤ bx) := by unfold Hid; omega
   have HXS := Lib.hid hXs
   have HOwr := Lib.hid ho
   have HEW : Hid (∀ i, i < bx → X.heap[i]? = wr.heap[i]?) := fun i hi => by rw [← hX]; exact heap_alloc_old wr O (by omega)
   have HHS : Hid (wr.heap.size = bx) := hbx
   have HWS := Lib.hid (wnL_succ (tks L) keep k)
   have HAK : Hid (tkCut (tks L) keep k = { x.1 with af := afK x.1.af keep x.1.af.length }) := by unfold Hid; rw [afK_all, HTX.out]
   have HAB : Hid (afB k x.1.af = true) := by have := HAF.out k (by rw [tks_length]; exact hlt); rw [HTX.out] at this; exact this
   have HLK : Hid (Lk.length = numK keep k) := by unfold Hid; rw [← tks_length, HTK.out, wnL_len]
   clear hX hO p0 p1 p2 p3 p4 q0 q1 q2 q3 q4 hj e1 hx hc hB ho hrow hBX hBw hW0 hXs hbx
   have hkk0 := (HKX.out k hlt).1
   obtain ⟨kk, hkk'⟩ : ∃ b, keep k = b := ⟨_, rfl⟩
   have hkk : X.cell? ⟨g, k, none⟩ = some (.bool kk) := by rw [← hkk']; exact hkk0
   have HKK := Lib.hid hkk'
   clear hkk' hkk0
   cases kk with
   | false =>
    go_wp2
    go_roundw
    case rel => exact ⟨k + 1, f, Lk, by omega, by go_num, HOX.out, by unfold Hid; rw [HWS.out, if_neg (by rw [HKK.out]; exact Bool.false_ne_true)]; exact HTK.out, HRX.out, fun j hj h => HF.out j (by rcases (by omega : j < k ∨ j = k) with g | g; exact g; subst g; rw [HKK.out] at h; cases h) h, HBW.out, by have := HWX.out; have := HXS.out; omega⟩
    case measure => simp [intOf]; omega
   | true =>
    obtain ⟨au, cu, rfl⟩ := HOX.out.form
    have hnc : X.cell? ⟨g0, k, none⟩ = some (.int .i64 (f k)) := (HRX.out k hlt).1
    have hnf := (HRX.out k hlt).2
    go_upto_region 8 with fail
    obtain ⟨Y, hY⟩ : ∃ Y, X.setCell ⟨g0, k, none⟩ (.int .i64 (Lk.length : Nat)) = Y := ⟨_, rfl⟩
    rw [hY]
    have HG1 : Hid (g0 < W0.heap.size ∧ W0.heap.size ≤ bx) := ⟨HZ.out, HWX.out⟩
    have hne : g0 ≠ bx := by have := HG1.out; omega
    have HYS : Hid (Y.heap.size = bx + 1) := by unfold Hid; rw [← hY]; have := HXS.out; simpa using this
    have HBY : Hid (Below w.heap.size w Y) := by unfold Hid; rw [← hY]; exact HBW.out.setCell (p := ⟨g0, k, none⟩) (by rw [HG0.out]; exact Nat.le_refl _) _
    have HKY := Lib.hid (HK.out.below HBY.out)
    have HRY : Hid (RowV Y g0 L.length fun i => .int .i64 (if i = k then (Lk.length : Int) else f i)) := by unfold Hid; rw [← hY]; exact (HRX.out.set hlt _).congr fun i hi => by split <;> rfl
    have HOY : Hid (∀ i, W0.heap.size ≤ i → i < bx → Y.heap[i]? = wr.heap[i]?) := fun i h1 h2 => by
     rw [← hY, Below.heap_setCell _ _ _ _ (show i ≠ g0 by have := HG1.out; omega)]
     exact HEW.out i h2
    have HTY : Hid (Y.cell? ⟨bx, 0, none⟩ = some (.string x.1.nm) ∧ Y.cell? ⟨bx, 1, none⟩ = some (.int .i64 x.1.wk) ∧ Y.cell? ⟨bx, 2, none⟩ = some (.int .i64 x.1.rs) ∧ Y.cell? ⟨bx, 3, none⟩ = some (.slice a1 x.1.af.length n1) ∧ Y.cell? ⟨bx, 4, none⟩ = some (.int .i64 x.1.du) ∧ Y.frozen? ⟨bx, 3, none⟩ = false) := by
     unfold Hid
     rw [← hY]
     exact ⟨(cell_ne (Or.inl hne)).trans t0, (cell_ne (Or.inl hne)).trans t1, (cell_ne (Or.inl hne)).trans t2, (cell_ne (Or.inl hne)).trans t3, (cell_ne (Or.inl hne)).trans t4, (frz_set ..).trans (HB5.out 3 (by omega))⟩
    have t3 := HTY.out.2.2.2.1
    clear hY hnc hnf hkk t0 t1 t2 t4 hne
    go_wp2_with fail
    go_loopw [9, 35] (fun u v wr' => ∃ q : Nat, v = .int .i64 q ∧ q ≤ x.1.af.length ∧ OwnI wr' Y.heap.size u (afK x.1.af keep q) ∧ Below Y.heap.size Y wr') (fun _ v _ => x.1.af.length - (intOf v).toNat)
    case atStart => exact ⟨0, rfl, Nat.zero_le _, OwnI.nil _ _, Below.refl _ _⟩
    case round =>
     obtain ⟨q, rfl, hq, ho2, hB2⟩ := hrel
     have HBw2 := Lib.hid (keepBelow HBY.out hB2)
     have hal := af_len HAB.out
     by_cases hqa : q < x.1.af.length
     ·obtain ⟨aj, cj, ej, _, hcj⟩ := HJ.out.below HBw2.out
      cases ej
      obtain ⟨bj, oj, rfl, v1⟩ := hcj q hqa
      obtain ⟨z, hz⟩ : ∃ z, x.1.af.getD q 0 = z := ⟨_, rfl⟩
      rw [hz] at v1
      have hzb := (afB_mem.1 HAB.out).1 z (by rw [← hz]; exact getD_in hqa)
      obtain ⟨m, rfl⟩ : ∃ m : Nat, z = m := ⟨z.toNat, by omega⟩
      have hmk : m < k := by omega
      have HAS := Lib.hid (afK_succ x.1.af keep hqa)
      rw [hz, Int.toNat_natCast] at HAS
      have hkm : wr.cell? ⟨g, m, none⟩ = some (.bool (keep m)) := (HKY.out.below hB2 m (by omega)).1
      have hnm : wr.cell? ⟨g0, m, none⟩ = some (.int .i64 (if m = k then (Lk.length : Int) else f m)) := (HRY.out.below hB2 m (by omega)).1
      rw [if_neg (by omega)] at hnm
      have s1 : (m : Int) < (L.length : Int) := by omega
      have HMF : Hid (keep m = true → f m = (numK keep m : Int)) := HF.out m hmk
      have HAL := Lib.hid (afK_len x.1.af keep q)
      obtain ⟨km, hkm'⟩ : ∃ b, keep m = b := ⟨_, rfl⟩
      rw [hkm'] at hkm HAS HMF
      have HO2 := Lib.hid ho2
      have HB2 := Lib.hid hB2
      have HLL := Lib.hid (And.intro hal hlt)
      clear hkm' hz hzb hcj ho2 hB2 hal
      cases km with
      | false =>
       go_wp2
       go_roundw
       case rel => exact ⟨q + 1, by go_num, by omega, by rw [HAS.out, if_neg Bool.false_ne_true]; exact HO2.out, HB2.out⟩
       case measure => simp [intOf]; omega
      | true =>
       have hfm := HMF.out rfl
       rw [hfm] at hnm
       have HAS2 : Hid (afK x.1.af keep (q + 1) = afK x.1.af keep q ++ [(numK keep m : Int)]) := by unfold Hid; rw [HAS.out, if_pos rfl]
       clear hfm HAS
       go_wp2_with (at_builtin; refine wpList_app_int rfl (.tmp 43) (.tmp 48) rfl rfl HO2.out HB2.out rfl (by simp) (by have := HAL.out; have := HLL.out; have := HN.out; omega) ?_; intro v2 w2 o2 b2 k2 z2; clear k2 z2)
       go_roundw
       case rel => exact ⟨q + 1, by go_num, by omega, by rw [HAS2.out]; exact o2, b2⟩
       case measure => simp [intOf]; omega
     ·have hqe : q = x.1.af.length := by omega
      subst hqe
      obtain ⟨a9, c9, rfl, -⟩ := ho2.form
      have z0 := keepCell hB2 HTY.out.1
      have z1 := keepCell hB2 HTY.out.2.1
      have z2 := keepCell hB2 HTY.out.2.2.1
      have z3 := keepCell hB2 HTY.out.2.2.2.1
      have z4 := keepCell hB2 HTY.out.2.2.2.2.1
      have zf := keepFz hB2 HTY.out.2.2.2.1 HTY.out.2.2.2.2.2
      obtain ⟨M, hM⟩ : ∃ M, afK x.1.af keep x.1.af.length = M := ⟨_, rfl⟩
      rw [hM] at ho2 HAK ⊢
      have HRW := Lib.hid (HRY.out.below hB2)
      have hsz2 := hB2.size
      have HS2 : Hid (bx + 1 ≤ wr.heap.size) := by unfold Hid; have := HYS.out; omega
      have HAW : Hid ((flatI M).length = M.length * 1) := ho2.1
      have HAWB : Hid (((.slice a9 M.length c9 : Value) = .slice none 0 0 ∧ M.length = 0) ∨ ∃ p cap cur, (.slice a9 M.length c9 : Value) = .slice (some ⟨p, 0, none⟩) M.length cap ∧ Y.heap.size ≤ p ∧ wr.heap[p]? = some (.cells cur 3 (0, 0)) ∧ M.length ≤ cap ∧ cap ≤ maxLen ∧ cur.size = cap * 1 ∧ cur.toList.take (M.length * 1) = flatI M) := ho2.2
      have HBYW : Hid (∀ i, i < bx + 1 → wr.heap[i]? = Y.heap[i]?) := fun i hi => hB2.block i (by have := HYS.out; omega)
      clear hM ho2 hB2 hsz2 hal t3
      go_upto_region 16 with fail
      obtain ⟨Z, hZ⟩ : ∃ Z, wr.setCell ⟨bx, 3, none⟩ (.slice a9 M.length c9) = Z := ⟨_, rfl⟩
      rw [hZ]
      have y0 : Z.cell? ⟨bx, 0, none⟩ = some (.string x.1.nm) := by rw [← hZ]; exact (cell_ne (Or.inr (by decide))).trans z0
      have y1 : Z.cell? ⟨bx, 1, none⟩ = some (.int .i64 x.1.wk) := by rw [← hZ]; exact (cell_ne (Or.inr (by decide))).trans z1
      have y2 : Z.cell? ⟨bx, 2, none⟩ = some (.int .i64 x.1.rs) := by rw [← hZ]; exact (cell_ne (Or.inr (by decide))).trans z2
      have y3 : Z.cell? ⟨bx, 3, none⟩ = some (.slice a9 M.length c9) := by rw [← hZ]; exact cell_eq z3
      have y4 : Z.cell? ⟨bx, 4, none⟩ = some (.int .i64 x.1.du) := by rw [← hZ]; exact (cell_ne (Or.inr (by decide))).trans z4
      have hZB : ∀ i, i ≠ bx → Z.heap[i]? = wr.heap[i]? := fun i hi => by rw [← hZ]; exact Below.heap_setCell _ _ _ _ hi
      have HZS : Hid (Z.heap.size = wr.heap.size) := by unfold Hid; rw [← hZ]; simp
      have HOZ : Hid (OwnK Z W0.heap.size (.slice au Lk.length cu) Lk) := by
       refine HOwr.out.move fun i h1 h2 => ?_
       have h3 := HHS.out
       rw [hZB i (by omega), HBYW.out i (by omega)]
       exact HOY.out i h1 (by omega)
      have HAZ : Hid (OwnI Z W0.heap.size (.slice a9 M.length c9) M) := by
       refine ⟨HAW.out, ?_⟩
       rcases HAWB.out with hn | ⟨p, cap, cur, e, hbb, hgg, rest⟩
       ·exact .inl hn
       ·exact .inr ⟨p, cap, cur, e, by have := HYS.out; have := HWX.out; omega, (hZB p (by have := HYS.out; omega)).trans hgg, rest⟩
      have HBZ : Hid (Below w.heap.size w Z) := by unfold Hid; rw [← hZ]; exact HBw2.out.setCell (p := ⟨bx, 3, none⟩) (by rw [HG0.out]; have := HG1.out; show g0 ≤ bx; omega) _
      have HRZ : Hid (RowV Z g0 L.length fun i => .int .i64 (if i = k then (Lk.length : Int) else f i)) := by unfold Hid; rw [← hZ]; exact HRW.out.far (by have := HG1.out; omega) _
      clear hZ hZB z0 z1 z2 z3 z4 zf
      go_wp2_with (at_builtin; refine wpList_app_task (w0 := w) (B := W0.heap.size) (z := ({ x.1 with af := M }, .slice a9 M.length c9)) rfl (.tmp 53) (.tmp 55) rfl rfl HOZ.out HB0.out.size (by have := HZS.out; have := HS2.out; have := HG1.out; omega) HBZ.out HAZ.out rfl (by simp) (by have := HLK.out; have := numK_le keep k; have := HN.out; omega) ?_; intro v2 w2 o2 b2 k2 s2)
      go_roundw
      case rel =>
       refine ⟨k + 1, fun i => if i = k then (Lk.length : Int) else f i, Lk ++ [({ x.1 with af := M }, .slice a9 M.length c9)], by omega, by go_num, o2, ?_, ?_, ?_, b2, ?_⟩
       ·unfold Hid
        rw [HWS.out, if_pos HKK.out, ← HTK.out, HAK.out]
        unfold tks
        rw [List.map_append]
        rfl
       ·intro i hi
        have hlt0 : g0 < Z.heap.size := World.block_lt_of_cell? Z ⟨g0, i, none⟩ (HRZ.out i hi).1
        have hk2 := k2 g0 i hlt0 (fun e => by have := (World.ownsRow.lt HOZ.out.row g0 e).1; have := HG1.out; omega)
        exact ⟨hk2.1.trans (HRZ.out i hi).1, hk2.2.trans (HRZ.out i hi).2⟩
       ·intro j hj h
        show (if j = k then (Lk.length : Int) else f j) = _
        by_cases e : j = k
        ·rw [if_pos e, HLK.out, e]
        ·rw [if_neg e]
         exact HF.out j (by omega) h
       ·have := HZS.out; have := HS2.out; have := HG1.out; omega
      case measure => simp [intOf]; omega
  ·have hkl : k = L.length := by omega
   subst hkl
   have HO := Lib.hid ho
   have HB := Lib.hid hB
   have HTK2 : Hid (tks Lk = wnL (tks L) keep (tks L).length) := by unfold Hid; rw [tks_length]; exact HTK.out
   obtain ⟨au, cu, rfl⟩ := ho.form
   clear ho hB hrow
   go_wp2
   go_ret
   exact wo_done (by rw [tks_length]; exact HN.out) HAF.out HO.out HTK2.out HB.out
end Go.Proofs.YtlbjfbpejomkmaaGreat
namespace Go.Proofs.YtlbjfbpejomkmaaGreat
open Go.RowKit Wk

end Go.Proofs.YtlbjfbpejomkmaaGreat
namespace Go.Proofs.YtlbjfbpejomkmaaGreat
open Go.RowKit Wk

def cfM (l : List Tk) (res : List St) (start : Int) : Int × List Nat := match conflM l res start with
 | .inr _ => (7, [])
 | .inl none => (18, [])
 | .inl (some c) => (0, c)
def cfA (l : List Tk) (res : List St) (start : Int) : Int × List Nat := if (vldM l res && lineB start) = true then cfM l res start else (1, [])
def CfPost (p : Int × List Nat) (w : World) (e : Ending) (w' : World) : Prop := ∃ v, e = .returned (.tuple #[v, .int .i64 p.1]) ∧ OwnI w' w.heap.size v (natI p.2) ∧ Below w.heap.size w w'
theorem cfA_no {l : List Tk} {res : List St} {start : Int} (h : (vldM l res && lineB start) = false) : cfA l res start = (1, []) := by unfold cfA; rw [if_neg (by rw [h]; exact Bool.false_ne_true)]
theorem cfA_ok {l : List Tk} {res : List St} {start : Int} (h : (vldM l res && lineB start) = true) {a : List Sp} (hf : findM l res start 1000 = .ok a) : cfA l res start = (7, []) := by unfold cfA cfM conflM; rw [if_pos h, hf]
theorem cfA_out {l : List Tk} {res : List St} {start : Int} (h : (vldM l res && lineB start) = true) (hf : findM l res start 1000 = .out) : cfA l res start = (18, []) := by unfold cfA cfM conflM; rw [if_pos h, hf]
theorem cfA_nn {l : List Tk} {res : List St} {start : Int} (h : (vldM l res && lineB start) = true) {lf : Int} (hf : findM l res start 1000 = .no lf) (hc : cfR l res start 0 (fun _ => true) = none) : cfA l res start = (18, []) := by
 unfold cfA cfM conflM
 rw [if_pos h, hf]
 rw [cfR_start] at hc
 simp only [hc, Option.map_none]
theorem cfA_ns {l : List Tk} {res : List St} {start : Int} (h : (vldM l res && lineB start) = true) {lf : Int} (hf : findM l res start 1000 = .no lf) {keep : Nat → Bool} (hc : cfR l res start 0 (fun _ => true) = some keep) : cfA l res start = (0, keptL l.length keep) := by
 unfold cfA cfM conflM
 rw [if_pos h, hf]
 rw [cfR_start] at hc
 simp only [hc, Option.map_some]
theorem row_repB {W : World} {g N : Nat} (h : W.heap[g]? = some (.cells (List.replicate N (Value.bool true)).toArray 4 (0, 0))) : g < W.heap.size ∧ RowV W g N fun _ => .bool true := by
 refine ⟨(Array.getElem?_eq_some_iff.1 h).1, fun i hi => ⟨?_, by simp [World.frozen?, h]⟩⟩
 rw [cell_of_row _ _ _ _ _ _ h]
 simp [hi]
theorem keptI_len (n : Nat) (keep : Nat → Bool) : (natI (keptL n keep)).length ≤ n := by rw [natI_length]; exact numK_le keep n
theorem find_left (vR vl : Value) (start : Int) (L : List Kv) (R : List Sw) (W : World) (hL : RdK W vl L) (hR : RdR W vR R) (hV : vldM (tks L) (sts R) = true) (hs : lineB start = true) :
  Calls Tryz.prog 47 #[vl, vR, .int .i64 start, .int .i64 1000] W (FdPost (findM (tks L) (sts R) start 1000) W) :=
 find_any vl vR start 1000 L R W (fi_ctx hL hR hV hs (by omega) (by omega))

set_option maxRecDepth 100000 in
set_option maxHeartbeats 16000000 in
theorem conflict_any (vl vR : Value) (start : Int) (L : List Kv) (R : List Sw) (w : World) (hL : RdK w vl L) (hR : RdR w vR R) :
  Calls Tryz.prog 22 #[vl, vR, .int .i64 start] w (CfPost (cfA (tks L) (sts R) start) w) := by
 have HV := Lib.hid (agvalid_any vl vR L R w hL hR)
 have HLI := Lib.hid (fun W => agline_any start W)
 have HL := Lib.hid hL
 have HR := Lib.hid hR
 obtain ⟨v, hv⟩ : ∃ v, vldM (tks L) (sts R) = v := ⟨_, rfl⟩
 rw [hv] at HV
 obtain ⟨ln, hln⟩ : ∃ ln, lineB start = ln := ⟨_, rfl⟩
 rw [hln] at HLI
 have HVL := Lib.hid (And.intro hv hln)
 have HNO : Hid ((v && ln) = false → ∀ W, Below w.heap.size w W → CfPost (cfA (tks L) (sts R) start) w (.returned (.tuple #[.slice none 0 0, .int .i64 1])) W) := fun h W hb => by
  rw [cfA_no (by rw [hv, hln]; exact h)]
  exact ⟨_, rfl, OwnI.nil _ _, hb⟩
 obtain ⟨al, cl, rfl⟩ := hL.form
 obtain ⟨aR, cR, rfl⟩ := hR.form
 clear hL hR hv hln
 go_enter Tryz.func22, Tryz.ntmps22
 go_wp2_with fail
 refine HV.out.mono ?_
 rintro e w1 ⟨rfl, hb1⟩
 have HB := Lib.hid hb1
 have HL1 := Lib.hid (HL.out.below hb1)
 have HR1 := Lib.hid (HR.out.below hb1)
 clear hb1 HV
 cases v with
 | false =>
  go_wp2
  go_ret2
  exact HNO.out rfl _ HB.out
 | true =>
 cases ln with
 | false =>
  go_wp2_with (first | (go_at_call 45; refine (HLI.out _).mono ?_; rintro e w' ⟨rfl, rfl⟩) | fail)
  go_ret2
  exact HNO.out rfl _ HB.out
 | true =>
 have HVB : Hid ((vldM (tks L) (sts R) && lineB start) = true) := by unfold Hid; rw [HVL.out.1, HVL.out.2]; rfl
 have HFD := Lib.hid (fun W h h' => find_left (.slice aR R.length cR) (.slice al L.length cl) start L R W h h' HVL.out.1 HVL.out.2)
 obtain ⟨r, hr⟩ : ∃ r, findM (tks L) (sts R) start 1000 = r := ⟨_, rfl⟩
 rw [hr] at HFD
 have HRR := Lib.hid hr
 clear hr HNO
 go_wp2_with (first | (go_at_call 45; refine (HLI.out _).mono ?_; rintro e w' ⟨rfl, rfl⟩) | fail)
 refine (HFD.out _ HL1.out HR1.out).mono ?_
 rintro e w2 ⟨hb2, hpost⟩
 have HB2 := Lib.hid (keepBelow HB.out hb2)
 have HL2 := Lib.hid (HL1.out.below hb2)
 have HR2 := Lib.hid (HR1.out.below hb2)
 clear hb2
 cases r with
 | ok a =>
  obtain ⟨u, rfl, -, -, -⟩ := hpost
  go_wp2
  go_ret2
  rw [cfA_ok HVB.out HRR.out]
  exact ⟨_, rfl, OwnI.nil _ _, HB2.out⟩
 | out =>
  have hpost : e = _ := hpost
  subst hpost
  go_wp2
  go_ret2
  rw [cfA_out HVB.out HRR.out]
  exact ⟨_, rfl, OwnI.nil _ _, HB2.out⟩
 | no lf =>
 have hpost : e = _ := hpost
 subst hpost
 have hvp := vld_parts HVL.out.1
 have HN : Hid (L.length ≤ 24) := hvp.2.2.1
 obtain ⟨X, hX⟩ : ∃ X, w2.alloc (.cells #[.bool true] 4) = X := ⟨_, rfl⟩
 have hbx : Below w2.heap.size w2 X := by rw [← hX]; exact (Below.refl _ _).alloc (Nat.le_refl _) _
 have hxc : X.cell? ⟨w2.heap.size, 0, none⟩ = some (.bool true) := by rw [← hX]; simp [go_sem]
 have HRP := Lib.hid (repB_any true w2.heap.size L.length X hxc (by have := HN.out; omega))
 have HBX := Lib.hid (keepBelow HB2.out hbx)
 have HLX := Lib.hid (HL2.out.below hbx)
 have HRX := Lib.hid (HR2.out.below hbx)
 clear hbx hxc hvp
 go_wp2_with fail
 try rw [hX]
 refine HRP.out.mono ?_
 rintro e w3 ⟨gk, rfl, hg, hrow, hb3⟩
 have HB3 := Lib.hid (keepBelow HBX.out hb3)
 have HL3 := Lib.hid (HLX.out.below hb3)
 have HR3 := Lib.hid (HRX.out.below hb3)
 obtain ⟨hgs, hrw⟩ := row_repB hrow
 have HGK : Hid (w.heap.size ≤ gk ∧ gk < w3.heap.size) := ⟨Nat.le_trans HBX.out.size hg, hgs⟩
 have HRW := Lib.hid hrw
 obtain ⟨tot, htot⟩ : ∃ t, cfR (tks L) (sts R) start 0 (fun _ => true) = t := ⟨_, rfl⟩
 have HT := Lib.hid htot
 clear hrow hb3 hg hgs hrw hX htot HRP
 go_wp2_with fail
 go_loopw [11, 43] (fun u i wr => ∃ (k : Nat) (keep : Nat → Bool), k ≤ L.length ∧ i = .int .i64 k ∧ OwnI wr w3.heap.size u (natI (keptL k keep)) ∧ RowV wr gk L.length (fun i => .bool (keep i)) ∧ Hid (∀ j, k ≤ j → keep j = true) ∧ Hid (cfR (tks L) (sts R) start k keep = tot) ∧ Below w.heap.size w wr ∧ w3.heap.size ≤ wr.heap.size) (fun _ i _ => L.length - (intOf i).toNat)
 case atStart => exact ⟨0, fun _ => true, Nat.zero_le _, rfl, OwnI.nil _ _, HRW.out, fun _ _ => rfl, HT.out, HB3.out, Nat.le_refl _⟩
 case round =>
  obtain ⟨k, keep, hk, rfl, ho, hrow, HKT, HCF, hB, hsz⟩ := hrel
  by_cases hlt : k < L.length
  ·have sk24 : (k : Int) ≤ 24 := by have := HN.out; omega
   have hkc := (hrow k hlt).1
   have hkf := (hrow k hlt).2
   have HST := Lib.hid (cfR_step (l := tks L) (res := sts R) (start := start) keep (by rw [tks_length]; exact hlt))
   have HK1 : Hid (keep k = true) := HKT.out k (Nat.le_refl _)
   go_upto_region 15 with fail
   obtain ⟨Y, hY⟩ : ∃ Y, wr.setCell ⟨gk, k, none⟩ (.bool false) = Y := ⟨_, rfl⟩
   rw [hY]
   have HRY : Hid (RowV Y gk L.length fun i => .bool (updK keep k false i)) := by unfold Hid; rw [← hY]; exact (hrow.set hlt _).congr fun i hi => by unfold updK; split <;> rfl
   have HBY : Hid (Below w.heap.size w Y) := by unfold Hid; rw [← hY]; exact hB.setCell (p := ⟨gk, k, none⟩) HGK.out.1 _
   have HOY : Hid (OwnI Y w3.heap.size u11 (natI (keptL k keep))) := by unfold Hid; rw [← hY]; exact ho.setCell HGK.out.2 _
   have HSY : Hid (w3.heap.size ≤ Y.heap.size) := by unfold Hid; rw [← hY]; simpa using hsz
   have HLY := Lib.hid (HL.out.below HBY.out)
   have HRRY := Lib.hid (HR.out.below HBY.out)
   have HWO := Lib.hid (without_any (.slice al L.length cl) gk L.length L (updK keep k false) Y HLY.out HRY.out (fun i hi => (okT_parts.1 (vld_ok HVL.out.1 i hi)).2.2.2.2.2.2.2.2) HN.out)
   clear hY hkc hkf ho hrow hB hsz
   go_wp2_with fail
   refine HWO.out.mono ?_
   rintro e w4 ⟨v4, L4, rfl, hrd4, ht4, hb4⟩
   obtain ⟨a4, c4, rfl⟩ := hrd4.form
   have HB4 := Lib.hid (keepBelow HBY.out hb4)
   have HO4 := Lib.hid (HOY.out.below hb4)
   have HR4 := Lib.hid (HRY.out.below hb4)
   have HRR4 := Lib.hid (HRRY.out.below hb4)
   have HS4 : Hid (w3.heap.size ≤ w4.heap.size) := Nat.le_trans HSY.out hb4.size
   have HV4 : Hid (vldM (tks L4) (sts R) = true) := by unfold Hid; rw [ht4]; exact some_vld HVL.out.1
   have HF4 := Lib.hid (find_left (.slice aR R.length cR) (.slice a4 L4.length c4) start L4 R w4 hrd4 HRR4.out HV4.out HVL.out.2)
   rw [ht4] at HF4
   obtain ⟨r4, hr4⟩ : ∃ r, findM (someM (tks L) (updK keep k false)) (sts R) start 1000 = r := ⟨_, rfl⟩
   rw [hr4] at HF4 HST
   clear hr4 hrd4 ht4 hb4 HWO
   go_wp2_with fail
   refine HF4.out.mono ?_
   rintro e w5 ⟨hb5, hpost⟩
   have HB5 := Lib.hid (keepBelow HB4.out hb5)
   have HO5 := Lib.hid (HO4.out.below hb5)
   have HR5 := Lib.hid (HR4.out.below hb5)
   have HS5 : Hid (w3.heap.size ≤ w5.heap.size) := Nat.le_trans HS4.out hb5.size
   clear hb5 HF4
   cases r4 with
   | ok a5 =>
    obtain ⟨u5, rfl, -, -, -⟩ := hpost
    have hkc := (HR5.out k hlt).1
    have hkf := (HR5.out k hlt).2
    go_upto_region 21 with fail
    obtain ⟨Z, hZ⟩ : ∃ Z, w5.setCell ⟨gk, k, none⟩ (.bool true) = Z := ⟨_, rfl⟩
    rw [hZ]
    have HRZ : Hid (RowV Z gk L.length fun i => .bool (keep i)) := by
     unfold Hid
     rw [← hZ]
     refine (HR5.out.set hlt _).congr fun i hi => ?_
     conv => rhs; rw [← updK_back HK1.out]
     show (if i = k then _ else _) = Value.bool (if i = k then true else updK keep k false i)
     split <;> rfl
    have HBZ : Hid (Below w.heap.size w Z) := by unfold Hid; rw [← hZ]; exact HB5.out.setCell (p := ⟨gk, k, none⟩) HGK.out.1 _
    have HOZ : Hid (OwnI Z w3.heap.size u11 (natI (keptL k keep))) := by unfold Hid; rw [← hZ]; exact HO5.out.setCell HGK.out.2 _
    have HSZ : Hid (w3.heap.size ≤ Z.heap.size) := by unfold Hid; rw [← hZ]; simpa using HS5.out
    have HKL := Lib.hid (keptI_len k keep)
    clear hZ hkc hkf
    go_wp2_with (at_builtin; refine wpList_app_intB (B := w3.heap.size) (w0 := w) rfl (.tmp 67) (.tmp 69) rfl rfl HOZ.out HB3.out.size HSZ.out HBZ.out rfl (by simp) (by have := HKL.out; have := HN.out; omega) ?_; intro v2 w6 o6 b6 k6 s6)
    go_roundw
    case rel =>
     refine ⟨k + 1, keep, by omega, by go_num, ?_, ?_, fun j hj => HKT.out j (by omega), ?_, b6, ?_⟩
     ·rw [kept_succ, if_pos HK1.out, natI_append]
      exact o6
     ·intro i hi
      have hlt0 : gk < Z.heap.size := World.block_lt_of_cell? Z ⟨gk, i, none⟩ (HRZ.out i hi).1
      have hk2 := k6 gk i hlt0 (fun e => by have := (World.ownsRow.lt HOZ.out gk e).1; have := HGK.out; omega)
      exact ⟨hk2.1.trans (HRZ.out i hi).1, hk2.2.trans (HRZ.out i hi).2⟩
     ·unfold Hid
      rw [← HCF.out, HST.out]
     ·have := HSZ.out; omega
    case measure => simp [intOf]; omega
   | out =>
    have hpost : e = _ := hpost
    subst hpost
    go_wp2
    go_ret2
    rw [cfA_nn HVB.out HRR.out (by rw [HT.out, ← HCF.out, HST.out])]
    exact ⟨_, rfl, OwnI.nil _ _, HB5.out⟩
   | no l5 =>
    have hpost : e = _ := hpost
    subst hpost
    go_wp2
    go_roundw
    case rel =>
     refine ⟨k + 1, updK keep k false, by omega, by go_num, ?_, HR5.out, fun j hj => ?_, ?_, HB5.out, HS5.out⟩
     ·rw [kept_succ, if_neg (by rw [updK_self]; exact Bool.false_ne_true), kept_upd (Nat.le_refl _), List.append_nil]
      exact HO5.out
     ·unfold updK
      rw [if_neg (by omega)]
      exact HKT.out j (by omega)
     ·unfold Hid
      rw [← HCF.out, HST.out]
    case measure => simp [intOf]; omega
  ·have hkl : k = L.length := by omega
   subst hkl
   have HO := Lib.hid (ho.mono HB3.out.size)
   have HBF := Lib.hid hB
   have HCE : Hid (cfA (tks L) (sts R) start = (0, keptL L.length keep)) := by
    unfold Hid
    have h1 := HCF.out
    have h2 := cfR_end (tks L) (sts R) start keep
    rw [tks_length] at h2
    rw [h2] at h1
    have h3 := HT.out
    rw [← h1] at h3
    have h4 := cfA_ns HVB.out HRR.out h3
    rwa [tks_length] at h4
   obtain ⟨au, cu, rfl, -⟩ := ho.form
   clear ho hB hrow
   go_wp2
   go_ret2
   rw [HCE.out]
   exact ⟨_, rfl, HO.out, HBF.out⟩
end Go.Proofs.YtlbjfbpejomkmaaGreat
