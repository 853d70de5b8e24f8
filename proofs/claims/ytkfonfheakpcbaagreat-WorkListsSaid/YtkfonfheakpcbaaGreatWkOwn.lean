import Derived.Test.YtkfonfheakpcbaaGreatWkBase
import Derived.Deep.SlicePairs
/- slices that a call makes: how they read; slices.Clone. -/
namespace Go.Proofs.YtkfonfheakpcbaaGreat
open Go.RowKit Wk

def flatS (l : List Sp) : List Value := l.flatMap fun s => [.int .i64 s.1, .int .i64 s.2]
def flatI (l : List Int) : List Value := l.map (Value.int .i64)

theorem flatS_length (l : List Sp) : (flatS l).length = l.length * 2 := by
  induction l with
  | nil => rfl
  | cons s r ih => simp only [flatS, List.flatMap_cons, List.length_append, List.length_cons, List.length_nil] at *; omega
theorem flatS_append (a b : List Sp) : flatS (a ++ b) = flatS a ++ flatS b := by simp [flatS]
theorem flatS_get : ∀ (l : List Sp) (i : Nat), i < l.length → (flatS l)[i * 2]? = some (.int .i64 (l.getD i (0, 0)).1) ∧ (flatS l)[i * 2 + 1]? = some (.int .i64 (l.getD i (0, 0)).2)
  | [], i, h => by simp at h
  | s :: r, 0, _ => by simp [flatS]
  | s :: r, i + 1, h => by
    have ih := flatS_get r i (by simpa using h)
    have e : flatS (s :: r) = .int .i64 s.1 :: .int .i64 s.2 :: flatS r := rfl
    rw [e, show (i + 1) * 2 = i * 2 + 1 + 1 by omega]
    simpa using ih
theorem flatS_oneCell (l : List Sp) : ∀ u ∈ flatS l, u.oneCell' = true := by
  intro u hu
  simp only [flatS, List.mem_flatMap] at hu
  obtain ⟨s, _, h⟩ := hu
  simp at h
  rcases h with rfl | rfl <;> rfl

/-- a slice of spans that the call itself made -/
def OwnS (w : World) (B : Nat) (v : Value) (l : List Sp) : Prop := w.ownsRow B 44 2 v l.length (flatS l)
def OwnI (w : World) (B : Nat) (v : Value) (l : List Int) : Prop := w.ownsRow B 3 1 v l.length (flatI l)

theorem OwnS.rd {w : World} {B : Nat} {v : Value} {l : List Sp} (h : OwnS w B v l) (hl : l.length ≤ 8796093022208) : RdS w v l := by
  have h' := h
  rcases h.2 with ⟨rfl, h0⟩ | ⟨g, cap, cur, rfl, _⟩
  · obtain rfl : l = [] := List.eq_nil_of_length_eq_zero h0
    exact ⟨none, 0, rfl, hl, fun i hi => by simp at hi⟩
  · refine ⟨some ⟨g, 0, none⟩, cap, rfl, hl, fun i hi => ⟨g, 0, rfl, ?_, ?_⟩⟩
    · rw [Nat.zero_add, World.ownsRow.cellAt h' (i * 2) (by omega)]
      exact (flatS_get l i hi).1
    · rw [Nat.zero_add, World.ownsRow.cellAt h' (i * 2 + 1) (by omega)]
      exact (flatS_get l i hi).2

theorem Tryz.infoSpan : (Tryz.prog.info? 44).map (fun i => (i.zero, i.size, i.bytes)) = some (some (.agg #[.int .i64 0, .int .i64 0]), 2, 16) := by kernel_rfl
theorem Tryz.infoInt : (Tryz.prog.info? 3).map (fun i => (i.zero, i.size, i.bytes)) = some (some (.int .i64 0), 1, 8) := by kernel_rfl

/-- the elements of a slice that reads as l, as one list of cells -/
theorem RdS.cells {w : World} {b o : Nat} {n c : Nat} {l : List Sp} (h : RdS w (.slice (some ⟨b, o, none⟩) n c) l) : n = l.length ∧ ∀ j u, (flatS l)[j]? = some u → w.cell? ((⟨b, o, none⟩ : Addr).add j) = some u := by
  obtain ⟨a, c', e, hl, hc⟩ := h
  cases e
  refine ⟨rfl, fun j u hu => ?_⟩
  have hj : j < l.length * 2 := by
    have := (List.getElem?_eq_some_iff.1 hu).1
    rw [flatS_length] at this; exact this
  obtain ⟨b', o', e, c1, c2⟩ := hc (j / 2) (by omega)
  cases e
  have hg := flatS_get l (j / 2) (by omega)
  rcases (by omega : j = j / 2 * 2 ∨ j = j / 2 * 2 + 1) with e | e
  · rw [e] at hu ⊢
    rw [hg.1] at hu
    cases hu
    rw [WideShapes.add_plain]; exact c1
  · rw [e] at hu ⊢
    rw [hg.2] at hu
    cases hu
    rw [WideShapes.add_plain]; exact c2

theorem flatI_oneCell (l : List Int) : ∀ u ∈ flatI l, u.oneCell' = true := by
  intro u hu
  simp only [flatI, List.mem_map] at hu
  obtain ⟨s, _, rfl⟩ := hu
  rfl
theorem OwnS.lt {w : World} {B : Nat} {v : Value} {l : List Sp} (h : OwnS w B v l) : ∀ k, v.ownBlock = some k → B ≤ k ∧ k < w.heap.size := World.ownsRow.lt h
theorem OwnI.lt {w : World} {B : Nat} {v : Value} {l : List Int} (h : OwnI w B v l) : ∀ k, v.ownBlock = some k → B ≤ k ∧ k < w.heap.size := World.ownsRow.lt h
theorem OwnI.ne {w : World} {B : Nat} {v : Value} {l : List Int} (h : OwnI w B v l) : v.ownBlock ≠ some w.heap.size := fun e => by have := (h.lt _ e).2; omega
theorem OwnS.ne {w : World} {B : Nat} {v : Value} {l : List Sp} (h : OwnS w B v l) : v.ownBlock ≠ some w.heap.size := fun e => by have := (h.lt _ e).2; omega
theorem OwnI.alloc {w : World} {B : Nat} {v : Value} {l : List Int} (h : OwnI w B v l) (o : Obj) : OwnI (w.alloc o) B v l := World.ownsRow.alloc h o
theorem OwnS.alloc {w : World} {B : Nat} {v : Value} {l : List Sp} (h : OwnS w B v l) (o : Obj) : OwnS (w.alloc o) B v l := World.ownsRow.alloc h o
theorem OwnI.nil (w : World) (B : Nat) : OwnI w B (.slice none 0 0) [] := World.ownsRow_nil _ _ _ _
theorem OwnS.nil (w : World) (B : Nat) : OwnS w B (.slice none 0 0) [] := World.ownsRow_nil _ _ _ _
/-- a callee that leaves all that was there leaves what is owned -/
theorem OwnI.below {w w' : World} {B : Nat} {v : Value} {l : List Int} (h : OwnI w B v l) (hb : Below w.heap.size w w') : OwnI w' B v l := by
  refine ⟨h.1, ?_⟩
  rcases h.2 with hn | ⟨g, cap, cur, rfl, hbb, hgg, rest⟩
  · exact .inl hn
  · exact .inr ⟨g, cap, cur, rfl, hbb, (hb.block g (Array.getElem?_eq_some_iff.1 hgg).1).trans hgg, rest⟩
theorem OwnS.below {w w' : World} {B : Nat} {v : Value} {l : List Sp} (h : OwnS w B v l) (hb : Below w.heap.size w w') : OwnS w' B v l := by
  refine ⟨h.1, ?_⟩
  rcases h.2 with hn | ⟨g, cap, cur, rfl, hbb, hgg, rest⟩
  · exact .inl hn
  · exact .inr ⟨g, cap, cur, rfl, hbb, (hb.block g (Array.getElem?_eq_some_iff.1 hgg).1).trans hgg, rest⟩
theorem OwnI.mono {w : World} {B B' : Nat} {v : Value} {l : List Int} (h : OwnI w B v l) (hB : B' ≤ B) : OwnI w B' v l := by
  refine ⟨h.1, ?_⟩
  rcases h.2 with hn | ⟨g, cap, cur, rfl, hbb, rest⟩
  · exact .inl hn
  · exact .inr ⟨g, cap, cur, rfl, by omega, rest⟩
theorem OwnS.mono {w : World} {B B' : Nat} {v : Value} {l : List Sp} (h : OwnS w B v l) (hB : B' ≤ B) : OwnS w B' v l := by
  refine ⟨h.1, ?_⟩
  rcases h.2 with hn | ⟨g, cap, cur, rfl, hbb, rest⟩
  · exact .inl hn
  · exact .inr ⟨g, cap, cur, rfl, by omega, rest⟩

theorem OwnS.setCell {w : World} {B : Nat} {v : Value} {l : List Sp} (h : OwnS w B v l) {b o : Nat} (hb : b < B) (u : Value) : OwnS (w.setCell ⟨b, o, none⟩ u) B v l := ownsRow_setCell_below h hb u
theorem OwnI.setCell {w : World} {B : Nat} {v : Value} {l : List Int} (h : OwnI w B v l) {b o : Nat} (hb : b < B) (u : Value) : OwnI (w.setCell ⟨b, o, none⟩ u) B v l := ownsRow_setCell_below h hb u

/-- 'l = append(l, z)' on a list of ints of the call's own -/
theorem wpList_app_int {ops : Array Oper} {rest : List Oper} {o : Oper} {a : Act} {Q : Exit → Act → World → Prop} {w0 W : World} {v : Value} {L : List Int} {z : Int} (hgd : o.guard = none) (s x : Operand)
    (ho : o.op = .call { callee := .builtin .append, args := #[s, x], argTypes := #[49, 49] }) (hs : a.eval s = v) (hown : OwnI W w0.heap.size v L) (hbw : Below w0.heap.size w0 W)
    {n : Nat} (hx : a.eval x = .slice (some ⟨n, 0, none⟩) 1 1) (hn : n = W.heap.size) (hlen : L.length < 1000000000000)
    (h : ∀ v' w', OwnI w' w0.heap.size v' (L ++ [z]) → Below w0.heap.size w0 w' → (∀ b off, b < W.heap.size → v.ownBlock ≠ some b → w'.cell? ⟨b, off, none⟩ = W.cell? ⟨b, off, none⟩) → W.heap.size ≤ w'.heap.size →
      wpList Tryz.prog ops Q rest (a.put o.dst v') w') : wpList Tryz.prog ops Q (o :: rest) a (W.alloc (.cells #[.int .i64 z] 3)) := by
  subst hn
  obtain ⟨i0, hi, hz0, hz1, hz2⟩ := info_parts Tryz.infoInt
  have hsz := hbw.size
  refine wpList_append_own _ hgd s x 49 ho w0.heap.size 3 i0 (.int .i64 0) 1 8 Tryz.underlying49 hi hz0 hz1 hz2 rfl (by decide) v L.length (flatI L) hs (hown.alloc _) ⟨W.heap.size, 0, none⟩ 1 1 [.int .i64 z] hx rfl ?_ ?_ (by unfold maxLen; omega) (by omega) (by simp; omega) ?_
  · intro j u hu
    have hj := (List.getElem?_eq_some_iff.1 hu).1
    have : j = 0 := by simp at hj; exact hj
    subst this
    simp at hu
    subst hu
    rw [WideShapes.add_plain]
    simp
  · intro u hu; simp at hu; subst hu; rfl
  · intro v' w' hown' hg _
    refine h v' w' ?_ ?_ ?_ ?_
    · unfold OwnI
      simpa [flatI] using hown'
    · exact (hbw.alloc hsz _).grown hg (by simp; omega) (fun k hk => (hown.lt k hk).1)
    · intro b off hb hne
      rw [World.cell?_of_block (w := W.alloc (.cells #[.int .i64 z] 3)) (hg.block b (by simp; omega) (fun e => hne e.symm))]
      exact World.cell?_alloc_past _ _ _ hb
    · have := hg.size; simp at this; omega

/-- 'l = append(l, z)' on a list of spans of the call's own -/
theorem wpList_app_span {ops : Array Oper} {rest : List Oper} {o : Oper} {a : Act} {Q : Exit → Act → World → Prop} {w0 W : World} {v : Value} {L : List Sp} {z1 z2 : Int} (hgd : o.guard = none) (s x : Operand)
    (ho : o.op = .call { callee := .builtin .append, args := #[s, x], argTypes := #[22, 22] }) (hs : a.eval s = v) (hown : OwnS W w0.heap.size v L) (hbw : Below w0.heap.size w0 W)
    {n : Nat} (hx : a.eval x = .slice (some ⟨n, 0, none⟩) 1 1) (hn : n = W.heap.size) (hlen : L.length < 1000000000000)
    (h : ∀ v' w', OwnS w' w0.heap.size v' (L ++ [(z1, z2)]) → Below w0.heap.size w0 w' → (∀ b off, b < W.heap.size → v.ownBlock ≠ some b → w'.cell? ⟨b, off, none⟩ = W.cell? ⟨b, off, none⟩) → W.heap.size ≤ w'.heap.size →
      wpList Tryz.prog ops Q rest (a.put o.dst v') w') : wpList Tryz.prog ops Q (o :: rest) a (W.alloc (.cells #[.int .i64 z1, .int .i64 z2] 44)) := by
  subst hn
  obtain ⟨i0, hi, hz0, hz1, hz2⟩ := info_parts Tryz.infoSpan
  have hsz := hbw.size
  refine wpList_append_own _ hgd s x 22 ho w0.heap.size 44 i0 (.agg #[.int .i64 0, .int .i64 0]) 2 16 Tryz.underlying22 hi hz0 hz1 hz2 rfl (by decide) v L.length (flatS L) hs (hown.alloc _) ⟨W.heap.size, 0, none⟩ 1 1 [.int .i64 z1, .int .i64 z2] hx rfl ?_ ?_ (by unfold maxLen; omega) (by omega) (by simp; omega) ?_
  · intro j u hu
    have hj := (List.getElem?_eq_some_iff.1 hu).1
    rw [WideShapes.add_plain]
    simp at hj
    rcases (by omega : j = 0 ∨ j = 1) with rfl | rfl
    · simp at hu; subst hu; simp
    · simp at hu; subst hu; simp
  · intro u hu; simp at hu; rcases hu with rfl | rfl <;> rfl
  · intro v' w' hown' hg _
    refine h v' w' ?_ ?_ ?_ ?_
    · unfold OwnS
      rw [flatS_append]
      simpa [flatS] using hown'
    · exact (hbw.alloc hsz _).grown hg (by simp; omega) (fun k hk => (hown.lt k hk).1)
    · intro b off hb hne
      rw [World.cell?_of_block (w := W.alloc (.cells #[.int .i64 z1, .int .i64 z2] 44)) (hg.block b (by simp; omega) (fun e => hne e.symm))]
      exact World.cell?_alloc_past _ _ _ hb
    · have := hg.size; simp at this; omega

theorem OwnI.form {w : World} {B : Nat} {v : Value} {l : List Int} (h : OwnI w B v l) : ∃ a c, v = .slice a l.length c ∧ (∀ i, i < l.length → ∃ g, a = some ⟨g, 0, none⟩ ∧ g < w.heap.size ∧ w.cell? ⟨g, i, none⟩ = some (.int .i64 (l.getD i 0))) := by
  have h' := h
  have hlt := h.lt
  rcases h.2 with ⟨rfl, h0⟩ | ⟨g, cap, cur, rfl, _⟩
  · exact ⟨none, 0, by rw [h0], fun i hi => by omega⟩
  · refine ⟨some ⟨g, 0, none⟩, cap, rfl, fun i hi => ⟨g, rfl, (hlt g rfl).2, ?_⟩⟩
    rw [World.ownsRow.cellAt h' i (by omega)]
    simp [flatI, List.getD_eq_getElem?_getD, List.getElem?_eq_getElem hi]
theorem OwnS.form {w : World} {B : Nat} {v : Value} {l : List Sp} (h : OwnS w B v l) : ∃ a c, v = .slice a l.length c ∧ (∀ i, i < l.length → ∃ g, a = some ⟨g, 0, none⟩ ∧ g < w.heap.size ∧ w.cell? ⟨g, i * 2, none⟩ = some (.int .i64 (l.getD i (0, 0)).1) ∧ w.cell? ⟨g, i * 2 + 1, none⟩ = some (.int .i64 (l.getD i (0, 0)).2)) := by
  have h' := h
  have hlt := h.lt
  rcases h.2 with ⟨rfl, h0⟩ | ⟨g, cap, cur, rfl, _⟩
  · exact ⟨none, 0, by rw [h0], fun i hi => by omega⟩
  · refine ⟨some ⟨g, 0, none⟩, cap, rfl, fun i hi => ⟨g, rfl, (hlt g rfl).2, ?_, ?_⟩⟩
    · rw [World.ownsRow.cellAt h' (i * 2) (by omega)]
      exact (flatS_get l i hi).1
    · rw [World.ownsRow.cellAt h' (i * 2 + 1) (by omega)]
      exact (flatS_get l i hi).2

def ClPost (l : List Sp) (w : World) (e : Ending) (w' : World) : Prop := ∃ v', e = .returned v' ∧ OwnS w' w.heap.size v' l ∧ Below w.heap.size w w'

set_option maxRecDepth 100000 in
set_option maxHeartbeats 400000 in
theorem clone_any (v : Value) (l : List Sp) (w : World) (h : RdS w v l) :
    Calls Tryz.prog 125 #[v] w (ClPost l w) := by
  have HR := Lib.hid h
  obtain ⟨a, c, rfl, hl, hc⟩ := h
  have qT : ∀ (w : World) (a : Option Addr) (n c n' c' : Nat), (binOp .eql 22 (.slice a n c) (.slice none n' c')).run Tryz.prog w = .ok (.bool a.isNone) w := fun w a n c n' c' => Lib.run_eql_slice_nil w _ _ a n c n' c' Tryz.underlying22
  obtain ⟨i0, hi, hz0, hz1, hz2⟩ := info_parts Tryz.infoSpan
  cases a with
  | none =>
    have h0 : l = [] := by
      cases l with
      | nil => rfl
      | cons s r => obtain ⟨b, o, e, _⟩ := hc 0 (by simp); cases e
    subst h0
    clear hc
    go_enter Tryz.func125, Tryz.ntmps125
    go_wp2
    go_ret
    exact ⟨_, rfl, World.ownsRow_nil _ _ _ _, Below.refl _ _⟩
  | some ad =>
    have HL := Lib.hid hl
    have H0 := Lib.hid (World.ownsRow_made (base := w.heap.size) (e := 44) (size := 2) w #[] 0 (Nat.le_refl _) (Nat.zero_le _) rfl)
    have hrd := HR.out.below (w' := w.alloc (.cells #[] 44)) (Nat.le_refl _) ((Below.refl _ w).alloc (Nat.le_refl _) _)
    have HC : ∃ b o, l.length = l.length ∧ (0 < l.length → ad = ⟨b, o, none⟩) := by
      by_cases h0 : 0 < l.length
      · obtain ⟨b, o, e, _⟩ := hc 0 h0
        cases e
        exact ⟨b, o, rfl, fun _ => rfl⟩
      · exact ⟨0, 0, rfl, fun h => absurd h h0⟩
    have HN : Hid (∀ j u, (flatS l)[j]? = some u → (w.alloc (.cells #[] 44)).cell? (ad.add j) = some u) := by
      intro j u hu
      obtain ⟨b, o, _, hb⟩ := HC
      have hj := (List.getElem?_eq_some_iff.1 hu).1
      rw [flatS_length] at hj
      have e := hb (by omega)
      subst e
      exact hrd.cells.2 j u hu
    clear hc hl HC hrd
    have HZ := Lib.hid (And.intro hi (And.intro hz0 (And.intro hz1 hz2)))
    clear hi hz0 hz1 hz2
    go_enter Tryz.func125, Tryz.ntmps125
    go_wp2_with (at_builtin; refine wpList_append_own _ rfl _ _ 22 rfl w.heap.size 44 i0 (.agg #[.int .i64 0, .int .i64 0]) 2 16 Tryz.underlying22 HZ.out.1 HZ.out.2.1 HZ.out.2.2.1 HZ.out.2.2.2 rfl (by decide) _ 0 [] rfl H0.out ad l.length c (flatS l) rfl (flatS_length l) HN.out (flatS_oneCell l) (by have := HL.out; unfold maxLen; omega) (by have := HL.out; omega) (by simp) ?_; intro v' w1 hown hgrow _; simp only [Nat.zero_add, List.nil_append] at hown; have HO := Lib.hid hown; have HG := Lib.hid hgrow; clear hown hgrow)
    go_ret
    exact ⟨v', rfl, HO.out, ((Below.refl _ w).alloc (Nat.le_refl _) _).grown HG.out (by simp) (fun k hk => by cases hk; exact Nat.le_refl _)⟩
end Go.Proofs.YtkfonfheakpcbaaGreat
