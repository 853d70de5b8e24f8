import Derived.Test.YtlbjfbpejomkmaaGreatWkAgQm
/- Agenda: slices.Clone of tasks; due times that are set later. -/
namespace Go.Proofs.YtlbjfbpejomkmaaGreat
open Go.RowKit Wk

def ClnK (W : World) (B : Nat) (v : Value) (n : Nat) (F : Nat → Kv) : Prop := ∃ a c, v = .slice a n c ∧ ∀ i, i < n → ∃ g, a = some ⟨g, 0, none⟩ ∧ B ≤ g ∧ Cells5 W g (i * 5) (F i) ∧ W.frozen? ⟨g, i * 5 + 4, none⟩ = false
theorem ClnK.below {W X : World} {B n : Nat} {v : Value} {F : Nat → Kv} (h : ClnK W B v n F) (hb : Below W.heap.size W X) : ClnK X B v n F := by
 obtain ⟨a, c, rfl, hc⟩ := h
 refine ⟨a, c, rfl, fun i hi => ?_⟩
 obtain ⟨g, rfl, h1, h2, h3⟩ := hc i hi
 exact ⟨g, rfl, h1, h2.below hb, keepFz hb h2.2.2.2.2 h3⟩
theorem ClnK.rd {W : World} {B : Nat} {v : Value} {F : Nat → Kv} {L : List Kv} (h : ClnK W B v L.length F) (hl : L.length ≤ 1000000) (hF : ∀ i, i < L.length → F i = L.getD i kv0) (ha : ∀ i, i < L.length → RdJ W (L.getD i kv0).2 (L.getD i kv0).1.af) : RdK W v L := by
 obtain ⟨a, c, rfl, hc⟩ := h
 refine ⟨a, c, rfl, by omega, fun i hi => ⟨ha i hi, ?_⟩⟩
 obtain ⟨g, rfl, _, h2, _⟩ := hc i hi
 rw [hF i hi] at h2
 exact ⟨g, 0, rfl, by rw [Nat.zero_add]; exact h2⟩
theorem ClnK.set {W : World} {B n g c : Nat} {F : Nat → Kv} (h : ClnK W B (.slice (some ⟨g, 0, none⟩) n c) n F) {k : Nat} (hk : k < n) (x : Int) :
  ClnK (W.setCell ⟨g, k * 5 + 4, none⟩ (.int .i64 x)) B (.slice (some ⟨g, 0, none⟩) n c) n fun i => if i = k then ({ (F k).1 with du := x }, (F k).2) else F i := by
 obtain ⟨a, c', e, hc⟩ := h
 cases e
 refine ⟨_, _, rfl, fun i hi => ?_⟩
 obtain ⟨g', e, h1, ⟨q0, q1, q2, q3, q4⟩, h3⟩ := hc i hi
 cases e
 refine ⟨g, rfl, h1, ?_, (frz_set ..).trans h3⟩
 by_cases e : i = k
 ·subst e
  show Cells5 _ g (i * 5) (if i = i then (({ (F i).1 with du := x }, (F i).2) : Kv) else F i)
  rw [if_pos rfl]
  exact ⟨(cell_ne (Or.inr (by omega))).trans q0, (cell_ne (Or.inr (by omega))).trans q1, (cell_ne (Or.inr (by omega))).trans q2, (cell_ne (Or.inr (by omega))).trans q3, cell_eq q4⟩
 ·show Cells5 _ g (i * 5) (if i = k then (({ (F k).1 with du := x }, (F k).2) : Kv) else F i)
  rw [if_neg e]
  exact ⟨(cell_ne (Or.inr (by omega))).trans q0, (cell_ne (Or.inr (by omega))).trans q1, (cell_ne (Or.inr (by omega))).trans q2, (cell_ne (Or.inr (by omega))).trans q3, (cell_ne (Or.inr (by omega))).trans q4⟩
theorem rdK_cells {w : World} {b o n c : Nat} {L : List Kv} (h : RdK w (.slice (some ⟨b, o, none⟩) n c) L) : ∀ j u, (flatK L)[j]? = some u → w.cell? ((⟨b, o, none⟩ : Addr).add j) = some u := by
 obtain ⟨a, c', e, hl, hc⟩ := h
 cases e
 intro j u hu
 have hj : j < L.length * 5 := by
  have := (List.getElem?_eq_some_iff.1 hu).1
  rw [flatK_length] at this; exact this
 obtain ⟨_, b', o', e, c0, c1, c2, c3, c4⟩ := hc (j / 5) (by omega)
 cases e
 obtain ⟨g0, g1, g2, g3, g4⟩ := flatK_get L (j / 5) (by omega)
 rcases (by omega : j = j / 5 * 5 ∨ j = j / 5 * 5 + 1 ∨ j = j / 5 * 5 + 2 ∨ j = j / 5 * 5 + 3 ∨ j = j / 5 * 5 + 4) with e | e | e | e | e
 ·rw [e] at hu ⊢; rw [g0] at hu; cases hu; rw [WideShapes.add_plain]; exact c0
 ·rw [e] at hu ⊢; rw [g1] at hu; cases hu; rw [WideShapes.add_plain]; exact c1
 ·rw [e] at hu ⊢; rw [g2] at hu; cases hu; rw [WideShapes.add_plain]; exact c2
 ·rw [e] at hu ⊢; rw [g3] at hu; cases hu; rw [WideShapes.add_plain]; exact c3
 ·rw [e] at hu ⊢; rw [g4] at hu; cases hu; rw [WideShapes.add_plain]; exact c4
theorem flatK_oneCell {w : World} {v : Value} {L : List Kv} (h : RdK w v L) : ∀ u ∈ flatK L, u.oneCell' = true := by
 intro u hu
 simp only [flatK, List.mem_flatMap] at hu
 obtain ⟨x, hx, hu⟩ := hu
 obtain ⟨i, hi, rfl⟩ := List.getElem_of_mem hx
 obtain ⟨_, _, _, _, hc⟩ := h
 obtain ⟨hj, _⟩ := hc i hi
 obtain ⟨p, q, e⟩ := hj.form
 have e' : L[i].2 = .slice p (L.getD i kv0).1.af.length q := by rw [← e, List.getD_eq_getElem?_getD, List.getElem?_eq_getElem hi]; rfl
 rw [e'] at hu
 simp at hu
 rcases hu with rfl | rfl | rfl | rfl | rfl <;> rfl
def ClKPost (L : List Kv) (w : World) (e : Ending) (w' : World) : Prop := ∃ v', e = .returned v' ∧ ClnK w' w.heap.size v' L.length (fun i => L.getD i kv0) ∧ Below w.heap.size w w'
theorem cln_own {w : World} {B : Nat} {v : Value} {L : List Kv} (h : w.ownsRow B 44 5 v L.length (flatK L)) : ClnK w B v L.length fun i => L.getD i kv0 := by
 have h' := h
 rcases h.2 with ⟨rfl, h0⟩ | ⟨g, cap, cur, rfl, hB, hg, _⟩
 ·exact ⟨none, 0, by rw [h0], fun i hi => by omega⟩
 ·refine ⟨some ⟨g, 0, none⟩, cap, rfl, fun i hi => ⟨g, rfl, hB, ?_, by simp [World.frozen?, hg]⟩⟩
  obtain ⟨q0, q1, q2, q3, q4⟩ := flatK_get L i hi
  unfold Cells5
  rw [World.ownsRow.cellAt h' (i * 5) (by omega), World.ownsRow.cellAt h' (i * 5 + 1) (by omega), World.ownsRow.cellAt h' (i * 5 + 2) (by omega), World.ownsRow.cellAt h' (i * 5 + 3) (by omega), World.ownsRow.cellAt h' (i * 5 + 4) (by omega)]
  exact ⟨q0, q1, q2, q3, q4⟩

set_option maxRecDepth 100000 in
set_option maxHeartbeats 400000 in
theorem cloneK_any (v : Value) (L : List Kv) (w : World) (h : RdK w v L) (hlen : L.length ≤ 1000000) :
  Calls Tryz.prog 35 #[v] w (ClKPost L w) := by
 have HR := Lib.hid h
 have h1 := flatK_oneCell h
 obtain ⟨a, c, rfl, hl, hc⟩ := h
 have qT : ∀ (w : World) (a : Option Addr) (n c n' c' : Nat), (binOp .eql 22 (.slice a n c) (.slice none n' c')).run Tryz.prog w = .ok (.bool a.isNone) w := fun w a n c n' c' => Lib.run_eql_slice_nil w _ _ a n c n' c' Tryz.underlying22
 obtain ⟨i0, hi, hz0, hz1, hz2⟩ := info_parts Tryz.infoTask
 cases a with
 | none =>
  have h0 : L = [] := by
   cases L with
   | nil => rfl
   | cons s r => obtain ⟨_, b, o, e, _⟩ := hc 0 (by simp); cases e
  subst h0
  clear hc h1
  go_enter Tryz.func35, Tryz.ntmps35
  go_wp2
  go_ret
  exact ⟨_, rfl, ⟨none, 0, rfl, fun i hi => by simp at hi⟩, Below.refl _ _⟩
 | some ad =>
  have HL := Lib.hid hlen
  have H1 := Lib.hid h1
  have H0 := Lib.hid (World.ownsRow_made (base := w.heap.size) (e := 44) (size := 5) w #[] 0 (Nat.le_refl _) (Nat.zero_le _) rfl)
  have hrd := HR.out.below (w' := w.alloc (.cells #[] 44)) ((Below.refl _ w).alloc (Nat.le_refl _) _)
  have HC : ∃ b o, 0 < L.length → ad = ⟨b, o, none⟩ := by
   by_cases h0 : 0 < L.length
   ·obtain ⟨_, b, o, e, _⟩ := hc 0 h0
    cases e
    exact ⟨b, o, fun _ => rfl⟩
   ·exact ⟨0, 0, fun h => absurd h h0⟩
  have HN : Hid (∀ j u, (flatK L)[j]? = some u → (w.alloc (.cells #[] 44)).cell? (ad.add j) = some u) := by
   intro j u hu
   obtain ⟨b, o, hb⟩ := HC
   have hj := (List.getElem?_eq_some_iff.1 hu).1
   rw [flatK_length] at hj
   have e := hb (by omega)
   subst e
   exact rdK_cells hrd j u hu
  clear hc hl HC hrd h1 hlen
  have HZ := Lib.hid (And.intro hi (And.intro hz0 (And.intro hz1 hz2)))
  clear hi hz0 hz1 hz2
  go_enter Tryz.func35, Tryz.ntmps35
  go_wp2_with (at_builtin; refine wpList_append_own _ rfl _ _ 22 rfl w.heap.size 44 i0 (.agg #[.string ⟨#[]⟩, .int .i64 0, .int .i64 0, .slice none 0 0, .int .i64 0]) 5 64 Tryz.underlying22 HZ.out.1 HZ.out.2.1 HZ.out.2.2.1 HZ.out.2.2.2 rfl (by decide) _ 0 [] rfl H0.out ad L.length c (flatK L) rfl (flatK_length L) HN.out H1.out (by have := HL.out; unfold maxLen; omega) (by have := HL.out; omega) (by simp) ?_; intro v' w1 hown hgrow _; simp only [Nat.zero_add, List.nil_append] at hown; have HO := Lib.hid hown; have HG := Lib.hid hgrow; clear hown hgrow)
  go_ret
  exact ⟨v', rfl, cln_own HO.out, ((Below.refl _ w).alloc (Nat.le_refl _) _).grown HG.out (by simp) (fun k hk => by cases hk; exact Nat.le_refl _)⟩
end Go.Proofs.YtlbjfbpejomkmaaGreat
