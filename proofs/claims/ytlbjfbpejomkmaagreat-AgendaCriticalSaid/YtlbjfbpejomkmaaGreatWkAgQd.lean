import Derived.Test.YtlbjfbpejomkmaaGreatWkAgQc
import Derived.Laws.AppendOwnNone
import Derived.Test.YtlbjfbpejomkmaaGreatWkAgQa
import Derived.Test.YtlbjfbpejomkmaaGreatWkBe
/- Agenda: what keeps memory beside the search; a copy of a list of integers; stores. -/
namespace Go.Proofs.YtlbjfbpejomkmaaGreat
open Go.RowKit Wk

theorem cell_ne {W : World} {b o b' o' : Nat} {v : Value} (h : b ≠ b' ∨ o ≠ o') : (W.setCell ⟨b, o, none⟩ v).cell? ⟨b', o', none⟩ = W.cell? ⟨b', o', none⟩ := by
 rcases h with h | h
 ·have _ := h
  simp [go_sem]
 ·simp [go_sem, h]
theorem frz_set (W : World) (b o b' o' : Nat) (v : Value) : (W.setCell ⟨b, o, none⟩ v).frozen? ⟨b', o', none⟩ = W.frozen? ⟨b', o', none⟩ := by
 simp [go_sem]
theorem cell_eq {W : World} {b o : Nat} {u v : Value} (h : W.cell? ⟨b, o, none⟩ = some u) : (W.setCell ⟨b, o, none⟩ v).cell? ⟨b, o, none⟩ = some v := by
 simp [go_sem, h]

def K3 (B b ba bd : Nat) (W X : World) : Prop := Below B W X ∧ ∀ i, i < W.heap.size → i ≠ b → i ≠ ba → i ≠ bd → X.heap[i]? = W.heap[i]?
theorem K3.refl (B b ba bd : Nat) (W : World) : K3 B b ba bd W W := ⟨Below.refl _ _, fun _ _ _ _ _ => rfl⟩
theorem K3.trans {B b ba bd : Nat} {W X Y : World} (h : K3 B b ba bd W X) (h' : K3 B b ba bd X Y) : K3 B b ba bd W Y :=
 ⟨h.1.trans h'.1, fun i hi h1 h2 h3 => (h'.2 i (Nat.lt_of_lt_of_le hi h.1.size) h1 h2 h3).trans (h.2 i hi h1 h2 h3)⟩
theorem K3.of {B b ba bd : Nat} {W X : World} (hB : B ≤ W.heap.size) (h : Below W.heap.size W X) : K3 B b ba bd W X := ⟨h.mono hB, fun i hi _ _ _ => h.block i hi⟩
theorem K3.set {B b ba bd p o : Nat} (W : World) (v : Value) (hB : B ≤ p) (hp : p = b ∨ p = ba ∨ p = bd) : K3 B b ba bd W (W.setCell ⟨p, o, none⟩ v) :=
 ⟨(Below.refl _ _).setCell (p := ⟨p, o, none⟩) hB v, fun i _ h1 h2 h3 => Below.heap_setCell _ _ _ _ (by show i ≠ p; rcases hp with rfl | rfl | rfl <;> assumption)⟩
theorem K3.cell {B b ba bd : Nat} {W X : World} (h : K3 B b ba bd W X) {p o : Nat} {v : Value} (h1 : p ≠ b) (h2 : p ≠ ba) (h3 : p ≠ bd) (hc : W.cell? ⟨p, o, none⟩ = some v) : X.cell? ⟨p, o, none⟩ = some v := by
 have hlt := World.block_lt_of_cell? W ⟨p, o, none⟩ hc
 rw [World.cell?_of_block (w := W) (a := ⟨p, o, none⟩) (h.2 p hlt h1 h2 h3)]; exact hc
def RdJ3 (b ba bd : Nat) (W : World) (v : Value) (L : List Int) : Prop :=
 ∃ a c, v = .slice a L.length c ∧ L.length ≤ 1152921504606846976 ∧ ∀ i, i < L.length → ∃ g o, a = some ⟨g, o, none⟩ ∧ (g ≠ b ∧ g ≠ ba ∧ g ≠ bd) ∧ W.cell? ⟨g, o + i, none⟩ = some (.int .i64 (L.getD i 0))
theorem RdJ3.rd {b ba bd : Nat} {W : World} {v : Value} {L : List Int} (h : RdJ3 b ba bd W v L) : RdJ W v L := by
 obtain ⟨a, c, e, hl, hc⟩ := h
 exact ⟨a, c, e, hl, fun i hi => let ⟨g, o, e, _, hg⟩ := hc i hi; ⟨g, o, e, hg⟩⟩
theorem RdJ3.keep {B b ba bd : Nat} {W X : World} {v : Value} {L : List Int} (h : RdJ3 b ba bd W v L) (hk : K3 B b ba bd W X) : RdJ3 b ba bd X v L := by
 obtain ⟨a, c, e, hl, hc⟩ := h
 exact ⟨a, c, e, hl, fun i hi => let ⟨g, o, e, hn, hg⟩ := hc i hi; ⟨g, o, e, hn, hk.cell hn.1 hn.2.1 hn.2.2 hg⟩⟩
theorem OwnI.rd3 {W : World} {B b ba bd : Nat} {v : Value} {L : List Int} (h : OwnI W B v L) (h1 : b < B) (h2 : ba < B) (h3 : bd < B) (hl : L.length ≤ 1000000) : RdJ3 b ba bd W v L := by
 have h' := h
 rcases h.2 with ⟨rfl, h0⟩ | ⟨g, cap, cur, rfl, hgb, _⟩
 ·obtain rfl : L = [] := List.eq_nil_of_length_eq_zero h0
  exact ⟨none, 0, rfl, by simp, fun i hi => by simp at hi⟩
 ·refine ⟨some ⟨g, 0, none⟩, cap, rfl, by omega, fun i hi => ⟨g, 0, rfl, ⟨by omega, by omega, by omega⟩, ?_⟩⟩
  have := World.ownsRow.cellAt h' i (by omega)
  rw [Nat.zero_add, this]
  simp [flatI, List.getElem?_map, List.getElem?_eq_getElem hi, List.getD_eq_getElem?_getD]

theorem app_intsJ {ops : Array Oper} {rest : List Oper} {o : Oper} {a : Act} {Q : Exit → Act → World → Prop} {w0 W : World} {v : Value} {L N : List Int} (hgd : o.guard = none) (s x : Operand)
  (ho : o.op = .call { callee := .builtin .append, args := #[s, x], argTypes := #[36, 36] }) (hs : a.eval s = v) (hown : OwnI W w0.heap.size v L) (hbw : Below w0.heap.size w0 W)
  {p : Option Addr} {m c : Nat} (hx : a.eval x = .slice p m c) (hm : m = N.length) (hp : (p = none ∧ c = 0 ∧ N = []) ∨ ∃ g k, p = some ⟨g, k, none⟩ ∧ ∀ j, j < N.length → W.cell? ⟨g, k + j, none⟩ = some (.int .i64 (N.getD j 0)))
  (hlen : L.length + N.length < 1000000000000)
  (h : ∀ v' w', OwnI w' w0.heap.size v' (L ++ N) → Below w0.heap.size w0 w' → wpList Tryz.prog ops Q rest (a.put o.dst v') w') : wpList Tryz.prog ops Q (o :: rest) a W := by
 obtain ⟨i0, hi, hz0, hz1, hz2⟩ := info_parts Tryz.infoInt
 have hsz := hbw.size
 rcases hp with ⟨rfl, rfl, rfl⟩ | ⟨g, k, rfl, hc⟩
 ·subst hm
  refine wpList_append_own_none hgd s x 36 ho w0.heap.size 3 i0 1 Tryz.underlying36 hi v L.length (flatI L) hs hown hx ?_
  refine h v W ?_ hbw
  rw [List.append_nil]
  exact hown
 ·subst hm
  refine wpList_append_own _ hgd s x 36 ho w0.heap.size 3 i0 (.int .i64 0) 1 8 Tryz.underlying36 hi hz0 hz1 hz2 rfl (by decide) v L.length (flatI L) hs hown ⟨g, k, none⟩ N.length c (flatI N) hx (by simp [flatI]) ?_ ?_ (by unfold maxLen; omega) (by omega) hsz ?_
  ·intro j u hu
   have hj := (List.getElem?_eq_some_iff.1 hu).1
   have hj' : j < N.length := by simpa [flatI] using hj
   rw [WideShapes.add_plain, hc j hj']
   rw [← hu]
   simp [flatI, List.getD_eq_getElem?_getD, List.getElem?_eq_getElem hj']
  ·intro u hu
   unfold flatI at hu
   obtain ⟨z, _, rfl⟩ := List.mem_map.1 hu
   rfl
  ·intro v' w' hown' hg _
   refine h v' w' ?_ ?_
   ·unfold OwnI
    rw [List.length_append]
    have : flatI (L ++ N) = flatI L ++ flatI N := by simp [flatI]
    rw [this]
    exact hown'
   ·exact hbw.grown hg hsz (fun k hk => (hown.lt k hk).1)


def ClJPost (L : List Int) (w : World) (e : Ending) (w' : World) : Prop := ∃ v', e = .returned v' ∧ OwnI w' w.heap.size v' L ∧ Below w.heap.size w w'
set_option maxRecDepth 100000 in
set_option maxHeartbeats 1000000 in
theorem cloneJ_any (v : Value) (L : List Int) (w : World) (h : RdJ w v L) (hp : 0 < L.length) (hl : L.length ≤ 1000000) :
  Calls Tryz.prog 32 #[v] w (ClJPost L w) := by
 obtain ⟨a, c, rfl, _, hc⟩ := h
 obtain ⟨g, o, rfl, _⟩ := hc 0 hp
 have hcell : ∀ j, j < L.length → (w.alloc (.cells #[] 3)).cell? ⟨g, o + j, none⟩ = some (.int .i64 (L.getD j 0)) := fun j hj => by
  obtain ⟨g', o', e, h1⟩ := hc j hj
  cases e
  exact keepCell ((Below.refl _ w).alloc (Nat.le_refl _) _) h1
 have qT : ∀ (w : World) (a : Option Addr) (n c n' c' : Nat), (binOp .eql 36 (.slice a n c) (.slice none n' c')).run Tryz.prog w = .ok (.bool a.isNone) w := fun w a n c n' c' => Lib.run_eql_slice_nil w _ _ a n c n' c' Tryz.underlying36
 have H0 : Hid (OwnI (w.alloc (.cells #[] 3)) w.heap.size (.slice (some ⟨w.heap.size, 0, none⟩) 0 0) []) := World.ownsRow_made (base := w.heap.size) (e := 3) (size := 1) w #[] 0 (Nat.le_refl _) (Nat.zero_le _) rfl
 have HB0 : Hid (Below w.heap.size w (w.alloc (.cells #[] 3))) := (Below.refl _ w).alloc (Nat.le_refl _) _
 have HC := Lib.hid hcell
 clear hc hcell
 go_enter Tryz.func32, Tryz.ntmps32
 go_wp2_with (at_builtin; refine app_intsJ rfl (.tmp 5) (.tmp 6) rfl rfl H0.out HB0.out (N := L) rfl rfl (Or.inr ⟨g, o, rfl, HC.out⟩) (by simp; omega) ?_; intro v2 w2 o2 b2)
 go_ret
 exact ⟨_, rfl, by simpa using o2, b2⟩
theorem OwnI.cellsJ {W : World} {B : Nat} {v : Value} {L : List Int} (h : OwnI W B v L) (hp : 0 < L.length) : ∃ g cap, v = .slice (some ⟨g, 0, none⟩) L.length cap ∧ B ≤ g ∧ ∀ i, i < L.length → W.cell? ⟨g, i, none⟩ = some (.int .i64 (L.getD i 0)) ∧ W.frozen? ⟨g, i, none⟩ = false := by
 have h' := h
 rcases h.2 with ⟨rfl, h0⟩ | ⟨g, cap, cur, rfl, hgb, hgg, _⟩
 ·omega
 ·refine ⟨g, cap, rfl, hgb, fun i hi => ⟨?_, by simp [World.frozen?, hgg]⟩⟩
  have := World.ownsRow.cellAt h' i (by omega)
  rw [this]
  simp [flatI, List.getElem?_map, List.getElem?_eq_getElem hi, List.getD_eq_getElem?_getD]
theorem rd3_set {W : World} {b ba bd g cap : Nat} {L : List Int} (hc : ∀ i, i < L.length → W.cell? ⟨g, i, none⟩ = some (.int .i64 (L.getD i 0))) (h1 : g ≠ b) (h2 : g ≠ ba) (h3 : g ≠ bd) (hl : L.length ≤ 1000000) {i : Nat} (hi : i < L.length) (x : Int) :
  RdJ3 b ba bd (W.setCell ⟨g, i, none⟩ (.int .i64 x)) (.slice (some ⟨g, 0, none⟩) L.length cap) (L.set i x) := by
 refine ⟨some ⟨g, 0, none⟩, cap, by rw [List.length_set], by rw [List.length_set]; omega, fun k hk => ⟨g, 0, rfl, ⟨h1, h2, h3⟩, ?_⟩⟩
 rw [List.length_set] at hk
 rw [Nat.zero_add, getD_setL L i k x 0 hi]
 by_cases e : k = i
 ·subst e
  rw [if_pos rfl]
  exact cell_eq (hc k hk)
 ·rw [if_neg e, cell_ne (Or.inr (fun q => e q.symm))]
  exact hc k hk

/-! ## stores into the search -/
theorem SrW.setLeft {W : World} {b ba bd : Nat} {vl vR : Value} {start left : Int} {out : Bool} {am : List Sp} {d : List Bool} (h : SrW W b ba bd vl vR start left out am d) (x : Int) : SrW (W.setCell ⟨b, 3, none⟩ (.int .i64 x)) b ba bd vl vR start x out am d :=
 ⟨(cell_ne (Or.inr (by decide))).trans h.c0, (cell_ne (Or.inr (by decide))).trans h.c1, (cell_ne (Or.inr (by decide))).trans h.c2, cell_eq h.c3, (cell_ne (Or.inr (by decide))).trans h.c4, (cell_ne (Or.inr (by decide))).trans h.c5, (cell_ne (Or.inr (by decide))).trans h.c6, (frz_set ..).trans h.f3, (frz_set ..).trans h.f4,
  fun i hi => ⟨⟨(cell_ne (Or.inl h.n1)).trans (h.pa i hi).1.1, (cell_ne (Or.inl h.n1)).trans (h.pa i hi).1.2⟩, (frz_set ..).trans (h.pa i hi).2.1, (frz_set ..).trans (h.pa i hi).2.2⟩,
  fun i hi => ⟨(cell_ne (Or.inl h.n2)).trans (h.pd i hi).1, (frz_set ..).trans (h.pd i hi).2⟩, h.n1, h.n2, h.n3⟩
theorem SrW.setOut {W : World} {b ba bd : Nat} {vl vR : Value} {start left : Int} {out : Bool} {am : List Sp} {d : List Bool} (h : SrW W b ba bd vl vR start left out am d) (x : Bool) : SrW (W.setCell ⟨b, 4, none⟩ (.bool x)) b ba bd vl vR start left x am d :=
 ⟨(cell_ne (Or.inr (by decide))).trans h.c0, (cell_ne (Or.inr (by decide))).trans h.c1, (cell_ne (Or.inr (by decide))).trans h.c2, (cell_ne (Or.inr (by decide))).trans h.c3, cell_eq h.c4, (cell_ne (Or.inr (by decide))).trans h.c5, (cell_ne (Or.inr (by decide))).trans h.c6, (frz_set ..).trans h.f3, (frz_set ..).trans h.f4,
  fun i hi => ⟨⟨(cell_ne (Or.inl h.n1)).trans (h.pa i hi).1.1, (cell_ne (Or.inl h.n1)).trans (h.pa i hi).1.2⟩, (frz_set ..).trans (h.pa i hi).2.1, (frz_set ..).trans (h.pa i hi).2.2⟩,
  fun i hi => ⟨(cell_ne (Or.inl h.n2)).trans (h.pd i hi).1, (frz_set ..).trans (h.pd i hi).2⟩, h.n1, h.n2, h.n3⟩
theorem SrW.setDone {W : World} {b ba bd : Nat} {vl vR : Value} {start left : Int} {out : Bool} {am : List Sp} {d : List Bool} (h : SrW W b ba bd vl vR start left out am d) {i : Nat} (hi : i < d.length) (x : Bool) : SrW (W.setCell ⟨bd, i, none⟩ (.bool x)) b ba bd vl vR start left out am (d.set i x) := by
 have e : ∀ {o : Nat}, (W.setCell ⟨bd, i, none⟩ (.bool x)).cell? ⟨b, o, none⟩ = W.cell? ⟨b, o, none⟩ := cell_ne (Or.inl (fun q => h.n2 q.symm))
 refine ⟨e.trans h.c0, e.trans h.c1, e.trans h.c2, e.trans h.c3, e.trans h.c4, e.trans h.c5, by rw [List.length_set]; exact e.trans h.c6, (frz_set ..).trans h.f3, (frz_set ..).trans h.f4, ?_, ?_, h.n1, h.n2, h.n3⟩
 ·exact fun k hk => ⟨⟨(cell_ne (Or.inl (fun q => h.n3 q.symm))).trans (h.pa k hk).1.1, (cell_ne (Or.inl (fun q => h.n3 q.symm))).trans (h.pa k hk).1.2⟩, (frz_set ..).trans (h.pa k hk).2.1, (frz_set ..).trans (h.pa k hk).2.2⟩
 ·intro k hk
  rw [List.length_set] at hk
  refine ⟨?_, (frz_set ..).trans (h.pd k hk).2⟩
  unfold dAt
  rw [getD_setL d i k x false hi]
  by_cases q : k = i
  ·subst q
   rw [if_pos rfl]
   exact cell_eq (h.pd k hk).1
  ·rw [if_neg q, cell_ne (Or.inr (fun r => q r.symm))]
   exact (h.pd k hk).1
theorem SrW.setAt {W : World} {b ba bd : Nat} {vl vR : Value} {start left : Int} {out : Bool} {am : List Sp} {d : List Bool} (h : SrW W b ba bd vl vR start left out am d) {i : Nat} (hi : i < am.length) (s : Sp) :
  SrW ((W.setCell ⟨ba, i * 2, none⟩ (.int .i64 s.1)).setCell ⟨ba, i * 2 + 1, none⟩ (.int .i64 s.2)) b ba bd vl vR start left out (am.set i s) d := by
 have e : ∀ {o : Nat}, ((W.setCell ⟨ba, i * 2, none⟩ (.int .i64 s.1)).setCell ⟨ba, i * 2 + 1, none⟩ (.int .i64 s.2)).cell? ⟨b, o, none⟩ = W.cell? ⟨b, o, none⟩ := (cell_ne (Or.inl (fun q => h.n1 q.symm))).trans (cell_ne (Or.inl (fun q => h.n1 q.symm)))
 have f : ∀ {p o : Nat}, ((W.setCell ⟨ba, i * 2, none⟩ (.int .i64 s.1)).setCell ⟨ba, i * 2 + 1, none⟩ (.int .i64 s.2)).frozen? ⟨p, o, none⟩ = W.frozen? ⟨p, o, none⟩ := (frz_set ..).trans (frz_set ..)
 refine ⟨e.trans h.c0, e.trans h.c1, e.trans h.c2, e.trans h.c3, e.trans h.c4, by rw [List.length_set]; exact e.trans h.c5, e.trans h.c6, f.trans h.f3, f.trans h.f4, ?_, ?_, h.n1, h.n2, h.n3⟩
 ·intro k hk
  rw [List.length_set] at hk
  refine ⟨?_, f.trans (h.pa k hk).2.1, f.trans (h.pa k hk).2.2⟩
  unfold spAt
  rw [getD_setL am i k s (0, 0) hi]
  by_cases q : k = i
  ·subst q
   rw [if_pos rfl]
   exact ⟨(cell_ne (Or.inr (by omega))).trans (cell_eq (h.pa k hk).1.1), cell_eq ((cell_ne (Or.inr (by omega))).trans (h.pa k hk).1.2)⟩
  ·rw [if_neg q]
   exact ⟨((cell_ne (Or.inr (by omega))).trans (cell_ne (Or.inr (by omega)))).trans (h.pa k hk).1.1, ((cell_ne (Or.inr (by omega))).trans (cell_ne (Or.inr (by omega)))).trans (h.pa k hk).1.2⟩
 ·exact fun k hk => ⟨((cell_ne (Or.inl h.n3)).trans (cell_ne (Or.inl h.n3))).trans (h.pd k hk).1, f.trans (h.pd k hk).2⟩
end Go.Proofs.YtlbjfbpejomkmaaGreat
namespace Go.Proofs.YtlbjfbpejomkmaaGreat
open Go.RowKit Wk

theorem agline_any (x : Int) (w : World) :
  Calls Tryz.prog 45 #[.int .i64 x] w fun e w' => e = .returned (.bool (lineB x)) ∧ w = w' := by
 go_enter Tryz.func45, Tryz.ntmps45
 go_wp2
 all_goals go_ret
 all_goals exact ⟨ret_bool (by rw [Bool.eq_iff_iff]; simp [lineB]; omega), rfl⟩

def BoxS (W : World) (b : Nat) (x y : Int) : Prop := W.cell? ⟨b, 0, none⟩ = some (.int .i64 x) ∧ W.cell? ⟨b, 1, none⟩ = some (.int .i64 y) ∧ W.frozen? ⟨b, 0, none⟩ = false ∧ W.frozen? ⟨b, 1, none⟩ = false
theorem BoxS.below {W X : World} {b : Nat} {x y : Int} (h : BoxS W b x y) (hb : Below W.heap.size W X) : BoxS X b x y := ⟨keepCell hb h.1, keepCell hb h.2.1, keepFrozen hb h.1 h.2.2.1, keepFrozen hb h.2.1 h.2.2.2⟩
def puS (W : World) (b : Nat) (u v : Value) : World := (W.setCell ⟨b, 0, none⟩ u).setCell ⟨b, 1, none⟩ v
theorem puS_at {W : World} {b : Nat} (u v : Value) {x y : Int} (h : BoxS W b x y) : (puS W b u v).cell? ⟨b, 0, none⟩ = some u ∧ (puS W b u v).cell? ⟨b, 1, none⟩ = some v := by
 obtain ⟨h0, h1, _, _⟩ := h
 constructor <;> simp [puS, go_sem, h0, h1]
theorem puS_below {B : Nat} {w W : World} {b : Nat} (u v : Value) (h : Below B w W) (hb : B ≤ b) : Below B w (puS W b u v) := (h.setCell (p := ⟨b, 0, none⟩) hb u).setCell (p := ⟨b, 1, none⟩) hb v

def EaPost (o : Option Sp) (w : World) (e : Ending) (w' : World) : Prop :=
 e = .returned (.tuple #[.agg #[.int .i64 (o.getD (0, 0)).1, .int .i64 (o.getD (0, 0)).2], .bool o.isSome]) ∧ Below w.heap.size w w'
set_option maxRecDepth 100000 in
set_option maxHeartbeats 4000000 in
theorem earliest_any (t : Tk) (ta : Option Addr) (tn : Nat) (s : St) (vl vr vv : Value) (X : Int) (w : World) (h : RdSt w s vl vr vv) (hb : VB s = true) (hX : -4398046511104 ≤ X) (hX2 : X ≤ 1152921504606846976) (hw1 : 1 ≤ t.wk) (hw2 : t.wk ≤ 4398046511104) :
  Calls Tryz.prog 121 #[.agg #[.string t.nm, .int .i64 t.wk, .int .i64 t.rs, .slice ta t.af.length tn, .int .i64 t.du], .agg #[.int .i64 s.lf.1, vl, .int .i64 s.rt.1, vr, .int .i64 s.fr, .int .i64 s.to, vv], .int .i64 X] w (EaPost (earlM s t.wk X) w) := by
 have HG := Lib.hid (okS_of_VB hb).good
 have HO := Lib.hid (fun W h => wopen_any s vl vr vv X W h)
 have HA := Lib.hid (fun f W h => wAdd_any s vl vr vv f t.wk W h)
 obtain ⟨r, hr⟩ : ∃ r, earlM s t.wk X = r := ⟨_, rfl⟩
 rw [hr]
 have HRE := Lib.hid hr
 clear hr
 have HVB := Lib.hid hb
 have HR0 := Lib.hid h
 obtain ⟨a1, n1, rfl⟩ := h.1.form
 obtain ⟨a2, n2, rfl⟩ := h.2.1.form
 obtain ⟨a3, n3, rfl⟩ := h.2.2.form
 clear h hb
 obtain ⟨W, hWe⟩ : ∃ W, ((w.alloc (.cells #[.string t.nm, .int .i64 t.wk, .int .i64 t.rs, .slice ta t.af.length tn, .int .i64 t.du] 44)).alloc (.cells #[.int .i64 s.lf.1, .slice a1 s.lf.2.length n1, .int .i64 s.rt.1, .slice a2 s.rt.2.length n2, .int .i64 s.fr, .int .i64 s.to, .slice a3 s.l.length n3] 54)).alloc (.cells #[.int .i64 0, .int .i64 0] 46) = W := ⟨_, rfl⟩
 have hW : Below w.heap.size w W := by rw [← hWe]; exact (((Below.refl _ w).alloc (Nat.le_refl _) _).alloc (by simp) _).alloc (by simp; omega) _
 have HX : Hid (Set7 W (w.heap.size + 1) (.int .i64 s.lf.1) (.slice a1 s.lf.2.length n1) (.int .i64 s.rt.1) (.slice a2 s.rt.2.length n2) (.int .i64 s.fr) (.int .i64 s.to) (.slice a3 s.l.length n3)) := by
  rw [← hWe]
  refine ⟨⟨?_, ?_, ?_, ?_, ?_, ?_, ?_⟩, ?_, ?_, ?_, ?_, ?_, ?_, ?_⟩ <;> simp [go_sem]
 have HZ : Hid (BoxS W (w.heap.size + 1 + 1) 0 0) := by
  rw [← hWe]
  refine ⟨?_, ?_, ?_, ?_⟩ <;> simp [go_sem]
 have hT : W.cell? ⟨w.heap.size, 1, none⟩ = some (.int .i64 t.wk) := by rw [← hWe]; simp [go_sem]
 have HT := Lib.hid hT
 clear hT
 have HR := Lib.hid (keepSt hW HR0.out)
 have HE := Lib.hid hWe
 have HB := Lib.hid hW
 clear hWe HR0 hW
 go_enter Tryz.func121, Tryz.ntmps121
 go_upto_region 1 with fail
 rw [HE.out]
 clear HE
 by_cases hx : 4398046511104 < X
 ·have g1 : decide (4398046511104 < X) = true := by simpa using hx
  have hr : r = none := by rw [← HRE.out]; unfold earlM; rw [if_pos hx]
  subst hr
  obtain ⟨Z0, Z1, Z2, Z3⟩ := HZ.out
  go_wp2
  change bodyPost _ _ _ _ _ (puS W (w.heap.size + 1 + 1) (.int .i64 0) (.int .i64 0))
  obtain ⟨r0, r1⟩ := puS_at (.int .i64 0) (.int .i64 0) HZ.out
  have hBZ := puS_below (.int .i64 0) (.int .i64 0) HB.out (b := w.heap.size + 1 + 1) (by omega)
  generalize puS W (w.heap.size + 1 + 1) (.int .i64 0) (.int .i64 0) = Z at *
  refine bodyPost_ret (v := .tuple #[.agg #[.int .i64 0, .int .i64 0], .bool false]) (by simp [results, Tryz.results121, go_sem, r0, r1]) rfl ?_
  exact ⟨rfl, hBZ⟩
 have g1 : decide (4398046511104 < X) = false := by simpa using hx
 have hX3 : X ≤ 4398046511104 := by omega
 have HX3 := Lib.hid hX3
 clear hx hX3
 obtain ⟨⟨A0, A1, A2, A3, A4, A5, A6⟩, -⟩ := HX.out
 go_wp2_with fail
 refine (HO.out _ HR.out).mono ?_
 rintro e w1 ⟨p, hp, rfl, hb1⟩
 have HOF := Lib.hid (open_first HVB.out hX HX3.out hp)
 have HX1 := Lib.hid (HX.out.below hb1)
 have HZ1 := Lib.hid (HZ.out.below hb1)
 have HT1 := Lib.hid (keepCell hb1 HT.out)
 have HR1 := Lib.hid (keepSt hb1 HR.out)
 have HB1 := Lib.hid (keepBelow HB.out hb1)
 clear hb1 hp A0 A1 A2 A3 A4 A5 A6 HX HZ HT HR HB HO
 rcases HOF.out with ⟨rfl, hn⟩ | ⟨f, rfl, hf1, hf2, hn⟩
 ·have hr : r = none := by rw [← HRE.out]; exact hn _ (by omega)
  subst hr
  clear hn HOF
  obtain ⟨Z0, Z1, Z2, Z3⟩ := HZ1.out
  go_wp2
  change bodyPost _ _ _ _ _ (puS w1 (w.heap.size + 1 + 1) (.int .i64 0) (.int .i64 0))
  obtain ⟨r0, r1⟩ := puS_at (.int .i64 0) (.int .i64 0) HZ1.out
  have hBZ := puS_below (.int .i64 0) (.int .i64 0) HB1.out (b := w.heap.size + 1 + 1) (by omega)
  generalize puS w1 (w.heap.size + 1 + 1) (.int .i64 0) (.int .i64 0) = Z at *
  refine bodyPost_ret (v := .tuple #[.agg #[.int .i64 0, .int .i64 0], .bool false]) (by simp [results, Tryz.results121, go_sem, r0, r1]) rfl ?_
  exact ⟨rfl, hBZ⟩
 have hlf : lineB f = true := by unfold lineB; rw [decide_eq_true (by omega), decide_eq_true hf2]; rfl
 have HA1 := Lib.hid (HA.out f _ HR1.out)
 rw [HVB.out, AddM_eq rfl hlf (by omega) (by omega)] at HA1
 have he := hn t.wk (by omega)
 rw [HRE.out] at he
 have HEA := Lib.hid he
 obtain ⟨q, hq⟩ : ∃ q, addM s f t.wk = q := ⟨_, rfl⟩
 rw [hq] at HA1 HEA
 have HQ := Lib.hid hq
 have HF2 := Lib.hid hf2
 clear hn he hq hlf hf1 HOF HA
 obtain ⟨⟨A0, A1, A2, A3, A4, A5, A6⟩, -⟩ := HX1.out
 have T1 := HT1.out
 go_wp2_with fail
 refine HA1.out.mono ?_
 rintro e w2 ⟨rfl, hb2⟩
 have HZ2 := Lib.hid (HZ1.out.below hb2)
 have HB2 := Lib.hid (keepBelow HB1.out hb2)
 clear hb2 A0 A1 A2 A3 A4 A5 A6 T1 HX1 HZ1 HT1 HR1 HB1 HA1
 by_cases hq0 : q.2 = 0
 ·have hr : r = some (f, q.1) := by rw [HEA.out, if_neg (by simpa using hq0)]
  subst hr
  have g2 : (q.2 != 0) = false := by simpa using hq0
  have hto : q.1 ≤ 4398046511104 := (addM_ok HG.out HF2.out (by omega) (show addM s f t.wk = (q.1, 0) by rw [HQ.out, ← hq0])).2.2.1
  have g3 : decide (4398046511104 < q.1) = false := by simpa using hto
  have g4 : decide (4398046511104 < f) = false := by simpa using HF2.out
  clear hq0 hto
  obtain ⟨Z0, Z1, Z2, Z3⟩ := HZ2.out
  go_wp2
  change bodyPost _ _ _ _ _ (puS w2 (w.heap.size + 1 + 1) (.int .i64 f) (.int .i64 q.1))
  obtain ⟨r0, r1⟩ := puS_at (.int .i64 f) (.int .i64 q.1) HZ2.out
  have hBZ := puS_below (.int .i64 f) (.int .i64 q.1) HB2.out (b := w.heap.size + 1 + 1) (by omega)
  generalize puS w2 (w.heap.size + 1 + 1) (.int .i64 f) (.int .i64 q.1) = Z at *
  refine bodyPost_ret (v := .tuple #[.agg #[.int .i64 f, .int .i64 q.1], .bool true]) (by simp [results, Tryz.results121, go_sem, r0, r1]) rfl ?_
  exact ⟨rfl, hBZ⟩
 ·have hr : r = none := by rw [HEA.out, if_pos (by simpa using hq0)]
  subst hr
  have g2 : (q.2 != 0) = true := by simpa using hq0
  clear hq0
  obtain ⟨Z0, Z1, Z2, Z3⟩ := HZ2.out
  go_wp2
  change bodyPost _ _ _ _ _ (puS w2 (w.heap.size + 1 + 1) (.int .i64 0) (.int .i64 0))
  obtain ⟨r0, r1⟩ := puS_at (.int .i64 0) (.int .i64 0) HZ2.out
  have hBZ := puS_below (.int .i64 0) (.int .i64 0) HB2.out (b := w.heap.size + 1 + 1) (by omega)
  generalize puS w2 (w.heap.size + 1 + 1) (.int .i64 0) (.int .i64 0) = Z at *
  refine bodyPost_ret (v := .tuple #[.agg #[.int .i64 0, .int .i64 0], .bool false]) (by simp [results, Tryz.results121, go_sem, r0, r1]) rfl ?_
  exact ⟨rfl, hBZ⟩
end Go.Proofs.YtlbjfbpejomkmaaGreat
namespace Go.Proofs.YtlbjfbpejomkmaaGreat
open Go.RowKit Wk

structure RunCtx (w0 : World) (b ba bd : Nat) (vl vR : Value) (start : Int) (L : List Kv) (R : List Sw) : Prop where
 hL : RdK w0 vl L
 hR : RdR w0 vR R
 hv : TkV (tks L) (sts R)
 vb : ∀ i, i < R.length → VB (R.getD i sw0).1 = true
 wk : ∀ i, i < L.length → (L.getD i kv0).1.wk ≤ 4398046511104
 hs : -4398046511104 ≤ start ∧ start ≤ 4398046511104
 len : L.length ≤ 24 ∧ R.length ≤ 24
 bs : w0.heap.size ≤ b ∧ w0.heap.size ≤ ba ∧ w0.heap.size ≤ bd
structure RunSt (w0 : World) (b ba bd : Nat) (vl vR : Value) (start : Int) (L : List Kv) (R : List Sw) (W : World) (ve : Value) (left : Int) (d : List Bool) (e : List Int) (a am : List Sp) : Prop where
 S : SrW W b ba bd vl vR start left false am d
 B : Below w0.heap.size w0 W
 E : RdJ3 b ba bd W ve e
 dl : d.length = L.length
 al : a.length = L.length
 el : e.length = R.length
 ag : Agree d a am
 eb : ∀ r, r < R.length → e.getD r 0 ≤ 4398046511104
 ab : ∀ i, dAt d i = true → (spAt a i).2 ≤ 4398046511104
 l0 : 0 ≤ left ∧ left ≤ 1000000
def RunPost (w0 : World) (b ba bd : Nat) (vl vR : Value) (start : Int) (d : List Bool) (a : List Sp) (r : Rs) (W : World) (e : Ending) (w' : World) : Prop :=
 K3 w0.heap.size b ba bd W w' ∧ match r with
 | .ok a' => e = .returned (.bool true) ∧ ∃ left' d', SrW w' b ba bd vl vR start left' false a' d'
 | .out => e = .returned (.bool false) ∧ ∃ left' am' d', SrW w' b ba bd vl vR start left' true am' d' ∧ d'.length = d.length
 | .no left' => e = .returned (.bool false) ∧ (0 ≤ left' ∧ left' ≤ 1000000) ∧ ∃ am', SrW w' b ba bd vl vR start left' false am' d ∧ Agree d a am'
theorem RunSt.below {w0 : World} {b ba bd : Nat} {vl vR : Value} {start : Int} {L : List Kv} {R : List Sw} {W X : World} {ve : Value} {left : Int} {d : List Bool} {e : List Int} {a am : List Sp} (h : RunSt w0 b ba bd vl vR start L R W ve left d e a am) (hb : Below W.heap.size W X) :
  RunSt w0 b ba bd vl vR start L R X ve left d e a am :=
 have hk : K3 w0.heap.size b ba bd W X := K3.of h.B.size hb
 ⟨h.S.below hb, h.B.trans hk.1, h.E.keep hk, h.dl, h.al, h.el, h.ag, h.eb, h.ab, h.l0⟩
theorem boxS_new (X : World) : BoxS (X.alloc (.cells #[.int .i64 0, .int .i64 0] 46)) X.heap.size 0 0 := by
 refine ⟨?_, ?_, ?_, ?_⟩ <;> simp [go_sem]
theorem boxS_mk (X : World) (u v : Int) : BoxS (X.alloc (.cells #[.int .i64 u, .int .i64 v] 46)) X.heap.size u v := by
 refine ⟨?_, ?_, ?_, ?_⟩ <;> simp [go_sem]
theorem boxS_new1 (X : World) : BoxS (X.alloc (.cells #[.int .i64 0, .int .i64 0] 46)).drew X.heap.size 0 0 := boxS_new X
theorem puS_box {W : World} {b : Nat} {x y u v : Int} (h : BoxS W b x y) : BoxS ((W.setCell ⟨b, 0, none⟩ (.int .i64 u)).setCell ⟨b, 1, none⟩ (.int .i64 v)) b u v :=
 ⟨(puS_at _ _ h).1, (puS_at _ _ h).2, ((frz_set ..).trans (frz_set ..)).trans h.2.2.1, ((frz_set ..).trans (frz_set ..)).trans h.2.2.2⟩
theorem set_false {d : List Bool} {i : Nat} (hd : dAt d i = false) : (d.set i true).set i false = d := by
 rw [List.set_set]
 apply List.ext_getElem
 ·simp
 ·intro k h1 h2
  rw [List.getElem_set]
  split
  ·rename_i e
   subst e
   unfold dAt at hd
   rw [List.getD_eq_getElem?_getD, List.getElem?_eq_getElem h2] at hd
   simpa using hd.symm
  ·rfl
def afterR (f : Int → Rs) : Rs → Rs
 | .no l => f l
 | .ok a => .ok a
 | .out => .out
theorem natI_getD (Q : List Nat) (m : Nat) : (natI Q).getD m 0 = (Q.getD m 0 : Nat) := by
 unfold natI
 rw [List.getD_eq_getElem?_getD, List.getD_eq_getElem?_getD, List.getElem?_map]
 cases Q[m]? <;> rfl
theorem drop_cons {Q : List Nat} {m : Nat} (h : m < Q.length) : Q.drop m = Q.getD m 0 :: Q.drop (m + 1) := by
 rw [List.drop_eq_getElem_cons h, List.getD_eq_getElem?_getD, List.getElem?_eq_getElem h]
 rfl

set_option maxRecDepth 100000 in
set_option maxHeartbeats 16000000 in
theorem run_any (w0 : World) (b ba bd : Nat) (vl vR : Value) (start : Int) (L : List Kv) (R : List Sw) (hC : RunCtx w0 b ba bd vl vR start L R) : ∀ (n : Nat) (d : List Bool) (e : List Int) (a am : List Sp) (left : Int) (ve : Value) (W : World) (p : Int),
  RunSt w0 b ba bd vl vR start L R W ve left d e a am → d.count false = n → p = (L.length : Int) - n →
  Calls Tryz.prog 76 #[.pointer (some ⟨b, 0, none⟩), .int .i64 p, ve] W (RunPost w0 b ba bd vl vR start d a (runM (tks L) (sts R) start n d e a left) W) := by
 intro n
 induction n with
 | zero =>
  intro d e a am left ve W p hR hd hp
  obtain ⟨al, ac, rfl, _, _⟩ := hC.hL
  have hS := hR.S
  have hae : am = a := agree_all hR.ag hd (by rw [hR.dl, hR.al])
  have c0 := hS.c0
  have hp0 : p = L.length := by omega
  subst hp0
  have HS := Lib.hid hS
  have HA := Lib.hid hae
  clear hC hR hS hae hp hd
  go_enter Tryz.func76, Tryz.ntmps76
  go_wp2
  go_ret
  exact ⟨K3.refl _ _ _ _ _, rfl, left, d, by rw [← HA.out]; exact HS.out⟩
 | succ n ih =>
  intro d e a am left ve W p hR hd hp
  have hq : Hid (∀ Q, Q = readyM (tks L) d → runM (tks L) (sts R) start (n + 1) d e a left = tryM (runM (tks L) (sts R) start n) (tks L) (sts R) start d e a Q left) := fun Q h => by rw [h]; rfl
  obtain ⟨r, hr⟩ : ∃ r, runM (tks L) (sts R) start (n + 1) d e a left = r := ⟨_, rfl⟩
  rw [hr]
  have HRE := Lib.hid hr
  have HIH := Lib.hid ih
  have HC := Lib.hid hC
  obtain ⟨ae, ce, rfl, _, _⟩ := hR.E
  have HR := Lib.hid hR
  have hlen : 0 < L.length := by
   obtain ⟨i, hi, _⟩ := count_some hd
   have := hR.dl
   omega
  have hdl := hR.dl
  have hblt : b < W.heap.size := World.block_lt_of_cell? W ⟨b, 0, none⟩ hR.S.c0
  have hbalt : ba < W.heap.size := World.block_lt_of_cell? W ⟨ba, 0, none⟩ (hR.S.pa 0 (by rw [hR.ag.1, hR.al]; exact hlen)).1.1
  have hbdlt : bd < W.heap.size := World.block_lt_of_cell? W ⟨bd, 0, none⟩ (hR.S.pd 0 (by omega)).1
  have HLT := Lib.hid (And.intro hblt (And.intro hbalt hbdlt))
  have HD := Lib.hid hd
  have hpe : (p == (L.length : Int)) = false := by simp; omega
  obtain ⟨al, ac, hvl, _, _⟩ := hC.hL
  have c0 := hR.S.c0
  rw [hvl] at c0
  have HRY : Hid (Calls Tryz.prog 120 #[.pointer (some ⟨b, 0, none⟩)] W (RyPost (tks L) d W)) :=
   ready_any b ba bd vl vR start left false am d L W hR.S (by
    have := hC.hL
    exact this.below hR.B) hdl (fun i hi j hj => by
    have := hC.hv.af i (by rw [tks_length]; exact hi) j (by rw [tks_at]; exact hj)
    omega) (by have := hC.len; omega)
  have HP := Lib.hid hp
  clear ih hC hR hr hd hp hblt hbalt hbdlt
  go_enter Tryz.func76, Tryz.ntmps76
  go_wp2_with fail
  refine HRY.out.mono ?_
  rintro e1 w1 ⟨v, rfl, ho, hb1⟩
  obtain ⟨Q, hQ⟩ : ∃ Q, readyM (tks L) d = Q := ⟨_, rfl⟩
  rw [hQ] at ho
  have HT0 : Hid (tryM (runM (tks L) (sts R) start n) (tks L) (sts R) start d e a Q left = r) := by
   unfold Hid
   rw [← hq.out Q hQ.symm, HRE.out]
  have HQ := Lib.hid hQ
  have hk1 : K3 w0.heap.size b ba bd W w1 := K3.of HR.out.B.size hb1
  have hQl : Q.length ≤ 24 := by
   have h1 := frL_len (tks L) d L.length
   have h2 := (ready_sorted (tks L) d).2.length_eq
   rw [hQ] at h2
   unfold frL at h1
   rw [tks_length] at h2
   have := HC.out.len
   omega
  have hv3 := ho.rd3 (b := b) (ba := ba) (bd := bd) HLT.out.1 HLT.out.2.1 HLT.out.2.2 (by rw [natI_length]; omega)
  have HR1 : Hid (RunSt w0 b ba bd vl vR start L R w1 (.slice ae e.length ce) left d e a am) := ⟨HR.out.S.below hb1, HR.out.B.trans hk1.1, HR.out.E.keep hk1, HR.out.dl, HR.out.al, HR.out.el, HR.out.ag, HR.out.eb, HR.out.ab, HR.out.l0⟩
  have HK1 := Lib.hid hk1
  obtain ⟨a24, c24, rfl, _, hv24⟩ := hv3
  rw [natI_length] at hv24
  have HV := Lib.hid hv24
  clear hq hQ ho hb1 hk1 hv24 HRY c0
  go_wp2_with fail
  go_loopw [26] (fun u wr => ∃ (m : Nat) (lm : Int) (amm : List Sp), u = .int .i64 m ∧ m ≤ Q.length ∧ Hid (RunSt w0 b ba bd vl vR start L R wr (.slice ae e.length ce) lm d e a amm) ∧ Hid (K3 w0.heap.size b ba bd w1 wr) ∧ Hid (tryM (runM (tks L) (sts R) start n) (tks L) (sts R) start d e a (Q.drop m) lm = r)) (fun u _ => Q.length - (intOf u).toNat)
  case atStart => exact ⟨0, left, am, rfl, Nat.zero_le _, HR1.out, K3.refl _ _ _ _ _, by rw [List.drop_zero]; exact HT0.out⟩
  case round =>
   obtain ⟨m, lm, amm, rfl, hm, HRm, HKm, HTm⟩ := hrel
   rw [natI_length] at *
   by_cases hlt : m < Q.length
   ·obtain ⟨g24, o24, rfl, hn24, q24⟩ := HV.out m hlt
    rw [natI_getD] at q24
    have v24 := HKm.out.cell hn24.1 hn24.2.1 hn24.2.2 q24
    obtain ⟨i, hi⟩ : ∃ i, Q.getD m 0 = i := ⟨_, rfl⟩
    have him : i ∈ readyM (tks L) d := by
     rw [HQ.out, ← hi, List.getD_eq_getElem?_getD, List.getElem?_eq_getElem hlt]
     exact List.getElem_mem hlt
    obtain ⟨hil, hif⟩ := ready_mem.1 him
    rw [tks_length] at hil
    have HTm' := HTm.out
    rw [drop_cons hlt, hi] at HTm'
    have HTC := Lib.hid HTm'
    rw [hi] at v24
    have HIF := Lib.hid hif
    clear hn24 q24 hi him hif HTm' HTm
    have c3 := HRm.out.S.c3
    by_cases hl0 : lm = 0
    ·subst hl0
     have hro : Rs.out = r := by rw [← HTC.out]; exact try_out.symm
     subst hro
     have f4 := HRm.out.S.f4
     have c4 := HRm.out.S.c4
     have hS' := Lib.hid (HRm.out.S.setOut true)
     have hK' := Lib.hid ((HK1.out.trans HKm.out).trans (K3.set (o := 4) wr (.bool true) HC.out.bs.1 (Or.inl rfl)))
     go_wp2
     go_ret
     exact ⟨hK'.out, rfl, 0, amm, d, hS'.out, rfl⟩
    ·have g0 : (lm == 0) = false := by simpa using hl0
     have hr0 := HRm.out.l0
     have hlb : 0 ≤ lm - 1 ∧ lm - 1 ≤ 1000000 := by omega
     have f3 := HRm.out.S.f3
     have S1 := HRm.out.S.setLeft (lm - 1)
     have hks : K3 w0.heap.size b ba bd wr (wr.setCell ⟨b, 3, none⟩ (.int .i64 (lm - 1))) := K3.set (o := 3) wr (.int .i64 (lm - 1)) HC.out.bs.1 (Or.inl rfl)
     have hKa := HKm.out.trans hks
     have HRa : Hid (RunSt w0 b ba bd vl vR start L R (wr.setCell ⟨b, 3, none⟩ (.int .i64 (lm - 1))) (.slice ae e.length ce) (lm - 1) d e a amm) :=
      ⟨S1, HRm.out.B.trans hks.1, HRm.out.E.keep hks, HRm.out.dl, HRm.out.al, HRm.out.el, HRm.out.ag, HRm.out.eb, HRm.out.ab, hlb⟩
     have HKa := Lib.hid hKa
     obtain ⟨al', ac', hvl', _, hcl⟩ := (HC.out.hL.below HRa.out.B)
     rw [hvl] at hvl'
     cases hvl'
     obtain ⟨hj, bl, ol, rfl, q0, q1, q2, q3, q4⟩ := hcl i hil
     obtain ⟨x, hx⟩ : ∃ x, L.getD i kv0 = x := ⟨_, rfl⟩
     rw [hx] at hj q0 q1 q2 q3 q4
     obtain ⟨a1, n1, e1⟩ := hj.form
     rw [e1] at q3 hj
     have s0 := HRa.out.S.c0
     rw [hvl] at s0
     have HXE := Lib.hid hx
     have HJ := Lib.hid hj
     have hL0 : Hid (lm ≠ 0) := hl0
     clear hl0 S1 hKa hks hcl hx hj e1 hlb
     go_upto_region 11 with fail
     obtain ⟨Y, hY⟩ : ∃ Y, (wr.setCell ⟨b, 3, none⟩ (.int .i64 (lm - 1))).alloc (.cells #[.string x.1.nm, .int .i64 x.1.wk, .int .i64 x.1.rs, .slice a1 x.1.af.length n1, .int .i64 x.1.du] 44) = Y := ⟨_, rfl⟩
     rw [hY]
     obtain ⟨tb, htb⟩ : ∃ tb, wr.heap.size = tb := ⟨_, rfl⟩
     rw [htb]
     have htb3 : tb ≠ b ∧ tb ≠ ba ∧ tb ≠ bd := by
      have h1 := HLT.out
      have h2 := HK1.out.1.size
      have h3 := HKm.out.1.size
      omega
     have HTB := Lib.hid htb3
     have hbY : Below (wr.setCell ⟨b, 3, none⟩ (.int .i64 (lm - 1))).heap.size (wr.setCell ⟨b, 3, none⟩ (.int .i64 (lm - 1))) Y := by rw [← hY]; exact (Below.refl _ _).alloc (Nat.le_refl _) _
     have HRY := Lib.hid (HRa.out.below hbY)
     have HJY := Lib.hid (HJ.out.below hbY)
     have HKY := Lib.hid (HKa.out.trans (K3.of (b := b) (ba := ba) (bd := bd) HRa.out.B.size hbY))
     obtain ⟨ρ, hρ⟩ : ∃ ρ : Nat, reOf (tks L) i = ρ := ⟨_, rfl⟩
     have hrs := HC.out.hv.rs i (by rw [tks_length]; exact hil)
     have hρ1 : x.1.rs = (ρ : Int) := by
      rw [← hρ]
      unfold reOf
      rw [tks_at, HXE.out]
      rw [tks_at, HXE.out] at hrs
      omega
     have hρ2 : ρ < R.length := by rw [← hρ]; have := hrs.2; rwa [sts_length] at this
     have HT5 : Hid (Y.cell? ⟨tb, 0, none⟩ = some (.string x.1.nm) ∧ Y.cell? ⟨tb, 1, none⟩ = some (.int .i64 x.1.wk) ∧ Y.cell? ⟨tb, 2, none⟩ = some (.int .i64 (ρ : Int)) ∧ Y.cell? ⟨tb, 3, none⟩ = some (.slice a1 x.1.af.length n1) ∧ Y.cell? ⟨tb, 4, none⟩ = some (.int .i64 x.1.du)) := by
      rw [← hY, hρ1, ← htb]
      refine ⟨?_, ?_, ?_, ?_, ?_⟩ <;> simp [go_sem]
     have hel := HRY.out.el
     obtain ⟨_, _, hee, _, hec⟩ := HRY.out.E
     cases hee
     obtain ⟨ge, oe, rfl, hne, qe⟩ := hec ρ (by rw [hel]; exact hρ2)
     obtain ⟨ev, hev⟩ : ∃ ev, e.getD ρ 0 = ev := ⟨_, rfl⟩
     rw [hev] at qe
     obtain ⟨mv, hmv⟩ : ∃ mv, max start ev = mv := ⟨_, rfl⟩
     have HMV := Lib.hid hmv
     have HEV := Lib.hid hev
     have HRO := Lib.hid (And.intro hρ (And.intro hρ1 hρ2))
     have hρe : ρ < e.length := by omega
     have HNEe := Lib.hid hne
     have c2 := HRY.out.S.c2
     have t2 := HT5.out.2.2.1
     clear hY hbY htb htb3 hρ hrs hρ1 hec hev hmv hne hel q0 q1 q2 q3 q4 s0 c3 f3 v24
     go_cut [10] from 52 to 61 (fun u wx => u = .int .i64 mv ∧ Below Y.heap.size Y wx)
     case first =>
      go_region
      all_goals (go_wp2_with fail; go_meet)
      all_goals (case rel => exact ⟨by first | rw [← HMV.out] | (rw [← HMV.out]; congr 1; omega), (Below.refl _ _).drew⟩)
     case rest =>
     obtain ⟨rfl, hd1⟩ := hcut
     generalize wc = Z at *
     have HRZ := Lib.hid (HRY.out.below hd1)
     have HKZ := Lib.hid (HKY.out.trans (K3.of (b := b) (ba := ba) (bd := bd) HRY.out.B.size hd1))
     have HJZ := Lib.hid (HJY.out.below hd1)
     have HTZ := Lib.hid (And.intro (keepCell hd1 HT5.out.1) (And.intro (keepCell hd1 HT5.out.2.1) (And.intro (keepCell hd1 HT5.out.2.2.1) (And.intro (keepCell hd1 HT5.out.2.2.2.1) (keepCell hd1 HT5.out.2.2.2.2)))))
     have HF0 : Hid (mv = fromU start e a x.1 0) := by
      unfold Hid
      rw [fromU_zero, HRO.out.2.1, Int.toNat_natCast, HEV.out, HMV.out]
     have HPL : Hid (∀ j ∈ x.1.af, (0 ≤ j ∧ j.toNat < i) ∧ dAt d j.toNat = true) := fun j hj => by
      have h1 := HC.out.hv.af i (by rw [tks_length]; exact hil) j (by rw [tks_at, HXE.out]; exact hj)
      have h2 := (free_iff.1 HIF.out).2 j (by rw [tks_at, HXE.out]; exact hj)
      exact ⟨h1, h2⟩
     clear hd1 c2 t2 qe
     have t3 := HTZ.out.2.2.2.1
     go_wp2_with fail
     clear t3
     go_loopw [10, 65] (fun u v wz => ∃ k : Nat, v = .int .i64 k ∧ k ≤ x.1.af.length ∧ u = .int .i64 (fromU start e a x.1 k) ∧ wz = Z) (fun _ v _ => x.1.af.length - (intOf v).toNat)
     case atStart => exact ⟨0, rfl, Nat.zero_le _, by rw [HF0.out], rfl⟩
     case round =>
      obtain ⟨k, rfl, hk, rfl, hz⟩ := hrel
      rw [hz]
      clear hz
      by_cases hkl : k < x.1.af.length
      ·obtain ⟨_, _, hje, _, hjc⟩ := HJZ.out
       cases hje
       obtain ⟨gj, oj, rfl, qj⟩ := hjc k hkl
       obtain ⟨j, hj⟩ : ∃ j, x.1.af.getD k 0 = j := ⟨_, rfl⟩
       have hjm : j ∈ x.1.af := by rw [← hj]; exact getD_in hkl
       obtain ⟨⟨hj0, hj1⟩, hj2⟩ := HPL.out j hjm
       obtain ⟨J, hJ⟩ : ∃ J : Nat, j = (J : Int) := ⟨j.toNat, by omega⟩
       rw [hj, hJ] at qj
       have hJ1 : j.toNat = J := by omega
       rw [hJ1] at hj1 hj2
       have hal := HRZ.out.al
       have hag := HRZ.out.ag
       have hJl : J < amm.length := by rw [hag.1, hal]; omega
       have c5 := HRZ.out.S.c5
       have p5 := (HRZ.out.S.pa J hJl).1.2
       rw [hag.2 J hj2] at p5
       have HFU : Hid (fromU start e a x.1 (k + 1) = max (fromU start e a x.1 k) (spAt a J).2) := by
        unfold Hid
        rw [fromU_succ hkl, hj, hJ1]
       obtain ⟨fu, hfu⟩ : ∃ fu, fromU start e a x.1 k = fu := ⟨_, rfl⟩
       obtain ⟨ft, hft⟩ : ∃ ft, (spAt a J).2 = ft := ⟨_, rfl⟩
       rw [hft] at p5 HFU
       rw [hfu] at HFU ⊢
       clear hj hJ hjm hj0 hJ1 hj2 hal hag hjc hfu hft
       go_wp2
       go_roundw
       case rel => exact ⟨k + 1, by go_num, by omega, by rw [HFU.out], by first | trivial | rfl⟩
       case measure => simp [intOf]; omega
      ·have hkn : k = x.1.af.length := by omega
       subst hkn
       obtain ⟨fx, hfx⟩ : ∃ fx, fromU start e a x.1 x.1.af.length = fx := ⟨_, rfl⟩
       rw [hfx]
       rw [fromU_all] at hfx
       have HFX := Lib.hid hfx
       obtain ⟨aR, cR, hvR, _, hcR⟩ := HC.out.hR.below HRZ.out.B
       obtain ⟨hrs, bR, oR, rfl, z0, z1, z2, z3, z4, z5, z6⟩ := hcR ρ hρ2
       obtain ⟨y, hy⟩ : ∃ y, R.getD ρ sw0 = y := ⟨_, rfl⟩
       rw [hy] at hrs z0 z1 z2 z3 z4 z5 z6
       have hvb := HC.out.vb ρ hρ2
       rw [hy] at hvb
       have HSX : Hid (setOf (tks L) (sts R) i = y.1) := by unfold Hid setOf; rw [HRO.out.1, sts_at, hy]
       obtain ⟨sx, y1, y2, y3⟩ := y
       simp only at hrs z0 z1 z2 z3 z4 z5 z6 hvb
       obtain ⟨s1, m1, rfl⟩ := hrs.1.form
       obtain ⟨s2, m2, rfl⟩ := hrs.2.1.form
       obtain ⟨s3, m3, rfl⟩ := hrs.2.2.form
       have hc1 := HRZ.out.S.c1
       rw [hvR] at hc1
       have hfl : -4398046511104 ≤ fx ∧ fx ≤ 4398046511104 := by
        have g1 := (from_ge (start := start) (e := e) (a := a) (t := x.1)).1
        have g2 := from_line (start := start) (e := e) (a := a) (t := x.1) HC.out.hs.2 (by rw [HRO.out.2.1, Int.toNat_natCast]; exact HRZ.out.eb ρ hρ2) (fun j hj => HRZ.out.ab j.toNat (HPL.out j hj).2)
        have := HC.out.hs.1
        omega
       have hwk1 := HC.out.hv.wk i (by rw [tks_length]; exact hil)
       have hwk2 := HC.out.wk i hil
       rw [tks_at, HXE.out] at hwk1
       rw [HXE.out] at hwk2
       have HCB : Hid (∀ w', Below Z.heap.size Z w' → w'.cell? ⟨tb, 0, none⟩ = some (.string x.1.nm) ∧ w'.cell? ⟨tb, 1, none⟩ = some (.int .i64 x.1.wk) ∧ w'.cell? ⟨tb, 2, none⟩ = some (.int .i64 (ρ : Int)) ∧ w'.cell? ⟨tb, 3, none⟩ = some (.slice a1 x.1.af.length n1) ∧ w'.cell? ⟨tb, 4, none⟩ = some (.int .i64 x.1.du) ∧ w'.cell? ⟨b, 1, none⟩ = some (.slice (some ⟨bR, oR, none⟩) R.length cR) ∧ w'.cell? ⟨bR, oR + ρ * 7, none⟩ = some (.int .i64 sx.lf.1) ∧ w'.cell? ⟨bR, oR + ρ * 7 + 1, none⟩ = some (.slice s1 sx.lf.2.length m1) ∧ w'.cell? ⟨bR, oR + ρ * 7 + 2, none⟩ = some (.int .i64 sx.rt.1) ∧ w'.cell? ⟨bR, oR + ρ * 7 + 3, none⟩ = some (.slice s2 sx.rt.2.length m2) ∧ w'.cell? ⟨bR, oR + ρ * 7 + 4, none⟩ = some (.int .i64 sx.fr) ∧ w'.cell? ⟨bR, oR + ρ * 7 + 5, none⟩ = some (.int .i64 sx.to) ∧ w'.cell? ⟨bR, oR + ρ * 7 + 6, none⟩ = some (.slice s3 sx.l.length m3)) := fun w' hw => ⟨keepCell hw HTZ.out.1, keepCell hw HTZ.out.2.1, keepCell hw HTZ.out.2.2.1, keepCell hw HTZ.out.2.2.2.1, keepCell hw HTZ.out.2.2.2.2, keepCell hw hc1, keepCell hw z0, keepCell hw z1, keepCell hw z2, keepCell hw z3, keepCell hw z4, keepCell hw z5, keepCell hw z6⟩
       obtain ⟨o, ho⟩ : ∃ o, earlM sx x.1.wk fx = o := ⟨_, rfl⟩
       have HEA : Hid (∀ w', Below Z.heap.size Z w' → Calls Tryz.prog 121 #[.agg #[.string x.1.nm, .int .i64 x.1.wk, .int .i64 (ρ : Int), .slice a1 x.1.af.length n1, .int .i64 x.1.du], .agg #[.int .i64 sx.lf.1, .slice s1 sx.lf.2.length m1, .int .i64 sx.rt.1, .slice s2 sx.rt.2.length m2, .int .i64 sx.fr, .int .i64 sx.to, .slice s3 sx.l.length m3], .int .i64 fx] w' (EaPost o w')) := fun w' hw => by
        have := earliest_any x.1 a1 n1 sx _ _ _ fx w' (keepSt hw hrs) hvb hfl.1 (by omega) (by omega) hwk2
        rw [ho, HRO.out.2.1] at this
        exact this
       have HOE := Lib.hid ho
       have hd0 : Below Z.heap.size Z Z.drew := (Below.refl _ _).drew
       have hRl : R.length ≤ 24 := HC.out.len.2
       obtain ⟨ox, hox⟩ : ∃ ox, (o.getD (0, 0)).1 = ox := ⟨_, rfl⟩
       obtain ⟨oy, hoy⟩ : ∃ oy, (o.getD (0, 0)).2 = oy := ⟨_, rfl⟩
       obtain ⟨oz, hoz⟩ : ∃ oz, o.isSome = oz := ⟨_, rfl⟩
       have HOX := Lib.hid (And.intro hox (And.intro hoy hoz))
       clear hfx hcR hrs z0 z1 z2 z3 z4 z5 z6 hy hvb hc1 hfl hwk1 hwk2 ho hox hoy hoz
       go_upto_region 17 with fail
       go_cut [13, 14] from 80 to 93 (fun p q wx => q = .bool oz ∧ ∃ β, p = .pointer (some ⟨β, 0, none⟩) ∧ Z.heap.size ≤ β ∧ Hid (BoxS wx β ox oy) ∧ Below Z.heap.size Z wx)
       case first =>
        go_region_held3 (fun w' => w'.cell? ⟨tb, 0, none⟩ = some (.string x.1.nm) ∧ w'.cell? ⟨tb, 1, none⟩ = some (.int .i64 x.1.wk) ∧ w'.cell? ⟨tb, 2, none⟩ = some (.int .i64 (ρ : Int)) ∧ w'.cell? ⟨tb, 3, none⟩ = some (.slice a1 x.1.af.length n1) ∧ w'.cell? ⟨tb, 4, none⟩ = some (.int .i64 x.1.du) ∧ w'.cell? ⟨b, 1, none⟩ = some (.slice (some ⟨bR, oR, none⟩) R.length cR) ∧ w'.cell? ⟨bR, oR + ρ * 7, none⟩ = some (.int .i64 sx.lf.1) ∧ w'.cell? ⟨bR, oR + ρ * 7 + 1, none⟩ = some (.slice s1 sx.lf.2.length m1) ∧ w'.cell? ⟨bR, oR + ρ * 7 + 2, none⟩ = some (.int .i64 sx.rt.1) ∧ w'.cell? ⟨bR, oR + ρ * 7 + 3, none⟩ = some (.slice s2 sx.rt.2.length m2) ∧ w'.cell? ⟨bR, oR + ρ * 7 + 4, none⟩ = some (.int .i64 sx.fr) ∧ w'.cell? ⟨bR, oR + ρ * 7 + 5, none⟩ = some (.int .i64 sx.to) ∧ w'.cell? ⟨bR, oR + ρ * 7 + 6, none⟩ = some (.slice s3 sx.l.length m3))
         (first | with_reducible exact HCB.out _ hd0 | with_reducible exact HCB.out _ (hd0.alloc (Nat.le_refl _) _) | with_reducible exact HCB.out _ ((Below.refl _ Z).alloc (Nat.le_refl _) _).drew | with_reducible exact HCB.out _ hfN | with_reducible exact HCB.out _ (hfN.alloc hfN.size _) | with_reducible exact HCB.out _ ((hfN.setCell (p := ⟨_, 0, none⟩) (Nat.le_refl _) _).setCell (p := ⟨_, 1, none⟩) (Nat.le_refl _) _))
         (first | (go_at_call 121; refine (HEA.out _ (by first | with_reducible exact hd0 | with_reducible exact (hd0.alloc (Nat.le_refl _) _) | with_reducible exact ((Below.refl _ Z).alloc (Nat.le_refl _) _).drew)).mono ?_; rintro e' wN ⟨hee, bN⟩; rw [HOX.out.1, HOX.out.2.1, HOX.out.2.2] at hee; subst hee; have hfN : Below Z.heap.size Z wN := keepBelow (by first | with_reducible exact hd0 | with_reducible exact (hd0.alloc (Nat.le_refl _) _) | with_reducible exact ((Below.refl _ Z).alloc (Nat.le_refl _) _).drew) bN; (first | (have BX := Lib.hid ((boxS_new1 Z).below bN)) | (have BX := Lib.hid ((boxS_new Z.drew).below bN)) | skip); (first | (obtain ⟨Z0, Z1, Z2, Z3⟩ := BX.out) | skip); clear bN))
        all_goals (go_wp2_with fail; go_meet)
        all_goals have hsN := hfN.size
        all_goals (case rel => first | exact ⟨rfl, _, rfl, Nat.le_refl _, puS_box BX.out, puS_below _ _ hfN (Nat.le_refl _)⟩ | exact ⟨rfl, _, rfl, hsN, boxS_mk wN ox oy, hfN.alloc hsN _⟩)
       case rest =>
       obtain ⟨rfl, β, rfl, hβ, HBX, hd2⟩ := hcut
       generalize wc = V at *
       have HRV := Lib.hid (HRZ.out.below hd2)
       have HKV := Lib.hid (HKZ.out.trans (K3.of (b := b) (ba := ba) (bd := bd) HRZ.out.B.size hd2))
       have HTV := Lib.hid (And.intro (keepCell hd2 HTZ.out.2.2.1) (keepCell hd2 HTZ.out.2.2.2.2))
       have hβ3 : β ≠ b ∧ β ≠ ba ∧ β ≠ bd := by
        have h1 := HLT.out
        have h2 := HK1.out.1.size
        have h3 := HKZ.out.1.size
        omega
       have HB3 := Lib.hid hβ3
       have HEM : Hid (earlM (setOf (tks L) (sts R) i) (tkAt (tks L) i).wk (fromM start e a (tkAt (tks L) i)) = o) := by
        unfold Hid
        rw [HSX.out, tks_at, HXE.out, HFX.out]
        exact HOE.out
       have HDU : Hid (dueOf (tks L) i = x.1.du) := by unfold Hid dueOf; rw [tks_at, HXE.out]
       have hbv := HBX.out
       clear hβ hd2 hβ3 hd0
       obtain ⟨hox, hoy, hoz⟩ := HOX.out
       cases o with
       | none =>
        have hoz : oz = false := hoz.symm
        subst hoz
        clear hox hoy hbv
        have HTN : Hid (tryM (runM (tks L) (sts R) start n) (tks L) (sts R) start d e a (Q.drop (m + 1)) (lm - 1) = r) := by
         unfold Hid
         rw [← HTC.out]
         refine (try_skip hL0.out ?_).symm
         intro s' hs'
         rw [HEM.out] at hs'
         cases hs'
        go_wp2
        go_roundw
        case rel => exact ⟨m + 1, lm - 1, amm, by go_num, by omega, HRV.out, HKV.out, HTN.out⟩
        case measure => simp [intOf]; omega
       | some oxy =>
        obtain ⟨ox', oy'⟩ := oxy
        have hox : ox' = ox := hox
        have hoy : oy' = oy := hoy
        have hoz : oz = true := hoz.symm
        subst hox hoy hoz
        obtain ⟨bx0, bx1, bx2, bx3⟩ := hbv
        have t4 := HTV.out.2
        by_cases hdue : x.1.du < oy'
        ·have g2 : decide (x.1.du < oy') = true := by simpa using hdue
         have HDE : Hid (x.1.du < oy') := hdue
         clear hdue
         have HTN : Hid (tryM (runM (tks L) (sts R) start n) (tks L) (sts R) start d e a (Q.drop (m + 1)) (lm - 1) = r) := by
          unfold Hid
          rw [← HTC.out]
          refine (try_skip hL0.out ?_).symm
          intro s' hs'
          rw [HEM.out] at hs'
          cases hs'; rw [HDU.out]; exact HDE.out
         go_wp2
         go_roundw
         case rel => exact ⟨m + 1, lm - 1, amm, by go_num, by omega, HRV.out, HKV.out, HTN.out⟩
         case measure => simp [intOf]; omega
        ·have g2 : decide (x.1.du < oy') = false := by simpa using hdue
         have HDE : Hid (¬ x.1.du < oy') := hdue
         clear hdue
         have hS := HRV.out.S
         have c5 := hS.c5
         have c6 := hS.c6
         have hil2 : i < amm.length := by rw [HRV.out.ag.1, HRV.out.al]; exact hil
         have hil3 : i < d.length := by rw [HRV.out.dl]; exact hil
         obtain ⟨⟨pa0, pa1⟩, pf0, pf1⟩ := hS.pa i hil2
         obtain ⟨pd0, pf2⟩ := hS.pd i hil3
         have n1 := hS.n1
         have n2 := hS.n2
         have n3 := hS.n3
         have n1' := n1.symm
         have n2' := n2.symm
         have n3' := n3.symm
         clear hS
         go_upto_region 19 with fail
         go_cut [115] from 103 to 115 (fun u wx => u = .pointer (some ⟨bd, i, none⟩) ∧ Hid (∃ V1, Below V.heap.size V V1 ∧ wx = (((V1.setCell ⟨ba, i * 2, none⟩ (.int .i64 ox')).setCell ⟨ba, i * 2 + 1, none⟩ (.int .i64 oy')).setCell ⟨bd, i, none⟩ (.bool true))))
         case first =>
          go_region
          all_goals (go_wp2_with fail; go_meet)
          all_goals (case rel => exact ⟨rfl, V.drew, (Below.refl _ _).drew, rfl⟩)
         case rest =>
         obtain ⟨rfl, HVV⟩ := hcut
         generalize wc = V2 at *
         obtain ⟨V1, hbV, hV2⟩ := HVV.out
         have hoyM : oy' ≤ 4398046511104 := (earl_spec (HC.out.hv.res i (by rw [tks_length]; exact hil)) (HC.out.hv.wk i (by rw [tks_length]; exact hil)) HEM.out).2.2.1
         have hdi : dAt d i = false := (free_iff.1 HIF.out).1
         have hK2 : K3 w0.heap.size b ba bd V V2 := by
          rw [hV2]
          exact (((K3.of HRV.out.B.size hbV).trans (K3.set _ _ HC.out.bs.2.1 (Or.inr (Or.inl rfl)))).trans (K3.set _ _ HC.out.bs.2.1 (Or.inr (Or.inl rfl)))).trans (K3.set _ _ HC.out.bs.2.2 (Or.inr (Or.inr rfl)))
         have hS2 : SrW V2 b ba bd vl vR start (lm - 1) false (amm.set i (ox', oy')) (d.set i true) := by
          rw [hV2]
          exact ((HRV.out.S.below hbV).setAt hil2 (ox', oy')).setDone hil3 true
         have hE2 := HRV.out.E.keep hK2
         have hel2 := HRV.out.el
         have HCL := Lib.hid (cloneJ_any _ e V2 hE2.rd (by omega) (by have := HC.out.len.2; omega))
         have hsV : b < V2.heap.size ∧ ba < V2.heap.size ∧ bd < V2.heap.size := by
          have h1 := HLT.out
          have h2 := HK1.out.1.size
          have h3 := HKV.out.1.size
          have h4 := hK2.1.size
          omega
         have HS2 := Lib.hid hS2
         have HK2 := Lib.hid hK2
         have HE2 := Lib.hid hE2
         have HSV := Lib.hid hsV
         have HOM := Lib.hid hoyM
         have HDI := Lib.hid hdi
         have HEL := Lib.hid hel2
         clear hbV hV2 HVV hK2 hS2 hE2 hsV hoyM hdi hel2 c5 c6 pa0 pa1 pf0 pf1 pd0 pf2 n1 n2 n3 n1' n2' n3' bx0 bx1 bx2 bx3 t4
         go_wp2_with fail
         refine HCL.out.mono ?_
         rintro e5 w5 ⟨v5, rfl, o5, hb5⟩
         obtain ⟨g5, cap5, rfl, hg5, hc5⟩ := o5.cellsJ (by omega)
         obtain ⟨q5, f5⟩ := hc5 ρ hρe
         have hK5 : K3 w0.heap.size b ba bd V w5 := HK2.out.trans (K3.of (Nat.le_trans HRV.out.B.size HK2.out.1.size) hb5)
         have t5 := hK5.cell HTB.out.1 HTB.out.2.1 HTB.out.2.2 HTV.out.1
         have b5 := hK5.cell HB3.out.1 HB3.out.2.1 HB3.out.2.2 HBX.out.2.1
         have hb6 : Below V2.heap.size V2 (w5.setCell ⟨g5, ρ, none⟩ (.int .i64 oy')) := hb5.setCell (p := ⟨g5, ρ, none⟩) hg5 _
         have hK6 : K3 w0.heap.size b ba bd V (w5.setCell ⟨g5, ρ, none⟩ (.int .i64 oy')) := HK2.out.trans (K3.of (Nat.le_trans HRV.out.B.size HK2.out.1.size) hb6)
         have hR6 : RunSt w0 b ba bd vl vR start L R (w5.setCell ⟨g5, ρ, none⟩ (.int .i64 oy')) (.slice (some ⟨g5, 0, none⟩) e.length cap5) (lm - 1) (d.set i true) (e.set ρ oy') (a.set i (ox', oy')) (amm.set i (ox', oy')) := by
          have h3 := HSV.out
          refine ⟨HS2.out.below hb6, HRV.out.B.trans hK6.1, rd3_set (fun k hk => (hc5 k hk).1) (by omega) (by omega) (by omega) (by have := HC.out.len.2; have := HEL.out; omega) hρe oy', by rw [List.length_set]; exact HRV.out.dl, by rw [List.length_set]; exact HRV.out.al, by rw [List.length_set]; exact HEL.out, HRV.out.ag.set _ (by rw [HRV.out.al]; exact hil) hil3, fun k hk => ?_, fun k hk => ?_, HRV.out.l0⟩
          ·rw [getD_setL e ρ k oy' 0 hρe]
           split
           ·exact HOM.out
           ·exact HRV.out.eb k hk
          ·unfold spAt
           rw [getD_setL a i k _ _ (by rw [HRV.out.al]; exact hil)]
           split
           ·exact HOM.out
           ·rename_i hne
            unfold dAt at hk
            rw [getD_setL d i k _ _ hil3, if_neg hne] at hk
            exact HRV.out.ab k hk
         have HTG : Hid (afterR (fun left' => tryM (runM (tks L) (sts R) start n) (tks L) (sts R) start d e a (Q.drop (m + 1)) left') (runM (tks L) (sts R) start n (d.set i true) (e.set ρ oy') (a.set i (ox', oy')) (lm - 1)) = r) := by
          unfold Hid
          have := try_go (rec := runM (tks L) (sts R) start n) (l := tks L) (res := sts R) (start := start) (d := d) (e := e) (a := a) (i := i) (q := Q.drop (m + 1)) hL0.out HEM.out (by rw [HDU.out]; have := HDE.out; show ¬ x.1.du < oy'; omega)
          rw [HTC.out, HRO.out.1] at this
          simp only at this
          rw [this]
          cases runM (tks L) (sts R) start n (d.set i true) (e.set ρ oy') (a.set i (ox', oy')) (lm - 1) <;> rfl
         have HCR := Lib.hid (HIH.out (d.set i true) (e.set ρ oy') (a.set i (ox', oy')) (amm.set i (ox', oy')) (lm - 1) (.slice (some ⟨g5, 0, none⟩) e.length cap5) (w5.setCell ⟨g5, ρ, none⟩ (.int .i64 oy')) (p + 1) hR6 (count_left hil3 HDI.out HD.out) (by have := HP.out; omega))
         obtain ⟨r6, hr6⟩ : ∃ r6, runM (tks L) (sts R) start n (d.set i true) (e.set ρ oy') (a.set i (ox', oy')) (lm - 1) = r6 := ⟨_, rfl⟩
         rw [hr6] at HCR HTG
         have HK6 := Lib.hid hK6
         have hpw : p + 1 ≤ 1000 ∧ 0 ≤ p + 1 := by
          have h1 := HP.out
          have h2 := HC.out.len.1
          have h3 := List.count_le_length (a := false) (l := d)
          have h4 := HRV.out.dl
          rw [HD.out] at h3
          omega
         clear hc5 o5 hb5 hK5 hb6 hK6 hR6 hr6 HCL
         go_wp2_with fail
         refine HCR.out.mono ?_
         rintro e7 w7 ⟨hk7, hpost⟩
         have hk7' := HKV.out.trans (HK6.out.trans hk7)
         have HK7 := Lib.hid (HK1.out.trans hk7')
         have HKR := Lib.hid hk7'
         have HKS := Lib.hid (HK6.out.trans hk7)
         clear q5 f5 t5 b5 hk7 hk7' hpw
         cases r6 with
         | ok a' =>
          obtain ⟨rfl, left', d', S7⟩ := hpost
          have hro : Rs.ok a' = r := HTG.out
          subst hro
          go_wp2
          go_ret
          exact ⟨HK7.out, rfl, left', d', S7⟩
         | out =>
          obtain ⟨rfl, left', am', d', S7, hdl7⟩ := hpost
          have hro : Rs.out = r := HTG.out
          subst hro
          have hi7 : i < d'.length := by rw [hdl7, List.length_set]; exact hil3
          have c6 := S7.c6
          obtain ⟨pd0, pf0⟩ := S7.pd i hi7
          have c4 : (w7.setCell ⟨bd, i, none⟩ (.bool false)).cell? ⟨b, 4, none⟩ = some (.bool true) := (cell_ne (Or.inl (fun q => S7.n2 q.symm))).trans S7.c4
          have HS8 := Lib.hid (S7.setDone hi7 false)
          have HK8 := Lib.hid (HK7.out.trans (K3.set (o := i) w7 (.bool false) HC.out.bs.2.2 (Or.inr (Or.inr rfl))))
          have HLD : Hid ((d'.set i false).length = d.length) := by unfold Hid; rw [List.length_set, hdl7, List.length_set]
          clear S7 hdl7
          go_wp2
          go_ret
          exact ⟨HK8.out, rfl, left', am', d'.set i false, HS8.out, HLD.out⟩
         | no left' =>
          obtain ⟨rfl, hl7, am', S7, hag⟩ := hpost
          have hi7 : i < (d.set i true).length := by rw [List.length_set]; exact hil3
          have c6 := S7.c6
          obtain ⟨pd0, pf0⟩ := S7.pd i hi7
          have c4 : (w7.setCell ⟨bd, i, none⟩ (.bool false)).cell? ⟨b, 4, none⟩ = some (.bool false) := (cell_ne (Or.inl (fun q => S7.n2 q.symm))).trans S7.c4
          have hs8 := S7.setDone hi7 false
          rw [set_false HDI.out] at hs8
          have hks : K3 w0.heap.size b ba bd w7 (w7.setCell ⟨bd, i, none⟩ (.bool false)) := K3.set (o := i) w7 (.bool false) HC.out.bs.2.2 (Or.inr (Or.inr rfl))
          have HR8 : Hid (RunSt w0 b ba bd vl vR start L R (w7.setCell ⟨bd, i, none⟩ (.bool false)) (.slice (some ⟨ge, oe, none⟩) e.length ce) left' d e a am') :=
           ⟨hs8, HRV.out.B.trans (HKS.out.trans hks).1, HRV.out.E.keep (HKS.out.trans hks), HRV.out.dl, HRV.out.al, HRV.out.el, hag.back HDI.out hil3 (by rw [HRV.out.al]; exact hil), HRV.out.eb, HRV.out.ab, hl7⟩
          have HK8 := Lib.hid (HKR.out.trans hks)
          have HTN : Hid (tryM (runM (tks L) (sts R) start n) (tks L) (sts R) start d e a (Q.drop (m + 1)) left' = r) := HTG.out
          clear S7 hag hs8 hks hl7
          go_wp2
          go_roundw
          case rel => exact ⟨m + 1, left', am', by go_num, by omega, HR8.out, HK8.out, HTN.out⟩
          case measure => simp [intOf]; omega
   ·have hml : m = Q.length := by omega
    subst hml
    have hro : Rs.no lm = r := by rw [← HTm.out, List.drop_length]; rfl
    subst hro
    go_wp2
    go_ret
    exact ⟨HK1.out.trans HKm.out, rfl, HRm.out.l0, amm, HRm.out.S, HRm.out.ag⟩
end Go.Proofs.YtlbjfbpejomkmaaGreat
