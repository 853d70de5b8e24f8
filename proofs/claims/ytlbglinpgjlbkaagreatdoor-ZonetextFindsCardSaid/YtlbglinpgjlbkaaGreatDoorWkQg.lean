import Derived.Test.YtlbglinpgjlbkaaGreatDoorWkQf
/- Zone texts: small conditions. -/
namespace Go.Proofs.YtlbglinpgjlbkaaGreatDoor
open Go.RowKit Wk

set_option maxRecDepth 100000 in
theorem isSaving_any (n : Int) (w : World) :
  Calls Tryz.prog 122 #[.int .i64 n] w fun e w' => e = .returned (.bool (savB n)) ∧ w' = w := by
 have hm : n.tmod 60 = 0 ↔ n % 60 = 0 := by
  rw [← Int.dvd_iff_tmod_eq_zero, Int.dvd_iff_emod_eq_zero]
 have HM := Lib.hid hm
 clear hm
 go_enter Tryz.func122, Tryz.ntmps122
 go_wp2
 all_goals go_ret
 all_goals exact ⟨ret_bool (by have hm := HM.out; rw [Bool.eq_iff_iff]; simp [savB]; omega), rfl⟩
set_option maxRecDepth 100000 in
theorem isDay_any (n : Int) (w : World) :
  Calls Tryz.prog 155 #[.int .i64 n] w fun e w' => e = .returned (.bool (dayB n)) ∧ w' = w := by
 go_enter Tryz.func155, Tryz.ntmps155
 go_wp2
 all_goals go_ret
 all_goals exact ⟨ret_bool (by rw [Bool.eq_iff_iff]; simp [dayB]; omega), rfl⟩
set_option maxRecDepth 100000 in
theorem isWeekday_any (n : Int) (w : World) :
  Calls Tryz.prog 156 #[.int .i64 n] w fun e w' => e = .returned (.bool (wdB n)) ∧ w' = w := by
 go_enter Tryz.func156, Tryz.ntmps156
 go_wp2
 all_goals go_ret
 all_goals exact ⟨ret_bool (by rw [Bool.eq_iff_iff]; simp [wdB]; omega), rfl⟩
end Go.Proofs.YtlbglinpgjlbkaaGreatDoor
namespace Go.Proofs.YtlbglinpgjlbkaaGreatDoor
open Go.RowKit Wk

def onV (o : OnT) : Value := .agg #[.int .i64 o.k, .int .i64 o.w, .int .i64 o.d]
set_option maxRecDepth 100000 in
set_option maxHeartbeats 1000000 in
theorem validOn_any (o : OnT) (w : World) :
  Calls Tryz.prog 95 #[onV o] w fun e w' => e = .returned (.bool (onB o)) ∧ Below w.heap.size w w' := by
 obtain ⟨k, v, d⟩ := o
 obtain ⟨r, hr⟩ : ∃ r, onB ⟨k, v, d⟩ = r := ⟨_, rfl⟩
 rw [hr]
 have HR := Lib.hid hr
 clear hr
 unfold onV
 simp only
 go_enter Tryz.func95, Tryz.ntmps95
 go_wp2_with (first | (go_at_call 155; refine (isDay_any _ _).mono ?_; rintro e w' ⟨rfl, rfl⟩) | (go_at_call 156; refine (isWeekday_any _ _).mono ?_; rintro e w' ⟨rfl, rfl⟩) | (fail))
 all_goals go_ret
 all_goals refine ⟨ret_bool ?_, (Below.refl _ w).alloc (Nat.le_refl _) _⟩
 all_goals rw [← HR.out]
 all_goals clear HR
 all_goals unfold onB
 all_goals simp_all
end Go.Proofs.YtlbglinpgjlbkaaGreatDoor
namespace Go.Proofs.YtlbglinpgjlbkaaGreatDoor
open Go.RowKit Wk

set_option maxRecDepth 100000 in
theorem saving19_any (n : Int) (w : World) :
  Calls Tryz.prog 171 #[.int .i64 n] w fun e w' => e = .returned (.bool (savB n)) ∧ w' = w := by
 have hm : n.tmod 60 = 0 ↔ n % 60 = 0 := by
  rw [← Int.dvd_iff_tmod_eq_zero, Int.dvd_iff_emod_eq_zero]
 have HM := Lib.hid hm
 clear hm
 go_enter Tryz.func171, Tryz.ntmps171
 go_wp2
 all_goals go_ret
 all_goals exact ⟨ret_bool (by have hm := HM.out; rw [Bool.eq_iff_iff]; simp [savB]; omega), rfl⟩
set_option maxRecDepth 100000 in
theorem clocked19_any (a c : Int) (w : World) :
  Calls Tryz.prog 170 #[.int .i64 a, .int .i64 c] w fun e w' => e = .returned (.bool (decide (0 ≤ a ∧ a ≤ 93600 ∧ 1 ≤ c ∧ c ≤ 3))) ∧ w' = w := by
 go_enter Tryz.func170, Tryz.ntmps170
 go_wp2
 all_goals go_ret
 all_goals exact ⟨ret_bool (by rw [Bool.eq_iff_iff]; simp; omega), rfl⟩
end Go.Proofs.YtlbglinpgjlbkaaGreatDoor
namespace Go.Proofs.YtlbglinpgjlbkaaGreatDoor
open Go.RowKit Wk

set_option maxRecDepth 100000 in
set_option maxHeartbeats 1000000 in
theorem validOn19_any (o : OnT) (w : World) :
  Calls Tryz.prog 32 #[onV o] w fun e w' => e = .returned (.bool (onB o)) ∧ Below w.heap.size w w' := by
 obtain ⟨k, v, d⟩ := o
 obtain ⟨r, hr⟩ : ∃ r, onB ⟨k, v, d⟩ = r := ⟨_, rfl⟩
 rw [hr]
 have HR := Lib.hid hr
 clear hr
 unfold onV
 simp only
 go_enter Tryz.func32, Tryz.ntmps32
 go_wp2
 all_goals go_ret
 all_goals refine ⟨ret_bool ?_, (Below.refl _ w).alloc (Nat.le_refl _) _⟩
 all_goals rw [← HR.out]
 all_goals clear HR
 all_goals unfold onB dayB wdB
 all_goals simp_all
 all_goals omega
end Go.Proofs.YtlbglinpgjlbkaaGreatDoor
namespace Go.Proofs.YtlbglinpgjlbkaaGreatDoor
open Go.RowKit Wk

theorem OwnG.same {α : Type} {T : TypeId} {sz : Nat} {fl : α → List Value} {w w' : World} {B : Nat} {v : Value} {L : List α} (h : OwnG T sz fl w B v L) (hk : ∀ g, v.ownBlock = some g → w'.heap[g]? = w.heap[g]?) : OwnG T sz fl w' B v L := by
 refine ⟨h.1, ?_⟩
 rcases h.2 with hn | ⟨g, cap, cur, rfl, hbb, hgg, rest⟩
 ·exact .inl hn
 ·exact .inr ⟨g, cap, cur, rfl, hbb, (hk g rfl).trans hgg, rest⟩
theorem OwnG.raise {α : Type} {T : TypeId} {sz : Nat} {fl : α → List Value} {w : World} {B B' : Nat} {v : Value} {L : List α} (h : OwnG T sz fl w B v L) (hk : ∀ g, v.ownBlock = some g → B' ≤ g) : OwnG T sz fl w B' v L := by
 refine ⟨h.1, ?_⟩
 rcases h.2 with hn | ⟨g, cap, cur, rfl, hbb, rest⟩
 ·exact .inl hn
 ·exact .inr ⟨g, cap, cur, rfl, hk g rfl, rest⟩
theorem OwnG.pos {α : Type} {T : TypeId} {sz : Nat} {fl : α → List Value} {w : World} {B : Nat} {v : Value} {L : List α} (h : OwnG T sz fl w B v L) (hl : 0 < L.length) : ∃ g c, v = .slice (some ⟨g, 0, none⟩) L.length c ∧ B ≤ g ∧ g < w.heap.size := by
 rcases h.2 with ⟨rfl, h0⟩ | ⟨g, cap, cur, rfl, hbb, hgg, _⟩
 ·omega
 ·exact ⟨g, cap, rfl, hbb, (Array.getElem?_eq_some_iff.1 hgg).1⟩
theorem OwnG.cell {α : Type} {T : TypeId} {sz : Nat} {fl : α → List Value} (hf : ∀ x, (fl x).length = sz) {w : World} {B g c : Nat} {L : List α} (h : OwnG T sz fl w B (.slice (some ⟨g, 0, none⟩) L.length c) L) (d : α) {i j : Nat} {u : Value} (hi : i < L.length) (hj : j < sz) (hu : (fl (L.getD i d))[j]? = some u) :
  w.cell? ⟨g, i * sz + j, none⟩ = some u ∧ w.frozen? ⟨g, i * sz + j, none⟩ = false := by
 have hij : i * sz + j < L.length * sz := by
  have : (i + 1) * sz ≤ L.length * sz := Nat.mul_le_mul_right _ hi
  rw [Nat.succ_mul] at this
  omega
 refine ⟨?_, World.ownsRow.frozenAt h _⟩
 rw [World.ownsRow.cellAt h (i * sz + j) hij, flatG_get hf d L i j hi hj]
 exact hu
theorem flatG_set {α : Type} {sz : Nat} {fl : α → List Value} (hf : ∀ x, (fl x).length = sz) (d : α) (u : Value) (x' : α) : ∀ (l : List α) (i j : Nat), i < l.length → j < sz → fl x' = (fl (l.getD i d)).set j u → flatG fl (l.set i x') = (flatG fl l).set (i * sz + j) u
 | [], i, j, h, _, _ => by simp at h
 | s :: r, 0, j, _, hj, hx => by
  have e : flatG fl (s :: r) = fl s ++ flatG fl r := rfl
  have e' : flatG fl ((s :: r).set 0 x') = fl x' ++ flatG fl r := rfl
  have hx : fl x' = (fl s).set j u := hx
  rw [e, e', hx, Nat.zero_mul, Nat.zero_add, List.set_append_left _ _ (by rw [hf]; exact hj)]
 | s :: r, i + 1, j, h, hj, hx => by
  have ih := flatG_set hf d u x' r i j (by simpa using h) hj hx
  have e : flatG fl (s :: r) = fl s ++ flatG fl r := rfl
  have e' : flatG fl ((s :: r).set (i + 1) x') = fl s ++ flatG fl (r.set i x') := rfl
  rw [e, e', ih, List.set_append_right _ _ (by rw [hf, Nat.succ_mul]; omega), hf, show (i + 1) * sz + j - sz = i * sz + j by rw [Nat.succ_mul]; omega]
theorem OwnG.setAt {α : Type} {T : TypeId} {sz : Nat} {fl : α → List Value} (hf : ∀ x, (fl x).length = sz) {w : World} {B g c : Nat} {L : List α} (h : OwnG T sz fl w B (.slice (some ⟨g, 0, none⟩) L.length c) L) (d : α) {i j : Nat} (hi : i < L.length) (hj : j < sz) (u : Value) (x' : α) (hx : fl x' = (fl (L.getD i d)).set j u) :
  OwnG T sz fl (w.setCell ⟨g, i * sz + j, none⟩ u) B (.slice (some ⟨g, 0, none⟩) L.length c) (L.set i x') := by
 have := (World.ownsRow.stored h (i * sz + j) u).1
 unfold OwnG
 rw [List.length_set, flatG_set hf d u x' L i j hi hj hx]
 exact this

def flV (v : Value) : List Value := [v]
theorem flV_len (v : Value) : (flV v).length = 1 := rfl
def nilV : Value := .slice none 0 0
def OwnGG {α : Type} (T1 T : TypeId) (sz : Nat) (fl : α → List Value) (w : World) (B : Nat) (v : Value) (LL : List (List α)) : Prop :=
 ∃ vs : List Value, OwnG T1 1 flV w B v vs ∧ vs.length = LL.length ∧ ∀ i, i < LL.length → OwnG T sz fl w B (vs.getD i nilV) (LL.getD i [])
theorem OwnGG.nil {α : Type} {T1 T : TypeId} {sz : Nat} {fl : α → List Value} (w : World) (B : Nat) : OwnGG (α := α) T1 T sz fl w B (.slice none 0 0) [] := ⟨[], OwnG.nil w B, rfl, fun i hi => by simp at hi⟩
theorem OwnGG.below {α : Type} {T1 T : TypeId} {sz : Nat} {fl : α → List Value} {w w' : World} {B : Nat} {v : Value} {LL : List (List α)} (h : OwnGG T1 T sz fl w B v LL) (hb : Below w.heap.size w w') : OwnGG T1 T sz fl w' B v LL :=
 let ⟨vs, h1, h2, h3⟩ := h; ⟨vs, h1.below hb, h2, fun i hi => (h3 i hi).below hb⟩
theorem OwnGG.mono {α : Type} {T1 T : TypeId} {sz : Nat} {fl : α → List Value} {w : World} {B B' : Nat} {v : Value} {LL : List (List α)} (h : OwnGG T1 T sz fl w B v LL) (hB : B' ≤ B) : OwnGG T1 T sz fl w B' v LL :=
 let ⟨vs, h1, h2, h3⟩ := h; ⟨vs, h1.mono hB, h2, fun i hi => (h3 i hi).mono hB⟩
theorem OwnG.high {α : Type} {T : TypeId} {sz : Nat} {fl : α → List Value} {w w' : World} {B : Nat} {v : Value} {L : List α} (h : OwnG T sz fl w B v L) (hk : ∀ g, B ≤ g → w'.heap[g]? = w.heap[g]?) : OwnG T sz fl w' B v L := h.same fun g hg => hk g (World.ownsRow.lt h g hg).1
theorem OwnGG.high {α : Type} {T1 T : TypeId} {sz : Nat} {fl : α → List Value} {w w' : World} {B : Nat} {v : Value} {LL : List (List α)} (h : OwnGG T1 T sz fl w B v LL) (hk : ∀ g, B ≤ g → w'.heap[g]? = w.heap[g]?) : OwnGG T1 T sz fl w' B v LL :=
 let ⟨vs, h1, h2, h3⟩ := h; ⟨vs, h1.high hk, h2, fun i hi => (h3 i hi).high hk⟩
theorem OwnGG.lt {α : Type} {T1 T : TypeId} {sz : Nat} {fl : α → List Value} {w : World} {B : Nat} {v : Value} {LL : List (List α)} (h : OwnGG T1 T sz fl w B v LL) : ∀ g, v.ownBlock = some g → B ≤ g ∧ g < w.heap.size := let ⟨_, h1, _, _⟩ := h; World.ownsRow.lt h1
theorem OwnGG.form {α : Type} {T1 T : TypeId} {sz : Nat} {fl : α → List Value} {w : World} {B : Nat} {v : Value} {LL : List (List α)} (h : OwnGG T1 T sz fl w B v LL) : ∃ a c, v = .slice a LL.length c := by
 obtain ⟨vs, h1, h2, _⟩ := h
 obtain ⟨a, c, e⟩ := h1.form
 exact ⟨a, c, by rw [e, h2]⟩
theorem wpList_app_GG {α : Type} {P : Program} {ops : Array Oper} {rest : List Oper} {o : Oper} {a : Act} {Q : Exit → Act → World → Prop} {B : Nat} {w0 W : World} {T1 T TS : TypeId} {sz : Nat} {fl : α → List Value} (hT : T ≠ T1)
  (hTS : P.underlying TS = some (.slice T1)) (hinfo : (P.info? T1).map (fun i => (i.zero, i.size, i.bytes)) = some (some (.slice none 0 0), 1, 24))
  {v : Value} {LL : List (List α)} {xv : Value} {L : List α} (hgd : o.guard = none) (s x : Operand)
  (ho : o.op = .call { callee := .builtin .append, args := #[s, x], argTypes := #[TS, TS] }) (hs : a.eval s = v) (hown : OwnGG T1 T sz fl W B v LL) (hxo : OwnG T sz fl W B xv L) (hbB : w0.heap.size ≤ B) (hBW : B ≤ W.heap.size) (hbw : Below w0.heap.size w0 W)
  {n : Nat} (hx : a.eval x = .slice (some ⟨n, 0, none⟩) 1 1) (hn : n = W.heap.size) (hlen : LL.length < 1000000) {cs : Array Value} (hcs : cs = #[xv])
  (h : ∀ v' w', OwnGG T1 T sz fl w' B v' (LL ++ [L]) → Below w0.heap.size w0 w' → (∀ b, b < W.heap.size → v.ownBlock ≠ some b → w'.heap[b]? = W.heap[b]?) → W.heap.size ≤ w'.heap.size →
   wpList P ops Q rest (a.put o.dst v') w') : wpList P ops Q (o :: rest) a (W.alloc (.cells cs T1)) := by
 obtain ⟨vs, h1, h2, h3⟩ := hown
 refine wpList_app_G (fl := flV) flV_len (by decide) hTS hinfo rfl (by decide) hgd s x ho hs h1 hbB hBW hbw (z := xv) (fun u hu => ?_) hx hn (by omega) (by rw [hcs]; rfl) ?_
 ·obtain ⟨p, q, e⟩ := hxo.form
  simp only [flV, List.mem_singleton] at hu
  rw [hu, e]
  rfl
 ·intro v' w' g1 g2 g3 g4 g5
  have hap : ∀ u l, OwnG T sz fl W B u l → OwnG T sz fl w' B u l := fun u l hu => hu.same fun g hg => by
   refine g3 g (World.ownsRow.lt hu g hg).2 ?_
   rcases ownG_apart (T := T1) (T' := T) (fun e => hT e.symm) h1 hu with q | q
   ·rw [q] at hg; cases hg
   ·exact fun e => q (hg.trans e.symm)
  refine h v' w' ⟨vs ++ [xv], g1, by simp [h2], fun i hi => ?_⟩ g2 g3 g5
  simp only [List.length_append, List.length_singleton] at hi
  rcases (by omega : i < LL.length ∨ i = LL.length) with g | g
  ·rw [show (vs ++ [xv]).getD i nilV = vs.getD i nilV by simp [List.getD_eq_getElem?_getD, List.getElem?_append_left (show i < vs.length by omega)], show (LL ++ [L]).getD i [] = LL.getD i [] by simp [List.getD_eq_getElem?_getD, List.getElem?_append_left g]]
   exact hap _ _ (h3 i g)
  ·subst g
   rw [show (vs ++ [xv]).getD LL.length nilV = xv by rw [← h2]; simp [List.getD_eq_getElem?_getD], show (LL ++ [L]).getD LL.length [] = L by simp [List.getD_eq_getElem?_getD]]
   exact hap _ _ hxo
def RdGG {α : Type} (sz : Nat) (fl : α → List Value) (d : α) (w : World) (v : Value) (LL : List (List α)) : Prop :=
 ∃ vs : List Value, RdG 1 flV nilV w v vs ∧ vs.length = LL.length ∧ ∀ i, i < LL.length → RdG sz fl d w (vs.getD i nilV) (LL.getD i [])
theorem RdGG.below {α : Type} {sz : Nat} {fl : α → List Value} {d : α} {w w' : World} {v : Value} {LL : List (List α)} (h : RdGG sz fl d w v LL) (hb : Below w.heap.size w w') : RdGG sz fl d w' v LL :=
 let ⟨vs, h1, h2, h3⟩ := h; ⟨vs, h1.below hb, h2, fun i hi => (h3 i hi).below hb⟩
theorem OwnGG.rd {α : Type} {T1 T : TypeId} {sz : Nat} {fl : α → List Value} (hf : ∀ x, (fl x).length = sz) {d : α} {w : World} {B : Nat} {v : Value} {LL : List (List α)} (h : OwnGG T1 T sz fl w B v LL) (hl : LL.length ≤ 1000000) (hl2 : ∀ L ∈ LL, L.length ≤ 1000000) : RdGG sz fl d w v LL := by
 obtain ⟨vs, h1, h2, h3⟩ := h
 refine ⟨vs, h1.rd flV_len (by omega), h2, fun i hi => (h3 i hi).rd hf (hl2 _ ?_)⟩
 rw [List.getD_eq_getElem?_getD, List.getElem?_eq_getElem hi]
 exact List.getElem_mem _
end Go.Proofs.YtlbglinpgjlbkaaGreatDoor
