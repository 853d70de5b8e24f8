import Derived.Test.YtlbjfbpejomkmaaGreatWkAgPl
import Derived.Test.YtlbjfbpejomkmaaGreatWkBa
import Derived.Test.YtlbjfbpejomkmaaGreatWkBc
import Derived.Test.YtlbjfbpejomkmaaGreatWkWin
import Derived.Test.YtlbjfbpejomkmaaGreatWkTn
import Derived.Maps.OwnOps
import Derived.Maps.Views
import Derived.Test.YtlbjfbpejomkmaaGreatWkVal
import Derived.Test.YtlbjfbpejomkmaaGreatWkPn
import Derived.Test.YtlbjfbpejomkmaaGreatWkPl
/- Agenda: how tasks, resources and numbers lie in memory. -/
namespace Go.Proofs.YtlbjfbpejomkmaaGreat
open Go.RowKit Wk

def RdJ (w : World) (v : Value) (L : List Int) : Prop :=
 ∃ a c, v = .slice a L.length c ∧ L.length ≤ 1152921504606846976 ∧ ∀ i, i < L.length → ∃ b o, a = some ⟨b, o, none⟩ ∧ w.cell? ⟨b, o + i, none⟩ = some (.int .i64 (L.getD i 0))
theorem RdJ.below {w w' : World} {v : Value} {L : List Int} (h : RdJ w v L) (hb : Below w.heap.size w w') : RdJ w' v L := by
 obtain ⟨a, c, rfl, hl, hc⟩ := h
 refine ⟨a, c, rfl, hl, fun i hi => ?_⟩
 obtain ⟨b, o, rfl, c1⟩ := hc i hi
 exact ⟨b, o, rfl, keepCell hb c1⟩
theorem RdJ.form {w : World} {v : Value} {L : List Int} (h : RdJ w v L) : ∃ a c, v = .slice a L.length c := let ⟨a, c, e, _⟩ := h; ⟨a, c, e⟩
abbrev Kv := Tk × Value
def kv0 : Kv := (tk0, .slice none 0 0)
def Cells5 (w : World) (b o : Nat) (x : Kv) : Prop :=
 w.cell? ⟨b, o, none⟩ = some (.string x.1.nm) ∧ w.cell? ⟨b, o + 1, none⟩ = some (.int .i64 x.1.wk) ∧ w.cell? ⟨b, o + 2, none⟩ = some (.int .i64 x.1.rs) ∧ w.cell? ⟨b, o + 3, none⟩ = some x.2 ∧ w.cell? ⟨b, o + 4, none⟩ = some (.int .i64 x.1.du)
theorem Cells5.below {w w' : World} {b o : Nat} {x : Kv} (h : Cells5 w b o x) (hb : Below w.heap.size w w') : Cells5 w' b o x :=
 ⟨keepCell hb h.1, keepCell hb h.2.1, keepCell hb h.2.2.1, keepCell hb h.2.2.2.1, keepCell hb h.2.2.2.2⟩
def RdK (w : World) (v : Value) (L : List Kv) : Prop :=
 ∃ a c, v = .slice a L.length c ∧ L.length ≤ 1152921504606846976 ∧ ∀ i, i < L.length → RdJ w (L.getD i kv0).2 (L.getD i kv0).1.af ∧ ∃ b o, a = some ⟨b, o, none⟩ ∧ Cells5 w b (o + i * 5) (L.getD i kv0)
theorem RdK.below {w w' : World} {v : Value} {L : List Kv} (h : RdK w v L) (hb : Below w.heap.size w w') : RdK w' v L := by
 obtain ⟨a, c, rfl, hl, hc⟩ := h
 refine ⟨a, c, rfl, hl, fun i hi => ?_⟩
 obtain ⟨hj, b, o, rfl, c1⟩ := hc i hi
 exact ⟨hj.below hb, b, o, rfl, c1.below hb⟩
theorem RdK.form {w : World} {v : Value} {L : List Kv} (h : RdK w v L) : ∃ a c, v = .slice a L.length c := let ⟨a, c, e, _⟩ := h; ⟨a, c, e⟩
def tks (L : List Kv) : List Tk := L.map Prod.fst
theorem tks_length (L : List Kv) : (tks L).length = L.length := List.length_map ..
theorem tks_at (L : List Kv) (i : Nat) : tkAt (tks L) i = (L.getD i kv0).1 := by
 unfold tkAt tks
 rw [List.getD_eq_getElem?_getD, List.getD_eq_getElem?_getD, List.getElem?_map]
 cases L[i]? <;> rfl
end Go.Proofs.YtlbjfbpejomkmaaGreat
namespace Go.Proofs.YtlbjfbpejomkmaaGreat
open Go.RowKit Wk

abbrev Sw := St × Value × Value × Value
def sw0 : Sw := (noSt, .slice none 0 0, .slice none 0 0, .slice none 0 0)
def Cells7 (w : World) (b o : Nat) (x : Sw) : Prop :=
 w.cell? ⟨b, o, none⟩ = some (.int .i64 x.1.lf.1) ∧ w.cell? ⟨b, o + 1, none⟩ = some x.2.1 ∧ w.cell? ⟨b, o + 2, none⟩ = some (.int .i64 x.1.rt.1) ∧ w.cell? ⟨b, o + 3, none⟩ = some x.2.2.1 ∧ w.cell? ⟨b, o + 4, none⟩ = some (.int .i64 x.1.fr) ∧ w.cell? ⟨b, o + 5, none⟩ = some (.int .i64 x.1.to) ∧ w.cell? ⟨b, o + 6, none⟩ = some x.2.2.2
theorem Cells7.below {w w' : World} {b o : Nat} {x : Sw} (h : Cells7 w b o x) (hb : Below w.heap.size w w') : Cells7 w' b o x :=
 ⟨keepCell hb h.1, keepCell hb h.2.1, keepCell hb h.2.2.1, keepCell hb h.2.2.2.1, keepCell hb h.2.2.2.2.1, keepCell hb h.2.2.2.2.2.1, keepCell hb h.2.2.2.2.2.2⟩
def RdR (w : World) (v : Value) (R : List Sw) : Prop :=
 ∃ a c, v = .slice a R.length c ∧ R.length ≤ 1152921504606846976 ∧ ∀ i, i < R.length → RdSt w (R.getD i sw0).1 (R.getD i sw0).2.1 (R.getD i sw0).2.2.1 (R.getD i sw0).2.2.2 ∧ ∃ b o, a = some ⟨b, o, none⟩ ∧ Cells7 w b (o + i * 7) (R.getD i sw0)
theorem RdR.below {w w' : World} {v : Value} {R : List Sw} (h : RdR w v R) (hb : Below w.heap.size w w') : RdR w' v R := by
 obtain ⟨a, c, rfl, hl, hc⟩ := h
 refine ⟨a, c, rfl, hl, fun i hi => ?_⟩
 obtain ⟨hj, b, o, rfl, c1⟩ := hc i hi
 exact ⟨keepSt hb hj, b, o, rfl, c1.below hb⟩
theorem RdR.form {w : World} {v : Value} {R : List Sw} (h : RdR w v R) : ∃ a c, v = .slice a R.length c := let ⟨a, c, e, _⟩ := h; ⟨a, c, e⟩
def sts (R : List Sw) : List St := R.map Prod.fst
theorem sts_length (R : List Sw) : (sts R).length = R.length := List.length_map ..
theorem sts_at (R : List Sw) (i : Nat) : (sts R).getD i noSt = (R.getD i sw0).1 := by
 unfold sts
 rw [List.getD_eq_getElem?_getD, List.getD_eq_getElem?_getD, List.getElem?_map]
 cases R[i]? <;> rfl
end Go.Proofs.YtlbjfbpejomkmaaGreat
namespace Go.Proofs.YtlbjfbpejomkmaaGreat
open Go.RowKit Wk

theorem open_first {s : St} {X : Int} {p : Int × Int} (hb : VB s = true) (h1 : -4398046511104 ≤ X) (h2 : X ≤ 4398046511104) (hp : OpenP (VB s) s X p) :
  (p = (0, 7) ∧ ∀ n, 0 < n → earlM s n X = none) ∨ ∃ f, p = (f, 0) ∧ X ≤ f ∧ f ≤ 4398046511104 ∧ ∀ n, 0 < n → earlM s n X = if (addM s f n).2 ≠ 0 then none else some (f, (addM s f n).1) := by
 have hl : lineB X = true := by unfold lineB; rw [decide_eq_true h1, decide_eq_true h2]; rfl
 have hg := (okS_of_VB hb).good
 rw [hb] at hp
 unfold OpenP at hp
 rw [if_neg (by rw [fault_ok rfl hl]; simp)] at hp
 obtain ⟨r, hr, rfl⟩ := hp
 unfold NeSpec at hr
 rw [if_neg (by rw [hl]; simp)] at hr
 by_cases hh : hasS s X = true
 ·rw [if_pos hh] at hr
  subst hr
  exact Or.inr ⟨X, rfl, Int.le_refl _, h2, fun n hn => earl_at hg (Int.le_refl _) h2 hh (fun z a b => by omega) hn⟩
 ·rw [if_neg hh] at hr
  have hh : hasS s X = false := by simpa using hh
  obtain ⟨q, hq, rfl⟩ := hr
  cases q with
  | none =>
   exact Or.inl ⟨rfl, fun n hn => earl_no hg (fun z a _ => next_never hh hq z a) hn⟩
  | some y =>
   obtain ⟨g1, g2, g3⟩ := next_first hh hq
   by_cases hy : 4398046511104 < y
   ·refine Or.inl ⟨by unfold onLine; simp only [if_pos hy]; rfl, fun n hn => earl_no hg (fun z a b => g3 z a (by omega)) hn⟩
   ·refine Or.inr ⟨y, by unfold onLine; simp only [if_neg hy]; rfl, by omega, by omega, fun n hn => earl_at hg (by omega) (by omega) g2 g3 hn⟩
end Go.Proofs.YtlbjfbpejomkmaaGreat
namespace Go.Proofs.YtlbjfbpejomkmaaGreat
open Go Go.RowKit Go.Maps

theorem elem_bool_inv {H : Type} {P : Program} {e : TypeId} (he : P.underlying e = some .bool) {v : Value} {z : DataW H × List MemPlace} (h : plainElem P e v = some z) : ∃ x, v = .bool x ∧ z = (.lit (.bool x), []) := by
 unfold plainElem at h
 rw [he] at h
 cases v <;> simp at h
 exact ⟨_, rfl, h.symm⟩
theorem owns_lookup_bool {H : Type} {P : Program} {w : World} {k : TypeId} {b n : Nat} {D : DataW H} {t e : TypeId} (h : w.ownsMap P k (plainElem P e) b n D) (K : Keyed P k) (ht : P.underlying t = some (.map k e)) (he : P.underlying e = some .bool) (hz : (zeroValue e).run P w = .ok (.bool false) w)
  {key : Value} {kl : Lit} (hkey : keyOf P k key = some kl) : ∃ c, (Instr.lookup t (.map (some b)) key false).run P w = .ok (.bool c) w ∧ D.atKey kl (.lit (.bool false)) = .lit (.bool c) := by
 obtain ⟨v, ps, hrun, hv⟩ := h.lookup K ht hz (plainElem_bool he false) hkey
 obtain ⟨c, rfl, hc⟩ := elem_bool_inv he hv
 simp only [Prod.mk.injEq] at hc
 exact ⟨c, hrun, hc.1⟩
def KeysB {H : Type} (D : DataW H) (L : List Lit) : Prop := IsMap D ∧ ∀ k, WideAt.IsKeyLit k → ∃ b, D.atKey k (.lit (.bool false)) = .lit (.bool b) ∧ (b = true ↔ k ∈ L)
theorem KeysB.nil {H : Type} : KeysB (H := H) (.map []) [] := ⟨isMap_empty, fun k _ => ⟨false, rfl, by simp⟩⟩
theorem KeysB.put {H : Type} {D : DataW H} {L : List Lit} (h : KeysB D L) {k : Lit} (hk : WideAt.IsKeyLit k) : KeysB (D.put k (.lit (.bool true))) (k :: L) := by
 refine ⟨h.1.put _ _, fun k' hk' => ?_⟩
 by_cases e : k' = k
 ·subst e
  exact ⟨true, atKey_put_same h.1 hk _ _, by simp⟩
 ·obtain ⟨b, h1, h2⟩ := h.2 k' hk'
  exact ⟨b, by rw [atKey_put_other e]; exact h1, by rw [h2]; simp [e]⟩
end Go.Proofs.YtlbjfbpejomkmaaGreat
namespace Go.Proofs.YtlbjfbpejomkmaaGreat
open Go.RowKit Wk

def agS : St := ⟨(24, [(0, 8)]), (24, [(0, 8)]), 0, 0, []⟩
def agT (n : ByteArray) (due : Int) : Tk := ⟨n, 6, 0, [], due⟩
theorem ag_one (n m : ByteArray) : findM [agT n 30, agT m 100] [agS] 0 10 = .ok [(0, 6), (6, 28)] := by kernel_rfl
theorem ag_two (n m : ByteArray) : findM [agT n 30, agT m 6] [agS] 0 10 = .ok [(6, 28), (0, 6)] := by kernel_rfl
theorem ag_sort : sortI (chg [(0, 8)] 24) = [0, 8] := by
 have e : chg [(0, 8)] 24 = [0, 8] := by decide +kernel
 rw [e]
 unfold sortI
 exact List.mergeSort_of_pairwise (by simp)
theorem ag_pv : pvB 24 [(0, 8)] = true := by
 have e : leastM [(0, 8)] 24 = 24 := by
  unfold leastM
  rw [leastC_eq ag_sort]
  decide +kernel
 unfold pvB
 rw [e]
 decide +kernel
theorem ag_VB : VB agS = true := VB_pure (p := (24, [(0, 8)])) ag_pv
end Go.Proofs.YtlbjfbpejomkmaaGreat
