import Derived.Test.YtlbjfbpejomkmaaGreatWkSi
import Derived.Laws.CopyOwn
/- Drawn regions: which operations have been done; how a kept fact is kept. -/
namespace Go.Proofs.YtlbjfbpejomkmaaGreat
open Go.RowKit

def ordB (ops : Array Oper) : Bool := (List.range ops.size).all fun j => match ops[j]? with | some o => o.after.all (fun e => decide (e.on < j)) | none => true
theorem all_listed {md : Region.Mode} {ops : Array Oper} {listed : Array Bool} (hsz : listed.size = ops.size) (hord : ordB ops = true) (hr : Region.ready md ops listed = []) : ∀ j, j < ops.size → listed.getD j false = true := by
 intro j
 induction j using Nat.strongRecOn with
 | _ j ih =>
  intro hj
  cases hl : listed.getD j false with
  | true => rfl
  | false =>
   exfalso
   have hlj : listed[j]? = some false := by
    rw [Array.getD_eq_getD_getElem?, Array.getElem?_eq_getElem (by omega)] at hl
    rw [Array.getElem?_eq_getElem (by omega)]
    simp at hl
    rw [hl]
   have hm : j ∈ Region.ready md ops listed := by
    refine mem_ready.2 ⟨by rw [Array.getD_eq_getD_getElem?, hlj]; rfl, ops[j], Array.getElem?_eq_getElem hj, fun e he _ => ?_⟩
    have ho := List.all_eq_true.1 hord j (List.mem_range.2 hj)
    rw [Array.getElem?_eq_getElem hj] at ho
    simp only [Array.all_eq_true_iff_forall_mem] at ho
    have hlt : e.on < j := of_decide_eq_true (ho e he)
    exact ih e.on hlt (by omega)
   rw [hr] at hm
   cases hm
theorem getD_self {l : Array Bool} {i : Nat} (h : i < l.size) : (l.setIfInBounds i true).getD i false = true := by
 rw [Array.getD_eq_getD_getElem?, Array.getElem?_setIfInBounds_self_of_lt h]; rfl
theorem getD_ne {l : Array Bool} {i j : Nat} (h : i ≠ j) : (l.setIfInBounds i true).getD j false = l.getD j false := by
 rw [Array.getD_eq_getD_getElem?, Array.getD_eq_getD_getElem?, Array.getElem?_setIfInBounds_ne h]
theorem gd {l : Array Bool} {i j : Nat} {b : Bool} (h : (l.setIfInBounds i true).getD j false = b) (hne : i ≠ j := by decide) : l.getD j false = b := by rwa [getD_ne hne] at h
theorem gx {l : Array Bool} {i j : Nat} {P : Prop} (f : Hid (l.getD j false = true → P)) (hne : i ≠ j := by decide) : Hid ((l.setIfInBounds i true).getD j false = true → P) := Lib.hid fun h => f.out (gd h hne)
theorem gx2 {l : Array Bool} {i j q : Nat} {b : Bool} {P : Prop} (f : Hid (l.getD j false = true → l.getD q false = b → P)) (hne : i ≠ j := by decide) (hne' : i ≠ q := by decide) : Hid ((l.setIfInBounds i true).getD j false = true → (l.setIfInBounds i true).getD q false = b → P) := Lib.hid fun h h' => f.out (gd h hne) (gd h' hne')
theorem gn {l : Array Bool} {i j q : Nat} {P : Prop} (f : Hid (l.getD j false = true → l.getD q false = true)) (hna : l.getD q false = false) (hne : i ≠ j := by decide) : Hid ((l.setIfInBounds i true).getD j false = true → P) := Lib.hid fun h => by have hq := f.out (gd h hne); rw [hna] at hq; cases hq
end Go.Proofs.YtlbjfbpejomkmaaGreat
namespace Go.Proofs.YtlbjfbpejomkmaaGreat
open Go.RowKit

def ClosedL (md : Region.Mode) (ops : Array Oper) (ls : Array Bool) : Prop := ∀ j o, ls.getD j false = true → ops[j]? = some o → ∀ e ∈ o.after, Region.binds md e = true → ls.getD e.on false = true
theorem ClosedL.set {md : Region.Mode} {ops : Array Oper} {ls : Array Bool} (h : ClosedL md ops ls) {i : Nat} (hi : i ∈ Region.ready md ops ls) : ClosedL md ops (ls.setIfInBounds i true) := by
 obtain ⟨hj, op, hop, hall⟩ := mem_ready.1 hi
 intro j o hl ho e he hb
 have keep : ls.getD e.on false = true → (ls.setIfInBounds i true).getD e.on false = true := fun hh => by
  by_cases hq : i = e.on
  ·subst hq
   have hlt : e.on < ls.size := by
    rcases Nat.lt_or_ge e.on ls.size with g | g
    ·exact g
    ·rw [Array.getD_eq_getD_getElem?, Array.getElem?_eq_none g] at hh; cases hh
   exact getD_self hlt
  ·rw [getD_ne hq]; exact hh
 by_cases hq : i = j
 ·subst hq
  rw [hop] at ho
  cases ho
  exact keep (hall e he hb)
 ·exact keep (h j o (by rwa [getD_ne hq] at hl) ho e he hb)
theorem ClosedL.nil {md : Region.Mode} {ops : Array Oper} {ls : Array Bool} (h : ∀ j, ls.getD j false = false) : ClosedL md ops ls := fun j o hl => by rw [h j] at hl; cases hl
theorem getD_rep (n j : Nat) : (Array.replicate n false).getD j false = false := by
 rw [Array.getD_eq_getD_getElem?, Array.getElem?_replicate]
 split <;> rfl
theorem ClosedL.off {md : Region.Mode} {ops : Array Oper} {ls : Array Bool} (h : ClosedL md ops ls) {i j : Nat} {o : Oper} (ho : ops[j]? = some o) (hi : ls.getD i false = false) (he : ∃ e ∈ o.after, Region.binds md e = true ∧ e.on = i) : ls.getD j false = false := by
 cases hl : ls.getD j false with
 | false => rfl
 | true =>
  obtain ⟨e, he, hb, rfl⟩ := he
  have := h j o hl ho e he hb
  rw [hi] at this
  cases this
theorem wpAny_invC {P : Program} {md : Region.Mode} {ops : Array Oper} {Q : Exit → Act → World → Prop} (I : Array Bool → Act → World → Prop)
  (hs : ∀ listed a w i, I listed a w → ClosedL md ops listed → i ∈ Region.ready md ops listed → wpOp P ops Q i (fun a' w' => I (listed.setIfInBounds i true) a' w') a w)
  (he : ∀ listed a w, I listed a w → Region.ready md ops listed = [] → Q .normal a w) (fuel : Nat) (listed : Array Bool) (a : Act) (w : World) (hI : I listed a w) (hC : ∀ j, listed.getD j false = false) (hf : openN listed ≤ fuel) : wpAny P md ops Q fuel listed a w := by
 refine wpAny_inv (fun l a w => I l a w ∧ ClosedL md ops l) (fun l a w i h hi => ?_) (fun l a w h hr => he l a w h.1 hr) fuel listed a w ⟨hI, ClosedL.nil hC⟩ hf
 exact wpOp_mono (fun a' w' h' => ⟨h', h.2.set hi⟩) (hs l a w i h.1 h.2 hi)
theorem not_listed {l : Array Bool} {j : Nat} (h : l.getD j true = false) : l.getD j false = false := by
 have h := getD_false h
 rw [Array.getD_eq_getD_getElem?, h]
 rfl
end Go.Proofs.YtlbjfbpejomkmaaGreat
namespace Go.Proofs.YtlbjfbpejomkmaaGreat
open Go.RowKit

def ordR (md : Region.Mode) (ops : Array Oper) (rk : List Nat) : Bool := (List.range ops.size).all fun j => match ops[j]? with | some o => o.after.all (fun e => !Region.binds md e || (decide (rk.getD e.on 0 < rk.getD j 0) && decide (e.on < ops.size))) | none => true
theorem all_listed_rk {md : Region.Mode} {ops : Array Oper} {listed : Array Bool} (rk : List Nat) (hsz : listed.size = ops.size) (hord : ordR md ops rk = true) (hr : Region.ready md ops listed = []) : ∀ j, j < ops.size → listed.getD j false = true := by
 have key : ∀ n j, rk.getD j 0 = n → j < ops.size → listed.getD j false = true := by
  intro n
  induction n using Nat.strongRecOn with
  | _ n ih =>
   intro j hn hj
   cases hl : listed.getD j false with
   | true => rfl
   | false =>
    exfalso
    have hlj : listed[j]? = some false := by
     rw [Array.getD_eq_getD_getElem?, Array.getElem?_eq_getElem (by omega)] at hl
     rw [Array.getElem?_eq_getElem (by omega)]
     simp at hl
     rw [hl]
    have hm : j ∈ Region.ready md ops listed := by
     refine mem_ready.2 ⟨by rw [Array.getD_eq_getD_getElem?, hlj]; rfl, ops[j], Array.getElem?_eq_getElem hj, fun e he hb => ?_⟩
     have ho := List.all_eq_true.1 hord j (List.mem_range.2 hj)
     rw [Array.getElem?_eq_getElem hj] at ho
     simp only [Array.all_eq_true_iff_forall_mem, Bool.or_eq_true, Bool.and_eq_true, decide_eq_true_eq] at ho
     obtain ⟨h1, h2⟩ := (ho e he).resolve_left (by rw [hb]; decide)
     exact ih _ (by omega) e.on rfl h2
    rw [hr] at hm
    cases hm
 exact fun j hj => key _ j rfl hj
end Go.Proofs.YtlbjfbpejomkmaaGreat
