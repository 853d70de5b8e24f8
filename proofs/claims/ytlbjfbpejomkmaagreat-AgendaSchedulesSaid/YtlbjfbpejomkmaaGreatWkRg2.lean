import Derived.Test.YtlbjfbpejomkmaaGreatWkAgQb
/- A drawn region whose operations are not listed in the order in which they wait. -/
namespace Go.Proofs.YtlbjfbpejomkmaaGreat
open Go.RowKit

def ordR (md : Region.Mode) (ops : Array Oper) (rk : List Nat) : Bool := (List.range ops.size).all fun j => match ops[j]? with | some o => o.after.all (fun e => !Region.binds md e || (decide (rk.getD e.on 0 < rk.getD j 0) && decide (e.on < ops.size))) | none => true
theorem all_listed_rk {md : Region.Mode} {ops : Array Oper} {listed : Array Bool} (rk : List Nat) (hsz : listed.size = ops.size) (hord : ordR md ops rk = true) (hr : Region.ready md ops listed = []) : ∀ j, j < ops.size → listed.getD j false = true := by
 have key : ∀ n j, rk.getD j 0 = n → j < ops.size → listed.getD j false = true := by
  intro n
  induction n using Nat.strongRecOn with
  | _ n ih =>
   intro j hn hj
   cases hl : listed.getD j false with
   | true => rfl
   | false =>
    exfalso
    have hlj : listed[j]? = some false := by
     rw [Array.getD_eq_getD_getElem?, Array.getElem?_eq_getElem (by omega)] at hl
     rw [Array.getElem?_eq_getElem (by omega)]
     simp at hl
     rw [hl]
    have hm : j ∈ Region.ready md ops listed := by
     refine mem_ready.2 ⟨by rw [Array.getD_eq_getD_getElem?, hlj]; rfl, ops[j], Array.getElem?_eq_getElem hj, fun e he hb => ?_⟩
     have ho := List.all_eq_true.1 hord j (List.mem_range.2 hj)
     rw [Array.getElem?_eq_getElem hj] at ho
     simp only [Array.all_eq_true_iff_forall_mem, Bool.or_eq_true, Bool.and_eq_true, decide_eq_true_eq] at ho
     obtain ⟨h1, h2⟩ := (ho e he).resolve_left (by rw [hb]; decide)
     exact ih _ (by omega) e.on rfl h2
    rw [hr] at hm
    cases hm
 exact fun j hj => key _ j rfl hj
end Go.Proofs.YtlbjfbpejomkmaaGreat
