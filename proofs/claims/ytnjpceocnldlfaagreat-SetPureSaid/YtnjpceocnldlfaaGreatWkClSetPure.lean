import Derived.Test.YtnjpceocnldlfaaGreatWkLF4
import Derived.Test.YtnjpceocnldlfaaGreatWkRowS
/- The law SetPure, as the given row states it: for every input the call returns true, and each argument reads afterwards as before. No conditions. -/
namespace Go.Proofs.YtnjpceocnldlfaaGreat
open Go.ChangeShapes Go.WideShapes Go.ChangeAt Go.RowKit Wk

set_option maxRecDepth 100000 in
theorem lifted_SetPure (os : Os) (started : os.Started) (H : Type) (enc : TypeId × Value → H) :
    ReturnsInHanded {} Tryz.checked os 6 .any (Rows.setPureSpec.pre6 enc Tryz.prog Tryz.f6 Rows.setPureRow.domain false) (Rows.setPureSpec.post enc Tryz.prog Tryz.f6 false true false false) := by
  refine returnsInHanded_of_change_sized (C := Tryz.checked) rowOwn started (by kernel_rfl) Tryz.func6
    (ChangeSpec.witness6 (enc := enc) (C := Tryz.checked) false ⟨#[], #[.agg #[.int .i64 0, .slice none 0 0], .agg #[.int .i64 0, .slice none 0 0]], []⟩ 8 (by kernel_rfl) (by kernel_rfl) (by kernel_rfl) (by kernel_rfl)) ?_
  intro W base args ds gs before hval0 hW hcnd hsz0 _
  have hval : ∀ (j : Nat) t v, Tryz.f6.params[j]? = some t → args[j]? = some v → Value.okWide Tryz.prog W .any base t v := hval0
  have hW' := hW
  obtain ⟨p, q, hA0, hV, rfl, hfz, hnd⟩ := hW
  have hA : DataW.TrodAll enc Tryz.prog W 0 (fun _ => true) true Tryz.f6.params.toList args.toList ds p := hA0
  have hsz : (DataW.weightsEach Tryz.prog (Tryz.f6.params.toList ++ Rows.setPureSpec.plain.varTypes Tryz.prog) (ds ++ gs)).all (· ≤ reachBytes) = true := hsz0
  rw [Tryz.params6] at hA hval hsz
  obtain ⟨v0, vs0, d0, ds0, p0, q0, hargs, rfl, rfl, h0, r0⟩ := trodAll_cons hA
  obtain ⟨v1, vs1, d1, ds1, p1, q1, rfl, rfl, rfl, h1, r1⟩ := trodAll_cons r0
  obtain ⟨rfl, rfl, rfl⟩ := trodAll_nil r1
  obtain rfl : args = #[v0, v1] := by cases args; simp_all
  obtain ⟨rfl, rfl⟩ := trodVars_none hV
  have k0 := h0
  have lt0 : ∀ x ∈ p0, x.block < W.heap.size := by obtain ⟨m, hm⟩ := k0; exact DataW.trod_lt m _ _ _ hm
  have hw0 : ∀ n ∈ d0.weights Tryz.prog 24, n ≤ reachBytes := fun n hn => by
    have := List.all_eq_true.1 hsz n (DataW.weights_mem_each (ds := _) (j := 0) (t := 24) rfl rfl n hn)
    simpa using this
  obtain ⟨P0, vp0, l0, rfl, hs0⟩ := open_perd (hval 0 24 v0 rfl rfl) h0 hw0
  have k1 := h1
  have lt1 : ∀ x ∈ p1, x.block < W.heap.size := by obtain ⟨m, hm⟩ := k1; exact DataW.trod_lt m _ _ _ hm
  have hw1 : ∀ n ∈ d1.weights Tryz.prog 24, n ≤ reachBytes := fun n hn => by
    have := List.all_eq_true.1 hsz n (DataW.weights_mem_each (ds := _) (j := 1) (t := 24) rfl rfl n hn)
    simpa using this
  obtain ⟨P1, vp1, l1, rfl, hs1⟩ := open_perd (hval 1 24 v1 rfl rfl) h1 hw1
  clear hA0 hval0
  refine (law_SetPure P0 vp0 l0 P1 vp1 l1 W hs0 hs1).mono fun e W' ⟨he, bel⟩ => ?_
  subst he
  exact ⟨_, rfl, _, _, _, [], _, [], hW', trodAll_mk1 (shut_bool (P := Tryz.prog) Tryz.underlying4 _), (trodAll_cons_mk (Below.trod rowLaid (by kernel_rfl) (of_decide_eq_true (by kernel_rfl)) k0 bel lt0) (trodAll_cons_mk (Below.trod rowLaid (by kernel_rfl) (of_decide_eq_true (by kernel_rfl)) k1 bel lt1) trodAll_mk0)), rfl, bel.frame _, fun h => by cases h⟩

theorem over_SetPure : Rows.setPureRow.holds Tryz.pinned (OpenSpec.ofChange Rows.setPureSpec) :=
  OpenClaim.holds_of_wide 6 Tryz.f6 rfl rfl rfl rfl rfl rfl rfl ⟨rfl, rfl, rfl, rfl, rfl⟩ rfl rfl rfl rfl rfl (by kernel_rfl) Tryz.func6 (by kernel_rfl)
    (of_decide_eq_true (by kernel_rfl)) (by unfold Func.isWrapper; first | (rw [if_pos (by decide +kernel)]; kernel_rfl) | (rw [if_neg (by decide +kernel)]; exact ⟨rfl, rfl⟩))
    (fun os started H enc _ => lifted_SetPure os started H enc)

/-- the statement -/
theorem setPure_holds : Rows.SetPureSaid := over_SetPure
#print axioms setPure_holds
end Go.Proofs.YtnjpceocnldlfaaGreat
