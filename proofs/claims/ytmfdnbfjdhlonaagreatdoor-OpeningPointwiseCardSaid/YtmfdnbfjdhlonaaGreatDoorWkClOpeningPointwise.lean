import Derived.Test.YtmfdnbfjdhlonaaGreatDoorWkQo
import Derived.Test.YtmfdnbfjdhlonaaGreatDoorWkQs
/- The law OpeningPointwise: the row, and its tied card. Printed by gen_orow.py. -/
namespace Go.Proofs.YtmfdnbfjdhlonaaGreatDoor
open Go.ChangeShapes Go.WideShapes Go.ChangeAt Go.RowKit Wk
open Go.ChangeMaps (open_string shut_string)

set_option maxRecDepth 100000 in
theorem witness_Pointwise (os : Os) {H : Type} (enc : TypeId × Value → H) :
  (OpenSpec.ofChange Rows.openingPointwiseSpec).preRow enc Tryz.prog Tryz.f4 Rows.openingPointwiseRow.domain false Rows.openingPointwiseRow.laid ((World.laidAll Tryz.prog os Rows.openingPointwiseRow.laid).forCall (fun _ _ => 0) ⟨#[], #[.agg #[.slice none 0 0, .slice none 0 0, .slice none 0 0, .slice none 0 0, .slice none 0 0, .slice none 0 0, .slice none 0 0], .int .i32 0, .int .u32 0], []⟩).memory #[.agg #[.slice none 0 0, .slice none 0 0, .slice none 0 0, .slice none 0 0, .slice none 0 0, .slice none 0 0, .slice none 0 0], .int .i32 0, .int .u32 0] := by
 have hw : (DataW.whole enc Tryz.prog ((World.laidAll Tryz.prog os Rows.openingPointwiseRow.laid).forCall (fun _ _ => 0) ⟨#[], #[.agg #[.slice none 0 0, .slice none 0 0, .slice none 0 0, .slice none 0 0, .slice none 0 0, .slice none 0 0, .slice none 0 0], .int .i32 0, .int .u32 0], []⟩).memory Tryz.f4.params.toList (OpenSpec.ofChange Rows.openingPointwiseSpec).vars false (#[.agg #[.slice none 0 0, .slice none 0 0, .slice none 0 0, .slice none 0 0, .slice none 0 0, .slice none 0 0, .slice none 0 0], .int .i32 0, .int .u32 0] : Array Value).toList 8).map (fun x => (x.1, x.2.1)) =
   some ([.agg [.agg [.nil, .nil, .nil, .nil, .nil, .nil, .nil]], .lit (.int .i32 0), .lit (.int .u32 0)], []) := by kernel_rfl
 obtain ⟨⟨x1, x2, x3⟩, hx, hx1⟩ := Option.map_eq_some_iff.1 hw
 simp only [Prod.mk.injEq] at hx1
 obtain ⟨rfl, rfl⟩ := hx1
 exact OpenSpec.preRow_of_cond 8 hx (by kernel_rfl) (fun k hk => by cases hk) (by kernel_rfl) (laidMet_laidAll _ (by kernel_rfl) (by kernel_rfl))

set_option maxRecDepth 100000 in
theorem lifted_Pointwise (os : Os) (started : os.Started) (H : Type) (enc : TypeId × Value → H) (F : Stop.Interp) :
  ReturnsInHanded {} Tryz.checked os 4 .any ((OpenSpec.ofChange Rows.openingPointwiseSpec).preRow enc Tryz.prog Tryz.f4 Rows.openingPointwiseRow.domain false Rows.openingPointwiseRow.laid) (((OpenSpec.ofChange Rows.openingPointwiseSpec).at F).post enc Tryz.prog Tryz.f4 false true false false) := by
 refine returnsInHanded_of_row (C := Tryz.checked) (s := (OpenSpec.ofChange Rows.openingPointwiseSpec)) rowOwn started (by kernel_rfl) Tryz.func4
  (witness_row_atRef (enc := enc) (C := Tryz.checked) false (World.laidAll Tryz.prog os Rows.openingPointwiseRow.laid) #[.agg #[.slice none 0 0, .slice none 0 0, .slice none 0 0, .slice none 0 0, .slice none 0 0, .slice none 0 0, .slice none 0 0], .int .i32 0, .int .u32 0] (World.laidAll_os _ _ _) (by kernel_rfl) (by kernel_rfl) (by kernel_rfl) (witness_Pointwise os enc)) ?_
 intro W base args ds gs before hval0 hW _ _ hsz0 _ hsh _
 have hval : ∀ (j : Nat) t v, Tryz.f4.params[j]? = some t → args[j]? = some v → Value.okWide Tryz.prog W .any base t v := hval0
 have hW' := hW
 obtain ⟨p, q, hA0, hV, rfl, hfz, hnd⟩ := hW
 have hA : DataW.TrodAll enc Tryz.prog W 0 (fun _ => true) true Tryz.f4.params.toList args.toList ds p := hA0
 have hsz : (DataW.weightsEach Tryz.prog (Tryz.f4.params.toList ++ Rows.openingPointwiseSpec.plain.varTypes Tryz.prog) (ds ++ gs)).all (· ≤ reachBytes) = true := hsz0
 rw [Tryz.params4] at hA hval hsz
 obtain ⟨v0, vs0, d0, ds0, p0, q0, hargs, rfl, rfl, h0, r0⟩ := trodAll_cons hA
 obtain ⟨v1, vs1, d1, ds1, p1, q1, rfl, rfl, rfl, h1, r1⟩ := trodAll_cons r0
 obtain ⟨v2, vs2, d2, ds2, p2, q2, rfl, rfl, rfl, h2, r2⟩ := trodAll_cons r1
 obtain ⟨rfl, rfl, rfl⟩ := trodAll_nil r2
 obtain rfl : args = #[v0, v1, v2] := by cases args; simp_all
 obtain ⟨rfl, rfl⟩ := trodVars_none hV
 have k0 := h0
 have lt0 : ∀ x ∈ p0, x.block < W.heap.size := by obtain ⟨m, hm⟩ := k0; exact DataW.trod_lt m _ _ _ hm
 have hw0 : ∀ n ∈ d0.weights Tryz.prog 25, n ≤ reachBytes := fun n hn => by
  have := List.all_eq_true.1 hsz n (DataW.weights_mem_each (ds := _) (j := 0) (t := 25) rfl rfl n hn)
  simpa using this
 obtain ⟨a0, b0, c0, e0, f0, g0, i0, H0, rfl, hr0⟩ := open_hours (hval 0 25 v0 rfl rfl) h0 hw0
 obtain ⟨x1, rfl, rfl, rfl, w1⟩ := open_int (P := Tryz.prog) Tryz.underlying21 (hval 1 21 v1 rfl rfl) h1
 obtain ⟨x2, rfl, rfl, rfl, w2⟩ := open_int (P := Tryz.prog) Tryz.underlying38 (hval 2 38 v2 rfl rfl) h2
 clear hA0 hval0
 refine (law_OpeningPointwise a0 b0 c0 e0 f0 g0 i0 H0 x1 x2 W (glob_of_shaped hsh) hr0 (wf_i32 w1).1 (wf_i32 w1).2 (wf_u32 w2).1 (wf_u32 w2).2).mono fun e W' ⟨he, bel⟩ => ?_
 subst he
 exact ⟨_, rfl, _, _, _, [], _, [], hW', trodAll_mk1 (shut_bool (P := Tryz.prog) Tryz.underlying4 _), (trodAll_cons_mk (Below.trod rowLaidO (by kernel_rfl) (of_decide_eq_true (by kernel_rfl)) k0 bel lt0) (trodAll_cons_mk (shut_int (P := Tryz.prog) Tryz.underlying21 w1) (trodAll_cons_mk (shut_int (P := Tryz.prog) Tryz.underlying38 w2) trodAll_mk0))), rfl, bel.frame _, fun h => by cases h⟩

set_option maxRecDepth 100000 in
theorem over_Pointwise : Rows.OpeningPointwiseSaid :=
 OpenClaim.holds_of_cond 4 Tryz.f4 rfl rfl rfl rfl rfl rfl rfl ⟨rfl, rfl, rfl, rfl, rfl⟩ rfl rfl rfl rfl rfl (by kernel_rfl) Tryz.func4 (by kernel_rfl)
  (of_decide_eq_true (by kernel_rfl)) (by unfold Func.isWrapper; first | (rw [if_pos (by decide +kernel)]; kernel_rfl) | (rw [if_neg (by decide +kernel)]; exact ⟨rfl, rfl⟩))
  (fun os started H enc _ F0 => by rw [OpenClaim.pre_eq_preRow]; exact lifted_Pointwise os started H enc F0)

set_option maxRecDepth 100000 in
theorem openingPointwise_holds : Rows.OpeningPointwiseCardSaid :=
 Claim7.holds_tied_plain_at .later [] [.data, .pinned] true (true, "8921a56265287e0ee9cf6effbe822ec0ce37be5b23c8fd3b3b408c5a6999ff98") false
  over_Pointwise (fun _ h => by cases h) (by kernel_rfl) (fun _ h => by cases h) openingPointwise_row_tie rfl ⟨rfl, rfl⟩ (by kernel_rfl) rfl
  (fun f fn hf hfn => by
   obtain rfl : f = 4 := Option.some.inj ((show Tryz.prog.funcNamed "civiltime/civiltimelaw27.OpeningPointwise" = some 4 by kernel_rfl).symm.trans hf) |>.symm
   obtain rfl : fn = Tryz.f4 := (Option.some.inj (Tryz.func4.symm.trans hfn)).symm
   exact ⟨by kernel_rfl, fun j t ht => by
    rw [Tryz.params4] at ht
    have h3 : t = 25 ∨ t = 21 ∨ t = 38 := by
     match j, ht with
     | 0, ht => simp at ht; simp [← ht]
     | 1, ht => simp at ht; simp [← ht]
     | 2, ht => simp at ht; simp [← ht]
     | (j + 3), ht => simp at ht
    rcases h3 with rfl | rfl | rfl
    ·exact (show Tryz.prog.wantsStandIn 25 = false by kernel_rfl)
    ·exact (show Tryz.prog.wantsStandIn 21 = false by kernel_rfl)
    ·exact (show Tryz.prog.wantsStandIn 38 = false by kernel_rfl)⟩)
  (by kernel_rfl)
#print axioms openingPointwise_holds
end Go.Proofs.YtmfdnbfjdhlonaaGreatDoor
