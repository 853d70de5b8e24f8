import Derived.Test.YtlbglinpgjlbkaaGreatDoorWkLFi
import Derived.Test.YtlbglinpgjlbkaaGreatDoorWkOp
/- The law ZonetextFinds: the row, and its tied card. Printed by gen_zrow.py. -/
namespace Go.Proofs.YtlbglinpgjlbkaaGreatDoor
open Go.ChangeShapes Go.WideShapes Go.ChangeAt Go.RowKit Wk
open Go.ChangeMaps (open_string shut_string)

set_option maxRecDepth 100000 in
theorem witness_Finds (os : Os) {H : Type} (enc : TypeId × Value → H) :
  (OpenSpec.ofChange Rows.zonetextFindsSpec).preRow enc Tryz.prog Tryz.f5 Rows.zonetextFindsRow.domain false Rows.zonetextFindsRow.laid ((World.laidAll Tryz.prog os Rows.zonetextFindsRow.laid).forCall (fun _ _ => 0) ⟨#[], #[.agg #[.slice none 0 0, .slice none 0 0, .slice none 0 0], .agg #[.slice none 0 0, .slice none 0 0, .slice none 0 0], .string ⟨#[]⟩], []⟩).memory #[.agg #[.slice none 0 0, .slice none 0 0, .slice none 0 0], .agg #[.slice none 0 0, .slice none 0 0, .slice none 0 0], .string ⟨#[]⟩] := by
 have hw : (DataW.whole enc Tryz.prog ((World.laidAll Tryz.prog os Rows.zonetextFindsRow.laid).forCall (fun _ _ => 0) ⟨#[], #[.agg #[.slice none 0 0, .slice none 0 0, .slice none 0 0], .agg #[.slice none 0 0, .slice none 0 0, .slice none 0 0], .string ⟨#[]⟩], []⟩).memory Tryz.f5.params.toList (OpenSpec.ofChange Rows.zonetextFindsSpec).vars false (#[.agg #[.slice none 0 0, .slice none 0 0, .slice none 0 0], .agg #[.slice none 0 0, .slice none 0 0, .slice none 0 0], .string ⟨#[]⟩] : Array Value).toList 8).map (fun x => (x.1, x.2.1)) =
   some ([.agg [.nil, .nil, .nil], .agg [.nil, .nil, .nil], .lit (.string [])], []) := by kernel_rfl
 obtain ⟨⟨x1, x2, x3⟩, hx, hx1⟩ := Option.map_eq_some_iff.1 hw
 simp only [Prod.mk.injEq] at hx1
 obtain ⟨rfl, rfl⟩ := hx1
 exact OpenSpec.preRow_of_cond 8 hx (by kernel_rfl) (fun k hk => by cases hk) (by kernel_rfl) (laidMet_laidAll _ (by kernel_rfl) (by kernel_rfl))

set_option maxRecDepth 100000 in
theorem lifted_Finds (os : Os) (started : os.Started) (H : Type) (enc : TypeId × Value → H) (F : Stop.Interp) :
  ReturnsInHanded {} Tryz.checked os 5 .any ((OpenSpec.ofChange Rows.zonetextFindsSpec).preRow enc Tryz.prog Tryz.f5 Rows.zonetextFindsRow.domain false Rows.zonetextFindsRow.laid) (((OpenSpec.ofChange Rows.zonetextFindsSpec).at F).post enc Tryz.prog Tryz.f5 false true false false) := by
 refine returnsInHanded_of_row (C := Tryz.checked) (s := (OpenSpec.ofChange Rows.zonetextFindsSpec)) rowOwn started (by kernel_rfl) Tryz.func5
  (witness_row_atRef (enc := enc) (C := Tryz.checked) false (World.laidAll Tryz.prog os Rows.zonetextFindsRow.laid) #[.agg #[.slice none 0 0, .slice none 0 0, .slice none 0 0], .agg #[.slice none 0 0, .slice none 0 0, .slice none 0 0], .string ⟨#[]⟩] (World.laidAll_os _ _ _) (by kernel_rfl) (by kernel_rfl) (by kernel_rfl) (witness_Finds os enc)) ?_
 intro W base args ds gs before hval0 hW _ _ hsz0 hL hsh _
 have hval : ∀ (j : Nat) t v, Tryz.f5.params[j]? = some t → args[j]? = some v → Value.okWide Tryz.prog W .any base t v := hval0
 have hW' := hW
 obtain ⟨p, q, hA0, hV, rfl, hfz, hnd⟩ := hW
 have hA : DataW.TrodAll enc Tryz.prog W 0 (fun _ => true) true Tryz.f5.params.toList args.toList ds p := hA0
 have hsz : (DataW.weightsEach Tryz.prog (Tryz.f5.params.toList ++ Rows.zonetextFindsSpec.plain.varTypes Tryz.prog) (ds ++ gs)).all (· ≤ reachBytes) = true := hsz0
 rw [Tryz.params5] at hA hval hsz
 obtain ⟨v0, vs0, d0, ds0, p0, q0, hargs, rfl, rfl, h0, r0⟩ := trodAll_cons hA
 obtain ⟨v1, vs1, d1, ds1, p1, q1, rfl, rfl, rfl, h1, r1⟩ := trodAll_cons r0
 obtain ⟨v2, vs2, d2, ds2, p2, q2, rfl, rfl, rfl, h2, r2⟩ := trodAll_cons r1
 obtain ⟨rfl, rfl, rfl⟩ := trodAll_nil r2
 obtain rfl : args = #[v0, v1, v2] := by cases args; simp_all
 obtain ⟨rfl, rfl⟩ := trodVars_none hV
 have k0 := h0
 have lt0 : ∀ x ∈ p0, x.block < W.heap.size := by obtain ⟨m, hm⟩ := k0; exact DataW.trod_lt m _ _ _ hm
 have hw0 : ∀ n ∈ d0.weights Tryz.prog 27, n ≤ reachBytes := fun n hn => by
  have := List.all_eq_true.1 hsz n (DataW.weights_mem_each (ds := _) (j := 0) (t := 27) rfl rfl n hn)
  simpa using this
 obtain ⟨rv0, zv0, lv0, S0, Z0, rfl, hs0, hr0, hz0, hl0, hq0⟩ := open_source (hval 0 27 v0 rfl rfl) h0 hw0
 have k1 := h1
 have lt1 : ∀ x ∈ p1, x.block < W.heap.size := by obtain ⟨m, hm⟩ := k1; exact DataW.trod_lt m _ _ _ hm
 have hw1 : ∀ n ∈ d1.weights Tryz.prog 27, n ≤ reachBytes := fun n hn => by
  have := List.all_eq_true.1 hsz n (DataW.weights_mem_each (ds := _) (j := 1) (t := 27) rfl rfl n hn)
  simpa using this
 obtain ⟨rv1, zv1, lv1, S1, Z1, rfl, hs1, hr1, hz1, hl1, hq1⟩ := open_source (hval 1 27 v1 rfl rfl) h1 hw1
 obtain ⟨s2, rfl, rfl, rfl, w2⟩ := open_string (P := Tryz.prog) Tryz.underlying9 (hval 2 9 v2 rfl rfl) h2
 clear hA0 hval0
 refine (law_Finds rv0 zv0 lv0 S0 Z0 rv1 zv1 lv1 S1 Z1 s2 W hs0 hr0 hz0 hl0 hq0 hs1 hr1 hz1 hl1 hq1 (glob_of_shaped hsh)).mono fun e W' ⟨he, bel⟩ => ?_
 subst he
 exact ⟨_, rfl, _, _, _, [], _, [], hW', trodAll_mk1 (shut_bool (P := Tryz.prog) Tryz.underlying4 _), (trodAll_cons_mk (Below.trod rowLaidO (by kernel_rfl) (of_decide_eq_true (by kernel_rfl)) k0 bel lt0) (trodAll_cons_mk (Below.trod rowLaidO (by kernel_rfl) (of_decide_eq_true (by kernel_rfl)) k1 bel lt1) (trodAll_cons_mk (shut_string (P := Tryz.prog) Tryz.underlying9 w2) trodAll_mk0))), rfl, bel.frame _, fun h => by cases h⟩

set_option maxRecDepth 100000 in
theorem over_Finds : Rows.ZonetextFindsSaid :=
 OpenClaim.holds_of_cond 5 Tryz.f5 rfl rfl rfl rfl rfl rfl rfl ⟨rfl, rfl, rfl, rfl, rfl⟩ rfl rfl rfl rfl rfl (by kernel_rfl) Tryz.func5 (by kernel_rfl)
  (of_decide_eq_true (by kernel_rfl)) (by unfold Func.isWrapper; first | (rw [if_pos (by decide +kernel)]; kernel_rfl) | (rw [if_neg (by decide +kernel)]; exact ⟨rfl, rfl⟩))
  (fun os started H enc _ F0 => by rw [OpenClaim.pre_eq_preRow]; exact lifted_Finds os started H enc F0)

set_option maxRecDepth 100000 in
theorem zonetextFinds_holds : Rows.ZonetextFindsCardSaid :=
 Claim7.holds_tied_plain_at .later [] [.data, .pinned] true (true, "60803e88bfcc5a6c5a3a926c5fe5b4821109c83701c4ad140eacad4f2d9d5fd0") false
  over_Finds (fun _ h => by cases h) (by kernel_rfl) (fun _ h => by cases h) zonetextFinds_row_tie rfl ⟨rfl, rfl⟩ (by kernel_rfl) rfl
  (fun f fn hf hfn => by
   obtain rfl : f = 5 := Option.some.inj ((show Tryz.prog.funcNamed "civiltime/civiltimelaw19.ZonetextFinds" = some 5 by kernel_rfl).symm.trans hf) |>.symm
   obtain rfl : fn = Tryz.f5 := (Option.some.inj (Tryz.func5.symm.trans hfn)).symm
   exact ⟨by kernel_rfl, fun j t ht => by
    rw [Tryz.params5] at ht
    have h3 : t = 27 ∨ t = 9 := by
     match j, ht with
     | 0, ht => simp at ht; simp [← ht]
     | 1, ht => simp at ht; simp [← ht]
     | 2, ht => simp at ht; simp [← ht]
     | (j + 3), ht => simp at ht
    rcases h3 with rfl | rfl
    ·exact (show Tryz.prog.wantsStandIn 27 = false by kernel_rfl)
    ·exact (show Tryz.prog.wantsStandIn 9 = false by kernel_rfl)⟩)
  (by kernel_rfl)
#print axioms zonetextFinds_holds
end Go.Proofs.YtlbglinpgjlbkaaGreatDoor
