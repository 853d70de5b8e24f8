import Derived.Test.YtlbglinpgjlbkaaDoorWkLPl
import Derived.Test.YtlbglinpgjlbkaaDoorWkRowZ
/- The law ZonetextPlaces: the row, and its tied card. Printed by gen_zrow.py. -/
namespace Go.Proofs.YtlbglinpgjlbkaaDoor
open Go.ChangeShapes Go.WideShapes Go.ChangeAt Go.RowKit Wk
open Go.ChangeMaps (open_string shut_string)

set_option maxRecDepth 100000 in
theorem witness_Places (os : Os) {H : Type} (enc : TypeId × Value → H) :
  (OpenSpec.ofChange Rows.zonetextPlacesSpec).preRow enc Tryd.prog Tryd.f3 Rows.zonetextPlacesRow.domain false Rows.zonetextPlacesRow.laid ((World.laidAll Tryd.prog os Rows.zonetextPlacesRow.laid).forCall (fun _ _ => 0) ⟨#[], #[.string ⟨#[]⟩], []⟩).memory #[.string ⟨#[]⟩] := by
 have hw : (DataW.whole enc Tryd.prog ((World.laidAll Tryd.prog os Rows.zonetextPlacesRow.laid).forCall (fun _ _ => 0) ⟨#[], #[.string ⟨#[]⟩], []⟩).memory Tryd.f3.params.toList (OpenSpec.ofChange Rows.zonetextPlacesSpec).vars false (#[.string ⟨#[]⟩] : Array Value).toList 8).map (fun x => (x.1, x.2.1)) =
   some ([.lit (.string [])], []) := by kernel_rfl
 obtain ⟨⟨x1, x2, x3⟩, hx, hx1⟩ := Option.map_eq_some_iff.1 hw
 simp only [Prod.mk.injEq] at hx1
 obtain ⟨rfl, rfl⟩ := hx1
 exact OpenSpec.preRow_of_cond 8 hx (by kernel_rfl) (fun k hk => by cases hk) (by kernel_rfl) (laidMet_laidAll _ (by kernel_rfl) (by kernel_rfl))

set_option maxRecDepth 100000 in
theorem lifted_Places (os : Os) (started : os.Started) (H : Type) (enc : TypeId × Value → H) (F : Stop.Interp) :
  ReturnsInHanded {} Tryd.checked os 3 .any ((OpenSpec.ofChange Rows.zonetextPlacesSpec).preRow enc Tryd.prog Tryd.f3 Rows.zonetextPlacesRow.domain false Rows.zonetextPlacesRow.laid) (((OpenSpec.ofChange Rows.zonetextPlacesSpec).at F).post enc Tryd.prog Tryd.f3 false true false false) := by
 refine returnsInHanded_of_row (C := Tryd.checked) (s := (OpenSpec.ofChange Rows.zonetextPlacesSpec)) rowOwn started (by kernel_rfl) Tryd.func3
  (witness_row_atRef (enc := enc) (C := Tryd.checked) false (World.laidAll Tryd.prog os Rows.zonetextPlacesRow.laid) #[.string ⟨#[]⟩] (World.laidAll_os _ _ _) (by kernel_rfl) (by kernel_rfl) (by kernel_rfl) (witness_Places os enc)) ?_
 intro W base args ds gs before hval0 hW _ _ hsz0 hL hsh _
 have hval : ∀ (j : Nat) t v, Tryd.f3.params[j]? = some t → args[j]? = some v → Value.okWide Tryd.prog W .any base t v := hval0
 have hW' := hW
 obtain ⟨p, q, hA0, hV, rfl, hfz, hnd⟩ := hW
 have hA : DataW.TrodAll enc Tryd.prog W 0 (fun _ => true) true Tryd.f3.params.toList args.toList ds p := hA0
 rw [Tryd.params3] at hA hval
 obtain ⟨v0, vs0, d0, ds0, p0, q0, hargs, rfl, rfl, h0, r0⟩ := trodAll_cons hA
 obtain ⟨rfl, rfl, rfl⟩ := trodAll_nil r0
 obtain rfl : args = #[v0] := by cases args; simp_all
 obtain ⟨rfl, rfl⟩ := trodVars_none hV
 obtain ⟨s0, rfl, rfl, rfl, w0⟩ := open_string (P := Tryd.prog) Tryd.underlying9 (hval 0 9 v0 rfl rfl) h0
 clear hA0 hval0
 refine (law_Places s0 W (glob_of_shaped hsh)).mono fun e W' ⟨he, bel⟩ => ?_
 subst he
 exact ⟨_, rfl, _, _, _, [], _, [], hW', trodAll_mk1 (shut_bool (P := Tryd.prog) Tryd.underlying4 _), (trodAll_cons_mk (shut_string (P := Tryd.prog) Tryd.underlying9 w0) trodAll_mk0), rfl, bel.frame _, fun h => by cases h⟩

set_option maxRecDepth 100000 in
theorem over_Places : Rows.ZonetextPlacesSaid :=
 OpenClaim.holds_of_cond 3 Tryd.f3 rfl rfl rfl rfl rfl rfl rfl ⟨rfl, rfl, rfl, rfl, rfl⟩ rfl rfl rfl rfl rfl (by kernel_rfl) Tryd.func3 (by kernel_rfl)
  (of_decide_eq_true (by kernel_rfl)) (by unfold Func.isWrapper; first | (rw [if_pos (by decide +kernel)]; kernel_rfl) | (rw [if_neg (by decide +kernel)]; exact ⟨rfl, rfl⟩))
  (fun os started H enc _ F0 => by rw [OpenClaim.pre_eq_preRow]; exact lifted_Places os started H enc F0)

set_option maxRecDepth 100000 in
theorem zonetextPlaces_holds : Rows.ZonetextPlacesCardSaid :=
 Claim7.holds_tied_plain_at .later [] [.data, .pinned] true (true, "24017cf0705775667b6daa33ba38453d5945785be970bfffeae9c60436a969b5") false
  over_Places (fun _ h => by cases h) (by kernel_rfl) (fun _ h => by cases h) zonetextPlaces_row_tie rfl ⟨rfl, rfl⟩ (by kernel_rfl) rfl
  (fun f fn hf hfn => by
   obtain rfl : f = 3 := Option.some.inj ((show Tryd.prog.funcNamed "civiltime/civiltimelaw19.ZonetextPlaces" = some 3 by kernel_rfl).symm.trans hf) |>.symm
   obtain rfl : fn = Tryd.f3 := (Option.some.inj (Tryd.func3.symm.trans hfn)).symm
   exact ⟨by kernel_rfl, fun j t ht => by
    rw [Tryd.params3] at ht
    have h3 : t = 9 := by
     match j, ht with
     | 0, ht => simp at ht; simp [← ht]
     | (j + 1), ht => simp at ht
    rcases h3 with rfl
    ·exact (show Tryd.prog.wantsStandIn 9 = false by kernel_rfl)⟩)
  (by kernel_rfl)
#print axioms zonetextPlaces_holds
end Go.Proofs.YtlbglinpgjlbkaaDoor
