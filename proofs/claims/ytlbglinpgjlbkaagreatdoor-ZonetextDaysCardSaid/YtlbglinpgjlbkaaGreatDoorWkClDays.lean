import Derived.Test.YtlbglinpgjlbkaaGreatDoorWkLD
import Derived.Test.YtlbglinpgjlbkaaGreatDoorWkRowZ
/- The law ZonetextDays: the row, and its tied card. Printed by gen_zrow.py. -/
namespace Go.Proofs.YtlbglinpgjlbkaaGreatDoor
open Go.ChangeShapes Go.WideShapes Go.ChangeAt Go.RowKit Wk
open Go.ChangeMaps (open_string shut_string)

set_option maxRecDepth 100000 in
theorem witness_Days (os : Os) {H : Type} (enc : TypeId × Value → H) :
  (OpenSpec.ofChange Rows.zonetextDaysSpec).preRow enc Tryz.prog Tryz.f6 Rows.zonetextDaysRow.domain false Rows.zonetextDaysRow.laid ((World.laidAll Tryz.prog os Rows.zonetextDaysRow.laid).forCall (fun _ _ => 0) ⟨#[], #[.string ⟨#[]⟩, .agg #[.int .i64 0, .int .i64 0, .int .i64 0]], []⟩).memory #[.string ⟨#[]⟩, .agg #[.int .i64 0, .int .i64 0, .int .i64 0]] := by
 have hw : (DataW.whole enc Tryz.prog ((World.laidAll Tryz.prog os Rows.zonetextDaysRow.laid).forCall (fun _ _ => 0) ⟨#[], #[.string ⟨#[]⟩, .agg #[.int .i64 0, .int .i64 0, .int .i64 0]], []⟩).memory Tryz.f6.params.toList (OpenSpec.ofChange Rows.zonetextDaysSpec).vars false (#[.string ⟨#[]⟩, .agg #[.int .i64 0, .int .i64 0, .int .i64 0]] : Array Value).toList 8).map (fun x => (x.1, x.2.1)) =
   some ([.lit (.string []), .agg [.lit (.int .i64 0), .lit (.int .i64 0), .lit (.int .i64 0)]], []) := by kernel_rfl
 obtain ⟨⟨x1, x2, x3⟩, hx, hx1⟩ := Option.map_eq_some_iff.1 hw
 simp only [Prod.mk.injEq] at hx1
 obtain ⟨rfl, rfl⟩ := hx1
 exact OpenSpec.preRow_of_cond 8 hx (by kernel_rfl) (fun k hk => by cases hk) (by kernel_rfl) (laidMet_laidAll _ (by kernel_rfl) (by kernel_rfl))

set_option maxRecDepth 100000 in
theorem lifted_Days (os : Os) (started : os.Started) (H : Type) (enc : TypeId × Value → H) (F : Stop.Interp) :
  ReturnsInHanded {} Tryz.checked os 6 .any ((OpenSpec.ofChange Rows.zonetextDaysSpec).preRow enc Tryz.prog Tryz.f6 Rows.zonetextDaysRow.domain false Rows.zonetextDaysRow.laid) (((OpenSpec.ofChange Rows.zonetextDaysSpec).at F).post enc Tryz.prog Tryz.f6 false true false false) := by
 refine returnsInHanded_of_row (C := Tryz.checked) (s := (OpenSpec.ofChange Rows.zonetextDaysSpec)) rowOwn started (by kernel_rfl) Tryz.func6
  (witness_row_atRef (enc := enc) (C := Tryz.checked) false (World.laidAll Tryz.prog os Rows.zonetextDaysRow.laid) #[.string ⟨#[]⟩, .agg #[.int .i64 0, .int .i64 0, .int .i64 0]] (World.laidAll_os _ _ _) (by kernel_rfl) (by kernel_rfl) (by kernel_rfl) (witness_Days os enc)) ?_
 intro W base args ds gs before hval0 hW _ _ hsz0 hL hsh _
 have hval : ∀ (j : Nat) t v, Tryz.f6.params[j]? = some t → args[j]? = some v → Value.okWide Tryz.prog W .any base t v := hval0
 have hW' := hW
 obtain ⟨p, q, hA0, hV, rfl, hfz, hnd⟩ := hW
 have hA : DataW.TrodAll enc Tryz.prog W 0 (fun _ => true) true Tryz.f6.params.toList args.toList ds p := hA0
 rw [Tryz.params6] at hA hval
 obtain ⟨v0, vs0, d0, ds0, p0, q0, hargs, rfl, rfl, h0, r0⟩ := trodAll_cons hA
 obtain ⟨v1, vs1, d1, ds1, p1, q1, rfl, rfl, rfl, h1, r1⟩ := trodAll_cons r0
 obtain ⟨rfl, rfl, rfl⟩ := trodAll_nil r1
 obtain rfl : args = #[v0, v1] := by cases args; simp_all
 obtain ⟨rfl, rfl⟩ := trodVars_none hV
 obtain ⟨s0, rfl, rfl, rfl, w0⟩ := open_string (P := Tryz.prog) Tryz.underlying9 (hval 0 9 v0 rfl rfl) h0
 have k1 := h1
 have lt1 : ∀ x ∈ p1, x.block < W.heap.size := by obtain ⟨m, hm⟩ := k1; exact DataW.trod_lt m _ _ _ hm
 obtain ⟨o1, rfl⟩ := open_on (hval 1 39 v1 rfl rfl) h1
 clear hA0 hval0
 refine (law_Days s0 o1 W (glob_of_shaped hsh) (tab_of_laid hL)).mono fun e W' ⟨he, bel⟩ => ?_
 subst he
 exact ⟨_, rfl, _, _, _, [], _, [], hW', trodAll_mk1 (shut_bool (P := Tryz.prog) Tryz.underlying4 _), (trodAll_cons_mk (shut_string (P := Tryz.prog) Tryz.underlying9 w0) (trodAll_cons_mk (Below.trod rowLaidO (by kernel_rfl) (of_decide_eq_true (by kernel_rfl)) k1 bel lt1) trodAll_mk0)), rfl, bel.frame _, fun h => by cases h⟩

set_option maxRecDepth 100000 in
theorem over_Days : Rows.ZonetextDaysSaid :=
 OpenClaim.holds_of_cond 6 Tryz.f6 rfl rfl rfl rfl rfl rfl rfl ⟨rfl, rfl, rfl, rfl, rfl⟩ rfl rfl rfl rfl rfl (by kernel_rfl) Tryz.func6 (by kernel_rfl)
  (of_decide_eq_true (by kernel_rfl)) (by unfold Func.isWrapper; first | (rw [if_pos (by decide +kernel)]; kernel_rfl) | (rw [if_neg (by decide +kernel)]; exact ⟨rfl, rfl⟩))
  (fun os started H enc _ F0 => by rw [OpenClaim.pre_eq_preRow]; exact lifted_Days os started H enc F0)

set_option maxRecDepth 100000 in
theorem zonetextDays_holds : Rows.ZonetextDaysCardSaid :=
 Claim7.holds_tied_plain_at .later [] [.data, .data, .data, .data, .pinned] true (true, "60803e88bfcc5a6c5a3a926c5fe5b4821109c83701c4ad140eacad4f2d9d5fd0") false
  over_Days (fun _ h => by cases h) (by kernel_rfl) (fun _ h => by cases h) zonetextDays_row_tie rfl ⟨rfl, rfl⟩ (by kernel_rfl) rfl
  (fun f fn hf hfn => by
   obtain rfl : f = 6 := Option.some.inj ((show Tryz.prog.funcNamed "civiltime/civiltimelaw19.ZonetextDays" = some 6 by kernel_rfl).symm.trans hf) |>.symm
   obtain rfl : fn = Tryz.f6 := (Option.some.inj (Tryz.func6.symm.trans hfn)).symm
   exact ⟨by kernel_rfl, fun j t ht => by
    rw [Tryz.params6] at ht
    have h3 : t = 9 ∨ t = 39 := by
     match j, ht with
     | 0, ht => simp at ht; simp [← ht]
     | 1, ht => simp at ht; simp [← ht]
     | (j + 2), ht => simp at ht
    rcases h3 with rfl | rfl
    ·exact (show Tryz.prog.wantsStandIn 9 = false by kernel_rfl)
    ·exact (show Tryz.prog.wantsStandIn 39 = false by kernel_rfl)⟩)
  (by kernel_rfl)
#print axioms zonetextDays_holds
end Go.Proofs.YtlbglinpgjlbkaaGreatDoor
