import Derived.Test.YtlbglinpgjlbkaaDoorWkLBl
import Derived.Test.YtlbglinpgjlbkaaDoorWkOpU
/- The law ZonetextBlanks: the row, and its tied card. Printed by gen_zrow.py. -/
namespace Go.Proofs.YtlbglinpgjlbkaaDoor
open Go.ChangeShapes Go.WideShapes Go.ChangeAt Go.RowKit Wk
open Go.ChangeMaps (open_string shut_string)

set_option maxRecDepth 100000 in
theorem witness_Blanks (os : Os) {H : Type} (enc : TypeId × Value → H) :
  (OpenSpec.ofChange Rows.zonetextBlanksSpec).preRow enc Tryd.prog Tryd.f4 Rows.zonetextBlanksRow.domain false Rows.zonetextBlanksRow.laid ((World.laidAll Tryd.prog os Rows.zonetextBlanksRow.laid).forCall (fun _ _ => 0) ⟨#[], #[.string ⟨#[]⟩, .string ⟨#[]⟩, .slice none 0 0], []⟩).memory #[.string ⟨#[]⟩, .string ⟨#[]⟩, .slice none 0 0] := by
 have hw : (DataW.whole enc Tryd.prog ((World.laidAll Tryd.prog os Rows.zonetextBlanksRow.laid).forCall (fun _ _ => 0) ⟨#[], #[.string ⟨#[]⟩, .string ⟨#[]⟩, .slice none 0 0], []⟩).memory Tryd.f4.params.toList (OpenSpec.ofChange Rows.zonetextBlanksSpec).vars false (#[.string ⟨#[]⟩, .string ⟨#[]⟩, .slice none 0 0] : Array Value).toList 8).map (fun x => (x.1, x.2.1)) =
   some ([.lit (.string []), .lit (.string []), .nil], []) := by kernel_rfl
 obtain ⟨⟨x1, x2, x3⟩, hx, hx1⟩ := Option.map_eq_some_iff.1 hw
 simp only [Prod.mk.injEq] at hx1
 obtain ⟨rfl, rfl⟩ := hx1
 exact OpenSpec.preRow_of_cond 8 hx (by kernel_rfl) (fun k hk => by cases hk) (by kernel_rfl) (laidMet_laidAll _ (by kernel_rfl) (by kernel_rfl))

set_option maxRecDepth 100000 in
theorem lifted_Blanks (os : Os) (started : os.Started) (H : Type) (enc : TypeId × Value → H) (F : Stop.Interp) :
  ReturnsInHanded {} Tryd.checked os 4 .any ((OpenSpec.ofChange Rows.zonetextBlanksSpec).preRow enc Tryd.prog Tryd.f4 Rows.zonetextBlanksRow.domain false Rows.zonetextBlanksRow.laid) (((OpenSpec.ofChange Rows.zonetextBlanksSpec).at F).post enc Tryd.prog Tryd.f4 false true false false) := by
 refine returnsInHanded_of_row (C := Tryd.checked) (s := (OpenSpec.ofChange Rows.zonetextBlanksSpec)) rowOwn started (by kernel_rfl) Tryd.func4
  (witness_row_atRef (enc := enc) (C := Tryd.checked) false (World.laidAll Tryd.prog os Rows.zonetextBlanksRow.laid) #[.string ⟨#[]⟩, .string ⟨#[]⟩, .slice none 0 0] (World.laidAll_os _ _ _) (by kernel_rfl) (by kernel_rfl) (by kernel_rfl) (witness_Blanks os enc)) ?_
 intro W base args ds gs before hval0 hW _ _ hsz0 hL hsh _
 have hval : ∀ (j : Nat) t v, Tryd.f4.params[j]? = some t → args[j]? = some v → Value.okWide Tryd.prog W .any base t v := hval0
 have hW' := hW
 obtain ⟨p, q, hA0, hV, rfl, hfz, hnd⟩ := hW
 have hA : DataW.TrodAll enc Tryd.prog W 0 (fun _ => true) true Tryd.f4.params.toList args.toList ds p := hA0
 have hsz : (DataW.weightsEach Tryd.prog (Tryd.f4.params.toList ++ Rows.zonetextBlanksSpec.plain.varTypes Tryd.prog) (ds ++ gs)).all (· ≤ reachBytes) = true := hsz0
 rw [Tryd.params4] at hA hval hsz
 obtain ⟨v0, vs0, d0, ds0, p0, q0, hargs, rfl, rfl, h0, r0⟩ := trodAll_cons hA
 obtain ⟨v1, vs1, d1, ds1, p1, q1, rfl, rfl, rfl, h1, r1⟩ := trodAll_cons r0
 obtain ⟨v2, vs2, d2, ds2, p2, q2, rfl, rfl, rfl, h2, r2⟩ := trodAll_cons r1
 obtain ⟨rfl, rfl, rfl⟩ := trodAll_nil r2
 obtain rfl : args = #[v0, v1, v2] := by cases args; simp_all
 obtain ⟨rfl, rfl⟩ := trodVars_none hV
 obtain ⟨s0, rfl, rfl, rfl, w0⟩ := open_string (P := Tryd.prog) Tryd.underlying9 (hval 0 9 v0 rfl rfl) h0
 obtain ⟨s1, rfl, rfl, rfl, w1⟩ := open_string (P := Tryd.prog) Tryd.underlying9 (hval 1 9 v1 rfl rfl) h1
 have k2 := h2
 have lt2 : ∀ x ∈ p2, x.block < W.heap.size := by obtain ⟨m, hm⟩ := k2; exact DataW.trod_lt m _ _ _ hm
 have hw2 : ∀ n ∈ d2.weights Tryd.prog 37, n ≤ reachBytes := fun n hn => by
  have := List.all_eq_true.1 hsz n (DataW.weights_mem_each (ds := _) (j := 2) (t := 37) rfl rfl n hn)
  simpa using this
 obtain ⟨F2, hs2⟩ := open_bytes (hval 2 37 v2 rfl rfl) h2 hw2
 clear hA0 hval0
 refine (law_Blanks s0 s1 v2 F2 W hs2 (glob_of_shaped hsh)).mono fun e W' ⟨he, bel⟩ => ?_
 subst he
 exact ⟨_, rfl, _, _, _, [], _, [], hW', trodAll_mk1 (shut_bool (P := Tryd.prog) Tryd.underlying4 _), (trodAll_cons_mk (shut_string (P := Tryd.prog) Tryd.underlying9 w0) (trodAll_cons_mk (shut_string (P := Tryd.prog) Tryd.underlying9 w1) (trodAll_cons_mk (Below.trod rowLaidO (by kernel_rfl) (of_decide_eq_true (by kernel_rfl)) k2 bel lt2) trodAll_mk0))), rfl, bel.frame _, fun h => by cases h⟩

set_option maxRecDepth 100000 in
theorem over_Blanks : Rows.ZonetextBlanksSaid :=
 OpenClaim.holds_of_cond 4 Tryd.f4 rfl rfl rfl rfl rfl rfl rfl ⟨rfl, rfl, rfl, rfl, rfl⟩ rfl rfl rfl rfl rfl (by kernel_rfl) Tryd.func4 (by kernel_rfl)
  (of_decide_eq_true (by kernel_rfl)) (by unfold Func.isWrapper; first | (rw [if_pos (by decide +kernel)]; kernel_rfl) | (rw [if_neg (by decide +kernel)]; exact ⟨rfl, rfl⟩))
  (fun os started H enc _ F0 => by rw [OpenClaim.pre_eq_preRow]; exact lifted_Blanks os started H enc F0)

set_option maxRecDepth 100000 in
theorem zonetextBlanks_holds : Rows.ZonetextBlanksCardSaid :=
 Claim7.holds_tied_plain_at .later [] [.data, .pinned] true (true, "24017cf0705775667b6daa33ba38453d5945785be970bfffeae9c60436a969b5") false
  over_Blanks (fun _ h => by cases h) (by kernel_rfl) (fun _ h => by cases h) zonetextBlanks_row_tie rfl ⟨rfl, rfl⟩ (by kernel_rfl) rfl
  (fun f fn hf hfn => by
   obtain rfl : f = 4 := Option.some.inj ((show Tryd.prog.funcNamed "civiltime/civiltimelaw19.ZonetextBlanks" = some 4 by kernel_rfl).symm.trans hf) |>.symm
   obtain rfl : fn = Tryd.f4 := (Option.some.inj (Tryd.func4.symm.trans hfn)).symm
   exact ⟨by kernel_rfl, fun j t ht => by
    rw [Tryd.params4] at ht
    have h3 : t = 9 ∨ t = 37 := by
     match j, ht with
     | 0, ht => simp at ht; simp [← ht]
     | 1, ht => simp at ht; simp [← ht]
     | 2, ht => simp at ht; simp [← ht]
     | (j + 3), ht => simp at ht
    rcases h3 with rfl | rfl
    ·exact (show Tryd.prog.wantsStandIn 9 = false by kernel_rfl)
    ·exact (show Tryd.prog.wantsStandIn 37 = false by kernel_rfl)⟩)
  (by kernel_rfl)
#print axioms zonetextBlanks_holds
end Go.Proofs.YtlbglinpgjlbkaaDoor
