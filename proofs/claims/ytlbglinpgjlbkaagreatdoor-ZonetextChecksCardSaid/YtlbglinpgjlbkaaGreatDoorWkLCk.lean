import Derived.Test.YtlbglinpgjlbkaaGreatDoorWkNm
import Derived.Test.YtlbglinpgjlbkaaGreatDoorWkEqz
import Derived.Test.YtlbglinpgjlbkaaGreatDoorWkFw
import Derived.Test.YtlbglinpgjlbkaaGreatDoorWkL0
/- Zone texts: the law Checks. Printed by gen_ls.py. No conditions. -/
namespace Go.Proofs.YtlbglinpgjlbkaaGreatDoor
open Go.RowKit Wk

theorem names_len (S : SrT) : (namesM S).length ≤ S.zo.length + S.lk.length := by
 unfold namesM
 split
 ·simp
 ·exact Nat.zero_le _
theorem chkA_eq {s : SrT} {e : Ending} (h : ChkA s e) : e = .returned (.tuple #[.string ⟨(checkM s).1.toArray⟩, .int .i64 (checkM s).2]) := h
set_option maxRecDepth 100000 in
set_option maxHeartbeats 8000000 in
theorem law_Checks (rv zv lv : Value) (S : SrT) (Z : List ZkT) (w : World) (hs : RdSr w rv zv lv S Z) (_hcr : CapV rv) (hcz : CapV zv) (hcl : CapV lv) (_hcq : ∀ i, i < Z.length → CapV (Z.getD i zk0).2) (hg : Glob w) :
  Calls Tryz.prog 9 #[.agg #[rv, zv, lv]] w fun e w' => e = .returned (.bool true) ∧ Below w.heap.size w w' := by
 have HG := Lib.hid hg
 have HS := Lib.hid hs
 have HAW : Hid (∀ W, Below w.heap.size w W → Calls Tryz.prog 11 #[] W fun e w' => e = .returned (.bool true) ∧ Below W.heap.size W w') := Lib.hid fun W hW => awake_any W (HG.out.below hW)
 have HFE : Hid (∀ W, Below w.heap.size w W → Calls Tryz.prog 19 #[.agg #[rv, zv, lv]] W fun e w' => e = .returned (.bool (fewB S)) ∧ Below W.heap.size W w') := Lib.hid fun W hW => few_any rv zv lv S Z W (hs.below hW)
 have HCK : Hid (fewB S = true → ∀ W, Below w.heap.size w W → Calls Tryz.prog 18 #[.agg #[rv, zv, lv]] W fun e w' => e = .returned (.tuple #[.string ⟨(checkM S).1.toArray⟩, .int .i64 (checkM S).2]) ∧ Below W.heap.size W w') := Lib.hid fun h W hW => (check_any rv zv lv S Z W (hs.below hW) (few_out h).2.2.2 (HG.out.below hW) hcz hcl).mono fun e w' h => ⟨chkA_eq h.1, h.2⟩
 have HCR : Hid (fewB S = true → ∀ W, Below w.heap.size w W → Calls Tryz.prog 36 #[.agg #[rv, zv, lv]] W fun e w' => e = .returned (.tuple #[.string ⟨(checkM S).1.toArray⟩, .int .i64 (checkM S).2]) ∧ Below W.heap.size W w') := Lib.hid fun h W hW => (check19_any rv zv lv S Z W (hs.below hW) (few_out h).2.2.2).mono fun e w' h => ⟨chkA_eq h.1, h.2⟩
 have HVA : Hid (fewB S = true → ∀ W, Below w.heap.size w W → Calls Tryz.prog 35 #[.agg #[rv, zv, lv]] W fun e w' => e = .returned (.bool ((checkM S).2 == 0)) ∧ Below W.heap.size W w') := Lib.hid fun h W hW => valid_any rv zv lv S Z W (hs.below hW) (few_out h).2.2.2 (HG.out.below hW) hcz hcl
 have HNP : Hid (fewB S = true → ∀ W, Below w.heap.size w W → Calls Tryz.prog 38 #[.agg #[rv, zv, lv]] W fun e w' => (∃ a c, e = .returned (.slice a (namesM S).length c) ∧ RdSt w' (.slice a (namesM S).length c) (namesM S)) ∧ Below W.heap.size W w') := Lib.hid fun hf W hW => (names_any rv zv lv S Z W (hs.below hW) (few_out hf).2.2.2 (HG.out.below hW) hcz hcl).mono fun e w' h => by
  obtain ⟨⟨u, he, ho⟩, hb⟩ := h
  obtain ⟨a, c, rfl⟩ := ho.form
  refine ⟨⟨a, c, he, ho.rd flS_len ?_⟩, hb⟩
  have := names_len S
  have := few_out hf
  omega
 have HNR : Hid (fewB S = true → ∀ W, Below w.heap.size w W → Calls Tryz.prog 39 #[.agg #[rv, zv, lv]] W fun e w' => (∃ a c, e = .returned (.slice a (namesM S).length c) ∧ RdSt w' (.slice a (namesM S).length c) (namesM S)) ∧ Below W.heap.size W w') := Lib.hid fun hf W hW => (names19_any rv zv lv S Z W (hs.below hW) (few_out hf).2.2.2).mono fun e w' h => by
  obtain ⟨⟨u, he, ho⟩, hb⟩ := h
  obtain ⟨a, c, rfl⟩ := ho.form
  refine ⟨⟨a, c, he, ho.rd flS_len ?_⟩, hb⟩
  have := names_len S
  have := few_out hf
  omega
 have HEQ : Hid (∀ (L : List Bs) (u v : Value) (W : World), RdSt W u L → RdSt W v L → Calls Tryz.prog 37 #[u, v] W fun e w' => e = .returned (.bool true) ∧ Below W.heap.size W w') := Lib.hid fun L u v W h1 h2 => by
  have q := eq_str u v L L W h1 h2
  rw [decide_eq_true rfl] at q
  exact q
 obtain ⟨CT, hCT⟩ : ∃ t : ByteArray, ⟨(checkM S).1.toArray⟩ = t := ⟨_, rfl⟩
 obtain ⟨ce, hce⟩ : ∃ t, (checkM S).2 = t := ⟨_, rfl⟩
 obtain ⟨nn, hnn⟩ : ∃ t, namesM S = t := ⟨_, rfl⟩
 rw [hCT, hce] at HCK HCR
 rw [hce] at HVA
 rw [hnn] at HNP HNR
 obtain ⟨q, hq⟩ : ∃ q, fewB S = q := ⟨_, rfl⟩
 rw [hq] at HFE HCK HCR HVA HNP HNR
 obtain ⟨ra, rc, rfl⟩ := hs.ru.form
 obtain ⟨za, zc, rfl⟩ := hs.zo.row.form
 obtain ⟨la, lc, rfl⟩ := hs.lk.form
 clear hs hg hcz hcl hCT hce hnn hq HG HS
 go_enter Tryz.func9, Tryz.ntmps9
 go_upto_region 1 with fail
 obtain ⟨bx, hbx⟩ : ∃ b, w.heap.size = b := ⟨_, rfl⟩
 obtain ⟨X, hX⟩ : ∃ Y, w.alloc (.cells #[.slice ra S.ru.length rc, .slice za Z.length zc, .slice la S.lk.length lc] 27) = Y := ⟨_, rfl⟩
 have HBX : Hid (Below w.heap.size w X) := Lib.hid (by rw [← hX]; exact (Below.refl _ _).alloc (Nat.le_refl _) _)
 have HK : Hid (∀ W, Below X.heap.size X W → W.cell? ⟨bx, 0, none⟩ = some (.slice ra S.ru.length rc) ∧ W.cell? ⟨bx, 1, none⟩ = some (.slice za Z.length zc) ∧ W.cell? ⟨bx, 2, none⟩ = some (.slice la S.lk.length lc)) := Lib.hid (by
  have q : Blk X bx #[.slice ra S.ru.length rc, .slice za Z.length zc, .slice la S.lk.length lc] 27 := by rw [← hX, ← hbx]; exact Blk.new _ _ _
  exact fun W hW => ⟨(q.below hW).cell (j := 0) rfl, (q.below hW).cell (j := 1) rfl, (q.below hW).cell (j := 2) rfl⟩)
 try rw [hX]
 try rw [hbx]
 clear hX hbx
 have HB0 : Hid (Below X.heap.size X X) := Lib.hid (Below.refl _ _)
 go_upto_region 3 with (first | (go_at_call 11; refine (HAW.out _ (keepBelow HBX.out HB0.out)).mono ?_; rintro e w1 ⟨rfl, hb1⟩; obtain ⟨W1, hW1⟩ : ∃ W, w1 = W := ⟨_, rfl⟩; rw [hW1] at hb1 ⊢; clear hW1; have HB1 : Hid (Below X.heap.size X W1) := Lib.hid (keepBelow HB0.out hb1); clear hb1) | fail)
 obtain ⟨y10, y11, y12⟩ := HK.out _ HB1.out
 cases q with
 | false =>
  go_wp2_with (first | (go_at_call 19; refine (HFE.out _ (keepBelow HBX.out HB1.out)).mono ?_; rintro e w2 ⟨rfl, hb2⟩; obtain ⟨W2, hW2⟩ : ∃ W, w2 = W := ⟨_, rfl⟩; rw [hW2] at hb2 ⊢; clear hW2; have HB2 : Hid (Below X.heap.size X W2) := Lib.hid (keepBelow HB1.out hb2); clear hb2) | fail)
  go_ret
  exact ⟨rfl, keepBelow HBX.out HB2.out⟩
 | true =>
 have HCK2 := Lib.hid (HCK.out rfl)
 have HCR2 := Lib.hid (HCR.out rfl)
 have HVA2 := Lib.hid (HVA.out rfl)
 have HNP2 := Lib.hid (HNP.out rfl)
 have HNR2 := Lib.hid (HNR.out rfl)
 clear HCK HCR HVA HNP HNR
 go_upto_region 5 with (first | (go_at_call 19; refine (HFE.out _ (keepBelow HBX.out HB1.out)).mono ?_; rintro e w2 ⟨rfl, hb2⟩; obtain ⟨W2, hW2⟩ : ∃ W, w2 = W := ⟨_, rfl⟩; rw [hW2] at hb2 ⊢; clear hW2; have HB2 : Hid (Below X.heap.size X W2) := Lib.hid (keepBelow HB1.out hb2); clear hb2) | fail)
 obtain ⟨y20, y21, y22⟩ := HK.out _ HB2.out
 clear y10 y11 y12
 go_upto_region 6 with (first | (go_at_call 18; refine (HCK2.out _ (keepBelow HBX.out HB2.out)).mono ?_; rintro e w3 ⟨rfl, hb3⟩; obtain ⟨W3, hW3⟩ : ∃ W, w3 = W := ⟨_, rfl⟩; rw [hW3] at hb3 ⊢; clear hW3; have HB3 : Hid (Below X.heap.size X W3) := Lib.hid (keepBelow HB2.out hb3); clear hb3) | fail)
 obtain ⟨y30, y31, y32⟩ := HK.out _ HB3.out
 clear y20 y21 y22
 go_upto_region 7 with (first | (go_at_call 36; refine (HCR2.out _ (keepBelow HBX.out HB3.out)).mono ?_; rintro e w4 ⟨rfl, hb4⟩; obtain ⟨W4, hW4⟩ : ∃ W, w4 = W := ⟨_, rfl⟩; rw [hW4] at hb4 ⊢; clear hW4; have HB4 : Hid (Below X.heap.size X W4) := Lib.hid (keepBelow HB3.out hb4); clear hb4) | fail)
 obtain ⟨y40, y41, y42⟩ := HK.out _ HB4.out
 clear y30 y31 y32
 clear y40 y41 y42 HFE HAW
 have HB5 : Hid (Below X.heap.size X W4.drew) := Lib.hid HB4.out.drew
 refine wp_region_held_drew (S := fun w' => w'.cell? ⟨bx, 0, none⟩ = some (.slice ra S.ru.length rc) ∧ w'.cell? ⟨bx, 1, none⟩ = some (.slice za Z.length zc) ∧ w'.cell? ⟨bx, 2, none⟩ = some (.slice la S.lk.length lc)) (by kernel_rfl) ?_ (fun hHeld => ?_)
 ·exact HK.out _ HB5.out
 refine wpAnyH_take (i := 0) (v := ?v1) rfl (by kernel_rfl) (by kernel_rfl) (by kernel_rfl) (fun _ _ _ h => h) (Or.inl ⟨by rfl, ?hy1⟩) (by assumption) ?rest1
 case hy1 =>
  intro w hSw
  try dsimp only at hSw
  go_simp
  try with_reducible rfl
 case rest1 =>
 refine wpAnyH_take (i := 1) (v := ?v2) rfl (by kernel_rfl) (by kernel_rfl) (by kernel_rfl) (fun _ _ _ h => h) (Or.inl ⟨by rfl, ?hy2⟩) (by assumption) ?rest2
 case hy2 =>
  intro w hSw
  try dsimp only at hSw
  go_simp
  try with_reducible rfl
 case rest2 =>
 refine wpAnyH_take (i := 2) (v := ?v3) rfl (by kernel_rfl) (by kernel_rfl) (by kernel_rfl) (fun _ _ _ h => h) (Or.inl ⟨by rfl, ?hy3⟩) (by assumption) ?rest3
 case hy3 =>
  intro w hSw
  try dsimp only at hSw
  go_simp
  try with_reducible rfl
 case rest3 =>
 refine wpAnyH_take (i := 3) (v := ?v4) rfl (by kernel_rfl) (by kernel_rfl) (by kernel_rfl) (fun _ _ _ h => h) (Or.inl ⟨by rfl, ?hy4⟩) (by assumption) ?rest4
 case hy4 =>
  intro w hSw
  try dsimp only at hSw
  go_simp
  try with_reducible rfl
 case rest4 =>
 go_simp
 refine wpAnyH_take (i := 4) (v := ?v5) rfl (by kernel_rfl) (by kernel_rfl) (by kernel_rfl) (fun _ _ _ h => h) (Or.inl ⟨by rfl, ?hy5⟩) (by assumption) ?rest5
 case hy5 =>
  intro w hSw
  try dsimp only at hSw
  go_simp
  try with_reducible rfl
 case rest5 =>
 refine wpAnyH_take (i := 5) (v := ?v6) rfl (by kernel_rfl) (by kernel_rfl) (by kernel_rfl) (fun _ _ _ h => h) (Or.inl ⟨by rfl, ?hy6⟩) (by assumption) ?rest6
 case hy6 =>
  intro w hSw
  try dsimp only at hSw
  go_simp
  try with_reducible rfl
 case rest6 =>
 refine wpAnyH_take (i := 6) (v := ?v7) rfl (by kernel_rfl) (by kernel_rfl) (by kernel_rfl) (fun _ _ _ h => h) (Or.inl ⟨by rfl, ?hy7⟩) (by assumption) ?rest7
 case hy7 =>
  intro w hSw
  try dsimp only at hSw
  go_simp
  try with_reducible rfl
 case rest7 =>
 refine wpAnyH_take (i := 7) (v := ?v8) rfl (by kernel_rfl) (by kernel_rfl) (by kernel_rfl) (fun _ _ _ h => h) (Or.inl ⟨by rfl, ?hy8⟩) (by assumption) ?rest8
 case hy8 =>
  intro w hSw
  try dsimp only at hSw
  go_simp
  try with_reducible rfl
 case rest8 =>
 refine wpAnyH_take (i := 8) (v := ?v9) rfl (by kernel_rfl) (by kernel_rfl) (by kernel_rfl) (fun _ _ _ h => h) (Or.inl ⟨by rfl, ?hy9⟩) (by assumption) ?rest9
 case hy9 =>
  intro w hSw
  try dsimp only at hSw
  go_simp
  try with_reducible rfl
 case rest9 =>
 go_simp
 refine wpAnyH_take (i := 9) (v := ?v10) rfl (by kernel_rfl) (by kernel_rfl) (by kernel_rfl) (fun _ _ _ h => h) (Or.inl ⟨by rfl, ?hy10⟩) (by assumption) ?rest10
 case hy10 =>
  intro w hSw
  try dsimp only at hSw
  go_simp
  try with_reducible rfl
 case rest10 =>
 go_simp
 refine wpAnyH_take (i := 11) (v := ?v11) rfl (by kernel_rfl) (by kernel_rfl) (by kernel_rfl) (fun _ _ _ h => h) (Or.inl ⟨by rfl, ?hy11⟩) (by assumption) ?rest11
 case hy11 =>
  intro w hSw
  try dsimp only at hSw
  go_simp
  try with_reducible rfl
 case rest11 =>
 refine wpAnyH_take (i := 12) (v := ?v12) rfl (by kernel_rfl) (by kernel_rfl) (by kernel_rfl) (fun _ _ _ h => h) (Or.inl ⟨by rfl, ?hy12⟩) (by assumption) ?rest12
 case hy12 =>
  intro w hSw
  try dsimp only at hSw
  go_simp
  try with_reducible rfl
 case rest12 =>
 refine wpAnyH_ready (rs := [10]) (by kernel_rfl) (by simp) ?_
 refine AllReadyH.cons rfl (fun K hK => ?_) AllReadyH.nil
 go_simp
 go_at_call 35
 refine (HVA2.out _ (keepBelow HBX.out HB5.out)).mono ?_
 rintro e w6 ⟨rfl, hb6⟩
 have HB6 : Hid (Below X.heap.size X w6) := Lib.hid (keepBelow HB5.out hb6)
 clear hb6
 refine hK.out _ _ ?_ (fun hHeld => ?_)
 ·exact HK.out _ HB6.out
 clear hK K
 refine wpAnyH_take (i := 13) (v := ?v13) rfl (by kernel_rfl) (by kernel_rfl) (by kernel_rfl) (fun _ _ _ h => h) (Or.inl ⟨by rfl, ?hy13⟩) (by assumption) ?rest13
 case hy13 =>
  intro w hSw
  try dsimp only at hSw
  go_simp
  try with_reducible rfl
 case rest13 =>
 refine wpAnyH_take (i := 14) (v := ?v14) rfl (by kernel_rfl) (by kernel_rfl) (by kernel_rfl) (fun _ _ _ h => h) (Or.inl ⟨by rfl, ?hy14⟩) (by assumption) ?rest14
 case hy14 =>
  intro w hSw
  try dsimp only at hSw
  go_simp
  try with_reducible rfl
 case rest14 =>
 refine wpAnyH_take (i := 15) (v := ?v15) rfl (by kernel_rfl) (by kernel_rfl) (by kernel_rfl) (fun _ _ _ h => h) (Or.inl ⟨by rfl, ?hy15⟩) (by assumption) ?rest15
 case hy15 =>
  intro w hSw
  try dsimp only at hSw
  go_simp
  try with_reducible rfl
 case rest15 =>
 go_simp
 refine wpAnyH_take (i := 16) (v := ?v16) rfl (by kernel_rfl) (by kernel_rfl) (by kernel_rfl) (fun _ _ _ h => h) (Or.inl ⟨by rfl, ?hy16⟩) (by assumption) ?rest16
 case hy16 =>
  intro w hSw
  try dsimp only at hSw
  go_simp
  try with_reducible rfl
 case rest16 =>
 go_simp
 refine wpAnyH_take (i := 18) (v := ?v17) rfl (by kernel_rfl) (by kernel_rfl) (by kernel_rfl) (fun _ _ _ h => h) (Or.inl ⟨by rfl, ?hy17⟩) (by assumption) ?rest17
 case hy17 =>
  intro w hSw
  try dsimp only at hSw
  go_simp
  try with_reducible rfl
 case rest17 =>
 refine wpAnyH_ready (rs := [17]) (by kernel_rfl) (by simp) ?_
 refine AllReadyH.cons rfl (fun K hK => ?_) AllReadyH.nil
 go_simp
 go_at_call 38
 refine (HNP2.out _ (keepBelow HBX.out HB6.out)).mono ?_
 rintro e w7 ⟨⟨a7, c7, rfl, hr7⟩, hb7⟩
 have HB7 : Hid (Below X.heap.size X w7) := Lib.hid (keepBelow HB6.out hb7)
 have HR7 := Lib.hid hr7
 clear hb7 hr7
 refine hK.out _ _ ?_ (fun hHeld => ?_)
 ·exact HK.out _ HB7.out
 clear hK K
 refine wpAnyH_ready (rs := [19]) (by kernel_rfl) (by simp) ?_
 refine AllReadyH.cons rfl (fun K hK => ?_) AllReadyH.nil
 go_simp
 go_at_call 39
 refine (HNR2.out _ (keepBelow HBX.out HB7.out)).mono ?_
 rintro e w8 ⟨⟨a8, c8, rfl, hr8⟩, hb8⟩
 have HB8 : Hid (Below X.heap.size X w8) := Lib.hid (keepBelow HB7.out hb8)
 have HR8 := Lib.hid (And.intro (HR7.out.below hb8) hr8)
 clear hb8 hr8
 refine hK.out _ _ ?_ (fun hHeld => ?_)
 ·exact HK.out _ HB8.out
 clear hK K
 refine wpAnyH_ready (rs := [20]) (by kernel_rfl) (by simp) ?_
 refine AllReadyH.cons rfl (fun K hK => ?_) AllReadyH.nil
 go_simp
 go_at_call 37
 refine (HEQ.out nn _ _ _ HR8.out.1 HR8.out.2).mono ?_
 rintro e w9 ⟨rfl, hb9⟩
 have HB9 : Hid (Below X.heap.size X w9) := Lib.hid (keepBelow HB8.out hb9)
 clear hb9
 refine hK.out _ _ ?_ (fun hHeld => ?_)
 ·exact HK.out _ HB9.out
 clear hK K
 go_simp
 refine wpAnyH_take (i := 21) (v := ?v18) rfl (by kernel_rfl) (by kernel_rfl) (by kernel_rfl) (fun _ _ _ h => h) (Or.inl ⟨by rfl, ?hy18⟩) (by assumption) ?rest18
 case hy18 =>
  intro w hSw
  try dsimp only at hSw
  go_simp
  try with_reducible rfl
 case rest18 =>
 refine wpAnyH_take (i := 22) (v := ?v19) rfl (by kernel_rfl) (by kernel_rfl) (by kernel_rfl) (fun _ _ _ h => h) (Or.inl ⟨by rfl, ?hy19⟩) (by assumption) ?rest19
 case hy19 =>
  intro w hSw
  try dsimp only at hSw
  go_simp
  try with_reducible rfl
 case rest19 =>
 refine wpAnyH_done (by kernel_rfl) ?_ _
 go_simp
 go_wp2_with fail
 go_ret
 exact ⟨rfl, keepBelow HBX.out HB9.out⟩
end Go.Proofs.YtlbglinpgjlbkaaGreatDoor
