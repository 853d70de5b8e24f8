import Derived.Test.YtlbglinpgjlbkaaGreatDoorWkTx
import Derived.Test.YtlbglinpgjlbkaaGreatDoorWkFw
import Derived.Test.YtlbglinpgjlbkaaGreatDoorWkL0
/- Zone texts: the law Texts. Printed by gen_ls.py. No conditions. -/
namespace Go.Proofs.YtlbglinpgjlbkaaGreatDoor
open Go.RowKit Wk

set_option maxRecDepth 100000 in
set_option maxHeartbeats 8000000 in
theorem law_Texts (rv zv lv : Value) (S : SrT) (Z : List ZkT) (w : World) (hs : RdSr w rv zv lv S Z) (_hcr : CapV rv) (hcz : CapV zv) (hcl : CapV lv) (_hcq : ∀ i, i < Z.length → CapV (Z.getD i zk0).2) (hg : Glob w) (hT : TabP w) :
  Calls Tryz.prog 7 #[.agg #[rv, zv, lv]] w fun e w' => e = .returned (.bool true) ∧ Below w.heap.size w w' := by
 have HG := Lib.hid hg
 have HT := Lib.hid hT
 have HS := Lib.hid hs
 have HAW : Hid (∀ W, Below w.heap.size w W → Calls Tryz.prog 11 #[] W fun e w' => e = .returned (.bool true) ∧ Below W.heap.size W w') := Lib.hid fun W hW => awake_any W (HG.out.below hW)
 have HFE : Hid (∀ W, Below w.heap.size w W → Calls Tryz.prog 19 #[.agg #[rv, zv, lv]] W fun e w' => e = .returned (.bool (fewB S)) ∧ Below W.heap.size W w') := Lib.hid fun W hW => few_any rv zv lv S Z W (hs.below hW)
 have HTX : Hid (fewB S = true → ∀ W, Below w.heap.size w W → Calls Tryz.prog 33 #[.agg #[rv, zv, lv]] W fun e w' => e = .returned (.tuple #[.string ⟨(textM S).1.toArray⟩, .int .i64 (textM S).2]) ∧ Below W.heap.size W w') := Lib.hid fun h W hW => text_any rv zv lv S Z W (hs.below hW) (few_out h).2.2.2 (HG.out.below hW) (HT.out.below hW) hcz hcl
 have HRX : Hid (fewB S = true → ∀ W, Below w.heap.size w W → Calls Tryz.prog 34 #[.agg #[rv, zv, lv]] W fun e w' => e = .returned (.tuple #[.string ⟨(textM S).1.toArray⟩, .int .i64 (textM S).2]) ∧ Below W.heap.size W w') := Lib.hid fun h W hW => text19_any rv zv lv S Z W (hs.below hW) (few_out h).2.2.2
 obtain ⟨TT, hTT⟩ : ∃ t : ByteArray, ⟨(textM S).1.toArray⟩ = t := ⟨_, rfl⟩
 obtain ⟨te, hte⟩ : ∃ t, (textM S).2 = t := ⟨_, rfl⟩
 rw [hTT, hte] at HTX HRX
 obtain ⟨q, hq⟩ : ∃ q, fewB S = q := ⟨_, rfl⟩
 rw [hq] at HFE HTX HRX
 obtain ⟨ra, rc, rfl⟩ := hs.ru.form
 obtain ⟨za, zc, rfl⟩ := hs.zo.row.form
 obtain ⟨la, lc, rfl⟩ := hs.lk.form
 clear hs hg hT hcz hcl hTT hte hq HG HT HS
 go_enter Tryz.func7, Tryz.ntmps7
 go_upto_region 1 with fail
 obtain ⟨bx, hbx⟩ : ∃ b, w.heap.size = b := ⟨_, rfl⟩
 obtain ⟨X, hX⟩ : ∃ Y, w.alloc (.cells #[.slice ra S.ru.length rc, .slice za Z.length zc, .slice la S.lk.length lc] 27) = Y := ⟨_, rfl⟩
 have HBX : Hid (Below w.heap.size w X) := Lib.hid (by rw [← hX]; exact (Below.refl _ _).alloc (Nat.le_refl _) _)
 have HK : Hid (∀ W, Below X.heap.size X W → W.cell? ⟨bx, 0, none⟩ = some (.slice ra S.ru.length rc) ∧ W.cell? ⟨bx, 1, none⟩ = some (.slice za Z.length zc) ∧ W.cell? ⟨bx, 2, none⟩ = some (.slice la S.lk.length lc)) := Lib.hid (by
  have q : Blk X bx #[.slice ra S.ru.length rc, .slice za Z.length zc, .slice la S.lk.length lc] 27 := by rw [← hX, ← hbx]; exact Blk.new _ _ _
  exact fun W hW => ⟨(q.below hW).cell (j := 0) rfl, (q.below hW).cell (j := 1) rfl, (q.below hW).cell (j := 2) rfl⟩)
 try rw [hX]
 try rw [hbx]
 clear hX hbx
 have HB0 : Hid (Below X.heap.size X X) := Lib.hid (Below.refl _ _)
 go_upto_region 3 with (first | (go_at_call 11; refine (HAW.out _ (keepBelow HBX.out HB0.out)).mono ?_; rintro e w1 ⟨rfl, hb1⟩; obtain ⟨W1, hW1⟩ : ∃ W, w1 = W := ⟨_, rfl⟩; rw [hW1] at hb1 ⊢; clear hW1; have HB1 : Hid (Below X.heap.size X W1) := Lib.hid (keepBelow HB0.out hb1); clear hb1) | fail)
 obtain ⟨y10, y11, y12⟩ := HK.out _ HB1.out
 cases q with
 | false =>
  go_wp2_with (first | (go_at_call 19; refine (HFE.out _ (keepBelow HBX.out HB1.out)).mono ?_; rintro e w2 ⟨rfl, hb2⟩; obtain ⟨W2, hW2⟩ : ∃ W, w2 = W := ⟨_, rfl⟩; rw [hW2] at hb2 ⊢; clear hW2; have HB2 : Hid (Below X.heap.size X W2) := Lib.hid (keepBelow HB1.out hb2); clear hb2) | fail)
  go_ret
  exact ⟨rfl, keepBelow HBX.out HB2.out⟩
 | true =>
 have HTX2 := Lib.hid (HTX.out rfl)
 have HRX2 := Lib.hid (HRX.out rfl)
 clear HTX HRX
 go_upto_region 5 with (first | (go_at_call 19; refine (HFE.out _ (keepBelow HBX.out HB1.out)).mono ?_; rintro e w2 ⟨rfl, hb2⟩; obtain ⟨W2, hW2⟩ : ∃ W, w2 = W := ⟨_, rfl⟩; rw [hW2] at hb2 ⊢; clear hW2; have HB2 : Hid (Below X.heap.size X W2) := Lib.hid (keepBelow HB1.out hb2); clear hb2) | fail)
 obtain ⟨y20, y21, y22⟩ := HK.out _ HB2.out
 clear y10 y11 y12
 go_upto_region 6 with (first | (go_at_call 33; refine (HTX2.out _ (keepBelow HBX.out HB2.out)).mono ?_; rintro e w3 ⟨rfl, hb3⟩; obtain ⟨W3, hW3⟩ : ∃ W, w3 = W := ⟨_, rfl⟩; rw [hW3] at hb3 ⊢; clear hW3; have HB3 : Hid (Below X.heap.size X W3) := Lib.hid (keepBelow HB2.out hb3); clear hb3) | fail)
 obtain ⟨y30, y31, y32⟩ := HK.out _ HB3.out
 clear y20 y21 y22
 go_upto_region 7 with (first | (go_at_call 34; refine (HRX2.out _ (keepBelow HBX.out HB3.out)).mono ?_; rintro e w4 ⟨rfl, hb4⟩; obtain ⟨W4, hW4⟩ : ∃ W, w4 = W := ⟨_, rfl⟩; rw [hW4] at hb4 ⊢; clear hW4; have HB4 : Hid (Below X.heap.size X W4) := Lib.hid (keepBelow HB3.out hb4); clear hb4) | fail)
 obtain ⟨y40, y41, y42⟩ := HK.out _ HB4.out
 clear y30 y31 y32
 go_wp2_with fail
 go_ret
 exact ⟨rfl, keepBelow HBX.out HB4.out⟩
end Go.Proofs.YtlbglinpgjlbkaaGreatDoor
