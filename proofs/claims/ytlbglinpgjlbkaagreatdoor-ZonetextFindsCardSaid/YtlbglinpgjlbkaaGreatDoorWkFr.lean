import Derived.Test.YtlbglinpgjlbkaaGreatDoorWkFe
/- Zone texts: the program's Rules. Printed by gen_fr.py. No conditions. -/
namespace Go.Proofs.YtlbglinpgjlbkaaGreatDoor
open Go.RowKit Wk

def rulM (S : SrT) (nm : Bs) : List RuT := if validB S = true then S.ru.filter (fun r => r.nm == nm) else []
theorem oneRu (z : RuT) : ∀ u ∈ flRu z, u.oneCell' = true := by
 intro u hu
 simp [flRu] at hu
 rcases hu with rfl | rfl | rfl | rfl | rfl | rfl | rfl | rfl | rfl | rfl | rfl <;> rfl
set_option maxRecDepth 100000 in
set_option maxHeartbeats 4000000 in
theorem rulesOf_any (rv zv lv : Value) (S : SrT) (Z : List ZkT) (N : ByteArray) (w : World) (hs : RdSr w rv zv lv S Z) (hz : SzS S) (hg : Glob w) (hcz : CapV zv) (hcl : CapV lv) :
  Calls Tryz.prog 25 #[.agg #[rv, zv, lv], .string N] w fun e w' => (∃ v, e = .returned v ∧ RdRu w' v (rulM S (bsO N))) ∧ Below w.heap.size w w' := by
 have HVA : Hid (∀ W, Below w.heap.size w W → Calls Tryz.prog 35 #[.agg #[rv, zv, lv]] W fun e w' => e = .returned (.bool (validB S)) ∧ Below W.heap.size W w') := Lib.hid fun W hW => valid_any rv zv lv S Z W (hs.below hW) hz (hg.below hW) hcz hcl
 obtain ⟨ra, rc, rfl⟩ := hs.ru.form
 obtain ⟨za, zc, rfl⟩ := hs.zo.row.form
 obtain ⟨la, lc, rfl⟩ := hs.lk.form
 have HS := Lib.hid hs
 clear hs hz hg hcz hcl
 go_enter Tryz.func25, Tryz.ntmps25
 go_upto_region 1 with fail
 obtain ⟨bx, hbx⟩ : ∃ b, w.heap.size = b := ⟨_, rfl⟩
 obtain ⟨bn, hbn⟩ : ∃ b, w.heap.size + 1 = b := ⟨_, rfl⟩
 obtain ⟨X, hX⟩ : ∃ Y, (w.alloc (.cells #[.slice ra S.ru.length rc, .slice za Z.length zc, .slice la S.lk.length lc] 27)).alloc (.cells #[.string N] 9) = Y := ⟨_, rfl⟩
 have HBX : Hid (Below w.heap.size w X) := Lib.hid (by rw [← hX]; exact ((Below.refl _ _).alloc (Nat.le_refl _) _).alloc (by simp) _)
 have HNB : Hid (Blk X bn #[.string N] 9) := Lib.hid (by
  rw [← hX, ← hbn]
  have q := Blk.new (w.alloc (.cells #[.slice ra S.ru.length rc, .slice za Z.length zc, .slice la S.lk.length lc] 27)) #[.string N] 9
  simpa using q)
 have HK : Hid (∀ W, Below X.heap.size X W → W.cell? ⟨bx, 0, none⟩ = some (.slice ra S.ru.length rc) ∧ W.cell? ⟨bx, 1, none⟩ = some (.slice za Z.length zc) ∧ W.cell? ⟨bx, 2, none⟩ = some (.slice la S.lk.length lc)) := Lib.hid (by
  have q : Blk X bx #[.slice ra S.ru.length rc, .slice za Z.length zc, .slice la S.lk.length lc] 27 := by rw [← hX, ← hbx]; exact (Blk.new _ _ _).below ((Below.refl _ _).alloc (Nat.le_refl _) _)
  exact fun W hW => ⟨(q.below hW).cell (j := 0) rfl, (q.below hW).cell (j := 1) rfl, (q.below hW).cell (j := 2) rfl⟩)
 try rw [hX]
 try rw [hbn]
 try rw [hbx]
 clear hX hbx hbn
 have HB0 : Hid (Below X.heap.size X X) := Lib.hid (Below.refl _ _)
 obtain ⟨q, hq⟩ : ∃ q, validB S = q := ⟨_, rfl⟩
 rw [hq] at HVA
 have HQ := Lib.hid hq
 clear hq
 obtain ⟨y00, y01, y02⟩ := HK.out _ HB0.out
 cases q with
 | false =>
  go_wp2_with (first | (go_at_call 35; refine (HVA.out _ (keepBelow HBX.out HB0.out)).mono ?_; rintro e w1 ⟨rfl, hb1⟩; obtain ⟨W1, hW1⟩ : ∃ W, w1 = W := ⟨_, rfl⟩; rw [hW1] at hb1 ⊢; clear hW1; have HB1 : Hid (Below X.heap.size X W1) := Lib.hid (keepBelow HB0.out hb1); clear hb1) | fail)
  go_ret
  exact ⟨⟨_, rfl, by unfold rulM; rw [if_neg (by rw [HQ.out]; simp)]; exact ⟨none, 0, rfl, by simp, fun i hi => by simp at hi⟩⟩, keepBelow HBX.out HB1.out⟩
 | true =>
  go_upto_region 3 with (first | (go_at_call 35; refine (HVA.out _ (keepBelow HBX.out HB0.out)).mono ?_; rintro e w1 ⟨rfl, hb1⟩; obtain ⟨W1, hW1⟩ : ∃ W, w1 = W := ⟨_, rfl⟩; rw [hW1] at hb1 ⊢; clear hW1; have HB1 : Hid (Below X.heap.size X W1) := Lib.hid (keepBelow HB0.out hb1); clear hb1) | fail)
  clear y00 y01 y02
  obtain ⟨y10, y11, y12⟩ := HK.out _ HB1.out
  have HRL : Hid (S.ru.length ≤ 1000000) := Lib.hid (by have := (valid_parts HQ.out).1; omega)
  go_wp2_with (first
   | (go_at_call 85; refine (clone_rule _ S.ru W1 (HS.out.ru.below (keepBelow HBX.out HB1.out)) HRL.out (fun z _ => oneRu z)).mono ?_; rintro e w2 ⟨v2, rfl, ho2, hb2⟩; obtain ⟨W2, hW2⟩ : ∃ W, w2 = W := ⟨_, rfl⟩; rw [hW2] at ho2 hb2 ⊢; clear hW2; have HO2 := Lib.hid ho2; have HB2 := Lib.hid hb2; clear ho2 hb2)
   | (go_at_call 84; refine (del_any v2 S.ru bn N W1 W2 HO2.out HB2.out ((HNB.out.below HB1.out).below HB2.out) HRL.out).mono ?_; rintro e w3 ⟨v3, rfl, ho3, hb3⟩; have HO3 := Lib.hid ho3; have HB3 := Lib.hid hb3; clear ho3 hb3)
   | fail)
  go_ret
  refine ⟨⟨_, rfl, ?_⟩, keepBelow (keepBelow HBX.out HB1.out) HB3.out⟩
  unfold rulM
  rw [if_pos HQ.out]
  exact HO3.out.rd flRu_len (Nat.le_trans (List.length_filter_le _ _) HRL.out)
end Go.Proofs.YtlbglinpgjlbkaaGreatDoor
