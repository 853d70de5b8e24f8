import Derived.Test.YtlbglinpgjlbkaaGreatDoorWkP3
/- Zone texts: the chapter's example is awake. Printed by gen_l0.py. -/
namespace Go.Proofs.YtlbglinpgjlbkaaGreatDoor
open Go.RowKit Wk

set_option maxRecDepth 100000 in
theorem awk_of {C : ByteArray} (hC : bsO C = [114, 117, 108, 101, 32, 69, 88, 32, 49, 57, 57, 48, 32, 109, 97, 120, 32, 77, 97, 114, 32, 108, 97, 115, 116, 83, 117, 110, 32, 50, 58, 48, 48, 32, 49, 58, 48, 48, 32, 83, 10, 122, 111, 110, 101, 32, 73, 115, 108, 101, 10, 108, 105, 110, 101, 32, 49, 58, 48, 48, 32, 69, 88, 32, 69, 37, 115, 84, 10]) {w w' : World} {e : Ending} (h : ParP (bsO C) w e w') :
  ∃ (b o c : Nat) (zv lv : Value), e = .returned (.tuple #[.agg #[.slice (some ⟨b, o, none⟩) 1 c, zv, lv], .agg #[.int .i64 0, .int .i64 0], .int .i64 0]) ∧ (∃ az cz, zv = .slice az 1 cz) ∧ (∃ al cl, lv = .slice al 0 cl) ∧ (w'.cell? ⟨b, o, none⟩ = some (.string ⟨#[69, 88]⟩) ∧ w'.cell? ⟨b, o + 1, none⟩ = some (.int .i64 1990) ∧ w'.cell? ⟨b, o + 2, none⟩ = some (.int .i64 9999) ∧ w'.cell? ⟨b, o + 3, none⟩ = some (.int .i64 3) ∧ w'.cell? ⟨b, o + 4, none⟩ = some (.int .i64 2) ∧ w'.cell? ⟨b, o + 5, none⟩ = some (.int .i64 7) ∧ w'.cell? ⟨b, o + 6, none⟩ = some (.int .i64 0) ∧ w'.cell? ⟨b, o + 7, none⟩ = some (.int .i64 7200) ∧ w'.cell? ⟨b, o + 8, none⟩ = some (.int .i64 1) ∧ w'.cell? ⟨b, o + 9, none⟩ = some (.int .i64 3600) ∧ w'.cell? ⟨b, o + 10, none⟩ = some (.string ⟨#[83]⟩)) ∧ Below w.heap.size w w' := by
 obtain ⟨rv, zv, lv, Z, he, hr, -, -, -, hb⟩ := h
 have hp := (congrArg parseM hC).trans parse_awake
 rw [hp] at he hr
 simp only at he hr
 obtain ⟨a, c, rfl, hl, hc⟩ := hr.ru
 obtain ⟨b, o, rfl, hcc⟩ := hc 0 (by decide)
 have hZ : Z.length = 1 := by have := congrArg List.length hr.zs; rw [List.length_map] at this; exact this
 obtain ⟨az, cz, rfl⟩ := hr.zo.row.form
 obtain ⟨al, cl, rfl⟩ := hr.lk.form
 refine ⟨b, o, c, _, _, he, ⟨az, cz, by rw [hZ]⟩, ⟨al, cl, rfl⟩, ⟨by simpa using hcc 0 _ (by decide) rfl, by simpa using hcc 1 _ (by decide) rfl, by simpa using hcc 2 _ (by decide) rfl, by simpa using hcc 3 _ (by decide) rfl, by simpa using hcc 4 _ (by decide) rfl, by simpa using hcc 5 _ (by decide) rfl, by simpa using hcc 6 _ (by decide) rfl, by simpa using hcc 7 _ (by decide) rfl, by simpa using hcc 8 _ (by decide) rfl, by simpa using hcc 9 _ (by decide) rfl, by simpa using hcc 10 _ (by decide) rfl⟩, hb⟩
set_option maxRecDepth 100000 in
set_option maxHeartbeats 4000000 in
theorem awake_any (w : World) (hg : Glob w) : Calls Tryz.prog 11 #[] w fun e w' => e = .returned (.bool true) ∧ Below w.heap.size w w' := by
 have HG := Lib.hid hg
 clear hg
 go_enter Tryz.func11, Tryz.ntmps11
 go_upto_region 2 with (first | (go_at_call 12; refine (parse_any _ (by decide) _ HG.out).mono ?_; intro e w1 h1; obtain ⟨b, o, c, zv, lv, rfl, ⟨az, cz, rfl⟩, ⟨al, cl, rfl⟩, hc, hb⟩ := awk_of rfl h1; have HCC := Lib.hid hc; have HB1 := Lib.hid hb; clear hc hb h1) | fail)
 obtain ⟨b1, hb1⟩ : ∃ b, w1.heap.size = b := ⟨_, rfl⟩
 obtain ⟨X, hX⟩ : ∃ X, (w1.alloc (.cells #[.slice (some ⟨b, o, none⟩) 1 c, .slice az 1 cz, .slice al 0 cl] 27)).alloc (.cells #[.int .i64 0, .int .i64 0] 29) = X := ⟨_, rfl⟩
 have HX : Hid (Below w1.heap.size w1 X) := Lib.hid (by rw [← hX]; exact ((Below.refl _ _).alloc (Nat.le_refl _) _).alloc (by simp) _)
 have HX1 : Hid (Blk X b1 #[.slice (some ⟨b, o, none⟩) 1 c, .slice az 1 cz, .slice al 0 cl] 27) := Lib.hid (by rw [← hX, ← hb1]; exact (Blk.new w1 _ _).below ((Below.refl _ _).alloc (Nat.le_refl _) _))
 try rw [hX]
 try rw [hb1]
 clear hX hb1
 have y0 : X.cell? ⟨b1, 0, none⟩ = some (.slice (some ⟨b, o, none⟩) 1 c) := HX1.out.cell (j := 0) rfl
 obtain ⟨k0, k1, k2, k3, k4, k5, k6, k7, k8, k9, k10⟩ := HCC.out
 have e0 := keepCell HX.out k0
 have e1 := keepCell HX.out k1
 have e2 := keepCell HX.out k2
 have e3 := keepCell HX.out k3
 have e4 := keepCell HX.out k4
 have e5 := keepCell HX.out k5
 have e6 := keepCell HX.out k6
 have e7 := keepCell HX.out k7
 have e8 := keepCell HX.out k8
 have e9 := keepCell HX.out k9
 have e10 := keepCell HX.out k10
 go_wp2_with fail
 go_ret
 exact ⟨rfl, keepBelow HB1.out HX.out⟩
end Go.Proofs.YtlbglinpgjlbkaaGreatDoor
