import Derived.Test.YtlbglinpgjlbkaaGreatDoorWkQt
/- Zone texts: the reference's reader: on, offset, end. Printed by gen_t2.py. -/
namespace Go.Proofs.YtlbglinpgjlbkaaGreatDoor
open Go.RowKit Wk

structure OnM (w0 : World) (rb : Nat) (wv : Value) (ws : List Tok) (s : RSt) (b4 b5 b6 : Nat) (c5 c6 : Array Value) (w : World) : Prop where
 st : RTat w0 rb wv ws s w
 x4 : Blk w b4 #[.int .i64 0, .int .i64 0, .int .i64 0] 39
 x5 : Blk w b5 c5 88
 x6 : Blk w b6 c6 39
 n4 : b4 ≠ rb
 n5 : b5 ≠ rb
 n6 : b6 ≠ rb
theorem OnM.below {w0 : World} {rb : Nat} {wv : Value} {ws : List Tok} {s : RSt} {b4 b5 b6 : Nat} {c5 c6 : Array Value} {w w' : World} (h : OnM w0 rb wv ws s b4 b5 b6 c5 c6 w) (hb : Below w.heap.size w w') : OnM w0 rb wv ws s b4 b5 b6 c5 c6 w' := ⟨h.st.below hb, h.x4.below hb, h.x5.below hb, h.x6.below hb, h.n4, h.n5, h.n6⟩
theorem OnM.meth {w0 : World} {rb : Nat} {wv : Value} {ws : List Tok} {s s' : RSt} {b4 b5 b6 : Nat} {c5 c6 : Array Value} {w w' : World} (h : OnM w0 rb wv ws s b4 b5 b6 c5 c6 w) (hs : RTat w0 rb wv ws s' w') (hg : w.grownBy w' (some rb)) : OnM w0 rb wv ws s' b4 b5 b6 c5 c6 w' := ⟨hs, h.x4.grown hg h.n4, h.x5.grown hg h.n5, h.x6.grown hg h.n6, h.n4, h.n5, h.n6⟩

set_option maxRecDepth 100000 in
set_option maxHeartbeats 8000000 in
theorem onR_any {w0 : World} {rb : Nat} {wv : Value} {ws : List Tok} (hc : RCtx w0 rb wv ws) (m : Int) (s : RSt) (w : World) (h : RTat w0 rb wv ws s w) :
  Calls Tryz.prog 134 #[.pointer (some ⟨rb, 0, none⟩), .int .i64 m] w (TPost w0 rb wv ws onV (onsT ws m s) w) := by
 have HC := Lib.hid hc
 have hsz := next_sz hc s
 have HNX : Hid (∀ W, RTat w0 rb wv ws s W → Calls Tryz.prog 53 #[.pointer (some ⟨rb, 0, none⟩)] W fun e w' => e = .returned (tokV (nextT ws s).1) ∧ RTat w0 rb wv ws (nextT ws s).2 w' ∧ W.grownBy w' (some rb)) := Lib.hid fun W hW => nextR_any hc s W hW
 have HH := Lib.hid h
 obtain ⟨r, hr⟩ : ∃ r, nextT ws s = r := ⟨_, rfl⟩
 have HE : Hid (onsT ws m s = ((onM r.1.tx).1, (fun s2 : RSt => if s2.e = 0 ∧ fitsR m (onM r.1.tx).1 = false then failT (tokP r.1) 2 s2 else s2) (if r.2.e = 0 ∧ ((onM r.1.tx).2 == 0) = false then failT (tokP r.1) (onM r.1.tx).2 r.2 else r.2))) := Lib.hid (by rw [← hr]; rfl)
 rw [hr] at HNX hsz
 rw [HE.out]
 clear hr HE h hc
 obtain ⟨⟨tx, ln, co⟩, ⟨n1, ⟨p1, p2⟩, e1⟩⟩ := r
 obtain ⟨TX, rfl⟩ := bs_of tx
 simp only at hsz
 rw [bs_len] at hsz
 have HSZ : Hid (TX.size < 4294967281) := Lib.hid (by omega)
 have HNX2 : Hid (∀ W, RTat w0 rb wv ws s W → Calls Tryz.prog 53 #[.pointer (some ⟨rb, 0, none⟩)] W fun e w' => e = .returned (.agg #[.string TX, .int .i64 ln, .int .i64 co]) ∧ RTat w0 rb wv ws ⟨n1, (p1, p2), e1⟩ w' ∧ W.grownBy w' (some rb)) := HNX
 clear HNX hsz
 simp only
 obtain ⟨R, hR⟩ : ∃ R, onM (bsO TX) = R := ⟨_, rfl⟩
 rw [hR]
 obtain ⟨⟨k, v, d⟩, er⟩ := R
 have HRD : Hid (∀ W, Calls Tryz.prog 29 #[.string TX] W fun e w' => e = .returned (.tuple #[.agg #[.int .i64 k, .int .i64 v, .int .i64 d], .int .i64 er]) ∧ Below W.heap.size W w') := Lib.hid (fun W => by
  have q := on19_any TX HSZ.out W
  rw [hR] at q
  exact q)
 obtain ⟨qf, hqf⟩ : ∃ q, fitsR m ⟨k, v, d⟩ = q := ⟨_, rfl⟩
 have HFI : Hid (∀ W, Calls Tryz.prog 169 #[.int .i64 m, .agg #[.int .i64 k, .int .i64 v, .int .i64 d]] W fun e w' => e = .returned (.bool qf) ∧ Below W.heap.size W w') := Lib.hid (fun W => by
  have q := fits19_any m ⟨k, v, d⟩ W
  rw [hqf] at q
  exact q)
 obtain ⟨S2, hS2⟩ : ∃ S2, (if e1 = 0 ∧ (er == 0) = false then failT (tokP ⟨bsO TX, ln, co⟩) er ⟨n1, (p1, p2), e1⟩ else ⟨n1, (p1, p2), e1⟩ : RSt) = S2 := ⟨_, rfl⟩
 simp only
 rw [hS2, hqf]
 have HS2 : Hid ((if e1 = 0 ∧ (er == 0) = false then failT (ln, co) er ⟨n1, (p1, p2), e1⟩ else ⟨n1, (p1, p2), e1⟩ : RSt) = S2) := hS2
 obtain ⟨S3, hS3⟩ : ∃ S3, (if S2.e = 0 ∧ qf = false then failT (tokP ⟨bsO TX, ln, co⟩) 2 S2 else S2 : RSt) = S3 := ⟨_, rfl⟩
 rw [hS3]
 have HS3 : Hid ((if S2.e = 0 ∧ qf = false then failT (ln, co) 2 S2 else S2 : RSt) = S3) := hS3
 clear hR hS2 hqf hS3
 go_enter Tryz.func134, Tryz.ntmps134
 go_upto_region 1 with fail
 obtain ⟨b4, hb4⟩ : ∃ b, w.heap.size = b := ⟨_, rfl⟩
 obtain ⟨U, hU⟩ : ∃ U, w.alloc (.cells #[.int .i64 0, .int .i64 0, .int .i64 0] 39) = U := ⟨_, rfl⟩
 have HUB : Hid (Below w.heap.size w U) := Lib.hid (by rw [← hU]; exact (Below.refl _ _).alloc (Nat.le_refl _) _)
 have HU4 : Hid (Blk U b4 #[.int .i64 0, .int .i64 0, .int .i64 0] 39) := Lib.hid (by rw [← hU, ← hb4]; exact Blk.new _ _ _)
 have HUT := Lib.hid (HH.out.below HUB.out)
 have HN4 : Hid (b4 ≠ rb ∧ w0.heap.size ≤ b4 ∧ w.heap.size ≤ b4) := Lib.hid (by rw [← hb4]; exact ⟨Nat.ne_of_gt HH.out.blk.lt, HH.out.bel.size, Nat.le_refl _⟩)
 try rw [hU]
 try rw [hb4]
 clear hU hb4
 go_upto_region 2 with (first | (go_at_call 53; refine (HNX2.out _ HUT.out).mono ?_; rintro e w1 ⟨rfl, hs1, hg1⟩; obtain ⟨V, hV⟩ : ∃ V, w1 = V := ⟨_, rfl⟩; rw [hV] at hs1 hg1 ⊢; clear hV; have HV := Lib.hid hs1; have HGV := Lib.hid hg1; clear hs1 hg1) | fail)
 obtain ⟨b5, hb5⟩ : ∃ b, V.heap.size = b := ⟨_, rfl⟩
 obtain ⟨X, hX⟩ : ∃ X, V.alloc (.cells #[.string TX, .int .i64 ln, .int .i64 co] 88) = X := ⟨_, rfl⟩
 have HVX : Hid (Below V.heap.size V X) := Lib.hid (by rw [← hX]; exact (Below.refl _ _).alloc (Nat.le_refl _) _)
 have HX : Hid (TBx w0 rb wv ws ⟨n1, (p1, p2), e1⟩ b5 #[.string TX, .int .i64 ln, .int .i64 co] 88 X) := Lib.hid (by rw [← hX, ← hb5]; exact TBx.new HV.out _ _)
 have HX4 : Hid (Blk X b4 #[.int .i64 0, .int .i64 0, .int .i64 0] 39) := Lib.hid ((HU4.out.grown HGV.out HN4.out.1).below HVX.out)
 have HGX : Hid (w.grownBy X (some rb)) := Lib.hid (grown_trans (below_grown HUB.out _) (grown_trans HGV.out (below_grown HVX.out _)))
 try rw [hX]
 try rw [hb5]
 clear hX hb5 HUB HU4 HUT HV HGV HVX
 have x0 := HX.out.bx.cell (j := 0) rfl
 go_upto_region 3 with (first | (go_at_call 29; refine (HRD.out _).mono ?_; rintro e w' ⟨rfl, hb⟩; obtain ⟨W1, hW1⟩ : ∃ W, w' = W := ⟨_, rfl⟩; rw [hW1] at hb ⊢; clear hW1; have HBC := Lib.hid hb; clear hb) | fail)
 obtain ⟨b6, hb6⟩ : ∃ b, W1.heap.size = b := ⟨_, rfl⟩
 obtain ⟨Y, hY⟩ : ∃ Y, W1.alloc (.cells #[.int .i64 k, .int .i64 v, .int .i64 d] 39) = Y := ⟨_, rfl⟩
 have HWY : Hid (Below X.heap.size X Y) := Lib.hid (by rw [← hY]; exact HBC.out.alloc HBC.out.size _)
 have HY : Hid (OnM w0 rb wv ws ⟨n1, (p1, p2), e1⟩ b4 b5 b6 #[.string TX, .int .i64 ln, .int .i64 co] #[.int .i64 k, .int .i64 v, .int .i64 d] Y) := Lib.hid (by
  refine ⟨HX.out.st.below HWY.out, HX4.out.below HWY.out, HX.out.bx.below HWY.out, ?_, HN4.out.1, HX.out.ne, ?_⟩
  ·rw [← hY, ← hb6]; exact Blk.new _ _ _
  ·rw [← hb6]; exact Nat.ne_of_gt (HX.out.st.below HBC.out).blk.lt)
 have HGY : Hid (w.grownBy Y (some rb)) := Lib.hid (grown_trans HGX.out (below_grown HWY.out _))
 try rw [hY]
 try rw [hb6]
 clear hY hb6 HGX HX HX4 HWY HBC x0
 obtain ⟨qb, hqb⟩ : ∃ q, (decide (e1 = 0) && (er != 0)) = q := ⟨_, rfl⟩
 have HQB := Lib.hid hqb
 have HSB : Hid ((if qb = true then failT (ln, co) er ⟨n1, (p1, p2), e1⟩ else ⟨n1, (p1, p2), e1⟩ : RSt) = S2) := Lib.hid (by
  rw [← HS2.out, ← hqb]
  by_cases h1 : e1 = 0
  ·by_cases h2 : er = 0
   ·simp [h1, h2]
   ·simp [h1, h2]
  ·simp [h1])
 clear hqb
 have r4 : Y.cell? ⟨rb, 4, none⟩ = some (.int .i64 e1) := HY.out.st.blk.cell (j := 4) rfl
 go_cut [24] from 16 to 25 (fun u wx => u = .bool qb ∧ wx = Y)
 case first =>
  by_cases he : e1 = 0
  ·have g1 : (e1 == 0) = true := by simpa using he
   have HEZ := Lib.hid he
   clear he
   go_wp2_with fail
   go_meet
   exact ⟨congrArg Value.bool (by rw [← HQB.out]; have := HEZ.out; simp [this]), rfl⟩
  ·have g1 : (e1 == 0) = false := by simpa using he
   have HEZ := Lib.hid he
   clear he
   go_wp2_with fail
   go_meet
   exact ⟨congrArg Value.bool (by rw [← HQB.out]; have := HEZ.out; simp [this]), rfl⟩
 case rest =>
 obtain ⟨rfl, hwc⟩ := hcut
 rw [hwc]
 clear hwc
 go_upto_if 24 with fail
 go_cut [] from 25 to 30 (fun wx => Hid (OnM w0 rb wv ws S2 b4 b5 b6 #[.string TX, .int .i64 ln, .int .i64 co] #[.int .i64 k, .int .i64 v, .int .i64 d] wx) ∧ Hid (w.grownBy wx (some rb)))
 case first =>
  have r4 : Y.cell? ⟨rb, 4, none⟩ = some (.int .i64 e1) := HY.out.st.blk.cell (j := 4) rfl
  have x1 := HY.out.x5.cell (j := 1) rfl
  have x2 := HY.out.x5.cell (j := 2) rfl
  have HFA : Hid (∀ W, RTat w0 rb wv ws ⟨n1, (p1, p2), e1⟩ W → Calls Tryz.prog 130 #[.pointer (some ⟨rb, 0, none⟩), .agg #[.int .i64 ln, .int .i64 co], .int .i64 er] W fun e' w' => e' = .returned (.tuple #[]) ∧ RTat w0 rb wv ws (failT (ln, co) er ⟨n1, (p1, p2), e1⟩) w' ∧ W.grownBy w' (some rb)) := Lib.hid fun W hW => failR_any HC.out (ln, co) er ⟨n1, (p1, p2), e1⟩ W hW
  cases qb with
  | false =>
   have HQ : Hid ((⟨n1, (p1, p2), e1⟩ : RSt) = S2) := Lib.hid ((if_neg (by simp)).symm.trans HSB.out)
   go_wp2_with fail
   go_meet
   exact ⟨by rw [← HQ.out]; exact HY.out, HGY.out⟩
  | true =>
   have HQ : Hid (failT (ln, co) er ⟨n1, (p1, p2), e1⟩ = S2) := Lib.hid ((if_pos rfl).symm.trans HSB.out)
   go_wp2_with (first | (go_at_call 130; refine (HFA.out _ HY.out.st).mono ?_; rintro e w3 ⟨rfl, hs3, hg3⟩) | fail)
   go_meet
   exact ⟨by rw [← HQ.out]; exact HY.out.meth hs3 hg3, grown_trans HGY.out hg3⟩
 case rest =>
 obtain ⟨HZ, HGZ⟩ := hcut
 generalize wc = Z at *
 clear HY HGY HS2
 obtain ⟨n2, ⟨q1, q2⟩, e2⟩ := S2
 have r4 : Z.cell? ⟨rb, 4, none⟩ = some (.int .i64 e2) := HZ.out.st.blk.cell (j := 4) rfl
 have HFB : Hid (∀ W, RTat w0 rb wv ws ⟨n2, (q1, q2), e2⟩ W → Calls Tryz.prog 130 #[.pointer (some ⟨rb, 0, none⟩), .agg #[.int .i64 ln, .int .i64 co], .int .i64 2] W fun e' w' => e' = .returned (.tuple #[]) ∧ RTat w0 rb wv ws (failT (ln, co) 2 ⟨n2, (q1, q2), e2⟩) w' ∧ W.grownBy w' (some rb)) := Lib.hid fun W hW => failR_any HC.out (ln, co) 2 ⟨n2, (q1, q2), e2⟩ W hW
 have HFIN : Hid (∀ W, OnM w0 rb wv ws S3 b4 b5 b6 #[.string TX, .int .i64 ln, .int .i64 co] #[.int .i64 k, .int .i64 v, .int .i64 d] W → w.grownBy W (some rb) → (∀ u0 u1 u2, RTat w0 rb wv ws S3 (((W.setCell ⟨b4, 0, none⟩ u0).setCell ⟨b4, 1, none⟩ u1).setCell ⟨b4, 2, none⟩ u2) ∧ w.grownBy (((W.setCell ⟨b4, 0, none⟩ u0).setCell ⟨b4, 1, none⟩ u1).setCell ⟨b4, 2, none⟩ u2) (some rb))) := Lib.hid fun W hW hg u0 u1 u2 => ⟨hW.st.other (set3_grown _ _ _ _ _) HN4.out.1 HN4.out.2.1, hg.andThen (set3_grown _ _ _ _ _) (fun j hj => by cases hj; exact .inl HN4.out.2.2)⟩
 by_cases he : e2 = 0
 ·have g1 : (e2 == 0) = true := by simpa using he
  have HEZ := Lib.hid he
  clear he
  have x1 := HZ.out.x5.cell (j := 1) rfl
  have x2 := HZ.out.x5.cell (j := 2) rfl
  have o0 := HZ.out.x6.cell (j := 0) rfl
  have o1 := HZ.out.x6.cell (j := 1) rfl
  have o2 := HZ.out.x6.cell (j := 2) rfl
  cases qf with
  | true =>
   have HQ : Hid ((⟨n2, (q1, q2), e2⟩ : RSt) = S3) := Lib.hid ((if_neg (by simp)).symm.trans HS3.out)
   have HZ3 : Hid (OnM w0 rb wv ws S3 b4 b5 b6 #[.string TX, .int .i64 ln, .int .i64 co] #[.int .i64 k, .int .i64 v, .int .i64 d] Z) := Lib.hid (by rw [← HQ.out]; exact HZ.out)
   go_upto_region 7 with (first | (go_at_call 169; refine (HFI.out _).mono ?_; rintro e w' ⟨rfl, hb⟩; obtain ⟨W2, hW2⟩ : ∃ W, w' = W := ⟨_, rfl⟩; rw [hW2] at hb ⊢; clear hW2; have HW2 := Lib.hid (HZ3.out.below hb); have HGW := Lib.hid (grown_trans HGZ.out (below_grown hb rb)); clear hb) | fail)
   have o0 := HW2.out.x6.cell (j := 0) rfl
   have o1 := HW2.out.x6.cell (j := 1) rfl
   have o2 := HW2.out.x6.cell (j := 2) rfl
   have f0 := HW2.out.x4.frz 0
   have f1 := HW2.out.x4.frz 1
   have f2 := HW2.out.x4.frz 2
   have y0 := HW2.out.x4.cell (j := 0) rfl
   have y1 := HW2.out.x4.cell (j := 1) rfl
   have y2 := HW2.out.x4.cell (j := 2) rfl
   have HB := Lib.hid (set3_blk HW2.out.x4 (.int .i64 k) (.int .i64 v) (.int .i64 d))
   have r0 := HB.out.cell (j := 0) rfl
   have r1 := HB.out.cell (j := 1) rfl
   have r2 := HB.out.cell (j := 2) rfl
   have HFF := Lib.hid (HFIN.out _ HW2.out HGW.out (.int .i64 k) (.int .i64 v) (.int .i64 d))
   go_wp2_with fail
   refine bodyPost_ret (v := .agg #[.int .i64 k, .int .i64 v, .int .i64 d]) (by simp [results, Tryz.results134, go_sem, r0, r1, r2]) rfl ?_
   exact ⟨rfl, HFF.out⟩
  | false =>
   have HQ : Hid (failT (ln, co) 2 ⟨n2, (q1, q2), e2⟩ = S3) := Lib.hid ((if_pos ⟨HEZ.out, rfl⟩).symm.trans HS3.out)
   go_upto_region 6 with (first | (go_at_call 169; refine (HFI.out _).mono ?_; rintro e w' ⟨rfl, hb⟩; obtain ⟨W1, hW1⟩ : ∃ W, w' = W := ⟨_, rfl⟩; rw [hW1] at hb ⊢; clear hW1; have HW1 := Lib.hid (HZ.out.below hb); have HGW1 := Lib.hid (grown_trans HGZ.out (below_grown hb rb)); have y1 := HW1.out.x5.cell (j := 1) rfl; have y2 := HW1.out.x5.cell (j := 2) rfl; clear hb) | fail)
   go_upto_region 7 with (first | (go_at_call 130; refine (HFB.out _ HW1.out.st).mono ?_; rintro e w3 ⟨rfl, hs3, hg3⟩; obtain ⟨W2, hW2⟩ : ∃ W, w3 = W := ⟨_, rfl⟩; rw [hW2] at hs3 hg3 ⊢; clear hW2; rw [HQ.out] at hs3; have HW2 := Lib.hid (HW1.out.meth hs3 hg3); have HGW := Lib.hid (grown_trans HGW1.out hg3); clear hs3 hg3) | fail)
   have o0 := HW2.out.x6.cell (j := 0) rfl
   have o1 := HW2.out.x6.cell (j := 1) rfl
   have o2 := HW2.out.x6.cell (j := 2) rfl
   have f0 := HW2.out.x4.frz 0
   have f1 := HW2.out.x4.frz 1
   have f2 := HW2.out.x4.frz 2
   have y0 := HW2.out.x4.cell (j := 0) rfl
   have y1 := HW2.out.x4.cell (j := 1) rfl
   have y2 := HW2.out.x4.cell (j := 2) rfl
   have HB := Lib.hid (set3_blk HW2.out.x4 (.int .i64 k) (.int .i64 v) (.int .i64 d))
   have r0 := HB.out.cell (j := 0) rfl
   have r1 := HB.out.cell (j := 1) rfl
   have r2 := HB.out.cell (j := 2) rfl
   have HFF := Lib.hid (HFIN.out _ HW2.out HGW.out (.int .i64 k) (.int .i64 v) (.int .i64 d))
   go_wp2_with fail
   refine bodyPost_ret (v := .agg #[.int .i64 k, .int .i64 v, .int .i64 d]) (by simp [results, Tryz.results134, go_sem, r0, r1, r2]) rfl ?_
   exact ⟨rfl, HFF.out⟩
 ·have g1 : (e2 == 0) = false := by simpa using he
  have HQ : Hid ((⟨n2, (q1, q2), e2⟩ : RSt) = S3) := Lib.hid ((if_neg (fun q => he q.1)).symm.trans HS3.out)
  have HW2 : Hid (OnM w0 rb wv ws S3 b4 b5 b6 #[.string TX, .int .i64 ln, .int .i64 co] #[.int .i64 k, .int .i64 v, .int .i64 d] Z) := Lib.hid (by rw [← HQ.out]; exact HZ.out)
  have HGW := HGZ
  clear he
  go_upto_region 7 with fail
  have o0 := HW2.out.x6.cell (j := 0) rfl
  have o1 := HW2.out.x6.cell (j := 1) rfl
  have o2 := HW2.out.x6.cell (j := 2) rfl
  have f0 := HW2.out.x4.frz 0
  have f1 := HW2.out.x4.frz 1
  have f2 := HW2.out.x4.frz 2
  have y0 := HW2.out.x4.cell (j := 0) rfl
  have y1 := HW2.out.x4.cell (j := 1) rfl
  have y2 := HW2.out.x4.cell (j := 2) rfl
  have HB := Lib.hid (set3_blk HW2.out.x4 (.int .i64 k) (.int .i64 v) (.int .i64 d))
  have r0 := HB.out.cell (j := 0) rfl
  have r1 := HB.out.cell (j := 1) rfl
  have r2 := HB.out.cell (j := 2) rfl
  have HFF := Lib.hid (HFIN.out _ HW2.out HGW.out (.int .i64 k) (.int .i64 v) (.int .i64 d))
  go_wp2_with fail
  refine bodyPost_ret (v := .agg #[.int .i64 k, .int .i64 v, .int .i64 d]) (by simp [results, Tryz.results134, go_sem, r0, r1, r2]) rfl ?_
  exact ⟨rfl, HFF.out⟩
theorem offset_wf (s : Bs) : -9223372036854775808 ≤ (offsetM s).1 ∧ (offsetM s).1 ≤ 9223372036854775807 := by
 unfold offsetM
 repeat' split
 all_goals (try (simp only; omega))
 all_goals (rename_i q; have := span_bd q; simp only; omega)

set_option maxRecDepth 100000 in
set_option maxHeartbeats 8000000 in
theorem offR_sv {w0 : World} {rb : Nat} {wv : Value} {ws : List Tok} (hc : RCtx w0 rb wv ws) (t : Tok) (ht : t.tx.length ≤ 4294967280) (s : RSt) (w : World) (h : RTat w0 rb wv ws s w) :
  Calls Tryz.prog 136 #[.pointer (some ⟨rb, 0, none⟩), tokV t, .int .i64 10800, .int .i64 60] w (TPost w0 rb wv ws intV (offsT t 10800 60 s) w) := by
 have HC := Lib.hid hc
 have HH := Lib.hid h
 have HE : Hid (offsT t 10800 60 s = ((offsetM t.tx).1, (fun s2 : RSt => if s2.e = 0 ∧ offR 10800 60 (offsetM t.tx).1 = false then failT (tokP t) 2 s2 else s2) (if s.e = 0 ∧ ((offsetM t.tx).2 == 0) = false then failT (tokP t) (offsetM t.tx).2 s else s))) := Lib.hid rfl
 rw [HE.out]
 clear HE h hc
 obtain ⟨tx, ln, co⟩ := t
 obtain ⟨TX, rfl⟩ := bs_of tx
 simp only at ht ⊢
 rw [bs_len] at ht
 have HSZ : Hid (TX.size < 4294967281) := Lib.hid (by omega)
 obtain ⟨R, hR⟩ : ∃ R, offsetM (bsO TX) = R := ⟨_, rfl⟩
 rw [hR]
 obtain ⟨n, er⟩ := R
 have HRD : Hid (∀ W, Calls Tryz.prog 190 #[.string TX] W fun e w' => e = .returned (.tuple #[.int .i64 n, .int .i64 er]) ∧ w' = W) := Lib.hid (fun W => by
  have q := offset18_any TX HSZ.out W
  rw [hR] at q
  exact q)
 obtain ⟨n1, ⟨p1, p2⟩, e1⟩ := s
 have hbd : -9223372036854775808 ≤ n ∧ n ≤ 9223372036854775807 := by
  have q := offset_wf (bsO TX)
  rw [hR] at q
  exact q
 obtain ⟨S2, hS2⟩ : ∃ S2, (if e1 = 0 ∧ (er == 0) = false then failT (tokP ⟨bsO TX, ln, co⟩) er ⟨n1, (p1, p2), e1⟩ else ⟨n1, (p1, p2), e1⟩ : RSt) = S2 := ⟨_, rfl⟩
 simp only
 rw [hS2]
 have HS2 : Hid ((if e1 = 0 ∧ (er == 0) = false then failT (ln, co) er ⟨n1, (p1, p2), e1⟩ else ⟨n1, (p1, p2), e1⟩ : RSt) = S2) := hS2
 obtain ⟨qf, hqf⟩ : ∃ q, offR 10800 60 n = q := ⟨_, rfl⟩
 rw [hqf]
 have HQF := Lib.hid hqf
 obtain ⟨S3, hS3⟩ : ∃ S3, (if S2.e = 0 ∧ qf = false then failT (tokP ⟨bsO TX, ln, co⟩) 2 S2 else S2 : RSt) = S3 := ⟨_, rfl⟩
 rw [hS3]
 have HS3 : Hid ((if S2.e = 0 ∧ qf = false then failT (ln, co) 2 S2 else S2 : RSt) = S3) := hS3
 clear hR hS2 hqf hS3 ht
 unfold tokV
 simp only
 go_enter Tryz.func136, Tryz.ntmps136
 go_upto_region 1 with fail
 obtain ⟨b5, hb5⟩ : ∃ b, w.heap.size = b := ⟨_, rfl⟩
 obtain ⟨X, hX⟩ : ∃ X, w.alloc (.cells #[.string TX, .int .i64 ln, .int .i64 co] 88) = X := ⟨_, rfl⟩
 have HX : Hid (TBx w0 rb wv ws ⟨n1, (p1, p2), e1⟩ b5 #[.string TX, .int .i64 ln, .int .i64 co] 88 X) := Lib.hid (by rw [← hX, ← hb5]; exact TBx.new HH.out _ _)
 have HGX : Hid (w.grownBy X (some rb)) := Lib.hid (by rw [← hX]; exact below_grown ((Below.refl _ _).alloc (Nat.le_refl _) _) _)
 try rw [hX]
 try rw [hb5]
 clear hX hb5
 have r4 : X.cell? ⟨rb, 4, none⟩ = some (.int .i64 e1) := HX.out.st.blk.cell (j := 4) rfl
 have x0 := HX.out.bx.cell (j := 0) rfl
 have x1 := HX.out.bx.cell (j := 1) rfl
 have x2 := HX.out.bx.cell (j := 2) rfl
 go_upto_region 2 with (first | (go_at_call 190; refine (HRD.out _).mono ?_; rintro e w' ⟨rfl, hw⟩; rw [hw]; clear hw) | fail)
 obtain ⟨qb, hqb⟩ : ∃ q, (decide (e1 = 0) && (er != 0)) = q := ⟨_, rfl⟩
 have HQB := Lib.hid hqb
 have HSB : Hid ((if qb = true then failT (ln, co) er ⟨n1, (p1, p2), e1⟩ else ⟨n1, (p1, p2), e1⟩ : RSt) = S2) := Lib.hid (by
  rw [← HS2.out, ← hqb]
  by_cases h1 : e1 = 0
  ·by_cases h2 : er = 0
   ·simp [h1, h2]
   ·simp [h1, h2]
  ·simp [h1])
 clear hqb
 go_cut [25] from 17 to 26 (fun u wx => u = .bool qb ∧ wx = X)
 case first =>
  by_cases he : e1 = 0
  ·have g1 : (e1 == 0) = true := by simpa using he
   have HEZ := Lib.hid he
   clear he
   go_wp2_with fail
   go_meet
   exact ⟨congrArg Value.bool (by rw [← HQB.out]; have := HEZ.out; simp [this]), rfl⟩
  ·have g1 : (e1 == 0) = false := by simpa using he
   have HEZ := Lib.hid he
   clear he
   go_wp2_with fail
   go_meet
   exact ⟨congrArg Value.bool (by rw [← HQB.out]; have := HEZ.out; simp [this]), rfl⟩
 case rest =>
 obtain ⟨rfl, hwc⟩ := hcut
 rw [hwc]
 clear hwc
 go_upto_if 25 with fail
 go_cut [] from 26 to 31 (fun wx => Hid (TBx w0 rb wv ws S2 b5 #[.string TX, .int .i64 ln, .int .i64 co] 88 wx) ∧ Hid (w.grownBy wx (some rb)))
 case first =>
  have HFA : Hid (∀ W, RTat w0 rb wv ws ⟨n1, (p1, p2), e1⟩ W → Calls Tryz.prog 130 #[.pointer (some ⟨rb, 0, none⟩), .agg #[.int .i64 ln, .int .i64 co], .int .i64 er] W fun e' w' => e' = .returned (.tuple #[]) ∧ RTat w0 rb wv ws (failT (ln, co) er ⟨n1, (p1, p2), e1⟩) w' ∧ W.grownBy w' (some rb)) := Lib.hid fun W hW => failR_any HC.out (ln, co) er ⟨n1, (p1, p2), e1⟩ W hW
  cases qb with
  | false =>
   have HQ : Hid ((⟨n1, (p1, p2), e1⟩ : RSt) = S2) := Lib.hid ((if_neg (by simp)).symm.trans HSB.out)
   go_wp2_with fail
   go_meet
   exact ⟨by rw [← HQ.out]; exact HX.out, HGX.out⟩
  | true =>
   have HQ : Hid (failT (ln, co) er ⟨n1, (p1, p2), e1⟩ = S2) := Lib.hid ((if_pos rfl).symm.trans HSB.out)
   go_wp2_with (first | (go_at_call 130; refine (HFA.out _ HX.out.st).mono ?_; rintro e w3 ⟨rfl, hs3, hg3⟩) | fail)
   go_meet
   exact ⟨by rw [← HQ.out]; exact HX.out.meth hs3 hg3, grown_trans HGX.out hg3⟩
 case rest =>
 obtain ⟨HZ, HGZ⟩ := hcut
 generalize wc = Z at *
 clear HX HGX HS2 r4 x0 x1 x2
 obtain ⟨n2, ⟨q1, q2⟩, e2⟩ := S2
 have r4 : Z.cell? ⟨rb, 4, none⟩ = some (.int .i64 e2) := HZ.out.st.blk.cell (j := 4) rfl
 obtain ⟨qc, hqc⟩ : ∃ q, (decide (e2 = 0) && !qf) = q := ⟨_, rfl⟩
 have HQC := Lib.hid hqc
 have HSC : Hid ((if qc = true then failT (ln, co) 2 ⟨n2, (q1, q2), e2⟩ else ⟨n2, (q1, q2), e2⟩ : RSt) = S3) := Lib.hid (by
  rw [← HS3.out, ← hqc]
  by_cases h1 : e2 = 0
  ·cases qf <;> simp [h1]
  ·simp [h1])
 clear hqc
 go_upto_region 4 with fail
 go_cut [52] from 31 to 53 (fun u52 wx => u52 = .bool qc ∧ wx = Z)
 case first =>
  have HTM : Hid (IntKind.i64.wrap (-10800) = -10800) := Lib.hid (by decide)
  go_wp2_with fail
  all_goals go_meet
  all_goals exact ⟨congrArg Value.bool (by have q := HQF.out; unfold offR at q; rw [← HQC.out, ← q]; rw [Bool.eq_iff_iff]; simp at *; omega), rfl⟩
 case rest =>
 obtain ⟨rfl, hwc⟩ := hcut
 rw [hwc]
 clear hwc
 have HFB : Hid (∀ W, RTat w0 rb wv ws ⟨n2, (q1, q2), e2⟩ W → Calls Tryz.prog 130 #[.pointer (some ⟨rb, 0, none⟩), .agg #[.int .i64 ln, .int .i64 co], .int .i64 2] W fun e' w' => e' = .returned (.tuple #[]) ∧ RTat w0 rb wv ws (failT (ln, co) 2 ⟨n2, (q1, q2), e2⟩) w' ∧ W.grownBy w' (some rb)) := Lib.hid fun W hW => failR_any HC.out (ln, co) 2 ⟨n2, (q1, q2), e2⟩ W hW
 have x1 := HZ.out.bx.cell (j := 1) rfl
 have x2 := HZ.out.bx.cell (j := 2) rfl
 cases qc with
 | false =>
  have HQ : Hid ((⟨n2, (q1, q2), e2⟩ : RSt) = S3) := Lib.hid ((if_neg (by simp)).symm.trans HSC.out)
  go_wp2_with fail
  go_ret
  exact ⟨rfl, by rw [← HQ.out]; exact HZ.out.st, HGZ.out⟩
 | true =>
  have HQ : Hid (failT (ln, co) 2 ⟨n2, (q1, q2), e2⟩ = S3) := Lib.hid ((if_pos rfl).symm.trans HSC.out)
  go_wp2_with (first | (go_at_call 130; refine (HFB.out _ HZ.out.st).mono ?_; rintro e w3 ⟨rfl, hs3, hg3⟩) | fail)
  go_ret
  exact ⟨rfl, by rw [← HQ.out]; exact hs3, grown_trans HGZ.out hg3⟩

set_option maxRecDepth 100000 in
set_option maxHeartbeats 8000000 in
theorem offR_of {w0 : World} {rb : Nat} {wv : Value} {ws : List Tok} (hc : RCtx w0 rb wv ws) (t : Tok) (ht : t.tx.length ≤ 4294967280) (s : RSt) (w : World) (h : RTat w0 rb wv ws s w) :
  Calls Tryz.prog 136 #[.pointer (some ⟨rb, 0, none⟩), tokV t, .int .i64 57600, .int .i64 1] w (TPost w0 rb wv ws intV (offsT t 57600 1 s) w) := by
 have HC := Lib.hid hc
 have HH := Lib.hid h
 have HE : Hid (offsT t 57600 1 s = ((offsetM t.tx).1, (fun s2 : RSt => if s2.e = 0 ∧ offR 57600 1 (offsetM t.tx).1 = false then failT (tokP t) 2 s2 else s2) (if s.e = 0 ∧ ((offsetM t.tx).2 == 0) = false then failT (tokP t) (offsetM t.tx).2 s else s))) := Lib.hid rfl
 rw [HE.out]
 clear HE h hc
 obtain ⟨tx, ln, co⟩ := t
 obtain ⟨TX, rfl⟩ := bs_of tx
 simp only at ht ⊢
 rw [bs_len] at ht
 have HSZ : Hid (TX.size < 4294967281) := Lib.hid (by omega)
 obtain ⟨R, hR⟩ : ∃ R, offsetM (bsO TX) = R := ⟨_, rfl⟩
 rw [hR]
 obtain ⟨n, er⟩ := R
 have HRD : Hid (∀ W, Calls Tryz.prog 190 #[.string TX] W fun e w' => e = .returned (.tuple #[.int .i64 n, .int .i64 er]) ∧ w' = W) := Lib.hid (fun W => by
  have q := offset18_any TX HSZ.out W
  rw [hR] at q
  exact q)
 obtain ⟨n1, ⟨p1, p2⟩, e1⟩ := s
 have hbd : -9223372036854775808 ≤ n ∧ n ≤ 9223372036854775807 := by
  have q := offset_wf (bsO TX)
  rw [hR] at q
  exact q
 obtain ⟨S2, hS2⟩ : ∃ S2, (if e1 = 0 ∧ (er == 0) = false then failT (tokP ⟨bsO TX, ln, co⟩) er ⟨n1, (p1, p2), e1⟩ else ⟨n1, (p1, p2), e1⟩ : RSt) = S2 := ⟨_, rfl⟩
 simp only
 rw [hS2]
 have HS2 : Hid ((if e1 = 0 ∧ (er == 0) = false then failT (ln, co) er ⟨n1, (p1, p2), e1⟩ else ⟨n1, (p1, p2), e1⟩ : RSt) = S2) := hS2
 obtain ⟨qf, hqf⟩ : ∃ q, offR 57600 1 n = q := ⟨_, rfl⟩
 rw [hqf]
 have HQF := Lib.hid hqf
 obtain ⟨S3, hS3⟩ : ∃ S3, (if S2.e = 0 ∧ qf = false then failT (tokP ⟨bsO TX, ln, co⟩) 2 S2 else S2 : RSt) = S3 := ⟨_, rfl⟩
 rw [hS3]
 have HS3 : Hid ((if S2.e = 0 ∧ qf = false then failT (ln, co) 2 S2 else S2 : RSt) = S3) := hS3
 clear hR hS2 hqf hS3 ht
 unfold tokV
 simp only
 go_enter Tryz.func136, Tryz.ntmps136
 go_upto_region 1 with fail
 obtain ⟨b5, hb5⟩ : ∃ b, w.heap.size = b := ⟨_, rfl⟩
 obtain ⟨X, hX⟩ : ∃ X, w.alloc (.cells #[.string TX, .int .i64 ln, .int .i64 co] 88) = X := ⟨_, rfl⟩
 have HX : Hid (TBx w0 rb wv ws ⟨n1, (p1, p2), e1⟩ b5 #[.string TX, .int .i64 ln, .int .i64 co] 88 X) := Lib.hid (by rw [← hX, ← hb5]; exact TBx.new HH.out _ _)
 have HGX : Hid (w.grownBy X (some rb)) := Lib.hid (by rw [← hX]; exact below_grown ((Below.refl _ _).alloc (Nat.le_refl _) _) _)
 try rw [hX]
 try rw [hb5]
 clear hX hb5
 have r4 : X.cell? ⟨rb, 4, none⟩ = some (.int .i64 e1) := HX.out.st.blk.cell (j := 4) rfl
 have x0 := HX.out.bx.cell (j := 0) rfl
 have x1 := HX.out.bx.cell (j := 1) rfl
 have x2 := HX.out.bx.cell (j := 2) rfl
 go_upto_region 2 with (first | (go_at_call 190; refine (HRD.out _).mono ?_; rintro e w' ⟨rfl, hw⟩; rw [hw]; clear hw) | fail)
 obtain ⟨qb, hqb⟩ : ∃ q, (decide (e1 = 0) && (er != 0)) = q := ⟨_, rfl⟩
 have HQB := Lib.hid hqb
 have HSB : Hid ((if qb = true then failT (ln, co) er ⟨n1, (p1, p2), e1⟩ else ⟨n1, (p1, p2), e1⟩ : RSt) = S2) := Lib.hid (by
  rw [← HS2.out, ← hqb]
  by_cases h1 : e1 = 0
  ·by_cases h2 : er = 0
   ·simp [h1, h2]
   ·simp [h1, h2]
  ·simp [h1])
 clear hqb
 go_cut [25] from 17 to 26 (fun u wx => u = .bool qb ∧ wx = X)
 case first =>
  by_cases he : e1 = 0
  ·have g1 : (e1 == 0) = true := by simpa using he
   have HEZ := Lib.hid he
   clear he
   go_wp2_with fail
   go_meet
   exact ⟨congrArg Value.bool (by rw [← HQB.out]; have := HEZ.out; simp [this]), rfl⟩
  ·have g1 : (e1 == 0) = false := by simpa using he
   have HEZ := Lib.hid he
   clear he
   go_wp2_with fail
   go_meet
   exact ⟨congrArg Value.bool (by rw [← HQB.out]; have := HEZ.out; simp [this]), rfl⟩
 case rest =>
 obtain ⟨rfl, hwc⟩ := hcut
 rw [hwc]
 clear hwc
 go_upto_if 25 with fail
 go_cut [] from 26 to 31 (fun wx => Hid (TBx w0 rb wv ws S2 b5 #[.string TX, .int .i64 ln, .int .i64 co] 88 wx) ∧ Hid (w.grownBy wx (some rb)))
 case first =>
  have HFA : Hid (∀ W, RTat w0 rb wv ws ⟨n1, (p1, p2), e1⟩ W → Calls Tryz.prog 130 #[.pointer (some ⟨rb, 0, none⟩), .agg #[.int .i64 ln, .int .i64 co], .int .i64 er] W fun e' w' => e' = .returned (.tuple #[]) ∧ RTat w0 rb wv ws (failT (ln, co) er ⟨n1, (p1, p2), e1⟩) w' ∧ W.grownBy w' (some rb)) := Lib.hid fun W hW => failR_any HC.out (ln, co) er ⟨n1, (p1, p2), e1⟩ W hW
  cases qb with
  | false =>
   have HQ : Hid ((⟨n1, (p1, p2), e1⟩ : RSt) = S2) := Lib.hid ((if_neg (by simp)).symm.trans HSB.out)
   go_wp2_with fail
   go_meet
   exact ⟨by rw [← HQ.out]; exact HX.out, HGX.out⟩
  | true =>
   have HQ : Hid (failT (ln, co) er ⟨n1, (p1, p2), e1⟩ = S2) := Lib.hid ((if_pos rfl).symm.trans HSB.out)
   go_wp2_with (first | (go_at_call 130; refine (HFA.out _ HX.out.st).mono ?_; rintro e w3 ⟨rfl, hs3, hg3⟩) | fail)
   go_meet
   exact ⟨by rw [← HQ.out]; exact HX.out.meth hs3 hg3, grown_trans HGX.out hg3⟩
 case rest =>
 obtain ⟨HZ, HGZ⟩ := hcut
 generalize wc = Z at *
 clear HX HGX HS2 r4 x0 x1 x2
 obtain ⟨n2, ⟨q1, q2⟩, e2⟩ := S2
 have r4 : Z.cell? ⟨rb, 4, none⟩ = some (.int .i64 e2) := HZ.out.st.blk.cell (j := 4) rfl
 obtain ⟨qc, hqc⟩ : ∃ q, (decide (e2 = 0) && !qf) = q := ⟨_, rfl⟩
 have HQC := Lib.hid hqc
 have HSC : Hid ((if qc = true then failT (ln, co) 2 ⟨n2, (q1, q2), e2⟩ else ⟨n2, (q1, q2), e2⟩ : RSt) = S3) := Lib.hid (by
  rw [← HS3.out, ← hqc]
  by_cases h1 : e2 = 0
  ·cases qf <;> simp [h1]
  ·simp [h1])
 clear hqc
 go_upto_region 4 with fail
 go_cut [52] from 31 to 53 (fun u52 wx => u52 = .bool qc ∧ wx = Z)
 case first =>
  have HTM : Hid (IntKind.i64.wrap (-57600) = -57600) := Lib.hid (by decide)
  go_wp2_with fail
  all_goals go_meet
  all_goals exact ⟨congrArg Value.bool (by have q := HQF.out; unfold offR at q; rw [← HQC.out, ← q]; rw [Bool.eq_iff_iff]; simp at *; omega), rfl⟩
 case rest =>
 obtain ⟨rfl, hwc⟩ := hcut
 rw [hwc]
 clear hwc
 have HFB : Hid (∀ W, RTat w0 rb wv ws ⟨n2, (q1, q2), e2⟩ W → Calls Tryz.prog 130 #[.pointer (some ⟨rb, 0, none⟩), .agg #[.int .i64 ln, .int .i64 co], .int .i64 2] W fun e' w' => e' = .returned (.tuple #[]) ∧ RTat w0 rb wv ws (failT (ln, co) 2 ⟨n2, (q1, q2), e2⟩) w' ∧ W.grownBy w' (some rb)) := Lib.hid fun W hW => failR_any HC.out (ln, co) 2 ⟨n2, (q1, q2), e2⟩ W hW
 have x1 := HZ.out.bx.cell (j := 1) rfl
 have x2 := HZ.out.bx.cell (j := 2) rfl
 cases qc with
 | false =>
  have HQ : Hid ((⟨n2, (q1, q2), e2⟩ : RSt) = S3) := Lib.hid ((if_neg (by simp)).symm.trans HSC.out)
  go_wp2_with fail
  go_ret
  exact ⟨rfl, by rw [← HQ.out]; exact HZ.out.st, HGZ.out⟩
 | true =>
  have HQ : Hid (failT (ln, co) 2 ⟨n2, (q1, q2), e2⟩ = S3) := Lib.hid ((if_pos rfl).symm.trans HSC.out)
  go_wp2_with (first | (go_at_call 130; refine (HFB.out _ HZ.out.st).mono ?_; rintro e w3 ⟨rfl, hs3, hg3⟩) | fail)
  go_ret
  exact ⟨rfl, by rw [← HQ.out]; exact hs3, grown_trans HGZ.out hg3⟩

set_option maxRecDepth 100000 in
set_option maxHeartbeats 8000000 in
theorem endR_any {w0 : World} {rb : Nat} {wv : Value} {ws : List Tok} (hc : RCtx w0 rb wv ws) (s : RSt) (w : World) (h : RTat w0 rb wv ws s w) :
  Calls Tryz.prog 56 #[.pointer (some ⟨rb, 0, none⟩)] w fun e w' => e = .returned (.tuple #[]) ∧ RTat w0 rb wv ws (endT ws s).2 w' ∧ w.grownBy w' (some rb) := by
 have HC := Lib.hid hc
 have HH := Lib.hid h
 have hlen : ws.length ≤ 1152921504606846976 := hc.ln
 have hhi := h.hi
 obtain ⟨wa, wc0, hwv, -, -⟩ := h.rd hc
 obtain ⟨F, hF⟩ : ∃ F, (endT ws s).2 = F := ⟨_, rfl⟩
 rw [hF]
 obtain ⟨n, ⟨q1, q2⟩, e⟩ := s
 have HF : Hid ((if e = 0 ∧ n < ws.length then failT (plT ws n) 3 ⟨n, (q1, q2), e⟩ else ⟨n, (q1, q2), e⟩ : RSt) = F) := Lib.hid hF
 clear hF h hc
 subst hwv
 simp only at hhi
 have hd : Below w.heap.size w w.drew := (Below.refl _ w).drew
 have HBL : Hid (Blk w rb #[.slice wa ws.length wc0, .int .i64 n, .int .i64 q1, .int .i64 q2, .int .i64 e] 96) := Lib.hid HH.out.blk
 have r0 := HBL.out.cell (j := 0) rfl
 have r1 := HBL.out.cell (j := 1) rfl
 have r4 := HBL.out.cell (j := 4) rfl
 have z0 : w.drew.cell? ⟨rb, 0, none⟩ = some (.slice wa ws.length wc0) := r0
 have z1 : w.drew.cell? ⟨rb, 1, none⟩ = some (.int .i64 n) := r1
 have z4 : w.drew.cell? ⟨rb, 4, none⟩ = some (.int .i64 e) := r4
 have HHD := Lib.hid (HH.out.below hd)
 have HGD : Hid (w.grownBy w.drew (some rb)) := Lib.hid (below_grown hd _)
 clear hd
 go_enter Tryz.func56, Tryz.ntmps56
 by_cases he : e = 0
 ·have g1 : (e == 0) = true := by simpa using he
  by_cases hn : n < ws.length
  ·obtain ⟨b, o, c, hwv, -, t1, t2⟩ := HC.out.rd.at (k := n) hn
   obtain rfl : wa = some ⟨b, o, none⟩ := by injection hwv
   obtain ⟨t, ht⟩ : ∃ t, ws.getD n tok0 = t := ⟨_, rfl⟩
   rw [ht] at t1 t2
   have HQ : Hid (failT (t.ln, t.co) 3 ⟨n, (q1, q2), e⟩ = F) := Lib.hid (by
    rw [← HF.out, if_pos ⟨he, hn⟩]
    unfold plT
    rw [ht])
   have HW12 : Hid (∀ W, Below w0.heap.size w0 W → W.cell? ⟨b, o + n * 3 + 1, none⟩ = some (.int .i64 t.ln) ∧ W.cell? ⟨b, o + n * 3 + 2, none⟩ = some (.int .i64 t.co)) := Lib.hid fun W hb => ⟨keepCell hb t1, keepCell hb t2⟩
   have hni : (n : Int) < (ws.length : Int) := by omega
   have hn0 : (0 : Int) ≤ (n : Int) := Int.natCast_nonneg _
   have HFA : Hid (∀ W, RTat w0 rb (.slice (some ⟨b, o, none⟩) ws.length wc0) ws ⟨n, (q1, q2), e⟩ W → Calls Tryz.prog 130 #[.pointer (some ⟨rb, 0, none⟩), .agg #[.int .i64 t.ln, .int .i64 t.co], .int .i64 3] W fun e' w' => e' = .returned (.tuple #[]) ∧ RTat w0 rb (.slice (some ⟨b, o, none⟩) ws.length wc0) ws F w' ∧ W.grownBy w' (some rb)) := Lib.hid fun W hW => by
    have q := failR_any HC.out (t.ln, t.co) 3 ⟨n, (q1, q2), e⟩ W hW
    rw [HQ.out] at q
    exact q
   clear he hn ht hwv
   have HX3 := Lib.hid (HHD.out.below (Below.refl _ w.drew).drew)
   have HS0 : Hid (w.drew.drew.cell? ⟨rb, 0, none⟩ = some (.slice (some ⟨b, o, none⟩) ws.length wc0) ∧ w.drew.drew.cell? ⟨rb, 1, none⟩ = some (.int .i64 n) ∧ w.drew.drew.cell? ⟨b, o + n * 3 + 1, none⟩ = some (.int .i64 t.ln) ∧ w.drew.drew.cell? ⟨b, o + n * 3 + 2, none⟩ = some (.int .i64 t.co)) := Lib.hid ⟨z0, z1, keepCell HX3.out.bel t1, keepCell HX3.out.bel t2⟩
   have HLM : Hid (∀ W, RTat w0 rb (.slice (some ⟨b, o, none⟩) ws.length wc0) ws F W → W.cell? ⟨rb, 0, none⟩ = some (.slice (some ⟨b, o, none⟩) ws.length wc0) ∧ W.cell? ⟨rb, 1, none⟩ = some (.int .i64 n) ∧ W.cell? ⟨b, o + n * 3 + 1, none⟩ = some (.int .i64 t.ln) ∧ W.cell? ⟨b, o + n * 3 + 2, none⟩ = some (.int .i64 t.co)) := Lib.hid fun W h => by
    have k1 := HW12.out W h.bel
    have hn' : F.n = n := by rw [← HQ.out, failT_n]
    refine ⟨h.blk.cell (j := 0) rfl, ?_, k1.1, k1.2⟩
    have q : W.cell? ⟨rb, 1, none⟩ = some (.int .i64 F.n) := h.blk.cell (j := 1) rfl
    rw [hn'] at q
    exact q
   clear t1 t2
   go_upto_region 0 with fail
   go_region
   all_goals go_upto_region 1 with fail
   all_goals go_region_held3 (fun w' => w'.cell? ⟨rb, 0, none⟩ = some (.slice (some ⟨b, o, none⟩) ws.length wc0) ∧ w'.cell? ⟨rb, 1, none⟩ = some (.int .i64 n) ∧ w'.cell? ⟨b, o + n * 3 + 1, none⟩ = some (.int .i64 t.ln) ∧ w'.cell? ⟨b, o + n * 3 + 2, none⟩ = some (.int .i64 t.co))
    (first | exact HS0.out | exact HS1.out)
    ((go_at_call 130; refine (HFA.out _ HX3.out).mono ?_; rintro e w3 ⟨rfl, hs3, hg3⟩; have HS1 := Lib.hid (HLM.out w3 hs3)))
   all_goals go_wp2_with fail
   all_goals go_end0
   all_goals exact ⟨rfl, hs3, grown_trans (below_grown ((Below.refl _ w).drew.drew) _) hg3⟩
  ·have HQ : Hid ((⟨n, (q1, q2), e⟩ : RSt) = F) := Lib.hid ((if_neg (fun q => hn q.2)).symm.trans HF.out)
   have g2 : ¬(n : Int) < (ws.length : Int) := by omega
   clear he hn
   go_upto_region 0 with fail
   go_region
   all_goals go_wp2_with fail
   all_goals go_end0
   all_goals exact ⟨rfl, by rw [← HQ.out]; exact HHD.out, HGD.out⟩
 ·have g1 : (e == 0) = false := by simpa using he
  have HQ : Hid ((⟨n, (q1, q2), e⟩ : RSt) = F) := Lib.hid ((if_neg (fun q => he q.1)).symm.trans HF.out)
  clear he
  go_upto_region 0 with fail
  go_region
  all_goals go_wp2_with fail
  all_goals go_end0
  all_goals exact ⟨rfl, by rw [← HQ.out]; exact HHD.out, HGD.out⟩
end Go.Proofs.YtlbglinpgjlbkaaGreatDoor
namespace Go.Proofs.YtlbglinpgjlbkaaGreatDoor
open Go.RowKit Wk

structure B3 (w0 : World) (rb : Nat) (wv : Value) (ws : List Tok) (wB : World) (Tb : TypeId) (b2 b3 b4 : Nat) (c2 c3 c4 : Array Value) (s : RSt) (w : World) : Prop where
 st : RTat w0 rb wv ws s w
 x2 : Blk w b2 c2 Tb
 x3 : Blk w b3 c3 Tb
 x4 : Blk w b4 c4 88
 ne : b2 ≠ rb ∧ b3 ≠ rb ∧ b4 ≠ rb ∧ b2 ≠ b3 ∧ b2 ≠ b4 ∧ b3 ≠ b4
 lo : w0.heap.size ≤ b2 ∧ w0.heap.size ≤ b3 ∧ w0.heap.size ≤ b4
 lb : wB.heap.size ≤ b2 ∧ wB.heap.size ≤ b3 ∧ wB.heap.size ≤ b4
 gr : wB.grownBy w (some rb)
section
variable {w0 : World} {rb : Nat} {wv : Value} {ws : List Tok} {wB : World} {Tb : TypeId} {b2 b3 b4 : Nat} {c2 c3 c4 : Array Value} {s s' : RSt} {w w' : World}
theorem B3.below (h : B3 w0 rb wv ws wB Tb b2 b3 b4 c2 c3 c4 s w) (hb : Below w.heap.size w w') : B3 w0 rb wv ws wB Tb b2 b3 b4 c2 c3 c4 s w' := ⟨h.st.below hb, h.x2.below hb, h.x3.below hb, h.x4.below hb, h.ne, h.lo, h.lb, grown_trans h.gr (below_grown hb _)⟩
theorem B3.meth (h : B3 w0 rb wv ws wB Tb b2 b3 b4 c2 c3 c4 s w) (hs : RTat w0 rb wv ws s' w') (hg : w.grownBy w' (some rb)) : B3 w0 rb wv ws wB Tb b2 b3 b4 c2 c3 c4 s' w' := ⟨hs, h.x2.grown hg h.ne.1, h.x3.grown hg h.ne.2.1, h.x4.grown hg h.ne.2.2.1, h.ne, h.lo, h.lb, grown_trans h.gr hg⟩
theorem B3.set2 (h : B3 w0 rb wv ws wB Tb b2 b3 b4 c2 c3 c4 s w) (j : Nat) (u : Value) : B3 w0 rb wv ws wB Tb b2 b3 b4 (c2.setIfInBounds j u) c3 c4 s (w.setCell ⟨b2, j, none⟩ u) :=
 ⟨h.st.other (grown_set _ _ _ _) h.ne.1 h.lo.1, h.x2.set u, h.x3.far (Ne.symm h.ne.2.2.2.1) u, h.x4.far (Ne.symm h.ne.2.2.2.2.1) u, h.ne, h.lo, h.lb, h.gr.andThen (grown_set _ _ _ _) (fun j hj => by cases hj; exact .inl h.lb.1)⟩
theorem B3.set3 (h : B3 w0 rb wv ws wB Tb b2 b3 b4 c2 c3 c4 s w) (j : Nat) (u : Value) : B3 w0 rb wv ws wB Tb b2 b3 b4 c2 (c3.setIfInBounds j u) c4 s (w.setCell ⟨b3, j, none⟩ u) :=
 ⟨h.st.other (grown_set _ _ _ _) h.ne.2.1 h.lo.2.1, h.x2.far h.ne.2.2.2.1 u, h.x3.set u, h.x4.far (Ne.symm h.ne.2.2.2.2.2) u, h.ne, h.lo, h.lb, h.gr.andThen (grown_set _ _ _ _) (fun j hj => by cases hj; exact .inl h.lb.2.1)⟩
theorem B3.set4 (h : B3 w0 rb wv ws wB Tb b2 b3 b4 c2 c3 c4 s w) (j : Nat) (u : Value) : B3 w0 rb wv ws wB Tb b2 b3 b4 c2 c3 (c4.setIfInBounds j u) s (w.setCell ⟨b4, j, none⟩ u) :=
 ⟨h.st.other (grown_set _ _ _ _) h.ne.2.2.1 h.lo.2.2, h.x2.far h.ne.2.2.2.2.1 u, h.x3.far h.ne.2.2.2.2.2 u, h.x4.set u, h.ne, h.lo, h.lb, h.gr.andThen (grown_set _ _ _ _) (fun j hj => by cases hj; exact .inl h.lb.2.2)⟩
end
theorem tosT_eq (ws : List Tok) (fr : Int) (s : RSt) : tosT ws fr s = (fun r : Tok × RSt => if r.1.tx = [111, 110, 108, 121] then (fr, r.2) else if r.1.tx = [109, 97, 120] then (9999, r.2) else ((numM r.1.tx fr 9999).1, if r.2.e = 0 ∧ ((numM r.1.tx fr 9999).2 == 0) = false then failT (tokP r.1) (numM r.1.tx fr 9999).2 r.2 else r.2)) (nextT ws s) := by
 show (if (nextT ws s).1.tx = [111, 110, 108, 121] then SM.ret fr else if (nextT ws s).1.tx = [109, 97, 120] then SM.ret 9999 else SM.bind (needT (nextT ws s).1 ((numM (nextT ws s).1.tx fr 9999).2 == 0) (numM (nextT ws s).1.tx fr 9999).2) fun _ => SM.ret (numM (nextT ws s).1.tx fr 9999).1 : SM Int) (nextT ws s).2 = _
 generalize nextT ws s = r
 simp only
 by_cases h1 : r.1.tx = [111, 110, 108, 121]
 ·rw [if_pos h1, if_pos h1]; rfl
 ·rw [if_neg h1, if_neg h1]
  by_cases h2 : r.1.tx = [109, 97, 120]
  ·rw [if_pos h2, if_pos h2]; rfl
  ·rw [if_neg h2, if_neg h2]; rfl
theorem leT_eq (ws : List Tok) (s : RSt) : leT ws s = (fun r : Tok × RSt => if r.1.tx = [45] then ([], r.2) else (r.1.tx, if r.2.e = 0 ∧ letterB r.1.tx = false then failT (tokP r.1) 3 r.2 else r.2)) (nextT ws s) := by
 show (if (nextT ws s).1.tx = [45] then SM.ret [] else SM.bind (needT (nextT ws s).1 (letterB (nextT ws s).1.tx) 3) fun _ => SM.ret (nextT ws s).1.tx : SM Bs) (nextT ws s).2 = _
 generalize nextT ws s = r
 simp only
 by_cases h1 : r.1.tx = [45]
 ·rw [if_pos h1, if_pos h1]; rfl
 ·rw [if_neg h1, if_neg h1]; rfl
theorem bsO_ne (N : ByteArray) (l : Bs) : (N.toList = l) ↔ (bsO N = l) := by rw [Lib.toList_data]
theorem toNum_wf (ws : List Tok) (s : RSt) : (1 ≤ (numberT ws 1 9999 s).1 ∧ (numberT ws 1 9999 s).1 ≤ 9999) ∨ (numberT ws 1 9999 s).1 = 0 := by
 show (1 ≤ (numM (nextT ws s).1.tx 1 9999).1 ∧ (numM (nextT ws s).1.tx 1 9999).1 ≤ 9999) ∨ (numM (nextT ws s).1.tx 1 9999).1 = 0
 by_cases h : (numM (nextT ws s).1.tx 1 9999).2 = 0
 ·exact .inl (num_bd h)
 ·refine .inr ?_
  unfold numM at h ⊢
  by_cases hf : formN (nextT ws s).1.tx = false
  ·rw [if_pos hf]
  ·rw [if_neg hf] at h ⊢
   by_cases hb : numV (nextT ws s).1.tx < 1 ∨ 9999 < numV (nextT ws s).1.tx
   ·rw [if_pos hb]
   ·rw [if_neg hb] at h
    exact absurd rfl h
theorem B3.copy11 {w0 : World} {rb : Nat} {wv : Value} {ws : List Tok} {wB : World} {Tb : TypeId} {b2 b3 b4 : Nat} {z0 z1 z2 z3 z4 z5 z6 z7 z8 z9 z10 : Value} {c3 c4 : Array Value} {s : RSt} {w : World} (h : B3 w0 rb wv ws wB Tb b2 b3 b4 #[z0, z1, z2, z3, z4, z5, z6, z7, z8, z9, z10] c3 c4 s w) (u0 u1 u2 u3 u4 u5 u6 u7 u8 u9 u10 : Value) :
  B3 w0 rb wv ws wB Tb b2 b3 b4 #[u0, u1, u2, u3, u4, u5, u6, u7, u8, u9, u10] c3 c4 s (((((((((((w.setCell ⟨b2, 0, none⟩ u0).setCell ⟨b2, 1, none⟩ u1).setCell ⟨b2, 2, none⟩ u2).setCell ⟨b2, 3, none⟩ u3).setCell ⟨b2, 4, none⟩ u4).setCell ⟨b2, 5, none⟩ u5).setCell ⟨b2, 6, none⟩ u6).setCell ⟨b2, 7, none⟩ u7).setCell ⟨b2, 8, none⟩ u8).setCell ⟨b2, 9, none⟩ u9).setCell ⟨b2, 10, none⟩ u10) := by
 have h0 : B3 w0 rb wv ws wB Tb b2 b3 b4 #[u0, z1, z2, z3, z4, z5, z6, z7, z8, z9, z10] c3 c4 s (w.setCell ⟨b2, 0, none⟩ u0) := h.set2 0 u0
 have h1 : B3 w0 rb wv ws wB Tb b2 b3 b4 #[u0, u1, z2, z3, z4, z5, z6, z7, z8, z9, z10] c3 c4 s ((w.setCell ⟨b2, 0, none⟩ u0).setCell ⟨b2, 1, none⟩ u1) := h0.set2 1 u1
 have h2 : B3 w0 rb wv ws wB Tb b2 b3 b4 #[u0, u1, u2, z3, z4, z5, z6, z7, z8, z9, z10] c3 c4 s (((w.setCell ⟨b2, 0, none⟩ u0).setCell ⟨b2, 1, none⟩ u1).setCell ⟨b2, 2, none⟩ u2) := h1.set2 2 u2
 have h3 : B3 w0 rb wv ws wB Tb b2 b3 b4 #[u0, u1, u2, u3, z4, z5, z6, z7, z8, z9, z10] c3 c4 s ((((w.setCell ⟨b2, 0, none⟩ u0).setCell ⟨b2, 1, none⟩ u1).setCell ⟨b2, 2, none⟩ u2).setCell ⟨b2, 3, none⟩ u3) := h2.set2 3 u3
 have h4 : B3 w0 rb wv ws wB Tb b2 b3 b4 #[u0, u1, u2, u3, u4, z5, z6, z7, z8, z9, z10] c3 c4 s (((((w.setCell ⟨b2, 0, none⟩ u0).setCell ⟨b2, 1, none⟩ u1).setCell ⟨b2, 2, none⟩ u2).setCell ⟨b2, 3, none⟩ u3).setCell ⟨b2, 4, none⟩ u4) := h3.set2 4 u4
 have h5 : B3 w0 rb wv ws wB Tb b2 b3 b4 #[u0, u1, u2, u3, u4, u5, z6, z7, z8, z9, z10] c3 c4 s ((((((w.setCell ⟨b2, 0, none⟩ u0).setCell ⟨b2, 1, none⟩ u1).setCell ⟨b2, 2, none⟩ u2).setCell ⟨b2, 3, none⟩ u3).setCell ⟨b2, 4, none⟩ u4).setCell ⟨b2, 5, none⟩ u5) := h4.set2 5 u5
 have h6 : B3 w0 rb wv ws wB Tb b2 b3 b4 #[u0, u1, u2, u3, u4, u5, u6, z7, z8, z9, z10] c3 c4 s (((((((w.setCell ⟨b2, 0, none⟩ u0).setCell ⟨b2, 1, none⟩ u1).setCell ⟨b2, 2, none⟩ u2).setCell ⟨b2, 3, none⟩ u3).setCell ⟨b2, 4, none⟩ u4).setCell ⟨b2, 5, none⟩ u5).setCell ⟨b2, 6, none⟩ u6) := h5.set2 6 u6
 have h7 : B3 w0 rb wv ws wB Tb b2 b3 b4 #[u0, u1, u2, u3, u4, u5, u6, u7, z8, z9, z10] c3 c4 s ((((((((w.setCell ⟨b2, 0, none⟩ u0).setCell ⟨b2, 1, none⟩ u1).setCell ⟨b2, 2, none⟩ u2).setCell ⟨b2, 3, none⟩ u3).setCell ⟨b2, 4, none⟩ u4).setCell ⟨b2, 5, none⟩ u5).setCell ⟨b2, 6, none⟩ u6).setCell ⟨b2, 7, none⟩ u7) := h6.set2 7 u7
 have h8 : B3 w0 rb wv ws wB Tb b2 b3 b4 #[u0, u1, u2, u3, u4, u5, u6, u7, u8, z9, z10] c3 c4 s (((((((((w.setCell ⟨b2, 0, none⟩ u0).setCell ⟨b2, 1, none⟩ u1).setCell ⟨b2, 2, none⟩ u2).setCell ⟨b2, 3, none⟩ u3).setCell ⟨b2, 4, none⟩ u4).setCell ⟨b2, 5, none⟩ u5).setCell ⟨b2, 6, none⟩ u6).setCell ⟨b2, 7, none⟩ u7).setCell ⟨b2, 8, none⟩ u8) := h7.set2 8 u8
 have h9 : B3 w0 rb wv ws wB Tb b2 b3 b4 #[u0, u1, u2, u3, u4, u5, u6, u7, u8, u9, z10] c3 c4 s ((((((((((w.setCell ⟨b2, 0, none⟩ u0).setCell ⟨b2, 1, none⟩ u1).setCell ⟨b2, 2, none⟩ u2).setCell ⟨b2, 3, none⟩ u3).setCell ⟨b2, 4, none⟩ u4).setCell ⟨b2, 5, none⟩ u5).setCell ⟨b2, 6, none⟩ u6).setCell ⟨b2, 7, none⟩ u7).setCell ⟨b2, 8, none⟩ u8).setCell ⟨b2, 9, none⟩ u9) := h8.set2 9 u9
 have h10 : B3 w0 rb wv ws wB Tb b2 b3 b4 #[u0, u1, u2, u3, u4, u5, u6, u7, u8, u9, u10] c3 c4 s (((((((((((w.setCell ⟨b2, 0, none⟩ u0).setCell ⟨b2, 1, none⟩ u1).setCell ⟨b2, 2, none⟩ u2).setCell ⟨b2, 3, none⟩ u3).setCell ⟨b2, 4, none⟩ u4).setCell ⟨b2, 5, none⟩ u5).setCell ⟨b2, 6, none⟩ u6).setCell ⟨b2, 7, none⟩ u7).setCell ⟨b2, 8, none⟩ u8).setCell ⟨b2, 9, none⟩ u9).setCell ⟨b2, 10, none⟩ u10) := h9.set2 10 u10
 exact h10
theorem B3.copy12 {w0 : World} {rb : Nat} {wv : Value} {ws : List Tok} {wB : World} {Tb : TypeId} {b2 b3 b4 : Nat} {z0 z1 z2 z3 z4 z5 z6 z7 z8 z9 z10 z11 : Value} {c3 c4 : Array Value} {s : RSt} {w : World} (h : B3 w0 rb wv ws wB Tb b2 b3 b4 #[z0, z1, z2, z3, z4, z5, z6, z7, z8, z9, z10, z11] c3 c4 s w) (u0 u1 u2 u3 u4 u5 u6 u7 u8 u9 u10 u11 : Value) :
  B3 w0 rb wv ws wB Tb b2 b3 b4 #[u0, u1, u2, u3, u4, u5, u6, u7, u8, u9, u10, u11] c3 c4 s ((((((((((((w.setCell ⟨b2, 0, none⟩ u0).setCell ⟨b2, 1, none⟩ u1).setCell ⟨b2, 2, none⟩ u2).setCell ⟨b2, 3, none⟩ u3).setCell ⟨b2, 4, none⟩ u4).setCell ⟨b2, 5, none⟩ u5).setCell ⟨b2, 6, none⟩ u6).setCell ⟨b2, 7, none⟩ u7).setCell ⟨b2, 8, none⟩ u8).setCell ⟨b2, 9, none⟩ u9).setCell ⟨b2, 10, none⟩ u10).setCell ⟨b2, 11, none⟩ u11) := by
 have h0 : B3 w0 rb wv ws wB Tb b2 b3 b4 #[u0, z1, z2, z3, z4, z5, z6, z7, z8, z9, z10, z11] c3 c4 s (w.setCell ⟨b2, 0, none⟩ u0) := h.set2 0 u0
 have h1 : B3 w0 rb wv ws wB Tb b2 b3 b4 #[u0, u1, z2, z3, z4, z5, z6, z7, z8, z9, z10, z11] c3 c4 s ((w.setCell ⟨b2, 0, none⟩ u0).setCell ⟨b2, 1, none⟩ u1) := h0.set2 1 u1
 have h2 : B3 w0 rb wv ws wB Tb b2 b3 b4 #[u0, u1, u2, z3, z4, z5, z6, z7, z8, z9, z10, z11] c3 c4 s (((w.setCell ⟨b2, 0, none⟩ u0).setCell ⟨b2, 1, none⟩ u1).setCell ⟨b2, 2, none⟩ u2) := h1.set2 2 u2
 have h3 : B3 w0 rb wv ws wB Tb b2 b3 b4 #[u0, u1, u2, u3, z4, z5, z6, z7, z8, z9, z10, z11] c3 c4 s ((((w.setCell ⟨b2, 0, none⟩ u0).setCell ⟨b2, 1, none⟩ u1).setCell ⟨b2, 2, none⟩ u2).setCell ⟨b2, 3, none⟩ u3) := h2.set2 3 u3
 have h4 : B3 w0 rb wv ws wB Tb b2 b3 b4 #[u0, u1, u2, u3, u4, z5, z6, z7, z8, z9, z10, z11] c3 c4 s (((((w.setCell ⟨b2, 0, none⟩ u0).setCell ⟨b2, 1, none⟩ u1).setCell ⟨b2, 2, none⟩ u2).setCell ⟨b2, 3, none⟩ u3).setCell ⟨b2, 4, none⟩ u4) := h3.set2 4 u4
 have h5 : B3 w0 rb wv ws wB Tb b2 b3 b4 #[u0, u1, u2, u3, u4, u5, z6, z7, z8, z9, z10, z11] c3 c4 s ((((((w.setCell ⟨b2, 0, none⟩ u0).setCell ⟨b2, 1, none⟩ u1).setCell ⟨b2, 2, none⟩ u2).setCell ⟨b2, 3, none⟩ u3).setCell ⟨b2, 4, none⟩ u4).setCell ⟨b2, 5, none⟩ u5) := h4.set2 5 u5
 have h6 : B3 w0 rb wv ws wB Tb b2 b3 b4 #[u0, u1, u2, u3, u4, u5, u6, z7, z8, z9, z10, z11] c3 c4 s (((((((w.setCell ⟨b2, 0, none⟩ u0).setCell ⟨b2, 1, none⟩ u1).setCell ⟨b2, 2, none⟩ u2).setCell ⟨b2, 3, none⟩ u3).setCell ⟨b2, 4, none⟩ u4).setCell ⟨b2, 5, none⟩ u5).setCell ⟨b2, 6, none⟩ u6) := h5.set2 6 u6
 have h7 : B3 w0 rb wv ws wB Tb b2 b3 b4 #[u0, u1, u2, u3, u4, u5, u6, u7, z8, z9, z10, z11] c3 c4 s ((((((((w.setCell ⟨b2, 0, none⟩ u0).setCell ⟨b2, 1, none⟩ u1).setCell ⟨b2, 2, none⟩ u2).setCell ⟨b2, 3, none⟩ u3).setCell ⟨b2, 4, none⟩ u4).setCell ⟨b2, 5, none⟩ u5).setCell ⟨b2, 6, none⟩ u6).setCell ⟨b2, 7, none⟩ u7) := h6.set2 7 u7
 have h8 : B3 w0 rb wv ws wB Tb b2 b3 b4 #[u0, u1, u2, u3, u4, u5, u6, u7, u8, z9, z10, z11] c3 c4 s (((((((((w.setCell ⟨b2, 0, none⟩ u0).setCell ⟨b2, 1, none⟩ u1).setCell ⟨b2, 2, none⟩ u2).setCell ⟨b2, 3, none⟩ u3).setCell ⟨b2, 4, none⟩ u4).setCell ⟨b2, 5, none⟩ u5).setCell ⟨b2, 6, none⟩ u6).setCell ⟨b2, 7, none⟩ u7).setCell ⟨b2, 8, none⟩ u8) := h7.set2 8 u8
 have h9 : B3 w0 rb wv ws wB Tb b2 b3 b4 #[u0, u1, u2, u3, u4, u5, u6, u7, u8, u9, z10, z11] c3 c4 s ((((((((((w.setCell ⟨b2, 0, none⟩ u0).setCell ⟨b2, 1, none⟩ u1).setCell ⟨b2, 2, none⟩ u2).setCell ⟨b2, 3, none⟩ u3).setCell ⟨b2, 4, none⟩ u4).setCell ⟨b2, 5, none⟩ u5).setCell ⟨b2, 6, none⟩ u6).setCell ⟨b2, 7, none⟩ u7).setCell ⟨b2, 8, none⟩ u8).setCell ⟨b2, 9, none⟩ u9) := h8.set2 9 u9
 have h10 : B3 w0 rb wv ws wB Tb b2 b3 b4 #[u0, u1, u2, u3, u4, u5, u6, u7, u8, u9, u10, z11] c3 c4 s (((((((((((w.setCell ⟨b2, 0, none⟩ u0).setCell ⟨b2, 1, none⟩ u1).setCell ⟨b2, 2, none⟩ u2).setCell ⟨b2, 3, none⟩ u3).setCell ⟨b2, 4, none⟩ u4).setCell ⟨b2, 5, none⟩ u5).setCell ⟨b2, 6, none⟩ u6).setCell ⟨b2, 7, none⟩ u7).setCell ⟨b2, 8, none⟩ u8).setCell ⟨b2, 9, none⟩ u9).setCell ⟨b2, 10, none⟩ u10) := h9.set2 10 u10
 have h11 : B3 w0 rb wv ws wB Tb b2 b3 b4 #[u0, u1, u2, u3, u4, u5, u6, u7, u8, u9, u10, u11] c3 c4 s ((((((((((((w.setCell ⟨b2, 0, none⟩ u0).setCell ⟨b2, 1, none⟩ u1).setCell ⟨b2, 2, none⟩ u2).setCell ⟨b2, 3, none⟩ u3).setCell ⟨b2, 4, none⟩ u4).setCell ⟨b2, 5, none⟩ u5).setCell ⟨b2, 6, none⟩ u6).setCell ⟨b2, 7, none⟩ u7).setCell ⟨b2, 8, none⟩ u8).setCell ⟨b2, 9, none⟩ u9).setCell ⟨b2, 10, none⟩ u10).setCell ⟨b2, 11, none⟩ u11) := h10.set2 11 u11
 exact h11
end Go.Proofs.YtlbglinpgjlbkaaGreatDoor
