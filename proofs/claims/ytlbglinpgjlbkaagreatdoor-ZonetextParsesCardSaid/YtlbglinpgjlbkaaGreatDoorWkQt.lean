import Derived.Test.YtlbglinpgjlbkaaGreatDoorWkQn
import Derived.Test.YtlbglinpgjlbkaaGreatDoorWkQr
import Derived.Deep.RegionHeld3
/- Zone texts: the reference's reader in memory: fail, next. Printed by gen_t1.py. -/
namespace Go.Proofs.YtlbglinpgjlbkaaGreatDoor
open Go.RowKit Wk

def rdD (s : RSt) (wv : Value) : Array Value := #[wv, .int .i64 s.n, .int .i64 s.p.1, .int .i64 s.p.2, .int .i64 s.e]
structure RTat (w0 : World) (rb : Nat) (wv : Value) (ws : List Tok) (s : RSt) (w : World) : Prop where
 blk : Blk w rb (rdD s wv) 96
 bel : Below w0.heap.size w0 w
 hi : s.n ≤ ws.length
theorem RTat.below {w0 : World} {rb : Nat} {wv : Value} {ws : List Tok} {s : RSt} {w w' : World} (h : RTat w0 rb wv ws s w) (hb : Below w.heap.size w w') : RTat w0 rb wv ws s w' := ⟨h.blk.below hb, keepBelow h.bel hb, h.hi⟩
theorem RTat.rd {w0 : World} {rb : Nat} {wv : Value} {ws : List Tok} {s : RSt} {w : World} (h : RTat w0 rb wv ws s w) (hc : RCtx w0 rb wv ws) : RdTk w wv ws := hc.rd.below h.bel
theorem RTat.other {w0 : World} {rb b : Nat} {wv : Value} {ws : List Tok} {s : RSt} {w w' : World} (h : RTat w0 rb wv ws s w) (hg : w.grownBy w' (some b)) (hn : b ≠ rb) (hl : w0.heap.size ≤ b) : RTat w0 rb wv ws s w' :=
 ⟨h.blk.grown hg (Ne.symm hn), grown_below h.bel hl hg, h.hi⟩
theorem failT_n (p : Nat × Nat) (e : Int) (s : RSt) : (failT p e s).n = s.n := by
 unfold failT
 split <;> rfl
def tokV (t : Tok) : Value := .agg #[.string ⟨t.tx.toArray⟩, .int .i64 t.ln, .int .i64 t.co]

set_option maxRecDepth 100000 in
set_option maxHeartbeats 4000000 in
theorem failR_any {w0 : World} {rb : Nat} {wv : Value} {ws : List Tok} (hc : RCtx w0 rb wv ws) (p : Nat × Nat) (x : Int) (s : RSt) (w : World) (h : RTat w0 rb wv ws s w) :
  Calls Tryz.prog 130 #[.pointer (some ⟨rb, 0, none⟩), .agg #[.int .i64 p.1, .int .i64 p.2], .int .i64 x] w fun e' w' => e' = .returned (.tuple #[]) ∧ RTat w0 rb wv ws (failT p x s) w' ∧ w.grownBy w' (some rb) := by
 have HC := Lib.hid hc
 have HH := Lib.hid h
 obtain ⟨f, hf⟩ : ∃ f, failT p x s = f := ⟨_, rfl⟩
 rw [hf]
 have HF := Lib.hid hf
 clear hf h hc
 obtain ⟨n, ⟨q1, q2⟩, e⟩ := s
 obtain ⟨p1, p2⟩ := p
 simp only
 go_enter Tryz.func130, Tryz.ntmps130
 go_upto_region 1 with fail
 obtain ⟨b4, hb4⟩ : ∃ b, w.heap.size = b := ⟨_, rfl⟩
 obtain ⟨X, hX⟩ : ∃ X, w.alloc (.cells #[.int .i64 p1, .int .i64 p2] 29) = X := ⟨_, rfl⟩
 have HBX : Hid (Below w.heap.size w X) := Lib.hid (by rw [← hX]; exact (Below.refl _ _).alloc (Nat.le_refl _) _)
 have HX := Lib.hid (HH.out.below HBX.out)
 have HB4 : Hid (Blk X b4 #[.int .i64 p1, .int .i64 p2] 29) := Lib.hid (by rw [← hX, ← hb4]; exact Blk.new _ _ _)
 try rw [hX]
 try rw [hb4]
 clear hX hb4
 have HBL : Hid (Blk X rb #[wv, .int .i64 n, .int .i64 q1, .int .i64 q2, .int .i64 e] 96) := Lib.hid HX.out.blk
 have r4 := HBL.out.cell (j := 4) rfl
 by_cases he : e = 0
 ·have g1 : (e == 0) = true := by simpa using he
  have r2 := HBL.out.cell (j := 2) rfl
  have r3 := HBL.out.cell (j := 3) rfl
  have f2 := HBL.out.frz 2
  have f3 := HBL.out.frz 3
  have f4 := HBL.out.frz 4
  have x0 := HB4.out.cell (j := 0) rfl
  have x1 := HB4.out.cell (j := 1) rfl
  have HN : Hid (f = ⟨n, (p1, p2), x⟩) := Lib.hid (by rw [← HF.out]; exact if_pos he)
  have HQ : Hid (RTat w0 rb wv ws f (((X.setCell ⟨rb, 2, none⟩ (.int .i64 p1)).setCell ⟨rb, 3, none⟩ (.int .i64 p2)).setCell ⟨rb, 4, none⟩ (.int .i64 x)) ∧ w.grownBy (((X.setCell ⟨rb, 2, none⟩ (.int .i64 p1)).setCell ⟨rb, 3, none⟩ (.int .i64 p2)).setCell ⟨rb, 4, none⟩ (.int .i64 x)) (some rb)) := Lib.hid (by
   rw [HN.out]
   have hlo := HC.out.lo
   refine ⟨⟨((HBL.out.set (j := 2) _).set (j := 3) _).set (j := 4) _, ((HX.out.bel.setCell (p := ⟨rb, 2, none⟩) hlo _).setCell (p := ⟨rb, 3, none⟩) hlo _).setCell (p := ⟨rb, 4, none⟩) hlo _, HX.out.hi⟩, ?_⟩
   exact grown_trans (grown_trans (grown_trans (below_grown HBX.out _) (grown_set _ _ _ _)) (grown_set _ _ _ _)) (grown_set _ _ _ _))
  clear he
  go_wp2_with fail
  go_end0
  exact ⟨rfl, HQ.out⟩
 ·have g1 : (e == 0) = false := by simpa using he
  have HN : Hid (f = ⟨n, (q1, q2), e⟩) := Lib.hid (by rw [← HF.out]; exact if_neg he)
  clear he
  go_wp2_with fail
  go_end0
  exact ⟨rfl, by rw [HN.out]; exact HX.out, below_grown HBX.out _⟩

set_option maxRecDepth 100000 in
set_option maxHeartbeats 8000000 in
theorem nextR_any {w0 : World} {rb : Nat} {wv : Value} {ws : List Tok} (hc : RCtx w0 rb wv ws) (s : RSt) (w : World) (h : RTat w0 rb wv ws s w) :
  Calls Tryz.prog 53 #[.pointer (some ⟨rb, 0, none⟩)] w fun e w' => e = .returned (tokV (nextT ws s).1) ∧ RTat w0 rb wv ws (nextT ws s).2 w' ∧ w.grownBy w' (some rb) := by
 have HC := Lib.hid hc
 have HH := Lib.hid h
 have hlen : ws.length ≤ 1152921504606846976 := hc.ln
 have hne := hc.ne
 have hhi := h.hi
 obtain ⟨F, hF⟩ : ∃ F, nextT ws s = F := ⟨_, rfl⟩
 rw [hF]
 have HF := Lib.hid hF
 clear hF h hc
 obtain ⟨n, ⟨q1, q2⟩, e⟩ := s
 simp only at hhi
 go_enter Tryz.func53, Tryz.ntmps53
 go_upto_region 1 with fail
 obtain ⟨b2, hb2⟩ : ∃ b, w.heap.size = b := ⟨_, rfl⟩
 obtain ⟨X, hX⟩ : ∃ X, w.alloc (.cells #[.string ⟨#[]⟩, .int .i64 0, .int .i64 0] 88) = X := ⟨_, rfl⟩
 have HBX : Hid (Below w.heap.size w X) := Lib.hid (by rw [← hX]; exact (Below.refl _ _).alloc (Nat.le_refl _) _)
 have HX := Lib.hid (HH.out.below HBX.out)
 have HB2 : Hid (Blk X b2 #[.string ⟨#[]⟩, .int .i64 0, .int .i64 0] 88) := Lib.hid (by rw [← hX, ← hb2]; exact Blk.new _ _ _)
 have HNE : Hid (b2 ≠ rb) := Lib.hid (by rw [← hb2]; exact Nat.ne_of_gt HH.out.blk.lt)
 have HLO : Hid (w0.heap.size ≤ b2 ∧ w.heap.size ≤ b2) := Lib.hid (by rw [← hb2]; exact ⟨HH.out.bel.size, Nat.le_refl _⟩)
 try rw [hX]
 try rw [hb2]
 clear hX hb2
 have HBL : Hid (Blk X rb #[wv, .int .i64 n, .int .i64 q1, .int .i64 q2, .int .i64 e] 96) := Lib.hid HX.out.blk
 have r4 := HBL.out.cell (j := 4) rfl
 have x0 := HB2.out.cell (j := 0) rfl
 have x1 := HB2.out.cell (j := 1) rfl
 have x2 := HB2.out.cell (j := 2) rfl
 have f0 := HB2.out.frz 0
 have f1 := HB2.out.frz 1
 have f2 := HB2.out.frz 2
 by_cases he : e = 0
 case neg =>
  have g1 : (e != 0) = true := by simpa using he
  have HN : Hid (F = (tok0, ⟨n, (q1, q2), e⟩)) := Lib.hid (by rw [← HF.out]; exact if_pos he)
  have HR := Lib.hid (set3_blk HB2.out (.string ⟨#[]⟩) (.int .i64 0) (.int .i64 0))
  have r0 := HR.out.cell (j := 0) rfl
  have r1 := HR.out.cell (j := 1) rfl
  have r2 := HR.out.cell (j := 2) rfl
  clear he
  go_wp2_with fail
  refine bodyPost_ret (v := .agg #[.string ⟨#[]⟩, .int .i64 0, .int .i64 0]) (by simp [results, Tryz.results53, go_sem, r0, r1, r2]) rfl ?_
  rw [HN.out]
  exact ⟨rfl, HX.out.other (set3_grown _ _ _ _ _) HNE.out HLO.out.1, (below_grown HBX.out _).andThen (set3_grown _ _ _ _ _) (fun j hj => by cases hj; exact .inl HLO.out.2)⟩
 case pos =>
 have g1 : (e != 0) = false := by simpa using he
 subst he
 have z1 : X.drew.cell? ⟨rb, 1, none⟩ = some (.int .i64 n) := HBL.out.cell (j := 1) rfl
 have y1 : X.cell? ⟨rb, 1, none⟩ = some (.int .i64 n) := HBL.out.cell (j := 1) rfl
 have hd : Below X.heap.size X X.drew := (Below.refl _ _).drew
 by_cases hg : ws.length ≤ n
 ·obtain ⟨m, hm⟩ : ∃ m, ws.length = m + 1 := ⟨ws.length - 1, by omega⟩
  obtain ⟨b, o, c, hwv, -, t1, t2⟩ := HC.out.rd.at (k := m) (by omega)
  obtain ⟨t, ht⟩ : ∃ t, ws.getD m tok0 = t := ⟨_, rfl⟩
  rw [ht] at t1 t2
  rw [hm] at hwv
  have HN : Hid (F = (tok0, failT (t.ln, t.co) 4 ⟨n, (q1, q2), 0⟩)) := Lib.hid (by
   rw [← HF.out]
   unfold nextT
   rw [if_neg (by simp), if_pos hg, hm, Nat.add_sub_cancel]
   unfold plT
   rw [ht])
  subst hwv
  have z0 : X.drew.cell? ⟨rb, 0, none⟩ = some (.slice (some ⟨b, o, none⟩) (m + 1) c) := HBL.out.cell (j := 0) rfl
  have HX2 := Lib.hid (HX.out.below hd)
  have hgi : ((m + 1 : Nat) : Int) ≤ (n : Int) := by omega
  have hgi2 : (m : Int) + 1 ≤ (n : Int) := by omega
  clear hd
  have HX3 := Lib.hid (HX2.out.below (Below.refl _ X.drew).drew)
  have HS0 : Hid ((X.drew.drew.cell? ⟨rb, 0, none⟩ = some (.slice (some ⟨b, o, none⟩) (m + 1) c) ∧ X.drew.drew.cell? ⟨b, o + m * 3 + 1, none⟩ = some (.int .i64 t.ln) ∧ X.drew.drew.cell? ⟨b, o + m * 3 + 2, none⟩ = some (.int .i64 t.co))) := Lib.hid ⟨z0, keepCell HX3.out.bel t1, keepCell HX3.out.bel t2⟩
  have HRE := Lib.hid (set3_blk (w := X) HB2.out (.string ⟨#[]⟩) (.int .i64 0) (.int .i64 0))
  have HFA : Hid (∀ W, RTat w0 rb (.slice (some ⟨b, o, none⟩) (m + 1) c) ws ⟨n, (q1, q2), 0⟩ W → Calls Tryz.prog 130 #[.pointer (some ⟨rb, 0, none⟩), .agg #[.int .i64 t.ln, .int .i64 t.co], .int .i64 4] W fun e' w' => e' = .returned (.tuple #[]) ∧ RTat w0 rb (.slice (some ⟨b, o, none⟩) (m + 1) c) ws F.2 w' ∧ W.grownBy w' (some rb)) := Lib.hid fun W hW => by
   have q := failR_any HC.out (t.ln, t.co) 4 ⟨n, (q1, q2), 0⟩ W hW
   rw [HN.out]
   exact q
  have HT1 : Hid (F.1 = tok0) := Lib.hid (by rw [HN.out])
  have HLM : Hid (∀ (s' : RSt) W, RTat w0 rb (.slice (some ⟨b, o, none⟩) (m + 1) c) ws s' W → W.cell? ⟨rb, 0, none⟩ = some (.slice (some ⟨b, o, none⟩) (m + 1) c) ∧ W.cell? ⟨b, o + m * 3 + 1, none⟩ = some (.int .i64 t.ln) ∧ W.cell? ⟨b, o + m * 3 + 2, none⟩ = some (.int .i64 t.co)) := Lib.hid fun s' W h => ⟨h.blk.cell (j := 0) rfl, keepCell h.bel t1, keepCell h.bel t2⟩
  have hwm : IntKind.i64.wrap (m : Int) = (m : Int) := by rw [IntKind.wrap_i64]; omega
  have hm0 : (0 : Int) ≤ (m : Int) := Int.natCast_nonneg _
  have hm1 : (m : Int) < ((m + 1 : Nat) : Int) := by omega
  have hm2 : (m : Int) < (m : Int) + 1 := by omega
  have hm3 : (((m + 1 : Nat) : Int) - 1) = (m : Int) := by omega
  have hmb : (m : Int) ≤ 1152921504606846975 := by omega
  clear t1 t2 ht hg
  go_upto_region 4 with fail
  go_region
  all_goals go_upto_region 4 with fail
  all_goals go_cut [] from 19 to 33 (fun wx => Hid (RTat w0 rb (.slice (some ⟨b, o, none⟩) (m + 1) c) ws F.2 wx) ∧ Hid (X.grownBy wx (some rb)))
  case first =>
   go_region_held3 (fun w' => w'.cell? ⟨rb, 0, none⟩ = some (.slice (some ⟨b, o, none⟩) (m + 1) c) ∧ w'.cell? ⟨b, o + m * 3 + 1, none⟩ = some (.int .i64 t.ln) ∧ w'.cell? ⟨b, o + m * 3 + 2, none⟩ = some (.int .i64 t.co))
    (first | exact HS0.out | exact HS1.out)
    ((go_at_call 130; refine (HFA.out _ HX3.out).mono ?_; rintro e w3 ⟨rfl, hs3, hg3⟩; have HS1 : Hid (w3.cell? ⟨rb, 0, none⟩ = some (.slice (some ⟨b, o, none⟩) (m + 1) c) ∧ w3.cell? ⟨b, o + m * 3 + 1, none⟩ = some (.int .i64 t.ln) ∧ w3.cell? ⟨b, o + m * 3 + 2, none⟩ = some (.int .i64 t.co)) := Lib.hid (HLM.out _ w3 hs3)))
   all_goals go_wp2_with fail
   all_goals go_meet
   all_goals exact ⟨hs3, grown_trans (below_grown ((Below.refl _ X).drew.drew) _) hg3⟩
  case rest =>
  obtain ⟨HZ, HGZ⟩ := hcut
  generalize wc = Z at *
  have HZ2 : Hid (Blk Z b2 #[.string ⟨#[]⟩, .int .i64 0, .int .i64 0] 88) := Lib.hid (HB2.out.grown HGZ.out HNE.out)
  have y0 := HZ2.out.cell (j := 0) rfl
  have y1 := HZ2.out.cell (j := 1) rfl
  have y2 := HZ2.out.cell (j := 2) rfl
  have v0 := HZ2.out.frz 0
  have v1 := HZ2.out.frz 1
  have v2 := HZ2.out.frz 2
  have HR := Lib.hid (set3_blk HZ2.out (.string ⟨#[]⟩) (.int .i64 0) (.int .i64 0))
  have r0 := HR.out.cell (j := 0) rfl
  have r1 := HR.out.cell (j := 1) rfl
  have r2 := HR.out.cell (j := 2) rfl
  go_wp2_with fail
  refine bodyPost_ret (v := .agg #[.string ⟨#[]⟩, .int .i64 0, .int .i64 0]) (by simp [results, Tryz.results53, go_sem, r0, r1, r2]) rfl ?_
  rw [HT1.out]
  exact ⟨rfl, HZ.out.other (set3_grown _ _ _ _ _) HNE.out HLO.out.1, (grown_trans (below_grown HBX.out _) HGZ.out).andThen (set3_grown _ _ _ _ _) (fun j hj => by cases hj; exact .inl HLO.out.2)⟩
 ·obtain ⟨b, o, c, hwv, t0, t1, t2⟩ := HC.out.rd.at (k := n) (by omega)
  obtain ⟨t, ht⟩ : ∃ t, ws.getD n tok0 = t := ⟨_, rfl⟩
  rw [ht] at t0 t1 t2
  have HN : Hid (F = (t, ⟨n + 1, (q1, q2), 0⟩)) := Lib.hid (by
   rw [← HF.out]
   unfold nextT
   rw [if_neg (by simp), if_neg (by exact hg)]
   show (ws.getD n tok0, _) = _
   rw [ht])
  obtain ⟨L, hL⟩ : ∃ L, ws.length = L := ⟨_, rfl⟩
  rw [hL] at hwv
  subst hwv
  have z0 : X.drew.cell? ⟨rb, 0, none⟩ = some (.slice (some ⟨b, o, none⟩) L c) := HBL.out.cell (j := 0) rfl
  have hgi : ¬(L : Int) ≤ (n : Int) := by omega
  have hgi2 : (n : Int) < (L : Int) := by omega
  have hnb : (n : Int) ≤ 1152921504606846975 := by omega
  have hn0 : (0 : Int) ≤ (n : Int) := Int.natCast_nonneg _
  have HLL := Lib.hid hL
  clear hd ht hg hL
  obtain ⟨tx, ln, co⟩ := t
  obtain ⟨TX, rfl⟩ := bs_of tx
  simp only at t0 t1 t2
  have HT : Hid (w0.cell? ⟨b, o + n * 3, none⟩ = some (.string TX) ∧ w0.cell? ⟨b, o + n * 3 + 1, none⟩ = some (.int .i64 ln) ∧ w0.cell? ⟨b, o + n * 3 + 2, none⟩ = some (.int .i64 co)) := Lib.hid ⟨t0, t1, t2⟩
  clear t0 t1 t2
  have v1 := HBL.out.frz 1
  have v1d : X.drew.frozen? ⟨rb, 1, none⟩ = false := v1
  go_upto_region 3 with fail
  go_region
  all_goals go_upto_region 7 with fail
  obtain ⟨Y, hY⟩ : ∃ Y, (X.setCell ⟨rb, 1, none⟩ (.int .i64 ((n : Int) + 1))).drew = Y := ⟨_, rfl⟩
  have HY : Hid (RTat w0 rb (.slice (some ⟨b, o, none⟩) L c) ws ⟨n + 1, (q1, q2), 0⟩ Y) := Lib.hid (by
   rw [← hY]
   have q := Blk.set (w := X) (j := 1) HBL.out (.int .i64 ((n : Int) + 1))
   exact ⟨q.below (Below.refl _ _).drew, ((HX.out.bel).setCell (p := ⟨rb, 1, none⟩) HC.out.lo _).drew, by have := HLL.out; show n + 1 ≤ _; omega⟩)
  have HGY : Hid (X.grownBy Y (some rb)) := Lib.hid (by rw [← hY]; exact grown_trans (grown_set _ _ _ _) (below_grown (Below.refl _ _).drew _))
  try rw [hY]
  clear hY z0 z1 y1 r4 v1 v1d
  have HY2 : Hid (Blk Y b2 #[.string ⟨#[]⟩, .int .i64 0, .int .i64 0] 88) := Lib.hid (HB2.out.grown HGY.out HNE.out)
  have HYL : Hid (Blk Y rb #[.slice (some ⟨b, o, none⟩) L c, .int .i64 (n + 1 : Nat), .int .i64 q1, .int .i64 q2, .int .i64 0] 96) := Lib.hid HY.out.blk
  have y0 := HY2.out.cell (j := 0) rfl
  have y1 := HY2.out.cell (j := 1) rfl
  have y2 := HY2.out.cell (j := 2) rfl
  have v0 := HY2.out.frz 0
  have v1 := HY2.out.frz 1
  have v2 := HY2.out.frz 2
  have z0 : Y.drew.cell? ⟨rb, 0, none⟩ = some (.slice (some ⟨b, o, none⟩) L c) := HYL.out.cell (j := 0) rfl
  have z1 : Y.drew.cell? ⟨rb, 1, none⟩ = some (.int .i64 ((n : Int) + 1)) := by
   have q := HYL.out.cell (j := 1) rfl
   rw [show (((n + 1 : Nat) : Int)) = (n : Int) + 1 by omega] at q
   exact q
  have k0 : Y.drew.cell? ⟨b, o + n * 3, none⟩ = some (.string TX) := keepCell HY.out.bel.drew HT.out.1
  have k1 : Y.drew.cell? ⟨b, o + n * 3 + 1, none⟩ = some (.int .i64 ln) := keepCell HY.out.bel.drew HT.out.2.1
  have k2 : Y.drew.cell? ⟨b, o + n * 3 + 2, none⟩ = some (.int .i64 co) := keepCell HY.out.bel.drew HT.out.2.2
  have HR := Lib.hid (set3_blk HY2.out (.string TX) (.int .i64 ln) (.int .i64 co))
  have r0 := HR.out.cell (j := 0) rfl
  have r1 := HR.out.cell (j := 1) rfl
  have r2 := HR.out.cell (j := 2) rfl
  have hnn : ((n : Int) + 1 - 1) = (n : Int) := by omega
  go_region
  all_goals go_wp2_with fail
  all_goals refine bodyPost_ret (v := .agg #[.string TX, .int .i64 ln, .int .i64 co]) (by simp [results, Tryz.results53, go_sem, r0, r1, r2]) rfl ?_
  all_goals rw [HN.out]
  all_goals exact ⟨rfl, (HY.out.other (set3_grown _ _ _ _ _) HNE.out HLO.out.1).below (Below.refl _ _).drew, (grown_trans (grown_trans (below_grown HBX.out _) HGY.out) (below_grown (Below.refl _ _).drew _)).andThen (set3_grown _ _ _ _ _) (fun j hj => by cases hj; exact .inl HLO.out.2)⟩
end Go.Proofs.YtlbglinpgjlbkaaGreatDoor
namespace Go.Proofs.YtlbglinpgjlbkaaGreatDoor
open Go.RowKit Wk

def TPost {α : Type} (w0 : World) (rb : Nat) (wv : Value) (ws : List Tok) (ret : α → Value) (r : α × RSt) (w : World) (e : Ending) (w' : World) : Prop :=
 e = .returned (ret r.1) ∧ RTat w0 rb wv ws r.2 w' ∧ w.grownBy w' (some rb)
theorem next_sz {w0 : World} {rb : Nat} {wv : Value} {ws : List Tok} (hc : RCtx w0 rb wv ws) (s : RSt) : (nextT ws s).1.tx.length ≤ 4294967280 := by
 unfold nextT
 by_cases h1 : s.e ≠ 0
 ·rw [if_pos h1]; exact Nat.zero_le _
 ·rw [if_neg h1]
  by_cases h : ws.length ≤ s.n
  ·rw [if_pos h]; exact Nat.zero_le _
  ·rw [if_neg h]
   exact hc.sz _ (getD_mem (by omega))
structure TBx (w0 : World) (rb : Nat) (wv : Value) (ws : List Tok) (s : RSt) (b : Nat) (cs : Array Value) (Tb : TypeId) (w : World) : Prop where
 st : RTat w0 rb wv ws s w
 bx : Blk w b cs Tb
 ne : b ≠ rb
theorem TBx.new {w0 : World} {rb : Nat} {wv : Value} {ws : List Tok} {s : RSt} {w : World} (h : RTat w0 rb wv ws s w) (cs : Array Value) (Tb : TypeId) : TBx w0 rb wv ws s w.heap.size cs Tb (w.alloc (.cells cs Tb)) :=
 ⟨h.below ((Below.refl _ _).alloc (Nat.le_refl _) _), Blk.new _ _ _, Nat.ne_of_gt h.blk.lt⟩
theorem TBx.below {w0 : World} {rb : Nat} {wv : Value} {ws : List Tok} {s : RSt} {b : Nat} {cs : Array Value} {Tb : TypeId} {w w' : World} (h : TBx w0 rb wv ws s b cs Tb w) (hb : Below w.heap.size w w') : TBx w0 rb wv ws s b cs Tb w' := ⟨h.st.below hb, h.bx.below hb, h.ne⟩
theorem TBx.meth {w0 : World} {rb : Nat} {wv : Value} {ws : List Tok} {s s' : RSt} {b : Nat} {cs : Array Value} {Tb : TypeId} {w w' : World} (h : TBx w0 rb wv ws s b cs Tb w) (hs : RTat w0 rb wv ws s' w') (hg : w.grownBy w' (some rb)) : TBx w0 rb wv ws s' b cs Tb w' := ⟨hs, h.bx.grown hg h.ne, h.ne⟩

set_option maxRecDepth 100000 in
set_option maxHeartbeats 8000000 in
theorem nameR_any {w0 : World} {rb : Nat} {wv : Value} {ws : List Tok} (hc : RCtx w0 rb wv ws) (s : RSt) (w : World) (h : RTat w0 rb wv ws s w) :
  Calls Tryz.prog 55 #[.pointer (some ⟨rb, 0, none⟩)] w (TPost w0 rb wv ws strV (nameT ws s) w) := by
 have HC := Lib.hid hc
 have hsz := next_sz hc s
 have HNX := Lib.hid (nextR_any hc s w h)
 obtain ⟨r, hr⟩ : ∃ r, nextT ws s = r := ⟨_, rfl⟩
 have HE : Hid (nameT ws s = (r.1.tx, if r.2.e = 0 ∧ nameB r.1.tx = false then failT (tokP r.1) 3 r.2 else r.2)) := Lib.hid (by rw [← hr]; rfl)
 rw [hr] at HNX hsz
 rw [HE.out]
 clear hr HE h hc
 obtain ⟨⟨tx, ln, co⟩, ⟨n1, ⟨p1, p2⟩, e1⟩⟩ := r
 obtain ⟨TX, rfl⟩ := bs_of tx
 simp only at hsz
 rw [bs_len] at hsz
 have HSZ : Hid (TX.size < 4294967281) := Lib.hid (by omega)
 have HNX2 : Hid (Calls Tryz.prog 53 #[.pointer (some ⟨rb, 0, none⟩)] w fun e w' => e = .returned (.agg #[.string TX, .int .i64 ln, .int .i64 co]) ∧ RTat w0 rb wv ws ⟨n1, (p1, p2), e1⟩ w' ∧ w.grownBy w' (some rb)) := HNX
 clear HNX hsz
 simp only
 obtain ⟨q, hq⟩ : ∃ q, nameB (bsO TX) = q := ⟨_, rfl⟩
 have HNA : Hid (∀ W, Calls Tryz.prog 109 #[.string TX] W fun e w' => e = .returned (.bool q) ∧ w' = W) := Lib.hid (by rw [← hq]; exact fun W => name18_any TX W)
 obtain ⟨S2, hS2⟩ : ∃ S2, (if e1 = 0 ∧ nameB (bsO TX) = false then failT (tokP ⟨bsO TX, ln, co⟩) 3 ⟨n1, (p1, p2), e1⟩ else ⟨n1, (p1, p2), e1⟩ : RSt) = S2 := ⟨_, rfl⟩
 rw [hS2]
 rw [hq] at hS2
 have HS2 : Hid ((if e1 = 0 ∧ q = false then failT (ln, co) 3 ⟨n1, (p1, p2), e1⟩ else ⟨n1, (p1, p2), e1⟩ : RSt) = S2) := hS2
 clear hq hS2
 go_enter Tryz.func55, Tryz.ntmps55
 go_upto_region 2 with (first | (go_at_call 53; refine HNX2.out.mono ?_; rintro e w1 ⟨rfl, hs1, hg1⟩; obtain ⟨V, hV⟩ : ∃ V, w1 = V := ⟨_, rfl⟩; rw [hV] at hs1 hg1 ⊢; clear hV; have HV := Lib.hid hs1; have HGV := Lib.hid hg1; clear hs1 hg1) | fail)
 obtain ⟨b5, hb5⟩ : ∃ b, V.heap.size = b := ⟨_, rfl⟩
 obtain ⟨X, hX⟩ : ∃ X, V.alloc (.cells #[.string TX, .int .i64 ln, .int .i64 co] 88) = X := ⟨_, rfl⟩
 have HX : Hid (TBx w0 rb wv ws ⟨n1, (p1, p2), e1⟩ b5 #[.string TX, .int .i64 ln, .int .i64 co] 88 X) := Lib.hid (by rw [← hX, ← hb5]; exact TBx.new HV.out _ _)
 have HGX : Hid (w.grownBy X (some rb)) := Lib.hid (by rw [← hX]; exact grown_trans HGV.out (below_grown ((Below.refl _ _).alloc (Nat.le_refl _) _) _))
 try rw [hX]
 try rw [hb5]
 clear hX hb5
 have r4 : X.cell? ⟨rb, 4, none⟩ = some (.int .i64 e1) := HX.out.st.blk.cell (j := 4) rfl
 have x0 := HX.out.bx.cell (j := 0) rfl
 have x1 := HX.out.bx.cell (j := 1) rfl
 have x2 := HX.out.bx.cell (j := 2) rfl
 have HFA : Hid (∀ W, RTat w0 rb wv ws ⟨n1, (p1, p2), e1⟩ W → Calls Tryz.prog 130 #[.pointer (some ⟨rb, 0, none⟩), .agg #[.int .i64 ln, .int .i64 co], .int .i64 3] W fun e' w' => e' = .returned (.tuple #[]) ∧ RTat w0 rb wv ws (failT (ln, co) 3 ⟨n1, (p1, p2), e1⟩) w' ∧ W.grownBy w' (some rb)) := Lib.hid fun W hW => failR_any HC.out (ln, co) 3 ⟨n1, (p1, p2), e1⟩ W hW
 by_cases he : e1 = 0
 ·have g1 : (e1 == 0) = true := by simpa using he
  have HEZ := Lib.hid he
  clear he
  cases q with
  | true =>
   have HS3 : Hid ((⟨n1, (p1, p2), e1⟩ : RSt) = S2) := Lib.hid ((if_neg (by simp)).symm.trans HS2.out)
   go_wp2_with (first | (go_at_call 109; refine (HNA.out _).mono ?_; rintro e w' ⟨rfl, hw⟩; rw [hw]; clear hw) | fail)
   go_ret
   exact ⟨rfl, by rw [← HS3.out]; exact HX.out.st, HGX.out⟩
  | false =>
   have HS3 : Hid (failT (ln, co) 3 ⟨n1, (p1, p2), e1⟩ = S2) := Lib.hid ((if_pos ⟨HEZ.out, rfl⟩).symm.trans HS2.out)
   go_wp2_with (first | (go_at_call 109; refine (HNA.out _).mono ?_; rintro e w' ⟨rfl, hw⟩; rw [hw]; clear hw) | (go_at_call 130; refine (HFA.out _ HX.out.st).mono ?_; rintro e w3 ⟨rfl, hs3, hg3⟩; have x0 := (HX.out.meth hs3 hg3).bx.cell (j := 0) rfl) | fail)
   go_ret
   exact ⟨rfl, by rw [← HS3.out]; exact hs3, grown_trans HGX.out hg3⟩
 ·have g1 : (e1 == 0) = false := by simpa using he
  have HS3 : Hid ((⟨n1, (p1, p2), e1⟩ : RSt) = S2) := Lib.hid ((if_neg (fun q => he q.1)).symm.trans HS2.out)
  clear he
  go_wp2_with fail
  go_ret
  exact ⟨rfl, by rw [← HS3.out]; exact HX.out.st, HGX.out⟩

set_option maxRecDepth 100000 in
set_option maxHeartbeats 8000000 in
theorem numberR_any {w0 : World} {rb : Nat} {wv : Value} {ws : List Tok} (hc : RCtx w0 rb wv ws) (lo hi : Int) (hlo : -9223372036854775808 ≤ lo) (hhi : hi ≤ 9223372036854775807) (s : RSt) (w : World) (h : RTat w0 rb wv ws s w) :
  Calls Tryz.prog 131 #[.pointer (some ⟨rb, 0, none⟩), .int .i64 lo, .int .i64 hi] w (TPost w0 rb wv ws intV (numberT ws lo hi s) w) := by
 have HC := Lib.hid hc
 have hsz := next_sz hc s
 have HNX := Lib.hid (nextR_any hc s w h)
 obtain ⟨r, hr⟩ : ∃ r, nextT ws s = r := ⟨_, rfl⟩
 have HE : Hid (numberT ws lo hi s = ((numM r.1.tx lo hi).1, if r.2.e = 0 ∧ ((numM r.1.tx lo hi).2 == 0) = false then failT (tokP r.1) (numM r.1.tx lo hi).2 r.2 else r.2)) := Lib.hid (by rw [← hr]; rfl)
 rw [hr] at HNX hsz
 rw [HE.out]
 clear hr HE h hc
 obtain ⟨⟨tx, ln, co⟩, ⟨n1, ⟨p1, p2⟩, e1⟩⟩ := r
 obtain ⟨TX, rfl⟩ := bs_of tx
 simp only at hsz
 rw [bs_len] at hsz
 have HSZ : Hid (TX.size < 4294967281) := Lib.hid (by omega)
 have HNX2 : Hid (Calls Tryz.prog 53 #[.pointer (some ⟨rb, 0, none⟩)] w fun e w' => e = .returned (.agg #[.string TX, .int .i64 ln, .int .i64 co]) ∧ RTat w0 rb wv ws ⟨n1, (p1, p2), e1⟩ w' ∧ w.grownBy w' (some rb)) := HNX
 clear HNX hsz
 simp only
 obtain ⟨R, hR⟩ : ∃ R, numM (bsO TX) lo hi = R := ⟨_, rfl⟩
 obtain ⟨nv, er⟩ := R
 have HRD : Hid (∀ W, Calls Tryz.prog 132 #[.string TX, .int .i64 lo, .int .i64 hi] W fun e w' => e = .returned (.tuple #[.int .i64 nv, .int .i64 er]) ∧ w' = W) := Lib.hid (fun W => by
  have q := number18_any TX HSZ.out lo hi hlo hhi W
  rw [hR] at q
  exact q)
 obtain ⟨S2, hS2⟩ : ∃ S2, (if e1 = 0 ∧ ((numM (bsO TX) lo hi).2 == 0) = false then failT (tokP ⟨bsO TX, ln, co⟩) (numM (bsO TX) lo hi).2 ⟨n1, (p1, p2), e1⟩ else ⟨n1, (p1, p2), e1⟩ : RSt) = S2 := ⟨_, rfl⟩
 rw [hS2]
 rw [hR] at hS2 ⊢
 have HS2 : Hid ((if e1 = 0 ∧ (er == 0) = false then failT (ln, co) er ⟨n1, (p1, p2), e1⟩ else ⟨n1, (p1, p2), e1⟩ : RSt) = S2) := hS2
 clear hR hS2
 go_enter Tryz.func131, Tryz.ntmps131
 go_upto_region 2 with (first | (go_at_call 53; refine HNX2.out.mono ?_; rintro e w1 ⟨rfl, hs1, hg1⟩; obtain ⟨V, hV⟩ : ∃ V, w1 = V := ⟨_, rfl⟩; rw [hV] at hs1 hg1 ⊢; clear hV; have HV := Lib.hid hs1; have HGV := Lib.hid hg1; clear hs1 hg1) | fail)
 obtain ⟨b5, hb5⟩ : ∃ b, V.heap.size = b := ⟨_, rfl⟩
 obtain ⟨X, hX⟩ : ∃ X, V.alloc (.cells #[.string TX, .int .i64 ln, .int .i64 co] 88) = X := ⟨_, rfl⟩
 have HX : Hid (TBx w0 rb wv ws ⟨n1, (p1, p2), e1⟩ b5 #[.string TX, .int .i64 ln, .int .i64 co] 88 X) := Lib.hid (by rw [← hX, ← hb5]; exact TBx.new HV.out _ _)
 have HGX : Hid (w.grownBy X (some rb)) := Lib.hid (by rw [← hX]; exact grown_trans HGV.out (below_grown ((Below.refl _ _).alloc (Nat.le_refl _) _) _))
 try rw [hX]
 try rw [hb5]
 clear hX hb5
 have r4 : X.cell? ⟨rb, 4, none⟩ = some (.int .i64 e1) := HX.out.st.blk.cell (j := 4) rfl
 have x0 := HX.out.bx.cell (j := 0) rfl
 have x1 := HX.out.bx.cell (j := 1) rfl
 have x2 := HX.out.bx.cell (j := 2) rfl
 have HFA : Hid (∀ W, RTat w0 rb wv ws ⟨n1, (p1, p2), e1⟩ W → Calls Tryz.prog 130 #[.pointer (some ⟨rb, 0, none⟩), .agg #[.int .i64 ln, .int .i64 co], .int .i64 er] W fun e' w' => e' = .returned (.tuple #[]) ∧ RTat w0 rb wv ws (failT (ln, co) er ⟨n1, (p1, p2), e1⟩) w' ∧ W.grownBy w' (some rb)) := Lib.hid fun W hW => failR_any HC.out (ln, co) er ⟨n1, (p1, p2), e1⟩ W hW
 by_cases he : e1 = 0
 ·have g1 : (e1 == 0) = true := by simpa using he
  have HEZ := Lib.hid he
  clear he
  by_cases hr : er = 0
  ·have g2 : (er != 0) = false := by simpa using hr
   have HS3 : Hid ((⟨n1, (p1, p2), e1⟩ : RSt) = S2) := Lib.hid ((if_neg (fun q => by have q2 := q.2; rw [hr] at q2; exact absurd q2 (by decide))).symm.trans HS2.out)
   clear hr
   go_wp2_with (first | (go_at_call 132; refine (HRD.out _).mono ?_; rintro e w' ⟨rfl, hw⟩; rw [hw]; clear hw) | fail)
   go_ret
   exact ⟨rfl, by rw [← HS3.out]; exact HX.out.st, HGX.out⟩
  ·have g2 : (er != 0) = true := by simpa using hr
   have HS3 : Hid (failT (ln, co) er ⟨n1, (p1, p2), e1⟩ = S2) := Lib.hid ((if_pos ⟨HEZ.out, by simpa using hr⟩).symm.trans HS2.out)
   clear hr
   go_wp2_with (first | (go_at_call 132; refine (HRD.out _).mono ?_; rintro e w' ⟨rfl, hw⟩; rw [hw]; clear hw) | (go_at_call 130; refine (HFA.out _ HX.out.st).mono ?_; rintro e w3 ⟨rfl, hs3, hg3⟩) | fail)
   go_ret
   exact ⟨rfl, by rw [← HS3.out]; exact hs3, grown_trans HGX.out hg3⟩
 ·have g1 : (e1 == 0) = false := by simpa using he
  have HS3 : Hid ((⟨n1, (p1, p2), e1⟩ : RSt) = S2) := Lib.hid ((if_neg (fun q => he q.1)).symm.trans HS2.out)
  clear he
  go_wp2_with (first | (go_at_call 132; refine (HRD.out _).mono ?_; rintro e w' ⟨rfl, hw⟩; rw [hw]; clear hw) | fail)
  go_ret
  exact ⟨rfl, by rw [← HS3.out]; exact HX.out.st, HGX.out⟩

set_option maxRecDepth 100000 in
set_option maxHeartbeats 8000000 in
theorem clockR_any {w0 : World} {rb : Nat} {wv : Value} {ws : List Tok} (hc : RCtx w0 rb wv ws) (s : RSt) (w : World) (h : RTat w0 rb wv ws s w) :
  Calls Tryz.prog 135 #[.pointer (some ⟨rb, 0, none⟩)] w (TPost w0 rb wv ws (fun x : Int × Int => .tuple #[.int .i64 x.1, .int .i64 x.2]) (clocksT ws s) w) := by
 have HC := Lib.hid hc
 have hsz := next_sz hc s
 have HNX := Lib.hid (nextR_any hc s w h)
 obtain ⟨r, hr⟩ : ∃ r, nextT ws s = r := ⟨_, rfl⟩
 have HE : Hid (clocksT ws s = (((clockM r.1.tx).1, (clockM r.1.tx).2.1), if r.2.e = 0 ∧ ((clockM r.1.tx).2.2 == 0) = false then failT (tokP r.1) (clockM r.1.tx).2.2 r.2 else r.2)) := Lib.hid (by rw [← hr]; rfl)
 rw [hr] at HNX hsz
 rw [HE.out]
 clear hr HE h hc
 obtain ⟨⟨tx, ln, co⟩, ⟨n1, ⟨p1, p2⟩, e1⟩⟩ := r
 obtain ⟨TX, rfl⟩ := bs_of tx
 simp only at hsz
 rw [bs_len] at hsz
 have HSZ : Hid (TX.size < 4294967281) := Lib.hid (by omega)
 have HNX2 : Hid (Calls Tryz.prog 53 #[.pointer (some ⟨rb, 0, none⟩)] w fun e w' => e = .returned (.agg #[.string TX, .int .i64 ln, .int .i64 co]) ∧ RTat w0 rb wv ws ⟨n1, (p1, p2), e1⟩ w' ∧ w.grownBy w' (some rb)) := HNX
 clear HNX hsz
 simp only
 obtain ⟨R, hR⟩ : ∃ R, clockM (bsO TX) = R := ⟨_, rfl⟩
 obtain ⟨nv, nc, er⟩ := R
 have HRD : Hid (∀ W, Calls Tryz.prog 189 #[.string TX] W fun e w' => e = .returned (.tuple #[.int .i64 nv, .int .i64 nc, .int .i64 er]) ∧ w' = W) := Lib.hid (fun W => by
  have q := clock18_any TX HSZ.out W
  rw [hR] at q
  exact q)
 obtain ⟨S2, hS2⟩ : ∃ S2, (if e1 = 0 ∧ ((clockM (bsO TX)).2.2 == 0) = false then failT (tokP ⟨bsO TX, ln, co⟩) (clockM (bsO TX)).2.2 ⟨n1, (p1, p2), e1⟩ else ⟨n1, (p1, p2), e1⟩ : RSt) = S2 := ⟨_, rfl⟩
 rw [hS2]
 rw [hR] at hS2 ⊢
 have HS2 : Hid ((if e1 = 0 ∧ (er == 0) = false then failT (ln, co) er ⟨n1, (p1, p2), e1⟩ else ⟨n1, (p1, p2), e1⟩ : RSt) = S2) := hS2
 clear hR hS2
 go_enter Tryz.func135, Tryz.ntmps135
 go_upto_region 2 with (first | (go_at_call 53; refine HNX2.out.mono ?_; rintro e w1 ⟨rfl, hs1, hg1⟩; obtain ⟨V, hV⟩ : ∃ V, w1 = V := ⟨_, rfl⟩; rw [hV] at hs1 hg1 ⊢; clear hV; have HV := Lib.hid hs1; have HGV := Lib.hid hg1; clear hs1 hg1) | fail)
 obtain ⟨b5, hb5⟩ : ∃ b, V.heap.size = b := ⟨_, rfl⟩
 obtain ⟨X, hX⟩ : ∃ X, V.alloc (.cells #[.string TX, .int .i64 ln, .int .i64 co] 88) = X := ⟨_, rfl⟩
 have HX : Hid (TBx w0 rb wv ws ⟨n1, (p1, p2), e1⟩ b5 #[.string TX, .int .i64 ln, .int .i64 co] 88 X) := Lib.hid (by rw [← hX, ← hb5]; exact TBx.new HV.out _ _)
 have HGX : Hid (w.grownBy X (some rb)) := Lib.hid (by rw [← hX]; exact grown_trans HGV.out (below_grown ((Below.refl _ _).alloc (Nat.le_refl _) _) _))
 try rw [hX]
 try rw [hb5]
 clear hX hb5
 have r4 : X.cell? ⟨rb, 4, none⟩ = some (.int .i64 e1) := HX.out.st.blk.cell (j := 4) rfl
 have x0 := HX.out.bx.cell (j := 0) rfl
 have x1 := HX.out.bx.cell (j := 1) rfl
 have x2 := HX.out.bx.cell (j := 2) rfl
 have HFA : Hid (∀ W, RTat w0 rb wv ws ⟨n1, (p1, p2), e1⟩ W → Calls Tryz.prog 130 #[.pointer (some ⟨rb, 0, none⟩), .agg #[.int .i64 ln, .int .i64 co], .int .i64 er] W fun e' w' => e' = .returned (.tuple #[]) ∧ RTat w0 rb wv ws (failT (ln, co) er ⟨n1, (p1, p2), e1⟩) w' ∧ W.grownBy w' (some rb)) := Lib.hid fun W hW => failR_any HC.out (ln, co) er ⟨n1, (p1, p2), e1⟩ W hW
 by_cases he : e1 = 0
 ·have g1 : (e1 == 0) = true := by simpa using he
  have HEZ := Lib.hid he
  clear he
  by_cases hr : er = 0
  ·have g2 : (er != 0) = false := by simpa using hr
   have HS3 : Hid ((⟨n1, (p1, p2), e1⟩ : RSt) = S2) := Lib.hid ((if_neg (fun q => by have q2 := q.2; rw [hr] at q2; exact absurd q2 (by decide))).symm.trans HS2.out)
   clear hr
   go_wp2_with (first | (go_at_call 189; refine (HRD.out _).mono ?_; rintro e w' ⟨rfl, hw⟩; rw [hw]; clear hw) | fail)
   go_ret2
   exact ⟨rfl, by rw [← HS3.out]; exact HX.out.st, HGX.out⟩
  ·have g2 : (er != 0) = true := by simpa using hr
   have HS3 : Hid (failT (ln, co) er ⟨n1, (p1, p2), e1⟩ = S2) := Lib.hid ((if_pos ⟨HEZ.out, by simpa using hr⟩).symm.trans HS2.out)
   clear hr
   go_wp2_with (first | (go_at_call 189; refine (HRD.out _).mono ?_; rintro e w' ⟨rfl, hw⟩; rw [hw]; clear hw) | (go_at_call 130; refine (HFA.out _ HX.out.st).mono ?_; rintro e w3 ⟨rfl, hs3, hg3⟩) | fail)
   go_ret2
   exact ⟨rfl, by rw [← HS3.out]; exact hs3, grown_trans HGX.out hg3⟩
 ·have g1 : (e1 == 0) = false := by simpa using he
  have HS3 : Hid ((⟨n1, (p1, p2), e1⟩ : RSt) = S2) := Lib.hid ((if_neg (fun q => he q.1)).symm.trans HS2.out)
  clear he
  go_wp2_with (first | (go_at_call 189; refine (HRD.out _).mono ?_; rintro e w' ⟨rfl, hw⟩; rw [hw]; clear hw) | fail)
  go_ret2
  exact ⟨rfl, by rw [← HS3.out]; exact HX.out.st, HGX.out⟩

set_option maxRecDepth 100000 in
set_option maxHeartbeats 8000000 in
theorem monthR_any {w0 : World} {rb : Nat} {wv : Value} {ws : List Tok} (hc : RCtx w0 rb wv ws) (s : RSt) (w : World) (h : RTat w0 rb wv ws s w) :
  Calls Tryz.prog 133 #[.pointer (some ⟨rb, 0, none⟩)] w (TPost w0 rb wv ws intV (monthT ws s) w) := by
 have HC := Lib.hid hc
 have hsz := next_sz hc s
 have HNX := Lib.hid (nextR_any hc s w h)
 obtain ⟨r, hr⟩ : ∃ r, nextT ws s = r := ⟨_, rfl⟩
 have HE : Hid (monthT ws s = ((findM' monthL r.1.tx).1, if r.2.e = 0 ∧ ((findM' monthL r.1.tx).2 == 0) = false then failT (tokP r.1) 3 r.2 else r.2)) := Lib.hid (by rw [← hr]; rfl)
 rw [hr] at HNX hsz
 rw [HE.out]
 clear hr HE h hc
 obtain ⟨⟨tx, ln, co⟩, ⟨n1, ⟨p1, p2⟩, e1⟩⟩ := r
 obtain ⟨TX, rfl⟩ := bs_of tx
 simp only at hsz
 rw [bs_len] at hsz
 have HSZ : Hid (TX.size < 4294967281) := Lib.hid (by omega)
 have HNX2 : Hid (Calls Tryz.prog 53 #[.pointer (some ⟨rb, 0, none⟩)] w fun e w' => e = .returned (.agg #[.string TX, .int .i64 ln, .int .i64 co]) ∧ RTat w0 rb wv ws ⟨n1, (p1, p2), e1⟩ w' ∧ w.grownBy w' (some rb)) := HNX
 clear HNX hsz
 simp only
 obtain ⟨R, hR⟩ : ∃ R, findM' monthL (bsO TX) = R := ⟨_, rfl⟩
 have HRD : Hid (∀ W v, RdSt W v monthL → Calls Tryz.prog 92 #[v, .string TX] W fun e w' => e = .returned (.tuple #[.int .i64 R.1, .int .i64 R.2]) ∧ w' = W) := Lib.hid (fun W v hv => by
  have q := find18_any v monthL TX W hv (by decide)
  rw [hR] at q
  exact q)
 obtain ⟨S2, hS2⟩ : ∃ S2, (if e1 = 0 ∧ ((findM' monthL (bsO TX)).2 == 0) = false then failT (tokP ⟨bsO TX, ln, co⟩) 3 ⟨n1, (p1, p2), e1⟩ else ⟨n1, (p1, p2), e1⟩ : RSt) = S2 := ⟨_, rfl⟩
 rw [hS2]
 rw [hR] at hS2 ⊢
 have HS2 : Hid ((if e1 = 0 ∧ (R.2 == 0) = false then failT (ln, co) 3 ⟨n1, (p1, p2), e1⟩ else ⟨n1, (p1, p2), e1⟩ : RSt) = S2) := hS2
 clear hR hS2
 obtain ⟨nv, er⟩ := R
 simp only at HS2
 go_enter Tryz.func133, Tryz.ntmps133
 go_upto_region 2 with (first | (go_at_call 53; refine HNX2.out.mono ?_; rintro e w1 ⟨rfl, hs1, hg1⟩; obtain ⟨V, hV⟩ : ∃ V, w1 = V := ⟨_, rfl⟩; rw [hV] at hs1 hg1 ⊢; clear hV; have HV := Lib.hid hs1; have HGV := Lib.hid hg1; clear hs1 hg1) | fail)
 obtain ⟨b5, hb5⟩ : ∃ b, V.heap.size = b := ⟨_, rfl⟩
 obtain ⟨X, hX⟩ : ∃ X, V.alloc (.cells #[.string TX, .int .i64 ln, .int .i64 co] 88) = X := ⟨_, rfl⟩
 have HX : Hid (TBx w0 rb wv ws ⟨n1, (p1, p2), e1⟩ b5 #[.string TX, .int .i64 ln, .int .i64 co] 88 X) := Lib.hid (by rw [← hX, ← hb5]; exact TBx.new HV.out _ _)
 have HGX : Hid (w.grownBy X (some rb)) := Lib.hid (by rw [← hX]; exact grown_trans HGV.out (below_grown ((Below.refl _ _).alloc (Nat.le_refl _) _) _))
 try rw [hX]
 try rw [hb5]
 clear hX hb5
 have HXD := Lib.hid (HX.out.below ((Below.refl _ X).drew))
 have x0 : X.drew.cell? ⟨b5, 0, none⟩ = some (.string TX) := HXD.out.bx.cell (j := 0) rfl
 go_cut [4, 5] from 8 to 15 (fun u4 u5 wx => u4 = .int .i64 nv ∧ u5 = .int .i64 er ∧ Hid (Below X.heap.size X wx))
 case first =>
  go_region_held3 (fun w' => w'.cell? ⟨b5, 0, none⟩ = some (.string TX))
   (first | exact x0 | exact HXB.out)
   ((first | (go_at_call 166; refine (months18_any _).mono ?_; rintro e w' ⟨⟨v, rfl, hv⟩, hb⟩; have HVR := Lib.hid hv; have HXB := Lib.hid (keepCell hb x0); obtain ⟨av, cv, rfl⟩ := hv.form; clear hv) | (go_at_call 92; refine (HRD.out _ _ HVR.out).mono ?_; rintro e w'' ⟨rfl, hw⟩; rw [hw]; clear hw)))
  all_goals go_wp2_with fail
  all_goals go_meet
  all_goals exact ⟨rfl, rfl, keepBelow ((Below.refl _ _).drew) hb⟩
 case rest =>
 obtain ⟨rfl, rfl, HBC⟩ := hcut
 generalize wc = W1 at *
 have HY := Lib.hid (HX.out.below HBC.out)
 have HGY := Lib.hid (grown_trans HGX.out (below_grown HBC.out rb))
 have r4y : W1.cell? ⟨rb, 4, none⟩ = some (.int .i64 e1) := HY.out.st.blk.cell (j := 4) rfl
 have x0y := HY.out.bx.cell (j := 0) rfl
 have x1y := HY.out.bx.cell (j := 1) rfl
 have x2y := HY.out.bx.cell (j := 2) rfl
 have HFA : Hid (∀ W, RTat w0 rb wv ws ⟨n1, (p1, p2), e1⟩ W → Calls Tryz.prog 130 #[.pointer (some ⟨rb, 0, none⟩), .agg #[.int .i64 ln, .int .i64 co], .int .i64 3] W fun e' w' => e' = .returned (.tuple #[]) ∧ RTat w0 rb wv ws (failT (ln, co) 3 ⟨n1, (p1, p2), e1⟩) w' ∧ W.grownBy w' (some rb)) := Lib.hid fun W hW => failR_any HC.out (ln, co) 3 ⟨n1, (p1, p2), e1⟩ W hW
 by_cases he : e1 = 0
 ·have g1 : (e1 == 0) = true := by simpa using he
  have HEZ := Lib.hid he
  clear he
  by_cases hr : er = 0
  ·have g2 : (er != 0) = false := by simpa using hr
   have HS3 : Hid ((⟨n1, (p1, p2), e1⟩ : RSt) = S2) := Lib.hid ((if_neg (fun q => by have q2 := q.2; rw [hr] at q2; exact absurd q2 (by decide))).symm.trans HS2.out)
   clear hr
   go_wp2_with fail
   go_ret
   exact ⟨rfl, by rw [← HS3.out]; exact HY.out.st, HGY.out⟩
  ·have g2 : (er != 0) = true := by simpa using hr
   have HS3 : Hid (failT (ln, co) 3 ⟨n1, (p1, p2), e1⟩ = S2) := Lib.hid ((if_pos ⟨HEZ.out, by simpa using hr⟩).symm.trans HS2.out)
   clear hr
   go_wp2_with (first | (go_at_call 130; refine (HFA.out _ HY.out.st).mono ?_; rintro e w3 ⟨rfl, hs3, hg3⟩) | fail)
   go_ret
   exact ⟨rfl, by rw [← HS3.out]; exact hs3, grown_trans HGY.out hg3⟩
 ·have g1 : (e1 == 0) = false := by simpa using he
  have HS3 : Hid ((⟨n1, (p1, p2), e1⟩ : RSt) = S2) := Lib.hid ((if_neg (fun q => he q.1)).symm.trans HS2.out)
  clear he
  go_wp2_with fail
  go_ret
  exact ⟨rfl, by rw [← HS3.out]; exact HY.out.st, HGY.out⟩
end Go.Proofs.YtlbglinpgjlbkaaGreatDoor
