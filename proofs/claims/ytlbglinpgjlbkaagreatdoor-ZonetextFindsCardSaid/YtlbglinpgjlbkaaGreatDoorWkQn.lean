import Derived.Test.YtlbglinpgjlbkaaGreatDoorWkC7
import Derived.Test.YtlbglinpgjlbkaaGreatDoorWkQi
import Derived.Test.YtlbglinpgjlbkaaGreatDoorWkQb
import Derived.Maps.RangeWalk
import Derived.Test.YtlbglinpgjlbkaaGreatDoorWkQk
import Derived.Test.YtlbglinpgjlbkaaGreatDoorWkQr
/- Zone texts: the program's reader in memory: fail, word, end. Printed by gen_r1.py. -/
namespace Go.Proofs.YtlbglinpgjlbkaaGreatDoor
open Go.RowKit Wk Go.Maps

abbrev RdTk (w : World) (v : Value) (l : List Tok) : Prop := RdG 3 flT tok0 w v l
def rdC (s : RSt) (wv : Value) : Array Value := #[.int .i64 s.p.1, .int .i64 s.p.2, .int .i64 s.e, wv, .int .i64 s.n]
structure RCtx (w0 : World) (rb : Nat) (wv : Value) (ws : List Tok) : Prop where
 rd : RdTk w0 wv ws
 lo : w0.heap.size ≤ rb
 ne : 1 ≤ ws.length
 sz : ∀ t ∈ ws, t.tx.length ≤ 4294967280
 ln : ws.length ≤ 1152921504606846976
structure RSat (w0 : World) (rb : Nat) (wv : Value) (ws : List Tok) (s : RSt) (w : World) : Prop where
 blk : Blk w rb (rdC s wv) 82
 bel : Below w0.heap.size w0 w
 hi : s.n ≤ ws.length
theorem grown_below {a w w' : World} {rb : Nat} (h : Below a.heap.size a w) (hr : a.heap.size ≤ rb) (hg : w.grownBy w' (some rb)) : Below a.heap.size a w' := h.grown hg h.size (fun j hj => by cases hj; exact hr)
theorem below_grown {w w' : World} (h : Below w.heap.size w w') (row : Option Nat) : w.grownBy w' row := ⟨h.os, h.tape, h.output, h.size, fun k hk _ => h.block k hk⟩
theorem grown_trans {a b c : World} {row : Option Nat} (h : a.grownBy b row) (k : b.grownBy c row) : a.grownBy c row := h.andThen k (fun _ hj => .inr hj)
theorem grown_refl (w : World) (row : Option Nat) : w.grownBy w row := ⟨rfl, rfl, rfl, Nat.le_refl _, fun _ _ _ => rfl⟩
theorem grown_set (w : World) (rb j : Nat) (u : Value) : w.grownBy (w.setCell ⟨rb, j, none⟩ u) (some rb) := by
 refine ⟨?_, ?_, ?_, ?_, fun k _ hk => Below.heap_setCell _ _ _ _ (fun e => hk (by rw [e]))⟩
 ·exact ((Below.refl 0 w).setCell (p := ⟨rb, j, none⟩) (Nat.zero_le _) u).os
 ·exact ((Below.refl 0 w).setCell (p := ⟨rb, j, none⟩) (Nat.zero_le _) u).tape
 ·exact ((Below.refl 0 w).setCell (p := ⟨rb, j, none⟩) (Nat.zero_le _) u).output
 ·exact ((Below.refl 0 w).setCell (p := ⟨rb, j, none⟩) (Nat.zero_le _) u).size
theorem RSat.below {w0 : World} {rb : Nat} {wv : Value} {ws : List Tok} {s : RSt} {w w' : World} (h : RSat w0 rb wv ws s w) (hb : Below w.heap.size w w') : RSat w0 rb wv ws s w' := ⟨h.blk.below hb, keepBelow h.bel hb, h.hi⟩
theorem RSat.rd {w0 : World} {rb : Nat} {wv : Value} {ws : List Tok} {s : RSt} {w : World} (h : RSat w0 rb wv ws s w) (hc : RCtx w0 rb wv ws) : RdTk w wv ws := hc.rd.below h.bel
theorem RdTk.at {w : World} {wv : Value} {ws : List Tok} (h : RdTk w wv ws) {k : Nat} (hk : k < ws.length) : ∃ b o c, wv = .slice (some ⟨b, o, none⟩) ws.length c ∧ w.cell? ⟨b, o + k * 3, none⟩ = some (.string ⟨(ws.getD k tok0).tx.toArray⟩) ∧ w.cell? ⟨b, o + k * 3 + 1, none⟩ = some (.int .i64 (ws.getD k tok0).ln) ∧ w.cell? ⟨b, o + k * 3 + 2, none⟩ = some (.int .i64 (ws.getD k tok0).co) := by
 obtain ⟨a, c, rfl, _, hc⟩ := h
 obtain ⟨b, o, rfl, hcc⟩ := hc k hk
 exact ⟨b, o, c, rfl, hcc 0 _ (by decide) rfl, hcc 1 _ (by decide) rfl, hcc 2 _ (by decide) rfl⟩

set_option maxRecDepth 100000 in
set_option maxHeartbeats 8000000 in
theorem fail_any {w0 : World} {rb : Nat} {wv : Value} {ws : List Tok} (hc : RCtx w0 rb wv ws) (s : RSt) (x : Int) (w : World) (h : RSat w0 rb wv ws s w) (h1 : 1 ≤ s.n) :
  Calls Tryz.prog 119 #[.pointer (some ⟨rb, 0, none⟩), .int .i64 x] w fun e w' => e = .returned (.tuple #[]) ∧ RSat w0 rb wv ws (failS ws x s) w' ∧ w.grownBy w' (some rb) := by
 have HC := Lib.hid hc
 have HH := Lib.hid h
 obtain ⟨b, o, c, hwv, e0, e1, e2⟩ := (h.rd hc).at (k := s.n - 1) (by have := h.hi; omega)
 have hlen : ws.length ≤ 1152921504606846976 := hc.ln
 have hhi := h.hi
 have HB := Lib.hid h.blk
 obtain ⟨f, hf⟩ : ∃ f, failS ws x s = f := ⟨_, rfl⟩
 rw [hf]
 have HF := Lib.hid hf
 clear hf h hc
 obtain ⟨n, p, e⟩ := s
 obtain ⟨m, rfl⟩ : ∃ m, n = m + 1 := ⟨n - 1, by simp only at h1; omega⟩
 simp only [Nat.add_sub_cancel] at e0 e1 e2
 simp only at hhi
 obtain ⟨t, ht⟩ : ∃ t, ws.getD m tok0 = t := ⟨_, rfl⟩
 rw [ht] at e0 e1 e2
 have HT : Hid (plT ws m = (t.ln, t.co)) := Lib.hid (by rw [← ht]; rfl)
 have HB2 : Hid (Blk w rb #[.int .i64 p.1, .int .i64 p.2, .int .i64 e, wv, .int .i64 ((m + 1 : Nat) : Int)] 82) := HB
 subst hwv
 have r0 := HB2.out.cell (j := 0) rfl
 have r1 := HB2.out.cell (j := 1) rfl
 have r2 := HB2.out.cell (j := 2) rfl
 have r3 := HB2.out.cell (j := 3) rfl
 have r4 := HB2.out.cell (j := 4) rfl
 have q0 := HB2.out.frz 0
 have q1 := HB2.out.frz 1
 have q2 := HB2.out.frz 2
 have q3 := HB2.out.frz 3
 have q4 := HB2.out.frz 4
 have hi : (((m + 1 : Nat) : Int) - 1) = (m : Int) := by omega
 have hm1 : (m : Int) ≤ 1152921504606846975 := by omega
 have hm2 : (m : Int) < (ws.length : Int) := by omega
 clear ht h1
 go_enter Tryz.func119, Tryz.ntmps119
 by_cases he : e = 0
 ·have g1 : (e == 0) = true := by simpa using he
  by_cases hx : x = 0
  ·have g2 : (x != 0) = false := by simpa using hx
   have HN : Hid (f = ⟨m + 1, p, e⟩) := Lib.hid (by rw [← HF.out, hx]; exact failS_zero ws _)
   clear he hx
   go_wp2_with fail
   go_end0
   exact ⟨rfl, by rw [HN.out]; exact HH.out, grown_refl _ _⟩
  ·have g2 : (x != 0) = true := by simpa using hx
   have HN : Hid (f = ⟨m + 1, (t.ln, t.co), x⟩) := Lib.hid (by
    rw [← HF.out]
    unfold failS
    rw [if_pos ⟨he, hx⟩]
    show (⟨m + 1, plT ws (m + 1 - 1), x⟩ : RSt) = _
    rw [Nat.add_sub_cancel, HT.out])
   clear he hx
   have HQ : Hid (RSat w0 rb (.slice (some ⟨b, o, none⟩) ws.length c) ws f (((w.drew.setCell ⟨rb, 0, none⟩ (.int .i64 t.ln)).setCell ⟨rb, 1, none⟩ (.int .i64 t.co)).setCell ⟨rb, 2, none⟩ (.int .i64 x)) ∧ w.grownBy (((w.drew.setCell ⟨rb, 0, none⟩ (.int .i64 t.ln)).setCell ⟨rb, 1, none⟩ (.int .i64 t.co)).setCell ⟨rb, 2, none⟩ (.int .i64 x)) (some rb)) := Lib.hid (by
    rw [HN.out]
    have hlo := HC.out.lo
    refine ⟨⟨(((Blk.set (w := w.drew) (j := 0) HB2.out _).set (j := 1) _).set (j := 2) _), (((HH.out.bel.drew).setCell (p := ⟨rb, 0, none⟩) hlo _).setCell (p := ⟨rb, 1, none⟩) hlo _).setCell (p := ⟨rb, 2, none⟩) hlo _, HH.out.hi⟩, ?_⟩
    exact grown_trans (grown_trans (grown_trans (below_grown (Below.refl _ w).drew _) (grown_set _ _ _ _)) (grown_set _ _ _ _)) (grown_set _ _ _ _))
   go_upto_region 1 with fail
   go_region
   all_goals go_wp2_with fail
   all_goals go_end0
   all_goals exact ⟨rfl, HQ.out⟩
 ·have g1 : (e == 0) = false := by simpa using he
  have HN : Hid (f = ⟨m + 1, p, e⟩) := Lib.hid (by rw [← HF.out]; exact failS_er ws x he)
  clear he
  go_wp2_with fail
  go_end0
  exact ⟨rfl, by rw [HN.out]; exact HH.out, grown_refl _ _⟩

theorem word_n (ws : List Tok) (s : RSt) (h : 1 ≤ ws.length) (_hn : s.n ≤ ws.length) : 1 ≤ (wordS ws s).2.n := by
 unfold wordS
 by_cases hg : ws.length ≤ s.n
 ·rw [if_pos hg]
  show 1 ≤ (failS ws 4 ⟨ws.length, s.p, s.e⟩).n
  unfold failS
  split
  ·exact h
  ·exact h
 ·rw [if_neg hg]
  show 1 ≤ s.n + 1
  omega
set_option maxRecDepth 100000 in
set_option maxHeartbeats 8000000 in
theorem word_any {w0 : World} {rb : Nat} {wv : Value} {ws : List Tok} (hc : RCtx w0 rb wv ws) (s : RSt) (w : World) (h : RSat w0 rb wv ws s w) :
  Calls Tryz.prog 47 #[.pointer (some ⟨rb, 0, none⟩)] w fun e w' => e = .returned (.string ⟨(wordS ws s).1.toArray⟩) ∧ RSat w0 rb wv ws (wordS ws s).2 w' ∧ w.grownBy w' (some rb) := by
 have HC := Lib.hid hc
 have HH := Lib.hid h
 have hlen : ws.length ≤ 1152921504606846976 := hc.ln
 have hne := hc.ne
 have hhi := h.hi
 obtain ⟨n, p, e⟩ := s
 simp only at hhi
 have HB2 : Hid (Blk w rb #[.int .i64 p.1, .int .i64 p.2, .int .i64 e, wv, .int .i64 n] 82) := Lib.hid h.blk
 have hlo : w0.heap.size ≤ rb := hc.lo
 by_cases hg : ws.length ≤ n
 ·obtain ⟨b, o, c, hwv, -, -, -⟩ := (h.rd hc).at (k := 0) (by omega)
  have HE : Hid (wordS ws ⟨n, p, e⟩ = ([], failS ws 4 ⟨ws.length, p, e⟩)) := Lib.hid (by unfold wordS; rw [if_pos hg])
  rw [HE.out]
  have HLO := Lib.hid hlo
  clear h hc hlo
  subst hwv
  obtain ⟨X, hX⟩ : ∃ X, w.drew.setCell ⟨rb, 4, none⟩ (.int .i64 ws.length) = X := ⟨_, rfl⟩
  have HGX : Hid (w.grownBy X (some rb)) := Lib.hid (by rw [← hX]; exact grown_trans (below_grown (Below.refl _ w).drew _) (grown_set _ _ _ _))
  have HX : Hid (RSat w0 rb (.slice (some ⟨b, o, none⟩) ws.length c) ws ⟨ws.length, p, e⟩ X) := Lib.hid (by
   rw [← hX]
   exact ⟨Blk.set (w := w.drew) (j := 4) HB2.out _, (HH.out.bel.drew).setCell (p := ⟨rb, 4, none⟩) HLO.out _, Nat.le_refl _⟩)
  have HFA : Hid (Calls Tryz.prog 119 #[.pointer (some ⟨rb, 0, none⟩), .int .i64 4] X fun e' w' => e' = .returned (.tuple #[]) ∧ RSat w0 rb (.slice (some ⟨b, o, none⟩) ws.length c) ws (failS ws 4 ⟨ws.length, p, e⟩) w' ∧ X.grownBy w' (some rb)) := Lib.hid (fail_any HC.out ⟨ws.length, p, e⟩ 4 X HX.out hne)
  have r0 := HB2.out.cell (j := 0) rfl
  have r1 := HB2.out.cell (j := 1) rfl
  have r2 := HB2.out.cell (j := 2) rfl
  have r3 := HB2.out.cell (j := 3) rfl
  have r4 := HB2.out.cell (j := 4) rfl
  have q0 := HB2.out.frz 0
  have q1 := HB2.out.frz 1
  have q2 := HB2.out.frz 2
  have q3 := HB2.out.frz 3
  have q4 := HB2.out.frz 4
  have z3 : w.drew.cell? ⟨rb, 3, none⟩ = some (.slice (some ⟨b, o, none⟩) ws.length c) := r3
  have z4 : w.drew.cell? ⟨rb, 4, none⟩ = some (.int .i64 n) := r4
  have z5 : w.drew.frozen? ⟨rb, 4, none⟩ = false := q4
  have hgi : (ws.length : Int) ≤ (n : Int) := by omega
  go_enter Tryz.func47, Tryz.ntmps47
  go_upto_region 1 with fail
  go_cut [12] from 3 to 12 (fun u wx => u = .bool true ∧ Hid (wx = w.drew))
  case first =>
   go_region
   all_goals go_wp2_with fail
   all_goals go_meet
   all_goals exact ⟨rfl, rfl⟩
  case rest =>
  obtain ⟨rfl, HWX⟩ := hcut
  rw [HWX.out]
  clear HWX
  go_upto_region 3 with fail
  try rw [hX]
  clear hX r0 r1 r2 r3 r4 q0 q1 q2 q3 q4 z3 z4 z5
  go_wp2_with (first | (go_at_call 119; refine HFA.out.mono ?_; rintro e' w' ⟨rfl, hs2, hg2⟩) | fail)
  go_ret
  exact ⟨rfl, hs2, grown_trans HGX.out hg2⟩
 ·obtain ⟨b, o, c, hwv, e0, -, -⟩ := (h.rd hc).at (k := n) (by omega)
  have HE : Hid (wordS ws ⟨n, p, e⟩ = ((ws.getD n tok0).tx, ⟨n + 1, p, e⟩)) := Lib.hid (by unfold wordS; rw [if_neg hg])
  rw [HE.out]
  have HLO := Lib.hid hlo
  obtain ⟨t, ht⟩ : ∃ t, (ws.getD n tok0).tx = t := ⟨_, rfl⟩
  rw [ht] at e0 ⊢
  clear h hc hlo ht HE
  obtain ⟨N, rfl⟩ := bs_of t
  subst hwv
  obtain ⟨X, hX⟩ : ∃ X, w.drew.setCell ⟨rb, 4, none⟩ (.int .i64 ((n : Int) + 1)) = X := ⟨_, rfl⟩
  have HGX : Hid (w.grownBy X (some rb)) := Lib.hid (by rw [← hX]; exact grown_trans (below_grown (Below.refl _ w).drew _) (grown_set _ _ _ _))
  have HBX : Hid (Blk X rb #[.int .i64 p.1, .int .i64 p.2, .int .i64 e, .slice (some ⟨b, o, none⟩) ws.length c, .int .i64 ((n : Int) + 1)] 82) := Lib.hid (by
   rw [← hX]
   exact Blk.set (w := w.drew) (j := 4) HB2.out _)
  have HX : Hid (RSat w0 rb (.slice (some ⟨b, o, none⟩) ws.length c) ws ⟨n + 1, p, e⟩ X) := Lib.hid ⟨by
   have := HBX.out
   rw [show ((n : Int) + 1) = ((n + 1 : Nat) : Int) by omega] at this
   exact this, by
   rw [← hX]
   exact (HH.out.bel.drew).setCell (p := ⟨rb, 4, none⟩) HLO.out _, by show n + 1 ≤ _; omega⟩
  have HEX : Hid (X.cell? ⟨b, o + n * 3, none⟩ = some (.string N)) := Lib.hid (by
   have hne : b ≠ rb := fun q => by
    obtain ⟨b', o', c', hq, e0', -, -⟩ := HC.out.rd.at (k := n) (by omega)
    injection hq with hq _ _
    injection hq with hq
    injection hq with hq _ _
    have := World.block_lt_of_cell? w0 _ e0'
    simp only at this
    have := HLO.out
    omega
   rw [← hX, World.cell?_setCell_far _ _ _ _ (fun q => hne q.symm)]
   exact e0)
  have r0 := HB2.out.cell (j := 0) rfl
  have r1 := HB2.out.cell (j := 1) rfl
  have r2 := HB2.out.cell (j := 2) rfl
  have r3 := HB2.out.cell (j := 3) rfl
  have r4 := HB2.out.cell (j := 4) rfl
  have q0 := HB2.out.frz 0
  have q1 := HB2.out.frz 1
  have q2 := HB2.out.frz 2
  have q3 := HB2.out.frz 3
  have q4 := HB2.out.frz 4
  have z3 : w.drew.cell? ⟨rb, 3, none⟩ = some (.slice (some ⟨b, o, none⟩) ws.length c) := r3
  have z4 : w.drew.cell? ⟨rb, 4, none⟩ = some (.int .i64 n) := r4
  have z5 : w.drew.frozen? ⟨rb, 4, none⟩ = false := q4
  have hgi : (n : Int) < (ws.length : Int) := by omega
  have hgj : decide ((ws.length : Int) ≤ (n : Int)) = false := by simp; omega
  have hn1 : (n : Int) ≤ 1152921504606846975 := by omega
  go_enter Tryz.func47, Tryz.ntmps47
  go_upto_region 1 with fail
  go_cut [12] from 3 to 12 (fun u wx => u = .bool false ∧ Hid (wx = w.drew))
  case first =>
   go_region
   all_goals go_wp2_with fail
   all_goals go_meet
   all_goals exact ⟨rfl, rfl⟩
  case rest =>
  obtain ⟨rfl, HWX⟩ := hcut
  rw [HWX.out]
  clear HWX
  go_upto_region 6 with fail
  try rw [hX]
  clear hX r0 r1 r2 r3 r4 q0 q1 q2 q3 q4 z3 z4 z5 e0
  have z3 : X.drew.cell? ⟨rb, 3, none⟩ = some (.slice (some ⟨b, o, none⟩) ws.length c) := HBX.out.cell (j := 3) rfl
  have z4 : X.drew.cell? ⟨rb, 4, none⟩ = some (.int .i64 ((n : Int) + 1)) := HBX.out.cell (j := 4) rfl
  have e0 : X.drew.cell? ⟨b, o + n * 3, none⟩ = some (.string N) := HEX.out
  have e1 : X.cell? ⟨b, o + n * 3, none⟩ = some (.string N) := HEX.out
  have y3 : X.cell? ⟨rb, 3, none⟩ = some (.slice (some ⟨b, o, none⟩) ws.length c) := HBX.out.cell (j := 3) rfl
  have y4 : X.cell? ⟨rb, 4, none⟩ = some (.int .i64 ((n : Int) + 1)) := HBX.out.cell (j := 4) rfl
  have hs1 : ((n : Int) + 1) - 1 = (n : Int) := by omega
  go_region
  all_goals go_wp2_with fail
  all_goals go_ret
  all_goals exact ⟨rfl, HX.out.below (Below.refl _ _).drew, grown_trans HGX.out (below_grown (Below.refl _ _).drew _)⟩

set_option maxRecDepth 100000 in
set_option maxHeartbeats 8000000 in
theorem rend_any {w0 : World} {rb : Nat} {wv : Value} {ws : List Tok} (hc : RCtx w0 rb wv ws) (s : RSt) (w : World) (h : RSat w0 rb wv ws s w) :
  Calls Tryz.prog 48 #[.pointer (some ⟨rb, 0, none⟩)] w fun e w' => e = .returned (.tuple #[]) ∧ RSat w0 rb wv ws (endS ws s).2 w' ∧ w.grownBy w' (some rb) := by
 have HC := Lib.hid hc
 have HH := Lib.hid h
 have hlen : ws.length ≤ 1152921504606846976 := hc.ln
 have hne := hc.ne
 have hhi := h.hi
 obtain ⟨n, p, e⟩ := s
 simp only at hhi
 have HB2 : Hid (Blk w rb #[.int .i64 p.1, .int .i64 p.2, .int .i64 e, wv, .int .i64 n] 82) := Lib.hid h.blk
 have HLO := Lib.hid hc.lo
 obtain ⟨b, o, c, hwv, -, -, -⟩ := (h.rd hc).at (k := 0) (by omega)
 subst hwv
 clear h hc
 have r0 := HB2.out.cell (j := 0) rfl
 have r1 := HB2.out.cell (j := 1) rfl
 have r2 := HB2.out.cell (j := 2) rfl
 have r3 := HB2.out.cell (j := 3) rfl
 have r4 := HB2.out.cell (j := 4) rfl
 have q0 := HB2.out.frz 0
 have q1 := HB2.out.frz 1
 have q2 := HB2.out.frz 2
 have q3 := HB2.out.frz 3
 have q4 := HB2.out.frz 4
 have z2 : w.drew.cell? ⟨rb, 2, none⟩ = some (.int .i64 e) := r2
 have z3 : w.drew.cell? ⟨rb, 3, none⟩ = some (.slice (some ⟨b, o, none⟩) ws.length c) := r3
 have z4 : w.drew.cell? ⟨rb, 4, none⟩ = some (.int .i64 n) := r4
 have z5 : w.drew.frozen? ⟨rb, 4, none⟩ = false := q4
 have hn1 : (n : Int) ≤ 1152921504606846976 := by omega
 by_cases hq : e = 0 ∧ n < ws.length
 ·have HE : Hid ((endS ws ⟨n, p, e⟩).2 = failS ws 3 ⟨n + 1, p, e⟩) := Lib.hid (by unfold endS; simp only; rw [if_pos hq])
  rw [HE.out]
  obtain ⟨X, hX⟩ : ∃ X, w.drew.setCell ⟨rb, 4, none⟩ (.int .i64 ((n : Int) + 1)) = X := ⟨_, rfl⟩
  have HGX : Hid (w.grownBy X (some rb)) := Lib.hid (by rw [← hX]; exact grown_trans (below_grown (Below.refl _ w).drew _) (grown_set _ _ _ _))
  have HX : Hid (RSat w0 rb (.slice (some ⟨b, o, none⟩) ws.length c) ws ⟨n + 1, p, e⟩ X) := Lib.hid ⟨by
   rw [← hX]
   have := Blk.set (w := w.drew) (j := 4) HB2.out (.int .i64 ((n : Int) + 1))
   rw [show ((n : Int) + 1) = ((n + 1 : Nat) : Int) by omega] at this ⊢
   exact this, by
   rw [← hX]
   exact (HH.out.bel.drew).setCell (p := ⟨rb, 4, none⟩) HLO.out _, by show n + 1 ≤ _; omega⟩
  have HFA : Hid (Calls Tryz.prog 119 #[.pointer (some ⟨rb, 0, none⟩), .int .i64 3] X fun e' w' => e' = .returned (.tuple #[]) ∧ RSat w0 rb (.slice (some ⟨b, o, none⟩) ws.length c) ws (failS ws 3 ⟨n + 1, p, e⟩) w' ∧ X.grownBy w' (some rb)) := Lib.hid (fail_any HC.out ⟨n + 1, p, e⟩ 3 X HX.out (by show 1 ≤ n + 1; omega))
  have g1 : (e == 0) = true := by simpa using hq.1
  have g2 : (n : Int) < (ws.length : Int) := by have := hq.2; omega
  clear hq HE
  go_enter Tryz.func48, Tryz.ntmps48
  go_upto_region 0 with fail
  go_cut [19] from 2 to 19 (fun u wx => u = .bool true ∧ Hid (wx = w.drew))
  case first =>
   go_region
   all_goals go_wp2_with fail
   all_goals go_meet
   all_goals exact ⟨rfl, rfl⟩
  case rest =>
  obtain ⟨rfl, HWX⟩ := hcut
  rw [HWX.out]
  clear HWX
  go_upto_region 2 with fail
  try rw [hX]
  clear hX r0 r1 r2 r3 r4 q0 q1 q2 q3 q4 z2 z3 z4 z5
  go_wp2_with (first | (go_at_call 119; refine HFA.out.mono ?_; rintro e' w' ⟨rfl, hs2, hg2⟩) | fail)
  go_end0
  exact ⟨rfl, hs2, grown_trans HGX.out hg2⟩
 ·have HE : Hid ((endS ws ⟨n, p, e⟩).2 = ⟨n, p, e⟩) := Lib.hid (by unfold endS; simp only; rw [if_neg hq])
  rw [HE.out]
  have HFN : Hid (RSat w0 rb (.slice (some ⟨b, o, none⟩) ws.length c) ws ⟨n, p, e⟩ w.drew ∧ w.grownBy w.drew (some rb)) := Lib.hid ⟨HH.out.below (Below.refl _ _).drew, below_grown (Below.refl _ _).drew _⟩
  go_enter Tryz.func48, Tryz.ntmps48
  by_cases he : e = 0
  ·have g1 : (e == 0) = true := by simpa using he
   have g2 : n = ws.length := by omega
   subst g2
   clear hq he
   go_upto_region 0 with fail
   go_region
   all_goals go_wp2_with fail
   all_goals go_end0
   all_goals exact ⟨rfl, HFN.out⟩
  ·have g1 : (e == 0) = false := by simpa using he
   clear hq he
   go_upto_region 0 with fail
   go_region
   all_goals go_wp2_with fail
   all_goals go_end0
   all_goals exact ⟨rfl, HFN.out⟩
end Go.Proofs.YtlbglinpgjlbkaaGreatDoor
namespace Go.Proofs.YtlbglinpgjlbkaaGreatDoor
open Go.RowKit Wk

def MPost {α : Type} (w0 : World) (rb : Nat) (wv : Value) (ws : List Tok) (ret : α → Value) (r : α × RSt) (w : World) (e : Ending) (w' : World) : Prop :=
 e = .returned (ret r.1) ∧ RSat w0 rb wv ws r.2 w' ∧ 1 ≤ r.2.n ∧ w.grownBy w' (some rb)
def yrM (s : Bs) : Int × Int := numM s 1 9999
def strV (x : Bs) : Value := .string ⟨x.toArray⟩
def intV (x : Int) : Value := .int .i64 x
theorem fail_n (ws : List Tok) (x : Int) (s : RSt) : (failS ws x s).n = s.n := by
 unfold failS
 split <;> rfl
theorem word_sz {w0 : World} {rb : Nat} {wv : Value} {ws : List Tok} (hc : RCtx w0 rb wv ws) (s : RSt) : (wordS ws s).1.length ≤ 4294967280 := by
 unfold wordS
 by_cases h : ws.length ≤ s.n
 ·rw [if_pos h]; simp
 ·rw [if_neg h]
  exact hc.sz _ (getD_mem (by omega))
theorem dash_eq (N : ByteArray) (l : Bs) : (N.toList == l) = (bsO N == l) := by rw [Lib.toList_data]
theorem empty_eq (N : ByteArray) : N.toList.isEmpty = (bsO N == []) := by
 rw [Lib.toList_data]
 show (bsO N).isEmpty = _
 cases bsO N <;> rfl
set_option maxRecDepth 100000 in
theorem rule1_any (N : ByteArray) (hs : N.size < 4294967281) (w : World) :
  Calls Tryz.prog 123 #[.string N] w fun e w' => e = .returned (.bool (leB (bsO N))) ∧ Below w.heap.size w w' := by
 have HL := Lib.hid (isLetter_any N hs w)
 obtain ⟨q, hq⟩ : ∃ q, letterB (bsO N) = q := ⟨_, rfl⟩
 obtain ⟨r, hr⟩ : ∃ r, leB (bsO N) = r := ⟨_, rfl⟩
 rw [hr]
 unfold leB at hr
 rw [hq] at HL hr
 rw [← dash_eq, ← empty_eq] at hr
 clear hq
 go_enter Tryz.func123, Tryz.ntmps123
 cases hd : (N.toList == [45]) with
 | true =>
  rw [hd] at hr
  have HR := Lib.hid hr
  clear hr
  go_wp2_with fail
  go_ret
  exact ⟨ret_bool HR.out, Below.refl _ _⟩
 | false =>
  cases he : N.toList.isEmpty with
  | true =>
   rw [hd, he] at hr
   have HR := Lib.hid hr
   clear hr
   go_wp2_with fail
   go_ret
   exact ⟨ret_bool HR.out, Below.refl _ _⟩
  | false =>
   rw [hd, he] at hr
   have HR := Lib.hid hr
   clear hr
   go_wp2_with (first | (go_at_call 124; refine HL.out.mono ?_; rintro e w' ⟨rfl, hw⟩; rw [hw]; clear hw) | fail)
   go_ret
   exact ⟨ret_bool (by rw [← HR.out]; cases q <;> rfl), Below.refl _ _⟩
set_option maxRecDepth 100000 in
theorem line2_any (N : ByteArray) (w : World) :
  Calls Tryz.prog 128 #[.string N] w fun e w' => e = .returned (.bool (untB (bsO N))) ∧ Below w.heap.size w w' := by
 go_enter Tryz.func128, Tryz.ntmps128
 go_wp2_with fail
 go_ret
 exact ⟨ret_bool (dash_eq _ _), Below.refl _ _⟩
set_option maxRecDepth 100000 in
theorem line1_any (n : Int) (w : World) :
  Calls Tryz.prog 125 #[.int .i64 n] w fun e w' => e = .returned (.bool (offB n)) ∧ w' = w := by
 go_enter Tryz.func125, Tryz.ntmps125
 by_cases h1 : -57600 ≤ n
 ·by_cases h2 : n ≤ 57600
  ·have HR : Hid (offB n = true) := Lib.hid (by unfold offB; simp [h1, h2])
   go_wp2_with fail
   all_goals go_ret
   all_goals exact ⟨ret_bool HR.out.symm, rfl⟩
  ·have HR : Hid (offB n = false) := Lib.hid (by unfold offB; simp [h2])
   go_wp2_with fail
   all_goals go_ret
   all_goals exact ⟨ret_bool HR.out.symm, rfl⟩
 ·have HR : Hid (offB n = false) := Lib.hid (by unfold offB; simp [h1])
  go_wp2_with fail
  all_goals go_ret
  all_goals exact ⟨ret_bool HR.out.symm, rfl⟩
set_option maxRecDepth 100000 in
theorem year1_any (N : ByteArray) (hs : N.size < 4294967281) (w : World) :
  Calls Tryz.prog 180 #[.string N] w fun e w' => e = .returned (.tuple #[.int .i64 (numM (bsO N) 1 9999).1, .int .i64 (numM (bsO N) 1 9999).2]) ∧ Below w.heap.size w w' := by
 have HL := Lib.hid (number_any N hs 1 9999 (by decide) (by decide) w)
 go_enter Tryz.func180, Tryz.ntmps180
 go_wp2_with (first | (go_at_call 91; refine HL.out.mono ?_; rintro e w' ⟨rfl, hw⟩; rw [hw]; clear hw) | fail)
 go_ret2
 exact ⟨rfl, Below.refl _ _⟩

set_option maxRecDepth 100000 in
set_option maxHeartbeats 4000000 in
theorem check_name {w0 : World} {rb : Nat} {wv : Value} {ws : List Tok} (hc : RCtx w0 rb wv ws) (_hg : Glob w0) (s : RSt) (w : World) (h : RSat w0 rb wv ws s w) :
  Calls Tryz.prog 117 #[.pointer (some ⟨rb, 0, none⟩), .func (.func 65) #[] #[]] w (MPost w0 rb wv ws strV (checkS ws nameB s) w) := by
 have HC := Lib.hid hc
 have HW := Lib.hid (word_any hc s w h)
 have HN1 := Lib.hid (word_n ws s hc.ne h.hi)
 have hsz := word_sz hc s
 obtain ⟨r, hr⟩ : ∃ r, wordS ws s = r := ⟨_, rfl⟩
 have HE : Hid (checkS ws nameB s = (r.1, if nameB r.1 = true then r.2 else failS ws 3 r.2)) := Lib.hid (by rw [← hr]; rfl)
 rw [hr] at HW HN1 hsz
 clear hr
 obtain ⟨t, s1⟩ := r
 simp only at HW HN1 HE hsz
 obtain ⟨N, rfl⟩ := bs_of t
 rw [bs_len] at hsz
 have HG : Hid (∀ W, Below w0.heap.size w0 W → Calls Tryz.prog 65 #[.string N] W fun e w' => e = .returned (.bool (nameB (bsO N))) ∧ Below W.heap.size W w') := Lib.hid fun W hW => (name_any N W).mono fun e w' h => ⟨h.1, by rw [h.2]; exact Below.refl _ _⟩
 obtain ⟨q, hq⟩ : ∃ q, nameB (bsO N) = q := ⟨_, rfl⟩
 rw [hq] at HG HE
 have HFA : Hid (∀ W, RSat w0 rb wv ws s1 W → Calls Tryz.prog 119 #[.pointer (some ⟨rb, 0, none⟩), .int .i64 3] W fun e' w' => e' = .returned (.tuple #[]) ∧ RSat w0 rb wv ws (failS ws 3 s1) w' ∧ W.grownBy w' (some rb)) := Lib.hid fun W hW => fail_any HC.out s1 3 W hW HN1.out
 rw [HE.out]
 obtain ⟨Z, hZ⟩ : ∃ Z, (if q = true then s1 else failS ws 3 s1) = Z := ⟨_, rfl⟩
 rw [hZ]
 have HZ := Lib.hid hZ
 clear hZ hq hsz h hc _hg HE
 go_enter Tryz.func117, Tryz.ntmps117
 go_upto_region 2 with (first | (go_at_call 47; refine HW.out.mono ?_; rintro e w' ⟨rfl, hs1, hg1⟩) | fail)
 go_wp2_with fail
 refine (HG.out _ hs1.bel).mono ?_
 rintro e w2 ⟨rfl, hb2⟩
 have hs2 := hs1.below hb2
 have hg2 := grown_trans hg1 (below_grown hb2 _)
 cases q with
 | true =>
  go_wp2_with fail
  go_ret
  obtain rfl : s1 = Z := HZ.out
  exact ⟨rfl, hs2, HN1.out, hg2⟩
 | false =>
  go_wp2_with (first | (go_at_call 119; refine (HFA.out _ hs2).mono ?_; rintro e w' ⟨rfl, hs3, hg3⟩) | fail)
  go_ret
  obtain rfl : failS ws 3 s1 = Z := HZ.out
  exact ⟨rfl, hs3, by show 1 ≤ (failS ws 3 s1).n; rw [fail_n]; exact HN1.out, grown_trans hg2 hg3⟩

set_option maxRecDepth 100000 in
set_option maxHeartbeats 4000000 in
theorem check_letter {w0 : World} {rb : Nat} {wv : Value} {ws : List Tok} (hc : RCtx w0 rb wv ws) (_hg : Glob w0) (s : RSt) (w : World) (h : RSat w0 rb wv ws s w) :
  Calls Tryz.prog 117 #[.pointer (some ⟨rb, 0, none⟩), .func (.func 123) #[] #[]] w (MPost w0 rb wv ws strV (checkS ws leB s) w) := by
 have HC := Lib.hid hc
 have HW := Lib.hid (word_any hc s w h)
 have HN1 := Lib.hid (word_n ws s hc.ne h.hi)
 have hsz := word_sz hc s
 obtain ⟨r, hr⟩ : ∃ r, wordS ws s = r := ⟨_, rfl⟩
 have HE : Hid (checkS ws leB s = (r.1, if leB r.1 = true then r.2 else failS ws 3 r.2)) := Lib.hid (by rw [← hr]; rfl)
 rw [hr] at HW HN1 hsz
 clear hr
 obtain ⟨t, s1⟩ := r
 simp only at HW HN1 HE hsz
 obtain ⟨N, rfl⟩ := bs_of t
 rw [bs_len] at hsz
 have HG : Hid (∀ W, Below w0.heap.size w0 W → Calls Tryz.prog 123 #[.string N] W fun e w' => e = .returned (.bool (leB (bsO N))) ∧ Below W.heap.size W w') := Lib.hid fun W hW => rule1_any N (by omega) W
 obtain ⟨q, hq⟩ : ∃ q, leB (bsO N) = q := ⟨_, rfl⟩
 rw [hq] at HG HE
 have HFA : Hid (∀ W, RSat w0 rb wv ws s1 W → Calls Tryz.prog 119 #[.pointer (some ⟨rb, 0, none⟩), .int .i64 3] W fun e' w' => e' = .returned (.tuple #[]) ∧ RSat w0 rb wv ws (failS ws 3 s1) w' ∧ W.grownBy w' (some rb)) := Lib.hid fun W hW => fail_any HC.out s1 3 W hW HN1.out
 rw [HE.out]
 obtain ⟨Z, hZ⟩ : ∃ Z, (if q = true then s1 else failS ws 3 s1) = Z := ⟨_, rfl⟩
 rw [hZ]
 have HZ := Lib.hid hZ
 clear hZ hq hsz h hc _hg HE
 go_enter Tryz.func117, Tryz.ntmps117
 go_upto_region 2 with (first | (go_at_call 47; refine HW.out.mono ?_; rintro e w' ⟨rfl, hs1, hg1⟩) | fail)
 go_wp2_with fail
 refine (HG.out _ hs1.bel).mono ?_
 rintro e w2 ⟨rfl, hb2⟩
 have hs2 := hs1.below hb2
 have hg2 := grown_trans hg1 (below_grown hb2 _)
 cases q with
 | true =>
  go_wp2_with fail
  go_ret
  obtain rfl : s1 = Z := HZ.out
  exact ⟨rfl, hs2, HN1.out, hg2⟩
 | false =>
  go_wp2_with (first | (go_at_call 119; refine (HFA.out _ hs2).mono ?_; rintro e w' ⟨rfl, hs3, hg3⟩) | fail)
  go_ret
  obtain rfl : failS ws 3 s1 = Z := HZ.out
  exact ⟨rfl, hs3, by show 1 ≤ (failS ws 3 s1).n; rw [fail_n]; exact HN1.out, grown_trans hg2 hg3⟩

set_option maxRecDepth 100000 in
set_option maxHeartbeats 4000000 in
theorem check_format {w0 : World} {rb : Nat} {wv : Value} {ws : List Tok} (hc : RCtx w0 rb wv ws) (hg : Glob w0) (s : RSt) (w : World) (h : RSat w0 rb wv ws s w) :
  Calls Tryz.prog 117 #[.pointer (some ⟨rb, 0, none⟩), .func (.func 127) #[] #[]] w (MPost w0 rb wv ws strV (checkS ws fmtB s) w) := by
 have HC := Lib.hid hc
 have HW := Lib.hid (word_any hc s w h)
 have HN1 := Lib.hid (word_n ws s hc.ne h.hi)
 have hsz := word_sz hc s
 obtain ⟨r, hr⟩ : ∃ r, wordS ws s = r := ⟨_, rfl⟩
 have HE : Hid (checkS ws fmtB s = (r.1, if fmtB r.1 = true then r.2 else failS ws 3 r.2)) := Lib.hid (by rw [← hr]; rfl)
 rw [hr] at HW HN1 hsz
 clear hr
 obtain ⟨t, s1⟩ := r
 simp only at HW HN1 HE hsz
 obtain ⟨N, rfl⟩ := bs_of t
 rw [bs_len] at hsz
 have HG : Hid (∀ W, Below w0.heap.size w0 W → Calls Tryz.prog 127 #[.string N] W fun e w' => e = .returned (.bool (fmtB (bsO N))) ∧ Below W.heap.size W w') := Lib.hid fun W hW => isFormat_any N (by omega) W (hg.below hW)
 obtain ⟨q, hq⟩ : ∃ q, fmtB (bsO N) = q := ⟨_, rfl⟩
 rw [hq] at HG HE
 have HFA : Hid (∀ W, RSat w0 rb wv ws s1 W → Calls Tryz.prog 119 #[.pointer (some ⟨rb, 0, none⟩), .int .i64 3] W fun e' w' => e' = .returned (.tuple #[]) ∧ RSat w0 rb wv ws (failS ws 3 s1) w' ∧ W.grownBy w' (some rb)) := Lib.hid fun W hW => fail_any HC.out s1 3 W hW HN1.out
 rw [HE.out]
 obtain ⟨Z, hZ⟩ : ∃ Z, (if q = true then s1 else failS ws 3 s1) = Z := ⟨_, rfl⟩
 rw [hZ]
 have HZ := Lib.hid hZ
 clear hZ hq hsz h hc hg HE
 go_enter Tryz.func117, Tryz.ntmps117
 go_upto_region 2 with (first | (go_at_call 47; refine HW.out.mono ?_; rintro e w' ⟨rfl, hs1, hg1⟩) | fail)
 go_wp2_with fail
 refine (HG.out _ hs1.bel).mono ?_
 rintro e w2 ⟨rfl, hb2⟩
 have hs2 := hs1.below hb2
 have hg2 := grown_trans hg1 (below_grown hb2 _)
 cases q with
 | true =>
  go_wp2_with fail
  go_ret
  obtain rfl : s1 = Z := HZ.out
  exact ⟨rfl, hs2, HN1.out, hg2⟩
 | false =>
  go_wp2_with (first | (go_at_call 119; refine (HFA.out _ hs2).mono ?_; rintro e w' ⟨rfl, hs3, hg3⟩) | fail)
  go_ret
  obtain rfl : failS ws 3 s1 = Z := HZ.out
  exact ⟨rfl, hs3, by show 1 ≤ (failS ws 3 s1).n; rw [fail_n]; exact HN1.out, grown_trans hg2 hg3⟩

set_option maxRecDepth 100000 in
set_option maxHeartbeats 4000000 in
theorem check_until {w0 : World} {rb : Nat} {wv : Value} {ws : List Tok} (hc : RCtx w0 rb wv ws) (_hg : Glob w0) (s : RSt) (w : World) (h : RSat w0 rb wv ws s w) :
  Calls Tryz.prog 117 #[.pointer (some ⟨rb, 0, none⟩), .func (.func 128) #[] #[]] w (MPost w0 rb wv ws strV (checkS ws untB s) w) := by
 have HC := Lib.hid hc
 have HW := Lib.hid (word_any hc s w h)
 have HN1 := Lib.hid (word_n ws s hc.ne h.hi)
 have hsz := word_sz hc s
 obtain ⟨r, hr⟩ : ∃ r, wordS ws s = r := ⟨_, rfl⟩
 have HE : Hid (checkS ws untB s = (r.1, if untB r.1 = true then r.2 else failS ws 3 r.2)) := Lib.hid (by rw [← hr]; rfl)
 rw [hr] at HW HN1 hsz
 clear hr
 obtain ⟨t, s1⟩ := r
 simp only at HW HN1 HE hsz
 obtain ⟨N, rfl⟩ := bs_of t
 rw [bs_len] at hsz
 have HG : Hid (∀ W, Below w0.heap.size w0 W → Calls Tryz.prog 128 #[.string N] W fun e w' => e = .returned (.bool (untB (bsO N))) ∧ Below W.heap.size W w') := Lib.hid fun W hW => line2_any N W
 obtain ⟨q, hq⟩ : ∃ q, untB (bsO N) = q := ⟨_, rfl⟩
 rw [hq] at HG HE
 have HFA : Hid (∀ W, RSat w0 rb wv ws s1 W → Calls Tryz.prog 119 #[.pointer (some ⟨rb, 0, none⟩), .int .i64 3] W fun e' w' => e' = .returned (.tuple #[]) ∧ RSat w0 rb wv ws (failS ws 3 s1) w' ∧ W.grownBy w' (some rb)) := Lib.hid fun W hW => fail_any HC.out s1 3 W hW HN1.out
 rw [HE.out]
 obtain ⟨Z, hZ⟩ : ∃ Z, (if q = true then s1 else failS ws 3 s1) = Z := ⟨_, rfl⟩
 rw [hZ]
 have HZ := Lib.hid hZ
 clear hZ hq hsz h hc _hg HE
 go_enter Tryz.func117, Tryz.ntmps117
 go_upto_region 2 with (first | (go_at_call 47; refine HW.out.mono ?_; rintro e w' ⟨rfl, hs1, hg1⟩) | fail)
 go_wp2_with fail
 refine (HG.out _ hs1.bel).mono ?_
 rintro e w2 ⟨rfl, hb2⟩
 have hs2 := hs1.below hb2
 have hg2 := grown_trans hg1 (below_grown hb2 _)
 cases q with
 | true =>
  go_wp2_with fail
  go_ret
  obtain rfl : s1 = Z := HZ.out
  exact ⟨rfl, hs2, HN1.out, hg2⟩
 | false =>
  go_wp2_with (first | (go_at_call 119; refine (HFA.out _ hs2).mono ?_; rintro e w' ⟨rfl, hs3, hg3⟩) | fail)
  go_ret
  obtain rfl : failS ws 3 s1 = Z := HZ.out
  exact ⟨rfl, hs3, by show 1 ≤ (failS ws 3 s1).n; rw [fail_n]; exact HN1.out, grown_trans hg2 hg3⟩

set_option maxRecDepth 100000 in
set_option maxHeartbeats 4000000 in
theorem number_offset {w0 : World} {rb : Nat} {wv : Value} {ws : List Tok} (hc : RCtx w0 rb wv ws) (hg : Glob w0) (s : RSt) (w : World) (h : RSat w0 rb wv ws s w) :
  Calls Tryz.prog 179 #[.pointer (some ⟨rb, 0, none⟩), .func (.func 126) #[] #[]] w (MPost w0 rb wv ws intV (numS ws offsetM s) w) := by
 have HC := Lib.hid hc
 have HW := Lib.hid (word_any hc s w h)
 have HN1 := Lib.hid (word_n ws s hc.ne h.hi)
 have hsz := word_sz hc s
 obtain ⟨r, hr⟩ : ∃ r, wordS ws s = r := ⟨_, rfl⟩
 have HE : Hid (numS ws offsetM s = ((offsetM r.1).1, failS ws (offsetM r.1).2 r.2)) := Lib.hid (by rw [← hr]; rfl)
 rw [hr] at HW HN1 hsz
 clear hr
 obtain ⟨t, s1⟩ := r
 simp only at HW HN1 HE hsz
 obtain ⟨N, rfl⟩ := bs_of t
 rw [bs_len] at hsz
 have HG : Hid (∀ W, Below w0.heap.size w0 W → Calls Tryz.prog 126 #[.string N] W fun e w' => e = .returned (.tuple #[.int .i64 (offsetM (bsO N)).1, .int .i64 (offsetM (bsO N)).2]) ∧ Below W.heap.size W w') := Lib.hid fun W hW => offset_any N (by omega) W (hg.below hW)
 obtain ⟨q, hq⟩ : ∃ q, offsetM (bsO N) = q := ⟨_, rfl⟩
 rw [hq] at HG HE
 have HFA : Hid (∀ W, RSat w0 rb wv ws s1 W → Calls Tryz.prog 119 #[.pointer (some ⟨rb, 0, none⟩), .int .i64 q.2] W fun e' w' => e' = .returned (.tuple #[]) ∧ RSat w0 rb wv ws (failS ws q.2 s1) w' ∧ W.grownBy w' (some rb)) := Lib.hid fun W hW => fail_any HC.out s1 q.2 W hW HN1.out
 rw [HE.out]
 clear hq hsz h hc hg HE
 obtain ⟨qn, qe⟩ := q
 go_enter Tryz.func179, Tryz.ntmps179
 go_wp2_with (first | (go_at_call 47; refine HW.out.mono ?_; rintro e w' ⟨rfl, hs1, hg1⟩) | fail)
 refine (HG.out _ hs1.bel).mono ?_
 rintro e w2 ⟨rfl, hb2⟩
 have hs2 := hs1.below hb2
 have hg2 := grown_trans hg1 (below_grown hb2 _)
 go_wp2_with (first | (go_at_call 119; refine (HFA.out _ hs2).mono ?_; rintro e w' ⟨rfl, hs3, hg3⟩) | fail)
 go_ret
 exact ⟨rfl, hs3, by show 1 ≤ (failS ws qe s1).n; rw [fail_n]; exact HN1.out, grown_trans hg2 hg3⟩

set_option maxRecDepth 100000 in
set_option maxHeartbeats 4000000 in
theorem number_month {w0 : World} {rb : Nat} {wv : Value} {ws : List Tok} (hc : RCtx w0 rb wv ws) (_hg : Glob w0) (s : RSt) (w : World) (h : RSat w0 rb wv ws s w) :
  Calls Tryz.prog 179 #[.pointer (some ⟨rb, 0, none⟩), .func (.func 181) #[] #[]] w (MPost w0 rb wv ws intV (numS ws (findM' monthL) s) w) := by
 have HC := Lib.hid hc
 have HW := Lib.hid (word_any hc s w h)
 have HN1 := Lib.hid (word_n ws s hc.ne h.hi)
 have hsz := word_sz hc s
 obtain ⟨r, hr⟩ : ∃ r, wordS ws s = r := ⟨_, rfl⟩
 have HE : Hid (numS ws (findM' monthL) s = (((findM' monthL) r.1).1, failS ws ((findM' monthL) r.1).2 r.2)) := Lib.hid (by rw [← hr]; rfl)
 rw [hr] at HW HN1 hsz
 clear hr
 obtain ⟨t, s1⟩ := r
 simp only at HW HN1 HE hsz
 obtain ⟨N, rfl⟩ := bs_of t
 rw [bs_len] at hsz
 have HG : Hid (∀ W, Below w0.heap.size w0 W → Calls Tryz.prog 181 #[.string N] W fun e w' => e = .returned (.tuple #[.int .i64 ((findM' monthL) (bsO N)).1, .int .i64 ((findM' monthL) (bsO N)).2]) ∧ Below W.heap.size W w') := Lib.hid fun W hW => month_any N W
 obtain ⟨q, hq⟩ : ∃ q, (findM' monthL) (bsO N) = q := ⟨_, rfl⟩
 rw [hq] at HG HE
 have HFA : Hid (∀ W, RSat w0 rb wv ws s1 W → Calls Tryz.prog 119 #[.pointer (some ⟨rb, 0, none⟩), .int .i64 q.2] W fun e' w' => e' = .returned (.tuple #[]) ∧ RSat w0 rb wv ws (failS ws q.2 s1) w' ∧ W.grownBy w' (some rb)) := Lib.hid fun W hW => fail_any HC.out s1 q.2 W hW HN1.out
 rw [HE.out]
 clear hq hsz h hc _hg HE
 obtain ⟨qn, qe⟩ := q
 go_enter Tryz.func179, Tryz.ntmps179
 go_wp2_with (first | (go_at_call 47; refine HW.out.mono ?_; rintro e w' ⟨rfl, hs1, hg1⟩) | fail)
 refine (HG.out _ hs1.bel).mono ?_
 rintro e w2 ⟨rfl, hb2⟩
 have hs2 := hs1.below hb2
 have hg2 := grown_trans hg1 (below_grown hb2 _)
 go_wp2_with (first | (go_at_call 119; refine (HFA.out _ hs2).mono ?_; rintro e w' ⟨rfl, hs3, hg3⟩) | fail)
 go_ret
 exact ⟨rfl, hs3, by show 1 ≤ (failS ws qe s1).n; rw [fail_n]; exact HN1.out, grown_trans hg2 hg3⟩

set_option maxRecDepth 100000 in
set_option maxHeartbeats 4000000 in
theorem number_year {w0 : World} {rb : Nat} {wv : Value} {ws : List Tok} (hc : RCtx w0 rb wv ws) (_hg : Glob w0) (s : RSt) (w : World) (h : RSat w0 rb wv ws s w) :
  Calls Tryz.prog 179 #[.pointer (some ⟨rb, 0, none⟩), .func (.func 180) #[] #[]] w (MPost w0 rb wv ws intV (numS ws yrM s) w) := by
 have HC := Lib.hid hc
 have HW := Lib.hid (word_any hc s w h)
 have HN1 := Lib.hid (word_n ws s hc.ne h.hi)
 have hsz := word_sz hc s
 obtain ⟨r, hr⟩ : ∃ r, wordS ws s = r := ⟨_, rfl⟩
 have HE : Hid (numS ws yrM s = ((yrM r.1).1, failS ws (yrM r.1).2 r.2)) := Lib.hid (by rw [← hr]; rfl)
 rw [hr] at HW HN1 hsz
 clear hr
 obtain ⟨t, s1⟩ := r
 simp only at HW HN1 HE hsz
 obtain ⟨N, rfl⟩ := bs_of t
 rw [bs_len] at hsz
 have HG : Hid (∀ W, Below w0.heap.size w0 W → Calls Tryz.prog 180 #[.string N] W fun e w' => e = .returned (.tuple #[.int .i64 (yrM (bsO N)).1, .int .i64 (yrM (bsO N)).2]) ∧ Below W.heap.size W w') := Lib.hid fun W hW => year1_any N (by omega) W
 obtain ⟨q, hq⟩ : ∃ q, yrM (bsO N) = q := ⟨_, rfl⟩
 rw [hq] at HG HE
 have HFA : Hid (∀ W, RSat w0 rb wv ws s1 W → Calls Tryz.prog 119 #[.pointer (some ⟨rb, 0, none⟩), .int .i64 q.2] W fun e' w' => e' = .returned (.tuple #[]) ∧ RSat w0 rb wv ws (failS ws q.2 s1) w' ∧ W.grownBy w' (some rb)) := Lib.hid fun W hW => fail_any HC.out s1 q.2 W hW HN1.out
 rw [HE.out]
 clear hq hsz h hc _hg HE
 obtain ⟨qn, qe⟩ := q
 go_enter Tryz.func179, Tryz.ntmps179
 go_wp2_with (first | (go_at_call 47; refine HW.out.mono ?_; rintro e w' ⟨rfl, hs1, hg1⟩) | fail)
 refine (HG.out _ hs1.bel).mono ?_
 rintro e w2 ⟨rfl, hb2⟩
 have hs2 := hs1.below hb2
 have hg2 := grown_trans hg1 (below_grown hb2 _)
 go_wp2_with (first | (go_at_call 119; refine (HFA.out _ hs2).mono ?_; rintro e w' ⟨rfl, hs3, hg3⟩) | fail)
 go_ret
 exact ⟨rfl, hs3, by show 1 ≤ (failS ws qe s1).n; rw [fail_n]; exact HN1.out, grown_trans hg2 hg3⟩

set_option maxRecDepth 100000 in
set_option maxHeartbeats 4000000 in
theorem limited_saving {w0 : World} {rb : Nat} {wv : Value} {ws : List Tok} (hc : RCtx w0 rb wv ws) (hg : Glob w0) (s : RSt) (w : World) (h : RSat w0 rb wv ws s w) :
  Calls Tryz.prog 121 #[.pointer (some ⟨rb, 0, none⟩), .func (.func 122) #[] #[]] w (MPost w0 rb wv ws intV (limS ws savB s) w) := by
 have HC := Lib.hid hc
 have HW := Lib.hid (number_offset hc hg s w h)
 obtain ⟨r, hr⟩ : ∃ r, numS ws offsetM s = r := ⟨_, rfl⟩
 have HE : Hid (limS ws savB s = (r.1, if savB r.1 = true then r.2 else failS ws 2 r.2)) := Lib.hid (by rw [← hr]; rfl)
 rw [hr] at HW
 clear hr
 obtain ⟨t, s1⟩ := r
 simp only at HE
 have HG : Hid (∀ W, Calls Tryz.prog 122 #[.int .i64 t] W fun e w' => e = .returned (.bool (savB t)) ∧ w' = W) := Lib.hid fun W => isSaving_any t W
 obtain ⟨q, hq⟩ : ∃ q, savB t = q := ⟨_, rfl⟩
 rw [hq] at HG HE
 have HFA : Hid (∀ W, RSat w0 rb wv ws s1 W → 1 ≤ s1.n → Calls Tryz.prog 119 #[.pointer (some ⟨rb, 0, none⟩), .int .i64 2] W fun e' w' => e' = .returned (.tuple #[]) ∧ RSat w0 rb wv ws (failS ws 2 s1) w' ∧ W.grownBy w' (some rb)) := Lib.hid fun W hW h1 => fail_any HC.out s1 2 W hW h1
 rw [HE.out]
 obtain ⟨Z, hZ⟩ : ∃ Z, (if q = true then s1 else failS ws 2 s1) = Z := ⟨_, rfl⟩
 rw [hZ]
 have HZ := Lib.hid hZ
 clear hZ hq h hc hg HE
 go_enter Tryz.func121, Tryz.ntmps121
 go_upto_region 2 with (first | (go_at_call 179; refine HW.out.mono ?_; rintro e w' ⟨rfl, hs1, hn1, hg1⟩) | fail)
 try simp only at hs1 hn1
 go_wp2_with fail
 refine (HG.out _).mono ?_
 rintro e w2 ⟨rfl, hw⟩
 rw [hw]
 clear hw
 cases q with
 | true =>
  go_wp2_with fail
  go_ret
  obtain rfl : s1 = Z := HZ.out
  exact ⟨rfl, hs1, hn1, hg1⟩
 | false =>
  go_wp2_with (first | (go_at_call 119; refine (HFA.out _ hs1 hn1).mono ?_; rintro e w' ⟨rfl, hs3, hg3⟩) | fail)
  go_ret
  obtain rfl : failS ws 2 s1 = Z := HZ.out
  exact ⟨rfl, hs3, by show 1 ≤ (failS ws 2 s1).n; rw [fail_n]; exact hn1, grown_trans hg1 hg3⟩

set_option maxRecDepth 100000 in
set_option maxHeartbeats 4000000 in
theorem limited_off {w0 : World} {rb : Nat} {wv : Value} {ws : List Tok} (hc : RCtx w0 rb wv ws) (hg : Glob w0) (s : RSt) (w : World) (h : RSat w0 rb wv ws s w) :
  Calls Tryz.prog 121 #[.pointer (some ⟨rb, 0, none⟩), .func (.func 125) #[] #[]] w (MPost w0 rb wv ws intV (limS ws offB s) w) := by
 have HC := Lib.hid hc
 have HW := Lib.hid (number_offset hc hg s w h)
 obtain ⟨r, hr⟩ : ∃ r, numS ws offsetM s = r := ⟨_, rfl⟩
 have HE : Hid (limS ws offB s = (r.1, if offB r.1 = true then r.2 else failS ws 2 r.2)) := Lib.hid (by rw [← hr]; rfl)
 rw [hr] at HW
 clear hr
 obtain ⟨t, s1⟩ := r
 simp only at HE
 have HG : Hid (∀ W, Calls Tryz.prog 125 #[.int .i64 t] W fun e w' => e = .returned (.bool (offB t)) ∧ w' = W) := Lib.hid fun W => line1_any t W
 obtain ⟨q, hq⟩ : ∃ q, offB t = q := ⟨_, rfl⟩
 rw [hq] at HG HE
 have HFA : Hid (∀ W, RSat w0 rb wv ws s1 W → 1 ≤ s1.n → Calls Tryz.prog 119 #[.pointer (some ⟨rb, 0, none⟩), .int .i64 2] W fun e' w' => e' = .returned (.tuple #[]) ∧ RSat w0 rb wv ws (failS ws 2 s1) w' ∧ W.grownBy w' (some rb)) := Lib.hid fun W hW h1 => fail_any HC.out s1 2 W hW h1
 rw [HE.out]
 obtain ⟨Z, hZ⟩ : ∃ Z, (if q = true then s1 else failS ws 2 s1) = Z := ⟨_, rfl⟩
 rw [hZ]
 have HZ := Lib.hid hZ
 clear hZ hq h hc hg HE
 go_enter Tryz.func121, Tryz.ntmps121
 go_upto_region 2 with (first | (go_at_call 179; refine HW.out.mono ?_; rintro e w' ⟨rfl, hs1, hn1, hg1⟩) | fail)
 try simp only at hs1 hn1
 go_wp2_with fail
 refine (HG.out _).mono ?_
 rintro e w2 ⟨rfl, hw⟩
 rw [hw]
 clear hw
 cases q with
 | true =>
  go_wp2_with fail
  go_ret
  obtain rfl : s1 = Z := HZ.out
  exact ⟨rfl, hs1, hn1, hg1⟩
 | false =>
  go_wp2_with (first | (go_at_call 119; refine (HFA.out _ hs1 hn1).mono ?_; rintro e w' ⟨rfl, hs3, hg3⟩) | fail)
  go_ret
  obtain rfl : failS ws 2 s1 = Z := HZ.out
  exact ⟨rfl, hs3, by show 1 ≤ (failS ws 2 s1).n; rw [fail_n]; exact hn1, grown_trans hg1 hg3⟩

set_option maxRecDepth 100000 in
set_option maxHeartbeats 4000000 in
theorem ryear_any {w0 : World} {rb : Nat} {wv : Value} {ws : List Tok} (hc : RCtx w0 rb wv ws) (hg : Glob w0) (s : RSt) (w : World) (h : RSat w0 rb wv ws s w) :
  Calls Tryz.prog 118 #[.pointer (some ⟨rb, 0, none⟩)] w (MPost w0 rb wv ws intV (yearS ws s) w) := by
 have HW := Lib.hid (number_year hc hg s w h)
 have HE : Hid (yearS ws s = numS ws yrM s) := Lib.hid rfl
 rw [HE.out]
 obtain ⟨r, hr⟩ : ∃ r, numS ws yrM s = r := ⟨_, rfl⟩
 rw [hr] at HW ⊢
 clear hr h hc hg HE
 obtain ⟨t, s1⟩ := r
 go_enter Tryz.func118, Tryz.ntmps118
 go_wp2_with (first | (go_at_call 179; refine HW.out.mono ?_; rintro e w' ⟨rfl, hs1, hn1, hg1⟩) | fail)
 go_ret
 exact ⟨rfl, hs1, hn1, hg1⟩
end Go.Proofs.YtlbglinpgjlbkaaGreatDoor
namespace Go.Proofs.YtlbglinpgjlbkaaGreatDoor
open Go.RowKit Wk

theorem Blk.grown {w w' : World} {b rb : Nat} {cs : Array Value} {T : TypeId} (h : Blk w b cs T) (hg : w.grownBy w' (some rb)) (hn : b ≠ rb) : Blk w' b cs T := h.same (hg.block b h.lt (by intro q; cases q; exact hn rfl))
theorem fail_e0 {ws : List Tok} {x : Int} {s : RSt} (h : (failS ws x s).e = 0) : s.e = 0 ∧ x = 0 := by
 unfold failS at h
 by_cases q : s.e = 0 ∧ x ≠ 0
 ·rw [if_pos q] at h
  exact absurd h q.2
 ·rw [if_neg q] at h
  exact ⟨h, Decidable.byContradiction fun hx => q ⟨h, hx⟩⟩
theorem word_e0 {ws : List Tok} {s : RSt} (h : (wordS ws s).2.e = 0) : s.e = 0 := by
 unfold wordS at h
 by_cases q : ws.length ≤ s.n
 ·rw [if_pos q] at h
  exact (fail_e0 h).1
 ·rw [if_neg q] at h
  exact h
theorem num_e0 {ws : List Tok} {f : Bs → Int × Int} {s : RSt} (h : (numS ws f s).2.e = 0) : ∃ t, (numS ws f s).1 = (f t).1 ∧ (f t).2 = 0 := ⟨(wordS ws s).1, rfl, (fail_e0 h).2⟩
theorem month_bd {t : Bs} (h : (findM' monthL t).2 = 0) : 1 ≤ (findM' monthL t).1 ∧ (findM' monthL t).1 ≤ 12 := find_bd (by rw [h]; rfl)
theorem RSat.other {w0 : World} {rb b : Nat} {wv : Value} {ws : List Tok} {s : RSt} {w w' : World} (h : RSat w0 rb wv ws s w) (hg : w.grownBy w' (some b)) (hn : b ≠ rb) (hb : w0.heap.size ≤ b) : RSat w0 rb wv ws s w' :=
 ⟨h.blk.same (hg.block rb h.blk.lt (by intro q; cases q; exact hn rfl)), grown_below h.bel hb hg, h.hi⟩
theorem set3_grown (w : World) (b : Nat) (v0 v1 v2 : Value) : w.grownBy (((w.setCell ⟨b, 0, none⟩ v0).setCell ⟨b, 1, none⟩ v1).setCell ⟨b, 2, none⟩ v2) (some b) := grown_trans (grown_trans (grown_set _ _ _ _) (grown_set _ _ _ _)) (grown_set _ _ _ _)
theorem set3_blk {w : World} {b : Nat} {x0 x1 x2 : Value} {T : TypeId} (h : Blk w b #[x0, x1, x2] T) (v0 v1 v2 : Value) : Blk (((w.setCell ⟨b, 0, none⟩ v0).setCell ⟨b, 1, none⟩ v1).setCell ⟨b, 2, none⟩ v2) b #[v0, v1, v2] T := ((h.set (j := 0) v0).set (j := 1) v1).set (j := 2) v2
def whenV (x : Int × OnT × Int × Int) : Value := .tuple #[.int .i64 x.1, .agg #[.int .i64 x.2.1.k, .int .i64 x.2.1.w, .int .i64 x.2.1.d], .int .i64 x.2.2.1, .int .i64 x.2.2.2]

set_option maxRecDepth 100000 in
set_option maxHeartbeats 8000000 in
theorem when_any {w0 : World} {rb : Nat} {wv : Value} {ws : List Tok} (hc : RCtx w0 rb wv ws) (hg : Glob w0) (s : RSt) (w : World) (h : RSat w0 rb wv ws s w) :
  Calls Tryz.prog 120 #[.pointer (some ⟨rb, 0, none⟩)] w (MPost w0 rb wv ws whenV (whenS ws s) w) := by
 have HC := Lib.hid hc
 have HGL := Lib.hid hg
 obtain ⟨b3, hb3⟩ : ∃ b, w.heap.size = b := ⟨_, rfl⟩
 obtain ⟨X, hX⟩ : ∃ X, w.alloc (.cells #[.int .i64 0, .int .i64 0, .int .i64 0] 39) = X := ⟨_, rfl⟩
 have HX3 : Hid (Blk X b3 #[.int .i64 0, .int .i64 0, .int .i64 0] 39) := Lib.hid (by rw [← hX, ← hb3]; exact Blk.new _ _ _)
 have HBX : Hid (Below w.heap.size w X) := Lib.hid (by rw [← hX]; exact below_box)
 have HNE : Hid (b3 ≠ rb) := Lib.hid (by have := h.blk.lt; omega)
 have HW3 : Hid (w.heap.size ≤ b3) := Lib.hid (Nat.le_of_eq hb3)
 have HNM := Lib.hid (number_month hc hg s X (h.below HBX.out))
 obtain ⟨r, hr⟩ : ∃ r, numS ws (findM' monthL) s = r := ⟨_, rfl⟩
 have HMB : Hid (r.2.e = 0 → 1 ≤ r.1 ∧ r.1 ≤ 12) := Lib.hid (by
  rw [← hr]
  intro q
  obtain ⟨t, h1, h2⟩ := num_e0 q
  rw [h1]
  exact month_bd h2)
 have HS : Hid (whenS ws s = SM.bind (wordS ws) (fun t => SM.bind (errS ws (onM t).2) fun _ => SM.bind (needS ws (fitsB (onM t).1 r.1) 2) fun _ => SM.bind (wordS ws) fun t => fun s' => ((r.1, (onM (wordS ws r.2).1).1, (clockM t).1, (clockM t).2.1), failS ws (clockM t).2.2 s')) r.2) := Lib.hid (by rw [← hr]; rfl)
 rw [hr] at HNM
 rw [HS.out]
 have HW0 : Hid (w0.heap.size ≤ b3) := Lib.hid (by have := h.bel.size; have := HW3.out; omega)
 clear hr h HS
 obtain ⟨mm, s1⟩ := r
 have HNM2 : Hid (Calls Tryz.prog 179 #[.pointer (some ⟨rb, 0, none⟩), .func (.func 181) #[] #[]] X fun e w' => e = .returned (.int .i64 mm) ∧ RSat w0 rb wv ws s1 w' ∧ 1 ≤ s1.n ∧ X.grownBy w' (some rb)) := HNM
 simp only at HMB
 obtain ⟨Z, hZ⟩ : ∃ Z, SM.bind (wordS ws) (fun t => SM.bind (errS ws (onM t).2) fun _ => SM.bind (needS ws (fitsB (onM t).1 mm) 2) fun _ => SM.bind (wordS ws) fun t => fun s' => ((mm, (onM (wordS ws s1).1).1, (clockM t).1, (clockM t).2.1), failS ws (clockM t).2.2 s')) s1 = Z := ⟨_, rfl⟩
 show Calls _ _ _ _ (MPost w0 rb wv ws whenV (SM.bind (wordS ws) (fun t => SM.bind (errS ws (onM t).2) fun _ => SM.bind (needS ws (fitsB (onM t).1 mm) 2) fun _ => SM.bind (wordS ws) fun t => fun s' => ((mm, (onM (wordS ws s1).1).1, (clockM t).1, (clockM t).2.1), failS ws (clockM t).2.2 s')) s1) w)
 rw [hZ]
 have HZ := Lib.hid hZ
 clear hZ hc hg
 go_enter Tryz.func120, Tryz.ntmps120
 go_upto_region 1 with fail
 try rw [hX]
 try rw [hb3]
 clear hX hb3
 go_upto_region 2 with (first | (go_at_call 179; refine HNM2.out.mono ?_; rintro e w' ⟨rfl, hs1, hn1, hg1⟩; obtain ⟨W1, hW1⟩ : ∃ W, w' = W := ⟨_, rfl⟩; rw [hW1] at hs1 hg1 ⊢; clear hW1; have HS1 := Lib.hid hs1; have HN1 := Lib.hid hn1; have HG1 := Lib.hid hg1) | fail)
 have HWD := Lib.hid (word_any HC.out s1 W1 HS1.out)
 have HN2 := Lib.hid (word_n ws s1 HC.out.ne HS1.out.hi)
 have HSZ := Lib.hid (word_sz HC.out s1)
 have HE2 : Hid ((wordS ws s1).2.e = 0 → s1.e = 0) := Lib.hid word_e0
 have HZ2 : Hid (SM.bind (errS ws (onM (wordS ws s1).1).2) (fun _ => SM.bind (needS ws (fitsB (onM (wordS ws s1).1).1 mm) 2) fun _ => SM.bind (wordS ws) fun t => fun s' => ((mm, (onM (wordS ws s1).1).1, (clockM t).1, (clockM t).2.1), failS ws (clockM t).2.2 s')) (wordS ws s1).2 = Z) := HZ
 obtain ⟨r, hr⟩ : ∃ r, wordS ws s1 = r := ⟨_, rfl⟩
 rw [hr] at HWD HN2 HSZ HE2 HZ2
 clear hr HZ
 obtain ⟨t, s2⟩ := r
 simp only at HSZ HE2 HN2 HZ2
 obtain ⟨N, rfl⟩ := bs_of t
 have HON : Hid (∀ W, Below w0.heap.size w0 W → Calls Tryz.prog 28 #[.string N] W fun e w' => OnA (onM (bsO N)) e ∧ Below W.heap.size W w') := Lib.hid fun W hW => on_any N (by have := HSZ.out; rw [bs_len] at this; omega) W (HGL.out.below hW)
 obtain ⟨oo, hoo⟩ : ∃ oo, onM (bsO N) = oo := ⟨_, rfl⟩
 rw [hoo] at HON HZ2
 clear hoo
 obtain ⟨⟨ok, ow, od⟩, oe⟩ := oo
 have HON2 : Hid (∀ W, Below w0.heap.size w0 W → Calls Tryz.prog 28 #[.string N] W fun e w' => e = .returned (.tuple #[.agg #[.int .i64 ok, .int .i64 ow, .int .i64 od], .int .i64 oe]) ∧ Below W.heap.size W w') := HON
 have HR3 := Lib.hid (HX3.out.grown HG1.out HNE.out)
 go_upto_region 3 with (first | (go_at_call 47; refine HWD.out.mono ?_; rintro e w' ⟨rfl, hs2, hg2⟩; obtain ⟨W2, hW2⟩ : ∃ W, w' = W := ⟨_, rfl⟩; rw [hW2] at hs2 hg2 ⊢; clear hW2; have HS2 := Lib.hid hs2; have HG2 := Lib.hid hg2; have HR32 := Lib.hid (HR3.out.grown hg2 HNE.out)) | (go_at_call 28; refine (HON2.out _ HS2.out.bel).mono ?_; rintro e w' ⟨rfl, hb⟩; obtain ⟨W3, hW3⟩ : ∃ W, w' = W := ⟨_, rfl⟩; rw [hW3] at hb ⊢; clear hW3; have HR33 := Lib.hid (HR32.out.below hb); have HS3 := Lib.hid (HS2.out.below hb); have HG3 := Lib.hid (grown_trans HG2.out (below_grown hb _)); have c0 := HR33.out.cell (j := 0) rfl; have c1 := HR33.out.cell (j := 1) rfl; have c2 := HR33.out.cell (j := 2) rfl; have f0 := HR33.out.frz 0; have f1 := HR33.out.frz 1; have f2 := HR33.out.frz 2) | fail)
 obtain ⟨W4, hW4⟩ : ∃ W, ((W3.setCell ⟨b3, 0, none⟩ (.int .i64 ok)).setCell ⟨b3, 1, none⟩ (.int .i64 ow)).setCell ⟨b3, 2, none⟩ (.int .i64 od) = W := ⟨_, rfl⟩
 have HR34 : Hid (Blk W4 b3 #[.int .i64 ok, .int .i64 ow, .int .i64 od] 39) := Lib.hid (by rw [← hW4]; exact set3_blk HR33.out _ _ _)
 have HS4 : Hid (RSat w0 rb wv ws s2 W4) := Lib.hid (by rw [← hW4]; exact HS3.out.other (set3_grown _ _ _ _ _) HNE.out HW0.out)
 have HG4 : Hid (w.grownBy W4 (some rb)) := Lib.hid (by
  rw [← hW4]
  exact (grown_trans (grown_trans (below_grown HBX.out _) HG1.out) HG3.out).andThen (set3_grown _ _ _ _ _) (fun j hj => by cases hj; exact .inl HW3.out))
 try rw [hW4]
 clear hW4 c0 c1 c2 f0 f1 f2 hb HNM HNM2 HWD HON HON2 HR3 HR32 HR33 HS3 HS2 HG1 HG2 HG3 HX3
 have HF1 := Lib.hid (fail_any HC.out s2 oe W4 HS4.out HN2.out)
 have HE3 : Hid ((failS ws oe s2).e = 0 → s2.e = 0) := Lib.hid fun q => (fail_e0 q).1
 have HN3 : Hid (1 ≤ (failS ws oe s2).n) := Lib.hid (by rw [fail_n]; exact HN2.out)
 have HZ3 : Hid (SM.bind (needS ws (fitsB ⟨ok, ow, od⟩ mm) 2) (fun _ => SM.bind (wordS ws) fun t => fun s' => ((mm, (⟨ok, ow, od⟩ : OnT), (clockM t).1, (clockM t).2.1), failS ws (clockM t).2.2 s')) (failS ws oe s2) = Z) := HZ2
 obtain ⟨s3, h3⟩ : ∃ s3, failS ws oe s2 = s3 := ⟨_, rfl⟩
 rw [h3] at HF1 HE3 HZ3 HN3
 clear h3 HZ2
 go_upto_region 4 with (first | (go_at_call 119; refine HF1.out.mono ?_; rintro e w' ⟨rfl, hs5, hg5⟩; obtain ⟨W5, hW5⟩ : ∃ W, w' = W := ⟨_, rfl⟩; rw [hW5] at hs5 hg5 ⊢; clear hW5; have HS5 := Lib.hid hs5; have HG5 := Lib.hid (grown_trans HG4.out hg5); have HR35 := Lib.hid (HR34.out.grown hg5 HNE.out)) | fail)
 go_cut [29] from 10 to 29 (fun u wx => ∃ q : Bool, u = .bool q ∧ Hid ((if q = true then failS ws 2 s3 else s3) = (needS ws (fitsB ⟨ok, ow, od⟩ mm) 2 s3).2) ∧ Hid (RSat w0 rb wv ws s3 wx ∧ w.grownBy wx (some rb) ∧ Blk wx b3 #[.int .i64 ok, .int .i64 ow, .int .i64 od] 39))
 case first =>
  have HB5 : Hid (Blk W5 rb #[.int .i64 s3.p.1, .int .i64 s3.p.2, .int .i64 s3.e, wv, .int .i64 s3.n] 82) := Lib.hid HS5.out.blk
  have r2 := HB5.out.cell (j := 2) rfl
  have c0 := HR35.out.cell (j := 0) rfl; have c1 := HR35.out.cell (j := 1) rfl; have c2 := HR35.out.cell (j := 2) rfl
  by_cases he : s3.e = 0
  ·have hm := HMB.out (HE2.out (HE3.out he))
   have HFI : Hid (∀ W, Calls Tryz.prog 182 #[.agg #[.int .i64 ok, .int .i64 ow, .int .i64 od], .int .i64 mm] W fun e w' => e = .returned (.bool (fitsB ⟨ok, ow, od⟩ mm)) ∧ Below W.heap.size W w') := Lib.hid fun W => fits_any ⟨ok, ow, od⟩ mm hm.1 hm.2 W
   have g1 : (s3.e == 0) = true := by simpa using he
   obtain ⟨q, hq⟩ : ∃ q, fitsB ⟨ok, ow, od⟩ mm = q := ⟨_, rfl⟩
   rw [hq] at HFI
   have HQ : Hid ((if (!q) = true then failS ws 2 s3 else s3) = (needS ws (fitsB ⟨ok, ow, od⟩ mm) 2 s3).2) := Lib.hid (by rw [hq]; cases q <;> rfl)
   clear hq he hm
   go_wp2_with (first | (go_at_call 182; refine (HFI.out _).mono ?_; rintro e w' ⟨rfl, hb⟩) | fail)
   go_meet
   exact ⟨!q, rfl, HQ.out, HS5.out.below hb, grown_trans HG5.out (below_grown hb _), HR35.out.below hb⟩
  ·have g1 : (s3.e == 0) = false := by simpa using he
   have HNS : Hid ((needS ws (fitsB ⟨ok, ow, od⟩ mm) 2 s3).2 = s3) := Lib.hid (by
    unfold needS
    cases fitsB ⟨ok, ow, od⟩ mm with
    | true => rfl
    | false => exact failS_er ws 2 he)
   clear he
   go_wp2_with fail
   go_meet
   exact ⟨false, rfl, HNS.out.symm, HS5.out, HG5.out, HR35.out⟩
 case rest =>
 obtain ⟨q, rfl, HQ, HCU⟩ := hcut
 clear HS5 HG5 HR35
 generalize wc = V5 at *
 have HS5 := Lib.hid HCU.out.1
 have HG5 := Lib.hid HCU.out.2.1
 have HR35 := Lib.hid HCU.out.2.2
 clear HCU
 go_upto_if 29 with fail
 go_cut [] from 30 to 31 (fun wx => Hid (RSat w0 rb wv ws (needS ws (fitsB ⟨ok, ow, od⟩ mm) 2 s3).2 wx ∧ w.grownBy wx (some rb) ∧ Blk wx b3 #[.int .i64 ok, .int .i64 ow, .int .i64 od] 39))
 case first =>
  cases q with
  | false =>
   go_wp2_with fail
   go_meet
   exact (by rw [← HQ.out]; exact ⟨HS5.out, HG5.out, HR35.out⟩)
  | true =>
   have HFA := Lib.hid (fail_any HC.out s3 2 V5 HS5.out HN3.out)
   go_wp2_with (first | (go_at_call 119; refine HFA.out.mono ?_; rintro e w' ⟨rfl, hs6, hg6⟩) | fail)
   go_meet
   exact (by rw [← HQ.out]; exact ⟨hs6, grown_trans HG5.out hg6, HR35.out.grown hg6 HNE.out⟩)
 case rest =>
 have hn4 : 1 ≤ (needS ws (fitsB ⟨ok, ow, od⟩ mm) 2 s3).2.n := by
  unfold needS
  simp only
  split
  ·exact HN3.out
  ·rw [fail_n]; exact HN3.out
 have HZ4 : Hid (SM.bind (wordS ws) (fun t => fun s' => ((mm, (⟨ok, ow, od⟩ : OnT), (clockM t).1, (clockM t).2.1), failS ws (clockM t).2.2 s')) (needS ws (fitsB ⟨ok, ow, od⟩ mm) 2 s3).2 = Z) := HZ3
 have HCU := Lib.hid hcut.out
 clear hcut
 obtain ⟨s4, h4⟩ : ∃ s4, (needS ws (fitsB ⟨ok, ow, od⟩ mm) 2 s3).2 = s4 := ⟨_, rfl⟩
 rw [h4] at hn4 HZ4 HCU
 have HN4 := Lib.hid hn4
 clear h4 hn4 HZ3 HS5 HG5 HR35 HS4 HG4 HR34 HF1
 generalize wc = W6 at *
 have HS6 := Lib.hid HCU.out.1
 have HG6 := Lib.hid HCU.out.2.1
 have HR36 := Lib.hid HCU.out.2.2
 have HWD := Lib.hid (word_any HC.out s4 W6 HS6.out)
 have HN7 := Lib.hid (word_n ws s4 HC.out.ne HS6.out.hi)
 have HSZ2 := Lib.hid (word_sz HC.out s4)
 have HZ5 : Hid (((mm, (⟨ok, ow, od⟩ : OnT), (clockM (wordS ws s4).1).1, (clockM (wordS ws s4).1).2.1), failS ws (clockM (wordS ws s4).1).2.2 (wordS ws s4).2) = Z) := HZ4
 obtain ⟨r, hr⟩ : ∃ r, wordS ws s4 = r := ⟨_, rfl⟩
 rw [hr] at HWD HN7 HSZ2 HZ5
 clear hr HZ4 HCU
 obtain ⟨t, s7⟩ := r
 simp only at HSZ2 HN7 HZ5
 obtain ⟨T, rfl⟩ := bs_of t
 obtain ⟨cc, hcc⟩ : ∃ c, clockM (bsO T) = c := ⟨_, rfl⟩
 have HCK : Hid (∀ W, Below w0.heap.size w0 W → Calls Tryz.prog 183 #[.string T] W fun e w' => e = .returned (.tuple #[.int .i64 cc.1, .int .i64 cc.2.1, .int .i64 cc.2.2]) ∧ Below W.heap.size W w') := Lib.hid (by
  rw [← hcc]
  exact fun W hW => clock_any T (by have := HSZ2.out; rw [bs_len] at this; omega) W (HGL.out.below hW))
 rw [hcc] at HZ5
 clear hcc
 obtain ⟨ca, cb, ce⟩ := cc
 have HFA : Hid (∀ W, RSat w0 rb wv ws s7 W → Calls Tryz.prog 119 #[.pointer (some ⟨rb, 0, none⟩), .int .i64 ce] W fun e' w' => e' = .returned (.tuple #[]) ∧ RSat w0 rb wv ws (failS ws ce s7) w' ∧ W.grownBy w' (some rb)) := Lib.hid fun W hW => fail_any HC.out s7 ce W hW HN7.out
 go_upto_region 8 with (first | (go_at_call 47; refine HWD.out.mono ?_; rintro e w' ⟨rfl, hs7, hg7⟩; obtain ⟨W7, hW7⟩ : ∃ W, w' = W := ⟨_, rfl⟩; rw [hW7] at hs7 hg7 ⊢; clear hW7; have HS7 := Lib.hid hs7; have HG7 := Lib.hid (grown_trans HG6.out hg7); have HR37 := Lib.hid (HR36.out.grown hg7 HNE.out)) | (go_at_call 183; refine (HCK.out _ HS7.out.bel).mono ?_; rintro e w' ⟨rfl, hb⟩; have HS8 := Lib.hid (HS7.out.below hb); have HG8 := Lib.hid (grown_trans HG7.out (below_grown hb _)); have HR38 := Lib.hid (HR37.out.below hb)) | (go_at_call 119; refine (HFA.out _ HS8.out).mono ?_; rintro e w' ⟨rfl, hs9, hg9⟩; obtain ⟨W9, hW9⟩ : ∃ W, w' = W := ⟨_, rfl⟩; rw [hW9] at hs9 hg9 ⊢; clear hW9; have HS9 := Lib.hid hs9; have HG9 := Lib.hid (grown_trans HG8.out hg9); have HR39 := Lib.hid (HR38.out.grown hg9 HNE.out)) | fail)
 obtain ⟨Y, hY⟩ : ∃ Y, (((W9.setCell ⟨b3, 0, none⟩ (.int .i64 ok)).setCell ⟨b3, 1, none⟩ (.int .i64 ow)).setCell ⟨b3, 2, none⟩ (.int .i64 od)).drew = Y := ⟨_, rfl⟩
 have HYR : Hid (Blk Y b3 #[.int .i64 ok, .int .i64 ow, .int .i64 od] 39) := Lib.hid (by rw [← hY]; exact set3_blk HR39.out _ _ _)
 have HYS : Hid (RSat w0 rb wv ws (failS ws ce s7) Y) := Lib.hid (by rw [← hY]; exact (HS9.out.other (set3_grown _ _ _ _ _) HNE.out HW0.out).below (Below.refl _ _).drew)
 have HYG : Hid (w.grownBy Y (some rb)) := Lib.hid (by
  rw [← hY]
  exact grown_trans (HG9.out.andThen (set3_grown _ _ _ _ _) (fun j hj => by cases hj; exact .inl HW3.out)) (below_grown (Below.refl _ _).drew _))
 have z0 : W9.cell? ⟨b3, 0, none⟩ = some (.int .i64 ok) := HR39.out.cell (j := 0) rfl
 have z1 : W9.cell? ⟨b3, 1, none⟩ = some (.int .i64 ow) := HR39.out.cell (j := 1) rfl
 have z2 : W9.cell? ⟨b3, 2, none⟩ = some (.int .i64 od) := HR39.out.cell (j := 2) rfl
 have y0 : W9.frozen? ⟨b3, 0, none⟩ = false := HR39.out.frz 0
 have y1 : W9.frozen? ⟨b3, 1, none⟩ = false := HR39.out.frz 1
 have y2 : W9.frozen? ⟨b3, 2, none⟩ = false := HR39.out.frz 2
 have r0 := HYR.out.cell (j := 0) rfl
 have r1 := HYR.out.cell (j := 1) rfl
 have r2 := HYR.out.cell (j := 2) rfl
 go_region
 all_goals go_wp2_with fail
 all_goals try rw [hY]
 all_goals refine bodyPost_ret (v := .tuple #[.int .i64 mm, .agg #[.int .i64 ok, .int .i64 ow, .int .i64 od], .int .i64 ca, .int .i64 cb]) (by simp [results, Tryz.results120, go_sem, r0, r1, r2]) rfl ?_
 all_goals exact (by rw [← HZ5.out]; exact ⟨rfl, HYS.out, by show 1 ≤ (failS ws ce s7).n; rw [fail_n]; exact HN7.out, HYG.out⟩)
end Go.Proofs.YtlbglinpgjlbkaaGreatDoor
