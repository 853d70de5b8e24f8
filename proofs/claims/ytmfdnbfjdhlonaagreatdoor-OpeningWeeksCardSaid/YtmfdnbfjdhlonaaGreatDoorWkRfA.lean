import Derived.Test.YtmfdnbfjdhlonaaGreatDoorWkBa
import Derived.Test.YtmfdnbfjdhlonaaGreatDoorWkPl
/- The reference's runs: Number, Span, Spans, Valid, Measure. -/
namespace Go.Proofs.YtmfdnbfjdhlonaaGreatDoor
open Go.RowKit Wk

theorem rnum_any (x : Int) (w : World) :
  Calls Tryz.prog 178 #[.int .i64 x] w fun e w' => e = .returned (.bool (lineB x)) ∧ w = w' := by
 go_enter Tryz.func178, Tryz.ntmps178
 go_wp2
 all_goals go_ret
 all_goals exact ⟨ret_bool (by rw [Bool.eq_iff_iff]; simp [lineB]; omega), rfl⟩

set_option maxHeartbeats 1000000 in
theorem rspan_any (x y : Int) (w : World) :
  Calls Tryz.prog 158 #[.agg #[.int .i64 x, .int .i64 y]] w fun e w' => e = .returned (.bool (ivB (x, y))) ∧ Below w.heap.size w w' := by
 have H1 := Lib.hid (fun W => rnum_any x W)
 have H2 := Lib.hid (fun W => rnum_any y W)
 have HI : Hid (ivB (x, y) = ((lineB x && lineB y) && decide (x < y))) := rfl
 generalize lineB x = q1 at *
 generalize lineB y = q2 at *
 obtain ⟨W, hWe⟩ : ∃ W, w.alloc (.cells #[.int .i64 x, .int .i64 y] 41) = W := ⟨_, rfl⟩
 have hB0 : Below w.heap.size w W := by rw [← hWe]; exact (Below.refl _ _).alloc (Nat.le_refl _) _
 have c0 : W.cell? ⟨w.heap.size, 0, none⟩ = some (.int .i64 x) := by rw [← hWe]; simp [go_sem]
 have c1 : W.cell? ⟨w.heap.size, 1, none⟩ = some (.int .i64 y) := by rw [← hWe]; simp [go_sem]
 have HE := Lib.hid hWe
 clear hWe
 go_enter Tryz.func158, Tryz.ntmps158
 go_wp2_with fail
 rw [HE.out]
 go_wp2_with fail
 refine (H1.out _).mono ?_
 rintro e w1 ⟨rfl, rfl⟩
 cases q1 with
 | false =>
  go_wp2
  go_ret
  exact ⟨ret_bool (by rw [HI.out]; rfl), hB0⟩
 | true =>
 go_wp2_with fail
 refine (H2.out _).mono ?_
 rintro e w2 ⟨rfl, rfl⟩
 cases q2 with
 | false =>
  go_wp2
  go_ret
  exact ⟨ret_bool (by rw [HI.out]; rfl), hB0⟩
 | true =>
  go_wp2
  go_ret
  exact ⟨ret_bool (by rw [HI.out]; rfl), hB0⟩

set_option maxHeartbeats 1000000 in
theorem rspans_any (v : Value) (l : List Sp) (w : World) (h : RdS w v l) :
  Calls Tryz.prog 118 #[v] w fun e w' => (∃ b : Bool, e = .returned (.bool b) ∧ (b = true ↔ ∀ i, i < l.length → ivB (l.getD i (0, 0)) = true)) ∧ Below w.heap.size w w' := by
 have H := Lib.hid (fun x y W => rspan_any x y W)
 obtain ⟨a, c, rfl, hl, hc⟩ := h
 go_enter Tryz.func118, Tryz.ntmps118
 go_wp2_with fail
 go_loopw [3] (fun u wr => ∃ k : Nat, u = .int .i64 k ∧ k ≤ l.length ∧ Hid (∀ i, i < k → ivB (l.getD i (0, 0)) = true) ∧ Below w.heap.size w wr) (fun u _ => l.length - (intOf u).toNat)
 case atStart => exact ⟨0, rfl, Nat.zero_le _, fun i hi => by omega, Below.refl _ _⟩
 case round =>
  obtain ⟨k, rfl, hk, HZ, hB⟩ := hrel
  by_cases hlt : k < l.length
  ·obtain ⟨b, o, x, y, rfl, hbw, HXY, d1, d2⟩ := rd_at hc hB hlt
   have HC := Lib.hid hc
   clear hc
   go_wp2_with fail
   refine (H.out x y _).mono ?_
   rintro e w1 ⟨rfl, hb1⟩
   have hB1 := keepBelow hB hb1
   clear hb1 d1 d2
   cases hi : ivB (x, y) with
   | true =>
    have HI := Lib.hid hi
    clear hi
    go_wp2
    go_roundw
    case rel =>
     refine ⟨k + 1, by go_num, by omega, fun i hi => ?_, hB1⟩
     rcases Nat.lt_succ_iff_lt_or_eq.1 hi with h | rfl
     ·exact HZ.out i h
     ·rw [HXY.out]; exact HI.out
    case measure => simp [intOf]; omega
   | false =>
    have HI := Lib.hid hi
    clear hi
    go_wp2
    go_ret
    exact ⟨⟨false, rfl, Iff.intro (fun h => by cases h) (fun h => by have := h k hlt; rw [HXY.out, HI.out] at this; cases this)⟩, hB1⟩
  ·clear hc
   go_wp2
   go_ret
   exact ⟨⟨true, rfl, Iff.intro (fun _ i hi => HZ.out i (by omega)) (fun _ => rfl)⟩, hB⟩

set_option maxHeartbeats 2000000 in
theorem rval_any (v : Value) (l : List Sp) (w : World) (h : RdS w v l) :
  Calls Tryz.prog 82 #[v] w fun e w' => e = .returned (.bool (rvB l)) ∧ Below w.heap.size w w' := by
 have H := Lib.hid (fun W h => rspans_any v l W h)
 have HD := Lib.hid h
 obtain ⟨a, c, rfl, hl, hc⟩ := h
 by_cases h2 : l.length ≤ 2000
 ·have g2 : decide (2000 < (l.length : Int)) = false := by simp; omega
  go_enter Tryz.func82, Tryz.ntmps82
  go_wp2_with fail
  refine (H.out _ HD.out).mono ?_
  rintro e w1 ⟨⟨b, rfl, hb⟩, hb1⟩
  cases b with
  | false =>
   have HF : Hid (rvB l = false) := by
    unfold Hid
    cases hr : rvB l with
    | false => rfl
    | true =>
     have := hb.2 (fun i hi => by
      have := ((rvB_iff l).1 hr).2 i hi
      unfold okAt at this
      simp only [Bool.and_eq_true] at this
      exact this.1)
     cases this
   clear hb hc
   go_wp2
   go_ret
   exact ⟨ret_bool HF.out.symm, hb1⟩
  | true =>
   have HV := Lib.hid (hb.1 rfl)
   clear hb
   go_wp2_with fail
   go_loopw [3] (fun u wr => ∃ k : Nat, u = .int .i64 k ∧ 1 ≤ k ∧ (k ≤ l.length ∨ k = 1) ∧ Hid (∀ i, i < k → i < l.length → okAt l i = true) ∧ Below w.heap.size w wr) (fun u _ => l.length + 1 - (intOf u).toNat)
   case atStart =>
    refine ⟨1, rfl, Nat.le_refl _, .inr rfl, fun i hi hl2 => ?_, hb1⟩
    obtain rfl : i = 0 := by omega
    unfold okAt
    rw [HV.out 0 hl2]
    rfl
   case round =>
    obtain ⟨k, rfl, hk1, hk2, HZ, hB⟩ := hrel
    by_cases hlt : k < l.length
    ·obtain ⟨b, o, x, y, rfl, hbw, HXY, d1, d2⟩ := rd_at hc hB hlt
     obtain ⟨b', o', x', y', e', _, HXY', d3, d4⟩ := rd_at (k := k - 1) hc hB (by omega)
     cases e'
     have e1 := ext_cell d1
     have e4 := ext_cell d4
     have s1 : IntKind.i64.wrap ((k : Int) - 1) = (k : Int) - 1 := by rw [IntKind.wrap_i64]; omega
     have s2 : ((k : Int) - 1).toNat = k - 1 := by omega
     have s3 : (0 : Int) ≤ (k : Int) - 1 := by omega
     have s4 : (k : Int) - 1 < (l.length : Int) := by omega
     have HC := Lib.hid hc
     clear hc d1 d2 d3 d4
     by_cases hxy : x ≤ y'
     ·have g3 : decide (x ≤ y') = true := by simpa using hxy
      have HF : Hid (rvB l = false) := rvB_false_of hlt (okAt_bad HXY.out (.inr ⟨by omega, by rw [HXY'.out]; exact hxy⟩))
      go_wp2_with fail
      refine wp_region_ext (by kernel_rfl) (by kernel_rfl) ?_
      iterate 12 (go_big_quiet_step (fail))
      refine wpQuiet_nil ?_
      intro w2 hb2
      go_wp2
      go_ret
      exact ⟨ret_bool HF.out.symm, keepBelow hB hb2⟩
     ·have g3 : decide (x ≤ y') = false := by simpa using hxy
      have HK : Hid (okAt l k = true) := okAt_mk HXY.out (by have := HV.out k hlt; rwa [HXY.out] at this) (.inr (by rw [HXY'.out]; show y' < x; omega))
      go_wp2_with fail
      refine wp_region_ext (by kernel_rfl) (by kernel_rfl) ?_
      iterate 12 (go_big_quiet_step (fail))
      refine wpQuiet_nil ?_
      intro w2 hb2
      have hB2 := keepBelow hB hb2
      go_wp2
      go_roundw
      case rel =>
       refine ⟨k + 1, by go_num, by omega, .inl (by omega), fun i hi hl2 => ?_, hB2⟩
       rcases Nat.lt_succ_iff_lt_or_eq.1 hi with h | rfl
       ·exact HZ.out i h hl2
       ·exact HK.out
      case measure => simp [intOf]; omega
    ·have HT : Hid (rvB l = true) := (rvB_iff l).2 ⟨h2, fun i hi => HZ.out i (by omega) hi⟩
     clear hc
     go_wp2
     go_ret
     exact ⟨ret_bool HT.out.symm, hB⟩
 ·have g2 : decide (2000 < (l.length : Int)) = true := by simp; omega
  have HF : Hid (rvB l = false) := by
   unfold Hid
   cases hr : rvB l with
   | false => rfl
   | true => exact absurd ((rvB_iff l).1 hr).1 h2
  clear hc
  go_enter Tryz.func82, Tryz.ntmps82
  go_wp2
  go_ret
  exact ⟨ret_bool HF.out.symm, Below.refl _ _⟩

end Go.Proofs.YtmfdnbfjdhlonaaGreatDoor
namespace Go.Proofs.YtmfdnbfjdhlonaaGreatDoor
open Go.RowKit Wk

theorem OwnS.setLast {w : World} {B g c : Nat} {K : List Sp} {y z : Int} {n : Nat} (h : OwnS w B (.slice (some ⟨g, 0, none⟩) n c) (K ++ [(y, z)])) (u : Int) :
  OwnS (w.setCell ⟨g, K.length * 2 + 1, none⟩ (.int .i64 u)) B (.slice (some ⟨g, 0, none⟩) n c) (K ++ [(y, u)]) ∧ w.grownBy (w.setCell ⟨g, K.length * 2 + 1, none⟩ (.int .i64 u)) (some g) := by
 have hn : n = (K ++ [(y, z)]).length := by
  rcases h.2 with ⟨e, _⟩ | ⟨g', cap, cur, e, _⟩
  ·cases e
  ·cases e; rfl
 subst hn
 have hs := World.ownsRow.stored h (K.length * 2 + 1) (.int .i64 u)
 refine ⟨?_, hs.2⟩
 have e : (flatS (K ++ [(y, z)])).set (K.length * 2 + 1) (.int .i64 u) = flatS (K ++ [(y, u)]) := by
  rw [flatS_append, flatS_append, List.set_append, if_neg (by rw [flatS_length]; omega), flatS_length]
  congr 1
  rw [show K.length * 2 + 1 - K.length * 2 = 1 by omega]
  rfl
 have h1 := hs.1
 rw [e] at h1
 unfold OwnS
 have e2 : (K ++ [(y, u)]).length = (K ++ [(y, z)]).length := by simp
 rw [e2]
 exact h1
theorem OwnS.frozen {w : World} {B g c n : Nat} {l : List Sp} (h : OwnS w B (.slice (some ⟨g, 0, none⟩) n c) l) (j : Nat) : w.frozen? ⟨g, j, none⟩ = false := by
 have hn : n = l.length := by
  rcases h.2 with ⟨e, _⟩ | ⟨g', cap, cur, e, _⟩
  ·cases e
  ·cases e; rfl
 subst hn
 exact World.ownsRow.frozenAt h j

set_option maxHeartbeats 1000000 in
theorem pspan_any (x y : Int) (w : World) :
  Calls Tryz.prog 75 #[.agg #[.int .i64 x, .int .i64 y]] w fun e w' => e = .returned (.bool (ivB (x, y))) ∧ Below w.heap.size w w' := by
 obtain ⟨W, hWe⟩ : ∃ W, w.alloc (.cells #[.int .i64 x, .int .i64 y] 41) = W := ⟨_, rfl⟩
 have hB0 : Below w.heap.size w W := by rw [← hWe]; exact (Below.refl _ _).alloc (Nat.le_refl _) _
 have c0 : W.cell? ⟨w.heap.size, 0, none⟩ = some (.int .i64 x) := by rw [← hWe]; simp [go_sem]
 have c1 : W.cell? ⟨w.heap.size, 1, none⟩ = some (.int .i64 y) := by rw [← hWe]; simp [go_sem]
 have HE := Lib.hid hWe
 clear hWe
 have HI : Hid (ivB (x, y) = ((decide (-4398046511104 ≤ x) && decide (y ≤ 4398046511104)) && decide (x < y))) := by
  unfold Hid
  rw [Bool.eq_iff_iff, ivB_iff]
  simp
  omega
 cases g1 : decide (-4398046511104 ≤ x) with
 | false =>
  go_enter Tryz.func75, Tryz.ntmps75
  go_wp2_with fail
  rw [HE.out]
  go_wp2
  go_ret
  exact ⟨ret_bool (by rw [HI.out, g1]; rfl), hB0⟩
 | true =>
  cases g2 : decide (y ≤ 4398046511104) with
  | false =>
   go_enter Tryz.func75, Tryz.ntmps75
   go_wp2_with fail
   rw [HE.out]
   go_wp2
   go_ret
   exact ⟨ret_bool (by rw [HI.out, g1, g2]; rfl), hB0⟩
  | true =>
   go_enter Tryz.func75, Tryz.ntmps75
   go_wp2_with fail
   rw [HE.out]
   go_wp2
   go_ret
   exact ⟨ret_bool (by rw [HI.out, g1, g2]; simp), hB0⟩

theorem prule_any (kind : Int) (p q : Bool) (w : World) :
  Calls Tryz.prog 116 #[.int .i64 kind, .bool p, .bool q] w fun e w' => e = .returned (.bool (ruleB kind p q)) ∧ w = w' := by
 unfold ruleB
 by_cases h0 : kind = 0
 ·subst h0
  rw [if_pos rfl]
  cases p with
  | false =>
   go_enter Tryz.func116, Tryz.ntmps116
   go_wp2
   go_ret
   exact ⟨rfl, rfl⟩
  | true =>
   go_enter Tryz.func116, Tryz.ntmps116
   go_wp2
   go_ret
   exact ⟨rfl, rfl⟩
 ·have g0 : (kind == 0) = false := by simpa using h0
  rw [if_neg h0]
  by_cases h1 : kind = 1
  ·subst h1
   rw [if_pos rfl]
   cases p with
   | false =>
    go_enter Tryz.func116, Tryz.ntmps116
    go_wp2
    go_ret
    exact ⟨rfl, rfl⟩
   | true =>
    go_enter Tryz.func116, Tryz.ntmps116
    go_wp2
    go_ret
    exact ⟨rfl, rfl⟩
  ·have g1 : (kind == 1) = false := by simpa using h1
   rw [if_neg h1]
   cases p with
   | false =>
    go_enter Tryz.func116, Tryz.ntmps116
    go_wp2
    go_ret
    exact ⟨rfl, rfl⟩
   | true =>
    go_enter Tryz.func116, Tryz.ntmps116
    go_wp2
    go_ret
    exact ⟨rfl, rfl⟩
end Go.Proofs.YtmfdnbfjdhlonaaGreatDoor
