import Derived.Test.YtkfonfheakpcbaaGreatWkRfC
import Derived.Test.YtkfonfheakpcbaaGreatWkPm
/- The reference's working time: list, below, Count. -/
namespace Go.Proofs.YtkfonfheakpcbaaGreat
open Go.RowKit Wk

set_option maxRecDepth 100000 in
set_option maxHeartbeats 2000000 in
theorem list26_any (v : Value) (l : List Sp) (a b : Int) (w : World) (h : RdS w v l) (hc : Canon l) (hbd : Bnd l) (hll : l.length ≤ 2000) (hab : a ≤ b) (ha : -8796093022208 ≤ a) (hb : b ≤ 8796093022208) :
    Calls Tryz.prog 81 #[v, .int .i64 a, .int .i64 b] w fun e w' => e = .returned (.int .i64 (rank l b - rank l a)) ∧ Below w.heap.size w w' := by
  obtain ⟨p, c, rfl, hl, hcc⟩ := h
  have HC := Lib.hid hcc
  have HCA := Lib.hid hc
  have HBD := Lib.hid hbd
  clear hcc hc hbd
  go_enter Tryz.func81, Tryz.ntmps81
  go_wp2_with fail
  go_loopw [7, 8] (fun u vi wr => ∃ k : Nat, vi = .int .i64 k ∧ k ≤ l.length ∧ u = .int .i64 (rank (l.take k) b - rank (l.take k) a) ∧ Below w.heap.size w wr) (fun _ vi _ => l.length - (intOf vi).toNat)
  case atStart => exact ⟨0, rfl, Nat.zero_le _, by simp [rank], Below.refl _ _⟩
  case round =>
    obtain ⟨k, rfl, hk, rfl, hB⟩ := hrel
    by_cases hlt : k < l.length
    · obtain ⟨bb, o, x, y, rfl, hbw, HXY, d1, d2⟩ := rd_at HC.out hB hlt
      have hxy := canon_pos HCA.out _ (mem_of_getD HXY.out hlt)
      have hxb := HBD.out _ (mem_of_getD HXY.out hlt)
      simp only at hxy hxb
      have hS := Lib.hid (list_succ (a := a) (b := b) HXY.out hlt hxy hab)
      have r1 := rank_bd b (HBD.out.take k)
      have r2 := rank_bd a (HBD.out.take k)
      have hlen := List.length_take_le k l
      obtain ⟨A, hA⟩ : ∃ A, rank (l.take k) b - rank (l.take k) a = A := ⟨_, rfl⟩
      have hA1 : -20000000000000000 ≤ A ∧ A ≤ 20000000000000000 := by
        rw [← hA]
        omega
      rw [hA] at hS ⊢
      clear r1 r2 hA hlen
      have hlt' : (k : Int) < (l.length : Int) := by omega
      go_upto_region 5 with fail
      have hBd := keepBelow hB (Below.refl _ wr).drew
      go_region
      all_goals go_wp2
      all_goals go_roundw
      all_goals first | (exact ⟨k + 1, by go_num, by omega, by rw [hS.out], hBd⟩) | (simp [intOf]; omega)
    · have e : l.take k = l := List.take_of_length_le (by omega)
      rw [e]
      go_wp2
      go_ret
      exact ⟨rfl, hB⟩

set_option maxRecDepth 100000 in
set_option maxHeartbeats 4000000 in
theorem below13_any (P x : Int) (v : Value) (l : List Sp) (w : World) (h : RdS w v l) (hg : GoodP (P, l)) (hbd : Bnd l) (hP2 : P ≤ 12622780800) (hll : l.length ≤ 2000) (hx1 : -17592186044416 ≤ x) (hx2 : x ≤ 17592186044416) :
    Calls Tryz.prog 111 #[.agg #[.int .i64 P, v], .int .i64 x] w fun e w' => e = .returned (.int .i64 (rankP (P, l) x)) ∧ Below w.heap.size w w' := by
  have hP1 : 1 ≤ P := hg.pos
  have HDIV := Lib.hid (fun W => rdiv_any x P W hP1 (by omega) (by omega) (by omega))
  have HRK : Hid (rankP (P, l) x = x / P * meas l + rank l (x % P)) := by unfold Hid rankP; simp only; rw [mod_eq]
  have hq1 : -17592186044416 ≤ x / P ∧ x / P ≤ 17592186044416 := by
    have := Int.natAbs_ediv_le_natAbs x P
    omega
  have hrb := rankP_bd hg x
  have r0 := Int.emod_nonneg x (b := P) (by omega)
  have r1 := Int.emod_lt_of_pos x (b := P) (by omega)
  have hrr := rank_bounds (l := l) (x % P) hg.canon
  have hme := meas_le hg
  simp only at hme
  obtain ⟨q, hq⟩ : ∃ q, x / P = q := ⟨_, rfl⟩
  obtain ⟨r, hr⟩ : ∃ r, x % P = r := ⟨_, rfl⟩
  rw [hq] at HDIV HRK hq1
  rw [hr] at HDIV HRK r0 r1 hrr
  have hqm : -20000000000000 ≤ q * meas l ∧ q * meas l ≤ 20000000000000 := by
    have := HRK.out
    rcases Int.le_total 0 x with h1 | h1
    · have := hrb.1 h1; omega
    · have := hrb.2 h1; omega
  clear hq hr hrb
  rw [HRK.out]
  have HGC := Lib.hid hg.canon
  have HBD := Lib.hid hbd
  obtain ⟨a, c, rfl, hl, hc⟩ := h
  obtain ⟨W, hWe⟩ : ∃ W, w.alloc (.cells #[.int .i64 P, .slice a l.length c] 24) = W := ⟨_, rfl⟩
  have hB0 : Below w.heap.size w W := by rw [← hWe]; exact (Below.refl _ _).alloc (Nat.le_refl _) _
  have c0 : W.cell? ⟨w.heap.size, 0, none⟩ = some (.int .i64 P) := by rw [← hWe]; simp [go_sem]
  have c1 : W.cell? ⟨w.heap.size, 1, none⟩ = some (.slice a l.length c) := by rw [← hWe]; simp [go_sem]
  have HE := Lib.hid hWe
  have HC := Lib.hid hc
  clear hWe hc hg hbd
  go_enter Tryz.func111, Tryz.ntmps111
  go_wp2_with fail
  rw [HE.out]
  go_wp2_with fail
  refine (HDIV.out _).mono ?_
  rintro e w1 ⟨rfl, hb1⟩
  have k1 := keepCell hb1 c1
  have hB1 := keepBelow hB0 hb1
  clear c0 c1 hb1
  go_wp2_with fail
  go_loopw [8, 9, 10] (fun u1 u2 vi wr => ∃ k : Nat, vi = .int .i64 k ∧ k ≤ l.length ∧ u1 = .int .i64 (meas (l.take k)) ∧ u2 = .int .i64 (rank (l.take k) r) ∧ Below w1.heap.size w1 wr) (fun _ _ vi _ => l.length - (intOf vi).toNat)
  case atStart => exact ⟨0, rfl, Nat.zero_le _, rfl, rfl, Below.refl _ _⟩
  case round =>
    obtain ⟨k, rfl, hk, rfl, rfl, hB⟩ := hrel
    have m1 := keepCell hB k1
    have hBn := keepBelow hB1 hB
    by_cases hlt : k < l.length
    · obtain ⟨bb, o, x1, y1, rfl, hbw, HXY, d1, d2⟩ := rd_at HC.out hBn hlt
      have hxy := canon_pos HGC.out _ (mem_of_getD HXY.out hlt)
      have hxb := HBD.out _ (mem_of_getD HXY.out hlt)
      simp only at hxy hxb
      have hS1 := Lib.hid (meas_take_succ HXY.out hlt)
      have hS2 := Lib.hid (below_succ (r := r) HXY.out hlt hxy)
      have b1 := meas_bd (HBD.out.take k)
      have b2 := rank_bd r (HBD.out.take k)
      have hlen := List.length_take_le k l
      obtain ⟨A, hA⟩ : ∃ A, meas (l.take k) = A := ⟨_, rfl⟩
      obtain ⟨B, hBB⟩ : ∃ B, rank (l.take k) r = B := ⟨_, rfl⟩
      rw [hA] at hS1 b1 ⊢
      rw [hBB] at hS2 b2 ⊢
      have hA1 : 0 ≤ A ∧ A ≤ 20000000000000000 := by omega
      have hB2 : 0 ≤ B ∧ B ≤ 20000000000000000 := by omega
      clear hA hBB b1 b2 hlen
      have hlt' : (k : Int) < (l.length : Int) := by omega
      go_upto_region 6 with fail
      go_cut [8] from 19 to 58 (fun u wx => u = .int .i64 (A + (y1 - x1)) ∧ Below wr.heap.size wr wx)
      case first =>
        go_region
        all_goals (go_wp2_with fail; go_meet; case rel => exact ⟨congrArg (Value.int IntKind.i64) (by omega), (Below.refl _ wr).drew⟩)
      case rest =>
      obtain ⟨rfl, hbc⟩ := hcut
      have m2 := keepCell hbc m1
      have e1 := keepCell hbc d1
      have e2 := keepCell hbc d2
      have hBc := keepBelow hB hbc
      clear d1 d2 m1 hbc
      go_upto_region 7 with fail
      have hBd := keepBelow hBc (Below.refl _ wc).drew
      go_region
      all_goals go_wp2
      all_goals go_roundw
      all_goals first | (exact ⟨k + 1, by go_num, by omega, by rw [hS1.out], by rw [hS2.out], hBd⟩) | (simp [intOf]; omega)
    · have e : l.take k = l := List.take_of_length_le (by omega)
      rw [e]
      have s1 : IntKind.i64.wrap (q * meas l) = q * meas l := by rw [IntKind.wrap_i64]; omega
      have s2 : IntKind.i64.wrap (q * meas l + rank l r) = q * meas l + rank l r := by rw [IntKind.wrap_i64]; omega
      go_wp2
      go_ret
      exact ⟨rfl, hBn⟩
end Go.Proofs.YtkfonfheakpcbaaGreat
/- The reference's working time: Count, count, Measure, given, amount. -/
namespace Go.Proofs.YtkfonfheakpcbaaGreat
open Go.RowKit Wk

set_option maxRecDepth 100000 in
set_option maxHeartbeats 2000000 in
theorem count13_any (P f t : Int) (v : Value) (l : List Sp) (w : World) (h : RdS w v l) (hv : pvB P l = true) (hf1 : -8796093022208 ≤ f) (hf2 : f ≤ 8796093022208) (ht1 : -8796093022208 ≤ t) (ht2 : t ≤ 8796093022208) :
    Calls Tryz.prog 82 #[.agg #[.int .i64 P, v], .agg #[.int .i64 f, .int .i64 t]] w fun e w' => e = .returned (.int .i64 (rankP (P, l) t - rankP (P, l) f)) ∧ Below w.heap.size w w' := by
  obtain ⟨hrv, hP1, hP2, _⟩ := rvB_of_pvB hv
  obtain ⟨_, hbd, hll⟩ := canon_of_rvB hrv
  have hg := goodP_of_pvB hv
  have K : Hid (∀ x W, RdS W v l → -17592186044416 ≤ x → x ≤ 17592186044416 → Calls Tryz.prog 111 #[.agg #[.int .i64 P, v], .int .i64 x] W fun e w' => e = .returned (.int .i64 (rankP (P, l) x)) ∧ Below W.heap.size W w') := fun x W hr h1 h2 => below13_any P x v l W hr hg hbd hP2 hll h1 h2
  have b1 := rankP_bd hg f
  have b2 := rankP_bd hg t
  have c1 : -8796093022208 ≤ rankP (P, l) f ∧ rankP (P, l) f ≤ 8796093022208 := by
    rcases Int.le_total 0 f with h1 | h1
    · have := b1.1 h1; omega
    · have := b1.2 h1; omega
  have c2 : -8796093022208 ≤ rankP (P, l) t ∧ rankP (P, l) t ≤ 8796093022208 := by
    rcases Int.le_total 0 t with h1 | h1
    · have := b2.1 h1; omega
    · have := b2.2 h1; omega
  clear b1 b2 hg hbd hv hrv
  have HD := Lib.hid h
  obtain ⟨a, c, rfl, hl, hc⟩ := h
  clear hc
  obtain ⟨W, hWe⟩ : ∃ W, (w.alloc (.cells #[.int .i64 P, .slice a l.length c] 24)).alloc (.cells #[.int .i64 f, .int .i64 t] 44) = W := ⟨_, rfl⟩
  have hW : Below w.heap.size w W := by rw [← hWe]; exact ((Below.refl _ _).alloc (Nat.le_refl _) _).alloc (by simp) _
  have d0 : W.cell? ⟨w.heap.size, 0, none⟩ = some (.int .i64 P) := by rw [← hWe]; simp [go_sem]
  have d1 : W.cell? ⟨w.heap.size, 1, none⟩ = some (.slice a l.length c) := by rw [← hWe]; simp [go_sem]
  have d2 : W.cell? ⟨w.heap.size + 1, 0, none⟩ = some (.int .i64 f) := by rw [← hWe]; simp [go_sem]
  have d3 : W.cell? ⟨w.heap.size + 1, 1, none⟩ = some (.int .i64 t) := by rw [← hWe]; simp [go_sem]
  have HE := Lib.hid hWe
  clear hWe
  have e0 := ext_cell d0
  have e1 := ext_cell d1
  have e2 := ext_cell d2
  have e3 := ext_cell d3
  have HR := Lib.hid (keepRd hW HD.out)
  go_enter Tryz.func82, Tryz.ntmps82
  go_wp2_with fail
  rw [HE.out]
  go_wp2_with fail
  refine wp_region_ext (by kernel_rfl) (by kernel_rfl) ?_
  iterate 10 (go_big_quiet_step ((go_at_call 111; refine calls_ext (K.out _ _ (ext_rd HR.out _) (by omega) (by omega)))))
  refine wpQuiet_nil ?_
  intro w1 hb1
  go_wp2
  go_ret
  exact ⟨rfl, keepBelow hW hb1⟩

set_option maxRecDepth 100000 in
set_option maxHeartbeats 4000000 in
theorem count26_any (s : St) (vl vr vv : Value) (a b : Int) (w : World) (h : RdSt w s vl vr vv) (hs : OkS s) (hab : a ≤ b) (ha : -8796093022208 ≤ a) (hb : b ≤ 8796093022208) :
    Calls Tryz.prog 54 #[.agg #[.int .i64 s.lf.1, vl, .int .i64 s.rt.1, vr, .int .i64 s.fr, .int .i64 s.to, vv], .int .i64 a, .int .i64 b] w fun e w' => e = .returned (.int .i64 (potS s b - potS s a)) ∧ Below w.heap.size w w' := by
  have HCE := Lib.hid (count_eq hs.good hab)
  obtain ⟨⟨P, l⟩, ⟨Q, m⟩, f, t, k⟩ := s
  obtain ⟨hv1, hv2, hv3, hf1, hft, ht1, _⟩ := hs
  simp only at hv1 hv2 hv3 hf1 hft ht1 HCE ⊢
  obtain ⟨hck, hbk, hlk⟩ := canon_of_rvB hv3
  have HR0 := Lib.hid h
  obtain ⟨h1, h2, h3⟩ := h
  simp only at h1 h2 h3
  have C1 := Lib.hid (fun W h3 => list26_any vv k a b W h3 hck hbk hlk hab ha hb)
  have C2 := Lib.hid (fun W (h1 : RdS W vl l) x y => count13_any P x y vl l W h1 hv1)
  have C3 := Lib.hid (fun W (h2 : RdS W vr m) x y => count13_any Q x y vr m W h2 hv2)
  have r1 := rank_bd b hbk
  have r2 := rank_bd a hbk
  have q1 := rankP_bd (goodP_of_pvB hv1)
  have q2 := rankP_bd (goodP_of_pvB hv2)
  have HQ1 : Hid (∀ x, -8796093022208 ≤ x → x ≤ 8796093022208 → -8796093022208 ≤ rankP (P, l) x ∧ rankP (P, l) x ≤ 8796093022208) := fun x h1 h2 => by
    rcases Int.le_total 0 x with h | h
    · have := (q1 x).1 h; omega
    · have := (q1 x).2 h; omega
  have HQ2 : Hid (∀ x, -8796093022208 ≤ x → x ≤ 8796093022208 → -8796093022208 ≤ rankP (Q, m) x ∧ rankP (Q, m) x ≤ 8796093022208) := fun x h1 h2 => by
    rcases Int.le_total 0 x with h | h
    · have := (q2 x).1 h; omega
    · have := (q2 x).2 h; omega
  rw [← HCE.out]
  obtain ⟨R, hR⟩ : ∃ R, rank k b - rank k a = R := ⟨_, rfl⟩
  have hRb : -20000000000000000 ≤ R ∧ R ≤ 20000000000000000 := by rw [← hR]; omega
  rw [hR] at C1 ⊢
  clear r1 r2 q1 q2 hR HCE hv1 hv2 hv3 hck hbk
  obtain ⟨a1, n1, rfl⟩ := h1.form
  obtain ⟨a2, n2, rfl⟩ := h2.form
  obtain ⟨a3, n3, rfl⟩ := h3.form
  clear h1 h2 h3
  obtain ⟨W, hWe⟩ : ∃ W, w.alloc (.cells #[.int .i64 P, .slice a1 l.length n1, .int .i64 Q, .slice a2 m.length n2, .int .i64 f, .int .i64 t, .slice a3 k.length n3] 26) = W := ⟨_, rfl⟩
  have hW : Below w.heap.size w W := by rw [← hWe]; exact (Below.refl _ w).alloc (Nat.le_refl _) _
  have HX : Hid (Set7 W w.heap.size (.int .i64 P) (.slice a1 l.length n1) (.int .i64 Q) (.slice a2 m.length n2) (.int .i64 f) (.int .i64 t) (.slice a3 k.length n3)) := by
    rw [← hWe]
    refine ⟨⟨?_, ?_, ?_, ?_, ?_, ?_, ?_⟩, ?_, ?_, ?_, ?_, ?_, ?_, ?_⟩ <;> simp [go_sem]
  have HR := Lib.hid (keepSt hW HR0.out)
  have HE := Lib.hid hWe
  clear hWe
  by_cases g1 : a < min b f
  · have t1 : decide (a < min b f) = true := by simpa using g1
    rw [if_pos g1]
    obtain ⟨M, hM⟩ : ∃ M, min b f = M := ⟨_, rfl⟩
    have hMb : -8796093022208 ≤ M ∧ M ≤ 8796093022208 := by omega
    have qa := HQ1.out a (by omega) (by omega)
    have qM := HQ1.out M (by omega) (by omega)
    rw [hM] at t1 ⊢
    have hMM : min b f = M := hM
    obtain ⟨L, hL⟩ : ∃ L, rankP (P, l) M - rankP (P, l) a = L := ⟨_, rfl⟩
    have C2' := C2.out
    have D2 := Lib.hid (fun W h1 => C2' W h1 a M (by omega) (by omega) (by omega) (by omega))
    rw [hL] at D2 ⊢
    have hLb : -20000000000000 ≤ L ∧ L ≤ 20000000000000 := by omega
    clear hL qa qM C2'
    by_cases g2 : max a t < b
    · have t2 : decide (max a t < b) = true := by simpa using g2
      rw [if_pos g2]
      obtain ⟨N, hN⟩ : ∃ N, max a t = N := ⟨_, rfl⟩
      have hNb : -8796093022208 ≤ N ∧ N ≤ 8796093022208 := by omega
      have qb := HQ2.out b (by omega) (by omega)
      have qN := HQ2.out N (by omega) (by omega)
      rw [hN] at t2 ⊢
      obtain ⟨L2, hL2⟩ : ∃ L2, rankP (Q, m) b - rankP (Q, m) N = L2 := ⟨_, rfl⟩
      have C3' := C3.out
      have D3 := Lib.hid (fun W h1 => C3' W h1 N b (by omega) (by omega) (by omega) (by omega))
      rw [hL2] at D3 ⊢
      have hL2b : -20000000000000 ≤ L2 ∧ L2 ≤ 20000000000000 := by omega
      clear hL2 qb qN C3'
      clear C2 C3 HQ1 HQ2 g1 g2
      obtain ⟨⟨B0, B1, B2, B3, B4, B5, B6⟩, _⟩ := HX.out
      go_enter Tryz.func54, Tryz.ntmps54
      go_wp2_with fail
      rw [HE.out]
      go_wp2_with fail
      refine (C1.out _ HR.out.2.2).mono ?_
      rintro e w1 ⟨rfl, hb1⟩
      have HX1 := Lib.hid (HX.out.below hb1)
      have HR1 := Lib.hid (keepSt hb1 HR.out)
      have hB1 := keepBelow hW hb1
      clear hb1 B0 B1 B2 B3 B4 B5 B6
      obtain ⟨⟨B0, B1, B2, B3, B4, B5, B6⟩, _⟩ := HX1.out
      go_wp2_with fail
      refine (D2.out _ HR1.out.1).mono ?_
      rintro e w2 ⟨rfl, hb2⟩
      have HX2 := Lib.hid (HX1.out.below hb2)
      have HR2 := Lib.hid (keepSt hb2 HR1.out)
      have hB2 := keepBelow hB1 hb2
      clear hb2 B0 B1 B2 B3 B4 B5 B6
      obtain ⟨⟨B0, B1, B2, B3, B4, B5, B6⟩, _⟩ := HX2.out
      go_wp2_with fail
      refine (D3.out _ HR2.out.2.1).mono ?_
      rintro e w3 ⟨rfl, hb3⟩
      have hB3 := keepBelow hB2 hb3
      clear hb3 B0 B1 B2 B3 B4 B5 B6
      go_wp2
      go_ret
      exact ⟨ret_int (by omega), hB3⟩
    · have t2 : decide (max a t < b) = false := by simpa using g2
      rw [if_neg g2]
      clear C2 C3 HQ1 HQ2 g1 g2
      obtain ⟨⟨B0, B1, B2, B3, B4, B5, B6⟩, _⟩ := HX.out
      go_enter Tryz.func54, Tryz.ntmps54
      go_wp2_with fail
      rw [HE.out]
      go_wp2_with fail
      refine (C1.out _ HR.out.2.2).mono ?_
      rintro e w1 ⟨rfl, hb1⟩
      have HX1 := Lib.hid (HX.out.below hb1)
      have HR1 := Lib.hid (keepSt hb1 HR.out)
      have hB1 := keepBelow hW hb1
      clear hb1 B0 B1 B2 B3 B4 B5 B6
      obtain ⟨⟨B0, B1, B2, B3, B4, B5, B6⟩, _⟩ := HX1.out
      go_wp2_with fail
      refine (D2.out _ HR1.out.1).mono ?_
      rintro e w2 ⟨rfl, hb2⟩
      have HX2 := Lib.hid (HX1.out.below hb2)
      have HR2 := Lib.hid (keepSt hb2 HR1.out)
      have hB2 := keepBelow hB1 hb2
      clear hb2 B0 B1 B2 B3 B4 B5 B6
      obtain ⟨⟨B0, B1, B2, B3, B4, B5, B6⟩, _⟩ := HX2.out
      go_wp2
      go_ret
      exact ⟨ret_int (by omega), hB2⟩

  · have t1 : decide (a < min b f) = false := by simpa using g1
    rw [if_neg g1]
    by_cases g2 : max a t < b
    · have t2 : decide (max a t < b) = true := by simpa using g2
      rw [if_pos g2]
      obtain ⟨N, hN⟩ : ∃ N, max a t = N := ⟨_, rfl⟩
      have hNb : -8796093022208 ≤ N ∧ N ≤ 8796093022208 := by omega
      have qb := HQ2.out b (by omega) (by omega)
      have qN := HQ2.out N (by omega) (by omega)
      rw [hN] at t2 ⊢
      obtain ⟨L2, hL2⟩ : ∃ L2, rankP (Q, m) b - rankP (Q, m) N = L2 := ⟨_, rfl⟩
      have C3' := C3.out
      have D3 := Lib.hid (fun W h1 => C3' W h1 N b (by omega) (by omega) (by omega) (by omega))
      rw [hL2] at D3 ⊢
      have hL2b : -20000000000000 ≤ L2 ∧ L2 ≤ 20000000000000 := by omega
      clear hL2 qb qN C3'
      clear C2 C3 HQ1 HQ2 g1 g2
      obtain ⟨⟨B0, B1, B2, B3, B4, B5, B6⟩, _⟩ := HX.out
      go_enter Tryz.func54, Tryz.ntmps54
      go_wp2_with fail
      rw [HE.out]
      go_wp2_with fail
      refine (C1.out _ HR.out.2.2).mono ?_
      rintro e w1 ⟨rfl, hb1⟩
      have HX1 := Lib.hid (HX.out.below hb1)
      have HR1 := Lib.hid (keepSt hb1 HR.out)
      have hB1 := keepBelow hW hb1
      clear hb1 B0 B1 B2 B3 B4 B5 B6
      obtain ⟨⟨B0, B1, B2, B3, B4, B5, B6⟩, _⟩ := HX1.out
      go_wp2_with fail
      refine (D3.out _ HR1.out.2.1).mono ?_
      rintro e w3 ⟨rfl, hb3⟩
      have hB3 := keepBelow hB1 hb3
      clear hb3 B0 B1 B2 B3 B4 B5 B6
      go_wp2
      go_ret
      exact ⟨ret_int (by omega), hB3⟩
    · have t2 : decide (max a t < b) = false := by simpa using g2
      rw [if_neg g2]
      clear C2 C3 HQ1 HQ2 g1 g2
      obtain ⟨⟨B0, B1, B2, B3, B4, B5, B6⟩, _⟩ := HX.out
      go_enter Tryz.func54, Tryz.ntmps54
      go_wp2_with fail
      rw [HE.out]
      go_wp2_with fail
      refine (C1.out _ HR.out.2.2).mono ?_
      rintro e w1 ⟨rfl, hb1⟩
      have HX1 := Lib.hid (HX.out.below hb1)
      have HR1 := Lib.hid (keepSt hb1 HR.out)
      have hB1 := keepBelow hW hb1
      clear hb1 B0 B1 B2 B3 B4 B5 B6
      obtain ⟨⟨B0, B1, B2, B3, B4, B5, B6⟩, _⟩ := HX1.out
      go_wp2
      go_ret
      exact ⟨ret_int (by omega), hB1⟩

set_option maxRecDepth 100000 in
set_option maxHeartbeats 1000000 in
theorem given26_any (s : St) (vl vr vv : Value) (t : Int) (w : World) (h : RdSt w s vl vr vv) :
    Calls Tryz.prog 43 #[.agg #[.int .i64 s.lf.1, vl, .int .i64 s.rt.1, vr, .int .i64 s.fr, .int .i64 s.to, vv], .int .i64 t] w fun e w' => e = .returned (.int .i64 (faultM (VB s) t)) ∧ Below w.heap.size w w' := by
  have C1 := Lib.hid (fun W h => valid14_any s vl vr vv W h)
  have C2 := Lib.hid (fun W => line10_any t W)
  obtain ⟨vb, hvb⟩ : ∃ vb, VB s = vb := ⟨_, rfl⟩
  rw [hvb] at C1 ⊢
  clear hvb
  have HR0 := Lib.hid h
  obtain ⟨a1, n1, rfl⟩ := h.1.form
  obtain ⟨a2, n2, rfl⟩ := h.2.1.form
  obtain ⟨a3, n3, rfl⟩ := h.2.2.form
  clear h
  obtain ⟨W, hWe⟩ : ∃ W, w.alloc (.cells #[.int .i64 s.lf.1, .slice a1 s.lf.2.length n1, .int .i64 s.rt.1, .slice a2 s.rt.2.length n2, .int .i64 s.fr, .int .i64 s.to, .slice a3 s.l.length n3] 26) = W := ⟨_, rfl⟩
  have hW : Below w.heap.size w W := by rw [← hWe]; exact (Below.refl _ w).alloc (Nat.le_refl _) _
  have HX : Hid (Set7 W w.heap.size (.int .i64 s.lf.1) (.slice a1 s.lf.2.length n1) (.int .i64 s.rt.1) (.slice a2 s.rt.2.length n2) (.int .i64 s.fr) (.int .i64 s.to) (.slice a3 s.l.length n3)) := by
    rw [← hWe]
    refine ⟨⟨?_, ?_, ?_, ?_, ?_, ?_, ?_⟩, ?_, ?_, ?_, ?_, ?_, ?_, ?_⟩ <;> simp [go_sem]
  have HR := Lib.hid (keepSt hW HR0.out)
  have HE := Lib.hid hWe
  clear hWe
  obtain ⟨⟨B0, B1, B2, B3, B4, B5, B6⟩, _⟩ := HX.out
  go_enter Tryz.func43, Tryz.ntmps43
  go_wp2_with fail
  rw [HE.out]
  go_wp2_with fail
  refine (C1.out _ HR.out).mono ?_
  rintro e w1 ⟨rfl, hb1⟩
  have hB1 := keepBelow hW hb1
  clear hb1 B0 B1 B2 B3 B4 B5 B6
  cases vb with
  | false =>
    go_wp2
    go_ret
    exact ⟨ret_int (by unfold faultM; rfl), hB1⟩
  | true =>
    go_wp2_with fail
    refine (C2.out _).mono ?_
    rintro e w2 ⟨rfl, rfl⟩
    cases hl : lineB t with
    | false =>
      go_wp2
      go_ret
      exact ⟨ret_int (by unfold faultM; rw [hl]; rfl), hB1⟩
    | true =>
      go_wp2
      go_ret
      exact ⟨ret_int (by unfold faultM; rw [hl]; rfl), hB1⟩
theorem amount26_any (n : Int) (w : World) :
    Calls Tryz.prog 44 #[.int .i64 n] w fun e w' => e = .returned (.int .i64 (if amountB n = false then 2 else 0)) ∧ w = w' := by
  unfold amountB
  cases g1 : decide (n < 0) with
  | true =>
    have e : decide (0 ≤ n) = false := decide_eq_false (by simp at g1; omega)
    rw [e]
    go_enter Tryz.func44, Tryz.ntmps44
    go_wp2
    go_ret
    exact ⟨rfl, rfl⟩
  | false =>
    have e : decide (0 ≤ n) = true := decide_eq_true (by simp at g1; omega)
    rw [e, Bool.true_and]
    cases g2 : decide (8796093022208 < n) with
    | true =>
      have e : decide (n ≤ 8796093022208) = false := decide_eq_false (by simp at g2; omega)
      rw [e]
      go_enter Tryz.func44, Tryz.ntmps44
      go_wp2
      go_ret
      exact ⟨rfl, rfl⟩
    | false =>
      have e : decide (n ≤ 8796093022208) = true := decide_eq_true (by simp at g2; omega)
      rw [e]
      go_enter Tryz.func44, Tryz.ntmps44
      go_wp2
      go_ret
      exact ⟨rfl, rfl⟩
end Go.Proofs.YtkfonfheakpcbaaGreat
/- The reference's working time: Add, Subtract, Deadline, Measure. -/
namespace Go.Proofs.YtkfonfheakpcbaaGreat
open Go.RowKit Wk

set_option maxRecDepth 100000 in
set_option maxHeartbeats 8000000 in
theorem add26_any (s : St) (vl vr vv : Value) (t n : Int) (w : World) (h : RdSt w s vl vr vv) :
    Calls Tryz.prog 18 #[.agg #[.int .i64 s.lf.1, vl, .int .i64 s.rt.1, vr, .int .i64 s.fr, .int .i64 s.to, vv], .int .i64 t, .int .i64 n] w fun e w' => e = .returned (.tuple #[.int .i64 (AddM (VB s) s t n).1, .int .i64 (AddM (VB s) s t n).2]) ∧ Below w.heap.size w w' := by
  have C1 := Lib.hid (fun W h => given26_any s vl vr vv t W h)
  have C2 := Lib.hid (fun W => amount26_any n W)
  have C3 : Hid (∀ a b W, VB s = true → RdSt W s vl vr vv → a ≤ b → -8796093022208 ≤ a → b ≤ 8796093022208 → Calls Tryz.prog 54 #[.agg #[.int .i64 s.lf.1, vl, .int .i64 s.rt.1, vr, .int .i64 s.fr, .int .i64 s.to, vv], .int .i64 a, .int .i64 b] W fun e w' => e = .returned (.int .i64 (potS s b - potS s a)) ∧ Below W.heap.size W w') := fun a b W hv h h1 h2 h3 => count26_any s vl vr vv a b W h (okS_of_VB hv) h1 h2 h3
  have HGD : Hid (VB s = true → GoodS s) := fun hg => (okS_of_VB hg).good
  have HM : Hid (AddM (VB s) s t n = if faultM (VB s) t ≠ 0 then (0, faultM (VB s) t) else if amountB n = false then (0, 2) else addM s t n) := rfl
  have HFI := Lib.hid (fault_iff (b := VB s) (t := t)).1
  obtain ⟨vb, hvb⟩ : ∃ vb, VB s = vb := ⟨_, rfl⟩
  rw [hvb] at C1 C3 HGD HM HFI ⊢
  obtain ⟨fm, hfm⟩ : ∃ fm, faultM vb t = fm := ⟨_, rfl⟩
  rw [hfm] at C1 HM HFI
  clear hvb hfm
  obtain ⟨⟨m1, m2⟩, hmm⟩ : ∃ p, AddM vb s t n = p := ⟨_, rfl⟩
  rw [hmm] at HM ⊢
  clear hmm
  have HR0 := Lib.hid h
  obtain ⟨a1, n1, rfl⟩ := h.1.form
  obtain ⟨a2, n2, rfl⟩ := h.2.1.form
  obtain ⟨a3, n3, rfl⟩ := h.2.2.form
  clear h
  obtain ⟨W, hWe⟩ : ∃ W, w.alloc (.cells #[.int .i64 s.lf.1, .slice a1 s.lf.2.length n1, .int .i64 s.rt.1, .slice a2 s.rt.2.length n2, .int .i64 s.fr, .int .i64 s.to, .slice a3 s.l.length n3] 26) = W := ⟨_, rfl⟩
  have hW : Below w.heap.size w W := by rw [← hWe]; exact (Below.refl _ w).alloc (Nat.le_refl _) _
  have HX : Hid (Set7 W w.heap.size (.int .i64 s.lf.1) (.slice a1 s.lf.2.length n1) (.int .i64 s.rt.1) (.slice a2 s.rt.2.length n2) (.int .i64 s.fr) (.int .i64 s.to) (.slice a3 s.l.length n3)) := by
    rw [← hWe]
    refine ⟨⟨?_, ?_, ?_, ?_, ?_, ?_, ?_⟩, ?_, ?_, ?_, ?_, ?_, ?_, ?_⟩ <;> simp [go_sem]
  have HR := Lib.hid (keepSt hW HR0.out)
  have HE := Lib.hid hWe
  clear hWe
  obtain ⟨⟨B0, B1, B2, B3, B4, B5, B6⟩, _⟩ := HX.out
  go_enter Tryz.func18, Tryz.ntmps18
  go_wp2_with fail
  rw [HE.out]
  go_wp2_with fail
  refine (C1.out _ HR.out).mono ?_
  rintro e w1 ⟨rfl, hb1⟩
  have HX1 := Lib.hid (HX.out.below hb1)
  have HR1 := Lib.hid (keepSt hb1 HR.out)
  have hB1 := keepBelow hW hb1
  clear hb1 B0 B1 B2 B3 B4 B5 B6
  obtain ⟨⟨B0, B1, B2, B3, B4, B5, B6⟩, _⟩ := HX1.out
  by_cases hf : fm = 0
  · subst hf
    obtain ⟨hvt, hlt⟩ := HFI.out rfl
    subst hvt
    have htl := (lineB_iff t).1 hlt
    have HGS := Lib.hid (HGD.out rfl)
    go_wp2_with fail
    refine (C2.out _).mono ?_
    rintro e w2 ⟨rfl, rfl⟩
    cases ham : amountB n with
    | false =>
      rw [ham] at HM
      have hM : (m1, m2) = (0, 2) := HM.out
      cases hM
      clear HM ham hlt
      go_wp2
      go_ret2
      exact ⟨rfl, hB1⟩
    | true =>
      rw [ham] at HM
      have hM : Hid ((m1, m2) = addM s t n) := HM.out
      have hnn : 0 ≤ n ∧ n ≤ 8796093022208 := by
        unfold amountB at ham
        simp at ham
        exact ham
      have hn0 := hnn.1
      have hn1 := hnn.2
      clear HM ham hlt hnn HFI C1 C2
      have D := Lib.hid (C3.out t 4398046511104 w1 (by trivial) HR1.out (by omega) (by omega) (by omega))
      have hst := potS_steps HGS.out
      have hmo := hst.mono t 4398046511104 (by omega)
      obtain ⟨T, hT⟩ : ∃ T, potS s 4398046511104 - potS s t = T := ⟨_, rfl⟩
      rw [hT] at D hmo
      have HTT := Lib.hid hT
      clear hT hst
      go_wp2_with fail
      refine D.out.mono ?_
      rintro e w2 ⟨rfl, hb2⟩
      have HX2 := Lib.hid (HX1.out.below hb2)
      have HR2 := Lib.hid (keepSt hb2 HR1.out)
      have hB2 := keepBelow hB1 hb2
      clear hb2 B0 B1 B2 B3 B4 B5 B6 HX1 HR1
      obtain ⟨⟨B0, B1, B2, B3, B4, B5, B6⟩, _⟩ := HX2.out
      by_cases hTn : T < n
      · have hM2 : (m1, m2) = (0, 7) := by rw [hM.out]; exact add_none HGS.out (by omega) hn0 (by rw [HTT.out]; exact hTn)
        cases hM2
        have t1 : decide (T < n) = true := by simpa using hTn
        clear hTn
        go_wp2
        go_ret2
        exact ⟨rfl, hB2⟩
      · have t1 : decide (T < n) = false := by simpa using hTn
        have HN0 : Hid (n ≤ potS s 4398046511104 - potS s t) := by unfold Hid; rw [HTT.out]; omega
        clear hTn
        go_wp2_with fail
        go_loopw [9, 10] (fun u9 u10 wr => ∃ lo hi : Int, u9 = .int .i64 lo ∧ u10 = .int .i64 hi ∧ t ≤ lo ∧ lo ≤ hi ∧ hi ≤ 4398046511104 ∧ Hid (n ≤ potS s hi - potS s t) ∧ Hid (∀ x, t ≤ x → x < lo → potS s x - potS s t < n) ∧ Below w2.heap.size w2 wr) (fun u9 u10 _ => (intOf u10 - intOf u9).toNat)
        case atStart => exact ⟨t, 4398046511104, rfl, rfl, by omega, by omega, by omega, HN0, fun x h1 h2 => by omega, Below.refl _ _⟩
        case round =>
          obtain ⟨lo, hi, rfl, rfl, q1, q2, q3, H1, H2, hB⟩ := hrel
          have HXr := Lib.hid (HX2.out.below hB)
          have HRr := Lib.hid (keepSt hB HR2.out)
          clear B0 B1 B2 B3 B4 B5 B6
          obtain ⟨⟨B0, B1, B2, B3, B4, B5, B6⟩, _⟩ := HXr.out
          by_cases hlh : lo < hi
          · obtain ⟨mid, hmid⟩ : ∃ mid, (lo + hi) / 2 = mid := ⟨_, rfl⟩
            have hm1 : lo ≤ mid ∧ mid < hi := by omega
            have F := Lib.hid (rfloor_any ((lo + hi)) 2 wr (by omega) (by omega) (by omega) (by omega))
            rw [hmid] at F
            clear hmid
            go_wp2_with fail
            refine F.out.mono ?_
            rintro e w3 ⟨rfl, hb3⟩
            have HX3 := Lib.hid (HXr.out.below hb3)
            have HR3 := Lib.hid (keepSt hb3 HRr.out)
            have hB3 := keepBelow hB hb3
            clear hb3 B0 B1 B2 B3 B4 B5 B6
            obtain ⟨⟨B0, B1, B2, B3, B4, B5, B6⟩, _⟩ := HX3.out
            have G := Lib.hid (C3.out t mid w3 (by trivial) HR3.out (by omega) (by omega) (by omega))
            have hst := potS_steps HGS.out
            have hmm := hst.mono t mid (by omega)
            have HST := Lib.hid hst
            obtain ⟨c, hc⟩ : ∃ c, potS s mid - potS s t = c := ⟨_, rfl⟩
            rw [hc] at G hmm
            have HCC := Lib.hid hc
            clear hc hst
            go_wp2_with fail
            refine G.out.mono ?_
            rintro e w4 ⟨rfl, hb4⟩
            have hB4 := keepBelow hB3 hb4
            clear B0 B1 B2 B3 B4 B5 B6
            by_cases hcn : n ≤ c
            · have t2 : decide (n ≤ c) = true := by simpa using hcn
              have H1' : Hid (n ≤ potS s mid - potS s t) := by unfold Hid; rw [HCC.out]; exact hcn
              clear hcn
              go_wp2
              go_roundw
              case rel => exact ⟨lo, mid, rfl, rfl, by omega, by omega, by omega, H1', H2, hB4⟩
              case measure => simp [intOf]; omega
            · have t2 : decide (n ≤ c) = false := by simpa using hcn
              have H2' : Hid (∀ x, t ≤ x → x < mid + 1 → potS s x - potS s t < n) := fun x h1 h2 => by
                by_cases hx : x < lo
                · exact H2.out x (by omega) (by omega)
                · have := HST.out.mono x mid (by omega)
                  have := HCC.out
                  omega
              clear hcn
              go_wp2
              go_roundw
              case rel => exact ⟨mid + 1, hi, rfl, rfl, by omega, by omega, by omega, H1, H2', hB4⟩
              case measure => simp [intOf]; omega
          · have hM2 : (m1, m2) = (lo, 0) := by
              have e : lo = hi := by omega
              rw [hM.out]
              exact add_least HGS.out (by omega) hn0 (by omega) (by omega) (by rw [e]; exact H1.out) (fun x a b => H2.out x a b)
            cases hM2
            have hBn := keepBelow hB2 hB
            go_wp2
            go_ret2
            exact ⟨rfl, hBn⟩
  · have t1 : (fm == 0) = false := by simpa using hf
    have t2 : (fm != 0) = true := by simpa using hf
    have hM : (m1, m2) = (0, fm) := by rw [HM.out, if_pos hf]
    cases hM
    clear hf HM
    go_wp2
    go_ret2
    exact ⟨rfl, hB1⟩

set_option maxRecDepth 100000 in
set_option maxHeartbeats 8000000 in
theorem subtract26_any (s : St) (vl vr vv : Value) (t n : Int) (w : World) (h : RdSt w s vl vr vv) :
    Calls Tryz.prog 20 #[.agg #[.int .i64 s.lf.1, vl, .int .i64 s.rt.1, vr, .int .i64 s.fr, .int .i64 s.to, vv], .int .i64 t, .int .i64 n] w fun e w' => e = .returned (.tuple #[.int .i64 (SubM (VB s) s t n).1, .int .i64 (SubM (VB s) s t n).2]) ∧ Below w.heap.size w w' := by
  have C1 := Lib.hid (fun W h => given26_any s vl vr vv t W h)
  have C2 := Lib.hid (fun W => amount26_any n W)
  have C3 : Hid (∀ a b W, VB s = true → RdSt W s vl vr vv → a ≤ b → -8796093022208 ≤ a → b ≤ 8796093022208 → Calls Tryz.prog 54 #[.agg #[.int .i64 s.lf.1, vl, .int .i64 s.rt.1, vr, .int .i64 s.fr, .int .i64 s.to, vv], .int .i64 a, .int .i64 b] W fun e w' => e = .returned (.int .i64 (potS s b - potS s a)) ∧ Below W.heap.size W w') := fun a b W hv h h1 h2 h3 => count26_any s vl vr vv a b W h (okS_of_VB hv) h1 h2 h3
  have HGD : Hid (VB s = true → GoodS s) := fun hg => (okS_of_VB hg).good
  have HM : Hid (SubM (VB s) s t n = if faultM (VB s) t ≠ 0 then (0, faultM (VB s) t) else if amountB n = false then (0, 2) else subM s t n) := rfl
  have HFI := Lib.hid (fault_iff (b := VB s) (t := t)).1
  obtain ⟨vb, hvb⟩ : ∃ vb, VB s = vb := ⟨_, rfl⟩
  rw [hvb] at C1 C3 HGD HM HFI ⊢
  obtain ⟨fm, hfm⟩ : ∃ fm, faultM vb t = fm := ⟨_, rfl⟩
  rw [hfm] at C1 HM HFI
  clear hvb hfm
  obtain ⟨⟨m1, m2⟩, hmm⟩ : ∃ p, SubM vb s t n = p := ⟨_, rfl⟩
  rw [hmm] at HM ⊢
  clear hmm
  have HR0 := Lib.hid h
  obtain ⟨a1, n1, rfl⟩ := h.1.form
  obtain ⟨a2, n2, rfl⟩ := h.2.1.form
  obtain ⟨a3, n3, rfl⟩ := h.2.2.form
  clear h
  obtain ⟨W, hWe⟩ : ∃ W, w.alloc (.cells #[.int .i64 s.lf.1, .slice a1 s.lf.2.length n1, .int .i64 s.rt.1, .slice a2 s.rt.2.length n2, .int .i64 s.fr, .int .i64 s.to, .slice a3 s.l.length n3] 26) = W := ⟨_, rfl⟩
  have hW : Below w.heap.size w W := by rw [← hWe]; exact (Below.refl _ w).alloc (Nat.le_refl _) _
  have HX : Hid (Set7 W w.heap.size (.int .i64 s.lf.1) (.slice a1 s.lf.2.length n1) (.int .i64 s.rt.1) (.slice a2 s.rt.2.length n2) (.int .i64 s.fr) (.int .i64 s.to) (.slice a3 s.l.length n3)) := by
    rw [← hWe]
    refine ⟨⟨?_, ?_, ?_, ?_, ?_, ?_, ?_⟩, ?_, ?_, ?_, ?_, ?_, ?_, ?_⟩ <;> simp [go_sem]
  have HR := Lib.hid (keepSt hW HR0.out)
  have HE := Lib.hid hWe
  clear hWe
  obtain ⟨⟨B0, B1, B2, B3, B4, B5, B6⟩, _⟩ := HX.out
  go_enter Tryz.func20, Tryz.ntmps20
  go_wp2_with fail
  rw [HE.out]
  go_wp2_with fail
  refine (C1.out _ HR.out).mono ?_
  rintro e w1 ⟨rfl, hb1⟩
  have HX1 := Lib.hid (HX.out.below hb1)
  have HR1 := Lib.hid (keepSt hb1 HR.out)
  have hB1 := keepBelow hW hb1
  clear hb1 B0 B1 B2 B3 B4 B5 B6
  obtain ⟨⟨B0, B1, B2, B3, B4, B5, B6⟩, _⟩ := HX1.out
  by_cases hf : fm = 0
  · subst hf
    obtain ⟨hvt, hlt⟩ := HFI.out rfl
    subst hvt
    have htl := (lineB_iff t).1 hlt
    have HGS := Lib.hid (HGD.out rfl)
    go_wp2_with fail
    refine (C2.out _).mono ?_
    rintro e w2 ⟨rfl, rfl⟩
    cases ham : amountB n with
    | false =>
      rw [ham] at HM
      have hM : (m1, m2) = (0, 2) := HM.out
      cases hM
      clear HM ham hlt
      go_wp2
      go_ret2
      exact ⟨rfl, hB1⟩
    | true =>
      rw [ham] at HM
      have hM : Hid ((m1, m2) = subM s t n) := HM.out
      have hnn : 0 ≤ n ∧ n ≤ 8796093022208 := by
        unfold amountB at ham
        simp at ham
        exact ham
      have hn0 := hnn.1
      have hn1 := hnn.2
      clear HM ham hlt hnn HFI C1 C2
      have D := Lib.hid (C3.out (-4398046511104) t w1 (by trivial) HR1.out (by omega) (by omega) (by omega))
      have hst := potS_steps HGS.out
      have hmo := hst.mono (-4398046511104) t (by omega)
      obtain ⟨T, hT⟩ : ∃ T, potS s t - potS s (-4398046511104) = T := ⟨_, rfl⟩
      rw [hT] at D hmo
      have HTT := Lib.hid hT
      clear hT hst
      go_wp2_with fail
      refine D.out.mono ?_
      rintro e w2 ⟨rfl, hb2⟩
      have HX2 := Lib.hid (HX1.out.below hb2)
      have HR2 := Lib.hid (keepSt hb2 HR1.out)
      have hB2 := keepBelow hB1 hb2
      clear hb2 B0 B1 B2 B3 B4 B5 B6 HX1 HR1
      obtain ⟨⟨B0, B1, B2, B3, B4, B5, B6⟩, _⟩ := HX2.out
      by_cases hTn : T < n
      · have hM2 : (m1, m2) = (0, 7) := by rw [hM.out]; exact sub_none HGS.out (by omega) hn0 (by rw [HTT.out]; exact hTn)
        cases hM2
        have t1 : decide (T < n) = true := by simpa using hTn
        clear hTn
        go_wp2
        go_ret2
        exact ⟨rfl, hB2⟩
      · have t1 : decide (T < n) = false := by simpa using hTn
        have HN0 : Hid (n ≤ potS s t - potS s (-4398046511104)) := by unfold Hid; rw [HTT.out]; omega
        clear hTn
        go_wp2_with fail
        go_loopw [9, 10] (fun u9 u10 wr => ∃ lo hi : Int, u9 = .int .i64 lo ∧ u10 = .int .i64 hi ∧ -4398046511104 ≤ lo ∧ lo ≤ hi ∧ hi ≤ t ∧ Hid (n ≤ potS s t - potS s lo) ∧ Hid (∀ x, hi < x → x ≤ t → potS s t - potS s x < n) ∧ Below w2.heap.size w2 wr) (fun u9 u10 _ => (intOf u10 - intOf u9).toNat)
        case atStart => exact ⟨-4398046511104, t, rfl, rfl, by omega, by omega, by omega, HN0, fun x h1 h2 => by omega, Below.refl _ _⟩
        case round =>
          obtain ⟨lo, hi, rfl, rfl, q1, q2, q3, H1, H2, hB⟩ := hrel
          have HXr := Lib.hid (HX2.out.below hB)
          have HRr := Lib.hid (keepSt hB HR2.out)
          clear B0 B1 B2 B3 B4 B5 B6
          obtain ⟨⟨B0, B1, B2, B3, B4, B5, B6⟩, _⟩ := HXr.out
          by_cases hlh : lo < hi
          · obtain ⟨mid, hmid⟩ : ∃ mid, (lo + hi + 1) / 2 = mid := ⟨_, rfl⟩
            have hm1 : lo < mid ∧ mid ≤ hi := by omega
            have F := Lib.hid (rfloor_any ((lo + hi + 1)) 2 wr (by omega) (by omega) (by omega) (by omega))
            rw [hmid] at F
            clear hmid
            go_wp2_with fail
            refine F.out.mono ?_
            rintro e w3 ⟨rfl, hb3⟩
            have HX3 := Lib.hid (HXr.out.below hb3)
            have HR3 := Lib.hid (keepSt hb3 HRr.out)
            have hB3 := keepBelow hB hb3
            clear hb3 B0 B1 B2 B3 B4 B5 B6
            obtain ⟨⟨B0, B1, B2, B3, B4, B5, B6⟩, _⟩ := HX3.out
            have G := Lib.hid (C3.out mid t w3 (by trivial) HR3.out (by omega) (by omega) (by omega))
            have hst := potS_steps HGS.out
            have hmm := hst.mono mid t (by omega)
            have HST := Lib.hid hst
            obtain ⟨c, hc⟩ : ∃ c, potS s t - potS s mid = c := ⟨_, rfl⟩
            rw [hc] at G hmm
            have HCC := Lib.hid hc
            clear hc hst
            go_wp2_with fail
            refine G.out.mono ?_
            rintro e w4 ⟨rfl, hb4⟩
            have hB4 := keepBelow hB3 hb4
            clear B0 B1 B2 B3 B4 B5 B6
            by_cases hcn : n ≤ c
            · have t2 : decide (n ≤ c) = true := by simpa using hcn
              have H1' : Hid (n ≤ potS s t - potS s mid) := by unfold Hid; rw [HCC.out]; exact hcn
              clear hcn
              go_wp2
              go_roundw
              case rel => exact ⟨mid, hi, rfl, rfl, by omega, by omega, by omega, H1', H2, hB4⟩
              case measure => simp [intOf]; omega
            · have t2 : decide (n ≤ c) = false := by simpa using hcn
              have H2' : Hid (∀ x, mid - 1 < x → x ≤ t → potS s t - potS s x < n) := fun x h1 h2 => by
                by_cases hx : hi < x
                · exact H2.out x (by omega) (by omega)
                · have := HST.out.mono mid x (by omega)
                  have := HCC.out
                  omega
              clear hcn
              go_wp2
              go_roundw
              case rel => exact ⟨lo, mid - 1, rfl, rfl, by omega, by omega, by omega, H1, H2', hB4⟩
              case measure => simp [intOf]; omega
          · have hM2 : (m1, m2) = (lo, 0) := by
              have e : lo = hi := by omega
              rw [hM.out]
              exact sub_least HGS.out (by omega) hn0 (by omega) (by omega) H1.out (fun x a b => H2.out x (by omega) b)
            cases hM2
            have hBn := keepBelow hB2 hB
            go_wp2
            go_ret2
            exact ⟨rfl, hBn⟩
  · have t1 : (fm == 0) = false := by simpa using hf
    have t2 : (fm != 0) = true := by simpa using hf
    have hM : (m1, m2) = (0, fm) := by rw [HM.out, if_pos hf]
    cases hM
    clear hf HM
    go_wp2
    go_ret2
    exact ⟨rfl, hB1⟩

end Go.Proofs.YtkfonfheakpcbaaGreat
/- The reference's Deadline. -/
namespace Go.Proofs.YtkfonfheakpcbaaGreat
open Go.RowKit Wk

set_option maxRecDepth 100000 in
set_option maxHeartbeats 8000000 in
theorem deadline26_any (s : St) (vl vr vv : Value) (t n cut : Int) (w : World) (h : RdSt w s vl vr vv) :
    Calls Tryz.prog 12 #[.agg #[.int .i64 s.lf.1, vl, .int .i64 s.rt.1, vr, .int .i64 s.fr, .int .i64 s.to, vv], .int .i64 t, .int .i64 n, .int .i64 cut] w fun e w' => e = .returned (.tuple #[.int .i64 (DlM (VB s) s t n cut).1, .int .i64 (DlM (VB s) s t n cut).2]) ∧ Below w.heap.size w w' := by
  have C1 := Lib.hid (fun W h => given26_any s vl vr vv t W h)
  have C2 := Lib.hid (fun W => amount26_any n W)
  have C3 := Lib.hid (fun u W h => add26_any s vl vr vv u n W h)
  have HM : Hid (DlM (VB s) s t n cut = if faultM (VB s) t ≠ 0 then (0, faultM (VB s) t) else if amountB n = false ∨ cut < 0 ∨ 86400 < cut then (0, 2) else if lineB (cutT0 t cut) = false then (0, 2) else addM s (cutT0 t cut) n) := rfl
  have HFI := Lib.hid (fault_iff (b := VB s) (t := t)).1
  have HSM := Lib.hid (fun (ht : lineB t = true) (h0 : 0 ≤ cut) (h1 : cut ≤ 86400) => cut_same (b := VB s) (s := s) (t := t) (n := n) (cut := cut) ht h0 h1)
  obtain ⟨vb, hvb⟩ : ∃ vb, VB s = vb := ⟨_, rfl⟩
  rw [hvb] at C1 C3 HM HFI HSM ⊢
  obtain ⟨fm, hfm⟩ : ∃ fm, faultM vb t = fm := ⟨_, rfl⟩
  rw [hfm] at C1 HM HFI
  clear hvb hfm
  obtain ⟨⟨m1, m2⟩, hmm⟩ : ∃ p, DlM vb s t n cut = p := ⟨_, rfl⟩
  rw [hmm] at HM HSM ⊢
  clear hmm
  have HR0 := Lib.hid h
  obtain ⟨a1, n1, rfl⟩ := h.1.form
  obtain ⟨a2, n2, rfl⟩ := h.2.1.form
  obtain ⟨a3, n3, rfl⟩ := h.2.2.form
  clear h
  obtain ⟨W, hWe⟩ : ∃ W, w.alloc (.cells #[.int .i64 s.lf.1, .slice a1 s.lf.2.length n1, .int .i64 s.rt.1, .slice a2 s.rt.2.length n2, .int .i64 s.fr, .int .i64 s.to, .slice a3 s.l.length n3] 26) = W := ⟨_, rfl⟩
  have hW : Below w.heap.size w W := by rw [← hWe]; exact (Below.refl _ w).alloc (Nat.le_refl _) _
  have HX : Hid (Set7 W w.heap.size (.int .i64 s.lf.1) (.slice a1 s.lf.2.length n1) (.int .i64 s.rt.1) (.slice a2 s.rt.2.length n2) (.int .i64 s.fr) (.int .i64 s.to) (.slice a3 s.l.length n3)) := by
    rw [← hWe]
    refine ⟨⟨?_, ?_, ?_, ?_, ?_, ?_, ?_⟩, ?_, ?_, ?_, ?_, ?_, ?_, ?_⟩ <;> simp [go_sem]
  have HR := Lib.hid (keepSt hW HR0.out)
  have HE := Lib.hid hWe
  clear hWe
  obtain ⟨⟨B0, B1, B2, B3, B4, B5, B6⟩, _⟩ := HX.out
  go_enter Tryz.func12, Tryz.ntmps12
  go_wp2_with fail
  rw [HE.out]
  go_wp2_with fail
  refine (C1.out _ HR.out).mono ?_
  rintro e w1 ⟨rfl, hb1⟩
  have HX1 := Lib.hid (HX.out.below hb1)
  have HR1 := Lib.hid (keepSt hb1 HR.out)
  have hB1 := keepBelow hW hb1
  clear hb1 B0 B1 B2 B3 B4 B5 B6
  obtain ⟨⟨B0, B1, B2, B3, B4, B5, B6⟩, _⟩ := HX1.out
  by_cases hf : fm = 0
  · subst hf
    obtain ⟨hvt, hlt⟩ := HFI.out rfl
    subst hvt
    have htl := (lineB_iff t).1 hlt
    have HLT := Lib.hid hlt
    clear hlt
    go_wp2_with fail
    refine (C2.out _).mono ?_
    rintro e w2 ⟨rfl, rfl⟩
    cases ham : amountB n with
    | false =>
      have hM : (m1, m2) = (0, 2) := by rw [HM.out, if_neg (by simp), if_pos (.inl ham)]
      cases hM
      clear HM ham HSM
      go_wp2
      go_ret2
      exact ⟨rfl, hB1⟩
    | true =>
      by_cases hc0 : cut < 0
      · have hM : (m1, m2) = (0, 2) := by rw [HM.out, if_neg (by simp), if_pos (.inr (.inl hc0))]
        cases hM
        have t1 : decide (cut < 0) = true := by simpa using hc0
        clear HM ham HSM hc0
        go_wp2
        go_ret2
        exact ⟨rfl, hB1⟩
      · by_cases hc1 : 86400 < cut
        · have hM : (m1, m2) = (0, 2) := by rw [HM.out, if_neg (by simp), if_pos (.inr (.inr hc1))]
          cases hM
          have t1 : decide (cut < 0) = false := by simpa using hc0
          have t2 : decide (86400 < cut) = true := by simpa using hc1
          clear HM ham HSM hc0 hc1
          go_wp2
          go_ret2
          exact ⟨rfl, hB1⟩
        · have t1 : decide (cut < 0) = false := by simpa using hc0
          have t2 : decide (86400 < cut) = false := by simpa using hc1
          have hsm := HSM.out HLT.out (by omega) (by omega)
          have HC0 : Hid (cutT0 t cut = if cut ≤ t - t / 86400 * 86400 then (t / 86400 + 1) * 86400 else t) := rfl
          rw [mod_eq t 86400] at HC0
          have r0 := Int.emod_nonneg t (b := 86400) (by omega)
          have r1 := Int.emod_lt_of_pos t (b := 86400) (by omega)
          have e3 : (t / 86400 + 1) * 86400 = t - t % 86400 + 86400 := by omega
          rw [e3] at HC0
          have HMD := Lib.hid (fun W => rmod_any t 86400 W (by omega) (by omega) (by omega) (by omega))
          obtain ⟨r, hr⟩ : ∃ r, t % 86400 = r := ⟨_, rfl⟩
          rw [hr] at HC0 r0 r1 HMD
          have C3' := C3.out
          have C4 := Lib.hid (fun W h => C3' (cutT0 t cut) W h)
          rw [← hsm] at C4
          have C4 := C4.out
          clear HM ham HSM hc0 hc1 hr e3 hsm C3 C3'
          go_wp2_with fail
          refine (HMD.out _).mono ?_
          rintro e w2 ⟨rfl, hb2⟩
          have HX2 := Lib.hid (HX1.out.below hb2)
          have HR2 := Lib.hid (keepSt hb2 HR1.out)
          have hB2 := keepBelow hB1 hb2
          clear hb2 B0 B1 B2 B3 B4 B5 B6
          obtain ⟨⟨B0, B1, B2, B3, B4, B5, B6⟩, _⟩ := HX2.out
          by_cases hrc : cut ≤ r
          · have t3 : decide (cut ≤ r) = true := by simpa using hrc
            rw [HC0.out, if_pos hrc] at C4
            have C4 := Lib.hid C4
            clear hrc HC0
            go_wp2_with fail
            refine (C4.out _ HR2.out).mono ?_
            rintro e w3 ⟨rfl, hb3⟩
            have hB3 := keepBelow hB2 hb3
            clear B0 B1 B2 B3 B4 B5 B6
            go_wp2
            go_ret2
            exact ⟨rfl, hB3⟩
          · have t3 : decide (cut ≤ r) = false := by simpa using hrc
            rw [HC0.out, if_neg hrc] at C4
            have C4 := Lib.hid C4
            clear hrc HC0
            go_wp2_with fail
            refine (C4.out _ HR2.out).mono ?_
            rintro e w3 ⟨rfl, hb3⟩
            have hB3 := keepBelow hB2 hb3
            clear B0 B1 B2 B3 B4 B5 B6
            go_wp2
            go_ret2
            exact ⟨rfl, hB3⟩
  · have t2 : (fm != 0) = true := by simpa using hf
    have hM : (m1, m2) = (0, fm) := by rw [HM.out, if_pos hf]
    cases hM
    clear hf HM
    go_wp2
    go_ret2
    exact ⟨rfl, hB1⟩
end Go.Proofs.YtkfonfheakpcbaaGreat
