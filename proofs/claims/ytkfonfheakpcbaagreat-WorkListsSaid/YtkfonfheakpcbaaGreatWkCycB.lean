import Derived.Test.YtkfonfheakpcbaaGreatWkCyc
/- timeset: the next change of a periodic set. -/
namespace Go.Proofs.YtkfonfheakpcbaaGreat
open Go.RowKit Wk

def NxPost (h : Int → Bool) (x : Int) (w : World) (e : Ending) (w' : World) : Prop := ∃ r : Option Int, NextC h x r ∧ e = .returned (.tuple #[.int .i64 (r.getD 0), .bool r.isSome]) ∧ Below w.heap.size w w'
def PvPost (h : Int → Bool) (x : Int) (w : World) (e : Ending) (w' : World) : Prop := ∃ r : Option Int, PrevC h x r ∧ e = .returned (.tuple #[.int .i64 (r.getD 0), .bool r.isSome]) ∧ Below w.heap.size w w'
theorem ret2_ib {a b : Int} {c : Bool} (h : a = b) : Ending.returned (.tuple #[.int .i64 a, .bool c]) = .returned (.tuple #[.int .i64 b, .bool c]) := by rw [h]

set_option maxRecDepth 100000 in
set_option maxHeartbeats 2000000 in
theorem cafter_any (P x : Int) (v : Value) (l : List Sp) (w : World) (h : RdS w v l) (hv : pvB P l = true) (hx1 : -1152921504606846976 ≤ x) (hx2 : x ≤ 1152921504606846976) :
    Calls Tryz.prog 183 #[.agg #[.int .i64 P, v], .int .i64 x] w (NxPost (hasP (P, l)) x w) := by
  obtain ⟨hrv, hP1, hP2, hin⟩ := rvB_of_pvB hv
  have hlen := (canon_of_rvB hrv).2.2
  have HG := Lib.hid (goodP_of_pvB hv)
  have H1 := Lib.hid (fun W h => cconst_any P v l W h)
  have H2 := Lib.hid (fun W h => cchg_any P v l W h hv)
  have H3 := Lib.hid (fun W => tfloor_any x P W hP1 (by omega) hx1 hx2)
  have HD := Lib.hid h
  obtain ⟨a, c, rfl, hl, hc⟩ := h
  clear hc hv hrv hin
  obtain ⟨W, hWe⟩ : ∃ W, w.alloc (.cells #[.int .i64 P, .slice a l.length c] 110) = W := ⟨_, rfl⟩
  have hB0 : Below w.heap.size w W := by rw [← hWe]; exact (Below.refl _ _).alloc (Nat.le_refl _) _
  have P0 : W.cell? ⟨w.heap.size, 0, none⟩ = some (.int .i64 P) := by rw [← hWe]; simp [go_sem]
  have P1 : W.cell? ⟨w.heap.size, 1, none⟩ = some (.slice a l.length c) := by rw [← hWe]; simp [go_sem]
  have HR := Lib.hid (keepRd hB0 HD.out)
  have HE := Lib.hid hWe
  clear hWe
  have hm := mod_lo x hP1
  obtain ⟨bs, hbs⟩ : ∃ bs, x / P * P = bs := ⟨_, rfl⟩
  cases hcb : constB P l with
  | true =>
    rw [hcb] at H1
    have HN : Hid (NextC (hasP (P, l)) x none) := fun z _ => const_yes HG.out hcb z
    clear hcb hbs hm
    go_enter Tryz.func183, Tryz.ntmps183
    go_wp2_with fail
    rw [HE.out]
    refine (H1.out _ HR.out).mono ?_
    rintro e w1 ⟨rfl, hb1⟩
    go_wp2
    go_ret2
    exact ⟨none, HN.out, rfl, keepBelow hB0 hb1⟩
  | false =>
    rw [hcb] at H1
    have HNE := Lib.hid (const_no HG.out hcb)
    clear hcb
    go_enter Tryz.func183, Tryz.ntmps183
    go_wp2_with fail
    rw [HE.out]
    refine (H1.out _ HR.out).mono ?_
    rintro e w1 ⟨rfl, hb1⟩
    have a0 := keepCell hb1 P0
    have a1 := keepCell hb1 P1
    have hB1 := keepBelow hB0 hb1
    have HR1 := Lib.hid (keepRd hb1 HR.out)
    clear hb1 P0 P1
    go_wp2_with fail
    refine (H2.out _ HR1.out).mono ?_
    rintro e w2 ⟨v6, rfl, ho, hb2⟩
    have b0 := keepCell hb2 a0
    have b1 := keepCell hb2 a1
    have hB2 := keepBelow hB1 hb2
    have HO := Lib.hid ho
    clear hb2 a0 a1
    obtain ⟨a6, c6, rfl, hce⟩ := ho.form
    have hl2 := chg2_len l P
    obtain ⟨L, hL⟩ : ∃ L, chg2 l P = L := ⟨_, rfl⟩
    have HLb : Hid (∀ j, j < L.length → 0 ≤ L.getD j 0 ∧ L.getD j 0 < P) := by
      intro j hj
      have := (chg2_mem HG.out (L.getD j 0)).1 (by simp only [hL]; exact getD_mem hj)
      exact ⟨this.1, this.2.1⟩
    rw [hL] at hce hl2 ⊢
    have HLL := Lib.hid hL
    clear hL ho
    have e0 := ext_cell b0
    have e1 := ext_cell b1
    have hbd1 : -1152921517229627776 ≤ x / P * P := by omega
    have hbd2 : x / P * P ≤ 1152921504606846976 := by omega
    go_wp2_with fail
    refine wp_region_ext (by kernel_rfl) (by kernel_rfl) ?_
    repeat (go_big_quiet_step ((go_at_call 173; refine calls_ext_same (H3.out _))))
    refine wpQuiet_nil ?_
    intro w3 hb3
    have hB3 := keepBelow hB2 hb3
    have d0 := keepCell hb3 b0
    have hce3 : ∀ i, i < L.length → ∃ g, a6 = some ⟨g, 0, none⟩ ∧ w3.cell? ⟨g, i, none⟩ = some (.int .i64 (L.getD i 0)) := by
      intro i hi
      obtain ⟨g, e, hg, hcc⟩ := hce i hi
      exact ⟨g, e, keepCell hb3 hcc⟩
    clear e0 e1 hb3 hce b0 b1
    rw [hbs] at hbd1 hbd2 hm
    have HBS := Lib.hid hbs
    clear hbs
    go_wp2_with fail
    go_loopw [25] (fun i wr => ∃ k : Nat, k ≤ L.length ∧ i = .int .i64 k ∧ Hid (∀ j, j < k → bs + L.getD j 0 ≤ x) ∧ w3 = wr) (fun i _ => L.length - (intOf i).toNat)
    case atStart => exact ⟨0, Nat.zero_le _, rfl, (fun j hj => by omega), rfl⟩
    case round =>
      obtain ⟨k, hk, rfl, HK, rfl⟩ := hrel
      by_cases hlt : k < L.length
      · obtain ⟨g, rfl, d1⟩ := hce3 k hlt
        have hy := HLb.out k hlt
        obtain ⟨y, hye⟩ : ∃ y, L.getD k 0 = y := ⟨_, rfl⟩
        rw [hye] at d1 hy
        have HY := Lib.hid hye
        clear hye hce3
        by_cases hxy : x < bs + y
        · go_wp2
          go_ret2
          exact ⟨some (bs + y), by have hn := next_in HG.out (x := x) (k := k) (by simp only [HLL.out]; exact hlt) (by simp only [HLL.out, HBS.out, HY.out]; exact hxy) (by simp only [HLL.out, HBS.out]; exact HK.out)
                                   simp only [HLL.out, HBS.out, HY.out] at hn; exact hn, rfl, hB3⟩
        · go_wp2
          go_roundw
          case rel => exact ⟨k + 1, by omega, by go_num, (fun j hj => by
            rcases Nat.lt_succ_iff_lt_or_eq.1 hj with h | rfl
            · exact HK.out j h
            · rw [HY.out]; omega), trivial⟩
          case measure => simp [intOf]; omega
      · have hL0 : 0 < L.length := List.length_pos_iff.2 (by rw [← HLL.out]; exact HNE.out)
        obtain ⟨g, rfl, d1⟩ := hce3 0 hL0
        have hy := HLb.out 0 hL0
        obtain ⟨y, hye⟩ : ∃ y, L.getD 0 0 = y := ⟨_, rfl⟩
        rw [hye] at d1 hy
        have HY := Lib.hid hye
        clear hye hce3
        have e0 := ext_cell d0
        have e1 := ext_cell d1
        go_wp2_with fail
        refine wp_region_ext (by kernel_rfl) (by kernel_rfl) ?_
        repeat (go_big_quiet_step (fail))
        refine wpQuiet_nil ?_
        intro w4 hb4
        go_wp2
        go_ret2
        exact ⟨some (bs + P + y), by have hn := next_out HG.out (x := x) HNE.out (by simp only [HLL.out, HBS.out]; exact fun j hj => HK.out j (by omega))
                                     simp only [HLL.out, HBS.out, HY.out] at hn; exact hn, rfl, keepBelow hB3 hb4⟩
end Go.Proofs.YtkfonfheakpcbaaGreat
