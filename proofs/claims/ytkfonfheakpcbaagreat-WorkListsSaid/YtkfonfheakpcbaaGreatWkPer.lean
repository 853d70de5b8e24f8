import Derived.Test.YtkfonfheakpcbaaGreatWkRep
import Derived.Test.YtkfonfheakpcbaaGreatWkSrch
import Derived.Test.YtkfonfheakpcbaaGreatWkEq
/- periodic.inside, least, Valid, Equal, has, Has. -/
namespace Go.Proofs.YtkfonfheakpcbaaGreat
open Go.RowKit Wk

def LePost (P : Int) (l : List Sp) (w : World) (e : Ending) (w' : World) : Prop := ∃ v', e = .returned (.agg #[.int .i64 (leastM l P), v']) ∧ OwnS w' w.heap.size v' (cutM l (leastM l P)) ∧ Below w.heap.size w w'

set_option maxRecDepth 100000 in
set_option maxHeartbeats 1000000 in
theorem least_any (v : Value) (l : List Sp) (P : Int) (w : World) (h : RdS w v l) (hv : rvB l = true) (hP1 : 1 ≤ P) (hP2 : P ≤ 12622780800) (hin : inside P l) :
    Calls Tryz.prog 124 #[.int .i64 P, v] w (LePost P l w) := by
  have HR := Lib.hid (fun q w' h' h1 h2 => rep_any v l P q w' h' hv hP1 hP2 h1 h2 hin)
  have HD := Lib.hid h
  have hlen := (canon_of_rvB hv).2.2
  have HV := Lib.hid hv
  obtain ⟨a, c, rfl, hl, hc⟩ := h
  clear hv hin
  go_enter Tryz.func124, Tryz.ntmps124
  go_wp2_with fail
  go_step3
  go_wp2_with fail
  go_step3
  go_wp2_with fail
  obtain ⟨W1, hW1⟩ : ∃ W1, w.alloc (.cells #[.int .i64 0, .slice none 0 0] 24) = W1 := ⟨_, rfl⟩
  have hw1 : Below w.heap.size w W1 := by rw [← hW1]; exact (Below.refl _ _).alloc (Nat.le_refl _) _
  have hs1 : W1.heap.size = w.heap.size + 1 := by rw [← hW1]; simp
  have HRES : Hid (∀ W, Below W1.heap.size W1 W → W.cell? ⟨w.heap.size, 0, none⟩ = some (.int .i64 0) ∧ W.cell? ⟨w.heap.size, 1, none⟩ = some (.slice none 0 0) ∧ W.frozen? ⟨w.heap.size, 0, none⟩ = false ∧ W.frozen? ⟨w.heap.size, 1, none⟩ = false) := by
    intro W hW
    obtain ⟨q1, q2⟩ := bcell hW
    rw [q1 _ _ (by omega), q1 _ _ (by omega), q2 _ _ (by omega), q2 _ _ (by omega), ← hW1]
    simp [go_sem]
  rw [hW1]
  clear hW1
  have HS1 := Lib.hid hs1
  clear hs1
  have hsw : w.heap.size < W1.heap.size := by have := HS1.out; omega
  go_loopw [5, 6] (fun u i wr => ∃ (q best : Int) (n : Nat), (n : Int) + q = P + 1 ∧ 1 ≤ q ∧ i = .int .i64 q ∧ u = .int .i64 best ∧ Hid (leastLoop l P n q best = leastM l P) ∧ Below W1.heap.size W1 wr ∧ 1 ≤ best ∧ best ≤ P) (fun _ i _ => (P + 1 - intOf i).toNat)
  case atStart => exact ⟨1, P, P.toNat, by omega, by omega, rfl, rfl, rfl, Below.refl _ _, hP1, Int.le_refl _⟩
  case round =>
    obtain ⟨q, best, n, hn, hq, rfl, rfl, HL, hB, hb1, hb2⟩ := hrel
    have HN := Lib.hid hn
    clear hn
    have hd0 := Int.ediv_nonneg (a := P) (b := q) (by omega) (by omega)
    have hd1 := Int.natAbs_ediv_le_natAbs P q
    have hdP : P / q ≤ P := by omega
    clear hd1
    have hm0 := Int.emod_nonneg P (b := q) (by omega)
    have HB0 : Hid (Below w.heap.size w wr) := hw1.trans (hB.mono (by omega))
    by_cases h1 : q ≤ P / q
    · obtain ⟨n', rfl⟩ : ∃ n', n = n' + 1 := ⟨n - 1, by have := HN.out; omega⟩
      by_cases h2 : P % q = 0
      · have g2 : ((P % q) != 0) = false := by simp [h2]
        have H2 := Lib.hid h2
        clear h2
        cases hr : repB l P q with
        | true =>
          have HR1 := Lib.hid hr
          have HBB : Hid (leastM l P = q) := by rw [← HL.out]; exact leastLoop_hit h1 H2.out hr
          have HRR := Lib.hid (HR.out q wr (HD.out.below (Nat.le_refl _) HB0.out) hq (by omega))
          rw [hr] at HRR
          clear hr
          go_wp2_with (go_at_call 129; refine HRR.out.mono ?_; rintro e w2 ⟨rfl, hb2'⟩)
          have hB := hB.trans (hb2'.mono hB.size)
          have HC := Lib.hid hc
          clear hc
          go_wp2_with fail
          go_loopw [7, 38] (fun u i wr => ∃ k : Nat, k ≤ l.length ∧ i = .int .i64 k ∧ OwnS wr W1.heap.size u (cutT l q k) ∧ Below W1.heap.size W1 wr) (fun _ i _ => l.length - (intOf i).toNat)
          case atStart => exact ⟨0, Nat.zero_le _, rfl, OwnS.nil _ _, hB⟩
          case round =>
            obtain ⟨k, hk, rfl, ho, hB⟩ := hrel
            have hBw : Below w.heap.size w _ := hw1.trans (hB.mono (by omega))
            by_cases hlt : k < l.length
            · obtain ⟨b, o, x, y, rfl, hbw, HXY, d1, d2⟩ := rd_at HC.out hBw hlt
              have HT := Lib.hid (cutT_succ q HXY.out hlt)
              have hl1 := cutT_len l q k
              have hsz := hB.size
              by_cases hx : x < q
              · go_wp2_with (at_builtin; refine wpList_app_span rfl (.tmp 46) (.tmp 54) rfl rfl (ho.alloc _) (hB.alloc hsz _) rfl (by simp) (by omega) ?_; intro v1 w1 o1 b1 k1 z1; clear k1)
                go_roundw
                case rel => exact ⟨k + 1, by omega, by go_num, by rw [HT.out, if_pos hx]; exact o1, b1⟩
                case measure => simp [intOf]; omega
              · go_wp2
                go_roundw
                case rel => exact ⟨k + 1, by omega, by go_num, by rw [HT.out, if_neg hx, List.append_nil]; exact ho.alloc _, hB.alloc hsz _⟩
                case measure => simp [intOf]; omega
            · have HO : Hid (OwnS wr W1.heap.size u7 (cutM l q)) := by rw [← cutT_full l q k (by omega)]; exact ho
              obtain ⟨r1, r2, r3, r4⟩ := HRES.out _ hB
              obtain ⟨a7, c7, rfl, _⟩ := ho.form
              have hl7 : (cutM l q).length = (cutT l q k).length := by rw [← cutT_full l q k (by omega)]
              go_wp2
              refine bodyPost_ret (v := .agg #[.int .i64 q, .slice a7 (cutT l q k).length c7]) (by simp [results, Tryz.results124, go_sem, r1, r2]) rfl ?_
              exact ⟨.slice a7 (cutT l q k).length c7, by rw [HBB.out], by rw [HBB.out]; exact (OwnS.mono (OwnS.setCell (OwnS.setCell HO.out hsw _) hsw _) (by omega)), (hBw.setCell (Nat.le_refl _) _).setCell (Nat.le_refl _) _⟩
        | false =>
          have HR1 := Lib.hid hr
          have HRR := Lib.hid (HR.out q wr (HD.out.below (Nat.le_refl _) HB0.out) hq (by omega))
          rw [hr] at HRR
          clear hr
          cases hr2 : repB l P (P / q) with
          | true =>
            have HR2 := Lib.hid hr2
            have HRT := Lib.hid (fun W hW => HR.out (P / q) W hW (by omega) hdP)
            rw [hr2] at HRT
            clear hr2
            go_wp2_with fail
            refine HRR.out.mono ?_
            rintro e w2 ⟨rfl, hb2'⟩
            have hB2 := hB.trans (hb2'.mono hB.size)
            go_wp2_with fail
            refine (HRT.out w2 (HD.out.below (Nat.le_refl _) (hw1.trans (hB2.mono (by omega))))).mono ?_
            rintro e w3 ⟨rfl, hb3'⟩
            have hB3 := hB2.trans (hb3'.mono hB2.size)
            go_wp2
            go_roundw
            case rel => exact ⟨q + 1, P / q, n', by have := HN.out; omega, by omega, by go_num, rfl, by rw [← HL.out]; exact (leastLoop_far h1 H2.out HR1.out HR2.out).symm, hB3, by omega, hdP⟩
            case measure => simp [intOf]; omega
          | false =>
            have HR2 := Lib.hid hr2
            have HRT := Lib.hid (fun W hW => HR.out (P / q) W hW (by omega) hdP)
            rw [hr2] at HRT
            clear hr2
            go_wp2_with fail
            refine HRR.out.mono ?_
            rintro e w2 ⟨rfl, hb2'⟩
            have hB2 := hB.trans (hb2'.mono hB.size)
            go_wp2_with fail
            refine (HRT.out w2 (HD.out.below (Nat.le_refl _) (hw1.trans (hB2.mono (by omega))))).mono ?_
            rintro e w3 ⟨rfl, hb3'⟩
            have hB3 := hB2.trans (hb3'.mono hB2.size)
            go_wp2
            go_roundw
            case rel => exact ⟨q + 1, best, n', by have := HN.out; omega, by omega, by go_num, rfl, by rw [← HL.out]; exact (leastLoop_near h1 H2.out HR1.out HR2.out).symm, hB3, hb1, hb2⟩
            case measure => simp [intOf]; omega
      · have g2 : ((P % q) != 0) = true := by simp [h2]
        have H2 := Lib.hid h2
        clear h2
        go_wp2
        go_roundw
        case rel => exact ⟨q + 1, best, n', by have := HN.out; omega, by omega, rfl, rfl, by rw [← HL.out]; exact (leastLoop_skip h1 H2.out).symm, hB, hb1, hb2⟩
        case measure => simp [intOf]; omega
    · have HBB : Hid (leastM l P = best) := by rw [← HL.out]; exact leastLoop_stop h1
      have HC := Lib.hid hc
      clear hc
      go_wp2_with fail
      go_loopw [7, 38] (fun u i wr => ∃ k : Nat, k ≤ l.length ∧ i = .int .i64 k ∧ OwnS wr W1.heap.size u (cutT l best k) ∧ Below W1.heap.size W1 wr) (fun _ i _ => l.length - (intOf i).toNat)
      case atStart => exact ⟨0, Nat.zero_le _, rfl, OwnS.nil _ _, hB⟩
      case round =>
        obtain ⟨k, hk, rfl, ho, hB⟩ := hrel
        have hBw : Below w.heap.size w _ := hw1.trans (hB.mono (by omega))
        by_cases hlt : k < l.length
        · obtain ⟨b, o, x, y, rfl, hbw, HXY, d1, d2⟩ := rd_at HC.out hBw hlt
          have HT := Lib.hid (cutT_succ best HXY.out hlt)
          have hl1 := cutT_len l best k
          have hsz := hB.size
          by_cases hx : x < best
          · go_wp2_with (at_builtin; refine wpList_app_span rfl (.tmp 46) (.tmp 54) rfl rfl (ho.alloc _) (hB.alloc hsz _) rfl (by simp) (by omega) ?_; intro v1 w1 o1 b1 k1 z1; clear k1)
            go_roundw
            case rel => exact ⟨k + 1, by omega, by go_num, by rw [HT.out, if_pos hx]; exact o1, b1⟩
            case measure => simp [intOf]; omega
          · go_wp2
            go_roundw
            case rel => exact ⟨k + 1, by omega, by go_num, by rw [HT.out, if_neg hx, List.append_nil]; exact ho.alloc _, hB.alloc hsz _⟩
            case measure => simp [intOf]; omega
        · have HO : Hid (OwnS wr W1.heap.size u7 (cutM l best)) := by rw [← cutT_full l best k (by omega)]; exact ho
          obtain ⟨r1, r2, r3, r4⟩ := HRES.out _ hB
          obtain ⟨a7, c7, rfl, _⟩ := ho.form
          have hl7 : (cutM l best).length = (cutT l best k).length := by rw [← cutT_full l best k (by omega)]
          go_wp2
          refine bodyPost_ret (v := .agg #[.int .i64 best, .slice a7 (cutT l best k).length c7]) (by simp [results, Tryz.results124, go_sem, r1, r2]) rfl ?_
          exact ⟨.slice a7 (cutT l best k).length c7, by rw [HBB.out], by rw [HBB.out]; exact (OwnS.mono (OwnS.setCell (OwnS.setCell HO.out hsw _) hsw _) (by omega)), (hBw.setCell (Nat.le_refl _) _).setCell (Nat.le_refl _) _⟩

set_option maxHeartbeats 400000 in
theorem inside_any (v : Value) (l : List Sp) (P : Int) (w : World) (h : RdS w v l) :
    Calls Tryz.prog 123 #[v, .int .i64 P] w fun e w' => e = .returned (.bool (insB l P)) ∧ Below w.heap.size w w' := by
  have H := Lib.hid (rvalid_any v l w h)
  obtain ⟨a, c, rfl, hl, hc⟩ := h
  cases hv : rvB l with
  | false =>
    rw [hv] at H
    have HV := Lib.hid hv
    clear hv hc
    go_enter Tryz.func123, Tryz.ntmps123
    go_wp2_with (go_at_call 84; refine H.out.mono ?_; rintro e w0 ⟨rfl, hb0⟩)
    go_ret
    exact ⟨ret_bool (by unfold insB; rw [HV.out]; rfl), hb0⟩
  | true =>
    rw [hv] at H
    have HV := Lib.hid hv
    clear hv
    by_cases h0 : 0 < l.length
    · have HF : Hid (∀ W, Below w.heap.size w W → ∃ b o, a = some ⟨b, o, none⟩ ∧ W.cell? ⟨b, o, none⟩ = some (.int .i64 (firstFr l)) ∧ W.cell? ⟨b, o + (l.length - 1) * 2 + 1, none⟩ = some (.int .i64 (lastTo l))) := by
        intro W hW
        obtain ⟨b1, o1, x1, y1, e1, _, H1, c1, _⟩ := rd_at (k := 0) hc hW h0
        subst e1
        obtain ⟨b2, o2, x2, y2, e2, _, H2, _, c2⟩ := rd_at (k := l.length - 1) hc hW (by omega)
        cases e2
        refine ⟨b1, o1, rfl, ?_, ?_⟩
        · rw [firstFr, H1.out]; simpa using c1
        · rw [lastTo, H2.out]; exact c2
      clear hc
      have g0 : (((l.length : Int)) == 0) = false := by simp; intro e; simp [e] at h0
      have HI : Hid (insB l P = (decide (0 ≤ firstFr l) && decide (lastTo l ≤ P))) := by
        unfold Hid insB
        have : (l.length == 0) = false := by simp; intro e; simp [e] at h0
        rw [HV.out, this]; simp
      go_enter Tryz.func123, Tryz.ntmps123
      go_wp2_with fail
      refine H.out.mono ?_
      rintro e w0 ⟨rfl, hb0⟩
      obtain ⟨b, o, rfl, f1, f2⟩ := HF.out w0 hb0
      by_cases hp : 0 ≤ firstFr l
      · go_wp2
        all_goals go_ret
        all_goals exact ⟨ret_bool (by rw [HI.out]; simp [hp]), hb0⟩
      · have gp : decide (0 ≤ firstFr l) = false := by simp; omega
        go_wp2
        all_goals go_ret
        all_goals exact ⟨ret_bool (by rw [HI.out, gp]; rfl), hb0⟩
    · clear hc
      obtain rfl : l = [] := List.eq_nil_of_length_eq_zero (by omega)
      go_enter Tryz.func123, Tryz.ntmps123
      go_wp2_with (go_at_call 84; refine H.out.mono ?_; rintro e w0 ⟨rfl, hb0⟩)
      go_ret
      exact ⟨ret_bool (by unfold insB; rw [HV.out]; rfl), hb0⟩

set_option maxRecDepth 100000 in
set_option maxHeartbeats 1000000 in
theorem pvalid_any (P : Int) (v : Value) (l : List Sp) (w : World) (h : RdS w v l) :
    Calls Tryz.prog 103 #[.agg #[.int .i64 P, v]] w fun e w' => e = .returned (.bool (pvB P l)) ∧ Below w.heap.size w w' := by
  have HD := Lib.hid h
  obtain ⟨a, c, rfl, hl, hc⟩ := h
  clear hc
  generalize hvv : Value.slice a l.length c = v at *
  clear hvv
  have e0 : ∀ X, (extOf (w.alloc (.cells #[.int .i64 P, v] 24)) X).cell? ⟨w.heap.size, 0, none⟩ = some (.int .i64 P) := ext_cell (by simp [go_sem])
  have e1 : ∀ X, (extOf (w.alloc (.cells #[.int .i64 P, v] 24)) X).cell? ⟨w.heap.size, 1, none⟩ = some v := ext_cell (by simp [go_sem])
  have hB0 : Below w.heap.size w (w.alloc (.cells #[.int .i64 P, v] 24)) := (Below.refl _ _).alloc (Nat.le_refl _) _
  have HR := Lib.hid (HD.out.below (Nat.le_refl _) hB0)
  have HI := Lib.hid (fun X => inside_any v l P _ (ext_rd HR.out X))
  by_cases h1 : 1 ≤ P
  · by_cases h2 : P ≤ 12622780800
    · cases hi : insB l P with
      | false =>
        rw [hi] at HI
        have HF : Hid (pvB P l = false) := by unfold Hid pvB; rw [hi]; simp
        clear hi
        have g1 : decide (1 ≤ P) = true := by simpa using h1
        have g2 : decide (P ≤ 12622780800) = true := by simpa using h2
        go_enter Tryz.func103, Tryz.ntmps103
        go_wp2_with fail
        refine wp_region_ext (by kernel_rfl) (by kernel_rfl) ?_
        repeat (go_big_quiet_step ((go_at_call 123; refine calls_ext (HI.out _))))
        refine wpQuiet_nil ?_
        intro w1 hb1
        go_wp2
        go_ret
        exact ⟨ret_bool HF.out.symm, hB0.trans (hb1.mono (by simp))⟩
      | true =>
        rw [hi] at HI
        obtain ⟨hv, hins⟩ := inside_of_insB hi
        have HL := Lib.hid (fun W h' => least_any v l P W h' hv h1 h2 hins)
        have HV : Hid (pvB P l = (leastM l P == P)) := by unfold Hid pvB; rw [hi]; simp [h1, h2]
        have HW := Lib.hid (fun W h' => inside_any v l P W h')
        rw [hi] at HW
        clear hi hv hins HI
        have g1 : decide (1 ≤ P) = true := by simpa using h1
        have g2 : decide (P ≤ 12622780800) = true := by simpa using h2
        clear e0 e1
        have hf : ∀ (W : World) (x : Int) (a : Option Addr) (n c : Nat), (Instr.field 24 (.agg #[.int .i64 x, .slice a n c]) 0).run Tryz.prog W = .ok (.int .i64 x) W := fun _ _ _ _ _ => by kernel_rfl
        go_enter Tryz.func103, Tryz.ntmps103
        go_wp2_with fail
        go_region_held3 (fun w' => w'.cell? ⟨w.heap.size, 0, none⟩ = some (.int .i64 P) ∧ w'.cell? ⟨w.heap.size, 1, none⟩ = some v ∧ Below w.heap.size w w' ∧ RdS w' v l)
          (first | (refine ⟨?_, ?_, ?_, ?_⟩ <;> first | (simp [go_sem]; done) | (exact keepCell (by assumption) (by simp [go_sem, *])) | assumption | exact hB0.drew | exact keepBelow (by simp [*]) hbi | exact keepRd hbi (by simp [*]) | exact keepBelow (by simp [*]) hbl | exact keepRd hbl (by simp [*]) | exact HR.out.below (Nat.le_refl _) (Below.refl _ _).drew))
          (first
            | (go_at_call 123; refine (HW.out _ (by first | assumption | simp [*])).mono ?_; rintro e w' ⟨rfl, hbi⟩)
            | (go_at_call 124; refine (HL.out _ (by simp [*])).mono ?_; rintro e w' ⟨v', rfl, ho', hbl⟩; obtain ⟨a', c', rfl, _⟩ := ho'.form; clear ho'))
        go_wp2
        go_ret
        exact ⟨ret_bool HV.out.symm, by simp [*]⟩
    · have g1 : decide (1 ≤ P) = true := by simpa using h1
      have g2 : decide (P ≤ 12622780800) = false := by simpa using h2
      go_enter Tryz.func103, Tryz.ntmps103
      go_wp2_with fail
      refine wp_region_ext (by kernel_rfl) (by kernel_rfl) ?_
      repeat (go_big_quiet_step (fail))
      refine wpQuiet_nil ?_
      intro w1 hb1
      go_wp2
      go_ret
      exact ⟨ret_bool (by unfold pvB; rw [g1, g2]; simp), hB0.trans (hb1.mono (by simp))⟩
  · have g1 : decide (1 ≤ P) = false := by simpa using h1
    go_enter Tryz.func103, Tryz.ntmps103
    go_wp2_with fail
    refine wp_region_ext (by kernel_rfl) (by kernel_rfl) ?_
    repeat (go_big_quiet_step (fail))
    refine wpQuiet_nil ?_
    intro w1 hb1
    go_wp2
    go_ret
    exact ⟨ret_bool (by unfold pvB; rw [g1]; simp), hB0.trans (hb1.mono (by simp))⟩
end Go.Proofs.YtkfonfheakpcbaaGreat
