import Derived.Test.YtkfonfheakpcbaaGreatWkOwn
import Derived.Test.YtkfonfheakpcbaaGreatWkPl
import Derived.Test.YtkfonfheakpcbaaGreatWkSort
/- periodic.repeats. -/
namespace Go.Proofs.YtkfonfheakpcbaaGreat
open Go.RowKit Wk

set_option maxRecDepth 100000 in
set_option maxHeartbeats 2000000 in
theorem rep_any (v : Value) (l : List Sp) (P q : Int) (w : World) (h : RdS w v l) (hv : rvB l = true) (hP1 : 1 ≤ P) (hP2 : P ≤ 12622780800) (hq1 : 1 ≤ q) (hq2 : q ≤ P) (hin : inside P l) :
    Calls Tryz.prog 129 #[v, .int .i64 P, .int .i64 q] w fun e w' => e = .returned (.bool (repB l P q)) ∧ Below w.heap.size w w' := by
  obtain ⟨_, hbd, hlen⟩ := canon_of_rvB hv
  obtain ⟨a, c, rfl, hl, hc⟩ := h
  have HV := Lib.hid hv
  clear hv
  go_enter Tryz.func129, Tryz.ntmps129
  go_wp2_with fail
  go_loopw [7, 17] (fun u i wr => ∃ k : Nat, k ≤ l.length ∧ i = .int .i64 k ∧ OwnI wr w.heap.size u (chgT l P k) ∧ Below w.heap.size w wr) (fun _ i _ => l.length - (intOf i).toNat)
  case atStart => exact ⟨0, Nat.zero_le _, rfl, OwnI.nil _ _, Below.refl _ _⟩
  case round =>
    obtain ⟨k, hk, rfl, ho, hB⟩ := hrel
    by_cases hlt : k < l.length
    · obtain ⟨b, o, x, y, rfl, hbw, HXY, d1, d2⟩ := rd_at hc hB hlt
      have HF : Hid (∀ W, Below w.heap.size w W → W.cell? ⟨b, o, none⟩ = some (.int .i64 (firstFr l)) ∧ W.cell? ⟨b, o + (l.length - 1) * 2 + 1, none⟩ = some (.int .i64 (lastTo l))) := by
        intro W hW
        obtain ⟨b1, o1, x1, y1, e1, _, H1, c1, _⟩ := rd_at (k := 0) hc hW (by omega)
        cases e1
        obtain ⟨b2, o2, x2, y2, e2, _, H2, _, c2⟩ := rd_at (k := l.length - 1) hc hW (by omega)
        cases e2
        refine ⟨?_, ?_⟩
        · rw [firstFr, H1.out]; simpa using c1
        · rw [lastTo, H2.out]; exact c2
      obtain ⟨f0, t0⟩ := HF.out _ hB
      have HC := Lib.hid hc
      have HT := Lib.hid (chgT_succ (P := P) HXY.out hlt)
      have hl1 := chgT_len l P k
      clear hc
      have hsz := hB.size
      have hne := ho.ne
      have hpos : 0 < l.length := by omega
      have hbr : b < wr.heap.size := by omega
      have hl2 : (chgT l P k ++ [x]).length ≤ 4001 := by simp only [List.length_append, List.length_cons, List.length_nil]; omega
      by_cases hx0 : 0 < x
      · by_cases hy : y < P
        · go_wp2_with (first
          | (at_builtin; refine wpList_app_int rfl (.tmp 35) (.tmp 38) rfl rfl (ho.alloc _) (hB.alloc hsz _) rfl (by simp) (by omega) ?_; intro v1 w1 o1 b1 k1 z1; have s1 := (k1 wr.heap.size 1 (by simp) hne).trans (by simp [go_sem] : _ = some (.int .i64 y)); obtain ⟨f1, t1⟩ := HF.out _ b1; clear k1)
          | (at_builtin; (first | refine wpList_app_int rfl (.tmp 44) (.tmp 47) rfl rfl o1 b1 rfl (by simp) (by omega) ?_ | refine wpList_app_int rfl (.tmp 44) (.tmp 47) rfl rfl (ho.alloc _) (hB.alloc hsz _) rfl (by simp) (by omega) ?_); intro v2 w2 o2 b2 k2 z2; clear k2)
          | (at_builtin; (first | refine wpList_app_int rfl (.tmp 54) (.tmp 55) rfl rfl o1 b1 rfl (by simp) (by omega) ?_ | refine wpList_app_int rfl (.tmp 54) (.tmp 55) rfl rfl (ho.alloc _) (hB.alloc hsz _) rfl (by simp) (by omega) ?_); intro v2 w2 o2 b2 k2 z2; clear k2))
          go_roundw
          case rel =>
            have e : stepC (firstFr l) (lastTo l) P (x, y) = [x, y] := by unfold stepC; simp [hx0, hy]
            exact ⟨k + 1, by omega, by go_num, by rw [HT.out, e]; simpa using o2, b2⟩
          case measure => simp [intOf]; omega
        · by_cases hff : 0 < firstFr l
          · go_wp2_with (first
          | (at_builtin; refine wpList_app_int rfl (.tmp 35) (.tmp 38) rfl rfl (ho.alloc _) (hB.alloc hsz _) rfl (by simp) (by omega) ?_; intro v1 w1 o1 b1 k1 z1; have s1 := (k1 wr.heap.size 1 (by simp) hne).trans (by simp [go_sem] : _ = some (.int .i64 y)); obtain ⟨f1, t1⟩ := HF.out _ b1; clear k1)
          | (at_builtin; (first | refine wpList_app_int rfl (.tmp 44) (.tmp 47) rfl rfl o1 b1 rfl (by simp) (by omega) ?_ | refine wpList_app_int rfl (.tmp 44) (.tmp 47) rfl rfl (ho.alloc _) (hB.alloc hsz _) rfl (by simp) (by omega) ?_); intro v2 w2 o2 b2 k2 z2; clear k2)
          | (at_builtin; (first | refine wpList_app_int rfl (.tmp 54) (.tmp 55) rfl rfl o1 b1 rfl (by simp) (by omega) ?_ | refine wpList_app_int rfl (.tmp 54) (.tmp 55) rfl rfl (ho.alloc _) (hB.alloc hsz _) rfl (by simp) (by omega) ?_); intro v2 w2 o2 b2 k2 z2; clear k2))
            go_roundw
            case rel =>
              have e : stepC (firstFr l) (lastTo l) P (x, y) = [x, 0] := by unfold stepC; simp [hx0, hy, hff]
              exact ⟨k + 1, by omega, by go_num, by rw [HT.out, e]; simpa using o2, b2⟩
            case measure => simp [intOf]; omega
          · go_wp2_with (first
          | (at_builtin; refine wpList_app_int rfl (.tmp 35) (.tmp 38) rfl rfl (ho.alloc _) (hB.alloc hsz _) rfl (by simp) (by omega) ?_; intro v1 w1 o1 b1 k1 z1; have s1 := (k1 wr.heap.size 1 (by simp) hne).trans (by simp [go_sem] : _ = some (.int .i64 y)); obtain ⟨f1, t1⟩ := HF.out _ b1; clear k1)
          | (at_builtin; (first | refine wpList_app_int rfl (.tmp 44) (.tmp 47) rfl rfl o1 b1 rfl (by simp) (by omega) ?_ | refine wpList_app_int rfl (.tmp 44) (.tmp 47) rfl rfl (ho.alloc _) (hB.alloc hsz _) rfl (by simp) (by omega) ?_); intro v2 w2 o2 b2 k2 z2; clear k2)
          | (at_builtin; (first | refine wpList_app_int rfl (.tmp 54) (.tmp 55) rfl rfl o1 b1 rfl (by simp) (by omega) ?_ | refine wpList_app_int rfl (.tmp 54) (.tmp 55) rfl rfl (ho.alloc _) (hB.alloc hsz _) rfl (by simp) (by omega) ?_); intro v2 w2 o2 b2 k2 z2; clear k2))
            go_roundw
            case rel =>
              have e : stepC (firstFr l) (lastTo l) P (x, y) = [x] := by unfold stepC; simp [hx0, hy, hff]
              exact ⟨k + 1, by omega, by go_num, by rw [HT.out, e]; simpa using o1, b1⟩
            case measure => simp [intOf]; omega
      · by_cases htp : lastTo l < P
        · by_cases hy : y < P
          · go_wp2_with (first
          | (at_builtin; refine wpList_app_int rfl (.tmp 35) (.tmp 38) rfl rfl (ho.alloc _) (hB.alloc hsz _) rfl (by simp) (by omega) ?_; intro v1 w1 o1 b1 k1 z1; have s1 := (k1 wr.heap.size 1 (by simp) hne).trans (by simp [go_sem] : _ = some (.int .i64 y)); obtain ⟨f1, t1⟩ := HF.out _ b1; clear k1)
          | (at_builtin; (first | refine wpList_app_int rfl (.tmp 44) (.tmp 47) rfl rfl o1 b1 rfl (by simp) (by omega) ?_ | refine wpList_app_int rfl (.tmp 44) (.tmp 47) rfl rfl (ho.alloc _) (hB.alloc hsz _) rfl (by simp) (by omega) ?_); intro v2 w2 o2 b2 k2 z2; clear k2)
          | (at_builtin; (first | refine wpList_app_int rfl (.tmp 54) (.tmp 55) rfl rfl o1 b1 rfl (by simp) (by omega) ?_ | refine wpList_app_int rfl (.tmp 54) (.tmp 55) rfl rfl (ho.alloc _) (hB.alloc hsz _) rfl (by simp) (by omega) ?_); intro v2 w2 o2 b2 k2 z2; clear k2))
            go_roundw
            case rel =>
              have e : stepC (firstFr l) (lastTo l) P (x, y) = [x, y] := by unfold stepC; simp [hx0, htp, hy]
              exact ⟨k + 1, by omega, by go_num, by rw [HT.out, e]; simpa using o2, b2⟩
            case measure => simp [intOf]; omega
          · by_cases hff : 0 < firstFr l
            · go_wp2_with (first
          | (at_builtin; refine wpList_app_int rfl (.tmp 35) (.tmp 38) rfl rfl (ho.alloc _) (hB.alloc hsz _) rfl (by simp) (by omega) ?_; intro v1 w1 o1 b1 k1 z1; have s1 := (k1 wr.heap.size 1 (by simp) hne).trans (by simp [go_sem] : _ = some (.int .i64 y)); obtain ⟨f1, t1⟩ := HF.out _ b1; clear k1)
          | (at_builtin; (first | refine wpList_app_int rfl (.tmp 44) (.tmp 47) rfl rfl o1 b1 rfl (by simp) (by omega) ?_ | refine wpList_app_int rfl (.tmp 44) (.tmp 47) rfl rfl (ho.alloc _) (hB.alloc hsz _) rfl (by simp) (by omega) ?_); intro v2 w2 o2 b2 k2 z2; clear k2)
          | (at_builtin; (first | refine wpList_app_int rfl (.tmp 54) (.tmp 55) rfl rfl o1 b1 rfl (by simp) (by omega) ?_ | refine wpList_app_int rfl (.tmp 54) (.tmp 55) rfl rfl (ho.alloc _) (hB.alloc hsz _) rfl (by simp) (by omega) ?_); intro v2 w2 o2 b2 k2 z2; clear k2))
              go_roundw
              case rel =>
                have e : stepC (firstFr l) (lastTo l) P (x, y) = [x, 0] := by unfold stepC; simp [hx0, htp, hy, hff]
                exact ⟨k + 1, by omega, by go_num, by rw [HT.out, e]; simpa using o2, b2⟩
              case measure => simp [intOf]; omega
            · go_wp2_with (first
          | (at_builtin; refine wpList_app_int rfl (.tmp 35) (.tmp 38) rfl rfl (ho.alloc _) (hB.alloc hsz _) rfl (by simp) (by omega) ?_; intro v1 w1 o1 b1 k1 z1; have s1 := (k1 wr.heap.size 1 (by simp) hne).trans (by simp [go_sem] : _ = some (.int .i64 y)); obtain ⟨f1, t1⟩ := HF.out _ b1; clear k1)
          | (at_builtin; (first | refine wpList_app_int rfl (.tmp 44) (.tmp 47) rfl rfl o1 b1 rfl (by simp) (by omega) ?_ | refine wpList_app_int rfl (.tmp 44) (.tmp 47) rfl rfl (ho.alloc _) (hB.alloc hsz _) rfl (by simp) (by omega) ?_); intro v2 w2 o2 b2 k2 z2; clear k2)
          | (at_builtin; (first | refine wpList_app_int rfl (.tmp 54) (.tmp 55) rfl rfl o1 b1 rfl (by simp) (by omega) ?_ | refine wpList_app_int rfl (.tmp 54) (.tmp 55) rfl rfl (ho.alloc _) (hB.alloc hsz _) rfl (by simp) (by omega) ?_); intro v2 w2 o2 b2 k2 z2; clear k2))
              go_roundw
              case rel =>
                have e : stepC (firstFr l) (lastTo l) P (x, y) = [x] := by unfold stepC; simp [hx0, htp, hy, hff]
                exact ⟨k + 1, by omega, by go_num, by rw [HT.out, e]; simpa using o1, b1⟩
              case measure => simp [intOf]; omega
        · by_cases hy : y < P
          · go_wp2_with (first
          | (at_builtin; refine wpList_app_int rfl (.tmp 35) (.tmp 38) rfl rfl (ho.alloc _) (hB.alloc hsz _) rfl (by simp) (by omega) ?_; intro v1 w1 o1 b1 k1 z1; have s1 := (k1 wr.heap.size 1 (by simp) hne).trans (by simp [go_sem] : _ = some (.int .i64 y)); obtain ⟨f1, t1⟩ := HF.out _ b1; clear k1)
          | (at_builtin; (first | refine wpList_app_int rfl (.tmp 44) (.tmp 47) rfl rfl o1 b1 rfl (by simp) (by omega) ?_ | refine wpList_app_int rfl (.tmp 44) (.tmp 47) rfl rfl (ho.alloc _) (hB.alloc hsz _) rfl (by simp) (by omega) ?_); intro v2 w2 o2 b2 k2 z2; clear k2)
          | (at_builtin; (first | refine wpList_app_int rfl (.tmp 54) (.tmp 55) rfl rfl o1 b1 rfl (by simp) (by omega) ?_ | refine wpList_app_int rfl (.tmp 54) (.tmp 55) rfl rfl (ho.alloc _) (hB.alloc hsz _) rfl (by simp) (by omega) ?_); intro v2 w2 o2 b2 k2 z2; clear k2))
            go_roundw
            case rel =>
              have e : stepC (firstFr l) (lastTo l) P (x, y) = [y] := by unfold stepC; simp [hx0, htp, hy]
              exact ⟨k + 1, by omega, by go_num, by rw [HT.out, e]; simpa using o2, b2⟩
            case measure => simp [intOf]; omega
          · by_cases hff : 0 < firstFr l
            · go_wp2_with (first
          | (at_builtin; refine wpList_app_int rfl (.tmp 35) (.tmp 38) rfl rfl (ho.alloc _) (hB.alloc hsz _) rfl (by simp) (by omega) ?_; intro v1 w1 o1 b1 k1 z1; have s1 := (k1 wr.heap.size 1 (by simp) hne).trans (by simp [go_sem] : _ = some (.int .i64 y)); obtain ⟨f1, t1⟩ := HF.out _ b1; clear k1)
          | (at_builtin; (first | refine wpList_app_int rfl (.tmp 44) (.tmp 47) rfl rfl o1 b1 rfl (by simp) (by omega) ?_ | refine wpList_app_int rfl (.tmp 44) (.tmp 47) rfl rfl (ho.alloc _) (hB.alloc hsz _) rfl (by simp) (by omega) ?_); intro v2 w2 o2 b2 k2 z2; clear k2)
          | (at_builtin; (first | refine wpList_app_int rfl (.tmp 54) (.tmp 55) rfl rfl o1 b1 rfl (by simp) (by omega) ?_ | refine wpList_app_int rfl (.tmp 54) (.tmp 55) rfl rfl (ho.alloc _) (hB.alloc hsz _) rfl (by simp) (by omega) ?_); intro v2 w2 o2 b2 k2 z2; clear k2))
              go_roundw
              case rel =>
                have e : stepC (firstFr l) (lastTo l) P (x, y) = [0] := by unfold stepC; simp [hx0, htp, hy, hff]
                exact ⟨k + 1, by omega, by go_num, by rw [HT.out, e]; simpa using o2, b2⟩
              case measure => simp [intOf]; omega
            · go_wp2_with (first
          | (at_builtin; refine wpList_app_int rfl (.tmp 35) (.tmp 38) rfl rfl (ho.alloc _) (hB.alloc hsz _) rfl (by simp) (by omega) ?_; intro v1 w1 o1 b1 k1 z1; have s1 := (k1 wr.heap.size 1 (by simp) hne).trans (by simp [go_sem] : _ = some (.int .i64 y)); obtain ⟨f1, t1⟩ := HF.out _ b1; clear k1)
          | (at_builtin; (first | refine wpList_app_int rfl (.tmp 44) (.tmp 47) rfl rfl o1 b1 rfl (by simp) (by omega) ?_ | refine wpList_app_int rfl (.tmp 44) (.tmp 47) rfl rfl (ho.alloc _) (hB.alloc hsz _) rfl (by simp) (by omega) ?_); intro v2 w2 o2 b2 k2 z2; clear k2)
          | (at_builtin; (first | refine wpList_app_int rfl (.tmp 54) (.tmp 55) rfl rfl o1 b1 rfl (by simp) (by omega) ?_ | refine wpList_app_int rfl (.tmp 54) (.tmp 55) rfl rfl (ho.alloc _) (hB.alloc hsz _) rfl (by simp) (by omega) ?_); intro v2 w2 o2 b2 k2 z2; clear k2))
              go_roundw
              case rel =>
                have e : stepC (firstFr l) (lastTo l) P (x, y) = [] := by unfold stepC; simp [hx0, htp, hy, hff]
                exact ⟨k + 1, by omega, by go_num, by rw [HT.out, e]; simpa using (ho.alloc _), (hB.alloc hsz _)⟩
              case measure => simp [intOf]; omega
    · clear hc
      have hk' : l.length ≤ k := by omega
      have hlen2 := chgT_len l P k
      rw [chgT_full l P k hk'] at ho hlen2
      have HS := Lib.hid (sort_own u7 (chg l P) w wr ho hB (by omega))
      go_wp2_with (go_at_call 132; refine HS.out.mono ?_; rintro e w1 ⟨rfl, o1, b1⟩)
      obtain ⟨a', cp, rfl, hce⟩ := o1.form
      obtain ⟨C, hC⟩ : ∃ C, sortI (chg l P) = C := ⟨_, rfl⟩
      have hlC : C.length ≤ 4000 := by rw [← hC, sortI_len]; omega
      have hCb : ∀ x ∈ C, 0 ≤ x ∧ x ≤ P := fun x hx => by rw [← hC, sortI_mem] at hx; exact chg_bd hP1 hin hbd hx
      rw [hC] at hce
      have HC := Lib.hid hC
      rw [hC]
      have HCB := Lib.hid hCb
      clear hC hCb o1 hlen2
      have hb := prod_bd hlC hq1 hq2 hP2
      obtain ⟨p1, p2, p3, p4, p5, p6⟩ := hb
      by_cases hm0 : 0 < C.length
      · have g0 : (((C.length : Int)) == 0) = false := by simp; intro e; simp [e] at hm0
        by_cases t1 : ((C.length : Int) * q / P * P != (C.length : Int) * q) = true
        · clear hce
          go_wp2_with fail
          go_simp
          go_wp2
          go_ret
          exact ⟨ret_bool (repB_no1 HC.out hm0 t1).symm, b1⟩
        · have t1' : ((C.length : Int) * q / P * P != (C.length : Int) * q) = false := by simpa using t1
          clear t1
          by_cases t2 : ((C.length : Int) * q / P % 2 != 0) = true
          · clear hce
            go_wp2_with fail
            go_simp
            go_wp2
            go_ret
            exact ⟨ret_bool (repB_no2 HC.out hm0 t2).symm, b1⟩
          · have t2' : ((C.length : Int) * q / P % 2 != 0) = false := by simpa using t2
            have T1 := Lib.hid t1'
            have T2 := Lib.hid t2'
            clear t2
            go_wp2_with fail
            go_simp
            go_wp2_with fail
            obtain ⟨K, hK⟩ : ∃ K, (C.length : Int) * q / P = K := ⟨_, rfl⟩
            simp only [hK] at p3 p4 ⊢
            have HK := Lib.hid hK
            clear t1' t2' p1 p2 p5 p6 hK
            go_loopw [82] (fun i wr => ∃ k : Nat, k ≤ C.length ∧ i = .int .i64 k ∧ Hid (∀ j, j < k → repOk C P q K j = true) ∧ w1 = wr) (fun i _ => C.length - (intOf i).toNat)
            case atStart => exact ⟨0, Nat.zero_le _, rfl, (fun j hj => by omega), rfl⟩
            case round =>
              obtain ⟨i, hi, rfl, HI, rfl⟩ := hrel
              by_cases hil : i < C.length
              · obtain ⟨g, rfl, hg, c1⟩ := hce i hil
                have e1 := Int.emod_nonneg ((i : Int) + K) (b := (C.length : Int)) (by omega)
                have e2 := Int.emod_lt_of_pos ((i : Int) + K) (b := (C.length : Int)) (by omega)
                obtain ⟨g', e', _, c2⟩ := hce (((i : Int) + K) % (C.length : Int)).toNat (by omega)
                cases e'
                have hx : 0 ≤ C.getD i 0 ∧ C.getD i 0 ≤ P := HCB.out _ (by rw [List.getD_eq_getElem?_getD, List.getElem?_eq_getElem hil]; exact List.getElem_mem hil)
                obtain ⟨x, hxe⟩ : ∃ x, C.getD i 0 = x := ⟨_, rfl⟩
                obtain ⟨z, hze⟩ : ∃ z, C.getD (((i : Int) + K) % (C.length : Int)).toNat 0 = z := ⟨_, rfl⟩
                rw [hxe] at c1 hx
                rw [hze] at c2
                have HX := Lib.hid hxe
                have HZ := Lib.hid hze
                clear hxe hze hce
                by_cases hy : P ≤ x + q
                · have HY : Hid (wrapC P (C.getD i 0 + q) = x + q - P) := by unfold Hid wrapC; rw [HX.out, if_pos hy]
                  by_cases hc2 : (z != x + q - P) = true
                  · go_wp2
                    go_ret
                    exact ⟨ret_bool (repB_no3 HC.out hil (by rw [HK.out]; unfold repOk; rw [HZ.out, HY.out]; simpa using hc2)).symm, b1⟩
                  · have hc3 : (z != x + q - P) = false := by simpa using hc2
                    clear hc2
                    go_wp2
                    go_roundw
                    case rel => exact ⟨i + 1, by omega, by go_num, (fun j hj => by
                      rcases Nat.lt_succ_iff_lt_or_eq.1 hj with h | rfl
                      · exact HI.out j h
                      · unfold repOk; rw [HZ.out, HY.out]; simpa using hc3), trivial⟩
                    case measure => simp [intOf]; omega
                · have HY : Hid (wrapC P (C.getD i 0 + q) = x + q) := by unfold Hid wrapC; rw [HX.out, if_neg hy]
                  by_cases hc2 : (z != x + q) = true
                  · go_wp2
                    go_ret
                    exact ⟨ret_bool (repB_no3 HC.out hil (by rw [HK.out]; unfold repOk; rw [HZ.out, HY.out]; simpa using hc2)).symm, b1⟩
                  · have hc3 : (z != x + q) = false := by simpa using hc2
                    clear hc2
                    go_wp2
                    go_roundw
                    case rel => exact ⟨i + 1, by omega, by go_num, (fun j hj => by
                      rcases Nat.lt_succ_iff_lt_or_eq.1 hj with h | rfl
                      · exact HI.out j h
                      · unfold repOk; rw [HZ.out, HY.out]; simpa using hc3), trivial⟩
                    case measure => simp [intOf]; omega
              · clear hce
                go_wp2
                go_ret
                exact ⟨ret_bool (repB_yes HC.out T1.out T2.out (by rw [HK.out]; exact fun j hj => HI.out j (by omega))).symm, b1⟩
      · clear hce
        obtain rfl : C = [] := List.eq_nil_of_length_eq_zero (by omega)
        go_wp2_with fail
        go_simp
        go_wp2
        go_ret
        exact ⟨ret_bool (repB_zero HC.out rfl).symm, b1⟩
end Go.Proofs.YtkfonfheakpcbaaGreat
