import Derived.Test.YtlbjfbpejomkmaaGreatWkAgQg
import Derived.Test.YtlbjfbpejomkmaaGreatWkAgLo
import Derived.Test.YtlbjfbpejomkmaaGreatWkAgIq
import Derived.Test.YtlbjfbpejomkmaaGreatWkAg7
/- The law AgendaLate. -/
namespace Go.Proofs.YtlbjfbpejomkmaaGreat
open Go.RowKit Wk

set_option maxHeartbeats 1000000 in
theorem spans48_any (v1 v2 : Value) (l1 l2 : List Sp) (w : World) (h1 : RdS w v1 l1) (h2 : RdS w v2 l2) :
    Calls Tryz.prog 19 #[v1, v2] w fun e w' => e = .returned (.bool (decide (l1 = l2))) ∧ Below w.heap.size w w' := by
  have H := Lib.hid (same12_any v1 v2 l1 l2 w h1 h2)
  generalize decide (l1 = l2) = d at *
  obtain ⟨a1, c1, rfl⟩ := h1.form
  obtain ⟨a2, c2, rfl⟩ := h2.form
  clear h1 h2
  go_enter Tryz.func19, Tryz.ntmps19
  go_wp2_with fail
  refine H.out.mono ?_
  rintro e w1 ⟨rfl, hb1⟩
  go_wp2
  go_ret
  exact ⟨rfl, hb1⟩
def wantL (l : List Tk) (b : List Sp) (k : Nat) : List Nat := if l.length = b.length then ltL l b k else []
theorem wantL_all (l : List Tk) (b : List Sp) : wantL l b l.length = lateM l b := rfl
theorem wantL_len (l : List Tk) (b : List Sp) (k : Nat) : (wantL l b k).length ≤ k := by
  unfold wantL
  split
  · exact ltL_len l b k
  · simp
theorem load_len (l : List Tk) (b : List Sp) (r : Int) (hl : l.length ≤ 24) : (loadM l b r).length ≤ 48 := by
  unfold loadM
  split
  · rename_i hb
    split
    · rename_i hk
      obtain ⟨-, h2⟩ := load_ok hb hk
      obtain ⟨L, g1, g2, g3⟩ := un_ex (selL l b r l.length)
      rw [← un_of h2.out g1 g2]
      have := selL_len l b r l.length
      omega
    · simp
  · simp
set_option maxRecDepth 100000 in
set_option maxHeartbeats 8000000 in
theorem law_AgendaLate (vl va : Value) (r : Int) (L : List Kv) (b : List Sp) (w : World) (hL : RdK w vl L) (hb : RdS w va b) :
    Calls Tryz.prog 7 #[vl, va, .int .i64 r] w fun e w' => e = .returned (.bool true) ∧ Below w.heap.size w w' := by
  have HA := Lib.hid (fun W => awake48_any W)
  have HLT := Lib.hid (fun W h h' hl => late_any vl va L b W h h' hl)
  have HIQ := Lib.hid (fun v1 v2 l W h h' => iseqJ_any v1 v2 l W h h')
  have HLO := Lib.hid (fun W h h' hl => load_any vl va r L b W h h' hl)
  have HLR := Lib.hid (fun W h h' hl => load48_any vl va r L b W h h' hl)
  have HSP := Lib.hid (fun v1 v2 l1 l2 W h h' => spans48_any v1 v2 l1 l2 W h h')
  have HL := Lib.hid hL
  have HS := Lib.hid hb
  obtain ⟨al, cl, rfl⟩ := hL.form
  obtain ⟨aa, ca, rfl⟩ := hb.form
  clear hL hb
  go_enter Tryz.func7, Tryz.ntmps7
  go_wp2_with fail
  refine (HA.out _).mono ?_
  rintro e w1 ⟨rfl, hb1⟩
  have HL1 := Lib.hid (HL.out.below hb1)
  have HS1 := Lib.hid (keepRd hb1 HS.out)
  have HB1 := Lib.hid hb1
  clear hb1
  by_cases h1 : 24 < L.length
  · have g1 : decide (24 < (L.length : Int)) = true := by simp; omega
    clear h1
    go_wp2
    go_ret
    exact ⟨rfl, HB1.out⟩
  have g1 : decide (24 < (L.length : Int)) = false := by simp; omega
  have HN1 : Hid (L.length ≤ 24) := by unfold Hid; omega
  clear h1
  by_cases h2 : 24 < b.length
  · have g2 : decide (24 < (b.length : Int)) = true := by simp; omega
    clear h2
    go_wp2
    go_ret
    exact ⟨rfl, HB1.out⟩
  have g2 : decide (24 < (b.length : Int)) = false := by simp; omega
  have HN2 : Hid (b.length ≤ 24) := by unfold Hid; omega
  clear h2
  go_wp2_with fail
  go_loopw [7, 22] (fun u i wr => ∃ k : Nat, k ≤ L.length ∧ i = .int .i64 k ∧ OwnI wr w1.heap.size u (natI (wantL (tks L) b k)) ∧ Below w1.heap.size w1 wr) (fun _ i _ => L.length - (intOf i).toNat)
  case atStart => exact ⟨0, Nat.zero_le _, rfl, by unfold wantL; split <;> exact OwnI.nil _ _, Below.refl _ _⟩
  case round =>
    obtain ⟨k, hk, rfl, ho, hB⟩ := hrel
    by_cases hlt : k < L.length
    · obtain ⟨al', cl', ea, hl, hc⟩ := HL1.out
      cases ea
      obtain ⟨hj, bl, ol, rfl, q0, q1, q2, q3, q4⟩ := hc k hlt
      obtain ⟨x, hx⟩ : ∃ x, L.getD k kv0 = x := ⟨_, rfl⟩
      rw [hx] at hj q0 q1 q2 q3 q4
      obtain ⟨a1, n1, e1⟩ := hj.form
      rw [e1] at q3
      have p0 := keepCell hB q0
      have p1 := keepCell hB q1
      have p2 := keepCell hB q2
      have p3 := keepCell hB q3
      have p4 := keepCell hB q4
      have hsz := hB.size
      obtain ⟨O, hO⟩ : ∃ O, (Obj.cells #[.string x.1.nm, .int .i64 x.1.wk, .int .i64 x.1.rs, .slice a1 x.1.af.length n1, .int .i64 x.1.du] 44) = O := ⟨_, rfl⟩
      have hBW := hB.alloc hsz O
      have ho5 := ho.alloc O
      have t4 : (wr.alloc O).cell? ⟨wr.heap.size, 4, none⟩ = some (.int .i64 x.1.du) := by rw [← hO]; simp [go_sem]
      have HLN := Lib.hid (wantL_len (tks L) b k)
      have HTA : Hid (dueOf (tks L) k = x.1.du) := by unfold Hid dueOf; rw [tks_at, hx]
      go_upto_region 9 with fail
      obtain ⟨X, hX⟩ : ∃ X, wr.alloc O = X := ⟨_, rfl⟩
      rw [hX] at t4 hBW ho5 ⊢
      have HBW := Lib.hid hBW
      have HO5 := Lib.hid ho5
      have HTL : Hid ((tks L).length = L.length) := tks_length L
      clear hX hO p0 p1 p2 p3 p4 q0 q1 q2 q3 q4 hj e1 hx hc hl ho hB hsz hBW ho5
      have f4 := ext_cell t4
      by_cases hne : L.length = b.length
      · have g3 : ((L.length : Int) == (b.length : Int)) = true := by simp; omega
        have g4 : (L.length == b.length) = true := by simp; omega
        have hlt2 : k < b.length := by omega
        obtain ⟨a2, c2, e2, _, hc2⟩ := HS1.out
        cases e2
        obtain ⟨b2, o2, rfl, d1, d2⟩ := hc2 k hlt2
        obtain ⟨ty, hty⟩ : ∃ ty, (b.getD k (0, 0)).2 = ty := ⟨_, rfl⟩
        rw [hty] at d2
        have d4 := ext_cell (keepCell HBW.out d2)
        have HFS : Hid (wantL (tks L) b (k + 1) = if x.1.du < ty then wantL (tks L) b k ++ [k] else wantL (tks L) b k) := by
          have hw : ∀ j, wantL (tks L) b j = ltL (tks L) b j := fun j => by unfold wantL; rw [if_pos (by rw [HTL.out]; exact hne)]
          unfold Hid
          rw [hw, hw, ltL_succ, HTA.out]
          unfold spAt
          rw [hty]
        have s4 : (k : Int) < (b.length : Int) := by omega
        clear hne hc2 d1 d2 hty t4
        by_cases hdue : x.1.du < ty
        · have g5 : decide (x.1.du < ty) = true := by simpa using hdue
          have HDE := Lib.hid hdue
          clear hdue
          refine wp_region_ext (by kernel_rfl) (by kernel_rfl) ?_
          iterate 15 (go_big_quiet_step (fail))
          refine wpQuiet_nil ?_
          intro w2 hb2
          have o1 := HO5.out.below hb2
          have b1 := HBW.out.trans (hb2.mono HBW.out.size)
          clear hb2 f4 d4
          go_wp2_with (at_builtin; refine wpList_app_int rfl (.tmp 42) (.tmp 44) rfl rfl o1 b1 rfl (by simp) (by rw [natI_length]; have := HLN.out; have := HN1.out; omega) ?_; intro v2 w3 o2 b2 k2 z2; clear k2 z2)
          go_roundw
          case rel => exact ⟨k + 1, by omega, by go_num, by rw [HFS.out, if_pos HDE.out, natI_append]; exact o2, b2⟩
          case measure => simp [intOf]; omega
        · have g5 : decide (x.1.du < ty) = false := by simpa using hdue
          have HDE : Hid (¬ x.1.du < ty) := hdue
          clear hdue
          refine wp_region_ext (by kernel_rfl) (by kernel_rfl) ?_
          iterate 15 (go_big_quiet_step (fail))
          refine wpQuiet_nil ?_
          intro w2 hb2
          have o1 := HO5.out.below hb2
          have b1 := HBW.out.trans (hb2.mono HBW.out.size)
          clear hb2 f4 d4
          go_wp2
          go_roundw
          case rel => exact ⟨k + 1, by omega, by go_num, by rw [HFS.out, if_neg HDE.out]; exact o1, b1⟩
          case measure => simp [intOf]; omega
      · have g3 : ((L.length : Int) == (b.length : Int)) = false := by simp; omega
        have g4 : (L.length == b.length) = false := by simp; omega
        have HFS : Hid (wantL (tks L) b (k + 1) = wantL (tks L) b k) := by
          unfold Hid wantL
          rw [if_neg (by rw [HTL.out]; exact hne), if_neg (by rw [HTL.out]; exact hne)]
        have hkb : (k : Int) ≤ 24 := by have := HN1.out; omega
        clear hne t4
        refine wp_region_ext (by kernel_rfl) (by kernel_rfl) ?_
        iterate 15 (go_big_quiet_step (fail))
        refine wpQuiet_nil ?_
        intro w2 hb2
        have o1 := HO5.out.below hb2
        have b1 := HBW.out.trans (hb2.mono HBW.out.size)
        clear hb2 f4
        go_wp2
        go_roundw
        case rel => exact ⟨k + 1, by omega, by go_num, by rw [HFS.out]; exact o1, b1⟩
        case measure => simp [intOf]; omega
    · have hkl : k = L.length := by omega
      subst hkl
      have HLN := Lib.hid (wantL_len (tks L) b L.length)
      have HWA : Hid (wantL (tks L) b L.length = lateM (tks L) b) := by
        have := wantL_all (tks L) b
        rw [tks_length] at this
        exact this
      have HRJ := Lib.hid (ho.rdJ (by rw [natI_length]; have := HLN.out; have := HN1.out; omega))
      rw [HWA.out] at HRJ
      obtain ⟨av, cv, rfl⟩ := (ho.rdJ (by rw [natI_length]; have := HLN.out; have := HN1.out; omega)).form
      have HB := Lib.hid (keepBelow HB1.out hB)
      have HL2 := Lib.hid (HL1.out.below hB)
      have HS2 := Lib.hid (keepRd hB HS1.out)
      clear ho hB
      go_wp2_with fail
      refine (HLT.out _ HL2.out HS2.out (by have := HN1.out; omega)).mono ?_
      rintro e w3 ⟨v3, rfl, o3, hb3⟩
      have HL3 := Lib.hid (HL2.out.below hb3)
      have HS3 := Lib.hid (keepRd hb3 HS2.out)
      have HB3 := Lib.hid (keepBelow HB.out hb3)
      have HR3 := Lib.hid (HRJ.out.below hb3)
      have HO3 : Hid (RdJ w3 v3 (natI (lateM (tks L) b))) := o3.rdJ (by
        rw [natI_length]
        have h1 := wantL_len (tks L) b L.length
        rw [HWA.out] at h1
        have := HN1.out
        omega)
      obtain ⟨a3, c3, rfl⟩ := HO3.out.form
      clear hb3 o3
      go_wp2_with fail
      refine (HIQ.out _ _ _ _ HO3.out HR3.out).mono ?_
      rintro e w4 ⟨rfl, hb4⟩
      have HL4 := Lib.hid (HL3.out.below hb4)
      have HS4 := Lib.hid (keepRd hb4 HS3.out)
      have HB4 := Lib.hid (keepBelow HB3.out hb4)
      clear hb4
      go_wp2_with fail
      refine (HLO.out _ HL4.out HS4.out HN1.out).mono ?_
      rintro e w5 ⟨v5, rfl, o5, hb5⟩
      have HL5 := Lib.hid (HL4.out.below hb5)
      have HS5 := Lib.hid (keepRd hb5 HS4.out)
      have HB5 := Lib.hid (keepBelow HB4.out hb5)
      have HLL := Lib.hid (load_len (tks L) b r (by rw [tks_length]; exact HN1.out))
      have HO5 := Lib.hid (o5.rd (by have := HLL.out; omega))
      obtain ⟨a5, c5, rfl⟩ := HO5.out.form
      clear hb5 o5
      go_wp2_with fail
      refine (HLR.out _ HL5.out HS5.out HN1.out).mono ?_
      rintro e w6 ⟨v6, rfl, o6, hb6⟩
      have HB6 := Lib.hid (keepBelow HB5.out hb6)
      have HO6 := Lib.hid (o6.rd (by have := HLL.out; omega))
      have HP6 := Lib.hid (keepRd hb6 HO5.out)
      obtain ⟨a6, c6, rfl⟩ := HO6.out.form
      clear hb6 o6
      go_wp2_with fail
      refine (HSP.out _ _ _ _ _ HP6.out HO6.out).mono ?_
      rintro e w7 ⟨rfl, hb7⟩
      rw [decide_eq_true rfl]
      have HB7 := Lib.hid (keepBelow HB6.out hb7)
      clear hb7
      go_wp2
      go_ret
      exact ⟨rfl, HB7.out⟩
end Go.Proofs.YtlbjfbpejomkmaaGreat
