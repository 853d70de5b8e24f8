import Derived.Test.YtnjpceocnldlfaaGreatWkBh
import Derived.Test.YtnjpceocnldlfaaGreatWkPu
import Derived.Test.YtnjpceocnldlfaaGreatWkBth
/- periodic.fold. -/
namespace Go.Proofs.YtnjpceocnldlfaaGreat
open Go.RowKit Wk

def FldPost (P : Int) (L : List Sp) (w : World) (e : Ending) (w' : World) : Prop := ∃ v F, e = .returned v ∧ OwnS w' w.heap.size v F ∧ Canon F ∧ (∀ x, inL F x = ((decide (0 ≤ x) && decide (x < P)) && (inL L x || inL L (x + P)))) ∧ F.length ≤ 2 * L.length ∧ Below w.heap.size w w'
/-- a part of the list is folded -/
def FldInv (P : Int) (T A : List Sp) : Prop := (∀ x, inL A x = ((decide (0 ≤ x) && decide (x < P)) && (inL T x || inL T (x + P)))) ∧ (∀ s ∈ A, 0 ≤ s.1 ∧ s.1 < s.2 ∧ s.2 ≤ P) ∧ A.length ≤ 2 * T.length

set_option maxRecDepth 100000 in
set_option maxHeartbeats 4000000 in
theorem fold_any (P : Int) (v : Value) (L : List Sp) (w : World) (h : RdS w v L) (hP1 : 1 ≤ P) (hP2 : P ≤ 12622780800) (hL : ∀ s ∈ L, 0 ≤ s.1 ∧ s.1 < s.2 ∧ s.2 ≤ 2 * P) (hll : L.length ≤ 2000) :
    Calls Tryz.prog 146 #[.int .i64 P, v] w (FldPost P L w) := by
  have HM := Lib.hid (fun y W h1 h2 => imod_any y P W hP1 (by omega) h1 h2)
  obtain ⟨p, c, rfl, hlL, hc⟩ := h
  have HC := Lib.hid hc
  have HL := Lib.hid hL
  clear hc hL
  go_enter Tryz.func146, Tryz.ntmps146
  go_wp2_with fail
  go_loopw [5, 12] (fun u vi wr => ∃ (i : Nat) (A : List Sp), vi = .int .i64 i ∧ i ≤ L.length ∧ OwnS wr w.heap.size u A ∧ Hid (FldInv P (L.take i) A) ∧ Below w.heap.size w wr) (fun _ vi _ => L.length - (intOf vi).toNat)
  case atStart => exact ⟨0, [], rfl, Nat.zero_le _, OwnS.nil _ _, by unfold Hid FldInv; simp [inL], Below.refl _ _⟩
  case round =>
    obtain ⟨i, A, rfl, hi, ho, HF, hB⟩ := hrel
    have hAl : A.length ≤ 4000 := by have := HF.out.2.2; rw [List.length_take] at this; omega
    by_cases hlt : i < L.length
    · obtain ⟨bb, o, y1, y2, rfl, hbw, HXY, d1, d2⟩ := rd_at HC.out hB hlt
      obtain ⟨hy0, hy1, hy2⟩ := HL.out _ (mem_of_getD HXY.out hlt)
      simp only at hy0 hy1 hy2
      have HTK : Hid (L.take (i + 1) = L.take i ++ [(y1, y2)]) := getD_take_succ HXY.out hlt
      have s0 : IntKind.i64.wrap (y2 - y1) = y2 - y1 := by rw [IntKind.wrap_i64]; omega
      by_cases hfull : P ≤ y2 - y1
      · have t1 : decide (P ≤ y2 - y1) = true := by simpa using hfull
        have HFU : Hid (∀ x, inL [(0, P)] x = ((decide (0 ≤ x) && decide (x < P)) && (inL L x || inL L (x + P)))) := by
          have e : L = L.take i ++ (y1, y2) :: L.drop (i + 1) := by
            have e1 := HTK.out
            have e2 := List.take_append_drop (i + 1) L
            rw [e1] at e2
            simpa using e2.symm
          unfold Hid
          rw [e]
          exact fold_full hy0 hfull hy2
        have hba : Below wr.heap.size wr (wr.alloc (.cells #[.int .i64 y1, .int .i64 y2] 40)) := (Below.refl _ _).alloc (Nat.le_refl _) _
        have hBa := keepBelow hB hba
        have hsa : (wr.alloc (.cells #[.int .i64 y1, .int .i64 y2] 40)).heap.size = wr.heap.size + 1 := by simp
        have HON := Lib.hid (own_one (wr.alloc (.cells #[.int .i64 y1, .int .i64 y2] 40)) (B := w.heap.size) hBa.size 0 P)
        have HBB := Lib.hid (hBa.alloc hBa.size (.cells #[.int .i64 0, .int .i64 P] 40))
        have HLT := Lib.hid hlt
        rw [hsa] at HON
        clear hba hBa hsa hfull hlt
        go_wp2
        go_ret
        exact ⟨_, [(0, P)], rfl, HON.out, by simp [Canon]; omega, HFU.out, by have := HLT.out; simp; omega, HBB.out⟩
      · have t1 : decide (P ≤ y2 - y1) = false := by simpa using hfull
        obtain ⟨at', hat⟩ : ∃ a, y1 - y1 / P * P = a := ⟨_, rfl⟩
        obtain ⟨e, he⟩ : ∃ e, at' + y2 - y1 = e := ⟨_, rfl⟩
        obtain ⟨k1, k2, k3, k4, k5, k6⟩ := fold_step hy0 hy1 (by omega) hy2 HF.out.1 HF.out.2.1 at' e hat.symm he.symm
        have K := Lib.hid (HM.out y1)
        rw [hat] at K
        have K5 := Lib.hid k5
        have K6 := Lib.hid k6
        have s1 : IntKind.i64.wrap (at' + y2) = at' + y2 := by rw [IntKind.wrap_i64]; omega
        have s2 : IntKind.i64.wrap (at' + y2 - y1) = e := by rw [IntKind.wrap_i64]; omega
        have hba : Below wr.heap.size wr (wr.alloc (.cells #[.int .i64 y1, .int .i64 y2] 40)) := (Below.refl _ _).alloc (Nat.le_refl _) _
        have hBa := keepBelow hB hba
        have hoa := ho.below hba
        have b0 : (wr.alloc (.cells #[.int .i64 y1, .int .i64 y2] 40)).cell? ⟨wr.heap.size, 0, none⟩ = some (.int .i64 y1) := by simp [go_sem]
        have b1 : (wr.alloc (.cells #[.int .i64 y1, .int .i64 y2] 40)).cell? ⟨wr.heap.size, 1, none⟩ = some (.int .i64 y2) := by simp [go_sem]
        have HTL : Hid ((L.take (i + 1)).length = i + 1) := by unfold Hid; rw [List.length_take]; omega
        have HAL : Hid (A.length ≤ 2 * i) := by have := HF.out.2.2; rw [List.length_take] at this; unfold Hid; omega
        clear hba hfull k5 k6 hat he
        go_wp2_with fail
        refine (K.out _ (by omega) (by omega)).mono ?_
        rintro e' w2 ⟨rfl, hb2⟩
        have hB2 := keepBelow hBa hb2
        have ho2 := hoa.below hb2
        have g0 := keepCell hb2 b0
        have g1 := keepCell hb2 b1
        obtain ⟨m, hm⟩ : ∃ m, min e P = m := ⟨_, rfl⟩
        have hl3 : A.length < 1000000000000 := by omega
        clear hb2 hoa b0 b1
        by_cases hep : P < e
        · have t2 : decide (P < e) = true := by simpa using hep
          have s3 : IntKind.i64.wrap (e - P) = e - P := by rw [IntKind.wrap_i64]; omega
          obtain ⟨q1, q2⟩ := K6.out hep
          have HQ := Lib.hid (And.intro q1 q2)
          have hl4 : (A ++ [(at', min e P)]).length < 1000000000000 := by simp; omega
          have HL4 := Lib.hid hl4
          clear q1 q2 hep hm hl4
          go_upto_if 47 with (at_builtin; refine wpList_app_span rfl (.tmp 37) (.tmp 43) rfl rfl ho2 hB2 rfl (by simp) hl3 ?_; intro v1 w9 o1 b1 k1 z1; clear k1)
          have hl4 := HL4.out
          go_wp2_with (at_builtin; refine wpList_app_span rfl (.tmp 48) (.tmp 53) rfl rfl o1 b1 rfl (by simp) hl4 ?_; intro v2 w8 o2 b2 k2 z2; clear k2)
          go_roundw
          case rel => exact ⟨i + 1, _, by go_num, by omega, o2, by unfold Hid FldInv; rw [HTK.out]; exact ⟨HQ.out.1, HQ.out.2, by rw [← HTK.out, HTL.out]; have := HAL.out; simp; omega⟩, b2⟩
          case measure => simp [intOf]; omega
        · have t2 : decide (P < e) = false := by simpa using hep
          obtain ⟨q1, q2⟩ := K5.out (by omega)
          have HQ := Lib.hid (And.intro q1 q2)
          clear q1 q2 hep hm
          go_wp2_with (at_builtin; refine wpList_app_span rfl (.tmp 37) (.tmp 43) rfl rfl ho2 hB2 rfl (by simp) hl3 ?_; intro v1 w9 o1 b1 k1 z1; clear k1)
          go_roundw
          case rel => exact ⟨i + 1, _, by go_num, by omega, o1, by unfold Hid FldInv; rw [HTK.out]; exact ⟨HQ.out.1, HQ.out.2, by rw [← HTK.out, HTL.out]; have := HAL.out; simp; omega⟩, b1⟩
          case measure => simp [intOf]; omega
    · have hil : L.take i = L := by rw [show i = L.length by omega]; exact List.take_length
      rw [hil] at HF
      have HJ := Lib.hid (joined_own u5 A w wr ho hB (fun s hs => by have := HF.out.2.1 s hs; omega) (by omega))
      go_wp2_with fail
      refine HJ.out.mono ?_
      rintro e w2 ⟨v2, L', rfl, o2, p2, s2, b2⟩
      have HR := Lib.hid (And.intro o2 (And.intro p2 (And.intro s2 b2)))
      clear o2 p2 s2 b2
      go_wp2
      go_ret
      obtain ⟨o2, p2, s2, b2⟩ := HR.out
      obtain ⟨j1, j2, j3⟩ := join_perm p2 s2 (fun s hs => (HF.out.2.1 s hs).2.1)
      exact ⟨_, _, rfl, o2, j1, fun x => by rw [j2]; exact HF.out.1 x, Nat.le_trans j3 HF.out.2.2, b2⟩
end Go.Proofs.YtnjpceocnldlfaaGreat
/- periodic.Move. -/
namespace Go.Proofs.YtnjpceocnldlfaaGreat
open Go.RowKit Wk

set_option maxRecDepth 100000 in
set_option maxHeartbeats 4000000 in
theorem pmove_any (P k : Int) (v : Value) (l : List Sp) (w : World) (h1 : RdS w v l) :
    Calls Tryz.prog 107 #[.agg #[.int .i64 P, v], .int .i64 k] w (PrPost (perMove k (P, l)) w) := by
  have HV1 := Lib.hid (fun W h => pvalid_any P v l W h)
  have hr1 := h1
  obtain ⟨a1, d1, rfl⟩ := h1.form
  obtain ⟨W, hWe⟩ : ∃ W, (w.alloc (.cells #[.int .i64 P, .slice a1 l.length d1] 24)).alloc (.cells #[.int .i64 0, .slice none 0 0] 24) = W := ⟨_, rfl⟩
  have hW : Below w.heap.size w W := by rw [← hWe]; exact ((Below.refl _ _).alloc (Nat.le_refl _) _).alloc (by simp) _
  have hWs : W.heap.size = w.heap.size + 1 + 1 := by rw [← hWe]; simp
  have c0 : W.cell? ⟨w.heap.size, 0, none⟩ = some (.int .i64 P) := by rw [← hWe]; simp [go_sem]
  have c1 : W.cell? ⟨w.heap.size, 1, none⟩ = some (.slice a1 l.length d1) := by rw [← hWe]; simp [go_sem]
  have hBX : Box2 W (w.heap.size + 1) (.int .i64 0) (.slice none 0 0) := by
    rw [← hWe]
    refine ⟨⟨?_, ?_⟩, ?_, ?_⟩ <;> simp [go_sem]
  have HE := Lib.hid hWe
  have HR1 := Lib.hid (keepRd hW hr1)
  have HWS := Lib.hid hWs
  have hWs' := hWs
  clear hWe h1 hr1 hWs
  cases g1 : pvB P l with
  | false =>
    have hM : perMove k (P, l) = ((0, []), 1) := by unfold perMove; simp only [g1]; rw [if_pos (by simp)]
    have HM := Lib.hid hM
    rw [g1] at HV1
    clear g1 hM
    go_enter Tryz.func107, Tryz.ntmps107
    go_wp2_with fail
    rw [HE.out]
    go_wp2_with fail
    refine (HV1.out _ HR1.out).mono ?_
    rintro e w1 ⟨rfl, hb1⟩
    have hBn := keepBelow hW hb1
    obtain ⟨⟨e0, e1⟩, f0, f1⟩ := hBX.below hb1
    have HB := Lib.hid (hBX.below hb1)
    clear hb1 hBX c0 c1
    go_wp2
    change bodyPost _ _ _ _ _ (put2 w1 (w.heap.size + 1) (.int .i64 0) (.slice none 0 0))
    obtain ⟨r0, r1⟩ := HB.out.put (.int .i64 0) (.slice none 0 0)
    have hBZ := put2_below (.int .i64 0) (.slice none 0 0) hBn (b := w.heap.size + 1) (by omega)
    generalize put2 w1 (w.heap.size + 1) (.int .i64 0) (.slice none 0 0) = Z at *
    refine bodyPost_ret (v := .tuple #[.agg #[.int .i64 0, .slice none 0 0], .int .i64 1]) (by simp [results, Tryz.results107, go_sem, r0, r1]) rfl ?_
    show PrPost _ w _ _
    rw [HM.out]
    exact ⟨_, rfl, OwnS.nil _ _, hBZ⟩
  | true =>
  rw [g1] at HV1
  obtain ⟨hrv1, hP1, hP2, _⟩ := rvB_of_pvB g1
  have hl1 := (canon_of_rvB hrv1).2.2
  have HG1 := Lib.hid g1
  clear hrv1
  by_cases hk : k < -4398046511104 ∨ 4398046511104 < k
  · have HM : Hid (perMove k (P, l) = ((0, []), 2)) := by unfold Hid perMove; simp only [g1]; rw [if_neg (by simp), if_pos hk]
    clear g1
    obtain ⟨t1, ht1⟩ : ∃ b, decide (k < -4398046511104) = b := ⟨_, rfl⟩
    cases t1 with
    | true =>
      clear hk
      go_enter Tryz.func107, Tryz.ntmps107
      go_wp2_with fail
      rw [HE.out]
      go_wp2_with fail
      refine (HV1.out _ HR1.out).mono ?_
      rintro e w1 ⟨rfl, hb1⟩
      have hBn := keepBelow hW hb1
      obtain ⟨⟨e0, e1⟩, f0, f1⟩ := hBX.below hb1
      have HB := Lib.hid (hBX.below hb1)
      clear hb1 hBX c0 c1
      go_wp2
      change bodyPost _ _ _ _ _ (put2 w1 (w.heap.size + 1) (.int .i64 0) (.slice none 0 0))
      obtain ⟨r0, r1⟩ := HB.out.put (.int .i64 0) (.slice none 0 0)
      have hBZ := put2_below (.int .i64 0) (.slice none 0 0) hBn (b := w.heap.size + 1) (by omega)
      generalize put2 w1 (w.heap.size + 1) (.int .i64 0) (.slice none 0 0) = Z at *
      refine bodyPost_ret (v := .tuple #[.agg #[.int .i64 0, .slice none 0 0], .int .i64 2]) (by simp [results, Tryz.results107, go_sem, r0, r1]) rfl ?_
      show PrPost _ w _ _
      rw [HM.out]
      exact ⟨_, rfl, OwnS.nil _ _, hBZ⟩
    | false =>
      have ht2 : decide (4398046511104 < k) = true := by simp at ht1 ⊢; omega
      clear hk
      go_enter Tryz.func107, Tryz.ntmps107
      go_wp2_with fail
      rw [HE.out]
      go_wp2_with fail
      refine (HV1.out _ HR1.out).mono ?_
      rintro e w1 ⟨rfl, hb1⟩
      have hBn := keepBelow hW hb1
      obtain ⟨⟨e0, e1⟩, f0, f1⟩ := hBX.below hb1
      have HB := Lib.hid (hBX.below hb1)
      clear hb1 hBX c0 c1
      go_wp2
      change bodyPost _ _ _ _ _ (put2 w1 (w.heap.size + 1) (.int .i64 0) (.slice none 0 0))
      obtain ⟨r0, r1⟩ := HB.out.put (.int .i64 0) (.slice none 0 0)
      have hBZ := put2_below (.int .i64 0) (.slice none 0 0) hBn (b := w.heap.size + 1) (by omega)
      generalize put2 w1 (w.heap.size + 1) (.int .i64 0) (.slice none 0 0) = Z at *
      refine bodyPost_ret (v := .tuple #[.agg #[.int .i64 0, .slice none 0 0], .int .i64 2]) (by simp [results, Tryz.results107, go_sem, r0, r1]) rfl ?_
      show PrPost _ w _ _
      rw [HM.out]
      exact ⟨_, rfl, OwnS.nil _ _, hBZ⟩
  · have ht1 : decide (k < -4398046511104) = false := by simp; omega
    have ht2 : decide (4398046511104 < k) = false := by simp; omega
    have hk1 : -4398046511104 ≤ k := by omega
    have hk2 : k ≤ 4398046511104 := by omega
    have hg := goodP_of_pvB HG1.out
    obtain ⟨m, hm⟩ : ∃ m, k - k / P * P = m := ⟨_, rfl⟩
    have hm0 := mod_lo k (P := P) hP1
    rw [hm] at hm0
    have hmm : k % P = m := by rw [← hm]; exact (mod_eq k P).symm
    have HMM := Lib.hid hmm
    have HMD := Lib.hid (fun W => imod_any k P W hP1 (by omega) (by omega) (by omega))
    rw [hm] at HMD
    have HLM : Hid (∀ s ∈ l.map (shf m), 0 ≤ s.1 ∧ s.1 < s.2 ∧ s.2 ≤ 2 * P) := fun s hs => by
      obtain ⟨r, hr, rfl⟩ := List.mem_map.1 hs
      have h1 := hg.ins r hr
      have h2 := canon_pos hg.canon r hr
      simp only at h1
      simp only [shf]
      omega
    have HIN : Hid (∀ i x y, l.getD i (0, 0) = (x, y) → i < l.length → 0 ≤ x ∧ x < y ∧ y ≤ P) := fun i x y h hi => by
      have h1 := hg.ins _ (mem_of_getD h hi)
      have h2 := canon_pos hg.canon _ (mem_of_getD h hi)
      simp only at h1 h2
      omega
    clear g1 hk hm hmm hg
    go_enter Tryz.func107, Tryz.ntmps107
    go_wp2_with fail
    rw [HE.out]
    go_wp2_with fail
    refine (HV1.out _ HR1.out).mono ?_
    rintro e w1 ⟨rfl, hb1⟩
    have hBn := keepBelow hW hb1
    have HRn := Lib.hid (keepRd hb1 HR1.out)
    have j0 := keepCell hb1 c0
    have j1 := keepCell hb1 c1
    have hBX1 := hBX.below hb1
    clear hb1 hBX c0 c1
    go_wp2_with fail
    refine (HMD.out _).mono ?_
    rintro e w2 ⟨rfl, hb2⟩
    have hB2 := keepBelow hBn hb2
    have HR2 := Lib.hid (keepRd hb2 HRn.out)
    have i0 := keepCell hb2 j0
    have i1 := keepCell hb2 j1
    have HBX := Lib.hid (hBX1.below hb2)
    have HSZ : Hid (w.heap.size + 1 < w2.heap.size) := World.block_lt_of_cell? w2 ⟨w.heap.size + 1, 0, none⟩ HBX.out.1.1
    obtain ⟨hl3, hc3⟩ : l.length ≤ 8796093022208 ∧ ∀ i, i < l.length → ∃ b o, a1 = some ⟨b, o, none⟩ ∧ w2.cell? ⟨b, o + i * 2, none⟩ = some (.int .i64 (l.getD i (0, 0)).1) ∧ w2.cell? ⟨b, o + i * 2 + 1, none⟩ = some (.int .i64 (l.getD i (0, 0)).2) := by
      obtain ⟨p, c, e, h1, h2⟩ := HR2.out
      cases e
      exact ⟨h1, h2⟩
    have HC := Lib.hid hc3
    clear hc3 hb2 hBX1 j0 j1
    go_wp2_with fail
    go_loopw [7, 28] (fun u vi wr => ∃ i : Nat, vi = .int .i64 i ∧ i ≤ l.length ∧ OwnS wr w2.heap.size u ((l.take i).map (shf m)) ∧ Below w2.heap.size w2 wr) (fun _ vi _ => l.length - (intOf vi).toNat)
    case atStart => exact ⟨0, rfl, Nat.zero_le _, OwnS.nil _ _, Below.refl _ _⟩
    case round =>
      obtain ⟨i, rfl, hi, ho, hB⟩ := hrel
      by_cases hlt : i < l.length
      · obtain ⟨bb, o, x, y, rfl, hbw, HXY, d1, d2⟩ := rd_at HC.out hB hlt
        obtain ⟨q1, q2, q3⟩ := HIN.out i x y HXY.out hlt
        have HTK := Lib.hid (map_take_succ (d := m) HXY.out hlt)
        have hll : ((l.take i).map (shf m)).length < 1000000000000 := by rw [List.length_map, List.length_take]; omega
        obtain ⟨X, hX⟩ : ∃ X, (l.take i).map (shf m) = X := ⟨_, rfl⟩
        rw [hX] at ho hll HTK
        clear hX
        have hba : Below wr.heap.size wr (wr.alloc (.cells #[.int .i64 x, .int .i64 y] 40)) := (Below.refl _ _).alloc (Nat.le_refl _) _
        have hBa := keepBelow hB hba
        have hoa := ho.below hba
        have s1 : IntKind.i64.wrap (x + m) = x + m := by rw [IntKind.wrap_i64]; omega
        have s2 : IntKind.i64.wrap (y + m) = y + m := by rw [IntKind.wrap_i64]; omega
        clear hba
        go_wp2_with (at_builtin; refine wpList_app_span rfl (.tmp 32) (.tmp 42) rfl rfl hoa hBa rfl (by simp) hll ?_; intro v1 w9 o1 b1 k1 z1; clear k1)
        go_roundw
        case rel => exact ⟨i + 1, by go_num, by omega, by rw [HTK.out]; exact o1, b1⟩
        case measure => simp [intOf]; omega
      · have hil : l.take i = l := by rw [show i = l.length by omega]; exact List.take_length
        rw [hil] at ho
        have hB3 := keepBelow hB2 hB
        have hd : Below wr.heap.size wr wr.drew := (Below.refl _ wr).drew
        have RN := Lib.hid (keepRd hd (ho.rd (by rw [List.length_map]; omega)))
        have HBY := Lib.hid (HBX.out.below hB)
        have z0 := keepCell hB i0
        have HSW := Lib.hid hB.size
        have HCC : Hid (∀ X, Below wr.heap.size wr X → X.cell? ⟨w.heap.size, 0, none⟩ = some (.int .i64 P)) := fun X hX => keepCell hX z0
        have n0 := HCC.out _ hd
        clear ho hB i0 i1
        go_wp2_with fail
        go_region_with (first
          | (go_at_call 146; refine (fold_any P _ (l.map (shf m)) _ RN.out hP1 hP2 HLM.out (by rw [List.length_map]; exact hl1)).mono ?_; rintro e' wC ⟨vC, L, rfl, oC, cC, hC, lC, bC⟩; have hfC : Below wr.heap.size wr wC := keepBelow hd bC; have HRT := Lib.hid (rot_fold (k := k) (goodP_of_pvB HG1.out) cC (by rw [HMM.out]; exact hC)); have HLN : Hid (L.length ≤ 4096) := (by unfold Hid; rw [List.length_map] at lC; omega); have RC := Lib.hid (oC.rd (by have := HLN.out; omega)); have y0 := HCC.out _ hfC; clear bC oC cC hC lC)
          | (go_at_call 145; refine (limited_any P _ L _ RC.out ⟨HRT.out.1, Bnd_ins HRT.out.1 HRT.out.2.1 hP2, HLN.out⟩ hP1 hP2 HRT.out.2.1).mono ?_; rintro e' wD ⟨vD, rfl, oD, bD⟩; obtain ⟨pD, nD, rfl, _⟩ := oD.form; have hfD : Below wr.heap.size wr wD := keepBelow hfC bD; obtain ⟨⟨x0, x1⟩, f0, f1⟩ := HBY.out.below hfD; have OD := Lib.hid oD; have SC := Lib.hid hfC.size; clear bD oD))
        all_goals go_wp2
        all_goals
          have HLQ : Hid (limM P L = perMove k (P, l)) := by
            obtain ⟨a, b⟩ := rot_move HG1.out hk1 hk2 HRT.out
            unfold Hid
            rw [a, b]
          change bodyPost _ _ _ _ _ (put2 wD (w.heap.size + 1) (.int .i64 (limM P L).1.1) (.slice pD (limM P L).1.2.length nD))
          obtain ⟨r0, r1⟩ := (HBY.out.below hfD).put (.int .i64 (limM P L).1.1) (.slice pD (limM P L).1.2.length nD)
          have hBZ := put2_below (.int .i64 (limM P L).1.1) (.slice pD (limM P L).1.2.length nD) (keepBelow hB3 hfD) (b := w.heap.size + 1) (by omega)
          have hOZ := put2_own (.int .i64 (limM P L).1.1) (.slice pD (limM P L).1.2.length nD) OD.out (b := w.heap.size + 1) (by have := SC.out; have := HSZ.out; have := HSW.out; omega)
          generalize put2 wD (w.heap.size + 1) (.int .i64 (limM P L).1.1) (.slice pD (limM P L).1.2.length nD) = Z at *
          refine bodyPost_ret (v := .tuple #[.agg #[.int .i64 (limM P L).1.1, .slice pD (limM P L).1.2.length nD], .int .i64 (limM P L).2]) (by simp [results, Tryz.results107, go_sem, r0, r1]) rfl ?_
          show PrPost _ w _ _
          rw [← HLQ.out]
          exact ⟨_, rfl, hOZ.mono (by have := SC.out; have := HSZ.out; have := HSW.out; omega), hBZ⟩
end Go.Proofs.YtnjpceocnldlfaaGreat
