/- The law WorkShares. -/
import Derived.Test.YtkfonfheakpcbaaWkHrs
import Derived.Test.YtkfonfheakpcbaaWkSub
import Derived.Test.YtkfonfheakpcbaaWkShr
namespace Go.Proofs.Ytkfonfheakpcbaa
open Go.RowKit Wk

theorem share_err {b : Bool} {s : St} {f t n : Int} (h : (shareM b s f t n).2 ≠ 0) : (shareM b s f t n).1 = [] := by
  unfold shareM at h ⊢
  split
  · rfl
  · rename_i h1
    rw [if_neg h1] at h
    split
    · rfl
    · rename_i h2
      rw [if_neg h2] at h
      split
      · rfl
      · rename_i h3
        rw [if_neg h3] at h
        exact absurd rfl h
theorem share_ok {b : Bool} {s : St} {f t n : Int} (h : (shareM b s f t n).2 = 0) :
    b = true ∧ -4398046511104 ≤ f ∧ f < t ∧ t ≤ 4398046511104 ∧ 1 ≤ n ∧ n ≤ 1000 ∧ n ≤ cnt s f t ∧ (shareM b s f t n).1 = shareL s f t n.toNat n.toNat := by
  unfold shareM at h ⊢
  split at h
  · exact absurd h (by simp)
  · rename_i h1
    rw [if_neg h1]
    split at h
    · exact absurd h (by simp)
    · rename_i h2
      rw [if_neg h2]
      split at h
      · exact absurd h (by simp)
      · rename_i h3
        rw [if_neg h3]
        have hb : b = true := by cases b with | true => rfl | false => exact absurd (.inl rfl) h1
        have hi : ivB (f, t) = true := by cases hi : ivB (f, t) with | true => rfl | false => exact absurd (.inr hi) h1
        have := (ivB_iff (f, t)).1 hi
        simp only at this
        exact ⟨hb, this.1, this.2.1, this.2.2, by omega, by omega, by omega, rfl⟩

set_option maxRecDepth 100000 in
set_option maxHeartbeats 4000000 in
theorem law_WorkShares (s : St) (vl vr vv : Value) (f t n : Int) (w : World) (h : RdSt w s vl vr vv) :
    Calls Try.prog 4 #[.agg #[.int .i64 s.lf.1, vl, .int .i64 s.rt.1, vr, .int .i64 s.fr, .int .i64 s.to, vv], .agg #[.int .i64 f, .int .i64 t], .int .i64 n] w fun e w' => e = .returned (.bool true) ∧ Below w.heap.size w w' := by
  have HD := Lib.hid (fun W h => wshare_any s vl vr vv f t n W h)
  have HA := Lib.hid (fun W => awake_any W)
  have HLG := Lib.hid (fun W h => large_any s vl vr vv W h)
  have KM : Hid (∀ (x y : Int), ∀ W, RdSt W s vl vr vv → Calls Try.prog 14 #[.agg #[.int .i64 s.lf.1, vl, .int .i64 s.rt.1, vr, .int .i64 s.fr, .int .i64 s.to, vv], .int .i64 x, .int .i64 y] W fun e w' => e = .returned (.tuple #[.int .i64 (MeaM (VB s) s x y).1, .int .i64 (MeaM (VB s) s x y).2]) ∧ Below W.heap.size W w') := fun x y W h => wmeasure_any s vl vr vv x y W h
  have KH : Hid (∀ (x : Int), ∀ W, RdSt W s vl vr vv → -1152921504606846976 ≤ x → x ≤ 1152921504606846976 → Calls Try.prog 16 #[.agg #[.int .i64 s.lf.1, vl, .int .i64 s.rt.1, vr, .int .i64 s.fr, .int .i64 s.to, vv], .int .i64 x] W fun e w' => e = .returned (.bool (VB s && hasS s x)) ∧ Below W.heap.size W w') := fun x W h h1 h2 => thas_any s vl vr vv x W h h1 h2
  have HGD : Hid (VB s = true → GoodS s) := fun hg => (okS_of_VB hg).good
  generalize VB s = vb at *
  generalize largeB s = lg at *

  obtain ⟨⟨L, er⟩, hLe⟩ : ∃ p, shareM vb s f t n = p := ⟨_, rfl⟩
  have HLE := Lib.hid hLe

  have HR0 := Lib.hid h
  obtain ⟨a1, n1, rfl⟩ := h.1.form
  obtain ⟨a2, n2, rfl⟩ := h.2.1.form
  obtain ⟨a3, n3, rfl⟩ := h.2.2.form
  clear h
  obtain ⟨W, hWe⟩ : ∃ W, (w.alloc (.cells #[.int .i64 s.lf.1, .slice a1 s.lf.2.length n1, .int .i64 s.rt.1, .slice a2 s.rt.2.length n2, .int .i64 s.fr, .int .i64 s.to, .slice a3 s.l.length n3] 26)).alloc (.cells #[.int .i64 f, .int .i64 t] 36) = W := ⟨_, rfl⟩
  have hW : Below w.heap.size w W := by rw [← hWe]; exact ((Below.refl _ w).alloc (Nat.le_refl _) _).alloc (by simp) _
  have HX : Hid (Set7 W w.heap.size (.int .i64 s.lf.1) (.slice a1 s.lf.2.length n1) (.int .i64 s.rt.1) (.slice a2 s.rt.2.length n2) (.int .i64 s.fr) (.int .i64 s.to) (.slice a3 s.l.length n3) ∧ W.cell? ⟨w.heap.size + 1, 0, none⟩ = some (.int .i64 f) ∧ W.cell? ⟨w.heap.size + 1, 1, none⟩ = some (.int .i64 t)) := by
    rw [← hWe]
    refine ⟨⟨⟨?_, ?_, ?_, ?_, ?_, ?_, ?_⟩, ?_, ?_, ?_, ?_, ?_, ?_, ?_⟩, ?_, ?_⟩ <;> simp [go_sem]
  have HR := Lib.hid (keepSt hW HR0.out)
  have HE := Lib.hid hWe
  clear hWe HR0
  obtain ⟨⟨⟨B0, B1, B2, B3, B4, B5, B6⟩, _⟩, S0, S1⟩ := HX.out
  go_enter Try.func4, Try.ntmps4
  go_wp2_with fail
  rw [HE.out]

  go_wp2_with fail
  refine (HA.out _).mono ?_
  rintro e w1 ⟨rfl, hb1⟩
  have HX1 : Hid (_ ∧ _ ∧ _) := ⟨HX.out.1.below hb1, keepCell hb1 HX.out.2.1, keepCell hb1 HX.out.2.2⟩
  have HR1 := Lib.hid (keepSt hb1 HR.out)
  have hB1 := keepBelow hW hb1
  clear hb1 B0 B1 B2 B3 B4 B5 B6 S0 S1 HX HR HE HA
  obtain ⟨⟨⟨B0, B1, B2, B3, B4, B5, B6⟩, _⟩, S0, S1⟩ := HX1.out

  go_wp2_with fail
  refine (HLG.out _ HR1.out).mono ?_
  rintro e w2 ⟨rfl, hb2⟩
  have HX2 : Hid (_ ∧ _ ∧ _) := ⟨HX1.out.1.below hb2, keepCell hb2 HX1.out.2.1, keepCell hb2 HX1.out.2.2⟩
  have HR2 := Lib.hid (keepSt hb2 HR1.out)
  have hB2 := keepBelow hB1 hb2
  clear hb2 B0 B1 B2 B3 B4 B5 B6 S0 S1 HX1 HR1 HLG
  obtain ⟨⟨⟨B0, B1, B2, B3, B4, B5, B6⟩, _⟩, S0, S1⟩ := HX2.out

  cases lg with
  | true =>
    go_wp2
    go_ret
    exact ⟨rfl, hB2⟩
  | false =>
  by_cases hmany : 40 < n ∧ n ≤ 1000
  · have g1 : decide (40 < n) = true := by simpa using hmany.1
    have g2 : decide (n ≤ 1000) = true := by simpa using hmany.2
    clear hmany
    go_wp2
    go_ret
    exact ⟨rfl, hB2⟩
  have HMANY := Lib.hid hmany
  clear hmany

  by_cases h40 : 40 < n
  · have g1 : decide (40 < n) = true := by simpa using h40
    have g2 : decide (n ≤ 1000) = false := by have := HMANY.out; simp; omega
    have her : er ≠ 0 := by
      intro e0
      have := share_ok (b := vb) (s := s) (f := f) (t := t) (n := n) (by rw [HLE.out]; exact e0)
      have := HMANY.out
      omega
    have hL : L = [] := by have := share_err (b := vb) (s := s) (f := f) (t := t) (n := n) (by rw [HLE.out]; exact her); rw [HLE.out] at this; exact this
    have g3 : (er == 0) = false := by simpa using her
    go_wp2_with fail
    refine (HD.out _ HR2.out).mono ?_
    rintro e w3 ⟨v, rfl, ho, hb3⟩
    have HX3 : Hid (_ ∧ _ ∧ _) := ⟨HX2.out.1.below hb3, keepCell hb3 HX2.out.2.1, keepCell hb3 HX2.out.2.2⟩
    have HR3 := Lib.hid (keepSt hb3 HR2.out)
    have hB3 := keepBelow hB2 hb3
    clear hb3 B0 B1 B2 B3 B4 B5 B6 S0 S1 HX2 HR2 HD
    obtain ⟨⟨⟨B0, B1, B2, B3, B4, B5, B6⟩, _⟩, S0, S1⟩ := HX3.out

    rw [hLe] at ho ⊢
    clear hLe
    simp only at ho ⊢
    subst hL
    obtain ⟨av, nv, rfl, _⟩ := ho.form
    go_wp2
    go_ret
    exact ⟨ret_bool (by simp), hB3⟩
  have g1 : decide (40 < n) = false := by simpa using h40
  clear h40 HMANY

  go_wp2_with fail
  refine (HD.out _ HR2.out).mono ?_
  rintro e w3 ⟨v, rfl, ho, hb3⟩
  have HX3 : Hid (_ ∧ _ ∧ _) := ⟨HX2.out.1.below hb3, keepCell hb3 HX2.out.2.1, keepCell hb3 HX2.out.2.2⟩
  have HR3 := Lib.hid (keepSt hb3 HR2.out)
  have hB3 := keepBelow hB2 hb3
  clear hb3 B0 B1 B2 B3 B4 B5 B6 S0 S1 HX2 HR2 HD
  obtain ⟨⟨⟨B0, B1, B2, B3, B4, B5, B6⟩, _⟩, S0, S1⟩ := HX3.out

  rw [hLe] at ho ⊢
  clear hLe
  simp only at ho ⊢
  obtain ⟨av, nv, rfl, _⟩ := ho.form
  by_cases her : er ≠ 0
  · have hL : L = [] := by have := share_err (b := vb) (s := s) (f := f) (t := t) (n := n) (by rw [HLE.out]; exact her); rw [HLE.out] at this; exact this
    have g3 : (er == 0) = false := by simpa using her
    subst hL
    go_wp2
    go_ret
    exact ⟨ret_bool (by simp), hB3⟩
  have her : er = 0 := by omega
  subst her
  obtain ⟨e1, e2, e3, e4, e5, e6, e7, e8⟩ := share_ok (b := vb) (s := s) (f := f) (t := t) (n := n) (by rw [HLE.out])
  rw [HLE.out] at e8
  simp only at e8
  subst e1
  have hGS := HGD.out (by first | rfl | trivial)
  obtain ⟨N, rfl⟩ : ∃ N : Nat, n = (N : Int) := ⟨n.toNat, by omega⟩
  have hN : ((N : Int)).toNat = N := by omega
  rw [hN] at e8
  have hlen : L.length = N := by rw [e8]; exact share_len _ _ _ _ _
  obtain ⟨M, hM⟩ : ∃ M, cnt s f t = M := ⟨_, rfl⟩
  have hb0 : bndM s f t N 0 = f := rfl
  have hbN : bndM s f t N N = t := by unfold bndM; rw [if_neg (by omega), if_neg (by omega)]
  have hq1 : 1 ≤ M / N := by rw [← hM]; exact (Int.le_ediv_iff_mul_le (by omega)).2 (by omega)
  have hqM : M / N ≤ M := Int.ediv_le_self _ (by omega)
  have hMb : M ≤ 8796093022208 := by
    have := cnt_pot s hGS.ft f t (by omega)
    have := (potS_steps hGS).mono f t (by omega)
    omega
  have HST : Hid (∀ k : Nat, k < N → L.getD k (0, 0) = (bndM s f t N k, bndM s f t N (k + 1)) ∧ bndM s f t N k < bndM s f t N (k + 1) ∧ -4398046511104 ≤ bndM s f t N k ∧ bndM s f t N (k + 1) ≤ 4398046511104 ∧
      ∃ mk, MeaM true s (bndM s f t N k) (bndM s f t N (k + 1)) = (mk, 0) ∧ M / N ≤ mk ∧ mk ≤ M / N + 1) := by
    intro k hk
    have st := bnd_step hGS e2 e3 e4 (n := N) (by omega) e7 hk
    have pa := bnd_pot hGS e2 e3 e4 (n := N) (by omega) e7 (k := k) (by omega)
    have pb := bnd_pot hGS e2 e3 e4 (n := N) (by omega) e7 (k := k + 1) (by omega)
    rw [hM] at st
    refine ⟨by rw [e8]; exact share_get _ _ _ hk, st.1, by omega, by omega, _, MeaM_ok hGS rfl ((lineB_iff _).2 (by omega)) ((lineB_iff _).2 (by omega)), st.2.1, st.2.2⟩
  obtain ⟨q, hq⟩ : ∃ q, M / (N : Int) = q := ⟨_, rfl⟩
  rw [hq] at HST hq1 hqM
  have hrd := ho.rd (by omega)
  have HLC : Hid (∀ X, Below w3.heap.size w3 X → ∀ k : Nat, k < N → ∃ b o, av = some ⟨b, o, none⟩ ∧ X.cell? ⟨b, o + k * 2, none⟩ = some (.int .i64 (bndM s f t N k)) ∧ X.cell? ⟨b, o + k * 2 + 1, none⟩ = some (.int .i64 (bndM s f t N (k + 1)))) := by
    intro X hX k hk
    obtain ⟨a', c', e', _, hc⟩ := keepRd hX hrd
    cases e'
    obtain ⟨b, o, rfl, c1, c2⟩ := hc k (by omega)
    rw [(HST.out k hk).1] at c1 c2
    exact ⟨b, o, rfl, c1, c2⟩
  rw [hlen]
  clear hrd ho hlen e8 hN hM HLE hGS HGD KH e7 hq
  obtain ⟨bl, ol, rfl, z0, z1⟩ := HLC.out w3 (Below.refl _ _) 0 (by omega)
  obtain ⟨bl', ol', ee, z2, z3⟩ := HLC.out w3 (Below.refl _ _) (N - 1) (by omega)
  cases ee
  rw [hb0] at z0
  rw [show N - 1 + 1 = N by omega, hbN] at z3
  have s1 : IntKind.i64.wrap ((N : Int) - 1) = (N : Int) - 1 := by rw [IntKind.wrap_i64]; omega
  have s2 : ((N : Int) - 1).toNat = N - 1 := by omega
  have s3 : (0 : Int) ≤ (N : Int) - 1 := by omega
  have s4 : (0 : Int) < (N : Int) := by omega
  have x0 := ext_cell (show w3.cell? ⟨bl, ol, none⟩ = some (.int .i64 f) by simpa using z0)
  have x3 := ext_cell z3
  have y0 := ext_cell S0
  have y1 := ext_cell S1
  go_wp2_with fail
  refine wp_region_ext (by kernel_rfl) (by kernel_rfl) ?_
  iterate 24 (go_big_quiet_step (fail))
  refine wpQuiet_nil ?_
  intro w4 hb4
  have HLC4 : Hid (∀ X, Below w4.heap.size w4 X → ∀ k : Nat, k < N → ∃ b o, some (⟨bl, ol, none⟩ : Addr) = some ⟨b, o, none⟩ ∧ X.cell? ⟨b, o + k * 2, none⟩ = some (.int .i64 (bndM s f t N k)) ∧ X.cell? ⟨b, o + k * 2 + 1, none⟩ = some (.int .i64 (bndM s f t N (k + 1)))) :=
    fun X hX => HLC.out X (keepBelow hb4 hX)
  have HX4 : Hid (_ ∧ _ ∧ _) := ⟨HX3.out.1.below hb4, keepCell hb4 HX3.out.2.1, keepCell hb4 HX3.out.2.2⟩
  have HR4 := Lib.hid (keepSt hb4 HR3.out)
  have hB4 := keepBelow hB3 hb4
  clear hb4 B0 B1 B2 B3 B4 B5 B6 S0 S1 HX3 HR3 z0 z1 z2 z3 x0 x3 y0 y1 HLC hb0 hbN s1 s2 s3
  obtain ⟨⟨⟨B0, B1, B2, B3, B4, B5, B6⟩, _⟩, S0, S1⟩ := HX4.out

  go_wp2_with fail
  go_loopw [9, 10, 65] (fun u x y wr => ∃ k : Nat, y = .int .i64 k ∧ k ≤ N ∧ (∃ a c : Int, u = .int .i64 a ∧ x = .int .i64 c ∧ Hid ((k = 0 → a = 4611686018427387904 ∧ c = 0) ∧ (0 < k → q ≤ a ∧ a ≤ q + 1 ∧ q ≤ c ∧ c ≤ q + 1))) ∧ Below w4.heap.size w4 wr) (fun _ _ y _ => N - (intOf y).toNat)
  case atStart => exact ⟨0, rfl, by omega, ⟨_, _, rfl, rfl, fun _ => ⟨rfl, rfl⟩, fun h => by omega⟩, Below.refl _ _⟩
  case round =>
    obtain ⟨k, rfl, hk, ⟨a, c, rfl, rfl, HAC⟩, hB⟩ := hrel
    obtain ⟨⟨⟨C0, C1, C2, C3, C4, C5, C6⟩, _⟩, R0, R1⟩ : _ ∧ _ ∧ _ := ⟨HX4.out.1.below hB, keepCell hB HX4.out.2.1, keepCell hB HX4.out.2.2⟩
    have HRr := Lib.hid (keepSt hB HR4.out)
    by_cases hlt : k < N
    · obtain ⟨_, t2, t3, t4, mk, t5, t6, t7⟩ := HST.out k hlt
      obtain ⟨b', o', ee, l0, l1⟩ := HLC4.out wr hB k hlt
      cases ee
      have HPV : Hid (0 < k → ∀ X, Below w4.heap.size w4 X → X.cell? ⟨bl, ol + (k - 1) * 2 + 1, none⟩ = some (.int .i64 (bndM s f t N k))) := by
        intro h0 X hX
        obtain ⟨b', o', ee, _, l1⟩ := HLC4.out X hX (k - 1) (by omega)
        cases ee
        rw [show k - 1 + 1 = k by omega] at l1
        exact l1
      have KM1 := KM.out (bndM s f t N k) (bndM s f t N (k + 1))
      rw [t5] at KM1
      obtain ⟨xk, hxk⟩ : ∃ xk, bndM s f t N k = xk := ⟨_, rfl⟩
      obtain ⟨yk, hyk⟩ : ∃ yk, bndM s f t N (k + 1) = yk := ⟨_, rfl⟩
      rw [hxk] at t2 t3 l0 HPV KM1
      rw [hyk] at t2 t4 l1 KM1
      have KM1 := Lib.hid KM1
      clear t5 hxk hyk
      have nC0 := fun o => keepCell ((Below.refl _ wr).alloc (Nat.le_refl _) o) C0
      have nC1 := fun o => keepCell ((Below.refl _ wr).alloc (Nat.le_refl _) o) C1
      have nC2 := fun o => keepCell ((Below.refl _ wr).alloc (Nat.le_refl _) o) C2
      have nC3 := fun o => keepCell ((Below.refl _ wr).alloc (Nat.le_refl _) o) C3
      have nC4 := fun o => keepCell ((Below.refl _ wr).alloc (Nat.le_refl _) o) C4
      have nC5 := fun o => keepCell ((Below.refl _ wr).alloc (Nat.le_refl _) o) C5
      have nC6 := fun o => keepCell ((Below.refl _ wr).alloc (Nat.le_refl _) o) C6
      go_wp2_with fail
      obtain ⟨W5, hW5⟩ : ∃ X, wr.alloc (.cells #[.int .i64 xk, .int .i64 yk] 36) = X := ⟨_, rfl⟩
      have hb5 : Below wr.heap.size wr W5 := by rw [← hW5]; exact (Below.refl _ wr).alloc (Nat.le_refl _) _
      have p0 : W5.cell? ⟨wr.heap.size, 0, none⟩ = some (.int .i64 xk) := by rw [← hW5]; simp [go_sem]
      have p1 : W5.cell? ⟨wr.heap.size, 1, none⟩ = some (.int .i64 yk) := by rw [← hW5]; simp [go_sem]
      rw [hW5]
      refine (KM1.out _ (keepSt hb5 HRr.out)).mono ?_
      rintro e' w6 ⟨rfl, hb6⟩
      have hB6 := keepBelow (keepBelow hB hb5) hb6
      have r0 := ext_cell (keepCell hb6 p0)
      have r1 := ext_cell (keepCell hb6 p1)
      clear hW5 p0 p1 hb5 hb6 nC0 nC1 nC2 nC3 nC4 nC5 nC6 C0 C1 C2 C3 C4 C5 C6 R0 R1 l0 l1
      have g4 : decide (yk ≤ xk) = false := by simp; omega
      by_cases h0 : 0 < k
      · have g5 : decide ((0 : Int) < (k : Int)) = true := by simpa using h0
        have pv := ext_cell (HPV.out h0 w6 hB6)
        have s5 : IntKind.i64.wrap ((k : Int) - 1) = (k : Int) - 1 := by rw [IntKind.wrap_i64]; omega
        have s6 : ((k : Int) - 1).toNat = k - 1 := by omega
        have s7 : (0 : Int) ≤ (k : Int) - 1 := by omega
        have s8 : (k : Int) - 1 < (N : Int) := by omega
        have hac := HAC.out.2 h0
        have HAC2 : Hid (q ≤ min a mk ∧ min a mk ≤ q + 1 ∧ q ≤ max c mk ∧ max c mk ≤ q + 1) := by unfold Hid; omega
        clear hac HAC HPV
        go_wp2_with fail
        refine wp_region_ext (by kernel_rfl) (by kernel_rfl) ?_
        iterate 24 (go_big_quiet_step (fail))
        refine wpQuiet_nil ?_
        intro w7 hb7
        have hB7 := keepBelow hB6 hb7
        clear hb7 r0 r1 pv
        go_wp2
        go_roundw
        case rel => exact ⟨k + 1, by go_num, by omega, ⟨_, _, rfl, rfl, fun h => by omega, fun _ => HAC2.out⟩, hB7⟩
        case measure => simp [intOf]; omega
      · have g5 : decide ((0 : Int) < (k : Int)) = false := by simpa using h0
        have hac := HAC.out.1 (by omega)
        have HAC2 : Hid (q ≤ min a mk ∧ min a mk ≤ q + 1 ∧ q ≤ max c mk ∧ max c mk ≤ q + 1) := by unfold Hid; omega
        clear hac HAC HPV
        go_wp2_with fail
        refine wp_region_ext (by kernel_rfl) (by kernel_rfl) ?_
        iterate 24 (go_big_quiet_step (fail))
        refine wpQuiet_nil ?_
        intro w7 hb7
        have hB7 := keepBelow hB6 hb7
        clear hb7 r0 r1
        go_wp2
        go_roundw
        case rel => exact ⟨k + 1, by go_num, by omega, ⟨_, _, rfl, rfl, fun h => by omega, fun _ => HAC2.out⟩, hB7⟩
        case measure => simp [intOf]; omega
    · have hac := HAC.out.2 (by omega)
      have s5 : IntKind.i64.wrap (c - a) = c - a := by rw [IntKind.wrap_i64]; omega
      have g5 : decide (c - a ≤ 1) = true := by simp; omega
      have g6 : decide (1 ≤ a) = true := by simp; omega
      go_wp2
      go_ret
      exact ⟨ret_bool (by simp), keepBelow hB4 hB⟩
end Go.Proofs.Ytkfonfheakpcbaa
