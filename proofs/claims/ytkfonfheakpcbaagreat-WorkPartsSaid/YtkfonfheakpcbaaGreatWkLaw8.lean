/- The law WorkParts. -/
import Derived.Test.YtkfonfheakpcbaaGreatWkRefA
import Derived.Test.YtkfonfheakpcbaaGreatWkWin
namespace Go.Proofs.YtkfonfheakpcbaaGreat
open Go.RowKit Wk

theorem rvB_of_runs {h : Int → Bool} {f t : Int} {L : List Sp} (hr : RunsOf h f t L) (hf : -4398046511104 ≤ f) (ht : t ≤ 4398046511104) (hl : L.length ≤ 2000) : rvB L = true := by
  refine (rvB_iff L).2 ⟨hl, fun i hi => ?_⟩
  have hm := idx_mem hi
  have h1 := hr.ins _ hm
  have h2 := canon_pos hr.can _ hm
  have h3 : ivB (L.getD i (0, 0)) = true := (ivB_iff _).2 ⟨by omega, by omega, by omega⟩
  refine okAt_mk (x := (L.getD i (0, 0)).1) (y := (L.getD i (0, 0)).2) rfl h3 ?_
  by_cases h0 : i = 0
  · exact .inl h0
  · exact .inr (canon_lt hr.can (i := i - 1) (j := i) (by omega) hi).1

/-- what Parts promises when it gives no error -/
theorem parts_ok {b : Bool} {s : St} {t n : Int} {L : List Sp} (hb : b = true → GoodS s) (h : partsM b s t n = (L, 0)) :
    ∃ u, AddM b s t n = (u, 0) ∧ b = true ∧ -4398046511104 ≤ t ∧ u ≤ 4398046511104 ∧ t ≤ u ∧ L.length ≤ 2000 ∧ RunsOf (hasS s) t u L ∧ meas L = n ∧ (L = [] → n = 0) ∧ (L ≠ [] → hasS s (u - 1) = true ∧ t < u) := by
  unfold partsM at h
  split at h
  · rename_i h1; exact absurd (congrArg Prod.snd h) h1
  · rename_i h1
    have h1' : (AddM b s t n).2 = 0 := by omega
    obtain ⟨⟨u, e0⟩, hp⟩ : ∃ p, AddM b s t n = p := ⟨_, rfl⟩
    rw [hp] at h h1'
    simp only at h h1'
    subst h1'
    obtain ⟨e1, e2, e3, e4, e5⟩ := AddM_ok hp
    have hg := hb e1
    have ht := (lineB_iff t).1 e2
    obtain ⟨a1, a2, a3, a4, a5⟩ := addM_ok hg ht.2 e3 e5
    by_cases hut : u = t
    · rw [if_pos hut] at h
      have hL : L = [] := (congrArg Prod.fst h).symm
      subst hL
      subst hut
      have hn : n = 0 := by omega
      exact ⟨u, hp, e1, ht.1, a3, Int.le_refl _, by simp, ⟨trivial, fun s hs => by simp at hs, fun s hs => by simp at hs, fun s hs => by simp at hs, fun x h1 h2 => by omega⟩, by rw [hn]; rfl, fun _ => hn, fun hh => absurd rfl hh⟩
    · rw [if_neg hut] at h
      obtain ⟨b1, b2⟩ := a5 (by omega)
      unfold winM at h
      split at h
      · exact absurd (congrArg Prod.snd h) (by simp)
      · split at h
        · rename_i hl
          have hL : memF (hasS s) t (u - t).toNat = L := congrArg Prod.fst h
          have hr := memF_runs (hasS s) t (u - t).toNat
          rw [show t + ((u - t).toNat : Int) = u by omega, hL] at hr
          rw [hL] at hl
          have hm := runs_meas hr (by omega) (potS_steps hg)
          refine ⟨u, hp, e1, ht.1, a3, a2, hl, hr, by omega, fun hh => ?_, fun _ => ⟨b2.1, by omega⟩⟩
          rw [hh] at hm; simp only [meas] at hm; omega
        · exact absurd (congrArg Prod.snd h) (by simp)
theorem parts_err {b : Bool} {s : St} {t n : Int} (h : (partsM b s t n).2 ≠ 0) : (partsM b s t n).1 = [] := by
  unfold partsM at h ⊢
  split
  · rfl
  · rename_i h1
    rw [if_neg h1] at h
    split
    · rfl
    · rename_i h2
      rw [if_neg h2] at h
      unfold winM at h ⊢
      split
      · rfl
      · rename_i h3
        rw [if_neg h3] at h
        split
        · rename_i h4; rw [if_pos h4] at h; exact absurd rfl h
        · rfl

theorem runs_first {h : Int → Bool} {f t : Int} {L : List Sp} (hr : RunsOf h f t L) (h0 : 0 < L.length) : f ≤ firstFr L ∧ firstFr L < t ∧ h (firstFr L) = true ∧ ∀ z, f ≤ z → z < firstFr L → h z = false := by
  have hm := idx_mem h0
  have h1 := hr.ins _ hm
  have h2 := canon_pos hr.can _ hm
  refine ⟨h1.1, by unfold firstFr; omega, hr.on _ hm _ (Int.le_refl _) h2, fun z hz1 hz2 => ?_⟩
  cases hh : h z with
  | false => rfl
  | true =>
    have h3 := hr.all z hz1 (by unfold firstFr at hz2; omega) hh
    obtain ⟨s, hs, h4, h5⟩ := inL_mem h3
    have := canon_first hr.can hs
    omega
theorem runs_last {h : Int → Bool} {f t : Int} {L : List Sp} (hr : RunsOf h f t L) (h0 : 0 < L.length) (ht : h (t - 1) = true) (hft : f < t) : lastTo L = t := by
  have hm := idx_mem (l := L) (j := L.length - 1) (by omega)
  have h1 := (hr.ins _ hm).2
  have h3 := hr.all (t - 1) (by omega) (by omega) ht
  obtain ⟨s, hs, h4, h5⟩ := inL_mem h3
  have := canon_last hr.can hs
  unfold lastTo at this ⊢
  omega
theorem open_first {s : St} {t u : Int} {L : List Sp} (hr : RunsOf (hasS s) t u L) (h0 : 0 < L.length) (ht : -4398046511104 ≤ t) (hu : u ≤ 4398046511104) {p : Int × Int} (h : OpenP true s t p) : p = (firstFr L, 0) := by
  obtain ⟨f1, f2, f3, f4⟩ := runs_first hr h0
  have hl : lineB t = true := (lineB_iff t).2 (by omega)
  unfold OpenP at h
  rw [fault_ok rfl hl, if_neg (by simp)] at h
  obtain ⟨r, hn, rfl⟩ := h
  unfold NeSpec at hn
  rw [if_neg (by rw [hl]; simp)] at hn
  by_cases hh : hasS s t = true
  · rw [if_pos hh] at hn
    subst hn
    rcases Int.lt_or_eq_of_le f1 with h1 | h1
    · rw [f4 t (Int.le_refl _) h1] at hh; cases hh
    · rw [← h1]; rfl
  · rw [if_neg hh] at hn
    obtain ⟨q, hq, rfl⟩ := hn
    have hlt : t < firstFr L := by
      rcases Int.lt_or_eq_of_le f1 with h1 | h1
      · exact h1
      · rw [← h1] at f3; exact absurd f3 hh
    have hx : NextC (hasS s) t (some (firstFr L)) := by
      refine ⟨hlt, ?_, fun z z1 z2 => ?_⟩
      · rw [f4 (firstFr L - 1) (by omega) (by omega), f3]; simp
      · rw [f4 (z - 1) (by omega) (by omega), f4 z (by omega) z2]
    obtain rfl := next_uniq hq hx
    unfold onLine
    simp only
    rw [if_neg (by omega)]
    rfl
theorem close_run {s : St} {t u : Int} {L : List Sp} (hr : RunsOf (hasS s) t u L) (ht : -4398046511104 ≤ t) (hu : u ≤ 4398046511104) {x : Sp} (hx : x ∈ L) {p : Int × Int} (h : CloseP true s x.1 p) :
    hasS s x.1 = true ∧ ((p.2 = 0 ∧ ¬ p.1 < x.2) ∨ p.2 = 7) := by
  have h1 := hr.ins x hx
  have h2 := canon_pos hr.can x hx
  have hon := hr.on x hx
  have hs := hon x.1 (Int.le_refl _) h2
  refine ⟨hs, ?_⟩
  have hl : lineB x.1 = true := (lineB_iff x.1).2 (by omega)
  unfold CloseP at h
  rw [fault_ok rfl hl, if_neg (by simp), hs, if_neg (by simp)] at h
  obtain ⟨r, hn, rfl⟩ := h
  unfold ChSpec at hn
  rw [if_neg (by rw [hl]; simp)] at hn
  obtain ⟨q, hq, rfl⟩ := hn
  cases q with
  | none => exact .inr rfl
  | some y =>
    unfold onLine
    simp only
    by_cases hy : 4398046511104 < y
    · rw [if_pos hy]; exact .inr rfl
    · rw [if_neg hy]
      refine .inl ⟨rfl, fun hlt => ?_⟩
      obtain ⟨n1, n2, _⟩ := hq
      simp only [ErrOr] at hlt
      exact n2 (by rw [hon (y - 1) (by omega) (by omega), hon y (by omega) hlt])

set_option maxRecDepth 100000 in
set_option maxHeartbeats 4000000 in
theorem law_WorkParts (s : St) (vl vr vv : Value) (t n : Int) (w : World) (h : RdSt w s vl vr vv) :
    Calls Tryz.prog 8 #[.agg #[.int .i64 s.lf.1, vl, .int .i64 s.rt.1, vr, .int .i64 s.fr, .int .i64 s.to, vv], .int .i64 t, .int .i64 n] w fun e w' => e = .returned (.bool true) ∧ Below w.heap.size w w' := by
  have HA := Lib.hid (fun W => awake_any W)
  have HLG := Lib.hid (fun W h => large_any s vl vr vv W h)
  have KP := Lib.hid (fun W h => wparts_any s vl vr vv t n W h)
  have KO := Lib.hid (fun W h => wopen_any s vl vr vv t W h)
  have KA := Lib.hid (fun W h => wAdd_any s vl vr vv t n W h)
  have KC := Lib.hid (fun x W h => wclose_any s vl vr vv x W h)
  have KH := Lib.hid (fun x W h h1 h2 => thas_any s vl vr vv x W h h1 h2)
  have HGD : Hid (VB s = true → GoodS s) := fun hg => (okS_of_VB hg).good
  generalize VB s = vb at *
  generalize largeB s = lg at *
  obtain ⟨⟨L, er⟩, hLe⟩ : ∃ p, partsM vb s t n = p := ⟨_, rfl⟩
  have HLE := Lib.hid hLe

  have HR0 := Lib.hid h
  obtain ⟨a1, n1, rfl⟩ := h.1.form
  obtain ⟨a2, n2, rfl⟩ := h.2.1.form
  obtain ⟨a3, n3, rfl⟩ := h.2.2.form
  clear h
  obtain ⟨W, hWe⟩ : ∃ W, w.alloc (.cells #[.int .i64 s.lf.1, .slice a1 s.lf.2.length n1, .int .i64 s.rt.1, .slice a2 s.rt.2.length n2, .int .i64 s.fr, .int .i64 s.to, .slice a3 s.l.length n3] 26) = W := ⟨_, rfl⟩
  have hW : Below w.heap.size w W := by rw [← hWe]; exact (Below.refl _ w).alloc (Nat.le_refl _) _
  have HX : Hid (Set7 W w.heap.size (.int .i64 s.lf.1) (.slice a1 s.lf.2.length n1) (.int .i64 s.rt.1) (.slice a2 s.rt.2.length n2) (.int .i64 s.fr) (.int .i64 s.to) (.slice a3 s.l.length n3)) := by
    rw [← hWe]
    refine ⟨⟨?_, ?_, ?_, ?_, ?_, ?_, ?_⟩, ?_, ?_, ?_, ?_, ?_, ?_, ?_⟩ <;> simp [go_sem]
  have HR := Lib.hid (keepSt hW HR0.out)
  have HE := Lib.hid hWe
  clear hWe HR0
  obtain ⟨⟨B0, B1, B2, B3, B4, B5, B6⟩, _⟩ := HX.out
  go_enter Tryz.func8, Tryz.ntmps8
  go_wp2_with fail
  rw [HE.out]

  go_wp2_with fail
  refine (HA.out _).mono ?_
  rintro e w1 ⟨rfl, hb1⟩
  have HX1 := Lib.hid (HX.out.below hb1)
  have HR1 := Lib.hid (keepSt hb1 HR.out)
  have hB1 := keepBelow hW hb1
  clear hb1 B0 B1 B2 B3 B4 B5 B6 HX HR HE HA
  obtain ⟨⟨B0, B1, B2, B3, B4, B5, B6⟩, _⟩ := HX1.out

  go_wp2_with fail
  refine (HLG.out _ HR1.out).mono ?_
  rintro e w2 ⟨rfl, hb2⟩
  have HX2 := Lib.hid (HX1.out.below hb2)
  have HR2 := Lib.hid (keepSt hb2 HR1.out)
  have hB2 := keepBelow hB1 hb2
  clear hb2 B0 B1 B2 B3 B4 B5 B6 HX1 HR1 HLG
  obtain ⟨⟨B0, B1, B2, B3, B4, B5, B6⟩, _⟩ := HX2.out

  cases lg with
  | true =>
    go_wp2
    go_ret
    exact ⟨rfl, hB2⟩
  | false =>
  go_wp2_with fail
  refine (KP.out _ HR2.out).mono ?_
  rintro e w3 ⟨v, rfl, ho, hb3⟩
  have HX3 := Lib.hid (HX2.out.below hb3)
  have HR3 := Lib.hid (keepSt hb3 HR2.out)
  have hB3 := keepBelow hB2 hb3
  clear hb3 B0 B1 B2 B3 B4 B5 B6 HX2 HR2 KP
  obtain ⟨⟨B0, B1, B2, B3, B4, B5, B6⟩, _⟩ := HX3.out

  rw [hLe] at ho ⊢
  clear hLe
  simp only at ho ⊢
  obtain ⟨av, nv, rfl, _⟩ := ho.form
  by_cases her : er ≠ 0
  · have hL : L = [] := by have := parts_err (b := vb) (s := s) (t := t) (n := n) (by rw [HLE.out]; exact her); rw [HLE.out] at this; exact this
    have g3 : (er == 0) = false := by simpa using her
    subst hL
    go_wp2
    go_ret
    exact ⟨ret_bool (by simp), hB3⟩
  have her : er = 0 := by omega
  subst her
  obtain ⟨u, p1, p2, p3, p4, p5, p6, p7, p8, p9, p10⟩ := parts_ok HGD.out HLE.out
  subst p2
  have hrv := rvB_of_runs p7 p3 p4 p6
  have KV := Lib.hid (fun v W h => rval_any v L W h)
  have KM := Lib.hid (fun v W h => rmes_any v L W h hrv)
  rw [hrv] at KV
  rw [p8] at KM
  rw [p1] at KA
  have HRUN := Lib.hid p7
  have HLAST := Lib.hid p10
  have HO := Lib.hid ho
  have hlen8 : L.length ≤ 8796093022208 := by omega
  clear hrv p7 p8 p1 HLE HGD ho p10
  go_wp2_with fail
  refine (KV.out _ _ (HO.out.rd hlen8)).mono ?_
  rintro e w4 ⟨rfl, hb4⟩
  have HO4 := Lib.hid (HO.out.below hb4)
  have HX4 := Lib.hid (HX3.out.below hb4)
  have HR4 := Lib.hid (keepSt hb4 HR3.out)
  have hB4 := keepBelow hB3 hb4
  clear hb4 B0 B1 B2 B3 B4 B5 B6 HX3 HR3 HO KV
  obtain ⟨⟨B0, B1, B2, B3, B4, B5, B6⟩, _⟩ := HX4.out

  go_wp2_with fail
  refine (KM.out _ _ (HO4.out.rd hlen8)).mono ?_
  rintro e w5 ⟨rfl, hb5⟩
  have HO5 := Lib.hid (HO4.out.below hb5)
  have HX5 := Lib.hid (HX4.out.below hb5)
  have HR5 := Lib.hid (keepSt hb5 HR4.out)
  have hB5 := keepBelow hB4 hb5
  clear hb5 B0 B1 B2 B3 B4 B5 B6 HX4 HR4 HO4 KM
  obtain ⟨⟨B0, B1, B2, B3, B4, B5, B6⟩, _⟩ := HX5.out

  by_cases h0 : 0 < L.length
  · have g4 : (((L.length : Int)) == 0) = false := by simp; intro e; simp [e] at h0
    have hne : L ≠ [] := by intro e; simp [e] at h0
    obtain ⟨q1, q2⟩ := HLAST.out hne
    have hlast := runs_last HRUN.out h0 q1 q2
    have HOF := Lib.hid (fun p h => open_first HRUN.out h0 p3 p4 (p := p) h)
    have HLC : Hid (∀ X, Below w5.heap.size w5 X → ∀ k, k < L.length → ∃ b o, av = some ⟨b, o, none⟩ ∧ X.cell? ⟨b, o + k * 2, none⟩ = some (.int .i64 (L.getD k (0, 0)).1) ∧ X.cell? ⟨b, o + k * 2 + 1, none⟩ = some (.int .i64 (L.getD k (0, 0)).2)) := by
      intro X hX k hk
      obtain ⟨a', c', e', _, hc⟩ := keepRd hX (HO5.out.rd hlen8)
      cases e'
      exact hc k hk
    clear hne q1 q2 HLAST HO5
    go_wp2_with fail
    refine (KO.out _ HR5.out).mono ?_
    rintro e w6 ⟨⟨o1, o2⟩, hop, rfl, hb6⟩
    have hoe := HOF.out _ hop
    obtain ⟨rfl, rfl⟩ := Prod.mk.inj hoe
    have hB56 := hb6
    have HX6 := Lib.hid (HX5.out.below hb6)
    have HR6 := Lib.hid (keepSt hb6 HR5.out)
    have hB6 := keepBelow hB5 hb6
    clear hb6 B0 B1 B2 B3 B4 B5 B6 HX5 HR5 KO HOF hop hoe
    obtain ⟨⟨B0, B1, B2, B3, B4, B5, B6⟩, _⟩ := HX6.out

    go_wp2_with fail
    refine (KA.out _ HR6.out).mono ?_
    rintro e w7 ⟨rfl, hb7⟩
    have hB57 := keepBelow hB56 hb7
    have HX7 := Lib.hid (HX6.out.below hb7)
    have HR7 := Lib.hid (keepSt hb7 HR6.out)
    have hB7 := keepBelow hB6 hb7
    clear hb7 B0 B1 B2 B3 B4 B5 B6 HX6 HR6 KA hB56
    obtain ⟨⟨B0, B1, B2, B3, B4, B5, B6⟩, _⟩ := HX7.out

    obtain ⟨bl, ol, rfl, z0, z1⟩ := HLC.out w7 hB57 0 h0
    obtain ⟨bl', ol', ee, z2, z3⟩ := HLC.out w7 hB57 (L.length - 1) (by omega)
    cases ee
    have x0 : w7.cell? ⟨bl, ol, none⟩ = some (.int .i64 (firstFr L)) := by simpa [firstFr] using z0
    have x3 : w7.cell? ⟨bl, ol + (L.length - 1) * 2 + 1, none⟩ = some (.int .i64 u) := by rw [← hlast]; exact z3
    have s1 : IntKind.i64.wrap ((L.length : Int) - 1) = (L.length : Int) - 1 := by rw [IntKind.wrap_i64]; omega
    have s2 : ((L.length : Int) - 1).toNat = L.length - 1 := by omega
    have s3 : (0 : Int) ≤ (L.length : Int) - 1 := by omega
    have HL0 := Lib.hid hlast
    clear z0 z1 z2 z3 hlast
    go_wp2_with fail
    go_loopw [87] (fun y wr => ∃ k : Nat, y = .int .i64 k ∧ k ≤ L.length ∧ Below w7.heap.size w7 wr) (fun y _ => L.length - (intOf y).toNat)
    case atStart => exact ⟨0, rfl, Nat.zero_le _, Below.refl _ _⟩
    case round =>
      obtain ⟨k, rfl, hk, hB⟩ := hrel
      by_cases hlt : k < L.length
      · obtain ⟨⟨C0, C1, C2, C3, C4, C5, C6⟩, _⟩ := HX7.out.below hB
        have HRr := Lib.hid (keepSt hB HR7.out)
        obtain ⟨b', o', ee, l0, l1⟩ := HLC.out _ (keepBelow hB57 hB) k hlt
        cases ee
        have hmem := idx_mem hlt
        have hin := HRUN.out.ins _ hmem
        have hpos := canon_pos HRUN.out.can _ hmem
        have HCR := Lib.hid (fun p h => close_run HRUN.out p3 p4 hmem (p := p) h)
        obtain ⟨⟨xk, yk⟩, hxy⟩ : ∃ p, L.getD k (0, 0) = p := ⟨_, rfl⟩
        rw [hxy] at l0 l1 hin hpos HCR
        simp only at l0 l1 hin hpos HCR
        have KCx := Lib.hid (fun W h => KC.out xk W h)
        have KHx := Lib.hid (fun W h => KH.out xk W h (by omega) (by omega))
        have nC0 := fun o => keepCell ((Below.refl _ wr).alloc (Nat.le_refl _) o) C0
        have nC1 := fun o => keepCell ((Below.refl _ wr).alloc (Nat.le_refl _) o) C1
        have nC2 := fun o => keepCell ((Below.refl _ wr).alloc (Nat.le_refl _) o) C2
        have nC3 := fun o => keepCell ((Below.refl _ wr).alloc (Nat.le_refl _) o) C3
        have nC4 := fun o => keepCell ((Below.refl _ wr).alloc (Nat.le_refl _) o) C4
        have nC5 := fun o => keepCell ((Below.refl _ wr).alloc (Nat.le_refl _) o) C5
        have nC6 := fun o => keepCell ((Below.refl _ wr).alloc (Nat.le_refl _) o) C6
        clear hmem hxy
        go_wp2_with fail
        obtain ⟨W5, hW5⟩ : ∃ X, wr.alloc (.cells #[.int .i64 xk, .int .i64 yk] 44) = X := ⟨_, rfl⟩
        have hb5 : Below wr.heap.size wr W5 := by rw [← hW5]; exact (Below.refl _ wr).alloc (Nat.le_refl _) _
        have r0 : W5.cell? ⟨wr.heap.size, 0, none⟩ = some (.int .i64 xk) := by rw [← hW5]; simp [go_sem]
        have r1 : W5.cell? ⟨wr.heap.size, 1, none⟩ = some (.int .i64 yk) := by rw [← hW5]; simp [go_sem]
        have HXr := Lib.hid ((HX7.out.below hB).below hb5)
        rw [hW5]
        clear hW5 nC0 nC1 nC2 nC3 nC4 nC5 nC6 C0 C1 C2 C3 C4 C5 C6 l0 l1
        refine (KCx.out _ (keepSt hb5 HRr.out)).mono ?_
        rintro e' w8 ⟨⟨c1, c2⟩, hcp, rfl, hb8⟩
        obtain ⟨d1, d2⟩ := HCR.out _ hcp
        simp only at d2
        have HD2 := Lib.hid d2
        have HX8 := Lib.hid (HXr.out.below hb8)
        have HR8 := Lib.hid (keepSt hb8 (keepSt hb5 HRr.out))
        have hB8 := keepBelow (keepBelow hB hb5) hb8
        have r0' := keepCell hb8 r0
        have r1' := keepCell hb8 r1
        have KHx := KHx.out
        rw [d1] at KHx
        have KHx := Lib.hid KHx
        clear hcp d1 d2 hb5 hb8 r0 r1 HXr HCR KCx
        obtain ⟨⟨C0, C1, C2, C3, C4, C5, C6⟩, _⟩ := HX8.out
        go_wp2_with fail
        refine (KHx.out _ HR8.out).mono ?_
        rintro e' w9 ⟨rfl, hb9⟩
        have hB9 := keepBelow hB8 hb9
        have r0 := keepCell hb9 r0'
        have r1 := keepCell hb9 r1'
        clear hb9 r0' r1' C0 C1 C2 C3 C4 C5 C6
        rcases HD2.out with ⟨rfl, d3⟩ | rfl
        · have g5 : decide (c1 < yk) = false := by simpa using d3
          clear d3 HD2
          go_wp2
          go_roundw
          case rel => exact ⟨k + 1, by go_num, by omega, hB9⟩
          case measure => simp [intOf]; omega
        · clear HD2
          go_wp2
          go_roundw
          case rel => exact ⟨k + 1, by go_num, by omega, hB9⟩
          case measure => simp [intOf]; omega
      · go_wp2
        go_ret
        exact ⟨rfl, keepBelow hB7 hB⟩
  · obtain rfl : L = [] := List.eq_nil_of_length_eq_zero (by omega)
    have hn0 := p9 rfl
    have g5 : (n == 0) = true := by simpa using hn0
    clear hn0
    go_wp2
    go_ret
    exact ⟨ret_bool (by simp), hB5⟩
end Go.Proofs.YtkfonfheakpcbaaGreat
