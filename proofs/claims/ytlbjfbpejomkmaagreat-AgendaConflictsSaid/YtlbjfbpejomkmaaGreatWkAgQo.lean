import Derived.Test.YtlbjfbpejomkmaaGreatWkAgEs
import Derived.Test.YtlbjfbpejomkmaaGreatWkAgQg
import Derived.Test.YtlbjfbpejomkmaaGreatWkAgQh
import Derived.Test.YtlbjfbpejomkmaaGreatWkAgRv
import Derived.Test.YtlbjfbpejomkmaaGreatWkAgQm
/- Agenda: the reference's Schedule; the law AgendaSchedules. -/
namespace Go.Proofs.YtlbjfbpejomkmaaGreat
open Go.RowKit Wk

def RsRes (r : Rs) (e : Ending) (w' : World) : Prop := match r with
 | .ok a => ∃ v, e = .returned (.tuple #[v, .int .i64 0]) ∧ RdS w' v a
 | .out => e = .returned (.tuple #[.slice none 0 0, .int .i64 18])
 | .no _ => e = .returned (.tuple #[.slice none 0 0, .int .i64 17])
def RsPost (l : List Tk) (res : List St) (start most : Int) (w : World) (e : Ending) (w' : World) : Prop :=
 Below w.heap.size w w' ∧ (0 ≤ most ∧ most ≤ 1000000 → RsRes (findM l res start most) e w') ∧ (¬ (0 ≤ most ∧ most ≤ 1000000) → e = .returned (.tuple #[.slice none 0 0, .int .i64 1]))
theorem rs_of {b : Nat} {vl vR : Value} {start : Int} {r : Rs} {v : Value} {c : Int} {w' : World} (h : StR b vl vR start r v c w') : RsRes r (.returned (.tuple #[v, .int .i64 c])) w' := by
 cases r with
 | ok a => obtain ⟨rfl, h⟩ := h; exact ⟨_, rfl, h⟩
 | out => obtain ⟨rfl, rfl⟩ := h; rfl
 | no l => obtain ⟨rfl, rfl, _⟩ := h; rfl
set_option maxRecDepth 100000 in
set_option maxHeartbeats 4000000 in
theorem sched48_any (vl vR : Value) (start most : Int) (L : List Kv) (R : List Sw) (w : World) (hL : RdK w vl L) (hR : RdR w vR R) (hV : vldM (tks L) (sts R) = true) (hs : lineB start = true) :
  Calls Tryz.prog 18 #[vl, vR, .int .i64 start, .int .i64 most] w (RsPost (tks L) (sts R) start most w) := by
 obtain ⟨al, cl, rfl⟩ := hL.form
 obtain ⟨aR, cR, rfl⟩ := hR.form
 have hfc := vld_parts hV
 have HLN : Hid (L.length ≤ 24) := hfc.2.2.1
 by_cases h0 : most < 0
 ·have g0 : decide (most < 0) = true := by simpa using h0
  have HP : Hid (∀ w', Below w.heap.size w w' → RsPost (tks L) (sts R) start most w (.returned (.tuple #[.slice none 0 0, .int .i64 1])) w') := fun w' hb => ⟨hb, fun h => by omega, fun _ => rfl⟩
  clear h0 hfc hL hR hV hs
  go_enter Tryz.func18, Tryz.ntmps18
  go_wp2
  go_ret2
  exact HP.out _ (Below.refl _ _)
 have g0 : decide (most < 0) = false := by simpa using h0
 by_cases h1 : 1000000 < most
 ·have g1 : decide (1000000 < most) = true := by simpa using h1
  have HP : Hid (∀ w', Below w.heap.size w w' → RsPost (tks L) (sts R) start most w (.returned (.tuple #[.slice none 0 0, .int .i64 1])) w') := fun w' hb => ⟨hb, fun h => by omega, fun _ => rfl⟩
  clear h0 h1 hfc hL hR hV hs
  go_enter Tryz.func18, Tryz.ntmps18
  go_wp2
  go_ret2
  exact HP.out _ (Below.refl _ _)
 have g1 : decide (1000000 < most) = false := by simpa using h1
 have hl1 := (lineB_iff start).1 hs
 have hv := vld_V hV
 have HCX : Hid (StCtx w w.heap.size (.slice al L.length cl) (.slice aR R.length cR) start L R) := ⟨hL, hR, hv, hfc.1, hfc.2.1, hl1, ⟨hfc.2.2.1, hfc.2.2.2⟩, Nat.le_refl _⟩
 obtain ⟨O, hO⟩ : ∃ O, (Obj.cells #[.slice al L.length cl, .slice aR R.length cR, .int .i64 start, .int .i64 most] 72) = O := ⟨_, rfl⟩
 have HSE : Hid (SeW (w.alloc O) w.heap.size (.slice al L.length cl) (.slice aR R.length cR) start most) := by
  rw [← hO]
  refine ⟨?_, ?_, ?_, ?_, ?_⟩ <;> simp [go_sem]
 have HB1 : Hid (Below w.heap.size w (w.alloc O)) := (Below.refl _ _).alloc (Nat.le_refl _) _
 have HLTW : Hid (w.heap.size < (w.alloc O).heap.size) := by unfold Hid; simp
 have HMB : Hid (0 ≤ most ∧ most ≤ 1000000) := by unfold Hid; omega
 obtain ⟨r, hr⟩ : ∃ r, findM (tks L) (sts R) start most = r := ⟨_, rfl⟩
 have HF : Hid (runM (tks L) (sts R) start L.length (List.replicate L.length false) (List.replicate R.length start) (List.replicate L.length (0, 0)) most = r) := by
  unfold Hid
  rw [← hr]
  unfold findM
  rw [tks_length, sts_length]
 have HP : Hid (∀ e w', Below w.heap.size w w' → RsRes r e w' → RsPost (tks L) (sts R) start most w e w') := fun e w' hb h => ⟨hb, fun _ => by rw [hr]; exact h, fun h => absurd HMB.out h⟩
 have HEN := Lib.hid (EndsR.init (tks L) (sts R) start)
 rw [tks_length, sts_length] at HEN
 obtain ⟨i0, hi, hz0, hz1, hz2⟩ := info_parts Tryz.infoSpan
 have HI := Lib.hid (And.intro hi (And.intro hz0 (And.intro hz1 hz2)))
 clear h0 h1 hfc hL hR hV hs hl1 hv hr hi hz0 hz1 hz2
 go_enter Tryz.func18, Tryz.ntmps18
 go_upto_region 4 with fail
 try rw [hO]
 generalize w.alloc O = W1 at *
 go_wp2_with (first | ((with_reducible show wpList _ _ _ _ _ _); refine wpList_make_full _ rfl (.tmp 23) (.tmp 23) 26 rfl W1.heap.size 46 i0 (.agg #[.int .i64 0, .int .i64 0]) 2 Tryz.underlying26 HI.out.1 HI.out.2.1 HI.out.2.2.1 .i64 .i64 _ _ L.length rfl rfl rfl rfl (by rw [HI.out.2.2.2]; have := HLN.out; omega) (by unfold maxLen; have := HLN.out; omega) (Nat.le_refl _) ?_; intro W2 hown hgr) | fail)
 have hb2 : Below W1.heap.size W1 W2 := (Below.refl _ W1).grown hgr (Nat.le_refl _) (fun k hk => by cases hk)
 obtain ⟨hz, hrow⟩ := row_zeroP hown
 have HSE2 := Lib.hid (HSE.out.below hb2)
 have HB2 := Lib.hid (keepBelow HB1.out hb2)
 have HA2 : Hid (RdP1 w.heap.size W2 (.slice (some ⟨W1.heap.size, 0, none⟩) L.length L.length) (List.replicate L.length (0, 0))) := by
  have := hrow.rd1 (c := L.length) (b := w.heap.size) (by rw [List.length_replicate]; exact HLN.out) (by have := HLTW.out; omega)
  rwa [List.length_replicate] at this
 have HD2 : Hid (RdJ3 w.heap.size w.heap.size w.heap.size W2 (.slice none 0 0) (natI [])) := ⟨none, 0, rfl, by simp [natI], fun i hi => by simp [natI] at hi⟩
 have HCL := Lib.hid (step48_any w w.heap.size _ _ start L R HCX.out L.length [] _ _ _ most _ _ W2 ⟨HSE2.out, HB2.out, HD2.out, HA2.out, HEN.out, fun i hi => by (rw [rep_at] at hi; cases hi), HMB.out, fun _ => rfl⟩ (rep_count _) (by simp))
 rw [HF.out] at HCL
 clear hb2 hz hrow hown hgr
 refine HCL.out.mono ?_
 rintro e w3 ⟨v, c, rfl, hk, hs⟩
 have HB3 := Lib.hid (HB2.out.trans hk.1)
 have HS3 := Lib.hid (rs_of hs)
 clear hk hs
 go_wp2
 go_ret2
 exact HP.out _ _ HB3.out HS3.out
end Go.Proofs.YtlbjfbpejomkmaaGreat
namespace Go.Proofs.YtlbjfbpejomkmaaGreat
open Go.RowKit Wk

def SmPost (r : Rs) (w : World) (e : Ending) (w' : World) : Prop := Below w.heap.size w w' ∧ ∃ v n c, e = .returned (.tuple #[.slice v n c, .int .i64 (resE r)])
theorem sched_left (vl vR : Value) (start : Int) (L : List Kv) (R : List Sw) (W : World) (hL : RdK W vl L) (hR : RdR W vR R) (hV : vldM (tks L) (sts R) = true) (hs : lineB start = true) :
  Calls Tryz.prog 18 #[vl, vR, .int .i64 start, .int .i64 1000] W (SmPost (findM (tks L) (sts R) start 1000) W) :=
 (sched48_any vl vR start 1000 L R W hL hR hV hs).mono fun e w' ⟨hb, h1, _⟩ => by
  have h := h1 ⟨by omega, by omega⟩
  refine ⟨hb, ?_⟩
  cases hf : findM (tks L) (sts R) start 1000 with
  | ok a =>
   rw [hf] at h
   obtain ⟨v, rfl, hrd⟩ := h
   obtain ⟨a', c', rfl⟩ := hrd.form
   exact ⟨_, _, _, rfl⟩
  | out =>
   rw [hf] at h
   have h : e = _ := h
   subst h
   exact ⟨_, _, _, rfl⟩
  | no lf =>
   rw [hf] at h
   have h : e = _ := h
   subst h
   exact ⟨_, _, _, rfl⟩
set_option maxRecDepth 100000 in
set_option maxHeartbeats 16000000 in
theorem conflict48_any (vl vR : Value) (start : Int) (L : List Kv) (R : List Sw) (w : World) (hL : RdK w vl L) (hR : RdR w vR R) (hV : vldM (tks L) (sts R) = true) (hs : lineB start = true) :
  Calls Tryz.prog 23 #[vl, vR, .int .i64 start] w (CfPost (cfA (tks L) (sts R) start) w) := by
 have HL := Lib.hid hL
 have HR := Lib.hid hR
 have HVL := Lib.hid (And.intro hV hs)
 have HVB : Hid ((vldM (tks L) (sts R) && lineB start) = true) := by unfold Hid; rw [hV, hs]; rfl
 have HS := Lib.hid (sched_left vl vR start L R w hL hR hV hs)
 have hvp := vld_parts hV
 have HN : Hid (L.length ≤ 24) := hvp.2.2.1
 obtain ⟨al, cl, rfl⟩ := hL.form
 obtain ⟨aR, cR, rfl⟩ := hR.form
 obtain ⟨r, hr⟩ : ∃ r, findM (tks L) (sts R) start 1000 = r := ⟨_, rfl⟩
 rw [hr] at HS
 have HRR := Lib.hid hr
 obtain ⟨i0, hi, hz0, hz1, hz2⟩ := info_parts Tryz.infoBool
 have HI := Lib.hid (And.intro hi (And.intro hz0 (And.intro hz1 hz2)))
 clear hi hz0 hz1 hz2 hL hR hV hs hvp hr
 go_enter Tryz.func23, Tryz.ntmps23
 go_wp2_with fail
 refine HS.out.mono ?_
 rintro e w2 ⟨hb2, p1, p2, p3, rfl⟩
 have HB2 := Lib.hid hb2
 clear hb2 HS
 cases r with
 | ok a =>
  have hre : resE (.ok a) = 0 := rfl
  rw [hre]
  clear hre
  go_wp2
  go_ret2
  rw [cfA_ok HVB.out HRR.out]
  exact ⟨_, rfl, OwnI.nil _ _, HB2.out⟩
 | out =>
  have hre : resE .out = 18 := rfl
  rw [hre]
  clear hre
  go_wp2
  go_ret2
  rw [cfA_out HVB.out HRR.out]
  exact ⟨_, rfl, OwnI.nil _ _, HB2.out⟩
 | no lf =>
 have hre : resE (.no lf) = 17 := rfl
 rw [hre]
 clear hre
 go_wp2_with (first | ((with_reducible show wpList _ _ _ _ _ _); refine wpList_make_full _ rfl (.tmp 30) (.tmp 30) 79 rfl w2.heap.size 4 i0 (.bool false) 1 Tryz.underlying79 HI.out.1 HI.out.2.1 HI.out.2.2.1 .i64 .i64 _ _ L.length rfl rfl rfl rfl (by rw [HI.out.2.2.2]; have := HN.out; omega) (by unfold maxLen; have := HN.out; omega) (Nat.le_refl _) ?_; intro w3 hown hgr) | fail)
 have hb3 : Below w2.heap.size w2 w3 := (Below.refl _ w2).grown hgr (Nat.le_refl _) (fun k hk => by cases hk)
 obtain ⟨hz, hrow⟩ := rowV_zeroB hown
 have HB3 := Lib.hid (keepBelow HB2.out hb3)
 obtain ⟨gk, hgk⟩ : ∃ g, w2.heap.size = g := ⟨_, rfl⟩
 rw [hgk] at hz hrow
 have HGK : Hid (w.heap.size ≤ gk ∧ gk < w3.heap.size) := ⟨by rw [← hgk]; exact HB2.out.size, hz⟩
 have HR0 := Lib.hid hrow
 rw [hgk]
 clear hown hgr hb3 hz hrow HI hgk
 go_wp2_with fail
 go_loopw [11] (fun i wr => ∃ k : Nat, k ≤ L.length ∧ i = .int .i64 k ∧ RowV wr gk L.length (fun i => .bool (decide (i < k))) ∧ Below w.heap.size w wr ∧ w3.heap.size ≤ wr.heap.size) (fun i _ => L.length - (intOf i).toNat)
 case atStart => exact ⟨0, Nat.zero_le _, rfl, HR0.out.congr fun i hi => by simp, HB3.out, Nat.le_refl _⟩
 case round =>
  obtain ⟨k, hk, rfl, hrow, hB, hsz⟩ := hrel
  by_cases hlt : k < L.length
  ·have sk24 : (k : Int) ≤ 24 := by have := HN.out; omega
   have hkc := (hrow k hlt).1
   have hkf := (hrow k hlt).2
   have HRW : Hid (RowV (wr.setCell ⟨gk, k, none⟩ (.bool true)) gk L.length fun i => .bool (decide (i < k + 1))) := (hrow.set hlt _).congr fun i hi => by
    by_cases e : i = k
    ·subst e; simp
    ·rw [if_neg e]
     congr 1
     rw [decide_eq_decide]
     omega
   have HBW : Hid (Below w.heap.size w (wr.setCell ⟨gk, k, none⟩ (.bool true))) := hB.setCell (p := ⟨gk, k, none⟩) HGK.out.1 _
   have HSW : Hid (w3.heap.size ≤ (wr.setCell ⟨gk, k, none⟩ (.bool true)).heap.size) := by unfold Hid; simpa using hsz
   clear hrow hB hsz
   go_wp2
   go_roundw
   case rel => exact ⟨k + 1, by omega, by go_num, HRW.out, HBW.out, HSW.out⟩
   case measure => simp [intOf]; omega
  ·have hkl : k = L.length := by omega
   subst hkl
   have HRW : Hid (RowV wr gk L.length fun _ => .bool true) := hrow.congr fun i hi => by simp [hi]
   have HB4 := Lib.hid hB
   have HS4 := Lib.hid hsz
   obtain ⟨tot, htot⟩ : ∃ t, cfR (tks L) (sts R) start 0 (fun _ => true) = t := ⟨_, rfl⟩
   have HT := Lib.hid htot
   clear hrow hB hsz htot
   obtain ⟨w4, hw4⟩ : ∃ X, wr = X := ⟨_, rfl⟩
   rw [hw4] at HRW HB4 HS4 ⊢
   clear hw4
   go_wp2_with fail
   go_loopw [12] (fun i wr => ∃ (k : Nat) (keep : Nat → Bool), k ≤ L.length ∧ i = .int .i64 k ∧ RowV wr gk L.length (fun i => .bool (keep i)) ∧ Hid (∀ j, k ≤ j → keep j = true) ∧ Hid (cfR (tks L) (sts R) start k keep = tot) ∧ Below w.heap.size w wr ∧ w3.heap.size ≤ wr.heap.size) (fun i _ => L.length - (intOf i).toNat)
   case atStart => exact ⟨0, fun _ => true, Nat.zero_le _, rfl, HRW.out, fun _ _ => rfl, HT.out, HB4.out, HS4.out⟩
   case round =>
    obtain ⟨k, keep, hk, rfl, hrow, HKT, HCF, hB, hsz⟩ := hrel
    by_cases hlt : k < L.length
    ·have sk24 : (k : Int) ≤ 24 := by have := HN.out; omega
     have hkc := (hrow k hlt).1
     have hkf := (hrow k hlt).2
     have HST := Lib.hid (cfR_step (l := tks L) (res := sts R) (start := start) keep (by rw [tks_length]; exact hlt))
     have HK1 : Hid (keep k = true) := HKT.out k (Nat.le_refl _)
     go_upto_region 15 with fail
     obtain ⟨Y, hY⟩ : ∃ Y, wr.setCell ⟨gk, k, none⟩ (.bool false) = Y := ⟨_, rfl⟩
     rw [hY]
     have HRY : Hid (RowV Y gk L.length fun i => .bool (updK keep k false i)) := by unfold Hid; rw [← hY]; exact (hrow.set hlt _).congr fun i hi => by unfold updK; split <;> rfl
     have HBY : Hid (Below w.heap.size w Y) := by unfold Hid; rw [← hY]; exact hB.setCell (p := ⟨gk, k, none⟩) HGK.out.1 _
     have HSY : Hid (w3.heap.size ≤ Y.heap.size) := by unfold Hid; rw [← hY]; simpa using hsz
     have HLY := Lib.hid (HL.out.below HBY.out)
     have HRRY := Lib.hid (HR.out.below HBY.out)
     have HWO := Lib.hid (some48_any (.slice al L.length cl) gk L.length L (updK keep k false) Y HLY.out HRY.out (fun i hi => (okT_parts.1 (vld_ok HVL.out.1 i hi)).2.2.2.2.2.2.2.2) HN.out)
     clear hY hkc hkf hrow hB hsz
     go_wp2_with fail
     refine HWO.out.mono ?_
     rintro e w5 ⟨v4, L4, rfl, hrd4, ht4, hb4⟩
     obtain ⟨a4, c4, rfl⟩ := hrd4.form
     have HB5 := Lib.hid (keepBelow HBY.out hb4)
     have HR5 := Lib.hid (HRY.out.below hb4)
     have HRR5 := Lib.hid (HRRY.out.below hb4)
     have HS5 : Hid (w3.heap.size ≤ w5.heap.size) := Nat.le_trans HSY.out hb4.size
     have HV4 : Hid (vldM (tks L4) (sts R) = true) := by unfold Hid; rw [ht4]; exact some_vld HVL.out.1
     have HF4 := Lib.hid (sched_left (.slice a4 L4.length c4) (.slice aR R.length cR) start L4 R w5 hrd4 HRR5.out HV4.out HVL.out.2)
     rw [ht4] at HF4
     obtain ⟨r4, hr4⟩ : ∃ r, findM (someM (tks L) (updK keep k false)) (sts R) start 1000 = r := ⟨_, rfl⟩
     rw [hr4] at HF4 HST
     clear hr4 hrd4 ht4 hb4 HWO
     go_wp2_with fail
     refine HF4.out.mono ?_
     rintro e w6 ⟨hb5, q1, q2, q3, rfl⟩
     have HB6 := Lib.hid (keepBelow HB5.out hb5)
     have HR6 := Lib.hid (HR5.out.below hb5)
     have HS6 : Hid (w3.heap.size ≤ w6.heap.size) := Nat.le_trans HS5.out hb5.size
     clear hb5 HF4
     cases r4 with
     | ok a5 =>
      have hre : resE (.ok a5) = 0 := rfl
      rw [hre]
      clear hre
      have hkc := (HR6.out k hlt).1
      have hkf := (HR6.out k hlt).2
      have HRZ : Hid (RowV (w6.setCell ⟨gk, k, none⟩ (.bool true)) gk L.length fun i => .bool (keep i)) := by
       refine (HR6.out.set hlt _).congr fun i hi => ?_
       conv => rhs; rw [← updK_back HK1.out]
       show (if i = k then _ else _) = Value.bool (if i = k then true else updK keep k false i)
       split <;> rfl
      have HBZ : Hid (Below w.heap.size w (w6.setCell ⟨gk, k, none⟩ (.bool true))) := HB6.out.setCell (p := ⟨gk, k, none⟩) HGK.out.1 _
      have HSZ : Hid (w3.heap.size ≤ (w6.setCell ⟨gk, k, none⟩ (.bool true)).heap.size) := by unfold Hid; simpa using HS6.out
      go_wp2
      go_roundw
      case rel => exact ⟨k + 1, keep, by omega, by go_num, HRZ.out, fun j hj => HKT.out j (by omega), by (unfold Hid; rw [← HCF.out, HST.out]), HBZ.out, HSZ.out⟩
      case measure => simp [intOf]; omega
     | out =>
      have hre : resE .out = 18 := rfl
      rw [hre]
      clear hre
      go_wp2
      go_ret2
      rw [cfA_nn HVB.out HRR.out (by rw [HT.out, ← HCF.out, HST.out])]
      exact ⟨_, rfl, OwnI.nil _ _, HB6.out⟩
     | no l5 =>
      have hre : resE (.no l5) = 17 := rfl
      rw [hre]
      clear hre
      go_wp2
      go_roundw
      case rel =>
       refine ⟨k + 1, updK keep k false, by omega, by go_num, HR6.out, fun j hj => ?_, ?_, HB6.out, HS6.out⟩
       ·unfold updK
        rw [if_neg (by omega)]
        exact HKT.out j (by omega)
       ·unfold Hid
        rw [← HCF.out, HST.out]
      case measure => simp [intOf]; omega
    ·have hkl : k = L.length := by omega
     subst hkl
     have HCE : Hid (cfA (tks L) (sts R) start = (0, keptL L.length keep)) := by
      unfold Hid
      have h1 := HCF.out
      have h2 := cfR_end (tks L) (sts R) start keep
      rw [tks_length] at h2
      rw [h2] at h1
      have h3 := HT.out
      rw [← h1] at h3
      have h4 := cfA_ns HVB.out HRR.out h3
      rwa [tks_length] at h4
     have HR7 := Lib.hid hrow
     have HB7 := Lib.hid hB
     have HS7 : Hid (gk < wr.heap.size) := by unfold Hid; have := HGK.out; omega
     obtain ⟨w7, hw7⟩ : ∃ X, wr = X := ⟨_, rfl⟩
     rw [hw7] at HR7 HB7 HS7 ⊢
     clear hrow hB hsz hw7
     go_wp2_with fail
     go_loopw [15, 16] (fun u i wr => ∃ k : Nat, k ≤ L.length ∧ i = .int .i64 k ∧ OwnI wr w7.heap.size u (natI (keptL k keep)) ∧ Below w7.heap.size w7 wr) (fun _ i _ => L.length - (intOf i).toNat)
     case atStart => exact ⟨0, Nat.zero_le _, rfl, OwnI.nil _ _, Below.refl _ _⟩
     case round =>
      obtain ⟨k, hk, rfl, ho, hB⟩ := hrel
      by_cases hlt : k < L.length
      ·have sk24 : (k : Int) ≤ 24 := by have := HN.out; omega
       have hkc0 := (HR7.out.below hB k hlt).1
       obtain ⟨kk, hkk⟩ : ∃ b, keep k = b := ⟨_, rfl⟩
       have hkc : wr.cell? ⟨gk, k, none⟩ = some (.bool kk) := by rw [← hkk]; exact hkc0
       have HKK := Lib.hid hkk
       have HKS := Lib.hid (kept_succ k keep)
       rw [hkk] at HKS
       have HKL := Lib.hid (keptI_len k keep)
       have HO := Lib.hid ho
       have HB8 := Lib.hid hB
       clear hkk hkc0 ho hB
       cases kk with
       | false =>
        go_wp2
        go_roundw
        case rel => exact ⟨k + 1, by omega, by go_num, by rw [HKS.out]; simpa using HO.out, HB8.out⟩
        case measure => simp [intOf]; omega
       | true =>
        go_wp2_with (at_builtin; refine wpList_app_int rfl (.tmp 77) (.tmp 79) rfl rfl HO.out HB8.out rfl (by simp) (by have := HKL.out; have := HN.out; omega) ?_; intro v2 w2 o2 b2 k2 z2; clear k2 z2)
        go_roundw
        case rel => exact ⟨k + 1, by omega, by go_num, by rw [HKS.out, if_pos rfl, natI_append]; exact o2, b2⟩
        case measure => simp [intOf]; omega
      ·have hkl : k = L.length := by omega
       subst hkl
       have HO := Lib.hid (ho.mono (B' := w.heap.size) HB7.out.size)
       have HB8 := Lib.hid (HB7.out.trans (hB.mono HB7.out.size))
       obtain ⟨au, cu, rfl, -⟩ := ho.form
       clear ho hB
       go_wp2
       go_ret2
       rw [HCE.out]
       exact ⟨_, rfl, HO.out, HB8.out⟩
end Go.Proofs.YtlbjfbpejomkmaaGreat
