import Derived.Test.YtlbjfbpejomkmaaGreatWkAgQo
import Derived.Test.YtlbjfbpejomkmaaGreatWkAgSq
/- The law AgendaSchedules. -/
namespace Go.Proofs.YtlbjfbpejomkmaaGreat
open Go.RowKit Wk

def rsM : Rs → Int × List Sp
 | .ok a => (0, a)
 | .out => (18, [])
 | .no _ => (17, [])
def schM (l : List Tk) (res : List St) (start most : Int) : Int × List Sp := if schB l res start most = true then rsM (findM l res start most) else (1, [])
def ShPost (p : Int × List Sp) (w : World) (e : Ending) (w' : World) : Prop := ∃ v, e = .returned (.tuple #[v, .int .i64 p.1]) ∧ RdS w' v p.2 ∧ Below w.heap.size w w'
theorem ad_res {l : List Tk} {res : List St} {start most : Int} {w : World} {e : Ending} {w' : World} (h : AdPost l res start most w e w') : ShPost (schM l res start most) w e w' := by
 obtain ⟨hb, h1, h2⟩ := h
 unfold schM
 by_cases hs : schB l res start most = true
 ·rw [if_pos hs]
  have h1 := h1 hs
  cases hr : findM l res start most with
  | ok a =>
   rw [hr] at h1
   obtain ⟨g, rfl, _, hrow, hl⟩ := h1
   exact ⟨_, rfl, hrow.rd hl, hb⟩
  | out =>
   rw [hr] at h1
   have h1 : e = _ := h1
   subst h1
   exact ⟨_, rfl, rdS_nil _, hb⟩
  | no left' =>
   rw [hr] at h1
   have h1 : e = _ := h1
   subst h1
   exact ⟨_, rfl, rdS_nil _, hb⟩
 ·rw [if_neg hs]
  have := h2 (by simpa using hs)
  subst this
  exact ⟨_, rfl, rdS_nil _, hb⟩
theorem rs_res {l : List Tk} {res : List St} {start most : Int} {w : World} {e : Ending} {w' : World} (hv : vldM l res = true) (hl : lineB start = true) (h : RsPost l res start most w e w') : ShPost (schM l res start most) w e w' := by
 obtain ⟨hb, h1, h2⟩ := h
 unfold schM
 by_cases hs : 0 ≤ most ∧ most ≤ 1000000
 ·have hsb : schB l res start most = true := by unfold schB; rw [hv, hl, decide_eq_true hs.1, decide_eq_true hs.2]; rfl
  rw [if_pos hsb]
  have h1 := h1 hs
  cases hr : findM l res start most with
  | ok a =>
   rw [hr] at h1
   obtain ⟨v, rfl, hrd⟩ := h1
   exact ⟨_, rfl, hrd, hb⟩
  | out =>
   rw [hr] at h1
   have h1 : e = _ := h1
   subst h1
   exact ⟨_, rfl, rdS_nil _, hb⟩
  | no left' =>
   rw [hr] at h1
   have h1 : e = _ := h1
   subst h1
   exact ⟨_, rfl, rdS_nil _, hb⟩
 ·have hsb : ¬ schB l res start most = true := by
   unfold schB
   simp only [Bool.and_eq_true, decide_eq_true_eq]
   exact fun h => hs ⟨h.1.2, h.2⟩
  rw [if_neg hsb]
  have := h2 hs
  subst this
  exact ⟨_, rfl, rdS_nil _, hb⟩
theorem schM_no {l : List Tk} {res : List St} {start most : Int} (h : (vldM l res && lineB start) = false) : schM l res start most = (1, []) := by
 unfold schM schB
 rw [if_neg]
 rw [h]
 simp
set_option maxRecDepth 100000 in
set_option maxHeartbeats 8000000 in
theorem law_AgendaSchedules (vl vR : Value) (start most : Int) (L : List Kv) (R : List Sw) (w : World) (hL : RdK w vl L) (hR : RdR w vR R) :
  Calls Tryz.prog 4 #[vl, vR, .int .i64 start, .int .i64 most] w fun e w' => e = .returned (.bool true) ∧ Below w.heap.size w w' := by
 have HA := Lib.hid (fun W => awake48_any W)
 have HG := Lib.hid (fun W h h' => great_any vl vR L R W h h')
 have HS : Hid (∀ W, RdK W vl L → RdR W vR R → Calls Tryz.prog 16 #[vl, vR, .int .i64 start, .int .i64 most] W (ShPost (schM (tks L) (sts R) start most) W)) := fun W h h' => (sched_any vl vR start most L R W h h').mono fun _ _ hh => ad_res hh
 have HW := Lib.hid (fun W h h' => rvalid48_any vl vR L R W h h')
 have HLI := Lib.hid (fun W => line48_any start W)
 have HT : Hid (vldM (tks L) (sts R) = true → lineB start = true → ∀ W, RdK W vl L → RdR W vR R → Calls Tryz.prog 18 #[vl, vR, .int .i64 start, .int .i64 most] W (ShPost (schM (tks L) (sts R) start most) W)) := fun hv hl W h h' => (sched48_any vl vR start most L R W h h' hv hl).mono fun _ _ hh => rs_res hv hl hh
 have HSP := Lib.hid (fun v1 v2 l1 l2 W h h' => spans48_any v1 v2 l1 l2 W h h')
 have HNO : Hid ((vldM (tks L) (sts R) && lineB start) = false → schM (tks L) (sts R) start most = (1, [])) := fun h => schM_no h
 generalize schM (tks L) (sts R) start most = p at *
 generalize vldM (tks L) (sts R) = v at *
 generalize lineB start = ln at *
 have HL := Lib.hid hL
 have HR := Lib.hid hR
 obtain ⟨al, cl, rfl⟩ := hL.form
 obtain ⟨aR, cR, rfl⟩ := hR.form
 clear hL hR
 go_enter Tryz.func4, Tryz.ntmps4
 go_wp2_with fail
 refine (HA.out _).mono ?_
 rintro e w1 ⟨rfl, hb1⟩
 have HL1 := Lib.hid (HL.out.below hb1)
 have HR1 := Lib.hid (HR.out.below hb1)
 have HB1 := Lib.hid hb1
 clear hb1
 go_wp2_with fail
 refine (HG.out _ HL1.out HR1.out).mono ?_
 rintro e w2 ⟨g, rfl, -, hb2⟩
 have HL2 := Lib.hid (HL1.out.below hb2)
 have HR2 := Lib.hid (HR1.out.below hb2)
 have HB2 := Lib.hid (keepBelow HB1.out hb2)
 clear hb2
 cases g with
 | true =>
  go_wp2
  go_ret
  exact ⟨rfl, HB2.out⟩
 | false =>
 have rest : ∀ (gg : Bool), (decide (500 < most) && decide (most ≤ 1000000)) = gg → True := fun _ _ => trivial
 clear rest
 by_cases hm1 : 500 < most
 ·have g1 : decide (500 < most) = true := by simpa using hm1
  by_cases hm2 : most ≤ 1000000
  ·have g2 : decide (most ≤ 1000000) = true := by simpa using hm2
   clear hm1 hm2
   go_wp2
   go_ret
   exact ⟨rfl, HB2.out⟩
  ·have g2 : decide (most ≤ 1000000) = false := by simpa using hm2
   clear hm1 hm2
   go_wp2_with fail
   refine (HS.out _ HL2.out HR2.out).mono ?_
   rintro e w3 ⟨x, rfl, hx, hb3⟩
   have HL3 := Lib.hid (HL2.out.below hb3)
   have HR3 := Lib.hid (HR2.out.below hb3)
   have HB3 := Lib.hid (keepBelow HB2.out hb3)
   have HX3 := Lib.hid hx
   obtain ⟨ax, cx, rfl⟩ := hx.form
   clear hx hb3
   go_wp2_with fail
   refine (HW.out _ HL3.out HR3.out).mono ?_
   rintro e w4 ⟨rfl, hb4⟩
   have HL4 := Lib.hid (HL3.out.below hb4)
   have HR4 := Lib.hid (HR3.out.below hb4)
   have HB4 := Lib.hid (keepBelow HB3.out hb4)
   have HX4 := Lib.hid (keepRd hb4 HX3.out)
   clear hb4
   cases v with
   | false =>
    have hp := HNO.out rfl
    subst hp
    go_wp2
    go_ret
    exact ⟨rfl, HB4.out⟩
   | true =>
   cases ln with
   | false =>
    have hp := HNO.out rfl
    subst hp
    go_wp2_with (first | (go_at_call 17; refine (HLI.out _).mono ?_; rintro e w' ⟨rfl, rfl⟩) | fail)
    go_ret
    exact ⟨rfl, HB4.out⟩
   | true =>
   go_wp2_with (first | (go_at_call 17; refine (HLI.out _).mono ?_; rintro e w' ⟨rfl, rfl⟩) | fail)
   refine (HT.out (by first | rfl | trivial) (by first | rfl | trivial) _ HL4.out HR4.out).mono ?_
   rintro e w5 ⟨y, rfl, hy, hb5⟩
   have HB5 := Lib.hid (keepBelow HB4.out hb5)
   have HX5 := Lib.hid (keepRd hb5 HX4.out)
   have HY5 := Lib.hid hy
   obtain ⟨ay, cy, rfl⟩ := hy.form
   clear hy hb5
   go_wp2_with fail
   refine (HSP.out _ _ _ _ _ HX5.out HY5.out).mono ?_
   rintro e w6 ⟨rfl, hb6⟩
   rw [decide_eq_true rfl]
   have HB6 := Lib.hid (keepBelow HB5.out hb6)
   clear hb6
   go_wp2
   go_ret
   exact ⟨by first | rfl | simp, HB6.out⟩
 ·have g1 : decide (500 < most) = false := by simpa using hm1
  clear hm1
  go_wp2_with fail
  refine (HS.out _ HL2.out HR2.out).mono ?_
  rintro e w3 ⟨x, rfl, hx, hb3⟩
  have HL3 := Lib.hid (HL2.out.below hb3)
  have HR3 := Lib.hid (HR2.out.below hb3)
  have HB3 := Lib.hid (keepBelow HB2.out hb3)
  have HX3 := Lib.hid hx
  obtain ⟨ax, cx, rfl⟩ := hx.form
  clear hx hb3
  go_wp2_with fail
  refine (HW.out _ HL3.out HR3.out).mono ?_
  rintro e w4 ⟨rfl, hb4⟩
  have HL4 := Lib.hid (HL3.out.below hb4)
  have HR4 := Lib.hid (HR3.out.below hb4)
  have HB4 := Lib.hid (keepBelow HB3.out hb4)
  have HX4 := Lib.hid (keepRd hb4 HX3.out)
  clear hb4
  cases v with
  | false =>
   have hp := HNO.out rfl
   subst hp
   go_wp2
   go_ret
   exact ⟨rfl, HB4.out⟩
  | true =>
  cases ln with
  | false =>
   have hp := HNO.out rfl
   subst hp
   go_wp2_with (first | (go_at_call 17; refine (HLI.out _).mono ?_; rintro e w' ⟨rfl, rfl⟩) | fail)
   go_ret
   exact ⟨rfl, HB4.out⟩
  | true =>
  go_wp2_with (first | (go_at_call 17; refine (HLI.out _).mono ?_; rintro e w' ⟨rfl, rfl⟩) | fail)
  refine (HT.out (by first | rfl | trivial) (by first | rfl | trivial) _ HL4.out HR4.out).mono ?_
  rintro e w5 ⟨y, rfl, hy, hb5⟩
  have HB5 := Lib.hid (keepBelow HB4.out hb5)
  have HX5 := Lib.hid (keepRd hb5 HX4.out)
  have HY5 := Lib.hid hy
  obtain ⟨ay, cy, rfl⟩ := hy.form
  clear hy hb5
  go_wp2_with fail
  refine (HSP.out _ _ _ _ _ HX5.out HY5.out).mono ?_
  rintro e w6 ⟨rfl, hb6⟩
  rw [decide_eq_true rfl]
  have HB6 := Lib.hid (keepBelow HB5.out hb6)
  clear hb6
  go_wp2
  go_ret
  exact ⟨by first | rfl | simp, HB6.out⟩
end Go.Proofs.YtlbjfbpejomkmaaGreat
