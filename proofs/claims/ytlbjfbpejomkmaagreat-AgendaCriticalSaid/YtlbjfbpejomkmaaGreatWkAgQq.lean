import Derived.Test.YtlbjfbpejomkmaaGreatWkAgQr
import Derived.Test.YtlbjfbpejomkmaaGreatWkRfE
import Derived.Test.YtlbjfbpejomkmaaGreatWkPn
import Derived.Test.YtlbjfbpejomkmaaGreatWkAgQp
import Derived.Test.YtlbjfbpejomkmaaGreatWkAgQn
import Derived.Test.YtlbjfbpejomkmaaGreatWkAgQj
import Derived.Test.YtlbjfbpejomkmaaGreatWkWin
import Derived.Test.YtlbjfbpejomkmaaGreatWkAgQm
import Derived.Test.YtlbjfbpejomkmaaGreatWkAg7
import Derived.Test.YtlbjfbpejomkmaaGreatWkAgRv
import Derived.Test.YtlbjfbpejomkmaaGreatWkAgQg
import Derived.Test.YtlbjfbpejomkmaaGreatWkAgQh
/- Agenda: the reference's link. -/
namespace Go.Proofs.YtlbjfbpejomkmaaGreat
open Go.RowKit Wk

def nxB (s : St) (x y : Int) : Bool := decide (x ≤ y) && (hasS s y && (potS s y == potS s x))
def lkM (l : List Tk) (res : List St) (b : List Sp) (j i : Nat) : Bool := ((tkAt l i).af.contains (j : Int) || (tkAt l j).rs == (tkAt l i).rs) && nxB (setOf l res i) (spAt b j).2 (spAt b i).1
theorem nx_of {s : St} (h : GoodS s) {x y : Int} {r : Option Int} (hx : lineB x = true) (hy : y < 4398046511104) (hr : NeSpec true s x r) : (r.isSome && (r.getD 0 == y)) = nxB s x y := by
 unfold nxB
 rcases ne_step hx hr with ⟨rfl, hn⟩ | ⟨z, rfl, h1, h2, h3, h4⟩
 ·by_cases hxy : x ≤ y
  ·rw [hn y hxy hy]; simp
  ·rw [decide_eq_false hxy]; rfl
 ·show (true && (z == y)) = _
  rw [Bool.true_and]
  by_cases hzy : z = y
  ·subst hzy
   rw [pot_same h h1 h4, h3, decide_eq_true h1]
   simp
  ·rw [show (z == y) = false by simpa using hzy]
   symm
   by_cases hxy : x ≤ y
   ·rcases (by omega : y < z ∨ z < y) with g | g
    ·rw [h4 y hxy g]; simp
    ·have p1 := pot_same h h1 h4
     have p2 := potS_steps h z
     have p3 := (pot_le h (x := z + 1) (y := y) (by omega)).1
     rw [h3] at p2
     simp [b2i] at p2
     rw [show (potS s y == potS s x) = false by simp; omega]
     simp
   ·rw [decide_eq_false hxy]; rfl
theorem ne_ex (s : St) (x : Int) : ∃ r, NeSpec true s x r := by
 unfold NeSpec
 split
 ·exact ⟨_, rfl⟩
 ·split
  ·exact ⟨_, rfl⟩
  ·obtain ⟨q, hq⟩ := next_ex (hasS s) x
   exact ⟨_, q, hq, rfl⟩

set_option maxRecDepth 100000 in
set_option maxHeartbeats 16000000 in
theorem link48_any (vl vR va : Value) (L : List Kv) (R : List Sw) (b : List Sp) (i j : Nat) (w : World) (hL : RdK w vl L) (hR : RdR w vR R) (hb : RdS w va b) (hV : vldM (tks L) (sts R) = true) (hlen : b.length = L.length) (hi : i < L.length) (hj : j < L.length) (hiv : ∀ k, k < L.length → ivB (spAt b k) = true) :
  Calls Tryz.prog 67 #[vl, vR, va, .int .i64 (j : Nat), .int .i64 (i : Nat)] w fun e w' => e = .returned (.bool (lkM (tks L) (sts R) b j i)) ∧ Below w.heap.size w w' := by
 have HVP := Lib.hid (vld_parts hV)
 have HVV := Lib.hid (vld_V hV)
 obtain ⟨al, cl, rfl, _, hcL⟩ := hL
 obtain ⟨hji, bl, ol, rfl, i0, i1, i2, i3, i4⟩ := hcL i hi
 obtain ⟨hjj, bl', ol', eb, j0, j1, j2, j3, j4⟩ := hcL j hj
 cases eb
 obtain ⟨x, hx⟩ : ∃ x, L.getD i kv0 = x := ⟨_, rfl⟩
 obtain ⟨y, hy⟩ : ∃ y, L.getD j kv0 = y := ⟨_, rfl⟩
 rw [hx] at hji i0 i1 i2 i3 i4
 rw [hy] at hjj j0 j1 j2 j3 j4
 have HTI : Hid (tkAt (tks L) i = x.1) := by unfold Hid; rw [tks_at, hx]
 have HTJ : Hid (tkAt (tks L) j = y.1) := by unfold Hid; rw [tks_at, hy]
 obtain ⟨ρ, hρ⟩ : ∃ ρ : Nat, reOf (tks L) i = ρ := ⟨_, rfl⟩
 have hrs := HVV.out.rs i (by rw [tks_length]; exact hi)
 have hρ1 : x.1.rs = (ρ : Int) := by
  rw [← hρ]
  unfold reOf
  rw [HTI.out]
  rw [HTI.out] at hrs
  omega
 have hρ2 : ρ < R.length := by rw [← hρ]; have := hrs.2; rwa [sts_length] at this
 obtain ⟨ax, nx, ex⟩ := hji.form
 rw [ex] at i3 hji
 rw [hρ1] at i2
 obtain ⟨aR, cR, rfl, _, hcR⟩ := hR
 obtain ⟨hr7, br, orr, rfl, p0, p1, p2, p3, p4, p5, p6⟩ := hcR ρ hρ2
 obtain ⟨z, hz⟩ : ∃ z, R.getD ρ sw0 = z := ⟨_, rfl⟩
 rw [hz] at hr7 p0 p1 p2 p3 p4 p5 p6
 obtain ⟨b1, m1, k1⟩ := hr7.1.form
 obtain ⟨b2, m2, k2⟩ := hr7.2.1.form
 obtain ⟨b3, m3, k3⟩ := hr7.2.2.form
 rw [k1] at p1
 rw [k2] at p3
 rw [k3] at p6
 rw [k1, k2, k3] at hr7
 have HSX : Hid (setOf (tks L) (sts R) i = z.1) := by unfold Hid setOf; rw [hρ, sts_at, hz]
 have HVZ : Hid (VB z.1 = true) := by have := HVP.out.1 ρ hρ2; rwa [hz] at this
 obtain ⟨aa, ca, rfl, _, hcs⟩ := hb
 obtain ⟨ga, oa, rfl, sx, _⟩ := hcs i (by omega)
 obtain ⟨ga', oa', ea, _, sy⟩ := hcs j (by omega)
 cases ea
 obtain ⟨fi, hfi⟩ : ∃ t, (b.getD i (0, 0)).1 = t := ⟨_, rfl⟩
 obtain ⟨tj, htj⟩ : ∃ t, (b.getD j (0, 0)).2 = t := ⟨_, rfl⟩
 rw [hfi] at sx
 rw [htj] at sy
 have hI := (ivB_iff _).1 (hiv i hi)
 have hJ := (ivB_iff _).1 (hiv j hj)
 have e1 : (spAt b i).1 = fi := hfi
 have e2 : (spAt b j).2 = tj := htj
 rw [e1] at hI
 rw [e2] at hJ
 obtain ⟨r, hr⟩ := ne_ex z.1 tj
 have HNE := Lib.hid hr
 have HNX : Hid ((r.isSome && (r.getD 0 == fi)) = nxB z.1 tj fi) := nx_of (okS_of_VB HVZ.out).good ((lineB_iff tj).2 ⟨by omega, by omega⟩) (by omega) hr
 have HN : Hid (∀ W, RdSt W z.1 (.slice b1 z.1.lf.2.length m1) (.slice b2 z.1.rt.2.length m2) (.slice b3 z.1.l.length m3) → Calls Tryz.prog 83 #[.agg #[.int .i64 z.1.lf.1, .slice b1 z.1.lf.2.length m1, .int .i64 z.1.rt.1, .slice b2 z.1.rt.2.length m2, .int .i64 z.1.fr, .int .i64 z.1.to, .slice b3 z.1.l.length m3], .int .i64 tj] W fun e w' => e = .returned (.tuple #[.int .i64 (r.getD 0), .bool r.isSome]) ∧ Below W.heap.size W w') := fun W hW => by
  refine (next14_any z.1 _ _ _ tj W hW (okS_of_VB HVZ.out)).mono ?_
  rintro e w' ⟨r', hr', rfl, hb'⟩
  exact ⟨by rw [neSpec_uniq hr' HNE.out], hb'⟩
 obtain ⟨res, hres⟩ : ∃ v, lkM (tks L) (sts R) b j i = v := ⟨_, rfl⟩
 rw [hres]
 have HRES : Hid (((x.1.af.contains (j : Int) || y.1.rs == (ρ : Int)) && (r.isSome && (r.getD 0 == fi))) = res) := by
  unfold Hid
  rw [HNX.out, ← hres]
  unfold lkM
  rw [HTI.out, HTJ.out, HSX.out, e1, e2, hρ1]
 have HHS : Hid (∀ W, RdJ W (.slice ax x.1.af.length nx) x.1.af → Calls Tryz.prog 106 #[.slice ax x.1.af.length nx, .int .i64 (j : Nat)] W fun e w' => e = .returned (.bool (x.1.af.contains (j : Int))) ∧ w' = W) := fun W h => has48_any (.slice ax x.1.af.length nx) x.1.af (j : Nat) W h
 have HJI := Lib.hid hji
 have HR7 := Lib.hid hr7
 have E1 := ext_cell i3
 have E2 := ext_cell j2
 have E3 := ext_cell i2
 have A0 := Lib.hid (And.intro p0 (And.intro p1 (And.intro p2 (And.intro p3 (And.intro p4 (And.intro p5 p6))))))
 have HSC := Lib.hid (And.intro sx sy)
 have HI2 := Lib.hid i2
 have s1 : (i : Int) < (L.length : Int) := by omega
 have s2 : (j : Int) < (L.length : Int) := by omega
 have s3 : (i : Int) < (b.length : Int) := by omega
 have s4 : (j : Int) < (b.length : Int) := by omega
 have s5 : (ρ : Int) < (R.length : Int) := by omega
 obtain ⟨cn, hcn⟩ : ∃ v, x.1.af.contains (j : Int) = v := ⟨_, rfl⟩
 obtain ⟨rq, hrq⟩ : ∃ v, (y.1.rs == (ρ : Int)) = v := ⟨_, rfl⟩
 rw [hcn, hrq] at HRES
 rw [hcn] at HHS
 clear hcn
 have hrn : (y.1.rs != (ρ : Int)) = !rq := by rw [← hrq]; rfl
 clear hV hcL hcR hcs i0 i1 i2 i3 i4 j0 j1 j2 j3 j4 hjj hx hy hρ hρ1 hρ2 hrs ex hz k1 k2 k3 p0 p1 p2 p3 p4 p5 p6 hr7 hji sx sy hfi htj hI hJ e1 e2 hr hres hiv hrq
 go_enter Tryz.func67, Tryz.ntmps67
 cases cn with
 | false =>
  cases rq with
  | false =>
   have hr : res = false := by rw [← HRES.out]; rfl
   subst hr
   go_wp2_with fail
   refine wp_region_ext (by kernel_rfl) (by kernel_rfl) ?_
   iterate 21 (go_big_quiet_step ((go_at_call 106; refine calls_ext_same ((HHS.out _ (ext_rdJ HJI.out _)).mono fun _ _ hh => ⟨hh.1, hh.2.symm⟩))))
   refine wpQuiet_nil ?_
   intro w1 hb1
   go_wp2
   go_ret
   exact ⟨rfl, hb1⟩
  | true =>
   have HRE2 : Hid ((r.isSome && (r.getD 0 == fi)) = res) := HRES.out
   go_wp2_with fail
   refine wp_region_ext (by kernel_rfl) (by kernel_rfl) ?_
   iterate 21 (go_big_quiet_step ((go_at_call 106; refine calls_ext_same ((HHS.out _ (ext_rdJ HJI.out _)).mono fun _ _ hh => ⟨hh.1, hh.2.symm⟩))))
   refine wpQuiet_nil ?_
   intro w1 hb1
   have HB1 := Lib.hid hb1
   have B0 := ext_cell (keepCell hb1 A0.out.1)
   have B1 := ext_cell (keepCell hb1 A0.out.2.1)
   have B2 := ext_cell (keepCell hb1 A0.out.2.2.1)
   have B3 := ext_cell (keepCell hb1 A0.out.2.2.2.1)
   have B4 := ext_cell (keepCell hb1 A0.out.2.2.2.2.1)
   have B5 := ext_cell (keepCell hb1 A0.out.2.2.2.2.2.1)
   have B6 := ext_cell (keepCell hb1 A0.out.2.2.2.2.2.2)
   have E4 := ext_cell (keepCell hb1 HI2.out)
   have E5 := ext_cell (keepCell hb1 HSC.out.2)
   have HR71 := Lib.hid (keepSt hb1 HR7.out)
   have HSC1 := Lib.hid (keepCell hb1 HSC.out.1)
   clear E1 E2 E3 hb1
   go_wp2_with fail
   refine wp_region_ext (by kernel_rfl) (by kernel_rfl) ?_
   iterate 19 (go_big_quiet_step ((go_at_call 83; refine calls_ext (HN.out _ (ext_rst HR71.out _)))))
   refine wpQuiet_nil ?_
   intro w2 hb2
   have HB2 := Lib.hid (keepBelow HB1.out hb2)
   have f1 := keepCell hb2 HSC1.out
   clear hb2 B0 B1 B2 B3 B4 B5 B6 E4 E5
   obtain ⟨si, hsi⟩ : ∃ v, r.isSome = v := ⟨_, rfl⟩
   obtain ⟨sv, hsv⟩ : ∃ v, r.getD 0 = v := ⟨_, rfl⟩
   rw [hsi, hsv] at HRE2
   rw [hsi, hsv]
   clear hsi hsv
   have HRE3 := HRE2.out
   cases si with
   | false =>
    have hr : res = false := by rw [← HRE3]; rfl
    clear HRE3
    subst hr
    go_wp2
    go_ret
    exact ⟨rfl, HB2.out⟩
   | true =>
    have hr : (sv == fi) = res := by rw [← HRE3]; rfl
    clear HRE3
    subst hr
    go_wp2
    go_ret
    exact ⟨rfl, HB2.out⟩
 | true =>
  have HRE2 : Hid ((r.isSome && (r.getD 0 == fi)) = res) := HRES.out
  go_wp2_with fail
  refine wp_region_ext (by kernel_rfl) (by kernel_rfl) ?_
  iterate 21 (go_big_quiet_step ((go_at_call 106; refine calls_ext_same ((HHS.out _ (ext_rdJ HJI.out _)).mono fun _ _ hh => ⟨hh.1, hh.2.symm⟩))))
  refine wpQuiet_nil ?_
  intro w1 hb1
  have HB1 := Lib.hid hb1
  have B0 := ext_cell (keepCell hb1 A0.out.1)
  have B1 := ext_cell (keepCell hb1 A0.out.2.1)
  have B2 := ext_cell (keepCell hb1 A0.out.2.2.1)
  have B3 := ext_cell (keepCell hb1 A0.out.2.2.2.1)
  have B4 := ext_cell (keepCell hb1 A0.out.2.2.2.2.1)
  have B5 := ext_cell (keepCell hb1 A0.out.2.2.2.2.2.1)
  have B6 := ext_cell (keepCell hb1 A0.out.2.2.2.2.2.2)
  have E4 := ext_cell (keepCell hb1 HI2.out)
  have E5 := ext_cell (keepCell hb1 HSC.out.2)
  have HR71 := Lib.hid (keepSt hb1 HR7.out)
  have HSC1 := Lib.hid (keepCell hb1 HSC.out.1)
  clear E1 E2 E3 hb1
  go_wp2_with fail
  refine wp_region_ext (by kernel_rfl) (by kernel_rfl) ?_
  iterate 19 (go_big_quiet_step ((go_at_call 83; refine calls_ext (HN.out _ (ext_rst HR71.out _)))))
  refine wpQuiet_nil ?_
  intro w2 hb2
  have HB2 := Lib.hid (keepBelow HB1.out hb2)
  have f1 := keepCell hb2 HSC1.out
  clear hb2 B0 B1 B2 B3 B4 B5 B6 E4 E5
  obtain ⟨si, hsi⟩ : ∃ v, r.isSome = v := ⟨_, rfl⟩
  obtain ⟨sv, hsv⟩ : ∃ v, r.getD 0 = v := ⟨_, rfl⟩
  rw [hsi, hsv] at HRE2
  rw [hsi, hsv]
  clear hsi hsv
  have HRE3 := HRE2.out
  cases si with
  | false =>
   have hr : res = false := by rw [← HRE3]; rfl
   clear HRE3
   subst hr
   go_wp2
   go_ret
   exact ⟨rfl, HB2.out⟩
  | true =>
   have hr : (sv == fi) = res := by rw [← HRE3]; rfl
   clear HRE3
   subst hr
   go_wp2
   go_ret
   exact ⟨rfl, HB2.out⟩
end Go.Proofs.YtlbjfbpejomkmaaGreat
namespace Go.Proofs.YtlbjfbpejomkmaaGreat
open Go.RowKit Wk Go.Maps

def crA (l : List Tk) (res : List St) (n : Nat) (b : List Sp) : Int × List Nat := if vldM l res = true then (if holdsM l res (-4398046511104) b = true then (0, critL n (lkM l res b) b) else (6, [])) else (1, [])
def vlen : Value → Nat
 | .slice _ n _ => n
 | _ => 0
theorem open_val (s : St) (vl vr vv : Value) (x : Int) (r : Option Int) (w : World) (hw : RdSt w s vl vr vv) (hv : VB s = true) (hl : lineB x = true) (hr : NeSpec true s x r) :
  Calls Tryz.prog 65 #[.agg #[.int .i64 s.lf.1, vl, .int .i64 s.rt.1, vr, .int .i64 s.fr, .int .i64 s.to, vv], .int .i64 x] w fun e w' => e = .returned (.tuple #[.int .i64 (ErrOr r).1, .int .i64 (ErrOr r).2]) ∧ Below w.heap.size w w' := by
 refine (wopen_any s vl vr vv x w hw).mono ?_
 rintro e w' ⟨p, hp, rfl, hb⟩
 rw [hv] at hp
 unfold OpenP at hp
 rw [if_neg (by rw [fault_ok rfl hl]; simp)] at hp
 obtain ⟨r', hr', rfl⟩ := hp
 rw [neSpec_uniq hr' hr]
 exact ⟨rfl, hb⟩
theorem vlen_own {w : World} {B : Nat} {v : Value} {L : List Int} (h : OwnI w B v L) : vlen v = L.length := by
 obtain ⟨a, c, rfl, -⟩ := h.form
 rfl
theorem crit_len (n : Nat) (lk : Nat → Nat → Bool) (b : List Sp) : (critL n lk b).length ≤ n := numK_le _ n
theorem holds_iv {l : List Tk} {res : List St} {b : List Sp} (h : holdsM l res (-4398046511104) b = true) : b.length = l.length ∧ ∀ k, k < l.length → ivB (spAt b k) = true := by
 unfold holdsM at h
 simp only [Bool.and_eq_true, decide_eq_true_eq, List.all_eq_true, List.mem_range] at h
 exact ⟨h.1, fun k hk => (hB_iff.1 (h.2 k hk)).1⟩

set_option maxRecDepth 100000 in
set_option maxHeartbeats 32000000 in
theorem critical_any (vl vR va : Value) (L : List Kv) (R : List Sw) (b : List Sp) (w : World) (hL : RdK w vl L) (hR : RdR w vR R) (hb : RdS w va b) (hcap : CapK vl) :
  Calls Tryz.prog 33 #[vl, vR, va] w (CfPost (crA (tks L) (sts R) L.length b) w) := by
 have hmm := @run_makeMap Tryz.prog
 have HV := Lib.hid (agvalid_any vl vR L R w hL hR)
 have HHO : Hid (vldM (tks L) (sts R) = true → ∀ W, RdK W vl L → RdR W vR R → RdS W va b → Calls Tryz.prog 53 #[vl, vR, va] W fun e w' => e = .returned (.bool (holdsM (tks L) (sts R) (-4398046511104) b)) ∧ Below W.heap.size W w') := fun hv W h1 h2 h3 => holds_any vl vR va L R b W h1 h2 h3 hv hcap
 have HL := Lib.hid hL
 have HR := Lib.hid hR
 have HS := Lib.hid hb
 obtain ⟨v, hv⟩ : ∃ v, vldM (tks L) (sts R) = v := ⟨_, rfl⟩
 rw [hv] at HV
 have HVL := Lib.hid hv
 obtain ⟨ho, hho⟩ : ∃ v, holdsM (tks L) (sts R) (-4398046511104) b = v := ⟨_, rfl⟩
 rw [hho] at HHO
 have HHL := Lib.hid hho
 obtain ⟨al, cl, rfl⟩ := hL.form
 obtain ⟨aR, cR, rfl⟩ := hR.form
 obtain ⟨aa, ca, rfl⟩ := hb.form
 clear hL hR hb hcap hv hho
 go_enter Tryz.func33, Tryz.ntmps33
 go_wp2_with fail
 refine HV.out.mono ?_
 rintro e w1 ⟨rfl, hb1⟩
 have HB1 := Lib.hid hb1
 have HL1 := Lib.hid (HL.out.below hb1)
 have HR1 := Lib.hid (HR.out.below hb1)
 have HS1 := Lib.hid (keepRd hb1 HS.out)
 clear hb1 HV
 cases v with
 | false =>
  go_wp2
  go_ret2
  unfold crA
  rw [if_neg (by rw [HVL.out]; exact Bool.false_ne_true)]
  exact ⟨_, rfl, OwnI.nil _ _, HB1.out⟩
 | true =>
 go_wp2_with fail
 refine (HHO.out HVL.out _ HL1.out HR1.out HS1.out).mono ?_
 rintro e w2 ⟨rfl, hb2⟩
 have HB2 := Lib.hid (keepBelow HB1.out hb2)
 have HS2 := Lib.hid (keepRd hb2 HS1.out)
 clear hb2 HHO
 cases ho with
 | false =>
  go_wp2
  go_ret2
  unfold crA
  rw [if_pos HVL.out, if_neg (by rw [HHL.out]; exact Bool.false_ne_true)]
  exact ⟨_, rfl, OwnI.nil _ _, HB2.out⟩
 | true =>
 have HCA : Hid (crA (tks L) (sts R) L.length b = (0, critL L.length (lkM (tks L) (sts R) b) b)) := by unfold Hid crA; rw [if_pos HVL.out, if_pos HHL.out]
 have hiv0 := holds_iv HHL.out
 rw [tks_length] at hiv0
 have HNE := Lib.hid hiv0.1
 have HIV := Lib.hid hiv0.2
 have HN : Hid (L.length ≤ 24) := (vld_parts HVL.out).2.2.1
 clear hiv0
 go_wp2_with fail
 go_loopw [8, 33] (fun u v wr => ∃ k : Nat, k ≤ b.length ∧ v = .int .i64 k ∧ u = .int .i64 (lastK b k) ∧ Below w.heap.size w wr) (fun _ v _ => b.length - (intOf v).toNat)
 case atStart => exact ⟨0, Nat.zero_le _, rfl, rfl, HB2.out⟩
 case round =>
  obtain ⟨k, hk, rfl, rfl, hB⟩ := hrel
  have HB := Lib.hid hB
  have sN : (b.length : Int) ≤ 24 := by have := HN.out; have := HNE.out; omega
  by_cases hlt : k < b.length
  ·obtain ⟨aa', ca', ea, _, hc⟩ := keepRd hB HS.out
   cases ea
   obtain ⟨bb, oo, rfl, c1, c2⟩ := hc k hlt
   obtain ⟨s, hs⟩ : ∃ t, (b.getD k (0, 0)).1 = t := ⟨_, rfl⟩
   obtain ⟨t, ht⟩ : ∃ t, (b.getD k (0, 0)).2 = t := ⟨_, rfl⟩
   rw [hs] at c1
   rw [ht] at c2
   have HLS : Hid (lastK b (k + 1) = max (lastK b k) t) := by unfold Hid; rw [← ht]; rfl
   obtain ⟨la, hla⟩ : ∃ t, lastK b k = t := ⟨_, rfl⟩
   rw [hla] at HLS ⊢
   obtain ⟨O, hO⟩ : ∃ O, (Obj.cells #[.int .i64 s, .int .i64 t] 46) = O := ⟨_, rfl⟩
   have HBX : Hid (Below w.heap.size w (wr.alloc O)) := hB.alloc hB.size O
   have t1 : (wr.alloc O).cell? ⟨wr.heap.size, 1, none⟩ = some (.int .i64 t) := by rw [← hO]; simp [go_sem]
   go_upto_region 9 with fail
   try rw [hO]
   obtain ⟨X, hX⟩ : ∃ X, wr.alloc O = X := ⟨_, rfl⟩
   rw [hX] at t1 HBX ⊢
   clear hc hs ht hla hB hX hO c1 c2
   go_wp2
   go_roundw
   case rel => exact ⟨k + 1, by omega, by go_num, by rw [HLS.out], HBX.out⟩
   case measure => simp [intOf]; omega
  ·have hkl : k = L.length := by have := HNE.out; omega
   subst hkl
   obtain ⟨la, hla⟩ : ∃ t, lastK b L.length = t := ⟨_, rfl⟩
   rw [hla]
   have HLA := Lib.hid hla
   obtain ⟨W0, hW0⟩ : ∃ W0, wr.alloc (.map #[] 0) = W0 := ⟨_, rfl⟩
   obtain ⟨bm, hbm⟩ : ∃ bm, wr.heap.size = bm := ⟨_, rfl⟩
   have hsz0 : W0.heap.size = bm + 1 := by rw [← hW0, ← hbm]; simp
   have hCr : CrW w (bm + 1) bm (.slice none 0 0) (.slice none 0 0) [] [] 0 (fun _ => false) W0 := by
    refine ⟨QueI.nil _ _, OwnI.nil _ _, (fun g h => by simp [Value.ownBlock] at h), ?_, ?_, ?_⟩
    ·rw [← hW0, ← hbm]
     exact ⟨_, World.ownsMap_made _ _ _ _, KeysF.nil⟩
    ·rw [← hW0]
     exact HB.out.alloc HB.out.size _
    ·have := HB.out.size; omega
   have HCR := Lib.hid hCr
   clear hla hCr hB hsz0
   go_upto_region 12 with fail
   try rw [hW0]
   try rw [hbm]
   clear hW0 hbm
   go_wp2_with fail
   go_loopw [12, 45] (fun u v wr => ∃ (k : Nat) (seen : Nat → Bool), k ≤ b.length ∧ v = .int .i64 k ∧ Hid (CrW w (bm + 1) bm u (.slice none 0 0) [] (keptL k fun i => (spAt b i).2 == la) (keptL k fun i => (spAt b i).2 == la).length seen wr) ∧ Hid (∀ x, seen x = true ↔ x ∈ keptL k fun i => (spAt b i).2 == la)) (fun _ v _ => b.length - (intOf v).toNat)
   case atStart => exact ⟨0, fun _ => false, Nat.zero_le _, rfl, HCR.out, fun x => by simp [keptL]⟩
   case round =>
    obtain ⟨k, seen, hk, rfl, HC, HSE⟩ := hrel
    have hB := HC.out.below
    by_cases hlt : k < b.length
    ·obtain ⟨aa', ca', ea, _, hc⟩ := keepRd hB HS.out
     cases ea
     obtain ⟨bb, oo, rfl, c1, c2⟩ := hc k hlt
     obtain ⟨s, hs⟩ : ∃ t, (b.getD k (0, 0)).1 = t := ⟨_, rfl⟩
     obtain ⟨t, ht⟩ : ∃ t, (b.getD k (0, 0)).2 = t := ⟨_, rfl⟩
     rw [hs] at c1
     rw [ht] at c2
     have HKS : Hid (keptL (k + 1) (fun i => (spAt b i).2 == la) = keptL k (fun i => (spAt b i).2 == la) ++ if (t == la) = true then [k] else []) := by unfold Hid; rw [kept_succ, ← ht]; rfl
     obtain ⟨q, hq⟩ : ∃ q, keptL k (fun i => (spAt b i).2 == la) = q := ⟨_, rfl⟩
     rw [hq] at HKS HC HSE
     have HQL : Hid (q.length ≤ k) := by unfold Hid; rw [← hq]; exact numK_le _ k
     have HQN : Hid (k ∉ q) := by unfold Hid; rw [← hq]; intro h; have := (kept_mem.1 h).1; omega
     have sb24 : (b.length : Int) ≤ 24 := by have := HN.out; have := HNE.out; omega
     obtain ⟨O, hO⟩ : ∃ O, (Obj.cells #[.int .i64 s, .int .i64 t] 46) = O := ⟨_, rfl⟩
     have HCX := Lib.hid (HC.out.keep ((Below.refl _ wr).alloc (Nat.le_refl _) O))
     have t1 : (wr.alloc O).cell? ⟨wr.heap.size, 1, none⟩ = some (.int .i64 t) := by rw [← hO]; simp [go_sem]
     go_upto_region 16 with fail
     try rw [hO]
     obtain ⟨X, hX⟩ : ∃ X, wr.alloc O = X := ⟨_, rfl⟩
     rw [hX] at t1 HCX ⊢
     clear hc hs ht hB hX hO c1 c2 hq
     by_cases hta : t = la
     ·have g1 : (t == la) = true := by simpa using hta
      rw [g1, if_pos rfl] at HKS
      obtain ⟨D, hown, hkf⟩ := HCX.out.map
      clear hta hown hkf
      go_wp2_with (first
       | (at_builtin; refine wpList_app_que (B := bm + 1) rfl (.tmp 56) (.tmp 58) rfl rfl HCX.out.que HCX.out.sz.2.2 rfl (by simp) (by rw [natI_length]; have := HQL.out; omega) ?_; intro v2 w2 q2 g2 l2; have HC2 := Lib.hid (HCX.out.app q2 g2 l2).2; clear q2 g2 l2; obtain ⟨D2, hown2, hkf2⟩ := HC2.out.map; have HO2 := Lib.hid hown2; have HK2 := Lib.hid hkf2; clear hown2 hkf2)
       | (at_mapUpdate; refine wpList_mapUpdate_own _ rfl _ _ _ 89 rfl 3 4 lawI Tryz.underlying89 _ bm q.length D2 rfl HO2.out (by unfold maxLen; have := HQL.out; omega) _ _ _ rfl rfl (keyOf_int_mk Tryz.underlying3 (a := (k : Nat)) (wfNat (by omega))) _ [] (plainElem_bool Tryz.underlying4 true) ?_; intro Z own8 hgr8; have HC3 := Lib.hid (HC2.out.put ⟨_, own8, HK2.out.put k⟩ hgr8); clear own8 hgr8)
       | fail)
      go_roundw
      case rel =>
       refine ⟨k + 1, updK seen k true, by omega, by go_num, ?_, fun x => ?_⟩
       ·rw [HKS.out, List.length_append, List.length_singleton]
        exact HC3.out
       ·rw [HKS.out, List.mem_append, List.mem_singleton]
        unfold updK
        by_cases e : x = k
        ·simp [e]
        ·simp [e, HSE.out x]
      case measure => simp [intOf]; omega
     ·have g1 : (t == la) = false := by simpa using hta
      rw [g1, if_neg Bool.false_ne_true, List.append_nil] at HKS
      clear hta
      go_wp2
      go_roundw
      case rel => exact ⟨k + 1, seen, by omega, by go_num, by rw [HKS.out]; exact HCX.out, by rw [HKS.out]; exact HSE.out⟩
      case measure => simp [intOf]; omega
    ·have hkl : k = L.length := by have := HNE.out; omega
     subst hkl
     obtain ⟨lk, hlk⟩ : ∃ lk, lkM (tks L) (sts R) b = lk := ⟨_, rfl⟩
     have HLKE := Lib.hid hlk
     have hbs := bfs_start (n := L.length) (lk := lk) (init := fun i => (spAt b i).2 == la) HSE.out
     have HBS := Lib.hid hbs
     have HC0 : Hid (CrW w (bm + 1) bm u12 (.slice none 0 0) [] (keptL L.length fun i => (spAt b i).2 == la) (([] : List Nat).length + (keptL L.length fun i => (spAt b i).2 == la).length) seen wr) := by
      unfold Hid
      rw [List.length_nil, Nat.zero_add]
      exact HC.out
     clear hB hlk hbs HC
     go_wp2_with fail
     go_loopw [12, 13] (fun u v wr => ∃ (out q : List Nat) (seen : Nat → Bool) (i0 : Nat), Hid (BfsK L.length lk (fun i => (spAt b i).2 == la) out q seen i0 L.length) ∧ Hid (CrW w (bm + 1) bm u v out q (out.length + q.length) seen wr) ∧ Hid (vlen v = out.length)) (fun _ v _ => L.length - vlen v)
     case atStart => exact ⟨[], _, seen, 0, HBS.out, HC0.out, rfl⟩
     case round =>
      obtain ⟨out, q, seen, i0, HBF, HCW, HVL2⟩ := hrel
      cases q with
      | nil =>
       have hqf : u12 = .slice none 0 0 ∨ ∃ a c, u12 = .slice a 0 c := by
        obtain ⟨a, c, e, -⟩ := HCW.out.que.form
        exact Or.inr ⟨a, c, e⟩
       obtain ⟨a12, c12, rfl⟩ : ∃ a c, u12 = .slice a 0 c := by
        obtain ⟨a, c, e, -⟩ := HCW.out.que.form
        exact ⟨a, c, e⟩
       have hof := HCW.out.own.form
       obtain ⟨a13, c13, rfl, -⟩ := hof
       have HSO := Lib.hid (sort_own _ (natI out) w wr (HCW.out.own.mono (by have := HCW.out.sz; omega)) HCW.out.below (by rw [natI_length]; have := bfs_len HBF.out; have := HN.out; omega))
       have HSE2 : Hid (sortI (natI out) = natI (critL L.length lk b)) := by
        have h := HBF.out
        rw [← HLA.out] at h
        exact bfs_end h
       clear hqf
       go_wp2_with fail
       refine HSO.out.mono ?_
       rintro e w5 ⟨rfl, o5, b5⟩
       rw [HSE2.out] at o5
       have HO5 := Lib.hid o5
       have HB5 := Lib.hid b5
       clear o5 b5
       go_wp2
       go_ret2
       rw [HCA.out, HLKE.out]
       exact ⟨_, rfl, HO5.out, HB5.out⟩
      | cons i q =>
       obtain ⟨a12, c, e12, hc1, -, -, hqc⟩ := HCW.out.que.form
       rw [natI_length, List.length_cons] at e12 hc1
       obtain ⟨g, o, cur, rfl, -, -, hcell⟩ := hqc (by omega)
       subst e12
       have hc0 := hcell 0 (by rw [natI_length, List.length_cons]; omega)
       have hc0 : wr.cell? ⟨g, o, none⟩ = some (.int .i64 (i : Nat)) := by rw [Nat.add_zero] at hc0; exact hc0
       have HIL : Hid (i < L.length) := HBF.out.lt i (by simp)
       have HLEN : Hid (out.length + q.length + 1 ≤ L.length) := by have := bfs_len HBF.out; rw [List.length_cons] at this; unfold Hid; omega
       have HBP := Lib.hid (bfs_pop HBF.out)
       obtain ⟨a13, c13, rfl, -⟩ := HCW.out.own.form
       have s24 : (L.length : Int) ≤ 24 := by have := HN.out; omega
       have sq : (q.length : Int) ≤ 24 := by have := HN.out; have := HLEN.out; omega
       have HCQ : Hid (CrW w (bm + 1) bm (.slice (some ⟨g, o, none⟩) (q.length + 1) c) (.slice a13 (natI out).length c13) out (i :: q) (out.length + (i :: q).length) seen wr) := HCW.out
       clear hqc hcell
       go_upto_region 21 with fail
       go_cut [12, 13] from 67 to 72 (fun p r wx => Hid (CrW w (bm + 1) bm p r (out ++ [i]) q (out.length + (i :: q).length) seen wx) ∧ Hid (vlen r = (out ++ [i]).length))
       case first =>
        have hBd : Below wr.heap.size wr wr.drew := (Below.refl _ _).drew
        have hod := HCQ.out.own.below hBd
        have hsz : bm + 1 ≤ wr.drew.heap.size := Nat.le_trans HCQ.out.sz.2.2 hBd.size
        have hl3 : (natI out).length < 1000000000000 := by rw [natI_length]; have := HLEN.out; have := HN.out; omega
        have sb : (1 : Int) ≤ (q.length : Int) + 1 := by omega
        have hcs : c = 1 ∨ ∃ c', c = c' + 2 := by
         by_cases h : c = 1
         ·exact Or.inl h
         ·exact Or.inr ⟨c - 2, by omega⟩
        rcases hcs with rfl | ⟨c', rfl⟩
        ·have HPOP : Hid (∀ v2 w2, OwnI w2 (bm + 1) v2 (natI out ++ [(i : Int)]) → (wr.drew.alloc (.cells #[.int .i64 (i : Nat)] 3)).grownBy w2 (Value.slice a13 (natI out).length c13).ownBlock → (∀ k, v2.ownBlock = some k → (Value.slice a13 (natI out).length c13).ownBlock = some k ∨ k = wr.drew.heap.size + 1) → CrW w (bm + 1) bm (.slice (some ⟨g, o, none⟩) q.length 0) v2 (out ++ [i]) q (out.length + (i :: q).length) seen w2) := fun v2 w2 h1 h2 h3 => by simpa using HCQ.out.pop hBd h1 h2 h3
         go_region_law (refine step_app_out rfl (.tmp 69) (.tmp 71) rfl rfl hod hsz rfl (by simp) hl3 ?_; intro v1 w3 o1 g1 l1)
         all_goals (go_wp2_with fail; go_meet)
         all_goals (refine ⟨?_, ?_⟩)
         ·have h := HPOP.out _ _ o1 g1 l1
          rw [show q.length = 0 by omega] at h
          exact h
         ·unfold Hid
          rw [vlen_own o1]
          simp [natI_length]
        ·have HPOP : Hid (∀ v2 w2, OwnI w2 (bm + 1) v2 (natI out ++ [(i : Int)]) → (wr.drew.alloc (.cells #[.int .i64 (i : Nat)] 3)).grownBy w2 (Value.slice a13 (natI out).length c13).ownBlock → (∀ k, v2.ownBlock = some k → (Value.slice a13 (natI out).length c13).ownBlock = some k ∨ k = wr.drew.heap.size + 1) → CrW w (bm + 1) bm (.slice (some ⟨g, o + 1, none⟩) q.length (c' + 1)) v2 (out ++ [i]) q (out.length + (i :: q).length) seen w2) := fun v2 w2 h1 h2 h3 => by simpa using HCQ.out.pop hBd h1 h2 h3
         go_region_law (refine step_app_out rfl (.tmp 69) (.tmp 71) rfl rfl hod hsz rfl (by simp) hl3 ?_; intro v1 w3 o1 g1 l1)
         all_goals (go_wp2_with fail; go_meet)
         all_goals (refine ⟨HPOP.out _ _ o1 g1 l1, ?_⟩)
         all_goals (unfold Hid; rw [vlen_own o1]; simp [natI_length])
       case rest =>
       obtain ⟨HCW2, HVL3⟩ := hcut
       have HCW3 : Hid (CrW w (bm + 1) bm u12 u13 (out ++ [i]) q ((out ++ [i]).length + q.length) seen wc) := by
        have h := HCW2.out
        rw [show out.length + (i :: q).length = (out ++ [i]).length + q.length by simp; omega] at h
        exact h
       have HVP := Lib.hid (vld_parts HVL.out)
       have HVV := Lib.hid (vld_V HVL.out)
       obtain ⟨al', cl', ea, _, hcL⟩ := HL.out
       cases ea
       obtain ⟨hji, bl, ol, rfl, i0', i1, i2, i3, i4⟩ := hcL i HIL.out
       have HCL := Lib.hid hcL
       obtain ⟨x, hx⟩ : ∃ x, L.getD i kv0 = x := ⟨_, rfl⟩
       rw [hx] at hji i0' i1 i2 i3 i4
       have HTI : Hid (tkAt (tks L) i = x.1) := by unfold Hid; rw [tks_at, hx]
       obtain ⟨ρ, hρ⟩ : ∃ ρ : Nat, reOf (tks L) i = ρ := ⟨_, rfl⟩
       have hrs := HVV.out.rs i (by rw [tks_length]; exact HIL.out)
       have hρ1 : x.1.rs = (ρ : Int) := by
        rw [← hρ]
        unfold reOf
        rw [HTI.out]
        rw [HTI.out] at hrs
        omega
       have hρ2 : ρ < R.length := by rw [← hρ]; have := hrs.2; rwa [sts_length] at this
       obtain ⟨ax, nx, ex⟩ := hji.form
       rw [ex] at i3 hji
       rw [hρ1] at i2
       obtain ⟨aR', cR', eR, _, hcR⟩ := HR.out
       cases eR
       obtain ⟨hr7, br, orr, rfl, p0, p1, p2, p3, p4, p5, p6⟩ := hcR ρ hρ2
       obtain ⟨z, hz⟩ : ∃ z, R.getD ρ sw0 = z := ⟨_, rfl⟩
       rw [hz] at hr7 p0 p1 p2 p3 p4 p5 p6
       obtain ⟨b1, m1, k1⟩ := hr7.1.form
       obtain ⟨b2, m2, k2⟩ := hr7.2.1.form
       obtain ⟨b3, m3, k3⟩ := hr7.2.2.form
       rw [k1] at p1
       rw [k2] at p3
       rw [k3] at p6
       rw [k1, k2, k3] at hr7
       have HSX : Hid (Wk.setOf (tks L) (sts R) i = z.1) := by unfold Hid Wk.setOf; rw [hρ, sts_at, hz]
       have HVZ : Hid (VB z.1 = true) := by have := HVP.out.1 ρ hρ2; rwa [hz] at this
       obtain ⟨aa', ca', eS, _, hcs⟩ := HS.out
       cases eS
       obtain ⟨ga, oa, rfl, sx, _⟩ := hcs i (by have := HNE.out; have := HIL.out; omega)
       obtain ⟨fi, hfi⟩ : ∃ t, (b.getD i (0, 0)).1 = t := ⟨_, rfl⟩
       rw [hfi] at sx
       have hI := (ivB_iff _).1 (HIV.out i HIL.out)
       have e1 : (spAt b i).1 = fi := hfi
       rw [e1] at hI
       have HFI := Lib.hid (And.intro e1 hI)
       have HCS := Lib.hid hcs
       have HJI := Lib.hid hji
       have HR7 := Lib.hid hr7
       have HSXX := Lib.hid sx
       have HI23 := Lib.hid (And.intro i2 i3)
       have A0 := Lib.hid (And.intro p0 (And.intro p1 (And.intro p2 (And.intro p3 (And.intro p4 (And.intro p5 p6))))))
       have HLK1 : Hid (∀ j, lk j i = ((x.1.af.contains (j : Int) || (tkAt (tks L) j).rs == (ρ : Int)) && nxB z.1 (spAt b j).2 fi)) := fun j => by
        rw [← HLKE.out]
        unfold lkM
        rw [HTI.out, HSX.out, hρ1, e1]
       have HRHO := Lib.hid hρ2
       clear hcL i0' i1 i2 i3 i4 hx hρ hρ1 hρ2 hrs ex hcR hz k1 k2 k3 p0 p1 p2 p3 p4 p5 p6 hr7 hji hcs sx hfi hI e1
       go_wp2_with fail
       go_loopw [12, 75] (fun u v wr => ∃ (j : Nat) (q : List Nat) (seen : Nat → Bool), j ≤ L.length ∧ v = .int .i64 j ∧ Hid (BfsK L.length lk (fun i => (spAt b i).2 == la) (out ++ [i]) q seen i j) ∧ Hid (CrW w (bm + 1) bm u u13 (out ++ [i]) q ((out ++ [i]).length + q.length) seen wr)) (fun _ v _ => L.length - (intOf v).toNat)
       case atStart => exact ⟨0, q, seen, Nat.zero_le _, rfl, HBP.out, HCW3.out⟩
       case round =>
        obtain ⟨j, q, seen, hj, rfl, HBF2, HC⟩ := hrel
        by_cases hlt : j < L.length
        ·have hB := HC.out.below
         obtain ⟨hjj, bl', ol', eb, j0, j1, j2, j3, j4⟩ := HCL.out j hlt
         cases eb
         obtain ⟨y, hy⟩ : ∃ y, L.getD j kv0 = y := ⟨_, rfl⟩
         rw [hy] at hjj j0 j1 j2 j3 j4
         have HTJ : Hid (tkAt (tks L) j = y.1) := by unfold Hid; rw [tks_at, hy]
         obtain ⟨ga', oa', ea, _, sy⟩ := HCS.out j (by have := HNE.out; omega)
         cases ea
         obtain ⟨tj, htj⟩ : ∃ t, (b.getD j (0, 0)).2 = t := ⟨_, rfl⟩
         rw [htj] at sy
         have hJ := (ivB_iff _).1 (HIV.out j hlt)
         have e2 : (spAt b j).2 = tj := htj
         rw [e2] at hJ
         have hlk := HLK1.out j
         rw [HTJ.out, e2] at hlk
         obtain ⟨r, hr⟩ := ne_ex z.1 tj
         have hnx : (r.isSome && (r.getD 0 == fi)) = nxB z.1 tj fi := nx_of (okS_of_VB HVZ.out).good ((lineB_iff tj).2 ⟨by omega, by omega⟩) (by have := HFI.out.2; omega) hr
         have HOP : Hid (∀ W, RdSt W z.1 (.slice b1 z.1.lf.2.length m1) (.slice b2 z.1.rt.2.length m2) (.slice b3 z.1.l.length m3) → Calls Tryz.prog 65 #[.agg #[.int .i64 z.1.lf.1, .slice b1 z.1.lf.2.length m1, .int .i64 z.1.rt.1, .slice b2 z.1.rt.2.length m2, .int .i64 z.1.fr, .int .i64 z.1.to, .slice b3 z.1.l.length m3], .int .i64 tj] W fun e w' => e = .returned (.tuple #[.int .i64 (ErrOr r).1, .int .i64 (ErrOr r).2]) ∧ Below W.heap.size W w') := fun W hW => open_val z.1 _ _ _ tj r W hW HVZ.out ((lineB_iff tj).2 ⟨by omega, by omega⟩) hr
         rw [← hnx] at hlk
         obtain ⟨cn, hcn⟩ : ∃ v, x.1.af.contains (j : Int) = v := ⟨_, rfl⟩
         obtain ⟨rq, hrq⟩ : ∃ v, (y.1.rs == (ρ : Int)) = v := ⟨_, rfl⟩
         rw [hcn, hrq] at hlk
         have HLKV := Lib.hid hlk
         have hrn : ((ρ : Int) != y.1.rs) = !rq := by rw [← hrq, Bool.beq_comm]; rfl
         have HCN : Hid (∀ W, RdJ W (.slice ax x.1.af.length nx) x.1.af → Calls Tryz.prog 64 #[.slice ax x.1.af.length nx, .int .i64 (j : Nat)] W fun e w' => e = .returned (.bool cn) ∧ Below W.heap.size W w') := fun W hW => by
          rw [← hcn, List.contains_eq_mem]
          exact conJ_any _ _ _ W hW
         obtain ⟨sj, hsj⟩ : ∃ v, seen j = v := ⟨_, rfl⟩
         have hrun : ∀ X : Ext wr, (Instr.lookup 89 (.map (some bm)) (.int .i64 (j : Nat)) false).run Tryz.prog (extOf wr X) = .ok (.bool sj) (extOf wr X) := fun X => by
          rw [← hsj]
          exact ((HC.out.keep (extOf_below wr X)).map).look (by have := HN.out; omega)
         have HSJ := Lib.hid hsj
         have E1 := ext_cell (keepCell hB HI23.out.2)
         have E2 := ext_cell (keepCell hB j2)
         have E3 := ext_cell (keepCell hB HI23.out.1)
         have HSY2 := Lib.hid sy
         have s1 : (i : Int) < (L.length : Int) := by have := HIL.out; omega
         have s2 : (j : Int) < (L.length : Int) := by omega
         have s3 : (i : Int) < (b.length : Int) := by have := HNE.out; have := HIL.out; omega
         have s4 : (j : Int) < (b.length : Int) := by have := HNE.out; omega
         have s5 : (ρ : Int) < (R.length : Int) := by have := HRHO.out; omega
         have HLTJ := Lib.hid hlt
         clear hcn hrq hjj j0 j1 j2 j3 j4 hy sy htj hJ e2 hlk hr hnx hsj hB hj hlt
         cases sj with
         | true =>
          go_wp2_with fail
          refine wp_region_ext (by kernel_rfl) (by kernel_rfl) ?_
          iterate 26 (go_big_quiet_step (fail))
          refine wpQuiet_nil ?_
          intro w5 hb5
          have HC5 := Lib.hid (HC.out.keep hb5)
          clear hb5 hrun E1 E2 E3
          go_wp2
          go_roundw
          case rel => exact ⟨j + 1, q, seen, HLTJ.out, by go_num, bfs_no HBF2.out (Or.inl HSJ.out), HC5.out⟩
          case measure => have := HLTJ.out; simp [intOf]; omega
         | false =>
          have HLKV2 : Hid (lk j i = ((cn || rq) && (r.isSome && (r.getD 0 == fi)))) := HLKV.out
          go_upto_region 25 with fail
          go_cut [103] from 78 to 103 (fun u wx => u = .bool (!(cn || rq)) ∧ Below wr.heap.size wr wx)
          case first =>
           have HJW := Lib.hid (HJI.out.below HC.out.below)
           cases cn with
           | false =>
            cases rq with
            | false =>
             refine wp_region_ext (by kernel_rfl) (by kernel_rfl) ?_
             iterate 26 (go_big_quiet_step ((go_at_call 64; refine calls_ext (HCN.out _ (ext_rdJ HJW.out _)))))
             refine wpQuiet_nil ?_
             intro w5 hb5
             go_wp2_with fail
             go_meet
             exact ⟨rfl, hb5⟩
            | true =>
             refine wp_region_ext (by kernel_rfl) (by kernel_rfl) ?_
             iterate 26 (go_big_quiet_step ((go_at_call 64; refine calls_ext (HCN.out _ (ext_rdJ HJW.out _)))))
             refine wpQuiet_nil ?_
             intro w5 hb5
             go_wp2_with fail
             go_meet
             exact ⟨rfl, hb5⟩
           | true =>
            refine wp_region_ext (by kernel_rfl) (by kernel_rfl) ?_
            iterate 26 (go_big_quiet_step ((go_at_call 64; refine calls_ext (HCN.out _ (ext_rdJ HJW.out _)))))
            refine wpQuiet_nil ?_
            intro w5 hb5
            go_wp2_with fail
            go_meet
            exact ⟨rfl, hb5⟩
          case rest =>
          obtain ⟨rfl, hb5⟩ := hcut
          have HC5 := Lib.hid (HC.out.keep hb5)
          clear hb5 hrun E1 E2 E3 hrn HCN HLKV
          obtain ⟨cr, hcr⟩ : ∃ v, (cn || rq) = v := ⟨_, rfl⟩
          rw [hcr] at HLKV2 ⊢
          clear hcr
          cases cr with
          | false =>
           have HLN : Hid (lk j i = false) := by unfold Hid; rw [HLKV2.out]; rfl
           go_wp2
           go_roundw
           case rel => exact ⟨j + 1, q, seen, HLTJ.out, by go_num, bfs_no HBF2.out (Or.inr HLN.out), HC5.out⟩
           case measure => have := HLTJ.out; simp [intOf]; omega
          | true =>
          have hB5 := HC5.out.below
          have HRE2 : Hid (lk j i = (r.isSome && (r.getD 0 == fi))) := HLKV2.out
          have B0 := ext_cell (keepCell hB5 A0.out.1)
          have B1 := ext_cell (keepCell hB5 A0.out.2.1)
          have B2 := ext_cell (keepCell hB5 A0.out.2.2.1)
          have B3 := ext_cell (keepCell hB5 A0.out.2.2.2.1)
          have B4 := ext_cell (keepCell hB5 A0.out.2.2.2.2.1)
          have B5 := ext_cell (keepCell hB5 A0.out.2.2.2.2.2.1)
          have B6 := ext_cell (keepCell hB5 A0.out.2.2.2.2.2.2)
          have E4 := ext_cell (keepCell hB5 HI23.out.1)
          have E5 := ext_cell (keepCell hB5 HSY2.out)
          have HR71 := Lib.hid (keepSt hB5 HR7.out)
          clear hB5
          go_wp2_with fail
          refine wp_region_ext (by kernel_rfl) (by kernel_rfl) ?_
          iterate 19 (go_big_quiet_step ((go_at_call 65; refine calls_ext (HOP.out _ (ext_rst HR71.out _)))))
          refine wpQuiet_nil ?_
          intro w6 hb6
          have HC6 := Lib.hid (HC5.out.keep hb6)
          have f1 := keepCell HC6.out.below HSXX.out
          clear hb6 B0 B1 B2 B3 B4 B5 B6 E4 E5
          cases r with
          | none =>
           have HLN : Hid (lk j i = false) := by unfold Hid; rw [HRE2.out]; rfl
           have er : ErrOr none = (0, 7) := rfl
           rw [er]
           clear er
           go_wp2
           go_roundw
           case rel => exact ⟨j + 1, q, seen, HLTJ.out, by go_num, bfs_no HBF2.out (Or.inr HLN.out), HC6.out⟩
           case measure => have := HLTJ.out; simp [intOf]; omega
          | some ny =>
           have er : ErrOr (some ny) = (ny, 0) := rfl
           rw [er]
           clear er
           have hre : lk j i = (ny == fi) := by rw [HRE2.out]; rfl
           obtain ⟨lv, hlv⟩ : ∃ v, (ny == fi) = v := ⟨_, rfl⟩
           rw [hlv] at hre
           have HLV := Lib.hid hre
           clear hre
           cases lv with
           | false =>
            go_wp2
            go_roundw
            case rel => exact ⟨j + 1, q, seen, HLTJ.out, by go_num, bfs_no HBF2.out (Or.inr HLV.out), HC6.out⟩
            case measure => have := HLTJ.out; simp [intOf]; omega
           | true =>
            have HQL : Hid (q.length ≤ L.length ∧ (out ++ [i]).length + q.length ≤ L.length) := by have := bfs_len HBF2.out; unfold Hid; omega
            have HBY := Lib.hid (bfs_yes HBF2.out (by simp) HLTJ.out HSJ.out HLV.out)
            obtain ⟨mm, hmm'⟩ : ∃ mm, (out ++ [i]).length + q.length = mm := ⟨_, rfl⟩
            rw [hmm'] at HC6 HQL
            have HMM := Lib.hid hmm'
            clear hmm'
            go_wp2_with (first
             | (at_builtin; refine wpList_app_que (B := bm + 1) rfl (.tmp 134) (.tmp 136) rfl rfl HC6.out.que HC6.out.sz.2.2 rfl (by simp) (by rw [natI_length]; have := HQL.out; have := HN.out; omega) ?_; intro v2 w2' q2 g2 l2; have HC7 := Lib.hid (HC6.out.app q2 g2 l2).2; clear q2 g2 l2; obtain ⟨D2, hown2, hkf2⟩ := HC7.out.map; have HO2 := Lib.hid hown2; have HK2 := Lib.hid hkf2; clear hown2 hkf2)
             | (at_mapUpdate; refine wpList_mapUpdate_own _ rfl _ _ _ 89 rfl 3 4 lawI Tryz.underlying89 _ bm mm D2 rfl HO2.out (by unfold maxLen; have := HQL.out; have := HN.out; omega) _ _ _ rfl rfl (keyOf_int_mk Tryz.underlying3 (a := (j : Nat)) (wfNat (by have := HLTJ.out; have := HN.out; omega))) _ [] (plainElem_bool Tryz.underlying4 true) ?_; intro Z own8 hgr8; have HC8 := Lib.hid (HC7.out.put ⟨_, own8, HK2.out.put j⟩ hgr8); clear own8 hgr8)
             | fail)
            go_roundw
            case rel =>
             refine ⟨j + 1, q ++ [j], updK seen j true, HLTJ.out, by go_num, HBY.out, ?_⟩
             rw [show (out ++ [i]).length + (q ++ [j]).length = mm + 1 by rw [← HMM.out]; simp; omega]
             exact HC8.out
            case measure => have := HLTJ.out; simp [intOf]; omega
        ·have hje : j = L.length := by omega
         subst hje
         have HBE := Lib.hid HBF2.out
         go_wp2
         go_roundw
         case rel => exact ⟨out ++ [i], q, seen, i, HBE.out, HC.out, HVL3.out⟩
         case measure => have h1 := HVL3.out; have h2 := HLEN.out; rw [h1]; simp [vlen, natI_length]; omega
end Go.Proofs.YtlbjfbpejomkmaaGreat
namespace Go.Proofs.YtlbjfbpejomkmaaGreat
open Go.RowKit Wk

set_option maxRecDepth 100000 in
set_option maxHeartbeats 16000000 in
theorem crit48_any (vl vR va : Value) (L : List Kv) (R : List Sw) (b : List Sp) (w : World) (hL : RdK w vl L) (hR : RdR w vR R) (hb : RdS w va b) (hV : vldM (tks L) (sts R) = true) (hlen : b.length = L.length) (hiv : ∀ k, k < L.length → ivB (spAt b k) = true) :
  Calls Tryz.prog 34 #[vl, vR, va] w (LtPost (critL L.length (lkM (tks L) (sts R) b) b) w) := by
 have HLK := Lib.hid (fun i j W h1 h2 h3 hi hj => link48_any vl vR va L R b i j W h1 h2 h3 hV hlen hi hj hiv)
 have HL := Lib.hid hL
 have HR := Lib.hid hR
 have HS := Lib.hid hb
 have HNE := Lib.hid hlen
 have HN : Hid (L.length ≤ 24) := (vld_parts hV).2.2.1
 obtain ⟨lk, hlk⟩ : ∃ lk, lkM (tks L) (sts R) b = lk := ⟨_, rfl⟩
 rw [hlk] at HLK
 rw [hlk]
 obtain ⟨al, cl, rfl⟩ := hL.form
 obtain ⟨aR, cR, rfl⟩ := hR.form
 obtain ⟨aa, ca, rfl⟩ := hb.form
 obtain ⟨i0, hi, hz0, hz1, hz2⟩ := info_parts Tryz.infoBool
 have HI := Lib.hid (And.intro hi (And.intro hz0 (And.intro hz1 hz2)))
 clear hi hz0 hz1 hz2 hL hR hb hV hlen hiv hlk
 go_enter Tryz.func34, Tryz.ntmps34
 go_wp2_with fail
 go_loopw [7, 8] (fun u v wr => ∃ k : Nat, k ≤ L.length ∧ v = .int .i64 k ∧ u = .int .i64 (lastK b k) ∧ Below w.heap.size w wr) (fun _ v _ => L.length - (intOf v).toNat)
 case atStart => exact ⟨0, Nat.zero_le _, rfl, rfl, Below.refl _ _⟩
 case round =>
  obtain ⟨k, hk, rfl, rfl, hB⟩ := hrel
  have HB := Lib.hid hB
  have sN : (b.length : Int) ≤ 24 := by have := HN.out; have := HNE.out; omega
  by_cases hlt : k < b.length
  ·obtain ⟨aa', ca', ea, _, hc⟩ := keepRd hB HS.out
   cases ea
   obtain ⟨bb, oo, rfl, _, c2⟩ := hc k hlt
   obtain ⟨t, ht⟩ : ∃ t, (b.getD k (0, 0)).2 = t := ⟨_, rfl⟩
   rw [ht] at c2
   have HLS : Hid (lastK b (k + 1) = max (lastK b k) t) := by unfold Hid; rw [← ht]; rfl
   obtain ⟨la, hla⟩ : ∃ t, lastK b k = t := ⟨_, rfl⟩
   rw [hla] at HLS ⊢
   have HKL : Hid (k + 1 ≤ L.length) := by unfold Hid; have := HNE.out; omega
   clear hc ht hla hB
   by_cases hgt : la < t
   ·have g1 : decide (la < t) = true := by simpa using hgt
    have HM : Hid (max la t = t) := by unfold Hid; omega
    clear hgt
    go_wp2
    go_roundw
    case rel => exact ⟨k + 1, HKL.out, by go_num, by rw [HLS.out, HM.out], HB.out⟩
    case measure => have := HKL.out; simp [intOf]; omega
   ·have g1 : decide (la < t) = false := by simpa using hgt
    have HM : Hid (max la t = la) := by unfold Hid; omega
    clear hgt
    go_wp2
    go_roundw
    case rel => exact ⟨k + 1, HKL.out, by go_num, by rw [HLS.out, HM.out], HB.out⟩
    case measure => have := HKL.out; simp [intOf]; omega
  ·have hkl : k = L.length := by have := HNE.out; omega
   subst hkl
   obtain ⟨la, hla⟩ : ∃ t, lastK b L.length = t := ⟨_, rfl⟩
   rw [hla]
   have HLA := Lib.hid hla
   clear hla hB
   go_wp2_with (first | ((with_reducible show wpList _ _ _ _ _ _); refine wpList_make_full _ rfl (.tmp 35) (.tmp 35) 79 rfl wr.heap.size 4 i0 (.bool false) 1 Tryz.underlying79 HI.out.1 HI.out.2.1 HI.out.2.2.1 .i64 .i64 _ _ L.length rfl rfl rfl rfl (by rw [HI.out.2.2.2]; have := HN.out; omega) (by unfold maxLen; have := HN.out; omega) (Nat.le_refl _) ?_; intro w3 hown hgr) | fail)
   have hb3 : Below wr.heap.size wr w3 := (Below.refl _ wr).grown hgr (Nat.le_refl _) (fun k hk => by cases hk)
   obtain ⟨hz, hrow⟩ := rowV_zeroB hown
   have HB3 := Lib.hid (keepBelow HB.out hb3)
   have hsw := HB.out.size
   obtain ⟨gk, hgk⟩ : ∃ g, wr.heap.size = g := ⟨_, rfl⟩
   rw [hgk] at hz hrow
   have HGK : Hid (w.heap.size ≤ gk ∧ gk < w3.heap.size) := ⟨by omega, hz⟩
   have HR0 := Lib.hid hrow
   try rw [hgk]
   clear hown hgr hb3 hz hrow HI hgk hsw
   go_wp2_with fail
   go_loopw [10] (fun v wr => ∃ k : Nat, k ≤ L.length ∧ v = .int .i64 k ∧ RowV wr gk L.length (fun i => .bool (decide (i < k) && ((spAt b i).2 == la))) ∧ Below w.heap.size w wr) (fun v _ => L.length - (intOf v).toNat)
   case atStart => exact ⟨0, Nat.zero_le _, rfl, HR0.out.congr fun i hi => by simp, HB3.out⟩
   case round =>
    obtain ⟨k, hk, rfl, hrow, hB⟩ := hrel
    by_cases hlt : k < L.length
    ·have sk24 : (k : Int) ≤ 24 := by have := HN.out; omega
     obtain ⟨aa', ca', ea, _, hc⟩ := keepRd hB HS.out
     cases ea
     obtain ⟨bb, oo, rfl, _, c2⟩ := hc k (by have := HNE.out; omega)
     obtain ⟨t, ht⟩ : ∃ t, (b.getD k (0, 0)).2 = t := ⟨_, rfl⟩
     rw [ht] at c2
     have s1 : (k : Int) < (b.length : Int) := by have := HNE.out; omega
     have hkc := (hrow k hlt).1
     have hkf := (hrow k hlt).2
     have HRW : Hid (RowV (wr.setCell ⟨gk, k, none⟩ (.bool (t == la))) gk L.length fun i => .bool (decide (i < k + 1) && ((spAt b i).2 == la))) := (hrow.set hlt _).congr fun i hi => by
      by_cases e : i = k
      ·subst e
       have e2 : (spAt b i).2 = t := ht
       rw [if_pos rfl, e2]
       simp
      ·rw [if_neg e]
       have : decide (i < k + 1) = decide (i < k) := by rw [decide_eq_decide]; omega
       rw [this]
     have HBW : Hid (Below w.heap.size w (wr.setCell ⟨gk, k, none⟩ (.bool (t == la)))) := hB.setCell (p := ⟨gk, k, none⟩) HGK.out.1 _
     clear hrow hB hc ht
     go_wp2
     go_roundw
     case rel => exact ⟨k + 1, by omega, by go_num, HRW.out, HBW.out⟩
     case measure => simp [intOf]; omega
    ·have hkl : k = L.length := by omega
     subst hkl
     have HRW : Hid (RowV wr gk L.length fun i => .bool (dAt (initM L.length b) i)) := hrow.congr fun i hi => by rw [initM_at b hi, HLA.out]; simp [hi]
     have HB4 := Lib.hid hB
     clear hrow hB
     obtain ⟨tot, htot⟩ : ∃ t, roundsK L.length lk L.length (initM L.length b) = t := ⟨_, rfl⟩
     have HT := Lib.hid htot
     clear htot
     go_wp2_with fail
     go_loopw [11] (fun v wr => ∃ (k : Nat) (m : List Bool), k ≤ L.length ∧ v = .int .i64 k ∧ RowV wr gk L.length (fun i => .bool (dAt m i)) ∧ Hid (m.length = L.length) ∧ Hid (roundsK L.length lk (L.length - k) m = tot) ∧ Below w.heap.size w wr) (fun v _ => L.length - (intOf v).toNat)
     case atStart => exact ⟨0, _, Nat.zero_le _, rfl, HRW.out, initM_len _ _, HT.out, HB4.out⟩
     case round =>
      obtain ⟨k, m, hk, rfl, hrow, HML, HMT, hB⟩ := hrel
      by_cases hlt : k < L.length
      ·have sk24 : (k : Int) ≤ 24 := by have := HN.out; omega
       obtain ⟨M, hM⟩ : ∃ M, foldK (opsK L.length lk) m = M := ⟨_, rfl⟩
       have HMK : Hid (roundsK L.length lk (L.length - (k + 1)) M = tot) := by
        unfold Hid
        rw [← HMT.out, show L.length - k = (L.length - (k + 1)) + 1 by omega, ← hM]
        rfl
       have HM0 : Hid (foldK (iO L.length lk 0) m = M) := by unfold Hid; rw [iO_zero]; exact hM
       have HRr := Lib.hid hrow
       have HBr := Lib.hid hB
       clear hM hrow hB
       go_wp2_with fail
       go_loopw [12] (fun v wr => ∃ (i : Nat) (m : List Bool), i ≤ L.length ∧ v = .int .i64 i ∧ RowV wr gk L.length (fun i => .bool (dAt m i)) ∧ Hid (m.length = L.length) ∧ Hid (foldK (iO L.length lk i) m = M) ∧ Below w.heap.size w wr) (fun v _ => L.length - (intOf v).toNat)
       case atStart => exact ⟨0, _, Nat.zero_le _, rfl, HRr.out, HML.out, HM0.out, HBr.out⟩
       case round =>
        obtain ⟨i, m1, hi, rfl, hrow, HML1, HMI, hB⟩ := hrel
        by_cases hlti : i < L.length
        ·have si24 : (i : Int) ≤ 24 := by have := HN.out; omega
         have HMJ : Hid (foldK (restO L.length lk i 0) m1 = M) := by unfold Hid; rw [← iO_step lk hlti]; exact HMI.out
         have HRr1 := Lib.hid hrow
         have HBr1 := Lib.hid hB
         clear hrow hB
         go_wp2_with fail
         go_loopw [13] (fun v wr => ∃ (j : Nat) (m : List Bool), j ≤ L.length ∧ v = .int .i64 j ∧ RowV wr gk L.length (fun i => .bool (dAt m i)) ∧ Hid (m.length = L.length) ∧ Hid (foldK (restO L.length lk i j) m = M) ∧ Below w.heap.size w wr) (fun v _ => L.length - (intOf v).toNat)
         case atStart => exact ⟨0, _, Nat.zero_le _, rfl, HRr1.out, HML1.out, HMJ.out, HBr1.out⟩
         case round =>
          obtain ⟨j, m2, hj, rfl, hrow, HML2, HMJ2, hB⟩ := hrel
          by_cases hltj : j < L.length
          ·have sj24 : (j : Int) ≤ 24 := by have := HN.out; omega
           have hic0 := (hrow i hlti).1
           obtain ⟨di, hdi⟩ : ∃ v, dAt m2 i = v := ⟨_, rfl⟩
           have hic : wr.cell? ⟨gk, i, none⟩ = some (.bool di) := by rw [← hdi]; exact hic0
           have HSP : Hid (foldK (restO L.length lk i (j + 1)) (stepK lk i j m2) = M) := by unfold Hid; rw [← restO_step lk i hltj]; exact HMJ2.out
           have HSL : Hid ((stepK lk i j m2).length = L.length) := by unfold Hid; rw [stepK_len]; exact HML2.out
           have HSK : Hid (stepK lk i j m2 = if (di && (j != i && lk j i)) = true then m2.set j true else m2) := by unfold Hid stepK; rw [hdi]
           have HR2 := Lib.hid hrow
           have HB2 := Lib.hid hB
           have HLJ := Lib.hid (HLK.out i j)
           have HLT := Lib.hid (And.intro hlti hltj)
           clear hic0 hdi hrow hB
           cases di with
           | false =>
            have HS2 : Hid (stepK lk i j m2 = m2) := by unfold Hid; rw [HSK.out]; rfl
            go_wp2
            go_roundw
            case rel => exact ⟨j + 1, m2, HLT.out.2, by go_num, HR2.out, HML2.out, by (have := HSP.out; rw [HS2.out] at this; exact this), HB2.out⟩
            case measure => have := HLT.out; simp [intOf]; omega
           | true =>
           by_cases hji : j = i
           ·have HS2 : Hid (stepK lk i j m2 = m2) := by unfold Hid; rw [HSK.out, hji]; simp
            subst hji
            go_wp2
            go_roundw
            case rel => exact ⟨j + 1, m2, HLT.out.2, by go_num, HR2.out, HML2.out, by (have := HSP.out; rw [HS2.out] at this; exact this), HB2.out⟩
            case measure => have := HLT.out; simp [intOf]; omega
           ·have g1 : ((j : Int) != (i : Int)) = true := by simp; omega
            have g1' : (j != i) = true := by simpa using hji
            have HS2 : Hid (stepK lk i j m2 = if lk j i = true then m2.set j true else m2) := by unfold Hid; rw [HSK.out, g1']; simp
            have HLL := Lib.hid (HLJ.out wr (HL.out.below HB2.out) (HR.out.below HB2.out) (keepRd HB2.out HS.out) HLT.out.1 HLT.out.2)
            obtain ⟨lv, hlv⟩ : ∃ v, lk j i = v := ⟨_, rfl⟩
            rw [hlv] at HLL HS2
            clear hji hlv g1'
            go_wp2_with fail
            refine HLL.out.mono ?_
            rintro e w5 ⟨rfl, hb5⟩
            have HB5 := Lib.hid (keepBelow HB2.out hb5)
            have HR5 := Lib.hid (HR2.out.below hb5)
            clear hb5 hic
            cases lv with
            | false =>
             have HS3 : Hid (stepK lk i j m2 = m2) := by unfold Hid; rw [HS2.out]; rfl
             go_wp2
             go_roundw
             case rel => exact ⟨j + 1, m2, HLT.out.2, by go_num, HR5.out, HML2.out, by (have := HSP.out; rw [HS3.out] at this; exact this), HB5.out⟩
             case measure => have := HLT.out; simp [intOf]; omega
            | true =>
             have HS3 : Hid (stepK lk i j m2 = m2.set j true) := by unfold Hid; rw [HS2.out]; rfl
             have hjc := (HR5.out j hltj).1
             have hjf := (HR5.out j hltj).2
             have HR6 : Hid (RowV (w5.setCell ⟨gk, j, none⟩ (.bool true)) gk L.length fun i => .bool (dAt (m2.set j true) i)) := (HR5.out.set hltj _).congr fun i hi => by
              rw [dAt_set (by rw [HML2.out]; exact hltj)]
              split <;> rfl
             have HB6 : Hid (Below w.heap.size w (w5.setCell ⟨gk, j, none⟩ (.bool true))) := HB5.out.setCell (p := ⟨gk, j, none⟩) HGK.out.1 _
             go_wp2
             go_roundw
             case rel => exact ⟨j + 1, m2.set j true, HLT.out.2, by go_num, HR6.out, by (unfold Hid; rw [List.length_set]; exact HML2.out), by (have := HSP.out; rw [HS3.out] at this; exact this), HB6.out⟩
             case measure => have := HLT.out; simp [intOf]; omega
          ·have hjl : j = L.length := by omega
           subst hjl
           have HRE := Lib.hid hrow
           have HBE := Lib.hid hB
           have HME : Hid (foldK (iO L.length lk (i + 1)) m2 = M) := by unfold Hid; rw [← restO_end]; exact HMJ2.out
           clear hrow hB
           go_wp2
           go_roundw
           case rel => exact ⟨i + 1, m2, by omega, by go_num, HRE.out, HML2.out, HME.out, HBE.out⟩
           case measure => simp [intOf]; omega
        ·have hil : i = L.length := by omega
         subst hil
         have HRE := Lib.hid hrow
         have HBE := Lib.hid hB
         have HME : Hid (m1 = M) := by have := HMI.out; rw [iO_end] at this; exact this
         clear hrow hB
         go_wp2
         go_roundw
         case rel => exact ⟨k + 1, m1, by omega, by go_num, HRE.out, HML1.out, by (unfold Hid; rw [HME.out]; exact HMK.out), HBE.out⟩
         case measure => simp [intOf]; omega
      ·have hkl : k = L.length := by omega
       subst hkl
       have HCE : Hid (critL L.length lk b = keptL L.length (dAt m)) := by
        have h := HMT.out
        rw [Nat.sub_self] at h
        have h : m = tot := h
        unfold Hid critL
        rw [HT.out, h]
       have HR7 := Lib.hid hrow
       have HB7 := Lib.hid hB
       obtain ⟨w7, hw7⟩ : ∃ X, wr = X := ⟨_, rfl⟩
       rw [hw7] at HR7 HB7 ⊢
       clear hrow hB hw7
       go_wp2_with fail
       go_loopw [14, 15] (fun u i wr => ∃ k : Nat, k ≤ L.length ∧ i = .int .i64 k ∧ OwnI wr w7.heap.size u (natI (keptL k (dAt m))) ∧ Below w7.heap.size w7 wr) (fun _ i _ => L.length - (intOf i).toNat)
       case atStart => exact ⟨0, Nat.zero_le _, rfl, OwnI.nil _ _, Below.refl _ _⟩
       case round =>
        obtain ⟨k, hk, rfl, ho, hB⟩ := hrel
        by_cases hlt : k < L.length
        ·have sk24 : (k : Int) ≤ 24 := by have := HN.out; omega
         have hkc0 := (HR7.out.below hB k hlt).1
         obtain ⟨kk, hkk⟩ : ∃ b, dAt m k = b := ⟨_, rfl⟩
         have hkc : wr.cell? ⟨gk, k, none⟩ = some (.bool kk) := by rw [← hkk]; exact hkc0
         have HKS := Lib.hid (kept_succ k (dAt m))
         rw [hkk] at HKS
         have HKL := Lib.hid (keptI_len k (dAt m))
         have HO := Lib.hid ho
         have HB8 := Lib.hid hB
         clear hkk hkc0 ho hB
         cases kk with
         | false =>
          go_wp2
          go_roundw
          case rel => exact ⟨k + 1, by omega, by go_num, by rw [HKS.out]; simpa using HO.out, HB8.out⟩
          case measure => simp [intOf]; omega
         | true =>
          go_wp2_with (at_builtin; refine wpList_app_int rfl (.tmp 101) (.tmp 103) rfl rfl HO.out HB8.out rfl (by simp) (by have := HKL.out; have := HN.out; omega) ?_; intro v2 w2 o2 b2 k2 z2; clear k2 z2)
          go_roundw
          case rel => exact ⟨k + 1, by omega, by go_num, by rw [HKS.out, if_pos rfl, natI_append]; exact o2, b2⟩
          case measure => simp [intOf]; omega
        ·have hkl : k = L.length := by omega
         subst hkl
         have HO := Lib.hid (ho.mono (B' := w.heap.size) HB7.out.size)
         have HB8 := Lib.hid (HB7.out.trans (hB.mono HB7.out.size))
         obtain ⟨au, cu, rfl, -⟩ := ho.form
         clear ho hB
         go_wp2
         go_ret
         exact ⟨_, rfl, by rw [HCE.out]; exact HO.out, HB8.out⟩
end Go.Proofs.YtlbjfbpejomkmaaGreat
namespace Go.Proofs.YtlbjfbpejomkmaaGreat
open Go.RowKit Wk

set_option maxRecDepth 100000 in
set_option maxHeartbeats 16000000 in
theorem law_AgendaCritical (vl vR va : Value) (L : List Kv) (R : List Sw) (b : List Sp) (w : World) (hL : RdK w vl L) (hR : RdR w vR R) (hS : RdS w va b) (hcap : CapK vl) :
  Calls Tryz.prog 10 #[vl, vR, va] w fun e w' => e = .returned (.bool true) ∧ Below w.heap.size w w' := by
 have HA := Lib.hid (fun W => awake48_any W)
 have HG := Lib.hid (fun W h h' => great_any vl vR L R W h h')
 have HCR := Lib.hid (fun W h1 h2 h3 => critical_any vl vR va L R b W h1 h2 h3 hcap)
 have HRV := Lib.hid (fun W h h' => rvalid48_any vl vR L R W h h')
 have HRH := Lib.hid (fun W h1 h2 h3 h4 h5 => rholds_any vl vR va (-4398046511104) L R b W h1 h2 h3 h4 h5)
 have HRC := Lib.hid (fun W h1 h2 h3 h4 h5 h6 => crit48_any vl vR va L R b W h1 h2 h3 h4 h5 h6)
 have HEQ := Lib.hid (fun v1 v2 l W h h' => iseqJ_any v1 v2 l W h h')
 have HL := Lib.hid hL
 have HR := Lib.hid hR
 have HS := Lib.hid hS
 obtain ⟨p, hp⟩ : ∃ p, crA (tks L) (sts R) L.length b = p := ⟨_, rfl⟩
 rw [hp] at HCR
 have HP := Lib.hid hp
 obtain ⟨al, cl, rfl⟩ := hL.form
 obtain ⟨aR, cR, rfl⟩ := hR.form
 obtain ⟨aa, ca, rfl⟩ := hS.form
 clear hL hR hS hcap hp
 go_enter Tryz.func10, Tryz.ntmps10
 go_wp2_with fail
 refine (HA.out _).mono ?_
 rintro e w1 ⟨rfl, hb1⟩
 have HL1 := Lib.hid (HL.out.below hb1)
 have HR1 := Lib.hid (HR.out.below hb1)
 have HS1 := Lib.hid (keepRd hb1 HS.out)
 have HB1 := Lib.hid hb1
 clear hb1
 go_wp2_with fail
 refine (HG.out _ HL1.out HR1.out).mono ?_
 rintro e w2 ⟨g, rfl, hgl, hb2⟩
 have HL2 := Lib.hid (HL1.out.below hb2)
 have HR2 := Lib.hid (HR1.out.below hb2)
 have HS2 := Lib.hid (keepRd hb2 HS1.out)
 have HB2 := Lib.hid (keepBelow HB1.out hb2)
 have HGL := Lib.hid hgl
 clear hb2 hgl
 cases g with
 | true =>
  go_wp2
  go_ret
  exact ⟨rfl, HB2.out⟩
 | false =>
 have HLP : Hid (p.2.length ≤ 24) := by
  unfold Hid
  have h7 := (HGL.out rfl).1
  have := HP.out
  unfold crA at this
  split at this
  ·split at this
   ·rw [← this]; have := crit_len L.length (lkM (tks L) (sts R) b) b; show (critL L.length (lkM (tks L) (sts R) b) b).length ≤ 24; omega
   ·rw [← this]; simp
  ·rw [← this]; simp
 go_wp2_with fail
 refine (HCR.out _ HL2.out HR2.out HS2.out).mono ?_
 rintro e w3 ⟨x, rfl, hx, hb3⟩
 have hx := hx.rdJ (by rw [natI_length]; have := HLP.out; omega)
 have HL3 := Lib.hid (HL2.out.below hb3)
 have HR3 := Lib.hid (HR2.out.below hb3)
 have HS3 := Lib.hid (keepRd hb3 HS2.out)
 have HB3 := Lib.hid (keepBelow HB2.out hb3)
 have HX3 := Lib.hid hx
 obtain ⟨ax, cx, rfl⟩ := hx.form
 clear hx hb3
 go_wp2_with fail
 refine (HRV.out _ HL3.out HR3.out).mono ?_
 rintro e w4 ⟨rfl, hb4⟩
 have HL4 := Lib.hid (HL3.out.below hb4)
 have HR4 := Lib.hid (HR3.out.below hb4)
 have HS4 := Lib.hid (keepRd hb4 HS3.out)
 have HB4 := Lib.hid (keepBelow HB3.out hb4)
 have HX4 := Lib.hid (HX3.out.below hb4)
 clear hb4
 obtain ⟨v, hv⟩ : ∃ v, vldM (tks L) (sts R) = v := ⟨_, rfl⟩
 rw [hv]
 have HV := Lib.hid hv
 clear hv
 cases v with
 | false =>
  have hp : p = (1, []) := by rw [← HP.out]; unfold crA; rw [if_neg (by rw [HV.out]; exact Bool.false_ne_true)]
  subst hp
  go_wp2
  go_ret
  exact ⟨rfl, HB4.out⟩
 | true =>
 by_cases hne : b.length = L.length
 ·have g1 : (b.length != L.length) = false := by simpa using hne
  have g1' : ((b.length : Int) != (L.length : Int)) = false := by simp; omega
  have HNE := Lib.hid hne
  obtain ⟨hm, hhm⟩ : ∃ v, holdsM (tks L) (sts R) (-4398046511104) b = v := ⟨_, rfl⟩
  have HM := Lib.hid hhm
  clear hne hhm
  go_wp2_with fail
  refine (HRH.out _ HL4.out HR4.out HS4.out HV.out HNE.out).mono ?_
  rintro e w5 ⟨rfl, hb5⟩
  rw [HM.out]
  have HL5 := Lib.hid (HL4.out.below hb5)
  have HR5 := Lib.hid (HR4.out.below hb5)
  have HS5 := Lib.hid (keepRd hb5 HS4.out)
  have HB5 := Lib.hid (keepBelow HB4.out hb5)
  have HX5 := Lib.hid (HX4.out.below hb5)
  clear hb5 g1 g1'
  cases hm with
  | false =>
   have hp : p = (6, []) := by rw [← HP.out]; unfold crA; rw [if_pos HV.out, if_neg (by rw [HM.out]; exact Bool.false_ne_true)]
   subst hp
   go_wp2
   go_ret
   exact ⟨rfl, HB5.out⟩
  | true =>
   have hp : p = (0, critL L.length (lkM (tks L) (sts R) b) b) := by rw [← HP.out]; unfold crA; rw [if_pos HV.out, if_pos HM.out]
   subst hp
   have hiv := (holds_iv HM.out).2
   rw [tks_length] at hiv
   have HRC2 := Lib.hid (HRC.out _ HL5.out HR5.out HS5.out HV.out HNE.out hiv)
   obtain ⟨cr, hcr⟩ : ∃ c, critL L.length (lkM (tks L) (sts R) b) b = c := ⟨_, rfl⟩
   have HX6 := HX5
   rw [hcr] at HRC2 HLP HX6 ⊢
   clear hiv hcr
   go_wp2_with fail
   refine HRC2.out.mono ?_
   rintro e w6 ⟨y, rfl, hy, hb6⟩
   have hy := hy.rdJ (by rw [natI_length]; have h : cr.length ≤ 24 := HLP.out; omega)
   have HB6 := Lib.hid (keepBelow HB5.out hb6)
   have HX7 := Lib.hid (HX6.out.below hb6)
   have HY7 := Lib.hid hy
   obtain ⟨ay, cy, rfl⟩ := hy.form
   clear hy hb6
   go_wp2_with fail
   refine (HEQ.out _ _ _ _ HX7.out HY7.out).mono ?_
   rintro e w7 ⟨rfl, hb7⟩
   have HB7 := Lib.hid (keepBelow HB6.out hb7)
   clear hb7
   go_wp2
   go_ret
   exact ⟨by first | rfl | simp, HB7.out⟩
 ·have g1 : (b.length != L.length) = true := by simpa using hne
  have g1' : ((b.length : Int) != (L.length : Int)) = true := by simp; omega
  have hp : p = (6, []) := by
   rw [← HP.out]
   unfold crA
   rw [if_pos HV.out, if_neg]
   intro h
   have := (holds_iv h).1
   rw [tks_length] at this
   exact hne this
  subst hp
  clear hne
  go_wp2
  go_ret
  exact ⟨rfl, HB4.out⟩
end Go.Proofs.YtlbjfbpejomkmaaGreat
