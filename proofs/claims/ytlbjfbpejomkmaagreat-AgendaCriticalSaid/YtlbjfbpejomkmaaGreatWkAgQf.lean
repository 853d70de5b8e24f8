import Derived.Test.YtlbjfbpejomkmaaGreatWkAgQc
import Derived.Test.YtlbjfbpejomkmaaGreatWkAgQa
import Derived.Test.YtlbjfbpejomkmaaGreatWkVal
import Derived.Test.YtlbjfbpejomkmaaGreatWkAgQd
import Derived.Test.YtlbjfbpejomkmaaGreatWkAgPl
import Derived.Test.YtlbjfbpejomkmaaGreatWkAgQe
/- Agenda: resources that are not valid sets. -/
namespace Go.Proofs.YtlbjfbpejomkmaaGreat
open Go.RowKit Wk

set_option maxRecDepth 100000 in
set_option maxHeartbeats 2000000 in
theorem valid1_any (s : St) (vl vr vv : Value) (w : World) (h : RdSt w s vl vr vv) :
  Calls Tryz.prog 43 #[.agg #[.int .i64 s.lf.1, vl, .int .i64 s.rt.1, vr, .int .i64 s.fr, .int .i64 s.to, vv]] w fun e w' => e = .returned (.bool (!VB s)) ∧ Below w.heap.size w w' := by
 have HV := Lib.hid (fun W h => tvalid_any s vl vr vv W h)
 generalize VB s = vb at *
 have HR0 := Lib.hid h
 obtain ⟨a1, n1, rfl⟩ := h.1.form
 obtain ⟨a2, n2, rfl⟩ := h.2.1.form
 obtain ⟨a3, n3, rfl⟩ := h.2.2.form
 clear h
 obtain ⟨W, hWe⟩ : ∃ W, w.alloc (.cells #[.int .i64 s.lf.1, .slice a1 s.lf.2.length n1, .int .i64 s.rt.1, .slice a2 s.rt.2.length n2, .int .i64 s.fr, .int .i64 s.to, .slice a3 s.l.length n3] 54) = W := ⟨_, rfl⟩
 have hW : Below w.heap.size w W := by rw [← hWe]; exact (Below.refl _ w).alloc (Nat.le_refl _) _
 have HX : Hid (Set7 W w.heap.size (.int .i64 s.lf.1) (.slice a1 s.lf.2.length n1) (.int .i64 s.rt.1) (.slice a2 s.rt.2.length n2) (.int .i64 s.fr) (.int .i64 s.to) (.slice a3 s.l.length n3)) := by
  rw [← hWe]
  refine ⟨⟨?_, ?_, ?_, ?_, ?_, ?_, ?_⟩, ?_, ?_, ?_, ?_, ?_, ?_, ?_⟩ <;> simp [go_sem]
 have HR := Lib.hid (keepSt hW HR0.out)
 have HE := Lib.hid hWe
 have HB := Lib.hid hW
 clear hWe HR0 hW
 go_enter Tryz.func43, Tryz.ntmps43
 go_upto_region 1 with fail
 rw [HE.out]
 clear HE
 obtain ⟨⟨B0, B1, B2, B3, B4, B5, B6⟩, -⟩ := HX.out
 go_wp2_with fail
 refine (HV.out _ HR.out).mono ?_
 rintro e w1 ⟨rfl, hb1⟩
 have HB1 := Lib.hid (keepBelow HB.out hb1)
 clear hb1 B0 B1 B2 B3 B4 B5 B6 HX
 go_wp2
 go_ret
 exact ⟨rfl, HB1.out⟩

set_option maxRecDepth 100000 in
set_option maxHeartbeats 2000000 in
theorem idx_valid (f : Sw → Bool) (v : Value) (L : List (Sw)) (w : World) (h : RdR w v L) (HF : Hid (∀ x, x ∈ L → ∀ W, Below w.heap.size w W → Calls Tryz.prog 43 #[.agg #[.int .i64 x.1.lf.1, x.2.1, .int .i64 x.1.rt.1, x.2.2.1, .int .i64 x.1.fr, .int .i64 x.1.to, x.2.2.2]] W fun e w' => e = .returned (.bool (f x)) ∧ Below W.heap.size W w')) :
  Calls Tryz.prog 69 #[v, .func (.func 43) #[] #[]] w fun e w' => (∃ r : Int, e = .returned (.int .i64 r) ∧ (decide (0 ≤ r) = L.any f)) ∧ Below w.heap.size w w' := by
 obtain ⟨a, c, rfl, hl, hc⟩ := h
 have HC := Lib.hid hc
 clear hc
 go_enter Tryz.func69, Tryz.ntmps69
 go_wp2_with fail
 go_loopw [8] (fun u wr => ∃ k : Nat, u = .int .i64 k ∧ k ≤ L.length ∧ Hid (∀ i, i < k → f (L.getD i sw0) = false) ∧ Below w.heap.size w wr) (fun u _ => L.length - (intOf u).toNat)
 case atStart => exact ⟨0, rfl, Nat.zero_le _, fun i hi => by omega, Below.refl _ _⟩
 case round =>
  obtain ⟨k, rfl, hk, HZ, hB⟩ := hrel
  by_cases hlt : k < L.length
  ·have hm : L.getD k sw0 ∈ L := getD_in hlt
   obtain ⟨hr, b, o, rfl, q0, q1, q2, q3, q4, q5, q6⟩ := HC.out k hlt
   obtain ⟨x, hx⟩ : ∃ x, L.getD k sw0 = x := ⟨_, rfl⟩
   have HX := HF.out _ hm wr hB
   rw [hx] at HX hr q0 q1 q2 q3 q4 q5 q6
   obtain ⟨a1, n1, e1⟩ := hr.1.form
   obtain ⟨a2, n2, e2⟩ := hr.2.1.form
   obtain ⟨a3, n3, e3⟩ := hr.2.2.form
   have p0 := keepCell hB q0
   have p1 := keepCell hB q1
   have p2 := keepCell hB q2
   have p3 := keepCell hB q3
   have p4 := keepCell hB q4
   have p5 := keepCell hB q5
   have p6 := keepCell hB q6
   rw [e1] at p1 HX
   rw [e2] at p3 HX
   rw [e3] at p6 HX
   clear e1 e2 e3
   have HXE := Lib.hid hx
   clear hx hm hr q0 q1 q2 q3 q4 q5 q6
   obtain ⟨g, hg⟩ : ∃ g, f x = g := ⟨_, rfl⟩
   rw [hg] at HX
   have HG := Lib.hid hg
   have HH := Lib.hid HX
   clear hg HX
   go_wp2_with fail
   refine HH.out.mono ?_
   rintro e w1 ⟨rfl, hb1⟩
   have hB1 := keepBelow hB hb1
   clear p0 p1 p2 p3 p4 p5 p6 hb1
   cases g with
   | false =>
    go_wp2
    go_roundw
    case rel =>
     refine ⟨k + 1, by go_num, by omega, fun i hi => ?_, hB1⟩
     rcases Nat.lt_succ_iff_lt_or_eq.1 hi with h | rfl
     ·exact HZ.out i h
     ·rw [HXE.out]; exact HG.out
    case measure => simp [intOf]; omega
   | true =>
    have hA : L.any f = true := List.any_eq_true.2 ⟨L.getD k sw0, getD_in hlt, by rw [HXE.out]; exact HG.out⟩
    go_wp2
    go_ret
    exact ⟨⟨k, rfl, by rw [hA]; simp⟩, hB1⟩
  ·have hA : L.any f = false := any_false (d := sw0) fun i hi => HZ.out i (by omega)
   go_wp2
   go_ret
   exact ⟨⟨-1, rfl, by rw [hA]; simp⟩, hB⟩
theorem con_valid (f : Sw → Bool) (v : Value) (L : List (Sw)) (w : World) (h : RdR w v L) (HF : Hid (∀ x, x ∈ L → ∀ W, Below w.heap.size w W → Calls Tryz.prog 43 #[.agg #[.int .i64 x.1.lf.1, x.2.1, .int .i64 x.1.rt.1, x.2.2.1, .int .i64 x.1.fr, .int .i64 x.1.to, x.2.2.2]] W fun e w' => e = .returned (.bool (f x)) ∧ Below W.heap.size W w')) :
  Calls Tryz.prog 41 #[v, .func (.func 43) #[] #[]] w fun e w' => e = .returned (.bool (L.any f)) ∧ Below w.heap.size w w' := by
 have H := Lib.hid (idx_valid f v L w h HF)
 obtain ⟨a, c, rfl, _⟩ := h
 go_enter Tryz.func41, Tryz.ntmps41
 go_wp2_with fail
 refine H.out.mono ?_
 rintro e w1 ⟨⟨r, rfl, hr⟩, hb1⟩
 have HRR := Lib.hid hr
 clear hr
 go_wp2
 go_ret
 exact ⟨ret_bool HRR.out, hb1⟩
theorem noset_any (v : Value) (R : List Sw) (w : World) (h : RdR w v R) :
  Calls Tryz.prog 41 #[v, .func (.func 43) #[] #[]] w fun e w' => e = .returned (.bool (!(sts R).all VB)) ∧ Below w.heap.size w w' := by
 have hc := con_valid (fun x => !VB x.1) v R w h (fun x hx W hW => ?_)
 ·have : (R.any fun x => !VB x.1) = !(sts R).all VB := by
   unfold sts
   rw [List.all_map, List.not_all_eq_any_not]
   rfl
  rw [this] at hc
  exact hc
 ·obtain ⟨i, hi, rfl⟩ := List.mem_iff_getElem.1 hx
  obtain ⟨a, c, _, _, hr⟩ := h
  have := (hr i hi).1
  rw [List.getD_eq_getElem?_getD, List.getElem?_eq_getElem hi] at this
  exact valid1_any _ _ _ _ W (keepSt hW this)
end Go.Proofs.YtlbjfbpejomkmaaGreat
namespace Go.Proofs.YtlbjfbpejomkmaaGreat
open Go.RowKit Wk Go.Maps

theorem lawS : Keyed Tryz.prog 9 := string_keyed Tryz.underlying9
theorem zeroB (w : World) : (zeroValue 4).run Tryz.prog w = .ok (.bool false) w := by kernel_rfl
theorem ownsMap_below {H : Type} {P : Program} {k : TypeId} {R : Value → Option (DataW H × List MemPlace)} {w w' : World} {b n : Nat} {D : DataW H} (h : w.ownsMap P k R b n D) (hb : Below w.heap.size w w') : w'.ownsMap P k R b n D := by
 have hlt := h.lt
 obtain ⟨es, clock, hb', F, hs, hD⟩ := h
 exact ⟨es, clock, (hb.block b hlt).trans hb', F, hs, hD⟩
def nmL (l : List Tk) (k : Nat) : List Lit := ((List.range k).map fun i => Lit.string (tkAt l i).nm.data.toList).reverse
theorem nmL_succ (l : List Tk) (k : Nat) : nmL l (k + 1) = Lit.string (tkAt l k).nm.data.toList :: nmL l k := by
 unfold nmL
 rw [List.range_succ]
 simp
theorem nm_eq {a b : ByteArray} (h : Lit.string a.data.toList = Lit.string b.data.toList) : a = b := by
 injection h with h
 cases a; cases b
 simp only at h
 congr
 exact Array.toList_inj.1 h
theorem nmL_mem {l : List Tk} {k : Nat} {n : ByteArray} : Lit.string n.data.toList ∈ nmL l k ↔ ∃ i, i < k ∧ (tkAt l i).nm = n := by
 unfold nmL
 rw [List.mem_reverse, List.mem_map]
 constructor
 ·rintro ⟨i, hi, he⟩
  exact ⟨i, List.mem_range.1 hi, nm_eq he⟩
 ·rintro ⟨i, hi, rfl⟩
  exact ⟨i, List.mem_range.2 hi, rfl⟩
theorem vld_no {l : List Tk} {res : List St} {k : Nat} (hk : k < l.length) (h : okT l res.length k = false) : vldM l res = false := by
 unfold vldM
 have : (List.range l.length).all (okT l res.length) = false := List.all_eq_false.2 ⟨k, List.mem_range.2 hk, by rw [h]; exact Bool.false_ne_true⟩
 rw [this, Bool.and_false]
theorem vld_yes {l : List Tk} {res : List St} (h1 : l.length ≤ 24) (h2 : res.length ≤ 24) (h3 : res.all VB = true) (h : ∀ k, k < l.length → okT l res.length k = true) : vldM l res = true := by
 unfold vldM
 rw [decide_eq_true h1, decide_eq_true h2, h3]
 exact List.all_eq_true.2 fun k hk => h k (List.mem_range.1 hk)
theorem okT_iff {l : List Tk} {n i : Nat} : okT l n i = true ↔ (1 ≤ (tkAt l i).nm.size ∧ (tkAt l i).nm.size ≤ 30 ∧ (∀ k, k < i → (tkAt l k).nm ≠ (tkAt l i).nm) ∧ 1 ≤ (tkAt l i).wk ∧ (tkAt l i).wk ≤ 4398046511104 ∧ 0 ≤ (tkAt l i).rs ∧ (tkAt l i).rs < n ∧ lineB (tkAt l i).du = true ∧ afB i (tkAt l i).af = true) := by
 unfold okT
 simp only [Bool.and_eq_true, decide_eq_true_eq, List.all_eq_true, List.mem_range]
 constructor
 ·rintro ⟨⟨⟨⟨⟨⟨⟨⟨h1, h2⟩, h3⟩, h4⟩, h5⟩, h6⟩, h7⟩, h8⟩, h9⟩
  exact ⟨h1, h2, h3, h4, h5, h6, h7, h8, h9⟩
 ·rintro ⟨h1, h2, h3, h4, h5, h6, h7, h8, h9⟩
  exact ⟨⟨⟨⟨⟨⟨⟨⟨h1, h2⟩, h3⟩, h4⟩, h5⟩, h6⟩, h7⟩, h8⟩, h9⟩
theorem okT_no {l : List Tk} {n i : Nat} (h : ¬ okT l n i = true) : okT l n i = false := by simpa using h
theorem ok_nm1 {l : List Tk} {n i : Nat} {x : Tk} (e : tkAt l i = x) (h : x.nm.size < 1) : okT l n i = false := okT_no fun hh => by have := (okT_iff.1 hh).1; rw [e] at this; omega
theorem ok_nm2 {l : List Tk} {n i : Nat} {x : Tk} (e : tkAt l i = x) (h : 30 < x.nm.size) : okT l n i = false := okT_no fun hh => by have := (okT_iff.1 hh).2.1; rw [e] at this; omega
theorem ok_nm3 {l : List Tk} {n i : Nat} {x : Tk} (e : tkAt l i = x) (h : ∃ k, k < i ∧ (tkAt l k).nm = x.nm) : okT l n i = false := okT_no fun hh => by obtain ⟨k, hk, he⟩ := h; exact (okT_iff.1 hh).2.2.1 k hk (by rw [e]; exact he)
theorem ok_wk1 {l : List Tk} {n i : Nat} {x : Tk} (e : tkAt l i = x) (h : x.wk < 1) : okT l n i = false := okT_no fun hh => by have := (okT_iff.1 hh).2.2.2.1; rw [e] at this; omega
theorem ok_wk2 {l : List Tk} {n i : Nat} {x : Tk} (e : tkAt l i = x) (h : 4398046511104 < x.wk) : okT l n i = false := okT_no fun hh => by have := (okT_iff.1 hh).2.2.2.2.1; rw [e] at this; omega
theorem ok_rs1 {l : List Tk} {n i : Nat} {x : Tk} (e : tkAt l i = x) (h : x.rs < 0) : okT l n i = false := okT_no fun hh => by have := (okT_iff.1 hh).2.2.2.2.2.1; rw [e] at this; omega
theorem ok_rs2 {l : List Tk} {n i : Nat} {x : Tk} (e : tkAt l i = x) (h : (n : Int) ≤ x.rs) : okT l n i = false := okT_no fun hh => by have := (okT_iff.1 hh).2.2.2.2.2.2.1; rw [e] at this; omega
theorem ok_du {l : List Tk} {n i : Nat} {x : Tk} (e : tkAt l i = x) (h : lineB x.du = false) : okT l n i = false := okT_no fun hh => by have := (okT_iff.1 hh).2.2.2.2.2.2.2.1; rw [e, h] at this; cases this
theorem ok_af {l : List Tk} {n i : Nat} {x : Tk} (e : tkAt l i = x) (h : afB i x.af = false) : okT l n i = false := okT_no fun hh => by have := (okT_iff.1 hh).2.2.2.2.2.2.2.2; rw [e, h] at this; cases this
def af1 (i : Nat) (af : List Int) (k : Nat) : Prop := 0 ≤ af.getD k 0 ∧ af.getD k 0 < i ∧ (k = 0 ∨ af.getD (k - 1) 0 < af.getD k 0)
theorem afB_iff {i : Nat} {af : List Int} : afB i af = true ↔ ∀ k, k < af.length → af1 i af k := by
 unfold afB af1
 simp only [Bool.and_eq_true, Bool.or_eq_true, beq_iff_eq, decide_eq_true_eq, List.all_eq_true, List.mem_range, and_assoc]
theorem afB_no {i : Nat} {af : List Int} {k : Nat} (hk : k < af.length) (h : ¬ af1 i af k) : afB i af = false := by
 cases hh : afB i af with
 | false => rfl
 | true => exact absurd (afB_iff.1 hh k hk) h
theorem sts_len (R : List Sw) : (sts R).length = R.length := List.length_map ..

set_option maxRecDepth 100000 in
set_option maxHeartbeats 8000000 in
theorem agvalid_any (vl vR : Value) (L : List Kv) (R : List Sw) (w : World) (hL : RdK w vl L) (hR : RdR w vR R) :
  Calls Tryz.prog 14 #[vl, vR] w fun e w' => e = .returned (.bool (vldM (tks L) (sts R))) ∧ Below w.heap.size w w' := by
 have hmm := @run_makeMap Tryz.prog
 have HNS := Lib.hid (noset_any vR R w hR)
 obtain ⟨r, hr⟩ : ∃ r, vldM (tks L) (sts R) = r := ⟨_, rfl⟩
 rw [hr]
 have HR := Lib.hid hr
 have HL := Lib.hid hL
 obtain ⟨al, cl, rfl, _, _⟩ := hL
 obtain ⟨aR, cR, rfl, _, _⟩ := hR
 obtain ⟨vb, hvb⟩ : ∃ vb, (sts R).all VB = vb := ⟨_, rfl⟩
 rw [hvb] at HNS
 have HVB := Lib.hid hvb
 clear hr hvb
 go_enter Tryz.func14, Tryz.ntmps14
 by_cases h1 : 24 < L.length
 ·have g1 : decide (24 < (L.length : Int)) = true := by simp; omega
  have hr : r = false := by rw [← HR.out]; unfold vldM; rw [tks_length, decide_eq_false (by omega)]; rfl
  subst hr
  clear h1
  go_wp2
  go_ret
  exact ⟨rfl, Below.refl _ _⟩
 have g1 : decide (24 < (L.length : Int)) = false := by simp; omega
 have HL1 : Hid (L.length ≤ 24) := by unfold Hid; omega
 clear h1
 by_cases h2 : 24 < R.length
 ·have g2 : decide (24 < (R.length : Int)) = true := by simp; omega
  have hr : r = false := by rw [← HR.out]; unfold vldM; rw [sts_len, decide_eq_false (p := R.length ≤ 24) (by omega), Bool.and_false]; rfl
  subst hr
  clear h2
  go_wp2
  go_ret
  exact ⟨rfl, Below.refl _ _⟩
 have g2 : decide (24 < (R.length : Int)) = false := by simp; omega
 have HL2 : Hid (R.length ≤ 24) := by unfold Hid; omega
 clear h2
 go_wp2_with fail
 refine HNS.out.mono ?_
 rintro e w1 ⟨rfl, hb1⟩
 have HB1 := Lib.hid hb1
 have HLw := Lib.hid (HL.out.below hb1)
 clear hb1 HNS
 cases vb with
 | false =>
  have hr : r = false := by rw [← HR.out]; unfold vldM; rw [HVB.out, Bool.and_false]; rfl
  subst hr
  go_wp2
  go_ret
  exact ⟨rfl, HB1.out⟩
 | true =>
 go_wp2_with fail
 go_loopw [25] (fun u wr => ∃ k : Nat, u = .int .i64 k ∧ k ≤ L.length ∧ Hid (∀ i, i < k → okT (tks L) (sts R).length i = true) ∧ Hid (∃ D, wr.ownsMap (H := Unit) Tryz.prog 9 (plainElem Tryz.prog 4) w1.heap.size k D ∧ KeysB D (nmL (tks L) k)) ∧ Hid (Below w1.heap.size w1 wr)) (fun u _ => L.length - (intOf u).toNat)
 case atStart => exact ⟨0, rfl, Nat.zero_le _, fun i hi => by omega, ⟨_, World.ownsMap_made _ _ _ _, KeysB.nil⟩, (Below.refl _ _).alloc (Nat.le_refl _) _⟩
 case round =>
  obtain ⟨k, rfl, hk, HZ, HM, HBr⟩ := hrel
  by_cases hlt : k < L.length
  ·have hlt' : k < (tks L).length := by rw [tks_length]; exact hlt
   obtain ⟨al', cl', ea, _, hcl⟩ := HLw.out.below HBr.out
   cases ea
   obtain ⟨hj, bl, ol, rfl, p0, p1, p2, p3, p4⟩ := hcl k hlt
   obtain ⟨x, hx⟩ : ∃ x, L.getD k kv0 = x := ⟨_, rfl⟩
   rw [hx] at hj p0 p1 p2 p3 p4
   obtain ⟨a1, n1, e1⟩ := hj.form
   rw [e1] at p3 hj
   have HTA : Hid (tkAt (tks L) k = x.1) := by unfold Hid; rw [tks_at, hx]
   have HJ := Lib.hid hj
   obtain ⟨D, hown, hkeys⟩ := HM.out
   have HB := Lib.hid (keepBelow HB1.out HBr.out)
   have HLT := Lib.hid hlt'
   have HJ0 : Hid (∀ i, i < x.1.af.length → ∃ b o, a1 = some ⟨b, o, none⟩ ∧ w1.cell? ⟨b, o + i, none⟩ = some (.int .i64 (x.1.af.getD i 0))) := fun i hi => by
    obtain ⟨al2, cl2, ea, _, hcl2⟩ := HLw.out
    cases ea
    have h2 := (hcl2 k hlt).1
    rw [hx, e1] at h2
    obtain ⟨aj, cj, ej, _, hcj⟩ := h2
    cases ej
    exact hcj i hi
   clear hcl hx hj e1 HM hlt'
   go_upto_region 7 with fail
   obtain ⟨Y, hY⟩ : ∃ Y, wr.alloc (.cells #[.string x.1.nm, .int .i64 x.1.wk, .int .i64 x.1.rs, .slice a1 x.1.af.length n1, .int .i64 x.1.du] 44) = Y := ⟨_, rfl⟩
   rw [hY]
   have hbY : Below wr.heap.size wr Y := by rw [← hY]; exact (Below.refl _ _).alloc (Nat.le_refl _) _
   obtain ⟨tb, htb⟩ : ∃ tb, wr.heap.size = tb := ⟨_, rfl⟩
   rw [htb]
   have HT5 : Hid (Y.cell? ⟨tb, 0, none⟩ = some (.string x.1.nm) ∧ Y.cell? ⟨tb, 1, none⟩ = some (.int .i64 x.1.wk) ∧ Y.cell? ⟨tb, 2, none⟩ = some (.int .i64 x.1.rs) ∧ Y.cell? ⟨tb, 3, none⟩ = some (.slice a1 x.1.af.length n1) ∧ Y.cell? ⟨tb, 4, none⟩ = some (.int .i64 x.1.du)) := by
    rw [← hY, ← htb]
    refine ⟨?_, ?_, ?_, ?_, ?_⟩ <;> simp [go_sem]
   have HOWN := Lib.hid (ownsMap_below hown hbY)
   have HKY := Lib.hid hkeys
   have HJY := Lib.hid (HJ.out.below hbY)
   have HBY := Lib.hid hbY
   have HNT : Hid (w1.heap.size < tb) := by
    have h1 := hown.lt
    have h2 := HBr.out.size
    unfold Hid
    obtain ⟨es, clock, hbk, _⟩ := hown
    omega
   clear p0 p1 p2 p3 p4 hY hown hkeys hbY htb
   obtain ⟨t0, t1, t2, t3, t4⟩ := HT5.out
   by_cases q1 : x.1.nm.size < 1
   ·have g_q1 : decide ((x.1.nm.size : Int) < 1) = true := by simp; omega
    have hr : r = false := by rw [← HR.out]; exact vld_no HLT.out (ok_nm1 HTA.out q1)
    subst hr
    clear q1
    go_wp2
    go_ret
    exact ⟨rfl, keepBelow HB.out HBY.out⟩
   have g_q1 : decide ((x.1.nm.size : Int) < 1) = false := by simp; omega
   by_cases q2 : 30 < x.1.nm.size
   ·have g_q2 : decide (30 < (x.1.nm.size : Int)) = true := by simp; omega
    have hr : r = false := by rw [← HR.out]; exact vld_no HLT.out (ok_nm2 HTA.out q2)
    subst hr
    clear q2
    go_wp2
    go_ret
    exact ⟨rfl, keepBelow HB.out HBY.out⟩
   have g_q2 : decide (30 < (x.1.nm.size : Int)) = false := by simp; omega
   have HNM : Hid (x.1.nm.size ≤ 30) := by unfold Hid; omega
   obtain ⟨c, hrun, hat⟩ := owns_lookup_bool HOWN.out lawS Tryz.underlying70 Tryz.underlying4 (zeroB Y) (Go.WideMaps.keyOf_string_mk Tryz.underlying9 (s := x.1.nm) (by unfold maxLen; have := HNM.out; omega))
   by_cases hdup : Lit.string x.1.nm.data.toList ∈ nmL (tks L) k
   ·have hex := nmL_mem.1 hdup
    have hr : r = false := by rw [← HR.out]; exact vld_no HLT.out (ok_nm3 HTA.out hex)
    subst hr
    have hc : c = true := by
     obtain ⟨b, hb1, hb2⟩ := HKY.out.2 (.string x.1.nm.data.toList) trivial
     rw [hat] at hb1
     injection hb1 with hb1
     injection hb1 with hb1
     rw [hb1]
     exact hb2.2 hdup
    subst hc
    clear hex hdup hat
    go_wp2
    go_ret
    exact ⟨rfl, keepBelow HB.out HBY.out⟩
   have HDU := Lib.hid hdup
   have hc : c = false := by
    obtain ⟨b, hb1, hb2⟩ := HKY.out.2 (.string x.1.nm.data.toList) trivial
    rw [hat] at hb1
    injection hb1 with hb1
    injection hb1 with hb1
    rw [hb1]
    cases b with
    | false => rfl
    | true => exact absurd (hb2.1 rfl) hdup
   subst hc
   clear hdup hat
   by_cases q4 : x.1.wk < 1
   ·have g_q4 : decide (x.1.wk < 1) = true := by simp; omega
    have hr : r = false := by rw [← HR.out]; exact vld_no HLT.out (ok_wk1 HTA.out q4)
    subst hr
    clear q4
    go_wp2
    go_ret
    exact ⟨rfl, keepBelow HB.out HBY.out⟩
   have g_q4 : decide (x.1.wk < 1) = false := by simp; omega
   by_cases q5 : 4398046511104 < x.1.wk
   ·have g_q5 : decide (4398046511104 < x.1.wk) = true := by simp; omega
    have hr : r = false := by rw [← HR.out]; exact vld_no HLT.out (ok_wk2 HTA.out q5)
    subst hr
    clear q5
    go_wp2
    go_ret
    exact ⟨rfl, keepBelow HB.out HBY.out⟩
   have g_q5 : decide (4398046511104 < x.1.wk) = false := by simp; omega
   by_cases q6 : x.1.rs < 0
   ·have g_q6 : decide (x.1.rs < 0) = true := by simp; omega
    have hr : r = false := by rw [← HR.out]; exact vld_no HLT.out (ok_rs1 HTA.out q6)
    subst hr
    clear q6
    go_wp2
    go_ret
    exact ⟨rfl, keepBelow HB.out HBY.out⟩
   have g_q6 : decide (x.1.rs < 0) = false := by simp; omega
   by_cases q7 : (R.length : Int) ≤ x.1.rs
   ·have g_q7 : decide ((R.length : Int) ≤ x.1.rs) = true := by simp; omega
    have hr : r = false := by rw [← HR.out]; exact vld_no HLT.out (ok_rs2 HTA.out (by rw [sts_len]; exact q7))
    subst hr
    clear q7
    go_wp2
    go_ret
    exact ⟨rfl, keepBelow HB.out HBY.out⟩
   have g_q7 : decide ((R.length : Int) ≤ x.1.rs) = false := by simp; omega
   obtain ⟨ln, hln⟩ : ∃ ln, lineB x.1.du = ln := ⟨_, rfl⟩
   have HLNE := Lib.hid hln
   have HLI := Lib.hid (fun W => agline_any x.1.du W)
   rw [hln] at HLI
   clear hln
   have HQ : Hid (1 ≤ x.1.nm.size ∧ 1 ≤ x.1.wk ∧ x.1.wk ≤ 4398046511104 ∧ 0 ≤ x.1.rs ∧ x.1.rs < R.length) := by unfold Hid; omega
   cases ln with
   | false =>
    have hr : r = false := by rw [← HR.out]; exact vld_no HLT.out (ok_du HTA.out HLNE.out)
    subst hr
    go_wp2_with (first | (go_at_call 45; refine (HLI.out _).mono ?_; rintro e w' ⟨rfl, rfl⟩) | (fail))
    go_ret
    exact ⟨rfl, keepBelow HB.out HBY.out⟩
   | true =>
    go_upto_region 9 with (first | (go_at_call 45; refine (HLI.out _).mono ?_; rintro e w' ⟨rfl, rfl⟩) | (fail))
    clear hrun
    go_upto_region 10 with (first | (at_mapUpdate; refine wpList_mapUpdate_own _ rfl _ _ _ 70 rfl 9 4 lawS Tryz.underlying70 _ w1.heap.size k D rfl HOWN.out (by unfold maxLen; have := HL1.out; omega) _ _ _ rfl rfl (Go.WideMaps.keyOf_string_mk Tryz.underlying9 (s := x.1.nm) (by unfold maxLen; have := HNM.out; omega)) _ [] (plainElem_bool Tryz.underlying4 true) ?_; intro Z own8 hgr8) | fail)
    have HOZ := Lib.hid own8
    have htb : tb < Y.heap.size := World.block_lt_of_cell? Y ⟨tb, 0, none⟩ HT5.out.1
    have htz : Z.heap[tb]? = Y.heap[tb]? := hgr8.block tb htb (by have := HNT.out; intro h; cases h; omega)
    have hbZ : Below w1.heap.size w1 Z := (keepBelow HBr.out HBY.out).grown hgr8 (Nat.le_trans HBr.out.size HBY.out.size) (fun j hj => by cases hj; exact Nat.le_refl _)
    have HT3 : Hid (Z.cell? ⟨tb, 3, none⟩ = some (.slice a1 x.1.af.length n1)) := by
     unfold Hid
     rw [World.cell?_of_block (w := Y) (a := ⟨tb, 3, none⟩) htz]
     exact HT5.out.2.2.2.1
    have HJZ : Hid (RdJ Z (.slice a1 x.1.af.length n1) x.1.af) := by
     obtain ⟨aj, cj, ej, hl, hcj⟩ := HJY.out
     cases ej
     refine ⟨a1, n1, rfl, hl, fun i hi => ?_⟩
     obtain ⟨bj, oj, rfl, c1⟩ := hcj i hi
     refine ⟨bj, oj, rfl, ?_⟩
     obtain ⟨b2, o2, e2, c2⟩ := HJ0.out i hi
     cases e2
     have hlt := World.block_lt_of_cell? w1 _ c2
     exact (hbZ.cell (p := ⟨bj, oj + i, none⟩) hlt).trans c2
    have HBZ := Lib.hid hbZ
    clear own8 hgr8 htb htz hbZ t0 t1 t2 t3 t4 HOWN HT5 HJY
    have t3 := HT3.out
    go_wp2_with fail
    go_loopw [80] (fun u wr' => ∃ q : Nat, u = .int .i64 q ∧ q ≤ x.1.af.length ∧ Hid (∀ i, i < q → af1 k x.1.af i) ∧ wr' = Z) (fun u _ => x.1.af.length - (intOf u).toNat)
    case atStart => exact ⟨0, rfl, Nat.zero_le _, fun i hi => by omega, rfl⟩
    case round =>
     obtain ⟨q, rfl, hq, HZQ, rfl⟩ := hrel
     by_cases hqa : q < x.1.af.length
     ·obtain ⟨aj, cj, ea, hal, hcj⟩ := HJZ.out
      cases ea
      obtain ⟨bj, oj, rfl, v1⟩ := hcj q hqa
      obtain ⟨z, hz⟩ : ∃ z, x.1.af.getD q 0 = z := ⟨_, rfl⟩
      rw [hz] at v1
      have HZE := Lib.hid hz
      have HCJ := Lib.hid hcj
      have HSZ := Lib.hid hal
      clear hcj hz hal
      by_cases hz0 : z < 0
      ·have g1 : decide (z < 0) = true := by simpa using hz0
       have hr : r = false := by rw [← HR.out]; exact vld_no HLT.out (ok_af HTA.out (afB_no hqa fun h => by have := h.1; rw [HZE.out] at this; omega))
       subst hr
       clear hz0
       go_wp2
       go_ret
       exact ⟨rfl, keepBelow HB1.out HBZ.out⟩
      have g1 : decide (z < 0) = false := by simpa using hz0
      by_cases hzj : (k : Int) ≤ z
      ·have g2 : decide ((k : Int) ≤ z) = true := by simpa using hzj
       have hr : r = false := by rw [← HR.out]; exact vld_no HLT.out (ok_af HTA.out (afB_no hqa fun h => by have := h.2.1; rw [HZE.out] at this; omega))
       subst hr
       clear hzj
       go_wp2
       go_ret
       exact ⟨rfl, keepBelow HB1.out HBZ.out⟩
      have g2 : decide ((k : Int) ≤ z) = false := by simpa using hzj
      rcases Nat.eq_zero_or_pos q with hq0 | hq0
      ·subst hq0
       have v1' : wr.cell? ⟨bj, oj, none⟩ = some (.int .i64 z) := by simpa using v1
       have HA1 : Hid (af1 k x.1.af 0) := ⟨by rw [HZE.out]; omega, by rw [HZE.out]; omega, Or.inl rfl⟩
       clear hz0 hzj
       go_wp2
       go_roundw
       case rel => exact ⟨1, by first | rfl | go_num, by omega, fun i hi => by (obtain rfl : i = 0 := by omega); exact HA1.out, by first | rfl | trivial⟩
       case measure => simp [intOf]; omega
      obtain ⟨p, rfl⟩ : ∃ p, q = p + 1 := ⟨q - 1, by omega⟩
      obtain ⟨bj', oj', ee, v2⟩ := HCJ.out p (by omega)
      cases ee
      obtain ⟨y, hy⟩ : ∃ y, x.1.af.getD p 0 = y := ⟨_, rfl⟩
      rw [hy] at v2
      have HYE := Lib.hid hy
      have g0 : decide (0 < ((p + 1 : Nat) : Int)) = true := by simp
      have hpb : (p : Int) ≤ 1152921504606846976 := by have := HSZ.out; omega
      clear hy
      by_cases hzy : z ≤ y
      ·have g3 : decide (z ≤ y) = true := by simpa using hzy
       have hr : r = false := by rw [← HR.out]; exact vld_no HLT.out (ok_af HTA.out (afB_no hqa fun h => by have h := h.2.2.resolve_left (Nat.succ_ne_zero p); rw [HZE.out, Nat.add_sub_cancel, HYE.out] at h; omega))
       subst hr
       clear hzy hz0 hzj
       go_wp2
       go_ret
       exact ⟨rfl, keepBelow HB1.out HBZ.out⟩
      ·have g3 : decide (z ≤ y) = false := by simpa using hzy
       have HA1 : Hid (af1 k x.1.af (p + 1)) := ⟨by rw [HZE.out]; omega, by rw [HZE.out]; omega, Or.inr (by rw [Nat.add_sub_cancel, HYE.out, HZE.out]; omega)⟩
       clear hzy hz0 hzj
       go_wp2
       go_roundw
       case rel =>
        refine ⟨p + 1 + 1, by go_num, by omega, fun i hi => ?_, by first | rfl | trivial⟩
        rcases Nat.lt_succ_iff_lt_or_eq.1 hi with h | rfl
        ·exact HZQ.out i h
        ·exact HA1.out
       case measure => simp [intOf]; omega
     ·have hqe : q = x.1.af.length := by omega
      subst hqe
      have HOK : Hid (okT (tks L) (sts R).length k = true) := by
       have h1 := HQ.out
       refine okT_iff.2 ?_
       rw [HTA.out, sts_len]
       exact ⟨h1.1, HNM.out, fun i hi he => HDU.out (nmL_mem.2 ⟨i, hi, he⟩), h1.2.1, h1.2.2.1, h1.2.2.2.1, h1.2.2.2.2, HLNE.out, afB_iff.2 HZQ.out⟩
      have HKN : Hid (KeysB (D.put (.string x.1.nm.data.toList) (.lit (.bool true))) (nmL (tks L) (k + 1))) := by
       unfold Hid
       rw [nmL_succ, HTA.out]
       exact HKY.out.put trivial
      go_wp2
      go_roundw
      case rel =>
       refine ⟨k + 1, by go_num, by omega, fun i hi => ?_, ⟨_, HOZ.out, HKN.out⟩, HBZ.out⟩
       rcases Nat.lt_succ_iff_lt_or_eq.1 hi with h | rfl
       ·exact HZ.out i h
       ·exact HOK.out
      case measure => simp [intOf]; omega
  ·have hkl : k = L.length := by omega
   subst hkl
   have hr : r = true := by rw [← HR.out]; exact vld_yes (by rw [tks_length]; exact HL1.out) (by rw [sts_len]; exact HL2.out) HVB.out (fun i hi => HZ.out i (by rwa [tks_length] at hi))
   subst hr
   have HB := Lib.hid (keepBelow HB1.out HBr.out)
   go_wp2
   go_ret
   exact ⟨rfl, HB.out⟩
end Go.Proofs.YtlbjfbpejomkmaaGreat
namespace Go.Proofs.YtlbjfbpejomkmaaGreat
open Go.RowKit Wk

theorem vld_parts {L : List Kv} {R : List Sw} (h : vldM (tks L) (sts R) = true) : (∀ i, i < R.length → VB (R.getD i sw0).1 = true) ∧ (∀ i, i < L.length → (L.getD i kv0).1.wk ≤ 4398046511104) ∧ L.length ≤ 24 ∧ R.length ≤ 24 := by
 unfold vldM at h
 simp only [Bool.and_eq_true, decide_eq_true_eq, List.all_eq_true, List.mem_range] at h
 obtain ⟨⟨⟨h1, h2⟩, h3⟩, h4⟩ := h
 rw [tks_length] at h1 h4
 rw [sts_length] at h2
 refine ⟨fun i hi => ?_, fun i hi => ?_, h1, h2⟩
 ·rw [← sts_at]
  exact h3 _ (getD_in (by rw [sts_length]; exact hi))
 ·have := (okT_iff.1 (h4 i hi)).2.2.2.2.1
  rwa [tks_at] at this
theorem fi_ctx {vl vR : Value} {start most : Int} {L : List Kv} {R : List Sw} {w : World} (hL : RdK w vl L) (hR : RdR w vR R) (h : vldM (tks L) (sts R) = true) (hs : lineB start = true) (h0 : 0 ≤ most) (h1 : most ≤ 1000000) : FdCtx vl vR start most L R w := by
 obtain ⟨a, b, c⟩ := vld_parts h
 exact ⟨hL, hR, vld_V h, a, b, (lineB_iff start).1 hs, c, h0, h1⟩
def FdRes (r : Rs) (B : Nat) (e : Ending) (w' : World) : Prop := match r with
 | .ok a => ∃ g, e = .returned (.tuple #[.slice (some ⟨g, 0, none⟩) a.length a.length, .int .i64 0]) ∧ B ≤ g ∧ RowP w' g a ∧ a.length ≤ 24
 | .out => e = .returned (.tuple #[.slice none 0 0, .int .i64 18])
 | .no _ => e = .returned (.tuple #[.slice none 0 0, .int .i64 17])
def schB (l : List Tk) (res : List St) (start most : Int) : Bool := vldM l res && lineB start && decide (0 ≤ most) && decide (most ≤ 1000000)
def AdPost (l : List Tk) (res : List St) (start most : Int) (w : World) (e : Ending) (w' : World) : Prop :=
 Below w.heap.size w w' ∧ (schB l res start most = true → FdRes (findM l res start most) w.heap.size e w') ∧ (schB l res start most = false → e = .returned (.tuple #[.slice none 0 0, .int .i64 1]))
set_option maxRecDepth 100000 in
set_option maxHeartbeats 4000000 in
theorem sched_any (vl vR : Value) (start most : Int) (L : List Kv) (R : List Sw) (w : World) (hL : RdK w vl L) (hR : RdR w vR R) :
  Calls Tryz.prog 16 #[vl, vR, .int .i64 start, .int .i64 most] w (AdPost (tks L) (sts R) start most w) := by
 have HV := Lib.hid (agvalid_any vl vR L R w hL hR)
 have HLI := Lib.hid (fun W => agline_any start W)
 have HF : Hid (vldM (tks L) (sts R) = true → lineB start = true → 0 ≤ most → most ≤ 1000000 → ∀ W, Below w.heap.size w W → Calls Tryz.prog 47 #[vl, vR, .int .i64 start, .int .i64 most] W (FdPost (findM (tks L) (sts R) start most) W)) :=
  fun h1 h2 h3 h4 W hW => find_any vl vR start most L R W (fi_ctx (hL.below hW) (hR.below hW) h1 h2 h3 h4)
 have HNO : Hid (∀ w', Below w.heap.size w w' → schB (tks L) (sts R) start most = false → AdPost (tks L) (sts R) start most w (.returned (.tuple #[.slice none 0 0, .int .i64 1])) w') := fun w' hb h => ⟨hb, fun h' => by (rw [h] at h'; cases h'), fun _ => rfl⟩
 have HYE : Hid (∀ e w', Below w.heap.size w w' → schB (tks L) (sts R) start most = true → FdRes (findM (tks L) (sts R) start most) w.heap.size e w' → AdPost (tks L) (sts R) start most w e w') := fun e w' hb h hr => ⟨hb, fun _ => hr, fun h' => by (rw [h] at h'; cases h')⟩
 have HSB : Hid (schB (tks L) (sts R) start most = (vldM (tks L) (sts R) && lineB start && decide (0 ≤ most) && decide (most ≤ 1000000))) := rfl
 obtain ⟨r, hr⟩ : ∃ r, findM (tks L) (sts R) start most = r := ⟨_, rfl⟩
 rw [hr] at HF HYE
 obtain ⟨sb, hsb⟩ : ∃ sb, schB (tks L) (sts R) start most = sb := ⟨_, rfl⟩
 rw [hsb] at HSB HYE HNO
 obtain ⟨v, hv⟩ : ∃ v, vldM (tks L) (sts R) = v := ⟨_, rfl⟩
 rw [hv] at HV HF HSB
 obtain ⟨ln, hln⟩ : ∃ ln, lineB start = ln := ⟨_, rfl⟩
 rw [hln] at HLI HF HSB
 clear hr hsb hv hln
 obtain ⟨al, cl, rfl⟩ := hL.form
 obtain ⟨aR, cR, rfl⟩ := hR.form
 clear hL hR
 go_enter Tryz.func16, Tryz.ntmps16
 go_wp2_with fail
 refine HV.out.mono ?_
 rintro e w1 ⟨rfl, hb1⟩
 have HB := Lib.hid hb1
 clear hb1 HV
 cases v with
 | false =>
  go_wp2
  go_ret2
  exact HNO.out _ HB.out (by rw [HSB.out]; rfl)
 | true =>
 cases ln with
 | false =>
  go_wp2_with (first | (go_at_call 45; refine (HLI.out _).mono ?_; rintro e w' ⟨rfl, rfl⟩) | fail)
  go_ret2
  exact HNO.out _ HB.out (by rw [HSB.out]; rfl)
 | true =>
 by_cases h0 : most < 0
 ·have g0 : decide (most < 0) = true := by simpa using h0
  have HSF : Hid (sb = false) := by unfold Hid; rw [HSB.out, decide_eq_false (p := 0 ≤ most) (by omega)]; rfl
  clear h0
  go_wp2_with (first | (go_at_call 45; refine (HLI.out _).mono ?_; rintro e w' ⟨rfl, rfl⟩) | fail)
  go_ret2
  exact HNO.out _ HB.out HSF.out
 have g0 : decide (most < 0) = false := by simpa using h0
 by_cases h1 : 1000000 < most
 ·have g1 : decide (1000000 < most) = true := by simpa using h1
  have HSF : Hid (sb = false) := by unfold Hid; rw [HSB.out, decide_eq_false (p := most ≤ 1000000) (by omega), Bool.and_false]
  clear h0 h1
  go_wp2_with (first | (go_at_call 45; refine (HLI.out _).mono ?_; rintro e w' ⟨rfl, rfl⟩) | fail)
  go_ret2
  exact HNO.out _ HB.out HSF.out
 have g1 : decide (1000000 < most) = false := by simpa using h1
 have HSF : Hid (sb = true) := by unfold Hid; rw [HSB.out, decide_eq_true (p := most ≤ 1000000) (by omega), decide_eq_true (p := 0 ≤ most) (by omega)]; rfl
 have HF1 := Lib.hid (HF.out rfl rfl (by omega) (by omega))
 clear h0 h1 HF
 go_wp2_with (first | (go_at_call 45; refine (HLI.out _).mono ?_; rintro e w' ⟨rfl, rfl⟩) | fail)
 refine (HF1.out _ HB.out).mono ?_
 rintro e w2 ⟨hb2, hpost⟩
 have HB2 := Lib.hid (keepBelow HB.out hb2)
 clear hb2
 cases r with
 | ok a =>
  obtain ⟨u, rfl, hug, hrd, hul⟩ := hpost
  have HUG : Hid (w.heap.size ≤ u) := Nat.le_trans HB.out.size hug
  have HUL := Lib.hid hul
  have HRD := Lib.hid hrd
  clear hrd hug hul
  go_wp2
  go_ret2
  exact HYE.out _ _ HB2.out HSF.out ⟨_, rfl, HUG.out, HRD.out, HUL.out⟩
 | out =>
  have hpost : e = _ := hpost
  subst hpost
  go_wp2
  go_ret2
  exact HYE.out _ _ HB2.out HSF.out rfl
 | no l =>
  have hpost : e = _ := hpost
  subst hpost
  go_wp2
  go_ret2
  exact HYE.out _ _ HB2.out HSF.out rfl
end Go.Proofs.YtlbjfbpejomkmaaGreat
