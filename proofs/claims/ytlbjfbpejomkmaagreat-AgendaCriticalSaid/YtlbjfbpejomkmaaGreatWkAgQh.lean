import Derived.Test.YtlbjfbpejomkmaaGreatWkAgQc
import Derived.Test.YtlbjfbpejomkmaaGreatWkAgQa
import Derived.Test.YtlbjfbpejomkmaaGreatWkAgQf
import Derived.Laws.EntriesVeiled
/- Agenda: the closures of Holds. -/
namespace Go.Proofs.YtlbjfbpejomkmaaGreat
open Go.RowKit Wk

set_option maxHeartbeats 2000000 in
theorem after_any (j : Nat) (pa pb : Nat) (ga oa n c : Nat) (x y : Int) (w : World) (hj : j < n) (h0 : w.cell? ⟨pa, 0, none⟩ = some (.slice (some ⟨ga, oa, none⟩) n c)) (h1 : w.cell? ⟨ga, oa + j * 2 + 1, none⟩ = some (.int .i64 x)) (h2 : w.cell? ⟨pb, 0, none⟩ = some (.int .i64 y)) :
  Calls Tryz.prog 88 #[.int .i64 (j : Nat), .pointer (some ⟨pa, 0, none⟩), .pointer (some ⟨pb, 0, none⟩)] w fun e w' => e = .returned (.bool (decide (y < x))) ∧ Below w.heap.size w w' := by
 go_enter Tryz.func88, Tryz.ntmps88
 go_upto_region 1 with fail
 go_region
 all_goals go_wp2
 all_goals go_ret
 all_goals exact ⟨rfl, (Below.refl _ _).drew⟩

set_option maxRecDepth 100000 in
set_option maxHeartbeats 2000000 in
theorem idx_after (pa pb : Nat) (f : Int → Bool) (v : Value) (L : List (Int)) (w : World) (h : RdJ w v L) (HF : Hid (∀ x, x ∈ L → ∀ W, Below w.heap.size w W → Calls Tryz.prog 88 #[.int .i64 x, .pointer (some ⟨pa, 0, none⟩), .pointer (some ⟨pb, 0, none⟩)] W fun e w' => e = .returned (.bool (f x)) ∧ Below W.heap.size W w')) :
  Calls Tryz.prog 127 #[v, .func (.func 88) #[] #[.pointer (some ⟨pa, 0, none⟩), .pointer (some ⟨pb, 0, none⟩)]] w fun e w' => (∃ r : Int, e = .returned (.int .i64 r) ∧ (decide (0 ≤ r) = L.any f)) ∧ Below w.heap.size w w' := by
 obtain ⟨a, c, rfl, hl, hc⟩ := h
 have HC := Lib.hid hc
 clear hc
 go_enter Tryz.func127, Tryz.ntmps127
 go_wp2_with fail
 go_loopw [8] (fun u wr => ∃ k : Nat, u = .int .i64 k ∧ k ≤ L.length ∧ Hid (∀ i, i < k → f (L.getD i 0) = false) ∧ Below w.heap.size w wr) (fun u _ => L.length - (intOf u).toNat)
 case atStart => exact ⟨0, rfl, Nat.zero_le _, fun i hi => by omega, Below.refl _ _⟩
 case round =>
  obtain ⟨k, rfl, hk, HZ, hB⟩ := hrel
  by_cases hlt : k < L.length
  ·have hm : L.getD k 0 ∈ L := getD_in hlt
   obtain ⟨b, o, rfl, c1⟩ := HC.out k hlt
   obtain ⟨x, hx⟩ : ∃ x, L.getD k 0 = x := ⟨_, rfl⟩
   have HX := HF.out _ hm wr hB
   rw [hx] at HX c1
   have c2 := keepCell hB c1
   have HXE := Lib.hid hx
   clear hx hm c1
   obtain ⟨g, hg⟩ : ∃ g, f x = g := ⟨_, rfl⟩
   rw [hg] at HX
   have HG := Lib.hid hg
   have HH := Lib.hid HX
   clear hg HX
   go_wp2_with fail
   refine HH.out.mono ?_
   rintro e w1 ⟨rfl, hb1⟩
   have hB1 := keepBelow hB hb1
   clear c2 hb1
   cases g with
   | false =>
    go_wp2
    go_roundw
    case rel =>
     refine ⟨k + 1, by go_num, by omega, fun i hi => ?_, hB1⟩
     rcases Nat.lt_succ_iff_lt_or_eq.1 hi with h | rfl
     ·exact HZ.out i h
     ·rw [HXE.out]; exact HG.out
    case measure => simp [intOf]; omega
   | true =>
    have hA : L.any f = true := List.any_eq_true.2 ⟨L.getD k 0, getD_in hlt, by rw [HXE.out]; exact HG.out⟩
    go_wp2
    go_ret
    exact ⟨⟨k, rfl, by rw [hA]; simp⟩, hB1⟩
  ·have hA : L.any f = false := any_false (d := 0) fun i hi => HZ.out i (by omega)
   go_wp2
   go_ret
   exact ⟨⟨-1, rfl, by rw [hA]; simp⟩, hB⟩
theorem con_after (pa pb : Nat) (f : Int → Bool) (v : Value) (L : List (Int)) (w : World) (h : RdJ w v L) (HF : Hid (∀ x, x ∈ L → ∀ W, Below w.heap.size w W → Calls Tryz.prog 88 #[.int .i64 x, .pointer (some ⟨pa, 0, none⟩), .pointer (some ⟨pb, 0, none⟩)] W fun e w' => e = .returned (.bool (f x)) ∧ Below W.heap.size W w')) :
  Calls Tryz.prog 87 #[v, .func (.func 88) #[] #[.pointer (some ⟨pa, 0, none⟩), .pointer (some ⟨pb, 0, none⟩)]] w fun e w' => e = .returned (.bool (L.any f)) ∧ Below w.heap.size w w' := by
 have H := Lib.hid (idx_after pa pb f v L w h HF)
 obtain ⟨a, c, rfl, _⟩ := h
 go_enter Tryz.func87, Tryz.ntmps87
 go_wp2_with fail
 refine H.out.mono ?_
 rintro e w1 ⟨⟨r, rfl, hr⟩, hb1⟩
 have HRR := Lib.hid hr
 clear hr
 go_wp2
 go_ret
 exact ⟨ret_bool HRR.out, hb1⟩
end Go.Proofs.YtlbjfbpejomkmaaGreat
namespace Go.Proofs.YtlbjfbpejomkmaaGreat
open Go.RowKit Wk

theorem line48_any (x : Int) (w : World) :
  Calls Tryz.prog 17 #[.int .i64 x] w fun e w' => e = .returned (.bool (lineB x)) ∧ w = w' := by
 go_enter Tryz.func17, Tryz.ntmps17
 go_wp2
 all_goals go_ret
 all_goals exact ⟨ret_bool (by rw [Bool.eq_iff_iff]; simp [lineB]; omega), rfl⟩
theorem contains_getD {L : List Int} {x : Int} : L.contains x = true ↔ ∃ i, i < L.length ∧ L.getD i 0 = x := by
 rw [List.contains_iff_mem]
 constructor
 ·intro h
  obtain ⟨i, hi, rfl⟩ := List.mem_iff_getElem.1 h
  exact ⟨i, hi, by rw [List.getD_eq_getElem?_getD, List.getElem?_eq_getElem hi]; rfl⟩
 ·rintro ⟨i, hi, rfl⟩
  exact getD_in hi
set_option maxHeartbeats 2000000 in
theorem has48_any (v : Value) (L : List Int) (x : Int) (w : World) (h : RdJ w v L) :
  Calls Tryz.prog 106 #[v, .int .i64 x] w fun e w' => e = .returned (.bool (L.contains x)) ∧ w' = w := by
 obtain ⟨a, c, rfl, hl, hc⟩ := h
 have HC := Lib.hid hc
 clear hc
 obtain ⟨r, hr⟩ : ∃ r, L.contains x = r := ⟨_, rfl⟩
 rw [hr]
 have HR := Lib.hid hr
 clear hr
 go_enter Tryz.func106, Tryz.ntmps106
 go_wp2_with fail
 go_loopw [5] (fun u wr => ∃ k : Nat, u = .int .i64 k ∧ k ≤ L.length ∧ Hid (∀ i, i < k → L.getD i 0 ≠ x) ∧ wr = w) (fun u _ => L.length - (intOf u).toNat)
 case atStart => exact ⟨0, rfl, Nat.zero_le _, fun i hi => by omega, rfl⟩
 case round =>
  obtain ⟨k, rfl, hk, HZ, hw⟩ := hrel
  rw [hw]
  clear hw
  by_cases hlt : k < L.length
  ·obtain ⟨b, o, rfl, q⟩ := HC.out k hlt
   obtain ⟨y, hy⟩ : ∃ y, L.getD k 0 = y := ⟨_, rfl⟩
   rw [hy] at q
   have HY := Lib.hid hy
   clear hy
   by_cases hxy : y = x
   ·have g1 : (y == x) = true := by simpa using hxy
    have hr : r = true := by rw [← HR.out]; exact contains_getD.2 ⟨k, hlt, by rw [HY.out]; exact hxy⟩
    subst hr
    clear hxy
    go_wp2
    go_ret
    exact ⟨rfl, rfl⟩
   ·have g1 : (y == x) = false := by simpa using hxy
    have HN : Hid (y ≠ x) := hxy
    clear hxy
    go_wp2
    go_roundw
    case rel =>
     refine ⟨k + 1, by go_num, by omega, fun i hi => ?_, by first | trivial | rfl⟩
     rcases Nat.lt_succ_iff_lt_or_eq.1 hi with h | rfl
     ·exact HZ.out i h
     ·rw [HY.out]; exact HN.out
    case measure => simp [intOf]; omega
  ·have hr : r = false := by
    rw [← HR.out]
    cases hcn : L.contains x with
    | false => rfl
    | true =>
     obtain ⟨i, hi, he⟩ := contains_getD.1 hcn
     exact absurd he (HZ.out i (by omega))
   subst hr
   go_wp2
   go_ret
   exact ⟨rfl, rfl⟩
end Go.Proofs.YtlbjfbpejomkmaaGreat
namespace Go.Proofs.YtlbjfbpejomkmaaGreat
open Go.RowKit Wk

def lgP (P : Int) (l : List Sp) : Bool := decide (12 < l.length) || decide (1000 < P)
def lgK (x : Kv) : Bool := decide (200 < x.1.wk) && decide (x.1.wk ≤ 4398046511104)
def lgS (x : Sw) : Bool := lgP x.1.lf.1 x.1.lf.2 || lgP x.1.rt.1 x.1.rt.2 || decide (12 < x.1.l.length)
set_option maxHeartbeats 2000000 in
theorem great1_any (P : Int) (a : Option Addr) (l : List Sp) (n : Nat) (w : World) (hl : l.length ≤ 8796093022208) :
  Calls Tryz.prog 38 #[.agg #[.int .i64 P, .slice a l.length n]] w fun e w' => e = .returned (.bool (lgP P l)) ∧ Below w.heap.size w w' := by
 have hb : Below w.heap.size w (w.alloc (.cells #[.int .i64 P, .slice a l.length n] 52)) := (Below.refl _ w).alloc (Nat.le_refl _) _
 have HB := Lib.hid hb
 clear hb
 by_cases h1 : 12 < l.length
 ·have g1 : decide ((12 : Int) < (l.length : Int)) = true := by simp; omega
  have hr : lgP P l = true := by unfold lgP; simp [h1]
  rw [hr]
  clear h1
  go_enter Tryz.func38, Tryz.ntmps38
  go_wp2
  go_ret
  exact ⟨rfl, HB.out⟩
 ·have g1 : decide ((12 : Int) < (l.length : Int)) = false := by simp; omega
  have hr : lgP P l = decide (1000 < P) := by unfold lgP; simp [h1]
  rw [hr]
  clear h1
  go_enter Tryz.func38, Tryz.ntmps38
  go_wp2
  go_ret
  exact ⟨rfl, HB.out⟩
set_option maxHeartbeats 2000000 in
theorem great2_any (x : Kv) (a : Option Addr) (n : Nat) (w : World) (hx : x.2 = .slice a x.1.af.length n) :
  Calls Tryz.prog 40 #[.agg #[.string x.1.nm, .int .i64 x.1.wk, .int .i64 x.1.rs, x.2, .int .i64 x.1.du]] w fun e w' => e = .returned (.bool (lgK x)) ∧ Below w.heap.size w w' := by
 rw [hx]
 have hb : Below w.heap.size w (w.alloc (.cells #[.string x.1.nm, .int .i64 x.1.wk, .int .i64 x.1.rs, .slice a x.1.af.length n, .int .i64 x.1.du] 44)) := (Below.refl _ w).alloc (Nat.le_refl _) _
 have HB := Lib.hid hb
 clear hb hx
 by_cases h1 : 200 < x.1.wk
 ·have g1 : decide (200 < x.1.wk) = true := by simpa using h1
  have hr : lgK x = decide (x.1.wk ≤ 4398046511104) := by unfold lgK; simp [h1]
  rw [hr]
  clear h1
  go_enter Tryz.func40, Tryz.ntmps40
  go_wp2
  go_ret
  exact ⟨rfl, HB.out⟩
 ·have g1 : decide (200 < x.1.wk) = false := by simpa using h1
  have hr : lgK x = false := by unfold lgK; simp [h1]
  rw [hr]
  clear h1
  go_enter Tryz.func40, Tryz.ntmps40
  go_wp2
  go_ret
  exact ⟨rfl, HB.out⟩

set_option maxRecDepth 100000 in
set_option maxHeartbeats 2000000 in
theorem idx_grK (f : Kv → Bool) (v : Value) (L : List (Kv)) (w : World) (h : RdK w v L) (HF : Hid (∀ x, x ∈ L → ∀ W, Below w.heap.size w W → Calls Tryz.prog 40 #[.agg #[.string x.1.nm, .int .i64 x.1.wk, .int .i64 x.1.rs, x.2, .int .i64 x.1.du]] W fun e w' => e = .returned (.bool (f x)) ∧ Below W.heap.size W w')) :
  Calls Tryz.prog 68 #[v, .func (.func 40) #[] #[]] w fun e w' => (∃ r : Int, e = .returned (.int .i64 r) ∧ (decide (0 ≤ r) = L.any f)) ∧ Below w.heap.size w w' := by
 obtain ⟨a, c, rfl, hl, hc⟩ := h
 have HC := Lib.hid hc
 clear hc
 go_enter Tryz.func68, Tryz.ntmps68
 go_wp2_with fail
 go_loopw [8] (fun u wr => ∃ k : Nat, u = .int .i64 k ∧ k ≤ L.length ∧ Hid (∀ i, i < k → f (L.getD i kv0) = false) ∧ Below w.heap.size w wr) (fun u _ => L.length - (intOf u).toNat)
 case atStart => exact ⟨0, rfl, Nat.zero_le _, fun i hi => by omega, Below.refl _ _⟩
 case round =>
  obtain ⟨k, rfl, hk, HZ, hB⟩ := hrel
  by_cases hlt : k < L.length
  ·have hm : L.getD k kv0 ∈ L := getD_in hlt
   obtain ⟨hr, b, o, rfl, q0, q1, q2, q3, q4⟩ := HC.out k hlt
   obtain ⟨x, hx⟩ : ∃ x, L.getD k kv0 = x := ⟨_, rfl⟩
   have HX := HF.out _ hm wr hB
   rw [hx] at HX hr q0 q1 q2 q3 q4
   obtain ⟨a1, n1, e1⟩ := hr.form
   have p0 := keepCell hB q0
   have p1 := keepCell hB q1
   have p2 := keepCell hB q2
   have p3 := keepCell hB q3
   have p4 := keepCell hB q4
   rw [e1] at p3 HX
   clear e1
   have HXE := Lib.hid hx
   clear hx hm hr q0 q1 q2 q3 q4
   obtain ⟨g, hg⟩ : ∃ g, f x = g := ⟨_, rfl⟩
   rw [hg] at HX
   have HG := Lib.hid hg
   have HH := Lib.hid HX
   clear hg HX
   go_wp2_with fail
   refine HH.out.mono ?_
   rintro e w1 ⟨rfl, hb1⟩
   have hB1 := keepBelow hB hb1
   clear p0 p1 p2 p3 p4 hb1
   cases g with
   | false =>
    go_wp2
    go_roundw
    case rel =>
     refine ⟨k + 1, by go_num, by omega, fun i hi => ?_, hB1⟩
     rcases Nat.lt_succ_iff_lt_or_eq.1 hi with h | rfl
     ·exact HZ.out i h
     ·rw [HXE.out]; exact HG.out
    case measure => simp [intOf]; omega
   | true =>
    have hA : L.any f = true := List.any_eq_true.2 ⟨L.getD k kv0, getD_in hlt, by rw [HXE.out]; exact HG.out⟩
    go_wp2
    go_ret
    exact ⟨⟨k, rfl, by rw [hA]; simp⟩, hB1⟩
  ·have hA : L.any f = false := any_false (d := kv0) fun i hi => HZ.out i (by omega)
   go_wp2
   go_ret
   exact ⟨⟨-1, rfl, by rw [hA]; simp⟩, hB⟩
theorem con_grK (f : Kv → Bool) (v : Value) (L : List (Kv)) (w : World) (h : RdK w v L) (HF : Hid (∀ x, x ∈ L → ∀ W, Below w.heap.size w W → Calls Tryz.prog 40 #[.agg #[.string x.1.nm, .int .i64 x.1.wk, .int .i64 x.1.rs, x.2, .int .i64 x.1.du]] W fun e w' => e = .returned (.bool (f x)) ∧ Below W.heap.size W w')) :
  Calls Tryz.prog 39 #[v, .func (.func 40) #[] #[]] w fun e w' => e = .returned (.bool (L.any f)) ∧ Below w.heap.size w w' := by
 have H := Lib.hid (idx_grK f v L w h HF)
 obtain ⟨a, c, rfl, _⟩ := h
 go_enter Tryz.func39, Tryz.ntmps39
 go_wp2_with fail
 refine H.out.mono ?_
 rintro e w1 ⟨⟨r, rfl, hr⟩, hb1⟩
 have HRR := Lib.hid hr
 clear hr
 go_wp2
 go_ret
 exact ⟨ret_bool HRR.out, hb1⟩
end Go.Proofs.YtlbjfbpejomkmaaGreat
namespace Go.Proofs.YtlbjfbpejomkmaaGreat
open Go.RowKit Wk

theorem rdS_len {w : World} {v : Value} {l : List Sp} (h : RdS w v l) : l.length ≤ 8796093022208 := let ⟨_, _, _, hl, _⟩ := h; hl
set_option maxRecDepth 100000 in
set_option maxHeartbeats 4000000 in
theorem great3_any (s : St) (vl vr vv : Value) (pb : Nat) (w : World) (h : RdSt w s vl vr vv) (h0 : w.cell? ⟨pb, 0, none⟩ = some (.func (.func 38) #[] #[])) :
  Calls Tryz.prog 42 #[.agg #[.int .i64 s.lf.1, vl, .int .i64 s.rt.1, vr, .int .i64 s.fr, .int .i64 s.to, vv], .pointer (some ⟨pb, 0, none⟩)] w fun e w' => e = .returned (.bool (lgS (s, vl, vr, vv))) ∧ Below w.heap.size w w' := by
 have HL := Lib.hid (And.intro (rdS_len h.1) (And.intro (rdS_len h.2.1) (rdS_len h.2.2)))
 have HG1 := Lib.hid (fun (P : Int) (a : Option Addr) (l : List Sp) (n : Nat) (W : World) (hl : l.length ≤ 8796093022208) => great1_any P a l n W hl)
 obtain ⟨g1, hg1⟩ : ∃ g, lgP s.lf.1 s.lf.2 = g := ⟨_, rfl⟩
 obtain ⟨g2, hg2⟩ : ∃ g, lgP s.rt.1 s.rt.2 = g := ⟨_, rfl⟩
 obtain ⟨r, hr⟩ : ∃ r, lgS (s, vl, vr, vv) = r := ⟨_, rfl⟩
 rw [hr]
 have HRR : Hid (r = (g1 || g2 || decide (12 < s.l.length))) := by unfold Hid; rw [← hr]; unfold lgS; rw [hg1, hg2]
 have HG := Lib.hid (And.intro hg1 hg2)
 clear hr hg1 hg2
 have HR0 := Lib.hid h
 obtain ⟨a1, n1, rfl⟩ := h.1.form
 obtain ⟨a2, n2, rfl⟩ := h.2.1.form
 obtain ⟨a3, n3, rfl⟩ := h.2.2.form
 clear h
 obtain ⟨W, hWe⟩ : ∃ W, w.alloc (.cells #[.int .i64 s.lf.1, .slice a1 s.lf.2.length n1, .int .i64 s.rt.1, .slice a2 s.rt.2.length n2, .int .i64 s.fr, .int .i64 s.to, .slice a3 s.l.length n3] 54) = W := ⟨_, rfl⟩
 have hW : Below w.heap.size w W := by rw [← hWe]; exact (Below.refl _ w).alloc (Nat.le_refl _) _
 have HX : Hid (Set7 W w.heap.size (.int .i64 s.lf.1) (.slice a1 s.lf.2.length n1) (.int .i64 s.rt.1) (.slice a2 s.rt.2.length n2) (.int .i64 s.fr) (.int .i64 s.to) (.slice a3 s.l.length n3)) := by
  rw [← hWe]
  refine ⟨⟨?_, ?_, ?_, ?_, ?_, ?_, ?_⟩, ?_, ?_, ?_, ?_, ?_, ?_, ?_⟩ <;> simp [go_sem]
 have H0 := Lib.hid (keepCell hW h0)
 have HE := Lib.hid hWe
 have HB := Lib.hid hW
 clear hWe HR0 hW h0
 go_enter Tryz.func42, Tryz.ntmps42
 go_upto_region 1 with fail
 rw [HE.out]
 clear HE
 obtain ⟨⟨B0, B1, B2, B3, B4, B5, B6⟩, -⟩ := HX.out
 have p0 := H0.out
 go_wp2_with fail
 refine (HG1.out _ _ _ _ _ HL.out.1).mono ?_
 rintro e w1 ⟨rfl, hb1⟩
 rw [HG.out.1]
 have HX1 := Lib.hid (HX.out.below hb1)
 have H1 := Lib.hid (keepCell hb1 H0.out)
 have HB1 := Lib.hid (keepBelow HB.out hb1)
 clear hb1 B0 B1 B2 B3 B4 B5 B6 p0 HX H0 HB
 obtain ⟨⟨B0, B1, B2, B3, B4, B5, B6⟩, -⟩ := HX1.out
 have p0 := H1.out
 cases g1 with
 | true =>
  have hr : r = true := by rw [HRR.out]; rfl
  subst hr
  go_wp2
  go_ret
  exact ⟨rfl, HB1.out⟩
 | false =>
 go_wp2_with fail
 refine (HG1.out _ _ _ _ _ HL.out.2.1).mono ?_
 rintro e w2 ⟨rfl, hb2⟩
 rw [HG.out.2]
 have HX2 := Lib.hid (HX1.out.below hb2)
 have HB2 := Lib.hid (keepBelow HB1.out hb2)
 clear hb2 B0 B1 B2 B3 B4 B5 B6 p0 HX1 H1 HB1
 obtain ⟨⟨B0, B1, B2, B3, B4, B5, B6⟩, -⟩ := HX2.out
 cases g2 with
 | true =>
  have hr : r = true := by rw [HRR.out]; rfl
  subst hr
  go_wp2
  go_ret
  exact ⟨rfl, HB2.out⟩
 | false =>
  have hr : r = decide (12 < s.l.length) := by rw [HRR.out]; rfl
  subst hr
  go_wp2
  go_ret
  exact ⟨ret_bool (by rw [Bool.eq_iff_iff]; simp; omega), HB2.out⟩

set_option maxRecDepth 100000 in
set_option maxHeartbeats 2000000 in
theorem idx_grS (pb : Nat) (f : Sw → Bool) (v : Value) (L : List (Sw)) (w : World) (h : RdR w v L) (HF : Hid (∀ x, x ∈ L → ∀ W, Below w.heap.size w W → Calls Tryz.prog 42 #[.agg #[.int .i64 x.1.lf.1, x.2.1, .int .i64 x.1.rt.1, x.2.2.1, .int .i64 x.1.fr, .int .i64 x.1.to, x.2.2.2], .pointer (some ⟨pb, 0, none⟩)] W fun e w' => e = .returned (.bool (f x)) ∧ Below W.heap.size W w')) :
  Calls Tryz.prog 69 #[v, .func (.func 42) #[] #[.pointer (some ⟨pb, 0, none⟩)]] w fun e w' => (∃ r : Int, e = .returned (.int .i64 r) ∧ (decide (0 ≤ r) = L.any f)) ∧ Below w.heap.size w w' := by
 obtain ⟨a, c, rfl, hl, hc⟩ := h
 have HC := Lib.hid hc
 clear hc
 go_enter Tryz.func69, Tryz.ntmps69
 go_wp2_with fail
 go_loopw [8] (fun u wr => ∃ k : Nat, u = .int .i64 k ∧ k ≤ L.length ∧ Hid (∀ i, i < k → f (L.getD i sw0) = false) ∧ Below w.heap.size w wr) (fun u _ => L.length - (intOf u).toNat)
 case atStart => exact ⟨0, rfl, Nat.zero_le _, fun i hi => by omega, Below.refl _ _⟩
 case round =>
  obtain ⟨k, rfl, hk, HZ, hB⟩ := hrel
  by_cases hlt : k < L.length
  ·have hm : L.getD k sw0 ∈ L := getD_in hlt
   obtain ⟨hr, b, o, rfl, q0, q1, q2, q3, q4, q5, q6⟩ := HC.out k hlt
   obtain ⟨x, hx⟩ : ∃ x, L.getD k sw0 = x := ⟨_, rfl⟩
   have HX := HF.out _ hm wr hB
   rw [hx] at HX hr q0 q1 q2 q3 q4 q5 q6
   obtain ⟨a1, n1, e1⟩ := hr.1.form
   obtain ⟨a2, n2, e2⟩ := hr.2.1.form
   obtain ⟨a3, n3, e3⟩ := hr.2.2.form
   have p0 := keepCell hB q0
   have p1 := keepCell hB q1
   have p2 := keepCell hB q2
   have p3 := keepCell hB q3
   have p4 := keepCell hB q4
   have p5 := keepCell hB q5
   have p6 := keepCell hB q6
   rw [e1] at p1 HX
   rw [e2] at p3 HX
   rw [e3] at p6 HX
   clear e1 e2 e3
   have HXE := Lib.hid hx
   clear hx hm hr q0 q1 q2 q3 q4 q5 q6
   obtain ⟨g, hg⟩ : ∃ g, f x = g := ⟨_, rfl⟩
   rw [hg] at HX
   have HG := Lib.hid hg
   have HH := Lib.hid HX
   clear hg HX
   go_wp2_with fail
   refine HH.out.mono ?_
   rintro e w1 ⟨rfl, hb1⟩
   have hB1 := keepBelow hB hb1
   clear p0 p1 p2 p3 p4 p5 p6 hb1
   cases g with
   | false =>
    go_wp2
    go_roundw
    case rel =>
     refine ⟨k + 1, by go_num, by omega, fun i hi => ?_, hB1⟩
     rcases Nat.lt_succ_iff_lt_or_eq.1 hi with h | rfl
     ·exact HZ.out i h
     ·rw [HXE.out]; exact HG.out
    case measure => simp [intOf]; omega
   | true =>
    have hA : L.any f = true := List.any_eq_true.2 ⟨L.getD k sw0, getD_in hlt, by rw [HXE.out]; exact HG.out⟩
    go_wp2
    go_ret
    exact ⟨⟨k, rfl, by rw [hA]; simp⟩, hB1⟩
  ·have hA : L.any f = false := any_false (d := sw0) fun i hi => HZ.out i (by omega)
   go_wp2
   go_ret
   exact ⟨⟨-1, rfl, by rw [hA]; simp⟩, hB⟩
theorem con_grS (pb : Nat) (f : Sw → Bool) (v : Value) (L : List (Sw)) (w : World) (h : RdR w v L) (HF : Hid (∀ x, x ∈ L → ∀ W, Below w.heap.size w W → Calls Tryz.prog 42 #[.agg #[.int .i64 x.1.lf.1, x.2.1, .int .i64 x.1.rt.1, x.2.2.1, .int .i64 x.1.fr, .int .i64 x.1.to, x.2.2.2], .pointer (some ⟨pb, 0, none⟩)] W fun e w' => e = .returned (.bool (f x)) ∧ Below W.heap.size W w')) :
  Calls Tryz.prog 41 #[v, .func (.func 42) #[] #[.pointer (some ⟨pb, 0, none⟩)]] w fun e w' => e = .returned (.bool (L.any f)) ∧ Below w.heap.size w w' := by
 have H := Lib.hid (idx_grS pb f v L w h HF)
 obtain ⟨a, c, rfl, _⟩ := h
 go_enter Tryz.func41, Tryz.ntmps41
 go_wp2_with fail
 refine H.out.mono ?_
 rintro e w1 ⟨⟨r, rfl, hr⟩, hb1⟩
 have HRR := Lib.hid hr
 clear hr
 go_wp2
 go_ret
 exact ⟨ret_bool HRR.out, hb1⟩

def GrPost (L : List Kv) (R : List Sw) (w : World) (e : Ending) (w' : World) : Prop := ∃ g, e = .returned (.bool g) ∧ (g = false → L.length ≤ 7 ∧ R.length ≤ 3) ∧ Below w.heap.size w w'
set_option maxRecDepth 100000 in
set_option maxHeartbeats 4000000 in
theorem great_any (vl vR : Value) (L : List Kv) (R : List Sw) (w : World) (hL : RdK w vl L) (hR : RdR w vR R) :
  Calls Tryz.prog 13 #[vl, vR] w (GrPost L R w) := by
 have HK := Lib.hid (fun W h => con_grK lgK vl L W h (fun x hx W' hW' => by
  obtain ⟨i, hi, rfl⟩ := List.mem_iff_getElem.1 hx
  obtain ⟨_, _, _, _, hr⟩ := h
  have h1 := (hr i hi).1
  rw [List.getD_eq_getElem?_getD, List.getElem?_eq_getElem hi] at h1
  obtain ⟨a, c, e⟩ := h1.form
  exact great2_any _ a c W' e))
 have HSS := Lib.hid (fun (pb : Nat) W h (h0 : W.cell? ⟨pb, 0, none⟩ = some (.func (.func 38) #[] #[])) => con_grS pb lgS vR R W h (fun x hx W' hW' => by
  obtain ⟨i, hi, rfl⟩ := List.mem_iff_getElem.1 hx
  obtain ⟨_, _, _, _, hr⟩ := h
  have h1 := (hr i hi).1
  rw [List.getD_eq_getElem?_getD, List.getElem?_eq_getElem hi] at h1
  exact great3_any _ _ _ _ pb W' (keepSt hW' h1) (keepCell hW' h0)))
 have HL0 := Lib.hid hL
 have HR0 := Lib.hid hR
 obtain ⟨a, c, rfl, _, _⟩ := hL
 obtain ⟨a2, c2, rfl, _, _⟩ := hR
 obtain ⟨g1, hg1⟩ : ∃ g, L.any lgK = g := ⟨_, rfl⟩
 obtain ⟨g2, hg2⟩ : ∃ g, R.any lgS = g := ⟨_, rfl⟩
 rw [hg1] at HK
 rw [hg2] at HSS
 clear hg1 hg2
 go_enter Tryz.func13, Tryz.ntmps13
 by_cases h1 : 7 < L.length
 ·have d1 : decide ((7 : Int) < (L.length : Int)) = true := by simp; omega
  clear h1
  go_wp2
  go_ret
  exact ⟨true, rfl, fun h => (by cases h), Below.refl _ _⟩
 have d1 : decide ((7 : Int) < (L.length : Int)) = false := by simp; omega
 by_cases h2 : 3 < R.length
 ·have d2 : decide ((3 : Int) < (R.length : Int)) = true := by simp; omega
  clear h2
  go_wp2
  go_ret
  exact ⟨true, rfl, fun h => (by cases h), Below.refl _ _⟩
 have d2 : decide ((3 : Int) < (R.length : Int)) = false := by simp; omega
 have HLE : Hid (L.length ≤ 7 ∧ R.length ≤ 3) := ⟨by omega, by omega⟩
 clear h1 h2
 obtain ⟨W, hWe⟩ : ∃ W, w.alloc (.cells #[.func (.func 38) #[] #[]] 65) = W := ⟨_, rfl⟩
 have hW : Below w.heap.size w W := by rw [← hWe]; exact (Below.refl _ w).alloc (Nat.le_refl _) _
 have hc : W.cell? ⟨w.heap.size, 0, none⟩ = some (.func (.func 38) #[] #[]) := by rw [← hWe]; simp [go_sem]
 have HE := Lib.hid hWe
 have HB := Lib.hid hW
 have HC := Lib.hid hc
 have HLW := Lib.hid (HL0.out.below hW)
 have HRW := Lib.hid (HR0.out.below hW)
 clear hWe hW hc
 go_upto_region 4 with fail
 rw [HE.out]
 clear HE
 go_wp2_with fail
 refine (HK.out _ HLW.out).mono ?_
 rintro e w1 ⟨rfl, hb1⟩
 have HB1 := Lib.hid (keepBelow HB.out hb1)
 have HR1 := Lib.hid (HRW.out.below hb1)
 have HC1 := Lib.hid (keepCell hb1 HC.out)
 clear hb1
 cases g1 with
 | true =>
  go_wp2
  go_ret
  exact ⟨true, rfl, fun h => (by cases h), HB1.out⟩
 | false =>
 go_wp2_with fail
 refine (HSS.out _ _ HR1.out HC1.out).mono ?_
 rintro e w2 ⟨rfl, hb2⟩
 have HB2 := Lib.hid (keepBelow HB1.out hb2)
 clear hb2
 go_wp2
 go_ret
 exact ⟨g2, rfl, fun _ => HLE.out, HB2.out⟩
end Go.Proofs.YtlbjfbpejomkmaaGreat
