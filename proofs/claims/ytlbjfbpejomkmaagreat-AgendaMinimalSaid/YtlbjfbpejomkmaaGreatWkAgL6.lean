import Derived.Test.YtlbjfbpejomkmaaGreatWkAgQn
import Derived.Test.YtlbjfbpejomkmaaGreatWkAgQg
import Derived.Test.YtlbjfbpejomkmaaGreatWkAgQh
import Derived.Test.YtlbjfbpejomkmaaGreatWkAgRv
/- The law AgendaMinimal. -/
namespace Go.Proofs.YtlbjfbpejomkmaaGreat
open Go.RowKit Wk

theorem cfA_ne {l : List Tk} {res : List St} {start : Int} (h : (cfA l res start).1 ≠ 0) : (cfA l res start).2 = [] := by
 unfold cfA cfM conflM at h ⊢
 split
 ·rename_i hb
  rw [if_pos hb] at h
  cases hf : findM l res start 1000 with
  | ok a => rfl
  | out => rfl
  | no lf =>
   rw [hf] at h
   simp only at h ⊢
   cases hc : conflL l res start (List.range l.length) fun _ => true with
   | none => rfl
   | some keep =>
    rw [hc] at h
    exact absurd rfl h
 ·rfl
theorem cfA_zero {l : List Tk} {res : List St} {start : Int} (h : (cfA l res start).1 = 0) : vldM l res = true ∧ lineB start = true ∧ conflM l res start = .inl (some (cfA l res start).2) := by
 unfold cfA at h ⊢
 split
 ·rename_i hb
  rw [if_pos hb] at h
  rw [Bool.and_eq_true] at hb
  refine ⟨hb.1, hb.2, ?_⟩
  unfold cfM at h ⊢
  cases hc : conflM l res start with
  | inr u => rw [hc] at h; cases h
  | inl o =>
   cases o with
   | none => rw [hc] at h; cases h
   | some c => rfl
 ·rename_i hb
  rw [if_neg hb] at h
  cases h
theorem keptL_pw (n : Nat) (keep : Nat → Bool) : (keptL n keep).Pairwise (· < ·) := List.Pairwise.filter _ List.pairwise_lt_range
theorem natI_pw {c : List Nat} (h : c.Pairwise (· < ·)) : (natI c).Pairwise (· < ·) := by
 unfold natI
 rw [List.pairwise_map]
 exact h.imp fun {a b} h => by omega
theorem natI_gd {c : List Nat} {k : Nat} (hk : k < c.length) : (natI c).getD k 0 = ((c.getD k 0 : Nat) : Int) := by
 unfold natI
 rw [List.getD_eq_getElem?_getD, List.getElem?_map, List.getElem?_eq_getElem hk, List.getD_eq_getElem?_getD, List.getElem?_eq_getElem hk]
 rfl
theorem natI_del (c : List Nat) (i : Nat) : (natI c).take i ++ (natI c).drop (i + 1) = natI (c.take i ++ c.drop (i + 1)) := by
 unfold natI
 rw [List.map_append, List.map_take, List.map_drop]
theorem del_mem {c : List Nat} (h : c.Pairwise (· < ·)) {i : Nat} (hi : i < c.length) {j : Nat} : j ∈ c.take i ++ c.drop (i + 1) ↔ j ∈ c ∧ j ≠ c.getD i 0 := by
 rw [List.pairwise_iff_getElem] at h
 rw [List.getD_eq_getElem?_getD, List.getElem?_eq_getElem hi, Option.getD_some, List.mem_append]
 constructor
 ·rintro (hm | hm)
  ·obtain ⟨k, hk, rfl⟩ := List.getElem_of_mem hm
   rw [List.length_take] at hk
   rw [List.getElem_take]
   refine ⟨List.getElem_mem _, fun e => ?_⟩
   have := h k i (by omega) hi (by omega)
   omega
  ·obtain ⟨k, hk, rfl⟩ := List.getElem_of_mem hm
   rw [List.length_drop] at hk
   rw [List.getElem_drop]
   refine ⟨List.getElem_mem _, fun e => ?_⟩
   have := h i (i + 1 + k) hi (by omega) (by omega)
   omega
 ·rintro ⟨hm, hne⟩
  obtain ⟨k, hk, rfl⟩ := List.getElem_of_mem hm
  rcases (by omega : k < i ∨ k = i ∨ i < k) with g | g | g
  ·left
   rw [List.mem_take_iff_getElem]
   exact ⟨k, by omega, rfl⟩
  ·subst g; exact absurd rfl hne
  ·right
   rw [List.mem_drop_iff_getElem]
   refine ⟨k - (i + 1), by omega, ?_⟩
   congr 1
   omega
theorem sc_no {l : List Tk} {res : List St} {start : Int} (hv : vldM l res = true) (hs : lineB start = true) {lf : Int} (hf : findM l res start 1000 = .no lf) {w w' : World} {e : Ending} (h : AdPost l res start 1000 w e w') : e = .returned (.tuple #[.slice none 0 0, .int .i64 17]) ∧ Below w.heap.size w w' := by
 obtain ⟨hb, h1, -⟩ := h
 have h := h1 (by unfold schB; rw [hv, hs]; rfl)
 rw [hf] at h
 exact ⟨h, hb⟩
theorem sc_ok {l : List Tk} {res : List St} {start : Int} (hv : vldM l res = true) (hs : lineB start = true) {a : List Sp} (hf : findM l res start 1000 = .ok a) {w w' : World} {e : Ending} (h : AdPost l res start 1000 w e w') : ∃ p n c, e = .returned (.tuple #[.slice p n c, .int .i64 0]) ∧ Below w.heap.size w w' := by
 obtain ⟨hb, h1, -⟩ := h
 have h := h1 (by unfold schB; rw [hv, hs]; rfl)
 rw [hf] at h
 obtain ⟨g, rfl, -, -, -⟩ := h
 exact ⟨_, _, _, rfl, hb⟩
structure MinK (l : List Tk) (res : List St) (start : Int) (c : List Nat) : Prop where
 pw : c.Pairwise (· < ·)
 ne : 0 < c.length
 lt : ∀ x ∈ c, x < l.length
 no : ∃ lf, findM (someM l fun i => decide (i ∈ c)) res start 1000 = .no lf
 ok : ∀ i, i < c.length → ∃ a, findM (someM l fun j => decide (j ∈ c.take i ++ c.drop (i + 1))) res start 1000 = .ok a
theorem minK_of {l : List Tk} {res : List St} {start : Int} (hv : TkV l res) (hl : l.length ≤ 5) {c : List Nat} (h : conflM l res start = .inl (some c)) : MinK l res start c := by
 obtain ⟨keep, rfl, hne, hno, hok⟩ := confl_min hv hl h
 have hpw := keptL_pw l.length keep
 refine ⟨hpw, List.length_pos_iff.2 hne, fun x hx => (kept_mem.1 hx).1, ?_, fun i hi => ?_⟩
 ·rw [some_congr (k2 := keep) hv.af fun i hi => ?_]
  ·exact hno
  ·cases hk : keep i with
   | true => exact decide_eq_true (kept_mem.2 ⟨hi, hk⟩)
   | false => exact decide_eq_false fun hm => by rw [(kept_mem.1 hm).2] at hk; cases hk
 ·have hm : (keptL l.length keep).getD i 0 ∈ keptL l.length keep := by
   rw [List.getD_eq_getElem?_getD, List.getElem?_eq_getElem hi]
   exact List.getElem_mem _
  obtain ⟨a, ha⟩ := hok _ hm
  refine ⟨a, ?_⟩
  rw [← ha]
  congr 1
  refine some_congr hv.af fun j hj => ?_
  unfold updK
  rw [decide_eq_decide.2 (del_mem hpw hi (j := j))]
  by_cases e : j = (keptL l.length keep).getD i 0
  ·rw [if_pos e]
   exact decide_eq_false fun h => h.2 e
  ·rw [if_neg e]
   cases hk : keep j with
   | true => exact decide_eq_true ⟨kept_mem.2 ⟨hj, hk⟩, e⟩
   | false => exact decide_eq_false fun hm => by rw [(kept_mem.1 hm.1).2] at hk; cases hk

set_option maxRecDepth 100000 in
set_option maxHeartbeats 16000000 in
theorem law_AgendaMinimal (vl vR : Value) (start : Int) (L : List Kv) (R : List Sw) (w : World) (hL : RdK w vl L) (hR : RdR w vR R) :
  Calls Tryz.prog 9 #[vl, vR, .int .i64 start] w fun e w' => e = .returned (.bool true) ∧ Below w.heap.size w w' := by
 have HA := Lib.hid (fun W => awake48_any W)
 have HG := Lib.hid (fun W h h' => great_any vl vR L R W h h')
 have HS := Lib.hid (fun W h h' => conflict_any vl vR start L R W h h')
 have HSM := Lib.hid (fun vc c W h h' h'' ha hn => Some48_any vl vc L c W h h' h'' ha hn)
 have HSC := Lib.hid (fun v' L' W h h' => sched_any v' vR start 1000 L' R W h h')
 have HSO := Lib.hid (fun v' l W h h' => sortedJ_any v' l W h h')
 have HCJ := Lib.hid (fun v' l W h hp hl => cloneJ_any v' l W h hp hl)
 have HDJ := Lib.hid (fun v' l i w0 W h hi hl hb => deleteJ_any v' l i w0 W h hi hl hb)
 obtain ⟨p, hp⟩ : ∃ p, cfA (tks L) (sts R) start = p := ⟨_, rfl⟩
 rw [hp] at HS
 have HP := Lib.hid hp
 have HLP : Hid (p.2.length ≤ 24) := by unfold Hid; rw [← hp]; exact cfA_len _ _ _
 have HL := Lib.hid hL
 have HR := Lib.hid hR
 obtain ⟨al, cl, rfl⟩ := hL.form
 obtain ⟨aR, cR, rfl⟩ := hR.form
 clear hL hR hp
 go_enter Tryz.func9, Tryz.ntmps9
 go_wp2_with fail
 refine (HA.out _).mono ?_
 rintro e w1 ⟨rfl, hb1⟩
 have HL1 := Lib.hid (HL.out.below hb1)
 have HR1 := Lib.hid (HR.out.below hb1)
 have HB1 := Lib.hid hb1
 clear hb1
 go_wp2_with fail
 refine (HG.out _ HL1.out HR1.out).mono ?_
 rintro e w2 ⟨g, rfl, -, hb2⟩
 have HL2 := Lib.hid (HL1.out.below hb2)
 have HR2 := Lib.hid (HR1.out.below hb2)
 have HB2 := Lib.hid (keepBelow HB1.out hb2)
 clear hb2
 cases g with
 | true =>
  go_wp2
  go_ret
  exact ⟨rfl, HB2.out⟩
 | false =>
 by_cases h5 : 5 < L.length
 ·have g5 : decide (5 < (L.length : Int)) = true := by simp; omega
  clear h5
  go_wp2
  go_ret
  exact ⟨rfl, HB2.out⟩
 have g5 : decide (5 < (L.length : Int)) = false := by simp; omega
 have HN5 : Hid (L.length ≤ 5) := by unfold Hid; omega
 clear h5
 go_wp2_with fail
 refine (HS.out _ HL2.out HR2.out).mono ?_
 rintro e w3 ⟨x, rfl, hx, hb3⟩
 have hx := hx.rdJ (by rw [natI_length]; have := HLP.out; omega)
 have HL3 := Lib.hid (HL2.out.below hb3)
 have HR3 := Lib.hid (HR2.out.below hb3)
 have HB3 := Lib.hid (keepBelow HB2.out hb3)
 have HX3 := Lib.hid hx
 obtain ⟨ax, cx, rfl⟩ := hx.form
 clear hx hb3
 by_cases h0 : p.1 = 0
 ·obtain ⟨hv, hl, hc⟩ := cfA_zero (l := tks L) (res := sts R) (start := start) (by rw [HP.out]; exact h0)
  rw [HP.out] at hc
  have hmk := minK_of (vld_V hv) (by rw [tks_length]; exact HN5.out) hc
  obtain ⟨c, hce⟩ : ∃ c, p.2 = c := ⟨_, rfl⟩
  rw [hce] at hmk HX3 HLP ⊢
  rw [h0]
  have HMK := Lib.hid hmk
  have HVL := Lib.hid (And.intro hv hl)
  have hne := hmk.ne
  have HCL : Hid (∀ x ∈ c, x < L.length) := fun x hx => by have := hmk.lt x hx; rwa [tks_length] at this
  have HAF : Hid (∀ i, i < (tks L).length → afB i (tkAt (tks L) i).af = true) := fun i hi => (okT_parts.1 (vld_ok hv i hi)).2.2.2.2.2.2.2.2
  have HN : Hid (L.length ≤ 24) := by unfold Hid; have := HN5.out; omega
  have hnl : (natI c).length = c.length := natI_length c
  obtain ⟨n, hn⟩ : ∃ n, (natI c).length = n := ⟨_, rfl⟩
  have hnc : n = c.length := by rw [← hn, hnl]
  obtain ⟨ax', cx', ex, _, hxc⟩ := HX3.out
  cases ex
  obtain ⟨bx, ox, rfl, x0⟩ := hxc 0 (by omega)
  obtain ⟨_, _, e2, xl⟩ := hxc (n - 1) (by omega)
  cases e2
  rw [natI_gd (by omega)] at x0 xl
  rw [Nat.add_zero] at x0
  have m0 : c.getD 0 0 ∈ c := by rw [List.getD_eq_getElem?_getD, List.getElem?_eq_getElem (by omega)]; exact List.getElem_mem _
  have ml : c.getD (n - 1) 0 ∈ c := by rw [List.getD_eq_getElem?_getD, List.getElem?_eq_getElem (by omega)]; exact List.getElem_mem _
  obtain ⟨z0, hz0⟩ : ∃ z, c.getD 0 0 = z := ⟨_, rfl⟩
  obtain ⟨zl, hzl⟩ : ∃ z, c.getD (n - 1) 0 = z := ⟨_, rfl⟩
  rw [hz0] at x0
  rw [hzl] at xl ml
  have hzlt : zl < L.length := HCL.out zl ml
  have s1 : decide ((z0 : Int) < 0) = false := by simp
  have s2 : decide (L.length ≤ zl) = false := by simp; omega
  have s3 : ((n : Int) == 0) = false := by simp; omega
  have s4 : (n : Int) ≤ 24 := by have := HLP.out; omega
  have s5 : ((n : Int) - 1).toNat = n - 1 := by omega
  have s6 : (0 : Int) ≤ (n : Int) - 1 := by omega
  have s7 : (n : Int) - 1 < (n : Int) := by omega
  have s8 : (0 : Int) < (n : Int) := by omega
  have HNC := Lib.hid (And.intro hn hnc)
  rw [hn]
  clear hmk hv hl hc hce h0 hne hnl hn hnc hxc m0 ml hz0 hzl hzlt HP
  have hX3' := HX3.out
  rw [HNC.out.1] at hX3'
  have HX3n := Lib.hid hX3'
  clear hX3'
  go_wp2_with fail
  refine (HSO.out _ _ _ HX3n.out (natI_pw HMK.out.pw)).mono ?_
  rintro e w4 ⟨rfl, hb4⟩
  have x0' := keepCell hb4 x0
  have xl' := keepCell hb4 xl
  have HL4 := Lib.hid (HL3.out.below hb4)
  have HR4 := Lib.hid (HR3.out.below hb4)
  have HB4 := Lib.hid (keepBelow HB3.out hb4)
  have HX4 := Lib.hid (HX3n.out.below hb4)
  clear hb4 x0 xl
  go_wp2_with fail
  refine (HSM.out _ c _ HL4.out HX4.out HCL.out HAF.out HN.out).mono ?_
  rintro e w5 ⟨v5, L5, rfl, h5, ht5, hb5⟩
  have HL5 := Lib.hid (HL4.out.below hb5)
  have HR5 := Lib.hid (HR4.out.below hb5)
  have HB5 := Lib.hid (keepBelow HB4.out hb5)
  have HX5 := Lib.hid (HX4.out.below hb5)
  have HS5 := Lib.hid (HSC.out v5 L5 w5 h5 HR5.out)
  rw [ht5] at HS5
  obtain ⟨a5, c5, rfl⟩ := h5.form
  clear h5 ht5 hb5 x0' xl' s1 s2 s3 s4 s5 s6 s7 s8
  go_wp2_with fail
  refine HS5.out.mono ?_
  intro e w6 hpost
  obtain ⟨lf, hno⟩ := HMK.out.no
  obtain ⟨rfl, hb6⟩ := sc_no (some_vld HVL.out.1) HVL.out.2 hno hpost
  have HL6 := Lib.hid (HL5.out.below hb6)
  have HR6 := Lib.hid (HR5.out.below hb6)
  have HB6 := Lib.hid (keepBelow HB5.out hb6)
  have HX6 := Lib.hid (HX5.out.below hb6)
  clear hpost hno hb6
  go_wp2_with fail
  go_loopw [75] (fun i wr => ∃ k : Nat, k ≤ n ∧ i = .int .i64 k ∧ Below w6.heap.size w6 wr) (fun i _ => n - (intOf i).toNat)
  case atStart => exact ⟨0, Nat.zero_le _, rfl, Below.refl _ _⟩
  case round =>
   obtain ⟨k, hk, rfl, hB⟩ := hrel
   have HBr := Lib.hid (keepBelow HB6.out hB)
   have HB6r := Lib.hid hB
   by_cases hlt : k < n
   ·have hkc : k < c.length := by have := HNC.out; omega
    have HXr := Lib.hid (HX6.out.below hB)
    have HLr := Lib.hid (HL6.out.below hB)
    have HRr := Lib.hid (HR6.out.below hB)
    have s2 : (k : Int) ≤ 24 := by have := HLP.out; have := HNC.out; omega
    have HKC := Lib.hid hkc
    have hcj := HCJ.out _ _ _ HXr.out (by rw [natI_length]; omega) (by rw [natI_length]; have := HLP.out; omega)
    have HCJ2 := Lib.hid hcj
    clear hB hkc hcj
    go_wp2_with fail
    refine HCJ2.out.mono ?_
    rintro e w7 ⟨v7, rfl, o7, hb7⟩
    have HB7 := Lib.hid (keepBelow HBr.out hb7)
    have HL7 := Lib.hid (HLr.out.below hb7)
    have HR7 := Lib.hid (HRr.out.below hb7)
    have HDE := Lib.hid (HDJ.out v7 (natI c) k wr w7 o7 (by rw [natI_length]; exact HKC.out) (by rw [natI_length]; have := HLP.out; omega) hb7)
    have HSZ7 := Lib.hid hb7.size
    rw [natI_del] at HDE
    obtain ⟨a7, c7, rfl, -⟩ := o7.form
    clear o7 hb7
    go_wp2_with fail
    refine HDE.out.mono ?_
    rintro e w8 ⟨v8, rfl, h8, hb8⟩
    have HB8 := Lib.hid (keepBelow HBr.out hb8)
    have HB68 := Lib.hid (keepBelow HB6r.out hb8)
    have HL8 := Lib.hid (HLr.out.below hb8)
    have HR8 := Lib.hid (HRr.out.below hb8)
    have HS8 := Lib.hid (HSM.out v8 _ w8 HL8.out h8 (fun x hx => HCL.out x ((del_mem HMK.out.pw HKC.out).1 hx).1) HAF.out HN.out)
    obtain ⟨a8, c8, rfl⟩ := h8.form
    clear h8 hb8
    go_wp2_with fail
    refine HS8.out.mono ?_
    rintro e w9 ⟨v9, L9, rfl, h9, ht9, hb9⟩
    have HB9 := Lib.hid (keepBelow HB8.out hb9)
    have HB69 := Lib.hid (keepBelow HB68.out hb9)
    have HR9 := Lib.hid (HR8.out.below hb9)
    have HS9 := Lib.hid (HSC.out v9 L9 w9 h9 HR9.out)
    rw [ht9] at HS9
    obtain ⟨a9, c9, rfl⟩ := h9.form
    clear h9 ht9 hb9
    go_wp2_with fail
    refine HS9.out.mono ?_
    intro e wa hpost
    obtain ⟨aa, haa⟩ := HMK.out.ok k HKC.out
    obtain ⟨q1, q2, q3, rfl, hba⟩ := sc_ok (some_vld HVL.out.1) HVL.out.2 haa hpost
    have HBa : Hid (Below w6.heap.size w6 wa) := keepBelow HB69.out hba
    clear hpost haa hba
    go_wp2
    go_roundw
    case rel => exact ⟨k + 1, by omega, by go_num, HBa.out⟩
    case measure => simp [intOf]; omega
   ·have hke : k = n := by omega
    subst hke
    clear hB
    go_wp2
    go_ret
    exact ⟨rfl, HBr.out⟩
 ·have hq := cfA_ne (l := tks L) (res := sts R) (start := start) (by rw [HP.out]; exact h0)
  rw [HP.out] at hq
  have g1 : (p.1 != 0) = true := by simpa using h0
  rw [hq]
  have hnl : (natI []).length = 0 := rfl
  rw [hnl]
  clear h0 hq
  go_wp2
  go_ret
  exact ⟨rfl, HB3.out⟩
end Go.Proofs.YtlbjfbpejomkmaaGreat
