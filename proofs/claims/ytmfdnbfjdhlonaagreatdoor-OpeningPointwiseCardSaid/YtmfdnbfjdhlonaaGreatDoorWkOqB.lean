import Derived.Test.YtmfdnbfjdhlonaaGreatDoorWkOqA
import Derived.Test.YtmfdnbfjdhlonaaGreatDoorWkOzH
import Derived.Test.YtmfdnbfjdhlonaaGreatDoorWkBa
/- opening: group. -/
namespace Go.Proofs.YtmfdnbfjdhlonaaGreatDoor
open Go.RowKit Wk Lib

theorem results_tmp4 {fn : Func} {t u v x : Tmp} (h : fn.results = #[.tmp t, .tmp u, .tmp v, .tmp x]) (tmps : Array Value) (P : Program) (w : World) :
  (results fn tmps).run P w = .ok (.tuple #[tmps.getD t undef, tmps.getD u undef, tmps.getD v undef, tmps.getD x undef]) w := by
 simp [results, h]
theorem partC_len (c : UInt8) : ∀ (s : Bs), (splitC c s).length ≤ s.length + 1
 | [] => by simp [splitC]
 | d :: r => by
  have ih := partC_len c r
  rw [splitC]
  split
  ·simp; omega
  ·cases e : splitC c r with
   | nil => simp
   | cons q qs => rw [e] at ih; simp at ih ⊢; omega
def SubB (a b : Bs) : Prop := a.length ≤ b.length ∧ ∀ x ∈ a, x ∈ b
theorem SubB.trans {a b c : Bs} (h : SubB a b) (h' : SubB b c) : SubB a c := ⟨Nat.le_trans h.1 h'.1, fun x hx => h'.2 x (h.2 x hx)⟩
theorem SubB.of_sublist {a b : Bs} (h : List.Sublist a b) : SubB a b := ⟨h.length_le, fun _ hx => h.subset hx⟩
theorem subB_refl (a : Bs) : SubB a a := ⟨Nat.le_refl _, fun _ h => h⟩
theorem sub_trimL (a : Bs) (c : UInt8) : SubB (trimLeftB a c) a := .of_sublist (List.dropWhile_suffix (p := (· == c)) (l := a)).sublist
theorem sub_trim (a : Bs) (c : UInt8) : SubB (trimB a c) a := by
 refine (sub_trimL _ c).trans (.of_sublist ?_)
 have := (List.dropWhile_suffix (p := (· == c)) (l := a.reverse)).sublist
 have := this.reverse
 rw [List.reverse_reverse] at this
 exact this
theorem sub_scan1 (a : Bs) : SubB (scanM a).1 a := .of_sublist (List.takeWhile_prefix (p := (· != 32)) (l := a)).sublist
theorem sub_scan2 (a : Bs) : SubB (scanM a).2 a := .of_sublist (List.dropWhile_suffix (p := (· != 32)) (l := a)).sublist
theorem sub_split (c : UInt8) : ∀ (a : Bs), ∀ l ∈ splitC c a, SubB l a
 | [] => fun l hl => by simp [splitC] at hl; subst hl; exact subB_refl _
 | d :: r => fun l hl => by
  have ih := sub_split c r
  have hc : ∀ {q}, SubB q r → SubB q (d :: r) := fun h => ⟨by have := h.1; simp; omega, fun x hx => List.mem_cons_of_mem _ (h.2 x hx)⟩
  rw [splitC] at hl
  split at hl
  ·rcases List.mem_cons.1 hl with rfl | h
   ·exact ⟨by simp, fun x hx => by simp at hx⟩
   ·exact hc (ih l h)
  ·cases e : splitC c r with
   | nil => exact absurd e (splitC_ne c r)
   | cons q qs =>
    rw [e] at hl ih
    rcases List.mem_cons.1 hl with rfl | h
    ·have := ih q (List.mem_cons_self ..)
     refine ⟨by have := this.1; simp; omega, fun x hx => ?_⟩
     rcases List.mem_cons.1 hx with rfl | h
     ·exact List.mem_cons_self ..
     ·exact List.mem_cons_of_mem _ (this.2 x h)
    ·exact hc (ih l (List.mem_cons_of_mem _ h))
theorem sub_cut (c : UInt8) (a : Bs) : SubB (cut a [c]).1 a ∧ SubB (cut a [c]).2.1 a := by
 rw [cut_one]
 split
 ·refine ⟨.of_sublist (List.takeWhile_prefix (p := (· != c)) (l := a)).sublist, .of_sublist ?_⟩
  exact (List.tail_sublist _).trans (List.dropWhile_suffix (p := (· != c)) (l := a)).sublist
 ·exact ⟨subB_refl _, ⟨Nat.zero_le _, fun x hx => by simp at hx⟩⟩
def CAnyS (s : Bs) : Prop := ∀ T : ByteArray, SubB (bsO T) s → CAny T
theorem CAnyS.sub {a b : Bs} (h : CAnyS b) (hs : SubB a b) : CAnyS a := fun T hT => h T (hT.trans hs)
theorem cutOn (c : UInt8) (s : ByteArray) (hs : s.size < 4294967281) (w : World) (hg : Glob w) :
  Calls Tryz.prog 106 #[.string s, .string ⟨#[c]⟩] w fun e w' => e = .returned (.tuple #[.string ⟨(Lib.cut (bsO s) [c]).1.toArray⟩, .string ⟨(Lib.cut (bsO s) [c]).2.1.toArray⟩, .bool (Lib.cut (bsO s) [c]).2.2]) ∧ Below w.heap.size w w' := by
 obtain ⟨m, hm⟩ := hg
 exact (Tryz.strings_Cut s ⟨#[c]⟩ m w hs hm).mono fun e w' ⟨h1, k, h2⟩ => ⟨h1, by rw [h2]; exact below_drewN (Below.refl _ _) _⟩
theorem behB_some {L : List Sp} (x : Int) (h : 0 < L.length) : behB L x = decide (x ≤ (L.getD (L.length - 1) (0, 0)).2) := by
 unfold behB
 rw [List.getLast?_eq_getElem?, List.getElem?_eq_getElem (by omega)]
 simp only
 rw [List.getD_eq_getElem?_getD, List.getElem?_eq_getElem (by omega)]
 rfl

def GrPost (r : (Int × Int × List Sp) × Int) (w : World) (e : Ending) (w' : World) : Prop := ∃ v, e = .returned (.tuple #[.int .i64 r.1.1, .int .i64 r.1.2.1, v, .int .i64 r.2]) ∧ OwnS w' w.heap.size v r.1.2.2 ∧ Below w.heap.size w w'
theorem grp_bad {r : (Int × Int × List Sp) × Int} {w w' : World} {n : Int} (h : r = (badG, n)) (hb : Below w.heap.size w w') : GrPost r w (.returned (.tuple #[.int .i64 0, .int .i64 0, .slice none 0 0, .int .i64 n])) w' := by
 subst h
 exact ⟨_, rfl, OwnS.nil _ _, hb⟩
set_option maxRecDepth 100000 in
set_option maxHeartbeats 8000000 in
theorem group_any (s : ByteArray) (hs : s.size < 4294960000) (hc : CAnyS (bsO s)) (w : World) (hg : Glob w) :
  Calls Tryz.prog 64 #[.string s] w (GrPost (groupM (bsO s)) w) := by
 obtain ⟨R, hR⟩ : ∃ R, groupM (bsO s) = R := ⟨_, rfl⟩
 have HCA := Lib.hid hc
 have HG := Lib.hid hg
 have HTB : Hid (∀ w', w' = w ∨ w' = w.drew → Below w.heap.size w w') := Lib.hid fun w' h => by rcases h with rfl | rfl; exact Below.refl _ _; exact (Below.refl _ _).drew
 have hm0 := hR
 unfold groupM at hm0
 have d0 := (sub_trim (bsO s) 32)
 obtain ⟨T, hT⟩ : ∃ P : ByteArray, ⟨(trimB (bsO s) 32).toArray⟩ = P := ⟨_, rfl⟩
 have hTb : bsO T = trimB (bsO s) 32 := by rw [← hT]
 have HTR := Lib.hid (Tryz.strings_Trim_one s 32 (by decide) w (by omega))
 change Hid (Calls _ _ _ _ fun e w' => e = .returned (.string ⟨(trimB (bsO s) 32).toArray⟩) ∧ _) at HTR
 rw [hT] at HTR
 rw [← hTb] at hm0 d0
 have zT : T.size < 4294960000 := by have := d0.1; rw [bs_len, bs_len] at this; omega
 have HSC := Lib.hid (fun W => scan_any T (by omega) W)
 have d1 := (sub_scan1 (bsO T)).trans d0
 have d2 := (sub_scan2 (bsO T)).trans d0
 obtain ⟨⟨dy, rs⟩, hdr⟩ : ∃ p, scanM (bsO T) = p := ⟨_, rfl⟩
 rw [hdr] at HSC hm0 d1 d2
 simp only at HSC hm0 d1 d2
 obtain ⟨D, hD⟩ : ∃ P : ByteArray, ⟨dy.toArray⟩ = P := ⟨_, rfl⟩
 obtain ⟨E, hE⟩ : ∃ P : ByteArray, ⟨rs.toArray⟩ = P := ⟨_, rfl⟩
 have hDb : bsO D = dy := by rw [← hD]
 have hEb : bsO E = rs := by rw [← hE]
 rw [hD, hE] at HSC
 rw [← hDb, ← hEb] at hm0
 rw [← hDb] at d1
 rw [← hEb] at d2
 have zD : D.size < 4294960000 := by have := d1.1; rw [bs_len, bs_len] at this; omega
 have zE : E.size < 4294960000 := by have := d2.1; rw [bs_len, bs_len] at this; omega
 have HCU : Hid (∀ W, Below w.heap.size w W → _) := Lib.hid (fun W hb => cutOn 45 D (by omega) W (hg.below hb))
 unfold groupTo at hm0
 obtain ⟨⟨fa, fb, two⟩, hcd⟩ : ∃ p, cut (bsO D) [45] = p := ⟨_, rfl⟩
 rw [hcd] at HCU hm0
 simp only at HCU hm0
 obtain ⟨F, hF⟩ : ∃ P : ByteArray, ⟨fa.toArray⟩ = P := ⟨_, rfl⟩
 obtain ⟨G, hG⟩ : ∃ P : ByteArray, ⟨fb.toArray⟩ = P := ⟨_, rfl⟩
 have hFb : bsO F = fa := by rw [← hF]
 have hGb : bsO G = fb := by rw [← hG]
 rw [hF, hG] at HCU
 have HWF := Lib.hid (fun W => weekday_any F W)
 have HWL := Lib.hid (fun W => weekday_any G W)
 rw [hFb] at HWF
 rw [hGb] at HWL
 have eF := findM_e wdayL fa
 have eG := findM_e wdayL fb
 obtain ⟨⟨f1, fe⟩, hf1⟩ : ∃ p, findM' wdayL fa = p := ⟨_, rfl⟩
 obtain ⟨⟨g1, ge⟩, hg1⟩ : ∃ p, findM' wdayL fb = p := ⟨_, rfl⟩
 rw [hf1] at HWF hm0 eF
 rw [hg1] at HWL hm0 eG
 have d3 := (sub_trimL (bsO E) 32).trans d2
 have HTL := Lib.hid (fun W => Tryz.strings_TrimLeft_one E 32 (by decide) W)
 change Hid (∀ W, Calls _ _ _ _ fun e w' => e = .returned (.string ⟨(trimLeftB (bsO E) 32).toArray⟩) ∧ _) at HTL
 obtain ⟨Z, hZ⟩ : ∃ P : ByteArray, ⟨(trimLeftB (bsO E) 32).toArray⟩ = P := ⟨_, rfl⟩
 have hZb : bsO Z = trimLeftB (bsO E) 32 := by rw [← hZ]
 rw [hZ] at HTL
 rw [← hZb] at hm0 d3
 have zZ : Z.size < 4294960000 := by have := d3.1; rw [bs_len, bs_len] at this; omega
 have HSP : Hid (∀ W, Below w.heap.size w W → _) := Lib.hid (fun W hb => parts_any 44 Z (by omega) W (hg.below hb))
 have HSUB0 := fun l hl => (sub_split 44 (bsO Z) l hl).trans d3
 have hpl := partC_len 44 (bsO Z)
 rw [bs_len] at hpl
 obtain ⟨PS, hPS⟩ : ∃ PS, splitC 44 (bsO Z) = PS := ⟨_, rfl⟩
 rw [hPS] at HSP hm0 HSUB0 hpl
 have HSUB := Lib.hid HSUB0
 have HPL : Hid (PS.length ≤ 4294960000) := Lib.hid (by omega)
 simp only at hm0 eF eG HWF HWL
 rw [← hR] at *
 clear HSUB0 hpl hPS hZb hZ hf1 hg1 hF hG hFb hGb hcd hD hE hDb hEb hdr hT hTb d0 d1 d2 d3 zT zD zE zZ hc hg hR
 have HM := Lib.hid hm0
 clear hm0
 go_enter Tryz.func64, Tryz.ntmps64
 rcases eF with rfl | rfl
 ·cases two with
  | true =>
   rcases eG with rfl | rfl
   ·have HEND : Hid (∀ RR, spnRun PS (decide (g1 < f1), []) = RR → groupEnd f1 g1 RR = groupM (bsO s)) := Lib.hid fun RR h => by
     have h2 := HM.out
     rw [if_neg (by simp), if_neg (by simp), if_pos rfl] at h2
     rw [← h, ← h2]
    obtain ⟨RR, hRR⟩ : ∃ RR, spnRun PS (decide (g1 < f1), []) = RR := ⟨_, rfl⟩
    have HEND := Lib.hid (HEND.out RR hRR)
    have HRUN : Hid (spnRun (PS.drop 0) (decide (g1 < f1), []) = RR) := Lib.hid hRR
    clear hRR HM
    go_wp2_with (first | (go_at_call 104; refine (HTR.out).mono ?_; rintro e w1 ⟨rfl, hw⟩; have HB1 := Lib.hid (HTB.out _ hw); clear hw) | (go_at_call 103; refine (HSC.out _).mono ?_; rintro e w2 ⟨rfl, hb2⟩; have HB2 := Lib.hid (keepBelow HB1.out hb2); clear hb2) | (go_at_call 106; refine (HCU.out _ HB2.out).mono ?_; rintro e w3 ⟨rfl, hb3⟩; have HB3 := Lib.hid (keepBelow HB2.out hb3); clear hb3) | (go_at_call 107; first | (with_reducible refine (HWF.out _).mono ?_; rintro e w4 ⟨rfl, hb4⟩; have HB4 := Lib.hid (keepBelow HB3.out hb4); clear hb4) | (with_reducible refine (HWL.out _).mono ?_; rintro e w5 ⟨rfl, hb5⟩; have HB5 := Lib.hid (keepBelow HB4.out hb5); clear hb5)) | (go_at_call 108; refine (HTL.out _).mono ?_; rintro e w6 ⟨rfl, hw⟩; rw [hw]; clear hw) | (go_at_call 63; refine (HSP.out _ HB5.out).mono ?_; rintro e w7 ⟨⟨aa, kk, rfl, hcell⟩, hb7⟩; have HCELL := Lib.hid hcell; have HB7 := Lib.hid (keepBelow HB5.out hb7); clear hb7 hcell) | fail)
    have HG7 := Lib.hid (HG.out.below HB7.out)
    go_loopw [2, 3, 4, 5, 11, 13, 14, 15, 16, 17, 18, 19, 20, 56] (fun u2 u3 u4 _ u11 _ _ _ _ _ _ _ _ u56 wr => ∃ (k : Nat) (q : Bool) (L : List Sp), u2 = .int .i64 f1 ∧ u3 = .int .i64 g1 ∧ u11 = .bool q ∧ u56 = .int .i64 k ∧ k ≤ PS.length ∧ L.length = k ∧ OwnS wr w7.heap.size u4 L ∧ Hid (spnRun (PS.drop k) (q, L) = RR) ∧ Below w7.heap.size w7 wr) (fun _ _ _ _ _ _ _ _ _ _ _ _ _ u56 _ => PS.length - (intOf u56).toNat)
    case atStart => exact ⟨0, _, [], rfl, rfl, rfl, rfl, Nat.zero_le _, rfl, OwnS.nil _ _, HRUN, Below.refl _ _⟩
    case round =>
     obtain ⟨k, q, L, rfl, rfl, rfl, rfl, hk, hL, ho, HR, hB⟩ := hrel
     have hkb : (k : Int) ≤ 4294967280 := by have := HPL.out; omega
     have hLb : (L.length : Int) ≤ 4294967280 := by omega
     have hLn : L.length < 1000000000000 := by omega
     have HLK := Lib.hid hL
     clear hL
     by_cases hlt : k < PS.length
     ·have hlt' : (k : Int) < PS.length := by omega
      obtain ⟨P, hP⟩ : ∃ P : ByteArray, ⟨(PS.getD k []).toArray⟩ = P := ⟨_, rfl⟩
      have hPb : bsO P = PS.getD k [] := by rw [← hP]
      have hcl := keepCell hB (HCELL.out k hlt)
      rw [hP] at hcl
      have hsub : SubB (bsO P) (bsO s) := by rw [hPb]; exact HSUB.out _ (by rw [List.getD_eq_getElem?_getD, List.getElem?_eq_getElem hlt]; exact List.getElem_mem hlt)
      have hPs : P.size < 4294967281 := by have := hsub.1; rw [bs_len, bs_len] at this; omega
      have HRS : Hid ((match spnStep (q, L) (bsO P) with | none => none | some st' => spnRun (PS.drop (k + 1)) st') = RR) := by
       refine Lib.hid ?_
       have h := HR.out
       rw [List.drop_eq_getElem_cons hlt, spnRun] at h
       rw [hPb, List.getD_eq_getElem?_getD, List.getElem?_eq_getElem hlt]
       exact h
      clear HR
      have HGr : Hid (Glob wr) := Lib.hid (HG7.out.below hB)
      have HCP := Lib.hid (cutOn 45 P hPs wr HGr.out)
      obtain ⟨s1, s2⟩ := sub_cut 45 (bsO P)
      obtain ⟨⟨a, b, c⟩, hc⟩ : ∃ c, cut (bsO P) [45] = c := ⟨_, rfl⟩
      have HRT : Hid ((match (if c = false ∨ (oclk a).2 = 3 ∨ (oclk b).2 = 3 then none else some (q || (oclk a).2 != 0 || (oclk b).2 != 0 || decide ((oclk b).1 ≤ (oclk a).1) || behB L (oclk a).1, L ++ [((oclk a).1, (oclk b).1)])) with | none => none | some st' => spnRun (PS.drop (k + 1)) st') = RR) := by
       have h := HRS.out
       unfold spnStep at h
       rw [hc] at h
       exact h
      clear HRS
      rw [hc] at HCP s1 s2
      simp only at HCP s1 s2
      obtain ⟨A, hA⟩ : ∃ T : ByteArray, ⟨a.toArray⟩ = T := ⟨_, rfl⟩
      obtain ⟨B, hB2⟩ : ∃ T : ByteArray, ⟨b.toArray⟩ = T := ⟨_, rfl⟩
      have hAb : bsO A = a := by rw [← hA]
      have hBb : bsO B = b := by rw [← hB2]
      rw [hA, hB2] at HCP
      have sA : SubB (bsO A) (bsO s) := by rw [hAb]; exact s1.trans hsub
      have sB : SubB (bsO B) (bsO s) := by rw [hBb]; exact s2.trans hsub
      have zA : A.size < 4294967281 := by have := sA.1; rw [bs_len, bs_len] at this; omega
      have zB : B.size < 4294967281 := by have := sB.1; rw [bs_len, bs_len] at this; omega
      have HKA := Lib.hid (fun W hg => oclk_any A zA (HCA.out A sA) W hg)
      have HKB := Lib.hid (fun W hg => oclk_any B zB (HCA.out B sB) W hg)
      rw [hAb] at HKA
      rw [hBb] at HKB
      obtain ⟨⟨x, e⟩, hx⟩ : ∃ r, oclk a = r := ⟨_, rfl⟩
      obtain ⟨⟨y, f⟩, hy⟩ : ∃ r, oclk b = r := ⟨_, rfl⟩
      rw [hx] at HKA HRT
      rw [hy] at HKB HRT
      simp only at HKA HKB HRT
      clear hx hy hAb hBb hA hB2 s1 s2 sA sB zA zB hc hPb hsub hPs hP
      by_cases hbad : c = false ∨ e = 3 ∨ f = 3
      ·have HN : Hid (none = RR) := by
        have h := HRT.out
        rw [if_pos hbad] at h
        exact Lib.hid h
       clear HRT
       have hfin : Hid ((groupM (bsO s)) = (badG, 3)) := Lib.hid (by have h := HEND.out; rw [← HN.out] at h; exact h.symm)
       rcases hbad with rfl | hbad
       ·go_wp2_with (first | (go_at_call 106; refine HCP.out.mono ?_; rintro e wA ⟨rfl, hbc⟩; have HGA := Lib.hid (HGr.out.below hbc)) | (go_at_call 109; first | (with_reducible refine (HKA.out _ HGA.out).mono ?_; rintro e wB ⟨rfl, hbd⟩; have HGB := Lib.hid (HGA.out.below hbd)) | (with_reducible refine (HKB.out _ HGB.out).mono ?_; rintro e wC ⟨rfl, hbe⟩)) | fail)
        ((try simp only [Exit.inBlock, Exit.then]); refine bodyPost_ret (results_tmp4 rfl _ _ _) rfl ?_)
        exact grp_bad hfin.out (keepBelow HB7.out (keepBelow (keepBelow (keepBelow hB hbc) (by assumption)) (by assumption)))
       ·cases c with
        | false =>
         go_wp2_with (first | (go_at_call 106; refine HCP.out.mono ?_; rintro e wA ⟨rfl, hbc⟩; have HGA := Lib.hid (HGr.out.below hbc)) | (go_at_call 109; first | (with_reducible refine (HKA.out _ HGA.out).mono ?_; rintro e wB ⟨rfl, hbd⟩; have HGB := Lib.hid (HGA.out.below hbd)) | (with_reducible refine (HKB.out _ HGB.out).mono ?_; rintro e wC ⟨rfl, hbe⟩)) | fail)
         ((try simp only [Exit.inBlock, Exit.then]); refine bodyPost_ret (results_tmp4 rfl _ _ _) rfl ?_)
         exact grp_bad hfin.out (keepBelow HB7.out (keepBelow (keepBelow (keepBelow hB hbc) (by assumption)) (by assumption)))
        | true =>
         by_cases he : e = 3
         ·subst he
          go_wp2_with (first | (go_at_call 106; refine HCP.out.mono ?_; rintro e wA ⟨rfl, hbc⟩; have HGA := Lib.hid (HGr.out.below hbc)) | (go_at_call 109; first | (with_reducible refine (HKA.out _ HGA.out).mono ?_; rintro e wB ⟨rfl, hbd⟩; have HGB := Lib.hid (HGA.out.below hbd)) | (with_reducible refine (HKB.out _ HGB.out).mono ?_; rintro e wC ⟨rfl, hbe⟩)) | fail)
          ((try simp only [Exit.inBlock, Exit.then]); refine bodyPost_ret (results_tmp4 rfl _ _ _) rfl ?_)
          exact grp_bad hfin.out (keepBelow HB7.out (keepBelow (keepBelow (keepBelow hB hbc) (by assumption)) (by assumption)))
         ·have hf : f = 3 := by rcases hbad with h | h; exact absurd h he; exact h
          subst hf
          have he' : (e == 3) = false := by simpa using he
          go_wp2_with (first | (go_at_call 106; refine HCP.out.mono ?_; rintro e wA ⟨rfl, hbc⟩; have HGA := Lib.hid (HGr.out.below hbc)) | (go_at_call 109; first | (with_reducible refine (HKA.out _ HGA.out).mono ?_; rintro e wB ⟨rfl, hbd⟩; have HGB := Lib.hid (HGA.out.below hbd)) | (with_reducible refine (HKB.out _ HGB.out).mono ?_; rintro e wC ⟨rfl, hbe⟩)) | fail)
          ((try simp only [Exit.inBlock, Exit.then]); refine bodyPost_ret (results_tmp4 rfl _ _ _) rfl ?_)
          exact grp_bad hfin.out (keepBelow HB7.out (keepBelow (keepBelow (keepBelow hB hbc) (by assumption)) (by assumption)))
      ·have hc : c = true := by cases c with | true => rfl | false => exact absurd (Or.inl rfl) hbad
       have he : ¬e = 3 := fun h => hbad (.inr (.inl h))
       have hf : ¬f = 3 := fun h => hbad (.inr (.inr h))
       subst hc
       have HRT2 : Hid (spnRun (PS.drop (k + 1)) (q || e != 0 || f != 0 || decide (y ≤ x) || behB L x, L ++ [(x, y)]) = RR) := by
        have h := HRT.out
        rw [if_neg (by rintro (h | h | h); cases h; exact he h; exact hf h)] at h
        exact Lib.hid h
       clear HRT hbad
       have he' : (e == 3) = false := by simpa using he
       have hf' : (f == 3) = false := by simpa using hf
       clear he hf
       obtain ⟨pv, nv, rfl, hform⟩ := ho.form
       have HO := Lib.hid ho
       clear ho
       have HU : Hid (∀ X, Below wr.heap.size wr X → ∀ h : 0 < L.length, ∃ g, pv = some ⟨g, 0, none⟩ ∧ X.cell? ⟨g, (L.length - 1) * 2 + 1, none⟩ = some (.int .i64 (L.getD (L.length - 1) (0, 0)).2)) := Lib.hid fun X hX h => by
        obtain ⟨g, h1, h2, h3, h4⟩ := hform (L.length - 1) (by omega)
        exact ⟨g, h1, keepCell hX h4⟩
       clear hform
       go_upto_region 20 with (first | (go_at_call 106; refine HCP.out.mono ?_; rintro e wA ⟨rfl, hbc⟩; have HGA := Lib.hid (HGr.out.below hbc)) | (go_at_call 109; first | (with_reducible refine (HKA.out _ HGA.out).mono ?_; rintro e wB ⟨rfl, hbd⟩; have HGB := Lib.hid (HGA.out.below hbd)) | (with_reducible refine (HKB.out _ HGB.out).mono ?_; rintro e wC ⟨rfl, hbe⟩)) | fail)
       have HOC := Lib.hid (((HO.out.below hbc).below hbd).below hbe)
       have HBC := Lib.hid (keepBelow (keepBelow (keepBelow hB hbc) hbd) hbe)
       have HBX := Lib.hid (keepBelow (keepBelow hbc hbd) hbe)
       clear HKA HKB HCP hbc hbd hbe hB hcl HO HGA HGB HGr
       go_cut [11] from 86 to 115 (fun u wx => wx = wC ∧ ∃ q', u = .bool q' ∧ Hid (q' = (q || e != 0 || f != 0 || decide (y ≤ x) || behB L x)))
       case first =>
        cases q with
        | true =>
         go_wp2_with fail
         go_meet
         case rel => exact ⟨rfl, _, rfl, Lib.hid (by simp)⟩
        | false =>
         by_cases h1 : e = 0
         ·subst h1
          by_cases h2 : f = 0
          ·subst h2
           by_cases h3 : y ≤ x
           ·have h3' : decide (y ≤ x) = true := by simpa using h3
            go_wp2_with fail
            go_meet
            case rel => exact ⟨rfl, _, rfl, Lib.hid (by simp [h3])⟩
           ·have h3' : decide (y ≤ x) = false := by simpa using h3
            by_cases h4 : 0 < L.length
            ·have h4' : (0 : Int) < L.length := by omega
             obtain ⟨g, rfl, hcu⟩ := HU.out wC HBX.out h4
             obtain ⟨z, hz⟩ : ∃ z, (L.getD (L.length - 1) (0, 0)).2 = z := ⟨_, rfl⟩
             rw [hz] at hcu
             have s1 : IntKind.i64.wrap ((L.length : Int) - 1) = (L.length : Int) - 1 := by rw [IntKind.wrap_i64]; omega
             have s2 : ((L.length : Int) - 1).toNat = L.length - 1 := by omega
             have s3 : (0 : Int) ≤ (L.length : Int) - 1 := by omega
             have s4 : (L.length : Int) - 1 < L.length := by omega
             have HZ : Hid (decide (x ≤ z) = behB L x) := Lib.hid (by rw [behB_some x h4, hz])
             have h4h := Lib.hid h4
             clear h4 hz
             go_wp2_with fail
             go_meet
             case rel => exact ⟨rfl, _, rfl, Lib.hid (by rw [← HZ.out]; simp; omega)⟩
            ·have h4' : ¬(0 : Int) < L.length := by omega
             have HZ : Hid (behB L x = false) := Lib.hid (by rw [List.eq_nil_of_length_eq_zero (show L.length = 0 by omega)]; rfl)
             clear h4
             go_wp2_with fail
             go_meet
             case rel => exact ⟨rfl, _, rfl, Lib.hid (by rw [HZ.out]; simp; omega)⟩
          ·have h2' : (f == 0) = false := by simpa using h2
           have h2'' : (f != 0) = true := by simpa using h2
           go_wp2_with fail
           go_meet
           case rel => exact ⟨rfl, _, rfl, Lib.hid (by rw [h2'']; simp)⟩
         ·have h1' : (e == 0) = false := by simpa using h1
          have h1'' : (e != 0) = true := by simpa using h1
          go_wp2_with fail
          go_meet
          case rel => exact ⟨rfl, _, rfl, Lib.hid (by rw [h1'']; simp)⟩
       case rest =>
       obtain ⟨hwc, q', rfl, HQ⟩ := hcut
       subst hwc
       have HRT3 : Hid (spnRun (PS.drop (k + 1)) (q', L ++ [(x, y)]) = RR) := Lib.hid (by rw [HQ.out]; exact HRT2.out)
       clear HRT2 HQ
       have hoc := HOC.out
       have hBC := HBC.out
       go_wp2_with (at_builtin; refine wpList_app_span rfl (.tmp 116) (.tmp 120) rfl rfl hoc hBC rfl rfl hLn ?_; intro v1 w9 o1 b1 k1 z1; clear k1)
       go_roundw
       case rel => exact ⟨k + 1, _, _, rfl, rfl, rfl, by go_num, by omega, by have := HLK.out; simp; omega, o1, HRT3, b1⟩
       case measure => simp [intOf]; omega
     ·have hkl : PS.drop k = [] := List.drop_eq_nil_of_le (by omega)
      have HRS : Hid (groupEnd f1 g1 (some (q, L)) = (groupM (bsO s))) := by
       have h := HR.out
       rw [hkl, spnRun] at h
       have h2 := HEND.out
       rw [← h] at h2
       exact Lib.hid h2
      clear HR
      obtain ⟨pv, nv, rfl, -⟩ := ho.form
      have HO := Lib.hid ho
      clear ho
      cases q with
      | true =>
       go_wp2_with fail
       ((try simp only [Exit.inBlock, Exit.then]); refine bodyPost_ret (results_tmp4 rfl _ _ _) rfl ?_)
       refine grp_bad (n := 2) ?_ (keepBelow HB7.out hB)
       rw [← HRS.out]
       simp [groupEnd]
      | false =>
       by_cases hten : 10 < L.length
       ·have hten' : (10 : Int) < L.length := by omega
        go_wp2_with fail
        ((try simp only [Exit.inBlock, Exit.then]); refine bodyPost_ret (results_tmp4 rfl _ _ _) rfl ?_)
        refine grp_bad (n := 2) ?_ (keepBelow HB7.out hB)
        rw [← HRS.out]
        simp [groupEnd, hten]
       ·have hten' : ¬(10 : Int) < L.length := by omega
        go_wp2_with fail
        ((try simp only [Exit.inBlock, Exit.then]); refine bodyPost_ret (results_tmp4 rfl _ _ _) rfl ?_)
        have h := HRS.out
        unfold groupEnd at h
        simp only at h
        rw [if_neg (by rintro (h | h); cases h; omega)] at h
        rw [← h]
        exact ⟨_, rfl, HO.out.mono HB7.out.size, keepBelow HB7.out hB⟩
   ·have HE : Hid (groupM (bsO s) = (badG, 3)) := Lib.hid (by
     have h2 := HM.out
     rw [if_neg (by simp), if_pos (by simp)] at h2
     exact h2.symm)
    go_wp2_with (first | (go_at_call 104; refine (HTR.out).mono ?_; rintro e w1 ⟨rfl, hw⟩; have HB1 := Lib.hid (HTB.out _ hw); clear hw) | (go_at_call 103; refine (HSC.out _).mono ?_; rintro e w2 ⟨rfl, hb2⟩; have HB2 := Lib.hid (keepBelow HB1.out hb2); clear hb2) | (go_at_call 106; refine (HCU.out _ HB2.out).mono ?_; rintro e w3 ⟨rfl, hb3⟩; have HB3 := Lib.hid (keepBelow HB2.out hb3); clear hb3) | (go_at_call 107; first | (with_reducible refine (HWF.out _).mono ?_; rintro e w4 ⟨rfl, hb4⟩; have HB4 := Lib.hid (keepBelow HB3.out hb4); clear hb4) | (with_reducible refine (HWL.out _).mono ?_; rintro e w5 ⟨rfl, hb5⟩; have HB5 := Lib.hid (keepBelow HB4.out hb5); clear hb5)) | (go_at_call 108; refine (HTL.out _).mono ?_; rintro e w6 ⟨rfl, hw⟩; rw [hw]; clear hw) | (go_at_call 63; refine (HSP.out _ HB5.out).mono ?_; rintro e w7 ⟨⟨aa, kk, rfl, hcell⟩, hb7⟩; have HCELL := Lib.hid hcell; have HB7 := Lib.hid (keepBelow HB5.out hb7); clear hb7 hcell) | fail)
    ((try simp only [Exit.inBlock, Exit.then]); refine bodyPost_ret (results_tmp4 rfl _ _ _) rfl ?_)
    exact grp_bad HE.out HB5.out
  | false =>
   have HEND : Hid (∀ RR, spnRun PS (decide (f1 < f1), []) = RR → groupEnd f1 f1 RR = groupM (bsO s)) := Lib.hid fun RR h => by
    have h2 := HM.out
    rw [if_neg (by simp), if_neg (by simp), if_neg (by simp)] at h2
    rw [← h, ← h2]
   obtain ⟨RR, hRR⟩ : ∃ RR, spnRun PS (decide (f1 < f1), []) = RR := ⟨_, rfl⟩
   have HEND := Lib.hid (HEND.out RR hRR)
   have HRUN : Hid (spnRun (PS.drop 0) (false, []) = RR) := Lib.hid (by rw [← hRR, List.drop_zero]; congr 2; simp)
   clear hRR HM
   go_wp2_with (first | (go_at_call 104; refine (HTR.out).mono ?_; rintro e w1 ⟨rfl, hw⟩; have HB1 := Lib.hid (HTB.out _ hw); clear hw) | (go_at_call 103; refine (HSC.out _).mono ?_; rintro e w2 ⟨rfl, hb2⟩; have HB2 := Lib.hid (keepBelow HB1.out hb2); clear hb2) | (go_at_call 106; refine (HCU.out _ HB2.out).mono ?_; rintro e w3 ⟨rfl, hb3⟩; have HB3 := Lib.hid (keepBelow HB2.out hb3); clear hb3) | (go_at_call 107; first | (with_reducible refine (HWF.out _).mono ?_; rintro e w4 ⟨rfl, hb4⟩; have HB4 := Lib.hid (keepBelow HB3.out hb4); clear hb4) | (with_reducible refine (HWL.out _).mono ?_; rintro e w5 ⟨rfl, hb5⟩; have HB5 := Lib.hid (keepBelow HB4.out hb5); clear hb5)) | (go_at_call 108; refine (HTL.out _).mono ?_; rintro e w6 ⟨rfl, hw⟩; rw [hw]; clear hw) | (go_at_call 63; refine (HSP.out _ HB4.out).mono ?_; rintro e w7 ⟨⟨aa, kk, rfl, hcell⟩, hb7⟩; have HCELL := Lib.hid hcell; have HB7 := Lib.hid (keepBelow HB4.out hb7); clear hb7 hcell) | fail)
   have HG7 := Lib.hid (HG.out.below HB7.out)
   go_loopw [2, 3, 4, 5, 11, 13, 14, 15, 16, 17, 18, 19, 20, 56] (fun u2 u3 u4 _ u11 _ _ _ _ _ _ _ _ u56 wr => ∃ (k : Nat) (q : Bool) (L : List Sp), u2 = .int .i64 f1 ∧ u3 = .int .i64 f1 ∧ u11 = .bool q ∧ u56 = .int .i64 k ∧ k ≤ PS.length ∧ L.length = k ∧ OwnS wr w7.heap.size u4 L ∧ Hid (spnRun (PS.drop k) (q, L) = RR) ∧ Below w7.heap.size w7 wr) (fun _ _ _ _ _ _ _ _ _ _ _ _ _ u56 _ => PS.length - (intOf u56).toNat)
   case atStart => exact ⟨0, _, [], rfl, rfl, rfl, rfl, Nat.zero_le _, rfl, OwnS.nil _ _, HRUN, Below.refl _ _⟩
   case round =>
    obtain ⟨k, q, L, rfl, rfl, rfl, rfl, hk, hL, ho, HR, hB⟩ := hrel
    have hkb : (k : Int) ≤ 4294967280 := by have := HPL.out; omega
    have hLb : (L.length : Int) ≤ 4294967280 := by omega
    have hLn : L.length < 1000000000000 := by omega
    have HLK := Lib.hid hL
    clear hL
    by_cases hlt : k < PS.length
    ·have hlt' : (k : Int) < PS.length := by omega
     obtain ⟨P, hP⟩ : ∃ P : ByteArray, ⟨(PS.getD k []).toArray⟩ = P := ⟨_, rfl⟩
     have hPb : bsO P = PS.getD k [] := by rw [← hP]
     have hcl := keepCell hB (HCELL.out k hlt)
     rw [hP] at hcl
     have hsub : SubB (bsO P) (bsO s) := by rw [hPb]; exact HSUB.out _ (by rw [List.getD_eq_getElem?_getD, List.getElem?_eq_getElem hlt]; exact List.getElem_mem hlt)
     have hPs : P.size < 4294967281 := by have := hsub.1; rw [bs_len, bs_len] at this; omega
     have HRS : Hid ((match spnStep (q, L) (bsO P) with | none => none | some st' => spnRun (PS.drop (k + 1)) st') = RR) := by
      refine Lib.hid ?_
      have h := HR.out
      rw [List.drop_eq_getElem_cons hlt, spnRun] at h
      rw [hPb, List.getD_eq_getElem?_getD, List.getElem?_eq_getElem hlt]
      exact h
     clear HR
     have HGr : Hid (Glob wr) := Lib.hid (HG7.out.below hB)
     have HCP := Lib.hid (cutOn 45 P hPs wr HGr.out)
     obtain ⟨s1, s2⟩ := sub_cut 45 (bsO P)
     obtain ⟨⟨a, b, c⟩, hc⟩ : ∃ c, cut (bsO P) [45] = c := ⟨_, rfl⟩
     have HRT : Hid ((match (if c = false ∨ (oclk a).2 = 3 ∨ (oclk b).2 = 3 then none else some (q || (oclk a).2 != 0 || (oclk b).2 != 0 || decide ((oclk b).1 ≤ (oclk a).1) || behB L (oclk a).1, L ++ [((oclk a).1, (oclk b).1)])) with | none => none | some st' => spnRun (PS.drop (k + 1)) st') = RR) := by
      have h := HRS.out
      unfold spnStep at h
      rw [hc] at h
      exact h
     clear HRS
     rw [hc] at HCP s1 s2
     simp only at HCP s1 s2
     obtain ⟨A, hA⟩ : ∃ T : ByteArray, ⟨a.toArray⟩ = T := ⟨_, rfl⟩
     obtain ⟨B, hB2⟩ : ∃ T : ByteArray, ⟨b.toArray⟩ = T := ⟨_, rfl⟩
     have hAb : bsO A = a := by rw [← hA]
     have hBb : bsO B = b := by rw [← hB2]
     rw [hA, hB2] at HCP
     have sA : SubB (bsO A) (bsO s) := by rw [hAb]; exact s1.trans hsub
     have sB : SubB (bsO B) (bsO s) := by rw [hBb]; exact s2.trans hsub
     have zA : A.size < 4294967281 := by have := sA.1; rw [bs_len, bs_len] at this; omega
     have zB : B.size < 4294967281 := by have := sB.1; rw [bs_len, bs_len] at this; omega
     have HKA := Lib.hid (fun W hg => oclk_any A zA (HCA.out A sA) W hg)
     have HKB := Lib.hid (fun W hg => oclk_any B zB (HCA.out B sB) W hg)
     rw [hAb] at HKA
     rw [hBb] at HKB
     obtain ⟨⟨x, e⟩, hx⟩ : ∃ r, oclk a = r := ⟨_, rfl⟩
     obtain ⟨⟨y, f⟩, hy⟩ : ∃ r, oclk b = r := ⟨_, rfl⟩
     rw [hx] at HKA HRT
     rw [hy] at HKB HRT
     simp only at HKA HKB HRT
     clear hx hy hAb hBb hA hB2 s1 s2 sA sB zA zB hc hPb hsub hPs hP
     by_cases hbad : c = false ∨ e = 3 ∨ f = 3
     ·have HN : Hid (none = RR) := by
       have h := HRT.out
       rw [if_pos hbad] at h
       exact Lib.hid h
      clear HRT
      have hfin : Hid ((groupM (bsO s)) = (badG, 3)) := Lib.hid (by have h := HEND.out; rw [← HN.out] at h; exact h.symm)
      rcases hbad with rfl | hbad
      ·go_wp2_with (first | (go_at_call 106; refine HCP.out.mono ?_; rintro e wA ⟨rfl, hbc⟩; have HGA := Lib.hid (HGr.out.below hbc)) | (go_at_call 109; first | (with_reducible refine (HKA.out _ HGA.out).mono ?_; rintro e wB ⟨rfl, hbd⟩; have HGB := Lib.hid (HGA.out.below hbd)) | (with_reducible refine (HKB.out _ HGB.out).mono ?_; rintro e wC ⟨rfl, hbe⟩)) | fail)
       ((try simp only [Exit.inBlock, Exit.then]); refine bodyPost_ret (results_tmp4 rfl _ _ _) rfl ?_)
       exact grp_bad hfin.out (keepBelow HB7.out (keepBelow (keepBelow (keepBelow hB hbc) (by assumption)) (by assumption)))
      ·cases c with
       | false =>
        go_wp2_with (first | (go_at_call 106; refine HCP.out.mono ?_; rintro e wA ⟨rfl, hbc⟩; have HGA := Lib.hid (HGr.out.below hbc)) | (go_at_call 109; first | (with_reducible refine (HKA.out _ HGA.out).mono ?_; rintro e wB ⟨rfl, hbd⟩; have HGB := Lib.hid (HGA.out.below hbd)) | (with_reducible refine (HKB.out _ HGB.out).mono ?_; rintro e wC ⟨rfl, hbe⟩)) | fail)
        ((try simp only [Exit.inBlock, Exit.then]); refine bodyPost_ret (results_tmp4 rfl _ _ _) rfl ?_)
        exact grp_bad hfin.out (keepBelow HB7.out (keepBelow (keepBelow (keepBelow hB hbc) (by assumption)) (by assumption)))
       | true =>
        by_cases he : e = 3
        ·subst he
         go_wp2_with (first | (go_at_call 106; refine HCP.out.mono ?_; rintro e wA ⟨rfl, hbc⟩; have HGA := Lib.hid (HGr.out.below hbc)) | (go_at_call 109; first | (with_reducible refine (HKA.out _ HGA.out).mono ?_; rintro e wB ⟨rfl, hbd⟩; have HGB := Lib.hid (HGA.out.below hbd)) | (with_reducible refine (HKB.out _ HGB.out).mono ?_; rintro e wC ⟨rfl, hbe⟩)) | fail)
         ((try simp only [Exit.inBlock, Exit.then]); refine bodyPost_ret (results_tmp4 rfl _ _ _) rfl ?_)
         exact grp_bad hfin.out (keepBelow HB7.out (keepBelow (keepBelow (keepBelow hB hbc) (by assumption)) (by assumption)))
        ·have hf : f = 3 := by rcases hbad with h | h; exact absurd h he; exact h
         subst hf
         have he' : (e == 3) = false := by simpa using he
         go_wp2_with (first | (go_at_call 106; refine HCP.out.mono ?_; rintro e wA ⟨rfl, hbc⟩; have HGA := Lib.hid (HGr.out.below hbc)) | (go_at_call 109; first | (with_reducible refine (HKA.out _ HGA.out).mono ?_; rintro e wB ⟨rfl, hbd⟩; have HGB := Lib.hid (HGA.out.below hbd)) | (with_reducible refine (HKB.out _ HGB.out).mono ?_; rintro e wC ⟨rfl, hbe⟩)) | fail)
         ((try simp only [Exit.inBlock, Exit.then]); refine bodyPost_ret (results_tmp4 rfl _ _ _) rfl ?_)
         exact grp_bad hfin.out (keepBelow HB7.out (keepBelow (keepBelow (keepBelow hB hbc) (by assumption)) (by assumption)))
     ·have hc : c = true := by cases c with | true => rfl | false => exact absurd (Or.inl rfl) hbad
      have he : ¬e = 3 := fun h => hbad (.inr (.inl h))
      have hf : ¬f = 3 := fun h => hbad (.inr (.inr h))
      subst hc
      have HRT2 : Hid (spnRun (PS.drop (k + 1)) (q || e != 0 || f != 0 || decide (y ≤ x) || behB L x, L ++ [(x, y)]) = RR) := by
       have h := HRT.out
       rw [if_neg (by rintro (h | h | h); cases h; exact he h; exact hf h)] at h
       exact Lib.hid h
      clear HRT hbad
      have he' : (e == 3) = false := by simpa using he
      have hf' : (f == 3) = false := by simpa using hf
      clear he hf
      obtain ⟨pv, nv, rfl, hform⟩ := ho.form
      have HO := Lib.hid ho
      clear ho
      have HU : Hid (∀ X, Below wr.heap.size wr X → ∀ h : 0 < L.length, ∃ g, pv = some ⟨g, 0, none⟩ ∧ X.cell? ⟨g, (L.length - 1) * 2 + 1, none⟩ = some (.int .i64 (L.getD (L.length - 1) (0, 0)).2)) := Lib.hid fun X hX h => by
       obtain ⟨g, h1, h2, h3, h4⟩ := hform (L.length - 1) (by omega)
       exact ⟨g, h1, keepCell hX h4⟩
      clear hform
      go_upto_region 20 with (first | (go_at_call 106; refine HCP.out.mono ?_; rintro e wA ⟨rfl, hbc⟩; have HGA := Lib.hid (HGr.out.below hbc)) | (go_at_call 109; first | (with_reducible refine (HKA.out _ HGA.out).mono ?_; rintro e wB ⟨rfl, hbd⟩; have HGB := Lib.hid (HGA.out.below hbd)) | (with_reducible refine (HKB.out _ HGB.out).mono ?_; rintro e wC ⟨rfl, hbe⟩)) | fail)
      have HOC := Lib.hid (((HO.out.below hbc).below hbd).below hbe)
      have HBC := Lib.hid (keepBelow (keepBelow (keepBelow hB hbc) hbd) hbe)
      have HBX := Lib.hid (keepBelow (keepBelow hbc hbd) hbe)
      clear HKA HKB HCP hbc hbd hbe hB hcl HO HGA HGB HGr
      go_cut [11] from 86 to 115 (fun u wx => wx = wC ∧ ∃ q', u = .bool q' ∧ Hid (q' = (q || e != 0 || f != 0 || decide (y ≤ x) || behB L x)))
      case first =>
       cases q with
       | true =>
        go_wp2_with fail
        go_meet
        case rel => exact ⟨rfl, _, rfl, Lib.hid (by simp)⟩
       | false =>
        by_cases h1 : e = 0
        ·subst h1
         by_cases h2 : f = 0
         ·subst h2
          by_cases h3 : y ≤ x
          ·have h3' : decide (y ≤ x) = true := by simpa using h3
           go_wp2_with fail
           go_meet
           case rel => exact ⟨rfl, _, rfl, Lib.hid (by simp [h3])⟩
          ·have h3' : decide (y ≤ x) = false := by simpa using h3
           by_cases h4 : 0 < L.length
           ·have h4' : (0 : Int) < L.length := by omega
            obtain ⟨g, rfl, hcu⟩ := HU.out wC HBX.out h4
            obtain ⟨z, hz⟩ : ∃ z, (L.getD (L.length - 1) (0, 0)).2 = z := ⟨_, rfl⟩
            rw [hz] at hcu
            have s1 : IntKind.i64.wrap ((L.length : Int) - 1) = (L.length : Int) - 1 := by rw [IntKind.wrap_i64]; omega
            have s2 : ((L.length : Int) - 1).toNat = L.length - 1 := by omega
            have s3 : (0 : Int) ≤ (L.length : Int) - 1 := by omega
            have s4 : (L.length : Int) - 1 < L.length := by omega
            have HZ : Hid (decide (x ≤ z) = behB L x) := Lib.hid (by rw [behB_some x h4, hz])
            have h4h := Lib.hid h4
            clear h4 hz
            go_wp2_with fail
            go_meet
            case rel => exact ⟨rfl, _, rfl, Lib.hid (by rw [← HZ.out]; simp; omega)⟩
           ·have h4' : ¬(0 : Int) < L.length := by omega
            have HZ : Hid (behB L x = false) := Lib.hid (by rw [List.eq_nil_of_length_eq_zero (show L.length = 0 by omega)]; rfl)
            clear h4
            go_wp2_with fail
            go_meet
            case rel => exact ⟨rfl, _, rfl, Lib.hid (by rw [HZ.out]; simp; omega)⟩
         ·have h2' : (f == 0) = false := by simpa using h2
          have h2'' : (f != 0) = true := by simpa using h2
          go_wp2_with fail
          go_meet
          case rel => exact ⟨rfl, _, rfl, Lib.hid (by rw [h2'']; simp)⟩
        ·have h1' : (e == 0) = false := by simpa using h1
         have h1'' : (e != 0) = true := by simpa using h1
         go_wp2_with fail
         go_meet
         case rel => exact ⟨rfl, _, rfl, Lib.hid (by rw [h1'']; simp)⟩
      case rest =>
      obtain ⟨hwc, q', rfl, HQ⟩ := hcut
      subst hwc
      have HRT3 : Hid (spnRun (PS.drop (k + 1)) (q', L ++ [(x, y)]) = RR) := Lib.hid (by rw [HQ.out]; exact HRT2.out)
      clear HRT2 HQ
      have hoc := HOC.out
      have hBC := HBC.out
      go_wp2_with (at_builtin; refine wpList_app_span rfl (.tmp 116) (.tmp 120) rfl rfl hoc hBC rfl rfl hLn ?_; intro v1 w9 o1 b1 k1 z1; clear k1)
      go_roundw
      case rel => exact ⟨k + 1, _, _, rfl, rfl, rfl, by go_num, by omega, by have := HLK.out; simp; omega, o1, HRT3, b1⟩
      case measure => simp [intOf]; omega
    ·have hkl : PS.drop k = [] := List.drop_eq_nil_of_le (by omega)
     have HRS : Hid (groupEnd f1 f1 (some (q, L)) = (groupM (bsO s))) := by
      have h := HR.out
      rw [hkl, spnRun] at h
      have h2 := HEND.out
      rw [← h] at h2
      exact Lib.hid h2
     clear HR
     obtain ⟨pv, nv, rfl, -⟩ := ho.form
     have HO := Lib.hid ho
     clear ho
     cases q with
     | true =>
      go_wp2_with fail
      ((try simp only [Exit.inBlock, Exit.then]); refine bodyPost_ret (results_tmp4 rfl _ _ _) rfl ?_)
      refine grp_bad (n := 2) ?_ (keepBelow HB7.out hB)
      rw [← HRS.out]
      simp [groupEnd]
     | false =>
      by_cases hten : 10 < L.length
      ·have hten' : (10 : Int) < L.length := by omega
       go_wp2_with fail
       ((try simp only [Exit.inBlock, Exit.then]); refine bodyPost_ret (results_tmp4 rfl _ _ _) rfl ?_)
       refine grp_bad (n := 2) ?_ (keepBelow HB7.out hB)
       rw [← HRS.out]
       simp [groupEnd, hten]
      ·have hten' : ¬(10 : Int) < L.length := by omega
       go_wp2_with fail
       ((try simp only [Exit.inBlock, Exit.then]); refine bodyPost_ret (results_tmp4 rfl _ _ _) rfl ?_)
       have h := HRS.out
       unfold groupEnd at h
       simp only at h
       rw [if_neg (by rintro (h | h); cases h; omega)] at h
       rw [← h]
       exact ⟨_, rfl, HO.out.mono HB7.out.size, keepBelow HB7.out hB⟩
 ·have HE : Hid (groupM (bsO s) = (badG, 3)) := Lib.hid (by
   have h2 := HM.out
   rw [if_pos (by simp)] at h2
   exact h2.symm)
  go_wp2_with (first | (go_at_call 104; refine (HTR.out).mono ?_; rintro e w1 ⟨rfl, hw⟩; have HB1 := Lib.hid (HTB.out _ hw); clear hw) | (go_at_call 103; refine (HSC.out _).mono ?_; rintro e w2 ⟨rfl, hb2⟩; have HB2 := Lib.hid (keepBelow HB1.out hb2); clear hb2) | (go_at_call 106; refine (HCU.out _ HB2.out).mono ?_; rintro e w3 ⟨rfl, hb3⟩; have HB3 := Lib.hid (keepBelow HB2.out hb3); clear hb3) | (go_at_call 107; first | (with_reducible refine (HWF.out _).mono ?_; rintro e w4 ⟨rfl, hb4⟩; have HB4 := Lib.hid (keepBelow HB3.out hb4); clear hb4) | (with_reducible refine (HWL.out _).mono ?_; rintro e w5 ⟨rfl, hb5⟩; have HB5 := Lib.hid (keepBelow HB4.out hb5); clear hb5)) | (go_at_call 108; refine (HTL.out _).mono ?_; rintro e w6 ⟨rfl, hw⟩; rw [hw]; clear hw) | (go_at_call 63; refine (HSP.out _ HB4.out).mono ?_; rintro e w7 ⟨⟨aa, kk, rfl, hcell⟩, hb7⟩; have HCELL := Lib.hid hcell; have HB7 := Lib.hid (keepBelow HB4.out hb7); clear hb7 hcell) | fail)
  ((try simp only [Exit.inBlock, Exit.then]); refine bodyPost_ret (results_tmp4 rfl _ _ _) rfl ?_)
  exact grp_bad HE.out HB4.out
end Go.Proofs.YtmfdnbfjdhlonaaGreatDoor
