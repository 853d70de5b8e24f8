import Derived.Test.YtlbglinpgjlbkaaGreatDoorWkC4
/- Zone texts: the reference's Check and Valid. Printed by gen_c5.py. -/
namespace Go.Proofs.YtlbglinpgjlbkaaGreatDoor
open Go.RowKit Wk

theorem con_filter (ru : List RuT) (n : Bs) : (((ru.filter fun r => r.nm == n).length == 0) = !((ru.map RuT.nm).contains n)) := by
 rw [← any_con RuT.nm]
 induction ru with
 | nil => rfl
 | cons x t ih =>
  rw [List.filter_cons, List.any_cons]
  cases hx : (x.nm == n) with
  | true => simp
  | false => simpa using ih

set_option maxRecDepth 100000 in
set_option maxHeartbeats 8000000 in
theorem check19_any (rv zv lv : Value) (s : SrT) (Z : List ZkT) (w : World) (hs : RdSr w rv zv lv s Z) (hz : SzS s) :
  Calls Tryz.prog 36 #[.agg #[rv, zv, lv]] w fun e w' => ChkA s e ∧ Below w.heap.size w w' := by
 obtain ⟨ru, zo, lk⟩ := s
 obtain ⟨hru, hzo, hzs, hlk⟩ := hs
 simp only at hru hzs hlk
 subst hzs
 obtain ⟨zr, zz, zk⟩ := hz
 simp only at zr zz zk
 have HRU := Lib.hid hru
 have HZO := Lib.hid hzo
 have HLK := Lib.hid hlk
 have HZR := Lib.hid zr
 have HZZ := Lib.hid zz
 have HZK := Lib.hid zk
 obtain ⟨ar, cr, rfl⟩ := hru.form
 obtain ⟨az, cz, rfl⟩ := hzo.row.form
 obtain ⟨ak, ck0, rfl⟩ := hlk.form
 have HLR : Hid (ru.length ≤ 1152921504606846976) := Lib.hid hru.choose_spec.choose_spec.2.1
 have HLZ : Hid (Z.length ≤ 1152921504606846976) := Lib.hid hzo.row.choose_spec.choose_spec.2.1
 have HLL : Hid (lk.length ≤ 1152921504606846976) := Lib.hid hlk.choose_spec.choose_spec.2.1
 show Calls _ _ #[.agg #[.slice ar ru.length cr, .slice az Z.length cz, .slice ak lk.length ck0]] w _
 clear hru hzo hlk zr zz zk
 obtain ⟨bz, hbz⟩ : ∃ b, w.heap.size = b := ⟨_, rfl⟩
 obtain ⟨X, hX⟩ : ∃ X, w.alloc (.cells #[.slice ar ru.length cr, .slice az Z.length cz, .slice ak lk.length ck0] 27) = X := ⟨_, rfl⟩
 have HC : Hid (Cls X bz [.slice ar ru.length cr, .slice az Z.length cz, .slice ak lk.length ck0]) := Lib.hid (by rw [← hX, ← hbz]; exact Cls.new w _ _)
 have HBX : Hid (Below w.heap.size w X) := Lib.hid (by rw [← hX]; exact below_box)
 have hbb : Below X.heap.size X X := Below.refl _ _
 have c0 := Cls.at HC.out hbb (j := 0) (u := .slice ar ru.length cr) rfl
 have c1 := Cls.at HC.out hbb (j := 1) (u := .slice az Z.length cz) rfl
 have c2 := Cls.at HC.out hbb (j := 2) (u := .slice ak lk.length ck0) rfl
 have HC1 : Hid (∀ W, Below X.heap.size X W → W.cell? ⟨bz, 0, none⟩ = some (.slice ar ru.length cr) ∧ W.cell? ⟨bz, 1, none⟩ = some (.slice az Z.length cz) ∧ W.cell? ⟨bz, 2, none⟩ = some (.slice ak lk.length ck0)) := Lib.hid fun W hW => ⟨Cls.at HC.out hW (j := 0) rfl, Cls.at HC.out hW (j := 1) rfl, Cls.at HC.out hW (j := 2) rfl⟩
 clear hbb HC
 go_enter Tryz.func36, Tryz.ntmps36
 go_upto_region 1 with fail
 try rw [hX]
 try rw [hbz]
 clear hX hbz
 by_cases h1 : 100 < ru.length
 ·have HN := Lib.hid (chk_full (s := ⟨ru, Z.map Prod.fst, lk⟩) (.inl h1))
  have g1 : decide (100 < (ru.length : Int)) = true := by simp; omega
  go_wp2_with fail
  all_goals go_ret2
  all_goals exact ⟨HN.out, HBX.out⟩
 have g1 : decide (100 < (ru.length : Int)) = false := by simp; omega
 by_cases h2 : 30 < Z.length + lk.length
 ·have HN := Lib.hid (chk_full (s := ⟨ru, Z.map Prod.fst, lk⟩) (.inr (by simpa using h2)))
  have g2 : decide (30 < (Z.length : Int) + (lk.length : Int)) = true := by simp; omega
  have hlz := HLZ.out
  have hll := HLL.out
  have hw1 : IntKind.i64.wrap ((Z.length : Int) + (lk.length : Int)) = (Z.length : Int) + (lk.length : Int) := by rw [IntKind.wrap_i64]; omega
  go_wp2_with fail
  all_goals go_ret2
  all_goals exact ⟨HN.out, HBX.out⟩
 have g2 : decide (30 < (Z.length : Int) + (lk.length : Int)) = false := by simp; omega
 have HNF : Hid (¬(100 < ru.length ∨ 30 < (Z.map Prod.fst).length + lk.length)) := Lib.hid (by rw [List.length_map]; omega)
 have hr1 : ru.length ≤ 100 := by omega
 have hz1 : Z.length ≤ 30 := by omega
 have hk1 : lk.length ≤ 30 := by omega
 have HSM : Hid (ru.length ≤ 100 ∧ Z.length ≤ 30 ∧ lk.length ≤ 30) := ⟨hr1, hz1, hk1⟩
 have hw1 : IntKind.i64.wrap ((Z.length : Int) + (lk.length : Int)) = (Z.length : Int) + (lk.length : Int) := by rw [IntKind.wrap_i64]; omega
 clear h1 h2
 go_upto_region 4 with fail
 clear hw1 g1 g2 c0 c1 c2
 go_loopw [4] (fun u wr => ∃ i : Nat, u = .int .i64 i ∧ i ≤ ru.length ∧ Hid (chkR ru = chkR (ru.drop i)) ∧ Hid (Below X.heap.size X wr)) (fun u _ => ru.length - (intOf u).toNat)
 case atStart => exact ⟨0, rfl, Nat.zero_le _, rfl, Below.refl _ _⟩
 case round =>
  obtain ⟨i, rfl, hi, HZ, HB⟩ := hrel
  have hib : (i : Int) ≤ 100 := by omega
  have c0 := (HC1.out wr HB.out).1
  by_cases hlt : i < ru.length
  ·obtain ⟨al', cl', ea, _, hc⟩ := HRU.out.below (keepBelow HBX.out HB.out)
   cases ea
   obtain ⟨b, o, rfl, hcc⟩ := hc i hlt
   obtain ⟨x, hx⟩ : ∃ x, ru.getD i ru0 = x := ⟨_, rfl⟩
   have hxm : x ∈ ru := by rw [← hx]; exact getD_mem hlt
   have HSZ := Lib.hid (HZR.out x hxm)
   rw [hx] at hcc
   have HVR : Hid (∀ w', Calls Tryz.prog 107 #[ruV x] w' fun e w'' => e = .returned (.bool (ruB x)) ∧ Below w'.heap.size w' w'') := Lib.hid fun w' => validRule19_any x (by have := HSZ.out.2; omega) w'
   obtain ⟨q, hq⟩ : ∃ q, ruB x = q := ⟨_, rfl⟩
   rw [hq] at HVR
   have HGO : Hid (if q = true then chkR (ru.drop i) = chkR (ru.drop (i + 1)) else chkR (ru.drop i) = some (x.nm, 1)) := Lib.hid (by
    cases q with
    | true => exact chkR_go hlt (by rw [hx]; exact hq)
    | false => rw [← hx] at hq ⊢; exact chkR_no hlt hq)
   clear hc hx hxm hq
   obtain ⟨nm, fr, to_, mo, ⟨k, v, d⟩, at_, ck, sv, le⟩ := x
   obtain ⟨NM, rfl⟩ := bs_of nm
   obtain ⟨LE, rfl⟩ := bs_of le
   have HVR2 : Hid (∀ w', Calls Tryz.prog 107 #[.agg #[.string NM, .int .i64 fr, .int .i64 to_, .int .i64 mo, .int .i64 k, .int .i64 v, .int .i64 d, .int .i64 at_, .int .i64 ck, .int .i64 sv, .string LE]] w' fun e w'' => e = .returned (.bool q) ∧ Below w'.heap.size w' w'') := HVR
   have HGO2 : Hid (if q = true then chkR (ru.drop i) = chkR (ru.drop (i + 1)) else chkR (ru.drop i) = some (bsO NM, 1)) := HGO
   have HNMC : Hid (wr.cell? ⟨b, o + i * 11, none⟩ = some (.string NM)) := Lib.hid (hcc 0 _ (by decide) rfl)
   clear HVR HSZ HGO
   have e0 : wr.cell? ⟨b, o + i * 11, none⟩ = some (.string NM) := hcc 0 _ (by decide) rfl
   have e1 : wr.cell? ⟨b, o + i * 11 + 1, none⟩ = some (.int .i64 fr) := hcc 1 _ (by decide) rfl
   have e2 : wr.cell? ⟨b, o + i * 11 + 2, none⟩ = some (.int .i64 to_) := hcc 2 _ (by decide) rfl
   have e3 : wr.cell? ⟨b, o + i * 11 + 3, none⟩ = some (.int .i64 mo) := hcc 3 _ (by decide) rfl
   have e4 : wr.cell? ⟨b, o + i * 11 + 4, none⟩ = some (.int .i64 k) := hcc 4 _ (by decide) rfl
   have e5 : wr.cell? ⟨b, o + i * 11 + 5, none⟩ = some (.int .i64 v) := hcc 5 _ (by decide) rfl
   have e6 : wr.cell? ⟨b, o + i * 11 + 6, none⟩ = some (.int .i64 d) := hcc 6 _ (by decide) rfl
   have e7 : wr.cell? ⟨b, o + i * 11 + 7, none⟩ = some (.int .i64 at_) := hcc 7 _ (by decide) rfl
   have e8 : wr.cell? ⟨b, o + i * 11 + 8, none⟩ = some (.int .i64 ck) := hcc 8 _ (by decide) rfl
   have e9 : wr.cell? ⟨b, o + i * 11 + 9, none⟩ = some (.int .i64 sv) := hcc 9 _ (by decide) rfl
   have e10 : wr.cell? ⟨b, o + i * 11 + 10, none⟩ = some (.string LE) := hcc 10 _ (by decide) rfl
   clear hcc
   cases q with
   | false =>
    have HNO := Lib.hid (chk_ru (s := ⟨ru, Z.map Prod.fst, lk⟩) HNF.out (N := NM) (e := 1) (HZ.out.trans HGO2.out))
    go_wp2_with (first | (go_at_call 107; refine (HVR2.out _).mono ?_; rintro e w' ⟨rfl, hb⟩; have e0 := keepCell hb HNMC.out; have HBN := Lib.hid (keepBelow HB.out hb); have c0 := (HC1.out w' HBN.out).1) | fail)
    go_ret2
    exact ⟨HNO.out, keepBelow HBX.out HBN.out⟩
   | true =>
    have HNX := Lib.hid (HZ.out.trans HGO2.out)
    go_wp2_with (first | (go_at_call 107; refine (HVR2.out _).mono ?_; rintro e w' ⟨rfl, hb⟩; have HBN := Lib.hid (keepBelow HB.out hb)) | fail)
    go_roundw
    case rel => exact ⟨i + 1, by go_num, by omega, HNX.out, HBN.out⟩
    case measure => simp [intOf]; omega
  ·have HRN : Hid (chkR ru = none) := Lib.hid (by rw [HZ.out, List.drop_eq_nil_of_le (by omega)]; rfl)
   obtain rfl : i = ru.length := by omega
   go_upto_region 9 with fail
   clear c0 HZ HZR hi hlt hib
   have HBS := Lib.hid HB.out
   have HB1 := Lib.hid (keepBelow HBX.out HB.out)
   have HC1' : Hid (∀ W, Below wr.heap.size wr W → W.cell? ⟨bz, 0, none⟩ = some (.slice ar ru.length cr) ∧ W.cell? ⟨bz, 1, none⟩ = some (.slice az Z.length cz) ∧ W.cell? ⟨bz, 2, none⟩ = some (.slice ak lk.length ck0)) := Lib.hid fun W hW => HC1.out W (keepBelow HB.out hW)
   clear HC1 HB HBX HBS
   generalize wr = W1 at *
   go_loopw [5, 6, 7, 8] (fun u _ _ _ wr => ∃ i : Nat, u = .int .i64 i ∧ i ≤ Z.length ∧ Hid (zGo (ru.map RuT.nm) Z 0 = zGo (ru.map RuT.nm) Z i) ∧ Hid (Below W1.heap.size W1 wr)) (fun u _ _ _ _ => Z.length - (intOf u).toNat)
   case atStart => exact ⟨0, rfl, Nat.zero_le _, rfl, Below.refl _ _⟩
   case round =>
    obtain ⟨i, rfl, hi, HZ, HB⟩ := hrel
    have hib : (i : Int) ≤ 30 := by omega
    have c1 := (HC1'.out wr HB.out).2.1
    by_cases hlt : i < Z.length
    ·have HZW := HZO.out.below (keepBelow HB1.out HB.out)
     obtain ⟨al', cl', ea, _, hc⟩ := HZW.row
     cases ea
     obtain ⟨b, o, rfl, hcc⟩ := hc i hlt
     obtain ⟨x, hx⟩ : ∃ x, Z.getD i zk0 = x := ⟨_, rfl⟩
     have hxm : x ∈ Z := by rw [← hx]; exact getD_mem hlt
     have HSZ := Lib.hid (HZZ.out x.1 (List.mem_map_of_mem hxm))
     have hli := HZO.out.li i hlt
     have HZA := Lib.hid (zGo_at (nms := ru.map RuT.nm) hlt)
     rw [hx] at hcc hli HZA
     clear hc hx hxm HZW
     obtain ⟨⟨nm, li⟩, lv⟩ := x
     obtain ⟨NM, rfl⟩ := bs_of nm
     simp only at hli
     obtain ⟨la, lc, rfl⟩ := hli.form
     have HLI := Lib.hid hli
     have hll : li.length ≤ 1152921504606846976 := hli.choose_spec.choose_spec.2.1
     clear hli
     have e0 : wr.cell? ⟨b, o + i * 2, none⟩ = some (.string NM) := hcc 0 _ (by decide) rfl
     have e1 : wr.cell? ⟨b, o + i * 2 + 1, none⟩ = some (.slice la li.length lc) := hcc 1 _ (by decide) rfl
     clear hcc
     have HVZ : Hid (∀ w', Below W1.heap.size W1 w' → Calls Tryz.prog 108 #[.agg #[.string NM, .slice la li.length lc]] w' fun e w'' => e = .returned (.bool (zoB ⟨bsO NM, li⟩)) ∧ Below w'.heap.size w' w'') := Lib.hid fun w' hb => zone19_any (bsO NM) _ li w' (HLI.out.below (keepBelow HB1.out hb)) HSZ.out.2
     obtain ⟨q, hq⟩ : ∃ q, zoB ⟨bsO NM, li⟩ = q := ⟨_, rfl⟩
     have HZA2 : Hid (zGo (ru.map RuT.nm) Z i = if q = false then some (bsO NM, 1) else if ((Z.take i).any fun z => z.1.nm == bsO NM) = true then some (bsO NM, 8) else match chkN (ru.map RuT.nm) li with
      | some e => some e
      | none => zGo (ru.map RuT.nm) Z (i + 1)) := Lib.hid (by rw [← hq]; exact HZA.out)
     rw [hq] at HVZ
     clear hq HZA
     obtain ⟨bl, hbl⟩ : ∃ b, wr.heap.size = b := ⟨_, rfl⟩
     obtain ⟨Y, hY⟩ : ∃ Y, wr.alloc (.cells #[.string NM, .slice la li.length lc] 45) = Y := ⟨_, rfl⟩
     have HCY : Hid (Cls Y bl [.string NM, .slice la li.length lc]) := Lib.hid (by rw [← hY, ← hbl]; exact Cls.new wr _ _)
     have HBY : Hid (Below W1.heap.size W1 Y) := Lib.hid (keepBelow HB.out (by rw [← hY]; exact below_box))
     go_upto_region 12 with fail
     try rw [hY]
     try rw [hbl]
     clear hY hbl e0 e1
     have hy : Below Y.heap.size Y Y := Below.refl _ _
     have u0 := Cls.at HCY.out hy (j := 0) (u := .string NM) rfl
     have u1 := Cls.at HCY.out hy (j := 1) (u := .slice la li.length lc) rfl
     clear hy
     cases q with
     | false =>
      have HNO := Lib.hid (chk_zo (lk := lk) HNF.out HRN.out (HZ.out.trans HZA2.out))
      go_wp2_with (first | (go_at_call 108; refine (HVZ.out _ HBY.out).mono ?_; rintro e w' ⟨rfl, hb⟩; have u0 := Cls.at HCY.out hb (j := 0) (u := .string NM) rfl; have HBN := Lib.hid (keepBelow HBY.out hb)) | fail)
      go_ret2
      exact ⟨HNO.out, keepBelow HB1.out HBN.out⟩
     | true =>
      go_upto_region 14 with (first | (go_at_call 108; refine (HVZ.out _ HBY.out).mono ?_; rintro e w' ⟨rfl, hb⟩; obtain ⟨W2, hW2⟩ : ∃ W, w' = W := ⟨_, rfl⟩; rw [hW2] at hb ⊢; clear hW2; have HU : Hid (∀ W, Below W2.heap.size W2 W → W.cell? ⟨bl, 0, none⟩ = some (.string NM) ∧ W.cell? ⟨bl, 1, none⟩ = some (.slice la li.length lc)) := Lib.hid fun W hW => ⟨Cls.at HCY.out (keepBelow hb hW) (j := 0) rfl, Cls.at HCY.out (keepBelow hb hW) (j := 1) rfl⟩; have HBN := Lib.hid (keepBelow HBY.out hb); have HBN2 := Lib.hid hb) | fail)
      clear u0 u1 c1
      obtain ⟨k0, k1, k2⟩ := HC1'.out W2 HBN.out
      have x0 := (HU.out W2 (Below.refl _ _)).1
      obtain ⟨fx, hfx⟩ : ∃ fx, fIx (fun z : ZkT => z.1.nm == bsO NM) (Z.take i) = fx := ⟨_, rfl⟩
      have HHZ : Hid (Calls Tryz.prog 79 #[.agg #[.slice ar ru.length cr, .slice (some ⟨b, o, none⟩) Z.length cz, .slice ak lk.length ck0], .int .i64 i, .string NM] W2 fun e w'' => e = .returned (.int .i64 fx) ∧ Below W2.heap.size W2 w'') := Lib.hid (by
       rw [← hfx]
       exact zoned19_any _ _ _ Z i NM W2 (HZO.out.below (keepBelow HB1.out HBN.out)) hi)
      have gfx : decide (0 ≤ fx) = (Z.take i).any fun z => z.1.nm == bsO NM := by rw [← hfx]; exact fIx_any _ _
      obtain ⟨g, hg⟩ : ∃ g, ((Z.take i).any fun z => z.1.nm == bsO NM) = g := ⟨_, rfl⟩
      rw [hg] at gfx
      have HZA3 : Hid (zGo (ru.map RuT.nm) Z i = if g = true then some (bsO NM, 8) else match chkN (ru.map RuT.nm) li with
       | some e => some e
       | none => zGo (ru.map RuT.nm) Z (i + 1)) := Lib.hid (by rw [HZA2.out, if_neg (by simp), hg])
      clear hg hfx HZA2 HVZ
      cases g with
      | true =>
       have HNO := Lib.hid (chk_zo (lk := lk) HNF.out HRN.out (HZ.out.trans HZA3.out))
       go_wp2_with (first | (go_at_call 79; refine HHZ.out.mono ?_; rintro e w' ⟨rfl, hb⟩; have HBM := Lib.hid (keepBelow HBN.out hb); have x0 := (HU.out w' hb).1) | fail)
       go_ret2
       exact ⟨HNO.out, keepBelow HB1.out HBM.out⟩
      | false =>
      have HZA4 : Hid (zGo (ru.map RuT.nm) Z i = match chkN (ru.map RuT.nm) li with
       | some e => some e
       | none => zGo (ru.map RuT.nm) Z (i + 1)) := Lib.hid (by rw [HZA3.out, if_neg (by simp)])
      go_upto_region 17 with (first | (go_at_call 79; refine HHZ.out.mono ?_; rintro e w' ⟨rfl, hb⟩; obtain ⟨W3, hW3⟩ : ∃ W, w' = W := ⟨_, rfl⟩; rw [hW3] at hb ⊢; clear hW3; have HU1 : Hid (∀ W, Below W3.heap.size W3 W → W.cell? ⟨bl, 0, none⟩ = some (.string NM) ∧ W.cell? ⟨bl, 1, none⟩ = some (.slice la li.length lc)) := Lib.hid fun W hW => HU.out W (keepBelow hb hW); have HB2 := Lib.hid (keepBelow HBN.out hb)) | fail)
      clear x0 k0 k1 k2 HHZ HZA3 HU hb HBN HBN2 HCY HBY gfx
      go_loopw [7, 8] (fun u _ wr => ∃ k : Nat, u = .int .i64 k ∧ k ≤ li.length ∧ Hid (chkN (ru.map RuT.nm) li = chkN (ru.map RuT.nm) (li.drop k)) ∧ Hid (Below W3.heap.size W3 wr)) (fun u _ _ => li.length - (intOf u).toNat)
      case atStart => exact ⟨0, rfl, Nat.zero_le _, rfl, Below.refl _ _⟩
      case round =>
       obtain ⟨k, rfl, hk, HK, HB3⟩ := hrel
       have hkb : (k : Int) ≤ 1152921504606846976 := by omega
       have u1 := (HU1.out wr HB3.out).2
       by_cases hlk : k < li.length
       ·obtain ⟨al', cl', ea, _, hc⟩ := HLI.out.below (keepBelow HB1.out (keepBelow HB2.out HB3.out))
        cases ea
        obtain ⟨b2, o2, rfl, hcc⟩ := hc k hlk
        obtain ⟨x, hx⟩ : ∃ x, li.getD k li0 = x := ⟨_, rfl⟩
        have HCG : Hid ((x.ru == [] || (ru.map RuT.nm).contains x.ru) = true → chkN (ru.map RuT.nm) (li.drop k) = chkN (ru.map RuT.nm) (li.drop (k + 1))) := Lib.hid fun h => chkN_go hlk (by rw [hx]; exact h)
        have HCN : Hid ((x.ru == []) = false → (ru.map RuT.nm).contains x.ru = false → chkN (ru.map RuT.nm) (li.drop k) = some (x.ru, 7)) := Lib.hid fun h1 h2 => by rw [← hx] at h1 h2 ⊢; exact chkN_no hlk h1 h2
        rw [hx] at hcc
        clear hc hx
        obtain ⟨of, ru_, sv, fm, lst, ⟨yr, mo, ⟨k_, v, d⟩, at_, ck⟩⟩ := x
        obtain ⟨RU, rfl⟩ := bs_of ru_
        have HCG2 : Hid ((bsO RU == [] || (ru.map RuT.nm).contains (bsO RU)) = true → chkN (ru.map RuT.nm) (li.drop k) = chkN (ru.map RuT.nm) (li.drop (k + 1))) := HCG
        have HCN2 : Hid ((bsO RU == []) = false → (ru.map RuT.nm).contains (bsO RU) = false → chkN (ru.map RuT.nm) (li.drop k) = some (bsO RU, 7)) := HCN
        clear HCG HCN
        have e1 : wr.cell? ⟨b2, o2 + k * 12 + 1, none⟩ = some (.string RU) := hcc 1 _ (by decide) rfl
        clear hcc
        obtain ⟨k0, k1, k2⟩ := HC1'.out wr (keepBelow HB2.out HB3.out)
        by_cases hemp : bsO RU = []
        ·have hE : RU.toList.isEmpty = true := by rw [Lib.toList_data]; show (bsO RU).isEmpty = true; rw [hemp]; rfl
         have HNX := Lib.hid (HK.out.trans (HCG2.out (by rw [hemp]; rfl)))
         clear hemp
         go_wp2_with fail
         go_roundw
         case rel => exact ⟨k + 1, by go_num, by omega, HNX.out, HB3.out⟩
         case measure => simp [intOf]; omega
        ·have hE : RU.toList.isEmpty = false := by rw [Lib.toList_data]; show (bsO RU).isEmpty = false; simpa using hemp
         have HE2 : Hid ((bsO RU == []) = false) := Lib.hid (by simpa using hemp)
         clear hemp
         have HRL := Lib.hid (rules19_any (.slice ar ru.length cr) (.slice (some ⟨b, o, none⟩) Z.length cz) (.slice ak lk.length ck0) ru RU wr (HRU.out.below (keepBelow HB1.out (keepBelow HB2.out HB3.out))) (by have := HSM.out.1; omega))
         have hcf := con_filter ru (bsO RU)
         obtain ⟨L, hL⟩ : ∃ L, (ru.filter fun r => r.nm == bsO RU) = L := ⟨_, rfl⟩
         rw [hL] at HRL hcf
         clear hL
         obtain ⟨c, hcc⟩ : ∃ c, (ru.map RuT.nm).contains (bsO RU) = c := ⟨_, rfl⟩
         rw [hcc] at hcf
         have HCE := Lib.hid hcc
         have hz : ((L.length : Int) == 0) = !c := by
          rw [← hcf, Bool.eq_iff_iff]
          simp
         clear hcc hcf
         cases c with
         | true =>
          have HNX := Lib.hid (HK.out.trans (HCG2.out (by rw [HCE.out, Bool.or_true])))
          simp only [Bool.not_true] at hz
          go_wp2_with (first | (go_at_call 27; refine HRL.out.mono ?_; rintro e w' ⟨⟨v7, rfl, hv⟩, hb⟩; have HV7 := Lib.hid hv; obtain ⟨a7, c7, rfl⟩ := hv.form; clear hv; have HBY := Lib.hid (keepBelow HB3.out hb)) | fail)
          go_roundw
          case rel => exact ⟨k + 1, by go_num, by omega, HNX.out, HBY.out⟩
          case measure => simp [intOf]; omega
         | false =>
          have HNO := Lib.hid (chk_zo (lk := lk) HNF.out HRN.out (HZ.out.trans (by rw [HZA4.out, HK.out.trans (HCN2.out HE2.out HCE.out)])))
          simp only [Bool.not_false] at hz
          go_wp2_with (first | (go_at_call 27; refine HRL.out.mono ?_; rintro e w' ⟨⟨v7, rfl, hv⟩, hb⟩; have HV7 := Lib.hid hv; obtain ⟨a7, c7, rfl⟩ := hv.form; clear hv; have HBY := Lib.hid (keepBelow HB3.out hb)) | fail)
          go_ret2
          exact ⟨HNO.out, keepBelow HB1.out (keepBelow HB2.out HBY.out)⟩
       ·have HNX : Hid (zGo (ru.map RuT.nm) Z 0 = zGo (ru.map RuT.nm) Z (i + 1)) := Lib.hid (HZ.out.trans (by rw [HZA4.out, HK.out, List.drop_eq_nil_of_le (by omega)]; rfl))
        have HBE := Lib.hid (keepBelow HB2.out HB3.out)
        go_wp2_with fail
        go_roundw
        case rel => exact ⟨i + 1, by go_num, by omega, HNX.out, HBE.out⟩
        case measure => simp [intOf]; omega
    ·have HZN : Hid (zGo (ru.map RuT.nm) Z 0 = none) := Lib.hid (by rw [HZ.out]; unfold zGo; rw [List.drop_eq_nil_of_le (by omega)]; rfl)
     have HB2 := Lib.hid (keepBelow HB1.out HB.out)
     have HC2 : Hid (∀ W, Below wr.heap.size wr W → W.cell? ⟨bz, 0, none⟩ = some (.slice ar ru.length cr) ∧ W.cell? ⟨bz, 1, none⟩ = some (.slice az Z.length cz) ∧ W.cell? ⟨bz, 2, none⟩ = some (.slice ak lk.length ck0)) := Lib.hid fun W hW => HC1'.out W (keepBelow HB.out hW)
     go_upto_region 23 with fail
     clear c1 HC1' HB1 HB HZ HZZ hi hlt hib
     generalize wr = W4 at *
     go_loopw [9, 10] (fun u _ wr => ∃ i : Nat, u = .int .i64 i ∧ i ≤ lk.length ∧ Hid (lGo (Z.map fun z => z.1.nm) lk 0 = lGo (Z.map fun z => z.1.nm) lk i) ∧ Hid (Below W4.heap.size W4 wr)) (fun u _ _ => lk.length - (intOf u).toNat)
     case atStart => exact ⟨0, rfl, Nat.zero_le _, rfl, Below.refl _ _⟩
     case round =>
      obtain ⟨i, rfl, hi, HZ, HB⟩ := hrel
      have hib : (i : Int) ≤ 30 := by omega
      have c2 := (HC2.out wr HB.out).2.2
      by_cases hlt : i < lk.length
      ·obtain ⟨al', cl', ea, _, hc⟩ := HLK.out.below (keepBelow HB2.out HB.out)
       cases ea
       obtain ⟨b, o, rfl, hcc⟩ := hc i hlt
       obtain ⟨x, hx⟩ : ∃ x, lk.getD i lk0 = x := ⟨_, rfl⟩
       have HLA := Lib.hid (lGo_at (zs := Z.map fun z => z.1.nm) hlt)
       rw [hx] at hcc HLA
       clear hc hx
       obtain ⟨nm, zo⟩ := x
       obtain ⟨NM, rfl⟩ := bs_of nm
       obtain ⟨ZO, rfl⟩ := bs_of zo
       have e0 : wr.cell? ⟨b, o + i * 2, none⟩ = some (.string NM) := hcc 0 _ (by decide) rfl
       have e1 : wr.cell? ⟨b, o + i * 2 + 1, none⟩ = some (.string ZO) := hcc 1 _ (by decide) rfl
       clear hcc
       obtain ⟨q, hq⟩ : ∃ q, nameB (bsO NM) = q := ⟨_, rfl⟩
       have HNM : Hid (∀ w', Calls Tryz.prog 109 #[.string NM] w' fun e w'' => e = .returned (.bool q) ∧ w'' = w') := Lib.hid (by rw [← hq]; exact fun w' => name18_any NM w')
       have HLA2 : Hid (lGo (Z.map fun z => z.1.nm) lk i = if q = false then some (bsO NM, 1) else if ((Z.map fun z => z.1.nm).contains (bsO NM) || (lk.take i).any fun z => z.nm == bsO NM) = true then some (bsO NM, 8) else if (Z.map fun z => z.1.nm).contains (bsO ZO) = false then some (bsO ZO, 7) else lGo (Z.map fun z => z.1.nm) lk (i + 1)) := Lib.hid (by rw [← hq]; exact HLA.out)
       clear hq HLA
       obtain ⟨bl, hbl⟩ : ∃ b, wr.heap.size = b := ⟨_, rfl⟩
       obtain ⟨Y, hY⟩ : ∃ Y, wr.alloc (.cells #[.string NM, .string ZO] 48) = Y := ⟨_, rfl⟩
       have HCY : Hid (Cls Y bl [.string NM, .string ZO]) := Lib.hid (by rw [← hY, ← hbl]; exact Cls.new wr _ _)
       have HBY : Hid (Below W4.heap.size W4 Y) := Lib.hid (keepBelow HB.out (by rw [← hY]; exact below_box))
       go_upto_region 26 with fail
       try rw [hY]
       try rw [hbl]
       clear hY hbl e0 e1
       have hy : Below Y.heap.size Y Y := Below.refl _ _
       have u0 := Cls.at HCY.out hy (j := 0) (u := .string NM) rfl
       have HU : Hid (∀ W, Below Y.heap.size Y W → W.cell? ⟨bl, 0, none⟩ = some (.string NM) ∧ W.cell? ⟨bl, 1, none⟩ = some (.string ZO)) := Lib.hid fun W hW => ⟨Cls.at HCY.out hW (j := 0) rfl, Cls.at HCY.out hW (j := 1) rfl⟩
       clear hy HCY
       cases q with
       | false =>
        have HNO := Lib.hid (chk_lk HNF.out HRN.out HZN.out (HZ.out.trans HLA2.out))
        go_wp2_with (first | (go_at_call 109; refine (HNM.out _).mono ?_; rintro e w' ⟨rfl, hw⟩; rw [hw]; clear hw) | fail)
        go_ret2
        exact ⟨HNO.out, keepBelow HB2.out HBY.out⟩
       | true =>
        go_upto_region 28 with (first | (go_at_call 109; refine (HNM.out _).mono ?_; rintro e w' ⟨rfl, hw⟩; rw [hw]; clear hw) | fail)
        clear c2
        obtain ⟨k0, k1, k2⟩ := HC2.out Y HBY.out
        obtain ⟨fx, hfx⟩ : ∃ fx, fIx (fun z : ZkT => z.1.nm == bsO NM) (Z.take Z.length) = fx := ⟨_, rfl⟩
        obtain ⟨fy, hfy⟩ : ∃ fx, fIx (fun z : LkT => z.nm == bsO NM) (lk.take i) = fx := ⟨_, rfl⟩
        have HHZ : Hid (Calls Tryz.prog 79 #[.agg #[.slice ar ru.length cr, .slice az Z.length cz, .slice (some ⟨b, o, none⟩) lk.length ck0], .int .i64 Z.length, .string NM] Y fun e w'' => e = .returned (.int .i64 fx) ∧ Below Y.heap.size Y w'') := Lib.hid (by
         rw [← hfx]
         exact zoned19_any _ _ _ Z Z.length NM Y (HZO.out.below (keepBelow HB2.out HBY.out)) (Nat.le_refl _))
        have HHL : Hid (∀ w', Below Y.heap.size Y w' → Calls Tryz.prog 78 #[.agg #[.slice ar ru.length cr, .slice az Z.length cz, .slice (some ⟨b, o, none⟩) lk.length ck0], .int .i64 i, .string NM] w' fun e w'' => e = .returned (.int .i64 fy) ∧ Below w'.heap.size w' w'') := Lib.hid (by
         rw [← hfy]
         exact fun w' hb => linked19_any _ _ _ lk i NM w' (HLK.out.below (keepBelow HB2.out (keepBelow HBY.out hb))) hi)
        obtain ⟨g, hg⟩ : ∃ g, ((Z.map fun z => z.1.nm).contains (bsO NM)) = g := ⟨_, rfl⟩
        obtain ⟨g2, hg2⟩ : ∃ g, ((lk.take i).any fun z => z.nm == bsO NM) = g := ⟨_, rfl⟩
        have gfx : decide (0 ≤ fx) = g := by rw [← hfx, fIx_any, List.take_length, any_con (fun z : ZkT => z.1.nm), hg]
        have gfy : decide (0 ≤ fy) = g2 := by rw [← hfy, fIx_any, hg2]
        have HLA3 : Hid (lGo (Z.map fun z => z.1.nm) lk i = if (g || g2) = true then some (bsO NM, 8) else if (Z.map fun z => z.1.nm).contains (bsO ZO) = false then some (bsO ZO, 7) else lGo (Z.map fun z => z.1.nm) lk (i + 1)) := Lib.hid (by rw [HLA2.out, if_neg (by simp), hg, hg2])
        clear hg hg2 hfx hfy HLA2 HNM
        cases g with
        | true =>
         have HNO := Lib.hid (chk_lk HNF.out HRN.out HZN.out (HZ.out.trans HLA3.out))
         go_wp2_with (first | (go_at_call 79; refine HHZ.out.mono ?_; rintro e w' ⟨rfl, hb⟩; obtain ⟨W5, hW5⟩ : ∃ W, w' = W := ⟨_, rfl⟩; rw [hW5] at hb ⊢; clear hW5; have HBM := Lib.hid (keepBelow HBY.out hb); obtain ⟨k0, k1, k2⟩ := HC2.out W5 HBM.out; have x0 := (HU.out W5 hb).1; have x1 := (HU.out W5 hb).2) | (go_at_call 78; refine (HHL.out _ (by assumption)).mono ?_; rintro e w' ⟨rfl, hb2⟩; obtain ⟨W6, hW6⟩ : ∃ W, w' = W := ⟨_, rfl⟩; rw [hW6] at hb2 ⊢; clear hW6; have HBM := Lib.hid (keepBelow HBM.out hb2); obtain ⟨k0, k1, k2⟩ := HC2.out W6 HBM.out; have x0 := (HU.out W6 (keepBelow hb hb2)).1; have x1 := (HU.out W6 (keepBelow hb hb2)).2) | fail)
         go_ret2
         exact ⟨HNO.out, keepBelow HB2.out HBM.out⟩
        | false =>
        cases g2 with
        | true =>
         have HNO := Lib.hid (chk_lk HNF.out HRN.out HZN.out (HZ.out.trans HLA3.out))
         go_wp2_with (first | (go_at_call 79; refine HHZ.out.mono ?_; rintro e w' ⟨rfl, hb⟩; obtain ⟨W5, hW5⟩ : ∃ W, w' = W := ⟨_, rfl⟩; rw [hW5] at hb ⊢; clear hW5; have HBM := Lib.hid (keepBelow HBY.out hb); obtain ⟨k0, k1, k2⟩ := HC2.out W5 HBM.out; have x0 := (HU.out W5 hb).1; have x1 := (HU.out W5 hb).2) | (go_at_call 78; refine (HHL.out _ (by assumption)).mono ?_; rintro e w' ⟨rfl, hb2⟩; obtain ⟨W6, hW6⟩ : ∃ W, w' = W := ⟨_, rfl⟩; rw [hW6] at hb2 ⊢; clear hW6; have HBM := Lib.hid (keepBelow HBM.out hb2); obtain ⟨k0, k1, k2⟩ := HC2.out W6 HBM.out; have x0 := (HU.out W6 (keepBelow hb hb2)).1; have x1 := (HU.out W6 (keepBelow hb hb2)).2) | fail)
         go_ret2
         exact ⟨HNO.out, keepBelow HB2.out HBM.out⟩
        | false =>
         obtain ⟨g, hg⟩ : ∃ g, ((Z.map fun z => z.1.nm).contains (bsO ZO)) = g := ⟨_, rfl⟩
         obtain ⟨fz, hfz⟩ : ∃ fx, fIx (fun z : ZkT => z.1.nm == bsO ZO) (Z.take Z.length) = fx := ⟨_, rfl⟩
         have HLA4 : Hid (lGo (Z.map fun z => z.1.nm) lk i = if g = false then some (bsO ZO, 7) else lGo (Z.map fun z => z.1.nm) lk (i + 1)) := Lib.hid (by rw [HLA3.out, if_neg (by simp), hg])
         have HHY : Hid (∀ w', Below Y.heap.size Y w' → Calls Tryz.prog 79 #[.agg #[.slice ar ru.length cr, .slice az Z.length cz, .slice (some ⟨b, o, none⟩) lk.length ck0], .int .i64 Z.length, .string ZO] w' fun e w'' => e = .returned (.int .i64 fz) ∧ Below w'.heap.size w' w'') := Lib.hid (by
          rw [← hfz]
          exact fun w' hb => zoned19_any _ _ _ Z Z.length ZO w' (HZO.out.below (keepBelow HB2.out (keepBelow HBY.out hb))) (Nat.le_refl _))
         have gfz : decide (fz < 0) = !g := by
          have h1 : decide (0 ≤ fz) = g := by rw [← hfz, fIx_any, List.take_length, any_con (fun z : ZkT => z.1.nm), hg]
          rw [← h1]
          by_cases hz0 : 0 ≤ fz
          ·rw [decide_eq_true hz0, decide_eq_false (by omega)]; rfl
          ·rw [decide_eq_false hz0, decide_eq_true (by omega)]; rfl
         clear hg hfz HLA3
         go_upto_region 30 with (first | (go_at_call 79; refine HHZ.out.mono ?_; rintro e w' ⟨rfl, hb⟩; obtain ⟨W5, hW5⟩ : ∃ W, w' = W := ⟨_, rfl⟩; rw [hW5] at hb ⊢; clear hW5; have HBM := Lib.hid (keepBelow HBY.out hb); obtain ⟨k0, k1, k2⟩ := HC2.out W5 HBM.out; have x0 := (HU.out W5 hb).1; have x1 := (HU.out W5 hb).2) | (go_at_call 78; refine (HHL.out _ (by assumption)).mono ?_; rintro e w' ⟨rfl, hb2⟩; obtain ⟨W6, hW6⟩ : ∃ W, w' = W := ⟨_, rfl⟩; rw [hW6] at hb2 ⊢; clear hW6; have HBM := Lib.hid (keepBelow HBM.out hb2); obtain ⟨k0, k1, k2⟩ := HC2.out W6 HBM.out; have x0 := (HU.out W6 (keepBelow hb hb2)).1; have x1 := (HU.out W6 (keepBelow hb hb2)).2) | fail)
         cases g with
         | false =>
          have HNO := Lib.hid (chk_lk HNF.out HRN.out HZN.out (HZ.out.trans HLA4.out))
          simp only [Bool.not_false] at gfz
          go_wp2_with (first | (go_at_call 79; refine (HHY.out _ (keepBelow hb hb2)).mono ?_; rintro e w' ⟨rfl, hb3⟩; have x1 := (HU.out w' (keepBelow (keepBelow hb hb2) hb3)).2; have HBN := Lib.hid (keepBelow HBM.out hb3)) | fail)
          go_ret2
          exact ⟨HNO.out, keepBelow HB2.out HBN.out⟩
         | true =>
          have HNX := Lib.hid (HZ.out.trans HLA4.out)
          simp only [Bool.not_true] at gfz
          go_wp2_with (first | (go_at_call 79; refine (HHY.out _ (keepBelow hb hb2)).mono ?_; rintro e w' ⟨rfl, hb3⟩; have HBN := Lib.hid (keepBelow HBM.out hb3)) | fail)
          go_roundw
          case rel => exact ⟨i + 1, by go_num, by omega, HNX.out, HBN.out⟩
          case measure => simp [intOf]; omega
      ·have HLN : Hid (lGo (Z.map fun z => z.1.nm) lk 0 = none) := Lib.hid (by rw [HZ.out]; unfold lGo; rw [List.drop_eq_nil_of_le (by omega)]; rfl)
       have HNO := Lib.hid (chk_ok HNF.out HRN.out HZN.out HLN.out)
       go_wp2_with fail
       go_ret2
       exact ⟨HNO.out, keepBelow HB2.out HB.out⟩

set_option maxRecDepth 100000 in
set_option maxHeartbeats 4000000 in
theorem valid19_any (rv zv lv : Value) (s : SrT) (Z : List ZkT) (w : World) (hs : RdSr w rv zv lv s Z) (hz : SzS s) :
  Calls Tryz.prog 24 #[.agg #[rv, zv, lv]] w fun e w' => e = .returned (.bool (validB s)) ∧ Below w.heap.size w w' := by
 obtain ⟨bz, hbz⟩ : ∃ b, w.heap.size = b := ⟨_, rfl⟩
 obtain ⟨ru, zo, lk⟩ := s
 obtain ⟨ar, cr, rfl⟩ := hs.ru.form
 obtain ⟨az, cz, rfl⟩ := hs.zo.row.form
 obtain ⟨ak, ck0, rfl⟩ := hs.lk.form
 obtain ⟨X, hX⟩ : ∃ X, w.alloc (.cells #[.slice ar ru.length cr, .slice az Z.length cz, .slice ak lk.length ck0] 27) = X := ⟨_, rfl⟩
 have hC : Cls X bz [.slice ar ru.length cr, .slice az Z.length cz, .slice ak lk.length ck0] := by rw [← hX, ← hbz]; exact Cls.new w _ _
 have HBX : Hid (Below w.heap.size w X) := Lib.hid (by rw [← hX]; exact below_box)
 have HH := Lib.hid (check19_any _ _ _ _ Z X (hs.below HBX.out) hz)
 obtain ⟨m, hm⟩ : ∃ m, (checkM ⟨ru, zo, lk⟩).1 = m := ⟨_, rfl⟩
 obtain ⟨q, hq⟩ : ∃ q, (checkM ⟨ru, zo, lk⟩).2 = q := ⟨_, rfl⟩
 have HV : Hid ((q == 0) = validB ⟨ru, zo, lk⟩) := Lib.hid (by rw [← hq]; rfl)
 have HH2 : Hid (Calls Tryz.prog 36 #[.agg #[.slice ar ru.length cr, .slice az Z.length cz, .slice ak lk.length ck0]] X fun e w' => e = .returned (.tuple #[.string ⟨m.toArray⟩, .int .i64 q]) ∧ Below X.heap.size X w') := Lib.hid (by
  have h := HH.out
  unfold ChkA at h
  rw [hm, hq] at h
  exact h)
 have hb : Below X.heap.size X X := Below.refl _ _
 have c0 := Cls.at hC hb (j := 0) (u := .slice ar ru.length cr) rfl
 have c1 := Cls.at hC hb (j := 1) (u := .slice az Z.length cz) rfl
 have c2 := Cls.at hC hb (j := 2) (u := .slice ak lk.length ck0) rfl
 clear hm hq hC hb HH hs hz
 show Calls _ _ #[.agg #[.slice ar ru.length cr, .slice az Z.length cz, .slice ak lk.length ck0]] w _
 go_enter Tryz.func24, Tryz.ntmps24
 go_upto_region 1 with fail
 try rw [hX]
 try rw [hbz]
 clear hX hbz
 go_wp2_with (first | (go_at_call 36; refine HH2.out.mono ?_; rintro e w' ⟨rfl, hb⟩; have HBN := Lib.hid hb) | fail)
 go_ret
 exact ⟨ret_bool HV.out, keepBelow HBX.out HBN.out⟩
end Go.Proofs.YtlbglinpgjlbkaaGreatDoor
