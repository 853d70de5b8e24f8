import Derived.Test.YtlbglinpgjlbkaaGreatDoorWkJ2
/- Zone texts: the line of a line of a zone. Printed by gen_j3.py. -/
namespace Go.Proofs.YtlbglinpgjlbkaaGreatDoor
open Go.RowKit Wk

theorem Tryz.infoSt : (Tryz.prog.info? 9).map (fun i => (i.zero, i.size, i.bytes)) = some (some (.string ⟨#[]⟩), 1, 16) := by kernel_rfl
def flB (x : ByteArray) : List Value := [.string x]
theorem flB_len : ∀ x, (flB x).length = 1 := fun _ => rfl
theorem flatB (xs : List ByteArray) : flatG flB xs = xs.map Value.string := by
 induction xs with
 | nil => rfl
 | cons x r ih => show flB x ++ flatG flB r = _; rw [ih]; rfl
theorem row_own (W : World) (xs : List ByteArray) {B : Nat} (hB : B ≤ W.heap.size) (hl : xs.length ≤ 1000) : OwnG 9 1 flB (W.alloc (.cells (xs.map Value.string).toArray 9)) B (.slice (some ⟨W.heap.size, 0, none⟩) xs.length xs.length) xs := by
 refine ⟨by rw [flatB]; simp, .inr ⟨W.heap.size, xs.length, (xs.map Value.string).toArray, rfl, hB, Blk.new W _ _, Nat.le_refl _, by unfold maxLen; omega, by simp, ?_⟩⟩
 rw [flatB, Nat.mul_one]
 exact List.take_of_length_le (by simp)
theorem tl_ne (N : ByteArray) (l : Bs) : (N.toList = l) ↔ (bsO N = l) := by rw [Lib.toList_data]
theorem join_own (xs : List ByteArray) (W : World) {B g c : Nat} (h : OwnG 9 1 flB W B (.slice (some ⟨g, 0, none⟩) xs.length c) xs) (hn : xs.length ≤ 1000) (hl : ∀ x ∈ xs, x.size ≤ 1000000) :
  Calls Tryz.prog 161 #[.slice (some ⟨g, 0, none⟩) xs.length c, .string ⟨#[32]⟩] W fun e w' => e = .returned (.string ⟨(joinT (xs.map bsO)).toArray⟩) ∧ Below W.heap.size W w' := by
 have hc : xs.length ≤ c := by
  rcases h.2 with ⟨e, _⟩ | ⟨g', cap, cur, e, _, _, hc, _⟩
  ·cases e
  ·injection e with _ _ e
   rw [e]
   exact hc
 refine join_any xs W hc g (fun j x hx => ?_) (World.ownsRow.lt h g rfl).2 hn hl
 have hj : j < xs.length := (List.getElem?_eq_some_iff.1 hx).1
 have q := (h.cell flB_len ⟨#[]⟩ (i := j) (j := 0) (u := .string x) hj (by decide) (by rw [List.getD_eq_getElem?_getD, hx]; rfl)).1
 rw [Nat.zero_add]
 simpa using q
theorem step_app_T {P : Program} {ops : Array Oper} {o : Oper} {a : Act} {K : Act → World → Prop} {Q : Exit → Act → World → Prop} {E : Prop} {w0 W : World} {B : Nat} {T TS : TypeId} (hTS : P.underlying TS = some (.slice T)) {zv : Value} {by_ : Nat} (hinfo : (P.info? T).map (fun i => (i.zero, i.size, i.bytes)) = some (some zv, 1, by_)) (hzv : zv.cells.size = 1) (hby : by_ ≤ 1000)
  {v : Value} {xs zs : List ByteArray} (hgd : o.guard = none) (s x : Operand) (ho : o.op = .call { callee := .builtin .append, args := #[s, x], argTypes := #[TS, TS] }) (hs : a.eval s = v) (hown : OwnG T 1 flB W B v xs) (hbB : w0.heap.size ≤ B) (hBW : B ≤ W.heap.size) (hbw : Below w0.heap.size w0 W)
  {n m : Nat} (hm : m = zs.length) (h0 : 0 < m) (hx : a.eval x = .slice (some ⟨n, 0, none⟩) m m) (hn : n = W.heap.size) (hlen : xs.length + zs.length ≤ 1000) {cs : Array Value} (hcs : cs = (zs.map Value.string).toArray)
  (h : ∀ g c w', OwnG T 1 flB w' B (.slice (some ⟨g, 0, none⟩) (xs ++ zs).length c) (xs ++ zs) → Below w0.heap.size w0 w' → K (a.put o.dst (.slice (some ⟨g, 0, none⟩) (xs ++ zs).length c)) w') :
  if Region.wanted o (yielded ops a.tmps) = true then Oper.wp P o a (W.alloc (.cells cs T)) K Q else E := by
 have hw : Region.wanted o (yielded ops a.tmps) = true := by simp [Region.wanted, hgd]
 rw [if_pos hw]
 subst hn
 subst hcs
 subst hm
 obtain ⟨i0, hi, hz0, hz1, hz2⟩ := info_parts hinfo
 refine wp_append_lies _ s x TS ho B T i0 zv 1 by_ hTS hi hz0 hz1 hz2 hzv (by decide) v xs.length (flatG flB xs) hs (World.ownsRow.alloc hown _) ⟨W.heap.size, 0, none⟩ zs.length zs.length (zs.map Value.string) hx (by simp) ?_ ?_ h0 (by unfold maxLen; omega) ?_ (by simp; omega) _ rfl ?_
 ·intro j u hu
  rw [WideShapes.add_plain]
  simp only [Nat.zero_add]
  rw [World.cell?_alloc_new]
  simpa using hu
 ·intro u hu
  obtain ⟨y, -, rfl⟩ := List.mem_map.1 hu
  rfl
 ·have : (xs.length + zs.length) * by_ ≤ 1000 * 1000 := Nat.mul_le_mul hlen hby
  omega
 ·intro g cap w' hown' hg _ _
  have hbw' : Below w0.heap.size w0 w' := (hbw.alloc (by omega) _).grown hg (by simp; omega) (fun k hk => by have := (World.ownsRow.lt hown k hk).1; omega)
  have q := h g cap w' (by
   unfold OwnG
   rw [flatG_append, flatB zs, List.length_append]
   exact hown') hbw'
  rw [List.length_append] at q
  exact q
theorem lineW_len {l : LiT} (hl : liB l = true) : ∀ x ∈ lineW l, x.length ≤ 30 := by
 obtain ⟨p1, p2, p3, p4, p5, p6⟩ := li_parts hl
 have hs := sav_parts p4
 have hx : (if l.ru = [] ∧ l.sv ≠ 0 then offsetT l.sv else dashT l.ru).length ≤ 30 := by
  by_cases e : l.ru = [] ∧ l.sv ≠ 0
  ·rw [if_pos e]; have := (offset_ok (n := l.sv) (by omega) (by omega)).2.2; omega
  ·rw [if_neg e]
   unfold dashT
   by_cases e2 : l.ru = []
   ·rw [if_pos e2]; decide
   ·rw [if_neg e2]; exact (name_wd (p3 e2).1).2
 have ho := (offset_ok (n := l.of_) (by omega) (by omega)).2.2
 have hf := (fmt_wd p2).2
 intro w hw
 cases hb : l.la with
 | true =>
  rw [lineW_last hb] at hw
  simp only [List.mem_cons, List.not_mem_nil, or_false] at hw
  rcases hw with rfl | rfl | rfl | rfl
  ·decide
  ·omega
  ·exact hx
  ·omega
 | false =>
  obtain ⟨g1, g2⟩ := p6 hb
  obtain ⟨q1, q2, q3, q4, q5⟩ := mom_parts g2
  rw [lineW_more hb] at hw
  simp only [List.mem_cons, List.not_mem_nil, or_false] at hw
  rcases hw with rfl | rfl | rfl | rfl | rfl | rfl | rfl | rfl | rfl
  ·decide
  ·omega
  ·exact hx
  ·omega
  ·decide
  ·have := (year_ok g1.1 g1.2).2.2; omega
  ·have := (month_ok q1.1 q1.2).2.2; omega
  ·have := (on_ok q2).2.2; omega
  ·have := (clock_ok q4.1 q4.2 q5.1 q5.2).2.2; omega
set_option maxRecDepth 100000 in
set_option maxHeartbeats 8000000 in
theorem lineText_any (l : LiT) (hl : liB l = true) (w : World) (hT : TabP w) :
  Calls Tryz.prog 102 #[liV l] w fun e w' => e = .returned (.string ⟨(joinT (lineW l) ++ [10]).toArray⟩) ∧ Below w.heap.size w w' := by
 have HWL := Lib.hid (lineW_len hl)
 obtain ⟨-, -, -, -, -, p6⟩ := li_parts hl
 have HT := Lib.hid hT
 obtain ⟨of_, ru, sv, fm, la, ⟨yr, mo, ⟨k, v, d⟩, at_, ck⟩⟩ := l
 obtain ⟨RU, rfl⟩ := bs_of ru
 obtain ⟨FM, rfl⟩ := bs_of fm
 simp only at p6
 have HP6 : Hid (la = false → (1 ≤ yr ∧ yr ≤ 9999) ∧ momB mo ⟨k, v, d⟩ at_ ck = true) := Lib.hid p6
 have HOF : Hid (∀ W, Calls Tryz.prog 164 #[.int .i64 of_] W fun e w' => e = .returned (.string ⟨(offsetT of_).toArray⟩) ∧ Below W.heap.size W w') := Lib.hid fun W => offsetText_any of_ W
 have HSV : Hid (∀ W, Calls Tryz.prog 164 #[.int .i64 sv] W fun e w' => e = .returned (.string ⟨(offsetT sv).toArray⟩) ∧ Below W.heap.size W w') := Lib.hid fun W => offsetText_any sv W
 have HSH : Hid (∀ W, Calls Tryz.prog 165 #[.string RU] W fun e w' => e = .returned (.string ⟨(dashT (bsO RU)).toArray⟩) ∧ Below W.heap.size W w') := Lib.hid fun W => (shown_any RU W).mono fun e w' h => ⟨h.1, by rw [h.2]; exact Below.refl _ _⟩
 obtain ⟨VT, hVT⟩ : ∃ D : ByteArray, ⟨(offsetT of_).toArray⟩ = D := ⟨_, rfl⟩
 have HVT : Hid (bsO VT = offsetT of_) := Lib.hid (by rw [← hVT])
 obtain ⟨UT, hUT⟩ : ∃ D : ByteArray, ⟨(offsetT sv).toArray⟩ = D := ⟨_, rfl⟩
 have HUT : Hid (bsO UT = offsetT sv) := Lib.hid (by rw [← hUT])
 obtain ⟨LT, hLT⟩ : ∃ D : ByteArray, ⟨(dashT (bsO RU)).toArray⟩ = D := ⟨_, rfl⟩
 have HLT : Hid (bsO LT = dashT (bsO RU)) := Lib.hid (by rw [← hLT])
 rw [hVT] at HOF
 rw [hUT] at HSV
 rw [hLT] at HSH
 clear hVT hUT hLT hT hl p6
 obtain ⟨R, hR⟩ : ∃ R : ByteArray, ⟨(joinT (lineW (⟨of_, bsO RU, sv, bsO FM, la, ⟨yr, mo, ⟨k, v, d⟩, at_, ck⟩⟩ : LiT)) ++ [10]).toArray⟩ = R := ⟨_, rfl⟩
 have HR : Hid (bsO R = joinT (lineW (⟨of_, bsO RU, sv, bsO FM, la, ⟨yr, mo, ⟨k, v, d⟩, at_, ck⟩⟩ : LiT)) ++ [10]) := Lib.hid (by rw [← hR])
 rw [hR]
 clear hR
 show Calls _ _ #[.agg #[.int .i64 of_, .string RU, .int .i64 sv, .string FM, .bool la, .int .i64 yr, .int .i64 mo, .int .i64 k, .int .i64 v, .int .i64 d, .int .i64 at_, .int .i64 ck]] w _
 go_enter Tryz.func102, Tryz.ntmps102
 go_upto_region 1 with fail
 obtain ⟨b1, hb1⟩ : ∃ b, w.heap.size = b := ⟨_, rfl⟩
 obtain ⟨X, hX⟩ : ∃ X, w.alloc (.cells #[.int .i64 of_, .string RU, .int .i64 sv, .string FM, .bool la, .int .i64 yr, .int .i64 mo, .int .i64 k, .int .i64 v, .int .i64 d, .int .i64 at_, .int .i64 ck] 102) = X := ⟨_, rfl⟩
 have HBX : Hid (Below w.heap.size w X) := Lib.hid (by rw [← hX]; exact (Below.refl _ _).alloc (Nat.le_refl _) _)
 have HX1 : Hid (Blk X b1 #[.int .i64 of_, .string RU, .int .i64 sv, .string FM, .bool la, .int .i64 yr, .int .i64 mo, .int .i64 k, .int .i64 v, .int .i64 d, .int .i64 at_, .int .i64 ck] 102) := Lib.hid (by rw [← hX, ← hb1]; exact Blk.new _ _ _)
 try rw [hX]
 try rw [hb1]
 clear hX hb1
 have x1 := HX1.out.cell (j := 1) rfl
 go_upto_region 2 with (first | (go_at_call 165; refine (HSH.out _).mono ?_; rintro e w2 ⟨rfl, hb2⟩; obtain ⟨W2, hW2⟩ : ∃ W, w2 = W := ⟨_, rfl⟩; rw [hW2] at hb2 ⊢; clear hW2; have HB2 := Lib.hid hb2; clear hb2) | fail)
 have y1 := keepCell HB2.out x1
 have y2 := keepCell HB2.out (HX1.out.cell (j := 2) rfl)
 go_cut [16] from 9 to 17 (fun u wx => ∃ q : Bool, u = .bool q ∧ Hid (q = true ↔ bsO RU = [] ∧ sv ≠ 0) ∧ Hid (Below X.heap.size X wx))
 case first =>
  by_cases e1 : bsO RU = []
  ·have e2 : RU.toList = [] := (tl_ne _ _).2 e1
   have g1 : (RU.toList == []) = true := by rw [e2]; rfl
   have g2 : RU.toList.isEmpty = true := by rw [e2]; rfl
   by_cases e3 : sv = 0
   ·have HQ : Hid (false = true ↔ bsO RU = [] ∧ sv ≠ 0) := Lib.hid ⟨fun q => (by cases q), fun q => absurd e3 q.2⟩
    subst e3
    clear e1
    go_wp2_with fail
    go_meet
    exact ⟨_, rfl, HQ, HB2⟩
   ·have HE : Hid (bsO RU = [] ∧ sv ≠ 0) := Lib.hid ⟨e1, e3⟩
    have g3 : (sv == 0) = false := by simpa using e3
    clear e1 e3
    go_wp2_with fail
    go_meet
    exact ⟨_, rfl, Lib.hid ⟨fun _ => HE.out, fun _ => bne_iff_ne.2 HE.out.2⟩, HB2⟩
  ·have e2 : ¬RU.toList = [] := fun q => e1 ((tl_ne _ _).1 q)
   have g1 : (RU.toList == []) = false := by simpa using e2
   have g2 : RU.toList.isEmpty = false := by simpa using e2
   have HQ : Hid (false = true ↔ bsO RU = [] ∧ sv ≠ 0) := Lib.hid ⟨fun q => (by cases q), fun q => absurd q.1 e1⟩
   clear e1 e2
   go_wp2_with fail
   go_meet
   exact ⟨_, rfl, HQ, HB2⟩
 case rest =>
 clear y1 y2 HB2
 obtain ⟨q, rfl, HQ, HB2⟩ := hcut
 generalize wc = W2 at *
 have y2 := keepCell HB2.out (HX1.out.cell (j := 2) rfl)
 go_upto_if 16 with fail
 go_cut [3] from 17 to 20 (fun u wx => ∃ TO : ByteArray, u = .string TO ∧ Hid (bsO TO = (if bsO RU = [] ∧ sv ≠ 0 then offsetT sv else dashT (bsO RU))) ∧ Hid (Below X.heap.size X wx))
 case first =>
  cases q with
  | true =>
   have HQ2 : Hid (bsO UT = (if bsO RU = [] ∧ sv ≠ 0 then offsetT sv else dashT (bsO RU))) := Lib.hid (by rw [if_pos (HQ.out.1 rfl)]; exact HUT.out)
   go_wp2_with (first | (go_at_call 164; refine (HSV.out _).mono ?_; rintro e w3 ⟨rfl, hb3⟩) | fail)
   go_meet
   exact ⟨_, rfl, HQ2, keepBelow HB2.out hb3⟩
  | false =>
   have HQ2 : Hid (bsO LT = (if bsO RU = [] ∧ sv ≠ 0 then offsetT sv else dashT (bsO RU))) := Lib.hid (by rw [if_neg (fun h => by have := HQ.out.2 h; cases this)]; exact HLT.out)
   go_wp2_with fail
   go_meet
   exact ⟨_, rfl, HQ2, HB2⟩
 case rest =>
 clear y2 HB2
 obtain ⟨TO, rfl, HTO, HB2⟩ := hcut
 generalize wc = W3 at *
 clear x1 HSH HSV
 have HX3 := Lib.hid (HX1.out.below HB2.out)
 have z0 := ext_cell (HX3.out.cell (j := 0) rfl)
 have z3 := ext_cell (HX3.out.cell (j := 3) rfl)
 go_upto_region 4 with fail
 refine wp_region_pre 6 (by kernel_rfl) (by kernel_rfl) ?hle (by kernel_rfl) ?_
 case hle => decide
 simp only [List.take_succ_cons, List.take_zero]
 iterate 6 (go_big_quiet_step ((go_at_call 164; refine calls_ext (HOF.out _))))
 refine wpQuiet_nil ?_
 intro w4 hw4
 have HB4 : Hid (Below W3.heap.size W3 w4) := Lib.hid (by obtain ⟨x, rfl⟩ := hw4; exact extOf_below W3 x)
 clear hw4 z0 z3
 have HB5 := Lib.hid (keepBelow HB2.out HB4.out)
 refine wpAny_of_held (S := fun _ => True) _ _ _ _ ?_
 show wpAnyH _ _ _ _ _ 2 _ _ _
 refine wpAnyH_ready (rs := [6]) (by kernel_rfl) (by simp) ?_
 refine AllReadyH.cons rfl (fun K hK => ?_) AllReadyH.nil
 go_simp
 refine hK.out _ _ ?_ (fun hHeld => ?_)
 ·exact trivial
 clear hK K
 refine wpAnyH_ready (rs := [7]) (by kernel_rfl) (by simp) ?_
 refine AllReadyH.cons rfl (fun K hK => ?_) AllReadyH.nil
 go_simp
 refine hK.out _ _ ?_ (fun hHeld => ?_)
 ·exact trivial
 clear hK K
 refine wpAnyH_done (by kernel_rfl) ?_ _
 obtain ⟨g, hg⟩ : ∃ b, w4.heap.size = b := ⟨_, rfl⟩
 obtain ⟨Y, hY⟩ : ∃ Y, w4.alloc (.cells #[.string ⟨#[108, 105, 110, 101]⟩, .string VT, .string TO, .string FM] 9) = Y := ⟨_, rfl⟩
 have HBY : Hid (Below X.heap.size X Y) := Lib.hid (by rw [← hY]; exact HB5.out.alloc HB5.out.size _)
 have HOW : Hid (OwnG 9 1 flB Y X.heap.size (.slice (some ⟨g, 0, none⟩) 4 4) [⟨#[108, 105, 110, 101]⟩, VT, TO, FM]) := Lib.hid (by
  rw [← hY, ← hg]
  exact row_own w4 [⟨#[108, 105, 110, 101]⟩, VT, TO, FM] HB5.out.size (by simp))
 try rw [hY]
 try rw [hg]
 clear hY hg HB4 HB5
 have HXY := Lib.hid (HX1.out.below HBY.out)
 have u4 := HXY.out.cell (j := 4) rfl
 have u5 := HXY.out.cell (j := 5) rfl
 have u6 := HXY.out.cell (j := 6) rfl
 have u7 := HXY.out.cell (j := 7) rfl
 have u8 := HXY.out.cell (j := 8) rfl
 have u9 := HXY.out.cell (j := 9) rfl
 have u10 := HXY.out.cell (j := 10) rfl
 have u11 := HXY.out.cell (j := 11) rfl
 go_upto_region 6 with fail
 obtain ⟨b5, hb5⟩ : ∃ b, Y.heap.size = b := ⟨_, rfl⟩
 obtain ⟨V, hV⟩ : ∃ V, Y.alloc (.cells #[.int .i64 yr, .int .i64 mo, .int .i64 k, .int .i64 v, .int .i64 d, .int .i64 at_, .int .i64 ck] 100) = V := ⟨_, rfl⟩
 have HBV : Hid (Below Y.heap.size Y V) := Lib.hid (by rw [← hV]; exact (Below.refl _ _).alloc (Nat.le_refl _) _)
 have HV5 : Hid (Blk V b5 #[.int .i64 yr, .int .i64 mo, .int .i64 k, .int .i64 v, .int .i64 d, .int .i64 at_, .int .i64 ck] 100) := Lib.hid (by rw [← hV, ← hb5]; exact Blk.new _ _ _)
 have HOV := Lib.hid (HOW.out.below HBV.out)
 have HXV := Lib.hid (keepBelow HBY.out HBV.out)
 try rw [hV]
 try rw [hb5]
 have c4 := keepCell HBV.out u4
 clear hV hb5 u4 u5 u6 u7 u8 u9 u10 u11 HOW
 cases la with
 | true =>
  have HOW := HOV
  have HXR : ([⟨#[108, 105, 110, 101]⟩, VT, TO, FM] : List ByteArray).map bsO = lineW (⟨of_, bsO RU, sv, bsO FM, true, ⟨yr, mo, ⟨k, v, d⟩, at_, ck⟩⟩ : LiT) := by
   rw [lineW_last rfl]
   simp only [List.map_cons, List.map_nil, HVT.out, HTO.out]
  obtain ⟨JT, hJT⟩ : ∃ J : ByteArray, ⟨(joinT (lineW (⟨of_, bsO RU, sv, bsO FM, true, ⟨yr, mo, ⟨k, v, d⟩, at_, ck⟩⟩ : LiT))).toArray⟩ = J := ⟨_, rfl⟩
  have HJT : Hid (bsO JT = joinT (lineW (⟨of_, bsO RU, sv, bsO FM, true, ⟨yr, mo, ⟨k, v, d⟩, at_, ck⟩⟩ : LiT))) := Lib.hid (by rw [← hJT])
  have hjs : (JT.size : Int) ≤ 1000 := by
   have h := joinT_len HWL.out
   rw [← HJT.out, bs_len] at h
   have : (lineW (⟨of_, bsO RU, sv, bsO FM, true, ⟨yr, mo, ⟨k, v, d⟩, at_, ck⟩⟩ : LiT)).length = 4 := rfl
   omega
  have HJN : Hid (∀ W, Below V.heap.size V W → Calls Tryz.prog 161 #[.slice (some ⟨g, 0, none⟩) 4 4, .string ⟨#[32]⟩] W fun e w' => e = .returned (.string JT) ∧ Below W.heap.size W w') := Lib.hid fun W hW => by
   have q := join_own [⟨#[108, 105, 110, 101]⟩, VT, TO, FM] W (HOW.out.below hW) (by simp) (fun x hx => by
    have h1 : bsO x ∈ lineW (⟨of_, bsO RU, sv, bsO FM, true, ⟨yr, mo, ⟨k, v, d⟩, at_, ck⟩⟩ : LiT) := by
     rw [← HXR]
     exact List.mem_map_of_mem hx
    have h2 := HWL.out _ h1
    rw [bs_len] at h2
    omega)
   rw [HXR, hJT] at q
   exact q
  clear hJT
  go_wp2_with (first | (go_at_call 161; refine (HJN.out _ (Below.refl _ _)).mono ?_; rintro e w9 ⟨rfl, hb9⟩) | fail)
  go_ret
  exact ⟨ret_str (bs_inj (by rw [HR.out, bs_app, HJT.out])), keepBelow HBX.out (keepBelow HXV.out hb9)⟩
 | false =>
  obtain ⟨⟨y1, y2⟩, hmo⟩ := HP6.out rfl
  obtain ⟨⟨m1, m2⟩, m3, -, ⟨m4, m5⟩, m6, m7⟩ := mom_parts hmo
  have HIF : Hid (∀ W, Below w.heap.size w W → Calls Tryz.prog 96 #[.int .i64 yr] W fun e w' => e = .returned (.string ⟨(Lib.itoa yr).toArray⟩) ∧ Below W.heap.size W w') := Lib.hid fun W hW => itoa_any (by omega) (by omega) W (HT.out.below hW)
  have HMO : Hid (∀ W, Calls Tryz.prog 162 #[.int .i64 mo] W fun e w' => e = .returned (.string ⟨(getM monthL mo).toArray⟩) ∧ Below W.heap.size W w') := Lib.hid fun W => monthName_any mo W
  have HON : Hid (∀ W, Below w.heap.size w W → Calls Tryz.prog 30 #[.agg #[.int .i64 k, .int .i64 v, .int .i64 d]] W fun e w' => e = .returned (.string ⟨(onT ⟨k, v, d⟩).toArray⟩) ∧ Below W.heap.size W w') := Lib.hid fun W hW => onText_any ⟨k, v, d⟩ W (HT.out.below hW)
  have HCL : Hid (∀ W, Calls Tryz.prog 163 #[.int .i64 at_, .int .i64 ck] W fun e w' => e = .returned (.string ⟨(clockT at_ ck).toArray⟩) ∧ Below W.heap.size W w') := Lib.hid fun W => clockText_any at_ ck (clock_wf m6 m7) W
  obtain ⟨YT, hYT⟩ : ∃ D : ByteArray, ⟨(Lib.itoa yr).toArray⟩ = D := ⟨_, rfl⟩
  have HYT : Hid (bsO YT = Lib.itoa yr) := Lib.hid (by rw [← hYT])
  obtain ⟨MT, hMT⟩ : ∃ D : ByteArray, ⟨(getM monthL mo).toArray⟩ = D := ⟨_, rfl⟩
  have HMT : Hid (bsO MT = getM monthL mo) := Lib.hid (by rw [← hMT])
  obtain ⟨DT, hDT⟩ : ∃ D : ByteArray, ⟨(onT ⟨k, v, d⟩).toArray⟩ = D := ⟨_, rfl⟩
  have HDT : Hid (bsO DT = onT ⟨k, v, d⟩) := Lib.hid (by rw [← hDT])
  obtain ⟨KT, hKT⟩ : ∃ D : ByteArray, ⟨(clockT at_ ck).toArray⟩ = D := ⟨_, rfl⟩
  have HKT : Hid (bsO KT = clockT at_ ck) := Lib.hid (by rw [← hKT])
  rw [hYT] at HIF
  rw [hMT] at HMO
  rw [hDT] at HON
  rw [hKT] at HCL
  clear hYT hMT hDT hKT m1 m2 m3 m4 m5 m6 m7 hmo y1 y2
  have HXR : ([⟨#[108, 105, 110, 101]⟩, VT, TO, FM, ⟨#[117, 110, 116, 105, 108]⟩, YT, MT, DT, KT] : List ByteArray).map bsO = lineW (⟨of_, bsO RU, sv, bsO FM, false, ⟨yr, mo, ⟨k, v, d⟩, at_, ck⟩⟩ : LiT) := by
   rw [lineW_more rfl]
   simp only [List.map_cons, List.map_nil, HVT.out, HTO.out, HYT.out, HMT.out, HDT.out, HKT.out]
  obtain ⟨JT, hJT⟩ : ∃ J : ByteArray, ⟨(joinT (lineW (⟨of_, bsO RU, sv, bsO FM, false, ⟨yr, mo, ⟨k, v, d⟩, at_, ck⟩⟩ : LiT))).toArray⟩ = J := ⟨_, rfl⟩
  have HJT : Hid (bsO JT = joinT (lineW (⟨of_, bsO RU, sv, bsO FM, false, ⟨yr, mo, ⟨k, v, d⟩, at_, ck⟩⟩ : LiT))) := Lib.hid (by rw [← hJT])
  have hjs : (JT.size : Int) ≤ 1000 := by
   have h := joinT_len HWL.out
   rw [← HJT.out, bs_len] at h
   have : (lineW (⟨of_, bsO RU, sv, bsO FM, false, ⟨yr, mo, ⟨k, v, d⟩, at_, ck⟩⟩ : LiT)).length = 9 := rfl
   omega
  have HIF3 : Hid (∀ x : Ext V, Calls Tryz.prog 96 #[.int .i64 yr] (extOf V x) fun e w' => e = .returned (.string YT) ∧ Below (extOf V x).heap.size (extOf V x) w') := Lib.hid fun x => HIF.out _ (keepBelow HBX.out (keepBelow HXV.out (extOf_below V x)))
  have HON3 : Hid (∀ x : Ext V, Calls Tryz.prog 30 #[.agg #[.int .i64 k, .int .i64 v, .int .i64 d]] (extOf V x) fun e w' => e = .returned (.string DT) ∧ Below (extOf V x).heap.size (extOf V x) w') := Lib.hid fun x => HON.out _ (keepBelow HBX.out (keepBelow HXV.out (extOf_below V x)))
  go_upto_region 7 with fail
  have z0 := ext_cell (HV5.out.cell (j := 0) rfl)
  have z1 := ext_cell (HV5.out.cell (j := 1) rfl)
  have z2 := ext_cell (HV5.out.cell (j := 2) rfl)
  have z3 := ext_cell (HV5.out.cell (j := 3) rfl)
  have z4 := ext_cell (HV5.out.cell (j := 4) rfl)
  have z5 := ext_cell (HV5.out.cell (j := 5) rfl)
  have z6 := ext_cell (HV5.out.cell (j := 6) rfl)
  refine wp_region_any (by kernel_rfl) ?_
  refine wpAny_take (i := 0) (v := ?v0) rfl (by kernel_rfl) (by kernel_rfl) (by kernel_rfl) (fun _ _ _ h => h) (Or.inl ⟨by rfl, ?hy0⟩) ?rest0
  case hy0 =>
   intro w
   go_simp
   try with_reducible rfl
  case rest0 =>
  go_simp
  refine any_pre_at 1 15 (W := V) rfl (by kernel_rfl) (by kernel_rfl) (by decide) ?hle (by kernel_rfl) (by kernel_rfl) (Below.refl _ _).drew ?_
  case hle => decide
  simp only [List.take_succ_cons, List.take_zero, List.drop_succ_cons, List.drop_zero]
  iterate 14 (go_big_quiet_step ((first
   | (go_at_call 96; refine calls_ext (HIF3.out _))
   | (go_at_call 162; refine calls_ext (HMO.out _))
   | (go_at_call 30; refine calls_ext (HON3.out _))
   | (go_at_call 163; refine calls_ext (HCL.out _)))))
  refine wpQuiet_nil ?_
  intro w6 hw6
  have HB6 : Hid (Below V.heap.size V w6) := Lib.hid (by obtain ⟨x, rfl⟩ := hw6; exact extOf_below V x)
  clear hw6 z0 z1 z2 z3 z4 z5 z6 HIF3 HON3
  have HO6 := Lib.hid (HOV.out.below HB6.out)
  have HB7 := Lib.hid (keepBelow HXV.out HB6.out)
  refine wpAny_of_held (S := fun _ => True) _ _ _ _ ?_
  show wpAnyH _ _ _ _ _ 3 _ _ _
  refine wpAnyH_ready (rs := [15]) (by kernel_rfl) (by simp) ?_
  refine AllReadyH.cons rfl (fun K hK => ?_) AllReadyH.nil
  go_simp
  refine hK.out _ _ ?_ (fun hHeld => ?_)
  ·exact trivial
  clear hK K
  refine wpAnyH_ready (rs := [16]) (by kernel_rfl) (by simp) ?_
  refine AllReadyH.cons rfl (fun K hK => ?_) AllReadyH.nil
  refine step_app_T (zs := [⟨#[117, 110, 116, 105, 108]⟩, YT, MT, DT, KT]) (w0 := X) (B := X.heap.size) Tryz.underlying71 Tryz.infoSt rfl (by decide) rfl (.tmp 32) (.tmp 47) rfl rfl HO6.out (Nat.le_refl _) HB7.out.size HB7.out rfl (by simp) rfl (by simp) (by simp) (by simp) ?_
  intro g2 c2 w8 o2 hb8
  refine hK.out _ _ ?_ (fun hHeld => ?_)
  ·exact trivial
  clear hK K
  refine wpAnyH_ready (rs := [17]) (by kernel_rfl) (by simp) ?_
  refine AllReadyH.cons rfl (fun K hK => ?_) AllReadyH.nil
  go_simp
  refine hK.out _ _ ?_ (fun hHeld => ?_)
  ·exact trivial
  clear hK K
  refine wpAnyH_done (by kernel_rfl) ?_ _
  have HOW := Lib.hid o2
  have HB8 := Lib.hid hb8
  have HJN : Hid (∀ W, Below w8.heap.size w8 W → Calls Tryz.prog 161 #[.slice (some ⟨g2, 0, none⟩) 9 c2, .string ⟨#[32]⟩] W fun e w' => e = .returned (.string JT) ∧ Below W.heap.size W w') := Lib.hid fun W hW => by
   have q := join_own [⟨#[108, 105, 110, 101]⟩, VT, TO, FM, ⟨#[117, 110, 116, 105, 108]⟩, YT, MT, DT, KT] W (HOW.out.below hW) (by simp) (fun x hx => by
    have h1 : bsO x ∈ lineW (⟨of_, bsO RU, sv, bsO FM, false, ⟨yr, mo, ⟨k, v, d⟩, at_, ck⟩⟩ : LiT) := by
     rw [← HXR]
     exact List.mem_map_of_mem hx
    have h2 := HWL.out _ h1
    rw [bs_len] at h2
    omega)
   rw [HXR, hJT] at q
   exact q
  clear hJT
  go_wp2_with (first | (go_at_call 161; refine (HJN.out _ (Below.refl _ _)).mono ?_; rintro e w9 ⟨rfl, hb9⟩) | fail)
  go_ret
  exact ⟨ret_str (bs_inj (by rw [HR.out, bs_app, HJT.out])), keepBelow HBX.out (keepBelow HB8.out hb9)⟩
end Go.Proofs.YtlbglinpgjlbkaaGreatDoor
