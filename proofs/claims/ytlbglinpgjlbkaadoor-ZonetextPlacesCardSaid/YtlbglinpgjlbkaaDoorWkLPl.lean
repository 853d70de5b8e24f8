import Derived.Test.YtlbglinpgjlbkaaDoorWkP3
import Derived.Test.YtlbglinpgjlbkaaDoorWkL0
import Derived.Test.YtlbglinpgjlbkaaDoorWkJD
/- Zone texts: the law Places. Printed by gen_lpl.py. No conditions. -/
namespace Go.Proofs.YtlbglinpgjlbkaaDoor
open Go.RowKit Wk

theorem bef_app (A B : List (List Tok)) : befT (A ++ B) = befT A ++ befT B := by unfold befT; rw [List.flatMap_append]
theorem bef_one (ws : List Tok) : befT [ws] = spcT ws ++ [10] := by unfold befT; simp
theorem spc_app (a b : List Tok) : spcT (a ++ b) = spcT a ++ spcT b := by unfold spcT; rw [List.flatMap_append]
theorem bef_next {A : List (List Tok)} {i : Nat} (h : i < A.length) : befT (A.take (i + 1)) = befT (A.take i) ++ (spcT (A.getD i []) ++ [10]) := by
 rw [List.take_succ_eq_append_getElem h, bef_app, bef_one, List.getD_eq_getElem?_getD, List.getElem?_eq_getElem h]
 rfl
theorem spc_next {l : List Tok} {k : Nat} (h : k < l.length) : spcT (l.take (k + 1)) = spcT (l.take k) ++ ((l.getD k tok0).tx ++ [32]) := by
 rw [List.take_succ_eq_append_getElem h, spc_app, List.getD_eq_getElem?_getD, List.getElem?_eq_getElem h]
 congr 1
 unfold spcT
 simp
theorem spc_len : ∀ (l : List Tok) (N : Nat), (∀ w ∈ l, w.tx.length ≤ N) → (spcT l).length ≤ l.length * (N + 1)
 | [], _, _ => by simp [spcT]
 | w :: r, N, h => by
  have h1 := spc_len r N fun x hx => h x (List.mem_cons_of_mem _ hx)
  have h2 := h w (by simp)
  have e : spcT (w :: r) = w.tx ++ [32] ++ spcT r := by unfold spcT; simp
  have e2 : (w :: r).length * (N + 1) = r.length * (N + 1) + (N + 1) := by rw [List.length_cons, Nat.succ_mul]
  rw [e, e2, List.length_append, List.length_append]
  simp only [List.length_cons, List.length_nil]
  omega
theorem bef_len : ∀ (A : List (List Tok)) (N : Nat), (∀ ws ∈ A, ws ≠ [] ∧ ∀ w ∈ ws, w.tx.length ≤ N) → (befT A).length ≤ sumW A * (N + 2)
 | [], _, _ => by simp [befT]
 | ws :: r, N, h => by
  have h1 := bef_len r N fun x hx => h x (List.mem_cons_of_mem _ hx)
  obtain ⟨h2, h3⟩ := h ws (by simp)
  have h4 := spc_len ws N h3
  have h5 := List.length_pos_iff.2 h2
  have e : befT (ws :: r) = spcT ws ++ [10] ++ befT r := by unfold befT; simp
  have e2 : sumW (ws :: r) = ws.length + sumW r := by unfold sumW; rw [List.map_cons, List.sum_cons]
  rw [e, e2, List.length_append, List.length_append, Nat.add_mul]
  simp only [List.length_cons, List.length_nil]
  have e3 : ws.length * (N + 2) = ws.length * (N + 1) + ws.length := by rw [Nat.mul_succ]
  omega
theorem bef_take (A : List (List Tok)) (i : Nat) : (befT (A.take i)).length ≤ (befT A).length := by
 have e := bef_app (A.take i) (A.drop i)
 rw [List.take_append_drop] at e
 rw [e, List.length_append]
 exact Nat.le_add_right _ _
theorem in_len {A : List (List Tok)} {i : Nat} (h : i < A.length) (k : Nat) : (befT (A.take i) ++ spcT ((A.getD i []).take k)).length ≤ (befT A).length := by
 have h1 := bef_take A (i + 1)
 rw [bef_next h, List.length_append, List.length_append] at h1
 have e := spc_app ((A.getD i []).take k) ((A.getD i []).drop k)
 rw [List.take_append_drop] at e
 rw [e, List.length_append] at h1
 rw [List.length_append]
 omega
theorem linesM_tx {t : Bs} (h : (linesM t).2.2 = 0) : ∀ ws ∈ (linesM t).1, ∀ w ∈ ws, w.tx.length ≤ t.length := by
 have h6 : t.length ≤ 65536 := by
  by_cases q : 65536 < t.length
  ·unfold linesM at h
   rw [if_pos q] at h
   exact absurd h (by simp)
  ·omega
 unfold linesM
 rw [if_neg (by omega)]
 cases hs : linesS 1 (splitNl t) with
 | inr p => exact fun ws hw => (List.not_mem_nil hw).elim
 | inl out => exact linesS_sz _ _ _ out (fun l hl => split_sz t l hl) hs
theorem parse_lexerr {t : Bs} (h : (linesM t).2.2 ≠ 0) : parseM t = (sr0, (linesM t).2.1, (linesM t).2.2) := by
 unfold parseM
 rw [if_pos h]
theorem lines_bnd {t : Bs} (h : (linesM t).2.2 = 0) (ht : t.length ≤ 3000) : (befT (linesM t).1).length ≤ 5000000 ∧ (linesM t).1.length ≤ 65537 ∧ ∀ ws ∈ (linesM t).1, ws.length ≤ 1000000 ∧ ∀ w ∈ ws, w.tx.length ≤ 3000 := by
 have h1 := bef_len (linesM t).1 3000 fun ws hw => ⟨linesM_ne t ws hw, fun w hw2 => Nat.le_trans (linesM_tx h ws hw w hw2) ht⟩
 have h2 := linesM_len h
 have h3 := linesM_b t (by omega)
 refine ⟨?_, h3.2, fun ws hw => ⟨(h3.1 ws hw).2.2, fun w hw2 => Nat.le_trans (linesM_tx h ws hw w hw2) ht⟩⟩
 have : sumW (linesM t).1 * (3000 + 2) ≤ 1501 * 3002 := Nat.mul_le_mul_right _ (by omega)
 omega
def ParQ (S : SrT) (pa pc er : Int) (w : World) (e : Ending) (w' : World) : Prop :=
 ∃ rv zv lv Z, e = .returned (.tuple #[.agg #[rv, zv, lv], .agg #[.int .i64 pa, .int .i64 pc], .int .i64 er]) ∧ RdSr w' rv zv lv S Z ∧ CapV rv ∧ CapV zv ∧ CapV lv ∧ Below w.heap.size w w'
def LinQ (L : List (List Tok)) (pa pc er : Int) (w : World) (e : Ending) (w' : World) : Prop := ∃ v, e = .returned (.tuple #[v, .agg #[.int .i64 pa, .int .i64 pc], .int .i64 er]) ∧ OwnLn w' w.heap.size v L ∧ Below w.heap.size w w'
set_option maxRecDepth 100000 in
set_option maxHeartbeats 2000000 in
theorem plc_any (TX : ByteArray) (ln co a b : Int) (pb : Nat) (w : World) (h0 : w.cell? ⟨pb, 0, none⟩ = some (.int .i64 a)) (h1 : w.cell? ⟨pb, 1, none⟩ = some (.int .i64 b)) :
  Calls Tryd.prog 9 #[.agg #[.string TX, .int .i64 ln, .int .i64 co], .pointer (some ⟨pb, 0, none⟩)] w fun e w' => e = .returned (.bool (ln == a && co == b)) ∧ Below w.heap.size w w' := by
 obtain ⟨q, hq⟩ : ∃ q, (ln == a && co == b) = q := ⟨_, rfl⟩
 rw [hq]
 have HQ := Lib.hid hq
 clear hq
 go_enter Tryd.func9, Tryd.ntmps9
 go_upto_region 1 with fail
 obtain ⟨bx, hbx⟩ : ∃ b, w.heap.size = b := ⟨_, rfl⟩
 obtain ⟨X, hX⟩ : ∃ X, w.alloc (.cells #[.string TX, .int .i64 ln, .int .i64 co] 43) = X := ⟨_, rfl⟩
 have HBX : Hid (Below w.heap.size w X) := Lib.hid (by rw [← hX]; exact (Below.refl _ _).alloc (Nat.le_refl _) _)
 have HK : Hid (Blk X bx #[.string TX, .int .i64 ln, .int .i64 co] 43) := Lib.hid (by rw [← hX, ← hbx]; exact Blk.new _ _ _)
 try rw [hX]
 try rw [hbx]
 clear hX hbx
 have x1 := HK.out.cell (j := 1) rfl
 have x2 := HK.out.cell (j := 2) rfl
 have y0 := keepCell HBX.out h0
 have y1 := keepCell HBX.out h1
 by_cases e1 : ln = a
 ·by_cases e2 : co = b
  ·have HT : Hid (true = q) := Lib.hid (by rw [← HQ.out, e1, e2]; simp)
   go_wp2_with fail
   go_ret
   exact ⟨ret_bool HT.out, HBX.out⟩
  ·have HT : Hid (false = q) := Lib.hid (by rw [← HQ.out]; simp [e2])
   go_wp2_with fail
   go_ret
   exact ⟨ret_bool HT.out, HBX.out⟩
 ·have HT : Hid (false = q) := Lib.hid (by rw [← HQ.out]; simp [e1])
  go_wp2_with fail
  go_ret
  exact ⟨ret_bool HT.out, HBX.out⟩

set_option maxRecDepth 100000 in
set_option maxHeartbeats 2000000 in
theorem idx_places (pb : Nat) (f : Tok → Bool) (v : Value) (L : List Tok) (w : World) (h : RdTk w v L) (HF : Hid (∀ x, x ∈ L → ∀ W, Below w.heap.size w W → Calls Tryd.prog 9 #[(.agg (flT x).toArray), .pointer (some ⟨pb, 0, none⟩)] W fun e w' => e = .returned (.bool (f x)) ∧ Below W.heap.size W w')) :
  Calls Tryd.prog 25 #[v, .func (.func 9) #[] #[.pointer (some ⟨pb, 0, none⟩)]] w fun e w' => (∃ r : Int, e = .returned (.int .i64 r) ∧ (decide (0 ≤ r) = L.any f)) ∧ Below w.heap.size w w' := by
 obtain ⟨a, c, rfl, hl, hc⟩ := h
 have HC := Lib.hid hc
 clear hc
 go_enter Tryd.func25, Tryd.ntmps25
 go_wp2_with fail
 go_loopw [8] (fun u wr => ∃ k : Nat, u = .int .i64 k ∧ k ≤ L.length ∧ Hid (∀ i, i < k → f (L.getD i tok0) = false) ∧ Below w.heap.size w wr) (fun u _ => L.length - (intOf u).toNat)
 case atStart => exact ⟨0, rfl, Nat.zero_le _, fun i hi => by omega, Below.refl _ _⟩
 case round =>
  obtain ⟨k, rfl, hk, HZ, hB⟩ := hrel
  by_cases hlt : k < L.length
  ·obtain ⟨b, o, rfl, hcc⟩ := HC.out k hlt
   obtain ⟨x, hx⟩ : ∃ x, L.getD k tok0 = x := ⟨_, rfl⟩
   have HX := HF.out x (by rw [← hx]; exact getD_mem hlt) wr hB
   have HXE := Lib.hid hx
   rw [hx] at hcc
   obtain ⟨g, hg⟩ : ∃ g, f x = g := ⟨_, rfl⟩
   rw [hg] at HX
   have HG : Hid (f (L.getD k tok0) = g) := Lib.hid (by rw [hx]; exact hg)
   clear hg hx HXE
   obtain ⟨tx, ln, co⟩ := x
   obtain ⟨TX, rfl⟩ := bs_of tx
   have HH : Hid (Calls Tryd.prog 9 #[.agg #[.string TX, .int .i64 ln, .int .i64 co], .pointer (some ⟨pb, 0, none⟩)] wr fun e w' => e = .returned (.bool g) ∧ Below wr.heap.size wr w') := Lib.hid HX
   clear HX
   have e0 : wr.cell? ⟨b, o + k * 3, none⟩ = some (.string TX) := keepCell hB (hcc 0 _ (by decide) rfl)
   have e1 : wr.cell? ⟨b, o + k * 3 + 1, none⟩ = some (.int .i64 ln) := keepCell hB (hcc 1 _ (by decide) rfl)
   have e2 : wr.cell? ⟨b, o + k * 3 + 2, none⟩ = some (.int .i64 co) := keepCell hB (hcc 2 _ (by decide) rfl)
   clear hcc
   go_wp2_with fail
   refine HH.out.mono ?_
   rintro e w1 ⟨rfl, hb1⟩
   have hB1 := keepBelow hB hb1
   clear e0 e1 e2 hb1
   cases g with
   | false =>
    go_wp2
    go_roundw
    case rel =>
     refine ⟨k + 1, by go_num, by omega, fun i hi => ?_, hB1⟩
     rcases Nat.lt_succ_iff_lt_or_eq.1 hi with h | rfl
     ·exact HZ.out i h
     ·exact HG.out
    case measure => simp [intOf]; omega
   | true =>
    have hA : L.any f = true := List.any_eq_true.2 ⟨_, getD_mem hlt, HG.out⟩
    go_wp2
    go_ret
    exact ⟨⟨k, rfl, by rw [hA]; simp⟩, hB1⟩
  ·have hA : L.any f = false := any_false (d := tok0) fun i hi => HZ.out i (by omega)
   go_wp2
   go_ret
   exact ⟨⟨-1, rfl, by rw [hA]; simp⟩, hB⟩
theorem con_places (pb : Nat) (f : Tok → Bool) (v : Value) (L : List Tok) (w : World) (h : RdTk w v L) (HF : Hid (∀ x, x ∈ L → ∀ W, Below w.heap.size w W → Calls Tryd.prog 9 #[(.agg (flT x).toArray), .pointer (some ⟨pb, 0, none⟩)] W fun e w' => e = .returned (.bool (f x)) ∧ Below W.heap.size W w')) :
  Calls Tryd.prog 8 #[v, .func (.func 9) #[] #[.pointer (some ⟨pb, 0, none⟩)]] w fun e w' => e = .returned (.bool (L.any f)) ∧ Below w.heap.size w w' := by
 have H := Lib.hid (idx_places pb f v L w h HF)
 obtain ⟨a, c, rfl, _⟩ := h
 go_enter Tryd.func8, Tryd.ntmps8
 go_wp2_with fail
 refine H.out.mono ?_
 rintro e w1 ⟨⟨r, rfl, hr⟩, hb1⟩
 have HRR := Lib.hid hr
 clear hr
 go_wp2
 go_ret
 exact ⟨ret_bool HRR.out, hb1⟩

set_option maxRecDepth 100000 in
set_option maxHeartbeats 8000000 in
theorem law_Places (s : ByteArray) (w : World) (hg : Glob w) :
  Calls Tryd.prog 3 #[.string s] w fun e w' => e = .returned (.bool true) ∧ Below w.heap.size w w' := by
 have HG := Lib.hid hg
 clear hg
 have HAW : Hid (∀ W, Below w.heap.size w W → Calls Tryd.prog 5 #[] W fun e w' => e = .returned (.bool true) ∧ Below W.heap.size W w') := Lib.hid fun W hW => awake_any W (HG.out.below hW)
 go_enter Tryd.func3, Tryd.ntmps3
 go_upto_region 3 with (first | (go_at_call 5; refine (HAW.out _ (Below.refl _ _)).mono ?_; rintro e w1 ⟨rfl, hb⟩; obtain ⟨W1, hW1⟩ : ∃ W, w1 = W := ⟨_, rfl⟩; rw [hW1] at hb ⊢; clear hW1; have HB1 := Lib.hid hb; clear hb) | fail)
 by_cases hs : (3000 : Int) < s.size
 ·go_wp2_with fail
  go_ret
  exact ⟨rfl, HB1.out⟩
 obtain ⟨T, hT⟩ : ∃ T, bsO s = T := ⟨_, rfl⟩
 have hT3 : T.length ≤ 3000 := by rw [← hT, bs_len]; omega
 obtain ⟨R, hR⟩ : ∃ R, linesM T = R := ⟨_, rfl⟩
 obtain ⟨LL, ⟨pa, pc⟩, le⟩ := R
 obtain ⟨R2, hR2⟩ : ∃ R, parseM T = R := ⟨_, rfl⟩
 obtain ⟨S1, ⟨qa, qc⟩, pe⟩ := R2
 have HLN : Hid (∀ W, Below w.heap.size w W → Calls Tryd.prog 6 #[.string s] W (LinQ LL pa pc le W)) := Lib.hid fun W hW => by
  have q := lines_any s (by omega) W (HG.out.below hW)
  unfold LinP at q
  rw [hT, hR] at q
  exact q
 have HPA : Hid (∀ W, Below w.heap.size w W → Calls Tryd.prog 7 #[.string s] W (ParQ S1 qa qc pe W)) := Lib.hid fun W hW => by
  have q := parse_any s (by omega) W (HG.out.below hW)
  unfold ParP at q
  rw [hT, hR2] at q
  exact q
 go_upto_region 6 with (first | (go_at_call 6; refine (HLN.out _ HB1.out).mono ?_; rintro e w2 ⟨v2, rfl, ho2, hb2⟩; obtain ⟨W2, hW2⟩ : ∃ W, w2 = W := ⟨_, rfl⟩; rw [hW2] at ho2 hb2 ⊢; clear hW2; obtain ⟨la, lc, rfl⟩ := ho2.form; have HO2 := Lib.hid ho2; have HB2 : Hid (Below w.heap.size w W2) := Lib.hid (keepBelow HB1.out hb2); clear ho2 hb2) | fail)
 obtain ⟨b4, hb4⟩ : ∃ b, W2.heap.size = b := ⟨_, rfl⟩
 obtain ⟨X, hX⟩ : ∃ X, W2.alloc (.cells #[.int .i64 pa, .int .i64 pc] 25) = X := ⟨_, rfl⟩
 have HBX : Hid (Below W2.heap.size W2 X) := Lib.hid (by rw [← hX]; exact (Below.refl _ _).alloc (Nat.le_refl _) _)
 have HX4 : Hid (Blk X b4 #[.int .i64 pa, .int .i64 pc] 25) := Lib.hid (by rw [← hX, ← hb4]; exact Blk.new _ _ _)
 try rw [hX]
 try rw [hb4]
 clear hX hb4
 go_upto_region 7 with (first | (go_at_call 7; refine (HPA.out _ (keepBelow HB2.out HBX.out)).mono ?_; rintro e w3 ⟨rv, zv, lv, Z1, rfl, hr3, cr3, cz3, cl3, hb3⟩; obtain ⟨W3, hW3⟩ : ∃ W, w3 = W := ⟨_, rfl⟩; rw [hW3] at hr3 hb3 ⊢; clear hW3; obtain ⟨ra1, rc1, rfl⟩ := hr3.ru.form; obtain ⟨za1, zc1, rfl⟩ := hr3.zo.row.form; obtain ⟨la1, lc1, rfl⟩ := hr3.lk.form; have HR3 := Lib.hid hr3; have HB3 := Lib.hid hb3; clear hr3 hb3 cr3 cz3 cl3) | fail)
 obtain ⟨b6, hb6⟩ : ∃ b, W3.heap.size = b := ⟨_, rfl⟩
 obtain ⟨b7, hb7⟩ : ∃ b, W3.heap.size + 1 = b := ⟨_, rfl⟩
 obtain ⟨Y, hY⟩ : ∃ Y, (W3.alloc (.cells #[.slice ra1 S1.ru.length rc1, .slice za1 Z1.length zc1, .slice la1 S1.lk.length lc1] 33)).alloc (.cells #[.int .i64 qa, .int .i64 qc] 25) = Y := ⟨_, rfl⟩
 have HBY : Hid (Below W3.heap.size W3 Y) := Lib.hid (by rw [← hY]; exact ((Below.refl _ _).alloc (Nat.le_refl _) _).alloc (by simp) _)
 have HSY : Hid (Blk Y b6 #[.slice ra1 S1.ru.length rc1, .slice za1 Z1.length zc1, .slice la1 S1.lk.length lc1] 33) := Lib.hid (by rw [← hY, ← hb6]; exact (Blk.new _ _ _).below ((Below.refl _ _).alloc (Nat.le_refl _) _))
 have HPY : Hid (Blk Y b7 #[.int .i64 qa, .int .i64 qc] 25) := Lib.hid (by
  rw [← hY, ← hb7]
  have q := Blk.new (W3.alloc (.cells #[.slice ra1 S1.ru.length rc1, .slice za1 Z1.length zc1, .slice la1 S1.lk.length lc1] 33)) #[.int .i64 qa, .int .i64 qc] 25
  simpa using q)
 try rw [hY]
 try rw [hb7]
 try rw [hb6]
 clear hY hb6 hb7
 have HBY3 := Lib.hid (keepBelow HB3.out HBY.out)
 have HBYw := Lib.hid (keepBelow (keepBelow HB2.out HBX.out) HBY3.out)
 have HX4Y := Lib.hid (HX4.out.below HBY3.out)
 have a0 := HPY.out.cell (j := 0) rfl
 have a1 := HPY.out.cell (j := 1) rfl
 have c0 := HX4Y.out.cell (j := 0) rfl
 have c1 := HX4Y.out.cell (j := 1) rfl
 by_cases he : le = 0
 ·have he0 : (linesM T).2.2 = 0 := by rw [hR]; exact he
  have g0 : (le != 0) = false := by rw [he]; rfl
  have hbnd := lines_bnd he0 hT3
  rcases places_ok he0 with ⟨h1, h2, h3⟩ | ⟨h1, A, ws, B, hL, hw, hA, hf0, q1, q2, q3⟩
  ·rw [hR2] at h1 h2 h3
   simp only at h1 h2 h3
   injection h1 with h4 h5
   subst h4 h5
   have g1 : (pe != 3) = true := by simpa using h2
   have g2 : (pe != 6) = true := by simpa using h3
   clear h2 h3 hbnd he0 he
   go_wp2_with fail
   go_ret
   exact ⟨rfl, HBYw.out⟩
  ·rw [hR2] at h1 hw hA hf0
   rw [hR] at hL hbnd
   simp only at h1 hw hA hf0 hL hbnd
   clear he he0 hR hR2
   go_upto_region 9 with fail
   clear g0 c0 c1
   go_cut [46] from 22 to 46 (fun u wx => u = .bool false ∧ Hid (wx = Y))
   case first =>
    by_cases e1 : qa = 0
    ·have e2 : ¬ qc = 0 := fun e2 => h1 (by rw [e1, e2])
     subst e1
     go_wp2_with fail
     go_meet
     exact ⟨rfl, rfl⟩
    ·go_wp2_with fail
     go_meet
     exact ⟨rfl, rfl⟩
   case rest =>
   obtain ⟨rfl, HWX⟩ := hcut
   rw [HWX.out]
   clear HWX a0 a1 h1
   go_upto_region 12 with fail
   obtain ⟨b9, hb9⟩ : ∃ b, Y.heap.size = b := ⟨_, rfl⟩
   obtain ⟨Y0, hY0⟩ : ∃ Z, Y.alloc (.cells #[.pointer none, .slice none 0 0] 39) = Z := ⟨_, rfl⟩
   have HB0 : Hid (Bld Y b9 [] Y0) := Lib.hid (by rw [← hY0, ← hb9]; exact Bld.new (Below.refl _ _))
   try rw [hY0]
   try rw [hb9]
   clear hY0 hb9
   have HLY : Hid (OwnLn Y W1.heap.size (.slice la LL.length lc) LL) := Lib.hid ((HO2.out.below HBX.out).below HBY3.out)
   have HPB : Hid (∀ W, Below w.heap.size w W → Calls Tryd.prog 7 #[.string ⟨(befT A).toArray⟩] W (ParQ (parseM (befT A)).1 0 0 (parseM (befT A)).2.2 W)) := Lib.hid fun W hW => by
    have q := parse_any ⟨(befT A).toArray⟩ (by
     have h6 := hbnd.1
     rw [hL, bef_app, List.length_append] at h6
     rw [← bs_len, show bsO (⟨(befT A).toArray⟩ : ByteArray) = befT A from rfl]
     omega) W (HG.out.below hW)
    unfold ParP at q
    rw [show bsO (⟨(befT A).toArray⟩ : ByteArray) = befT A from rfl, q1] at q
    exact q
   obtain ⟨S5, hS5⟩ : ∃ S, (parseM (befT A)).1 = S := ⟨_, rfl⟩
   obtain ⟨e5, he5⟩ : ∃ S, (parseM (befT A)).2.2 = S := ⟨_, rfl⟩
   rw [hS5, he5] at HPB
   rw [he5] at q2 q3
   have g3 : (e5 != 3) = true := by simpa using q2
   have g4 : (e5 != 6) = true := by simpa using q3
   have g5 : (pe != 0) = true := by simpa using hf0
   have HBN := Lib.hid hbnd
   have HLA : Hid (LL.length = A.length + (B.length + 1)) := Lib.hid (by rw [hL, List.length_append, List.length_cons])
   have HAT : Hid (∀ i, i < A.length → LL.getD i [] = A.getD i [] ∧ A.getD i [] ∈ A) := Lib.hid fun i hi => ⟨by rw [hL, List.getD_eq_getElem?_getD, List.getD_eq_getElem?_getD, List.getElem?_append_left hi], getD_mem hi⟩
   have HWS : Hid (LL.getD A.length [] = ws) := Lib.hid (by rw [hL, List.getD_eq_getElem?_getD, List.getElem?_append_right (Nat.le_refl _)]; simp)
   have HA2 : Hid (∀ v ∈ A, v.any (fun t : Tok => (t.ln : Int) == (qa : Int) && (t.co : Int) == (qc : Int)) = false) := Lib.hid fun v hv => List.any_eq_false.2 fun t ht => by
    have := hA v hv t ht
    unfold plO at this
    simp only [Bool.and_eq_true, beq_iff_eq, not_and]
    exact fun g1 g2 => this (by rw [Prod.mk.injEq]; exact ⟨by omega, by omega⟩)
   have HW2 : Hid (ws.any (fun t : Tok => (t.ln : Int) == (qa : Int) && (t.co : Int) == (qc : Int)) = true) := Lib.hid (by
    obtain ⟨t, ht, hp⟩ := hw
    unfold plO at hp
    rw [Prod.mk.injEq] at hp
    exact List.any_eq_true.2 ⟨t, ht, by simp [hp.1, hp.2]⟩)
   have HCN : Hid (∀ (v : Value) (l : List Tok) (W : World), RdTk W v l → Below Y.heap.size Y W → Calls Tryd.prog 8 #[v, .func (.func 9) #[] #[.pointer (some ⟨b7, 0, none⟩)]] W fun e w' => e = .returned (.bool (l.any fun t : Tok => (t.ln : Int) == (qa : Int) && (t.co : Int) == (qc : Int))) ∧ Below W.heap.size W w') := Lib.hid fun v l W hv hW => con_places b7 _ v l W hv (Lib.hid fun x _ W2 hW2 => by
    obtain ⟨tx, ln, co⟩ := x
    obtain ⟨TX, rfl⟩ := bs_of tx
    have hk := (HPY.out.below (keepBelow hW hW2))
    exact plc_any TX ln co qa qc b7 W2 (hk.cell (j := 0) rfl) (hk.cell (j := 1) rfl))
   have HLEN : Hid (∀ i, (befT (A.take i)).length ≤ 5000000 ∧ (i < A.length → ∀ k, (befT (A.take i) ++ spcT ((A.getD i []).take k)).length ≤ 5000000)) := Lib.hid fun i => by
    have h6 := hbnd.1
    rw [hL, bef_app, List.length_append] at h6
    exact ⟨by have := bef_take A i; omega, fun hi k => by have := in_len hi k; omega⟩
   clear hL hw hA hf0 q1 q2 q3 hbnd hS5 he5 HPA HLN HAW
   have lbn : (LL.length : Int) ≤ 65537 := by have := HBN.out.2.1; omega
   go_upto_region 13 with fail
   go_loopw [11, 16, 55] (fun _ _ u wr => ∃ i : Nat, u = .int .i64 i ∧ i ≤ A.length ∧ Hid (Bld Y b9 (befT (A.take i)) wr)) (fun _ _ u _ => LL.length - (intOf u).toNat)
   case atStart => exact ⟨0, rfl, Nat.zero_le _, HB0.out⟩
   case round =>
    clear HB0
    obtain ⟨i, rfl, hi, HBL⟩ := hrel
    have HBW := Lib.hid HBL.out.2
    have hlt : i < LL.length := by have := HLA.out; omega
    have hll : (i : Int) < (LL.length : Int) := by omega
    obtain ⟨g, gc, wv, ev, hcell, hrd, -⟩ := OwnGG.at (d := tok0) HLY.out flT_len hlt ((HBN.out.2.2 _ (getD_mem hlt)).1)
    cases ev
    obtain ⟨wa, wc, rfl⟩ := hrd.form
    by_cases hia : i < A.length
    ·have HAI := Lib.hid (HAT.out i hia)
     rw [HAI.out.1] at hrd hcell
     obtain ⟨l, hl⟩ : ∃ l, A.getD i [] = l := ⟨_, rfl⟩
     have HLL : Hid (A.getD i [] = l) := Lib.hid hl
     rw [hl] at hrd hcell
     have HAny : Hid (l.any (fun t : Tok => (t.ln : Int) == (qa : Int) && (t.co : Int) == (qc : Int)) = false) := Lib.hid (HA2.out l (by rw [← hl]; exact HAI.out.2))
     have HC1 := Lib.hid (HCN.out _ l wr (hrd.below HBW.out) HBW.out)
     rw [HAny.out] at HC1
     have HRD := Lib.hid hrd
     have HTX : Hid (∀ k, k < l.length → (l.getD k tok0).tx.length ≤ 3000) := Lib.hid fun k hk => (HBN.out.2.2 (LL.getD i []) (getD_mem hlt)).2 _ (by rw [HAI.out.1, hl]; exact getD_mem hk)
     have hlb : (l.length : Int) ≤ 1000000 := by have := (HBN.out.2.2 (LL.getD i []) (getD_mem hlt)).1; rw [HAI.out.1, hl] at this; omega
     have HLN2 : Hid (∀ k, (befT (A.take i) ++ spcT (l.take k)).length ≤ 5000000) := Lib.hid fun k => by rw [← hl]; exact (HLEN.out i).2 hia k
     have hcw := keepCell HBW.out hcell
     clear hl hrd HAny hcell
     go_upto_region 18 with (first | (go_at_call 8; refine HC1.out.mono ?_; rintro e w5 ⟨rfl, hb5⟩; obtain ⟨W5, hW5⟩ : ∃ W, w5 = W := ⟨_, rfl⟩; rw [hW5] at hb5 ⊢; clear hW5; have HBL5 := Lib.hid (HBL.out.below hb5); clear hb5) | fail)
     clear hcw HC1
     go_upto_region 19 with fail
     generalize wr = Wq at *
     go_loopw [16, 85] (fun _ u wx => ∃ k : Nat, u = .int .i64 k ∧ k ≤ l.length ∧ Hid (Bld Y b9 (befT (A.take i) ++ spcT (l.take k)) wx)) (fun _ u _ => l.length - (intOf u).toNat)
     case atStart => exact ⟨0, rfl, Nat.zero_le _, Lib.hid (by rw [List.take_zero]; simpa [spcT] using HBL5.out)⟩
     case round =>
      clear HBL5
      obtain ⟨k, rfl, hk, HBk⟩ := hrel
      by_cases hkl : k < l.length
      ·have hkk : (k : Int) < (l.length : Int) := by omega
       obtain ⟨al, cl, ea, _, hc⟩ := HRD.out
       cases ea
       obtain ⟨b, o, rfl, hcc⟩ := hc k hkl
       have HNX := Lib.hid (spc_next hkl)
       have hx3 := HTX.out k hkl
       have hl5 := HLN2.out k
       obtain ⟨x, hx⟩ : ∃ x, l.getD k tok0 = x := ⟨_, rfl⟩
       rw [hx] at hcc HNX hx3
       clear hc hx
       obtain ⟨tx, ln, co⟩ := x
       obtain ⟨TX, rfl⟩ := bs_of tx
       have htx : (TX.size : Int) ≤ 3000 := by have := hx3; rw [bs_len] at this; omega
       have HLK : Hid ((befT (A.take i) ++ spcT (l.take k)).length ≤ 5000000) := Lib.hid hl5
       clear hx3 hl5
       obtain ⟨B0, hB0⟩ : ∃ B, befT (A.take i) ++ spcT (l.take k) = B := ⟨_, rfl⟩
       rw [hB0] at HBk HLK
       have HB0E := Lib.hid hB0
       clear hB0
       have e0 : wr.cell? ⟨b, o + k * 3, none⟩ = some (.string TX) := keepCell HBk.out.2 (hcc 0 _ (by decide) rfl)
       have e1 : wr.cell? ⟨b, o + k * 3 + 1, none⟩ = some (.int .i64 ln) := keepCell HBk.out.2 (hcc 1 _ (by decide) rfl)
       have e2 : wr.cell? ⟨b, o + k * 3 + 2, none⟩ = some (.int .i64 co) := keepCell HBk.out.2 (hcc 2 _ (by decide) rfl)
       clear hcc
       go_upto_region 21 with fail
       obtain ⟨b16, hb16⟩ : ∃ b, wr.heap.size = b := ⟨_, rfl⟩
       obtain ⟨V, hV⟩ : ∃ Z, wr.alloc (.cells #[.string TX, .int .i64 ln, .int .i64 co] 43) = Z := ⟨_, rfl⟩
       have HBV : Hid (Below wr.heap.size wr V) := Lib.hid (by rw [← hV]; exact (Below.refl _ _).alloc (Nat.le_refl _) _)
       have HKV : Hid (Blk V b16 #[.string TX, .int .i64 ln, .int .i64 co] 43) := Lib.hid (by rw [← hV, ← hb16]; exact Blk.new _ _ _)
       try rw [hV]
       try rw [hb16]
       clear hV hb16 e0 e1 e2
       have u0 := HKV.out.cell (j := 0) rfl
       have HBLV := Lib.hid (HBk.out.below HBV.out)
       obtain ⟨TS, hTS⟩ : ∃ D : ByteArray, TX ++ ⟨#[32]⟩ = D := ⟨_, rfl⟩
       have HTS : Hid (bsO TS = bsO TX ++ [32]) := Lib.hid (by rw [← hTS, bs_app])
       have hts : (TS.size : Int) ≤ 3001 := by rw [← hTS, ByteArray.size_append]; have : (⟨#[32]⟩ : ByteArray).size = 1 := rfl; omega
       go_wp2_with (first | (go_at_call 11; refine (ws_any HBLV.out TS (by have := HLK.out; omega)).mono ?_; rintro e w8 ⟨rfl, hb8, -⟩) | fail)
       go_roundw
       case rel => exact ⟨k + 1, by go_num, hkl, Lib.hid (by rw [HNX.out, ← List.append_assoc, HB0E.out, ← HTS.out]; exact hb8)⟩
       case measure => simp [intOf]; omega
      ·obtain rfl : k = l.length := by omega
       have HLK := Lib.hid (HLN2.out l.length)
       have HNX : Hid (befT (A.take (i + 1)) = befT (A.take i) ++ spcT (l.take l.length) ++ [10]) := Lib.hid (by rw [bef_next hia, HLL.out, List.take_length, List.append_assoc])
       obtain ⟨B0, hB0⟩ : ∃ B, befT (A.take i) ++ spcT (l.take l.length) = B := ⟨_, rfl⟩
       rw [hB0] at HBk HLK HNX
       clear hB0
       go_wp2_with (first | (go_at_call 11; refine (ws_any HBk.out ⟨#[10]⟩ (by have := HLK.out; have : (⟨#[10]⟩ : ByteArray).size = 1 := rfl; omega)).mono ?_; rintro e w8 ⟨rfl, hb8, -⟩) | fail)
       go_roundw
       case rel => exact ⟨i + 1, by go_num, by omega, Lib.hid (by rw [HNX.out]; exact hb8)⟩
       case measure => simp [intOf]; omega
    ·obtain rfl : i = A.length := by omega
     rw [HWS.out] at hrd hcell
     have HC1 := Lib.hid (HCN.out _ ws wr (hrd.below HBW.out) HBW.out)
     rw [HW2.out] at HC1
     have hcw := keepCell HBW.out hcell
     rw [List.take_length] at HBL
     clear hrd hcell
     have e64 : (⟨(befT A).toArray⟩ : ByteArray) = ⟨(befT A).toArray⟩ := rfl
     obtain ⟨BT, hBT⟩ : ∃ D : ByteArray, ⟨(befT A).toArray⟩ = D := ⟨_, rfl⟩
     have HSTR : Hid (∀ W, Bld Y b9 (befT A) W → Calls Tryd.prog 10 #[.pointer (some ⟨b9, 0, none⟩)] W fun e w' => e = .returned (.string BT) ∧ Below Y.heap.size Y w') := Lib.hid fun W hW => by rw [← hBT]; exact bstr_any hW
     rw [hBT] at HPB
     clear hBT e64
     go_upto_region 17 with (first
      | (go_at_call 8; refine HC1.out.mono ?_; rintro e w5 ⟨rfl, hb5⟩; obtain ⟨W5, hW5⟩ : ∃ W, w5 = W := ⟨_, rfl⟩; rw [hW5] at hb5 ⊢; clear hW5; have HBL5 := Lib.hid (HBL.out.below hb5); clear hb5)
      | (go_at_call 10; refine (HSTR.out _ HBL5.out).mono ?_; rintro e w6 ⟨rfl, hb6⟩; obtain ⟨W6, hW6⟩ : ∃ W, w6 = W := ⟨_, rfl⟩; rw [hW6] at hb6 ⊢; clear hW6; have HB6 : Hid (Below Y.heap.size Y W6) := Lib.hid hb6; clear hb6)
      | (go_at_call 7; refine (HPB.out _ (keepBelow HBYw.out HB6.out)).mono ?_; rintro e w7 ⟨rv, zv, lv, Z5, rfl, hr7, cr7, cz7, cl7, hb7⟩; obtain ⟨W7, hW7⟩ : ∃ W, w7 = W := ⟨_, rfl⟩; rw [hW7] at hr7 hb7 ⊢; clear hW7; obtain ⟨ra5, rc5, rfl⟩ := hr7.ru.form; obtain ⟨za5, zc5, rfl⟩ := hr7.zo.row.form; obtain ⟨la5, lc5, rfl⟩ := hr7.lk.form; have HR7 := Lib.hid hr7; have HB7 := Lib.hid hb7; clear hr7 hb7 cr7 cz7 cl7)
      | fail)
     obtain ⟨b12, hb12⟩ : ∃ b, W7.heap.size = b := ⟨_, rfl⟩
     obtain ⟨b13, hb13⟩ : ∃ b, W7.heap.size + 1 = b := ⟨_, rfl⟩
     obtain ⟨V, hV⟩ : ∃ Y, (W7.alloc (.cells #[.slice ra5 S5.ru.length rc5, .slice za5 Z5.length zc5, .slice la5 S5.lk.length lc5] 33)).alloc (.cells #[.int .i64 0, .int .i64 0] 25) = Y := ⟨_, rfl⟩
     have HBV : Hid (Below W7.heap.size W7 V) := Lib.hid (by rw [← hV]; exact ((Below.refl _ _).alloc (Nat.le_refl _) _).alloc (by simp) _)
     have HSV : Hid (Blk V b12 #[.slice ra5 S5.ru.length rc5, .slice za5 Z5.length zc5, .slice la5 S5.lk.length lc5] 33) := Lib.hid (by rw [← hV, ← hb12]; exact (Blk.new _ _ _).below ((Below.refl _ _).alloc (Nat.le_refl _) _))
     have HPV : Hid (Blk V b13 #[.int .i64 0, .int .i64 0] 25) := Lib.hid (by
      rw [← hV, ← hb13]
      have q := Blk.new (W7.alloc (.cells #[.slice ra5 S5.ru.length rc5, .slice za5 Z5.length zc5, .slice la5 S5.lk.length lc5] 33)) #[.int .i64 0, .int .i64 0] 25
      simpa using q)
     try rw [hV]
     try rw [hb13]
     try rw [hb12]
     clear hV hb12 hb13
     have HBZ := Lib.hid (keepBelow (keepBelow HB6.out HB7.out) HBV.out)
     have a0 := HPV.out.cell (j := 0) rfl
     have a1 := HPV.out.cell (j := 1) rfl
     go_wp2_with fail
     go_ret
     exact ⟨ret_bool (by simp), keepBelow HBYw.out HBZ.out⟩
 ·have hpe := parse_lexerr (t := T) (by rw [hR]; exact he)
  rw [hR, hR2] at hpe
  simp only at hpe
  injection hpe with k1 k2
  injection k2 with k3 k4
  injection k3 with k5 k6
  subst k4 k5 k6
  have g0 : (pe != 0) = true := by simpa using he
  clear he
  go_wp2_with fail
  go_ret
  exact ⟨ret_bool (by simp), HBYw.out⟩
end Go.Proofs.YtlbglinpgjlbkaaDoor
