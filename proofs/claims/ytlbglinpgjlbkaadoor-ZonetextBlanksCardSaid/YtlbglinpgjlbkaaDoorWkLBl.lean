import Derived.Test.YtlbglinpgjlbkaaDoorWkLPl
import Derived.Test.YtlbglinpgjlbkaaDoorWkJS
import Derived.Test.YtlbglinpgjlbkaaDoorWkS1
/- Zone texts: the law Blanks. Printed by gen_lbl.py. No conditions. -/
namespace Go.Proofs.YtlbglinpgjlbkaaDoor
open Go.RowKit Wk

def flU (x : UInt8) : List Value := [.int .u8 x.toNat]
theorem flU_len (x : UInt8) : (flU x).length = 1 := rfl
abbrev RdU (w : World) (v : Value) (F : List UInt8) : Prop := RdG 1 flU 0 w v F
def kinB (n : Nat) : Bs := if n = 0 then [32] else if n = 1 then [9] else if n = 2 then [32, 32] else [32, 9, 32]
def kdB (F : List UInt8) (k : Nat) : Bs := kinB (if k < F.length then (F.getD k 0).toNat % 4 else 0)
theorem kin_ok (n : Nat) : kinB n ≠ [] ∧ (∀ c ∈ kinB n, blkC c = true) ∧ (kinB n).length ≤ 3 := by
 unfold kinB
 split
 ·exact ⟨by simp, by decide, by simp⟩
 split
 ·exact ⟨by simp, by decide, by simp⟩
 split
 ·exact ⟨by simp, by decide, by simp⟩
 ·exact ⟨by simp, by decide, by simp⟩
theorem kd_ok (F : List UInt8) (k : Nat) : kdB F k ≠ [] ∧ ∀ c ∈ kdB F k, blkC c = true := ⟨(kin_ok _).1, (kin_ok _).2.1⟩
theorem line_app (kd : Nat → Bs) : ∀ (a b : List Tok) (j : Nat), lineBl kd j (a ++ b) = lineBl kd j a ++ lineBl kd (j + a.length) b
 | [], b, j => by simp [lineBl]
 | w :: r, b, j => by
  rw [List.cons_append, lineBl, lineBl, line_app kd r b (j + 1), List.length_cons, show j + 1 + r.length = j + (r.length + 1) by omega]
  simp only [List.append_assoc]
theorem blT_app (kd : Nat → Bs) (cm : Bs) : ∀ (A B : List (List Tok)) (j : Nat), blT kd cm j (A ++ B) = blT kd cm j A ++ blT kd cm (j + sumW A) B
 | [], B, j => by simp [blT, sumW]
 | ws :: r, B, j => by
  have e : sumW (ws :: r) = ws.length + sumW r := by unfold sumW; rw [List.map_cons, List.sum_cons]
  rw [List.cons_append, blT, blT, blT_app kd cm r B (j + ws.length), e, show j + ws.length + sumW r = j + (ws.length + sumW r) by omega]
  simp only [List.append_assoc]
theorem sumW_next {L : List (List Tok)} {i : Nat} (h : i < L.length) : sumW (L.take (i + 1)) = sumW (L.take i) + (L.getD i []).length := by
 rw [List.take_succ_eq_append_getElem h, List.getD_eq_getElem?_getD, List.getElem?_eq_getElem h]
 unfold sumW
 rw [List.map_append, List.sum_append]
 simp
theorem sumW_take (L : List (List Tok)) (i : Nat) : sumW (L.take i) ≤ sumW L := by
 have e : sumW L = sumW (L.take i) + sumW (L.drop i) := by
  unfold sumW
  rw [← List.sum_append, ← List.map_append, List.take_append_drop]
 omega
theorem blT_next (kd : Nat → Bs) (cm : Bs) {L : List (List Tok)} {i : Nat} (h : i < L.length) : blT kd cm 0 (L.take (i + 1)) = blT kd cm 0 (L.take i) ++ lineBl kd (sumW (L.take i)) (L.getD i []) ++ endBl cm := by
 rw [List.take_succ_eq_append_getElem h, blT_app, List.getD_eq_getElem?_getD, List.getElem?_eq_getElem h, Nat.zero_add]
 simp [blT]
theorem line_next (kd : Nat → Bs) {l : List Tok} {j k : Nat} (h : k < l.length) : lineBl kd j (l.take (k + 1)) = lineBl kd j (l.take k) ++ (kd (j + k) ++ (l.getD k tok0).tx) := by
 rw [List.take_succ_eq_append_getElem h, line_app, List.length_take, Nat.min_eq_left (Nat.le_of_lt h), List.getD_eq_getElem?_getD, List.getElem?_eq_getElem h]
 congr 1
 simp [lineBl]
theorem lnBl_len (kd : Nat → Bs) (hk : ∀ k, (kd k).length ≤ 3) : ∀ (l : List Tok) (j N : Nat), (∀ w ∈ l, w.tx.length ≤ N) → (lineBl kd j l).length ≤ l.length * (N + 3)
 | [], _, _, _ => by simp [lineBl]
 | w :: r, j, N, h => by
  have h1 := lnBl_len kd hk r (j + 1) N fun x hx => h x (List.mem_cons_of_mem _ hx)
  have h2 := h w (by simp)
  have h3 := hk j
  have e2 : (w :: r).length * (N + 3) = r.length * (N + 3) + (N + 3) := by rw [List.length_cons, Nat.succ_mul]
  rw [lineBl, e2]
  simp only [List.length_append] at *
  omega
theorem blT_len (kd : Nat → Bs) (hk : ∀ k, (kd k).length ≤ 3) (cm : Bs) (hc : cm.length ≤ 40) : ∀ (A : List (List Tok)) (j N : Nat), (∀ ws ∈ A, ws ≠ [] ∧ ∀ w ∈ ws, w.tx.length ≤ N) → (blT kd cm j A).length ≤ sumW A * (N + 103)
 | [], _, _, _ => by simp [blT]
 | ws :: r, j, N, h => by
  have h1 := blT_len kd hk cm hc r (j + ws.length) N fun x hx => h x (List.mem_cons_of_mem _ hx)
  obtain ⟨h2, h3⟩ := h ws (by simp)
  have h4 := lnBl_len kd hk ws j N h3
  have h5 := List.length_pos_iff.2 h2
  have e2 : sumW (ws :: r) = ws.length + sumW r := by unfold sumW; rw [List.map_cons, List.sum_cons]
  have h6 : (endBl cm).length ≤ 100 := by
   unfold endBl
   simp only [List.length_append, List.length_cons, List.length_nil]
   omega
  have e3 : ws.length * (N + 103) = ws.length * (N + 3) + ws.length * 100 := by rw [← Nat.mul_add]
  rw [blT, e2, Nat.add_mul]
  simp only [List.length_append] at *
  omega
theorem blT_take (kd : Nat → Bs) (cm : Bs) (A : List (List Tok)) (i : Nat) : (blT kd cm 0 (A.take i)).length ≤ (blT kd cm 0 A).length := by
 have e := blT_app kd cm (A.take i) (A.drop i) 0
 rw [List.take_append_drop] at e
 rw [e, List.length_append]
 exact Nat.le_add_right _ _
theorem blT_in (kd : Nat → Bs) (cm : Bs) {A : List (List Tok)} {i : Nat} (h : i < A.length) (k : Nat) : (blT kd cm 0 (A.take i) ++ lineBl kd (sumW (A.take i)) ((A.getD i []).take k)).length ≤ (blT kd cm 0 A).length := by
 have h1 := blT_take kd cm A (i + 1)
 rw [blT_next kd cm h, List.length_append, List.length_append] at h1
 have e := line_app kd ((A.getD i []).take k) ((A.getD i []).drop k) (sumW (A.take i))
 rw [List.take_append_drop] at e
 rw [e, List.length_append] at h1
 rw [List.length_append]
 omega
theorem com_next {cm : Bs} {i : Nat} (h : i < cm.length) : comB (cm.take (i + 1)) = (comB (cm.take i) && (decide (32 ≤ (cm.getD i 0).toNat) && decide ((cm.getD i 0).toNat ≤ 126))) := by
 unfold comB
 rw [List.take_succ_eq_append_getElem h, List.all_append, List.getD_eq_getElem?_getD, List.getElem?_eq_getElem h]
 simp
theorem bl_bnd {t : Bs} (h : (linesM t).2.2 = 0) (ht : t.length ≤ 3000) (F : List UInt8) {cm : Bs} (hc : cm.length ≤ 40) : (blT (kdB F) cm 0 (linesM t).1).length ≤ 5000000 := by
 have h1 := blT_len (kdB F) (fun k => (kin_ok _).2.2) cm hc (linesM t).1 0 3000 fun ws hw => ⟨linesM_ne t ws hw, fun w hw2 => Nat.le_trans (linesM_tx h ws hw w hw2) ht⟩
 have h2 := linesM_len h
 have : sumW (linesM t).1 * (3000 + 103) ≤ 1501 * 3103 := Nat.mul_le_mul_right _ (by omega)
 omega
theorem bstr_k {w0 w : World} {b : Nat} {l : Bs} (h : Bld w0 b l w) : Calls Tryd.prog 10 #[.pointer (some ⟨b, 0, none⟩)] w fun e w' => e = .returned (.string ⟨l.toArray⟩) ∧ Below w0.heap.size w0 w' ∧ Lib.OthersKept 5 (some b) w w' :=
 (Any.Builder_String_any_k Tryd.lays169 Tryd.Builder_Extra_169 w0.heap.size b l w h.1 h.2.size).mono fun _ _ q => ⟨q.1, h.2.trans q.2.2.1, q.2.2.2⟩
theorem rdG_kept {α : Type} {sz : Nat} {fl : α → List Value} {d : α} {w w' : World} {v : Value} {L : List α} (h : RdG sz fl d w v L) (hk : CellsKept w w') : RdG sz fl d w' v L := by
 obtain ⟨a, c, rfl, hl, hc⟩ := h
 refine ⟨a, c, rfl, hl, fun i hi => ?_⟩
 obtain ⟨b, o, rfl, c1⟩ := hc i hi
 exact ⟨b, o, rfl, fun j u hj hu => hk _ _ (c1 j u hj hu)⟩
theorem rdSr_kept {w w' : World} {rv zv lv : Value} {s : SrT} {Z : List ZkT} (h : RdSr w rv zv lv s Z) (hk : CellsKept w w') : RdSr w' rv zv lv s Z := ⟨rdG_kept h.ru hk, ⟨rdG_kept h.zo.row hk, fun i hi => rdG_kept (h.zo.li i hi) hk⟩, h.zs, rdG_kept h.lk hk⟩
theorem rdG_nil {α : Type} {sz : Nat} {fl : α → List Value} {d : α} {w : World} (w' : World) {v : Value} {L : List α} (h : RdG sz fl d w v L) (h0 : L = []) : RdG sz fl d w' v L := by
 obtain ⟨a, c, rfl, hl, -⟩ := h
 exact ⟨a, c, rfl, hl, fun i hi => by rw [h0] at hi; simp at hi⟩
theorem rdSr_nil {w : World} (w' : World) {rv zv lv : Value} {s : SrT} {Z : List ZkT} (h : RdSr w rv zv lv s Z) (h0 : s = sr0) : RdSr w' rv zv lv s Z := by
 have hZ : Z = [] := by
  have q := h.zs
  rw [h0] at q
  exact List.map_eq_nil_iff.1 q
 refine ⟨rdG_nil w' h.ru (by rw [h0]; rfl), ⟨rdG_nil w' h.zo.row hZ, fun i hi => by rw [hZ] at hi; simp at hi⟩, h.zs, rdG_nil w' h.lk (by rw [h0]; rfl)⟩
theorem blT_nil {F : List UInt8} {cm : Bs} {L : List (List Tok)} (h : blT (kdB F) cm 0 L = []) : L = [] := by
 cases L with
 | nil => rfl
 | cons ws r =>
  exfalso
  have q := congrArg List.length h
  rw [blT] at q
  unfold endBl at q
  simp only [List.length_append, List.length_cons, List.length_nil] at q
  omega
theorem parse_nil {t : Bs} (h : (linesM t).1 = []) : (parseM t).1 = sr0 := by
 unfold parseM
 by_cases h1 : (linesM t).2.2 ≠ 0
 ·rw [if_pos h1]
 ·rw [if_neg h1, h]
  have e : readS [] sr0 = .inl sr0 := rfl
  rw [e]
  simp only
  split
  ·rfl
  ·split <;> rfl
theorem idx_kd (F : List UInt8) (k : Nat) : (if k < F.length then (F.getD k 0).toNat % 4 else 0) < 4 := by
 split
 ·exact Nat.mod_lt _ (by decide)
 ·decide
def KC : Array Value := #[.string ⟨#[32]⟩, .string ⟨#[9]⟩, .string ⟨#[32, 32]⟩, .string ⟨#[32, 9, 32]⟩]
theorem kc_at {n : Nat} (h : n < 4) : ∃ K : ByteArray, KC[n]? = some (.string K) ∧ bsO K = kinB n ∧ (K.size : Int) ≤ 3 := by
 rcases (show n = 0 ∨ n = 1 ∨ n = 2 ∨ n = 3 by omega) with rfl | rfl | rfl | rfl
 ·exact ⟨_, rfl, rfl, by decide⟩
 ·exact ⟨_, rfl, rfl, by decide⟩
 ·exact ⟨_, rfl, rfl, by decide⟩
 ·exact ⟨_, rfl, rfl, by decide⟩
set_option maxRecDepth 100000 in
set_option maxHeartbeats 16000000 in
theorem law_Blanks (s cs : ByteArray) (fv : Value) (FL : List UInt8) (w : World) (hf : RdU w fv FL) (hg : Glob w) :
  Calls Tryd.prog 4 #[.string s, .string cs, fv] w fun e w' => e = .returned (.bool true) ∧ Below w.heap.size w w' := by
 have HG := Lib.hid hg
 clear hg
 have HFL := Lib.hid hf
 obtain ⟨fa, fc, rfl⟩ := hf.form
 have hfb : (FL.length : Int) ≤ 1152921504606846976 := by obtain ⟨_, _, _, h, _⟩ := hf; omega
 clear hf
 have HAW : Hid (∀ W, Below w.heap.size w W → Calls Tryd.prog 5 #[] W fun e w' => e = .returned (.bool true) ∧ Below W.heap.size W w') := Lib.hid fun W hW => awake_any W (HG.out.below hW)
 go_enter Tryd.func4, Tryd.ntmps4
 go_upto_region 3 with (first | (go_at_call 5; refine (HAW.out _ (Below.refl _ _)).mono ?_; rintro e w1 ⟨rfl, hb⟩; obtain ⟨W1, hW1⟩ : ∃ W, w1 = W := ⟨_, rfl⟩; rw [hW1] at hb ⊢; clear hW1; have HB1 := Lib.hid hb; clear hb) | fail)
 by_cases hs : (3000 : Int) < s.size
 ·go_wp2_with fail
  go_ret
  exact ⟨rfl, HB1.out⟩
 by_cases hcs : (40 : Int) < cs.size
 ·go_wp2_with fail
  go_ret
  exact ⟨rfl, HB1.out⟩
 go_upto_region 6 with fail
 go_loopw [7, 37] (fun _ u wr => ∃ i : Nat, u = .int .i64 i ∧ i ≤ cs.size ∧ Hid (comB ((bsO cs).take i) = true) ∧ Hid (wr = W1)) (fun _ u _ => cs.size - (intOf u).toNat)
 case atStart => exact ⟨0, rfl, Nat.zero_le _, Lib.hid rfl, rfl⟩
 case round =>
  obtain ⟨i, rfl, hi, HCM, HWR⟩ := hrel
  rw [HWR.out]
  clear HWR
  have hib : (i : Int) ≤ 40 := by omega
  by_cases hlt : i < cs.size
  ·have hlt2 : (i : Int) < (cs.size : Int) := by omega
   have HNX := Lib.hid (com_next (cm := bsO cs) (i := i) (by rw [bs_len]; exact hlt))
   have hat : (bsO cs).getD i 0 = cs[i] := by rw [List.getD_eq_getElem?_getD, List.getElem?_eq_getElem (by rw [bs_len]; exact hlt), Option.getD_some, bs_at cs i hlt]
   rw [hat] at HNX
   clear hat
   by_cases h1 : (cs[i].toNat : Int) < 32
   ·go_wp2_with fail
    go_ret
    exact ⟨rfl, HB1.out⟩
   by_cases h2 : (126 : Int) < (cs[i].toNat : Int)
   ·go_wp2_with fail
    go_ret
    exact ⟨rfl, HB1.out⟩
   have HN : Hid (comB ((bsO cs).take (i + 1)) = true) := Lib.hid (by
    rw [HNX.out, HCM.out, decide_eq_true (show 32 ≤ cs[i].toNat by omega), decide_eq_true (show cs[i].toNat ≤ 126 by omega)]
    rfl)
   go_wp2_with fail
   go_roundw
   case rel => exact ⟨i + 1, by go_num, by omega, HN, Lib.hid (by first | trivial | rfl)⟩
   case measure => simp [intOf]; omega
  ·obtain rfl : i = cs.size := by omega
   have HCO : Hid (comB (bsO cs) = true) := Lib.hid (by
    have q := HCM.out
    rw [List.take_of_length_le (by rw [bs_len]; exact Nat.le_refl _)] at q
    exact q)
   clear HCM hi hib hlt
   obtain ⟨T, hT⟩ : ∃ T, bsO s = T := ⟨_, rfl⟩
   have hT3 : T.length ≤ 3000 := by rw [← hT, bs_len]; omega
   obtain ⟨R, hR⟩ : ∃ R, linesM T = R := ⟨_, rfl⟩
   obtain ⟨LL, ⟨pa, pc⟩, le⟩ := R
   have HLN : Hid (∀ W, Below w.heap.size w W → Calls Tryd.prog 6 #[.string s] W (LinQ LL pa pc le W)) := Lib.hid fun W hW => by
    have q := lines_any s (by omega) W (HG.out.below hW)
    unfold LinP at q
    rw [hT, hR] at q
    exact q
   go_upto_region 12 with (first | (go_at_call 6; refine (HLN.out _ HB1.out).mono ?_; rintro e w2 ⟨v2, rfl, ho2, hb2⟩; obtain ⟨W2, hW2⟩ : ∃ W, w2 = W := ⟨_, rfl⟩; rw [hW2] at ho2 hb2 ⊢; clear hW2; obtain ⟨la, lc, rfl⟩ := ho2.form; have HO2 := Lib.hid ho2; have HB2 : Hid (Below w.heap.size w W2) := Lib.hid (keepBelow HB1.out hb2); clear ho2 hb2) | fail)
   obtain ⟨b9, hb9⟩ : ∃ b, W2.heap.size = b := ⟨_, rfl⟩
   obtain ⟨X, hX⟩ : ∃ X, W2.alloc (.cells #[.int .i64 pa, .int .i64 pc] 25) = X := ⟨_, rfl⟩
   have HBX : Hid (Below W2.heap.size W2 X) := Lib.hid (by rw [← hX]; exact (Below.refl _ _).alloc (Nat.le_refl _) _)
   try rw [hX]
   try rw [hb9]
   clear hX hb9 HLN
   have HBXw := Lib.hid (keepBelow HB2.out HBX.out)
   by_cases he : le = 0
   ·have he0 : (linesM T).2.2 = 0 := by rw [hR]; exact he
    have g0 : (le != 0) = false := by rw [he]; rfl
    have hbnd := lines_bnd he0 hT3
    have hsum : sumW (linesM T).1 ≤ 1501 := by have := linesM_len he0; omega
    have hbl := bl_bnd he0 hT3 FL (cm := bsO cs) (by rw [bs_len]; omega)
    have HOK : Hid ((blT (kdB FL) (bsO cs) 0 LL).length ≤ 65536 → (parseM T).1 = (parseM (blT (kdB FL) (bsO cs) 0 LL)).1 ∧ (parseM T).2.2 = (parseM (blT (kdB FL) (bsO cs) 0 LL)).2.2) := Lib.hid fun h => by
     have q := blanks_ok (kd_ok FL) HCO.out he0 (by rw [hR]; exact h)
     rw [hR] at q
     exact q
    rw [hR] at hbnd hbl hsum
    simp only at hbnd hbl hsum
    obtain ⟨Q, hQ⟩ : ∃ Q, parseM T = Q := ⟨_, rfl⟩
    obtain ⟨S1, ⟨qa, qc⟩, pe⟩ := Q
    have HPA : Hid (∀ W, Below w.heap.size w W → Calls Tryd.prog 7 #[.string s] W (ParQ S1 qa qc pe W)) := Lib.hid fun W hW => by
     have q := parse_any s (by omega) W (HG.out.below hW)
     unfold ParP at q
     rw [hT, hQ] at q
     exact q
    rw [hQ] at HOK
    have HS0 : Hid (blT (kdB FL) (bsO cs) 0 LL = [] → S1 = sr0) := Lib.hid fun h => by
     have q := parse_nil (t := T) (by rw [hR]; exact blT_nil h)
     rw [hQ] at q
     exact q
    obtain ⟨Q2, hQ2⟩ : ∃ Q, parseM (blT (kdB FL) (bsO cs) 0 LL) = Q := ⟨_, rfl⟩
    obtain ⟨S2, ⟨ra, rc⟩, re⟩ := Q2
    obtain ⟨BT, hBT⟩ : ∃ D : ByteArray, ⟨(blT (kdB FL) (bsO cs) 0 LL).toArray⟩ = D := ⟨_, rfl⟩
    have HBTE : Hid (bsO BT = blT (kdB FL) (bsO cs) 0 LL) := Lib.hid (by rw [← hBT])
    have HPB : Hid (∀ W, Below w.heap.size w W → Calls Tryd.prog 7 #[.string BT] W (ParQ S2 ra rc re W)) := Lib.hid fun W hW => by
     have q := parse_any BT (by rw [← bs_len, HBTE.out]; omega) W (HG.out.below hW)
     unfold ParP at q
     rw [HBTE.out, hQ2] at q
     exact q
    rw [hQ2] at HOK
    simp only at HOK
    have HBN := Lib.hid hbnd
    have HBLB := Lib.hid hbl
    clear he0 he hR hbnd hbl hQ hQ2 hT hT3
    have lbn : (LL.length : Int) ≤ 65537 := by have := HBN.out.2.1; omega
    go_upto_region 17 with fail
    clear g0
    obtain ⟨bk, hbk⟩ : ∃ b, X.heap.size = b := ⟨_, rfl⟩
    obtain ⟨Y, hY⟩ : ∃ Y, X.alloc (.cells #[.string ⟨#[32]⟩, .string ⟨#[9]⟩, .string ⟨#[32, 32]⟩, .string ⟨#[32, 9, 32]⟩] 9) = Y := ⟨_, rfl⟩
    have HBY : Hid (Below X.heap.size X Y) := Lib.hid (by rw [← hY]; exact (Below.refl _ _).alloc (Nat.le_refl _) _)
    have HKK : Hid (Blk Y bk KC 9) := Lib.hid (by rw [← hY, ← hbk]; exact Blk.new _ _ _)
    have hYs : Y.heap.size = X.heap.size + 1 := by rw [← hY]; simp
    try rw [hY]
    obtain ⟨bb, hbb⟩ : ∃ b, Y.heap.size = b := ⟨_, rfl⟩
    have hbb2 : X.heap.size + 1 = bb := by omega
    obtain ⟨Y0, hY0⟩ : ∃ Z, Y.alloc (.cells #[.pointer none, .slice none 0 0] 39) = Z := ⟨_, rfl⟩
    have HB0 : Hid (Bld Y bb [] Y0) := Lib.hid (by rw [← hY0, ← hbb]; exact Bld.new (Below.refl _ _))
    have hkb : bk ≠ bb := by omega
    try rw [hY0]
    try rw [hbb]
    try rw [hbb2]
    try rw [hbk]
    clear hY0 hbb hbb2 hY hYs hbk
    have HBYw := Lib.hid (keepBelow HBXw.out HBY.out)
    have HLY : Hid (OwnLn Y W1.heap.size (.slice la LL.length lc) LL) := Lib.hid ((HO2.out.below HBX.out).below HBY.out)
    have HSUM : Hid (∀ i, sumW (LL.take i) ≤ 1501) := Lib.hid fun i => Nat.le_trans (sumW_take LL i) hsum
    have HFY := Lib.hid (HFL.out.below HBYw.out)
    go_upto_region 18 with fail
    go_loopw [12, 15, 17, 18, 62] (fun u12 _ _ _ u wr => ∃ i : Nat, u = .int .i64 i ∧ u12 = .int .i64 (sumW (LL.take i) : Nat) ∧ i ≤ LL.length ∧ Hid (Bld Y bb (blT (kdB FL) (bsO cs) 0 (LL.take i)) wr)) (fun _ _ _ _ u _ => LL.length - (intOf u).toNat)
    case atStart => exact ⟨0, rfl, rfl, Nat.zero_le _, HB0.out⟩
    case round =>
     obtain ⟨i, rfl, rfl, hi, HBL⟩ := hrel
     clear HB0
     have hib : (i : Int) ≤ 65537 := by have := HBN.out.2.1; omega
     have HSW := Lib.hid (HSUM.out i)
     have hsw0 : ((sumW (LL.take i) : Nat) : Int) ≤ 1501 := by have := HSW.out; omega
     by_cases hlt : i < LL.length
     ·have hll : (i : Int) < (LL.length : Int) := by omega
      obtain ⟨g, gc, wv, ev, hcell, hrd, -⟩ := OwnGG.at (d := tok0) HLY.out flT_len hlt ((HBN.out.2.2 _ (getD_mem hlt)).1)
      cases ev
      obtain ⟨wa, wc, rfl⟩ := hrd.form
      have HNB := Lib.hid (blT_next (kdB FL) (bsO cs) hlt)
      have HNS := Lib.hid (sumW_next hlt)
      have HIN := Lib.hid (blT_in (kdB FL) (bsO cs) hlt)
      have hl1 := (HBN.out.2.2 (LL.getD i []) (getD_mem hlt)).1
      have hl3 := (HBN.out.2.2 (LL.getD i []) (getD_mem hlt)).2
      obtain ⟨l, hl⟩ : ∃ l, LL.getD i [] = l := ⟨_, rfl⟩
      rw [hl] at hrd hcell HNB HNS HIN hl1 hl3
      have HTX : Hid (∀ k, k < l.length → (l.getD k tok0).tx.length ≤ 3000) := Lib.hid fun k hk => hl3 _ (getD_mem hk)
      have HRD := Lib.hid hrd
      have hlb : (l.length : Int) ≤ 1000000 := by omega
      have hcw := keepCell HBL.out.2 hcell
      have HSN : Hid (sumW (LL.take i) + l.length ≤ 1501) := Lib.hid (by rw [← HNS.out]; exact HSUM.out _)
      obtain ⟨j, hj⟩ : ∃ j, sumW (LL.take i) = j := ⟨_, rfl⟩
      rw [hj] at HNB HNS HIN HSW HSN hsw0 ⊢
      clear hl hrd hl1 hl3 hcell hj
      go_upto_region 20 with fail
      clear hcw
      go_upto_region 21 with fail
      obtain ⟨B0, hB0⟩ : ∃ B, blT (kdB FL) (bsO cs) 0 (LL.take i) = B := ⟨_, rfl⟩
      rw [hB0] at HNB HIN HBL
      clear hB0
      generalize wr = Wq at *
      go_loopw [12, 17, 18, 68] (fun u12 _ _ u wx => ∃ m : Nat, u = .int .i64 m ∧ u12 = .int .i64 ((j + m : Nat) : Int) ∧ m ≤ l.length ∧ Hid (Bld Y bb (B0 ++ lineBl (kdB FL) j (l.take m)) wx)) (fun _ _ _ u _ => l.length - (intOf u).toNat)
      case atStart => exact ⟨0, rfl, rfl, Nat.zero_le _, Lib.hid (by rw [List.take_zero]; simpa [lineBl] using HBL.out)⟩
      case round =>
       clear HBL
       obtain ⟨m, rfl, rfl, hm, HBm⟩ := hrel
       by_cases hml : m < l.length
       ·have hmm : (m : Int) < (l.length : Int) := by omega
        have hmb : (m : Int) ≤ 1501 := by have := HSN.out; omega
        have hkb2 : ((j + m : Nat) : Int) ≤ 1501 := by have := HSN.out; omega
        obtain ⟨al, cl, ea, _, hc⟩ := HRD.out
        cases ea
        obtain ⟨b, o, rfl, hcc⟩ := hc m hml
        have HNX := Lib.hid (line_next (kdB FL) (j := j) hml)
        have hx3 := HTX.out m hml
        have HLB : Hid ((B0 ++ lineBl (kdB FL) j (l.take m)).length ≤ 5000000) := Lib.hid (Nat.le_trans (HIN.out m) HBLB.out)
        obtain ⟨x, hx⟩ : ∃ x, l.getD m tok0 = x := ⟨_, rfl⟩
        rw [hx] at hcc HNX hx3
        clear hc hx
        obtain ⟨tx, ln, co⟩ := x
        obtain ⟨TX, rfl⟩ := bs_of tx
        have htx : (TX.size : Int) ≤ 3000 := by have := hx3; rw [bs_len] at this; omega
        clear hx3
        obtain ⟨B1, hB1⟩ : ∃ B, B0 ++ lineBl (kdB FL) j (l.take m) = B := ⟨_, rfl⟩
        rw [hB1] at HBm HLB
        have HB1E := Lib.hid hB1
        clear hB1
        have e0 : wr.cell? ⟨b, o + m * 3, none⟩ = some (.string TX) := keepCell HBm.out.2 (hcc 0 _ (by decide) rfl)
        have e1 : wr.cell? ⟨b, o + m * 3 + 1, none⟩ = some (.int .i64 ln) := keepCell HBm.out.2 (hcc 1 _ (by decide) rfl)
        have e2 : wr.cell? ⟨b, o + m * 3 + 2, none⟩ = some (.int .i64 co) := keepCell HBm.out.2 (hcc 2 _ (by decide) rfl)
        clear hcc
        go_upto_region 23 with fail
        obtain ⟨b17, hb17⟩ : ∃ b, wr.heap.size = b := ⟨_, rfl⟩
        have h17 : b17 ≠ bb := by have := HBm.out.lt; omega
        obtain ⟨V, hV⟩ : ∃ Z, wr.alloc (.cells #[.string TX, .int .i64 ln, .int .i64 co] 43) = Z := ⟨_, rfl⟩
        have HBV : Hid (Below wr.heap.size wr V) := Lib.hid (by rw [← hV]; exact (Below.refl _ _).alloc (Nat.le_refl _) _)
        have HKV : Hid (Blk V b17 #[.string TX, .int .i64 ln, .int .i64 co] 43) := Lib.hid (by rw [← hV, ← hb17]; exact Blk.new _ _ _)
        try rw [hV]
        try rw [hb17]
        clear hV hb17 e0 e1 e2
        have HBLV := Lib.hid (HBm.out.below HBV.out)
        obtain ⟨nf, hnf⟩ : ∃ n, (if j + m < FL.length then (FL.getD (j + m) 0).toNat % 4 else 0) = n := ⟨_, rfl⟩
        have hn4 : nf < 4 := by rw [← hnf]; exact idx_kd FL (j + m)
        have HKD : Hid (kdB FL (j + m) = kinB nf) := Lib.hid (by unfold kdB; rw [hnf])
        go_upto_if 75 with fail
        go_cut [18] from 70 to 83 (fun u wx => u = .int .i64 (nf : Int) ∧ Hid (wx = V))
        case first =>
         by_cases hkF : j + m < FL.length
         ·have hkF2 : ((j + m : Nat) : Int) < (FL.length : Int) := by omega
          have hkF3 : (j : Int) + (m : Int) < (FL.length : Int) := by omega
          obtain ⟨_, _, ef, _, hfc⟩ := HFY.out
          cases ef
          obtain ⟨fb, fo, rfl, hfcc⟩ := hfc (j + m) hkF
          have ef0 : V.cell? ⟨fb, fo + (j + m), none⟩ = some (.int .u8 ((FL.getD (j + m) 0).toNat : Int)) := by
           have q := keepCell HBLV.out.2 (hfcc 0 _ (by decide) rfl)
           rw [Nat.mul_one] at q
           exact q
          clear hfc hfcc
          obtain ⟨xb, hxb⟩ : ∃ x, FL.getD (j + m) 0 = x := ⟨_, rfl⟩
          rw [hxb] at ef0 hnf
          rw [if_pos hkF] at hnf
          have hx8 : xb.toNat < 256 := xb.toNat_lt
          have HNF : Hid (((xb.toNat : Int) % 4) = (nf : Int)) := Lib.hid (by omega)
          go_wp2_with fail
          go_meet
          exact ⟨congrArg (Value.int .i64) HNF.out, rfl⟩
         ·have hkF2 : ¬ ((j + m : Nat) : Int) < (FL.length : Int) := by omega
          have hkF3 : ¬ (j : Int) + (m : Int) < (FL.length : Int) := by omega
          rw [if_neg hkF] at hnf
          subst hnf
          go_wp2_with fail
          go_meet
          exact ⟨rfl, rfl⟩
        case rest =>
        obtain ⟨rfl, HWX⟩ := hcut
        rw [HWX.out]
        clear HWX hnf
        obtain ⟨KB, hK1, hK2, hK3⟩ := kc_at hn4
        have HK2 := Lib.hid hK2
        have hn4i : (nf : Int) < 4 := by omega
        have HCK : Hid (V.cell? ⟨bk, nf, none⟩ = some (.string KB)) := Lib.hid ((HKK.out.below HBLV.out.2).cell hK1)
        obtain ⟨P92, hP92⟩ : ∃ D : ByteArray, KB ++ TX = D := ⟨_, rfl⟩
        have HP92 := Lib.hid hP92
        have p92 : (P92.size : Int) ≤ 3003 := by rw [← hP92, ByteArray.size_append]; omega
        have HK1 := Lib.hid hK1
        have HKKD : Hid (Blk V.drew bk KC 9) := Lib.hid (HKK.out.below (HBLV.out.2.drew))
        have HBLD : Hid (Bld Y bb B1 V.drew) := Lib.hid (HBLV.out.below (Below.refl _ _).drew)
        clear hP92 hK1 hK2
        go_upto_region 27 with fail
        refine wp_region_held_drew (S := fun w' => w'.cell? ⟨bk, nf, none⟩ = some (.string KB) ∧ w'.cell? ⟨b17, 0, none⟩ = some (.string TX)) (by kernel_rfl) ?_ (fun hHeld => ?_)
        ·exact ⟨HCK.out, HKV.out.cell (j := 0) rfl⟩
        refine wpAnyH_take (i := 0) (v := ?v2) rfl (by kernel_rfl) (by kernel_rfl) (by kernel_rfl) (fun _ _ _ h => h) (Or.inl ⟨by rfl, ?hy2⟩) (by assumption) ?rest2
        case hy2 =>
         intro w hSw
         try dsimp only at hSw
         go_simp
         try with_reducible rfl
        case rest2 =>
        refine wpAnyH_take (i := 1) (v := ?v3) rfl (by kernel_rfl) (by kernel_rfl) (by kernel_rfl) (fun _ _ _ h => h) (Or.inl ⟨by rfl, ?hy3⟩) (by assumption) ?rest3
        case hy3 =>
         intro w hSw
         try dsimp only at hSw
         go_simp
         try with_reducible rfl
        case rest3 =>
        refine wpAnyH_take (i := 2) (v := ?v4) rfl (by kernel_rfl) (by kernel_rfl) (by kernel_rfl) (fun _ _ _ h => h) (Or.inl ⟨by rfl, ?hy4⟩) (by assumption) ?rest4
        case hy4 =>
         intro w hSw
         try dsimp only at hSw
         go_simp
         try with_reducible rfl
        case rest4 =>
        refine wpAnyH_take (i := 3) (v := ?v5) rfl (by kernel_rfl) (by kernel_rfl) (by kernel_rfl) (fun _ _ _ h => h) (Or.inl ⟨by rfl, ?hy5⟩) (by assumption) ?rest5
        case hy5 =>
         intro w hSw
         try dsimp only at hSw
         go_simp
         try with_reducible rfl
        case rest5 =>
        refine wpAnyH_take (i := 4) (v := ?v6) rfl (by kernel_rfl) (by kernel_rfl) (by kernel_rfl) (fun _ _ _ h => h) (Or.inl ⟨by rfl, ?hy6⟩) (by assumption) ?rest6
        case hy6 =>
         intro w hSw
         try dsimp only at hSw
         go_simp
         try with_reducible rfl
        case rest6 =>
        refine wpAnyH_take (i := 5) (v := ?v7) rfl (by kernel_rfl) (by kernel_rfl) (by kernel_rfl) (fun _ _ _ h => h) (Or.inl ⟨by rfl, ?hy7⟩) (by assumption) ?rest7
        case hy7 =>
         intro w hSw
         try dsimp only at hSw
         go_simp
         try with_reducible rfl
        case rest7 =>
        refine wpAnyH_take (i := 6) (v := .string P92) rfl (by kernel_rfl) (by kernel_rfl) (by kernel_rfl) (fun _ _ _ h => h) (Or.inl ⟨by rfl, ?hy1⟩) (by assumption) ?rest1
        case hy1 =>
         intro w hSw
         clear hSw
         go_simp
         rw [if_neg (by omega)]
         rw [HP92.out]
        case rest1 =>
        go_simp
        refine wpAnyH_ready (rs := [7]) (by kernel_rfl) (by simp) ?_
        refine AllReadyH.cons rfl (fun K hK => ?_) AllReadyH.nil
        go_simp
        go_at_call 11
        refine (ws_any HBLD.out P92 (by have := HLB.out; omega)).mono ?_
        rintro e w8 ⟨rfl, hb8, hk8⟩
        have HB8 := Lib.hid hb8
        have HS8 : Hid (w8.cell? ⟨bk, nf, none⟩ = some (.string KB) ∧ w8.cell? ⟨b17, 0, none⟩ = some (.string TX)) := Lib.hid ⟨((HKKD.out).others hk8 hkb (by decide)).cell HK1.out, ((HKV.out.below (Below.refl _ _).drew).others hk8 h17 (by decide)).cell rfl⟩
        clear hb8 hk8
        refine hK.out _ _ ?_ (fun hHeld => ?_)
        ·exact HS8.out
        clear hK K
        refine wpAnyH_done (by kernel_rfl) ?_ _
        go_simp
        go_wp2_with fail
        go_roundw
        case rel => exact ⟨m + 1, by go_num, congrArg (Value.int .i64) (by omega), by omega, Lib.hid (by rw [HNX.out, HKD.out, ← HK2.out, ← List.append_assoc, HB1E.out, ← bs_app, HP92.out]; exact HB8.out)⟩
        case measure => simp [intOf]; omega

       ·obtain rfl : m = l.length := by omega
        have HLB : Hid ((B0 ++ lineBl (kdB FL) j (l.take l.length)).length ≤ 5000000) := Lib.hid (Nat.le_trans (HIN.out l.length) HBLB.out)
        rw [List.take_length] at HBm HLB
        obtain ⟨EB, hEB⟩ : ∃ D : ByteArray, ⟨#[32, 35]⟩ ++ cs ++ ⟨#[10, 10, 32, 9, 35, 32]⟩ ++ cs ++ ⟨#[10]⟩ = D := ⟨_, rfl⟩
        have HEB : Hid (bsO EB = endBl (bsO cs)) := Lib.hid (by rw [← hEB, bs_app, bs_app, bs_app, bs_app]; rfl)
        have hes : (EB.size : Int) ≤ 100 := by
         rw [← hEB]
         simp only [ByteArray.size_append]
         have : (⟨#[32, 35]⟩ : ByteArray).size = 2 := rfl
         have : (⟨#[10, 10, 32, 9, 35, 32]⟩ : ByteArray).size = 6 := rfl
         have : (⟨#[10]⟩ : ByteArray).size = 1 := rfl
         omega
        have hcs2 : (cs.size : Int) ≤ 40 := by omega
        go_wp2_with (first | (go_at_call 11; refine (ws_any HBm.out EB (by have := HLB.out; omega)).mono ?_; rintro e w8 ⟨rfl, hb8, -⟩) | fail)
        go_roundw
        case rel => exact ⟨i + 1, by go_num, congrArg (Value.int .i64) (by have := HNS.out; omega), by omega, Lib.hid (by rw [HNB.out, ← HEB.out]; exact hb8)⟩
        case measure => simp [intOf]; omega
     ·obtain rfl : i = LL.length := by omega
      rw [List.take_length] at HBL
      obtain ⟨BL, hBL⟩ : ∃ B, blT (kdB FL) (bsO cs) 0 LL = B := ⟨_, rfl⟩
      rw [hBL] at HBL HOK HBTE HBLB HS0
      have hbl5 : (BL.length : Int) ≤ 5000000 := by have := HBLB.out; omega
      clear hBL
      by_cases h6 : 65536 < BL.length
      ·have h7 : (65536 : Int) < (BL.length : Int) := by omega
       go_wp2_with (first | (go_at_call 12; refine (blen_any HBL.out).mono ?_; rintro e w5 ⟨rfl, hw5⟩; rw [hw5]; clear hw5) | fail)
       go_ret
       exact ⟨rfl, keepBelow HBYw.out HBL.out.2⟩
      ·have h7 : ¬ (65536 : Int) < (BL.length : Int) := by omega
       obtain ⟨k1, k2⟩ := HOK.out (by omega)
       subst k1 k2
       go_upto_region 33 with (first | (go_at_call 12; refine (blen_any HBL.out).mono ?_; rintro e w5 ⟨rfl, hw5⟩; rw [hw5]; clear hw5) | fail)
       go_upto_region 34 with (first | (go_at_call 7; refine (HPA.out _ (keepBelow HBYw.out HBL.out.2)).mono ?_; rintro e w6 ⟨rv, zv, lv, Z1, rfl, hr6, cr6, cz6, cl6, hb6⟩; obtain ⟨W6, hW6⟩ : ∃ W, w6 = W := ⟨_, rfl⟩; rw [hW6] at hr6 hb6 ⊢; clear hW6; obtain ⟨ra1, rc1, rfl⟩ := hr6.ru.form; obtain ⟨za1, zc1, rfl⟩ := hr6.zo.row.form; obtain ⟨la1, lc1, rfl⟩ := hr6.lk.form; have HR6 := Lib.hid hr6; have HB6 := Lib.hid hb6; clear hr6 hb6 cr6 cz6 cl6) | fail)
       obtain ⟨b19, hb19⟩ : ∃ b, W6.heap.size = b := ⟨_, rfl⟩
       obtain ⟨b20, hb20⟩ : ∃ b, W6.heap.size + 1 = b := ⟨_, rfl⟩
       obtain ⟨U, hU⟩ : ∃ Y, (W6.alloc (.cells #[.slice ra1 S1.ru.length rc1, .slice za1 Z1.length zc1, .slice la1 S1.lk.length lc1] 33)).alloc (.cells #[.int .i64 qa, .int .i64 qc] 25) = Y := ⟨_, rfl⟩
       have HBU : Hid (Below W6.heap.size W6 U) := Lib.hid (by rw [← hU]; exact ((Below.refl _ _).alloc (Nat.le_refl _) _).alloc (by simp) _)
       have HSU : Hid (Blk U b19 #[.slice ra1 S1.ru.length rc1, .slice za1 Z1.length zc1, .slice la1 S1.lk.length lc1] 33) := Lib.hid (by rw [← hU, ← hb19]; exact (Blk.new _ _ _).below ((Below.refl _ _).alloc (Nat.le_refl _) _))
       have HPU : Hid (Blk U b20 #[.int .i64 qa, .int .i64 qc] 25) := Lib.hid (by
        rw [← hU, ← hb20]
        have q := Blk.new (W6.alloc (.cells #[.slice ra1 S1.ru.length rc1, .slice za1 Z1.length zc1, .slice la1 S1.lk.length lc1] 33)) #[.int .i64 qa, .int .i64 qc] 25
        simpa using q)
       try rw [hU]
       try rw [hb20]
       try rw [hb19]
       have hzU := Nat.le_of_eq hb19
       clear hU hb19 hb20
       have HBLU := Lib.hid (HBL.out.below (keepBelow HB6.out HBU.out))
       have HBUw := Lib.hid (keepBelow HBYw.out HBLU.out.2)
       have HR1 := Lib.hid (HR6.out.below HBU.out)
       have hbu : b19 ≠ bb := by have := HBL.out.lt; have := HB6.out.size; omega
       have HSTR : Hid (Calls Tryd.prog 10 #[.pointer (some ⟨bb, 0, none⟩)] U fun e w' => e = .returned (.string BT) ∧ Below Y.heap.size Y w' ∧ RdSr w' (.slice ra1 S1.ru.length rc1) (.slice za1 Z1.length zc1) (.slice la1 S1.lk.length lc1) S1 Z1 ∧ w'.cell? ⟨b19, 0, none⟩ = some (.slice ra1 S1.ru.length rc1) ∧ w'.cell? ⟨b19, 1, none⟩ = some (.slice za1 Z1.length zc1) ∧ w'.cell? ⟨b19, 2, none⟩ = some (.slice la1 S1.lk.length lc1)) := Lib.hid (by
        rw [show BT = ⟨BL.toArray⟩ from bs_inj HBTE.out]
        by_cases hne : BL = []
        ·refine (bstr_k HBLU.out).mono fun e w' q => ⟨q.1, q.2.1, rdSr_nil w' HR1.out (HS0.out hne), ?_⟩
         have hk := HSU.out.others q.2.2 hbu (by decide)
         exact ⟨hk.cell (j := 0) rfl, hk.cell (j := 1) rfl, hk.cell (j := 2) rfl⟩
        ·exact (bstr_cells HBLU.out hne).mono fun e w' q => ⟨q.1, q.2.1, rdSr_kept HR1.out q.2.2, q.2.2 _ _ (HSU.out.cell (j := 0) rfl), q.2.2 _ _ (HSU.out.cell (j := 1) rfl), q.2.2 _ _ (HSU.out.cell (j := 2) rfl)⟩)
       go_upto_region 35 with (first
        | (go_at_call 10; refine HSTR.out.mono ?_; rintro e w7 ⟨rfl, hb7, hr7, hc7⟩; obtain ⟨W7, hW7⟩ : ∃ W, w7 = W := ⟨_, rfl⟩; rw [hW7] at hb7 hr7 hc7 ⊢; clear hW7; have HB7w : Hid (Below w.heap.size w W7) := Lib.hid (keepBelow HBYw.out hb7); have HR7 := Lib.hid hr7; have HC7 := Lib.hid hc7; clear hb7 hr7 hc7)
        | (go_at_call 7; refine (HPB.out _ HB7w.out).mono ?_; rintro e w8 ⟨rv, zv, lv, Z2, rfl, hr8, cr8, cz8, cl8, hb8⟩; obtain ⟨W8, hW8⟩ : ∃ W, w8 = W := ⟨_, rfl⟩; rw [hW8] at hr8 hb8 ⊢; clear hW8; obtain ⟨ra2, rc2, rfl⟩ := hr8.ru.form; obtain ⟨za2, zc2, rfl⟩ := hr8.zo.row.form; obtain ⟨la2, lc2, rfl⟩ := hr8.lk.form; have HR8 := Lib.hid hr8; have HB8 := Lib.hid hb8; clear hr8 hb8 cr8 cz8 cl8)
        | fail)
       obtain ⟨b22, hb22⟩ : ∃ b, W8.heap.size = b := ⟨_, rfl⟩
       obtain ⟨b23, hb23⟩ : ∃ b, W8.heap.size + 1 = b := ⟨_, rfl⟩
       obtain ⟨V, hV⟩ : ∃ Y, (W8.alloc (.cells #[.slice ra2 S1.ru.length rc2, .slice za2 Z2.length zc2, .slice la2 S1.lk.length lc2] 33)).alloc (.cells #[.int .i64 ra, .int .i64 rc] 25) = Y := ⟨_, rfl⟩
       have HBV : Hid (Below W8.heap.size W8 V) := Lib.hid (by rw [← hV]; exact ((Below.refl _ _).alloc (Nat.le_refl _) _).alloc (by simp) _)
       have HSV : Hid (Blk V b22 #[.slice ra2 S1.ru.length rc2, .slice za2 Z2.length zc2, .slice la2 S1.lk.length lc2] 33) := Lib.hid (by rw [← hV, ← hb22]; exact (Blk.new _ _ _).below ((Below.refl _ _).alloc (Nat.le_refl _) _))
       have HPV : Hid (Blk V b23 #[.int .i64 ra, .int .i64 rc] 25) := Lib.hid (by
        rw [← hV, ← hb23]
        have q := Blk.new (W8.alloc (.cells #[.slice ra2 S1.ru.length rc2, .slice za2 Z2.length zc2, .slice la2 S1.lk.length lc2] 33)) #[.int .i64 ra, .int .i64 rc] 25
        simpa using q)
       try rw [hV]
       try rw [hb23]
       try rw [hb22]
       clear hV hb22 hb23
       have HUV := Lib.hid (keepBelow HB8.out HBV.out)
       have HR1V := Lib.hid (HR7.out.below HUV.out)
       have HR2V := Lib.hid (HR8.out.below HBV.out)
       have d0 := keepCell HUV.out HC7.out.1
       have d1 := keepCell HUV.out HC7.out.2.1
       have d2 := keepCell HUV.out HC7.out.2.2
       have f0 := HSV.out.cell (j := 0) rfl
       have f1 := HSV.out.cell (j := 1) rfl
       have f2 := HSV.out.cell (j := 2) rfl
       have HSM : Hid (∀ W, Below V.heap.size V W → Calls Tryd.prog 13 #[.agg #[.slice ra1 S1.ru.length rc1, .slice za1 Z1.length zc1, .slice la1 S1.lk.length lc1], .agg #[.slice ra2 S1.ru.length rc2, .slice za2 Z2.length zc2, .slice la2 S1.lk.length lc2]] W fun e w' => e = .returned (.bool true) ∧ Below W.heap.size W w') := Lib.hid fun W hW => same_true _ _ _ _ _ _ S1 Z1 Z2 W (HR1V.out.below hW) (HR2V.out.below hW)
       go_wp2_with (first | (go_at_call 13; refine (HSM.out _ (Below.refl _ _)).mono ?_; rintro e w9 ⟨rfl, hb9⟩) | fail)
       go_ret
       exact ⟨ret_bool (by simp), keepBelow HB7w.out (keepBelow HUV.out hb9)⟩
   ·have g0 : (le != 0) = true := by simpa using he
    clear he
    go_wp2_with fail
    go_ret
    exact ⟨rfl, HBXw.out⟩
end Go.Proofs.YtlbglinpgjlbkaaDoor
