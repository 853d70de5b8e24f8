import Derived.Test.YtmfdnbfjdhlonaaGreatDoorWkPu
import Derived.Test.YtmfdnbfjdhlonaaGreatDoorWkPl
import Derived.Test.YtmfdnbfjdhlonaaGreatDoorWkPn
import Derived.Test.YtmfdnbfjdhlonaaGreatDoorWkUn
import Derived.Test.YtmfdnbfjdhlonaaGreatDoorWkBh
import Derived.Test.YtmfdnbfjdhlonaaGreatDoorWkNa
import Derived.Test.YtmfdnbfjdhlonaaGreatDoorWkFrm
import Derived.Test.YtmfdnbfjdhlonaaGreatDoorWkOqC
/- spans anywhere, folded into a period: plain. -/
namespace Go.Proofs.YtmfdnbfjdhlonaaGreatDoor
open Go.RowKit Wk

def onP (P : Int) (L : List Sp) (x : Int) : Bool := L.any fun s => decide ((x - s.1) % P < s.2 - s.1)
theorem onP_app (P : Int) (A B : List Sp) (x : Int) : onP P (A ++ B) x = (onP P A x || onP P B x) := by unfold onP; rw [List.any_append]
theorem onP_one (P y1 y2 x : Int) : onP P [(y1, y2)] x = decide ((x - y1) % P < y2 - y1) := by simp [onP]
def FoInv (P : Int) (T A : List Sp) : Prop := (∀ x, inL A x = ((decide (0 ≤ x) && decide (x < P)) && onP P T x)) ∧ (∀ s ∈ A, 0 ≤ s.1 ∧ s.1 < s.2 ∧ s.2 ≤ P) ∧ A.length ≤ 2 * T.length
theorem mod_cases {x y P at' : Int} (hP : 1 ≤ P) (hat : at' = y - y / P * P) (h0 : 0 ≤ x) (h1 : x < P) : (x - y) % P = if at' ≤ x then x - at' else x - at' + P := by
 have hm := mod_lo y (P := P) hP
 rw [← hat] at hm
 have e : x - y = (x - at') + (-(y / P)) * P := by rw [hat, Int.neg_mul]; omega
 rw [e, Int.add_mul_emod_self_right]
 split
 ·rw [Int.emod_eq_of_lt (by omega) (by omega)]
 ·rw [← Int.add_emod_right, Int.emod_eq_of_lt (by omega) (by omega)]
theorem fo_step {P y1 y2 : Int} {A T : List Sp} (hP : 1 ≤ P) (hy2 : y1 < y2) (hy3 : y2 - y1 < P)
  (h : ∀ x, inL A x = ((decide (0 ≤ x) && decide (x < P)) && onP P T x)) (hb : ∀ s ∈ A, 0 ≤ s.1 ∧ s.1 < s.2 ∧ s.2 ≤ P) :
  ∀ at' e, at' = y1 - y1 / P * P → e = at' + y2 - y1 → 0 ≤ at' ∧ at' < P ∧ at' < e ∧ e < 2 * P ∧
   (e ≤ P → (∀ x, inL (A ++ [(at', min e P)]) x = ((decide (0 ≤ x) && decide (x < P)) && onP P (T ++ [(y1, y2)]) x)) ∧ ∀ s ∈ A ++ [(at', min e P)], 0 ≤ s.1 ∧ s.1 < s.2 ∧ s.2 ≤ P) ∧
   (P < e → (∀ x, inL (A ++ [(at', min e P)] ++ [(0, e - P)]) x = ((decide (0 ≤ x) && decide (x < P)) && onP P (T ++ [(y1, y2)]) x)) ∧ ∀ s ∈ A ++ [(at', min e P)] ++ [(0, e - P)], 0 ≤ s.1 ∧ s.1 < s.2 ∧ s.2 ≤ P) := by
 intro at' e hat he
 have hm := mod_lo y1 (P := P) hP
 rw [← hat] at hm
 have key : ∀ x, 0 ≤ x → x < P → ((x - y1) % P < y2 - y1 ↔ (at' ≤ x ∧ x < e) ∨ x < e - P) := by
  intro x h0 h1
  rw [mod_cases hP hat h0 h1]
  split <;> omega
 refine ⟨hm.1, hm.2, by omega, by omega, fun hep => ⟨fun x => ?_, fun s hs => ?_⟩, fun hep => ⟨fun x => ?_, fun s hs => ?_⟩⟩
 ·rw [inL_append, h x, onP_app, onP_one]
  simp only [inL, Bool.or_false]
  rw [Bool.eq_iff_iff]
  simp only [Bool.or_eq_true, Bool.and_eq_true, decide_eq_true_eq]
  rw [Int.min_eq_left hep]
  constructor
  ·rintro (⟨a, b⟩ | ⟨a, b⟩)
   ·exact ⟨a, .inl b⟩
   ·exact ⟨⟨by omega, by omega⟩, .inr ((key x (by omega) (by omega)).2 (.inl ⟨a, b⟩))⟩
  ·rintro ⟨⟨a, b⟩, c | c⟩
   ·exact .inl ⟨⟨a, b⟩, c⟩
   ·rcases (key x a b).1 c with d | d
    ·exact .inr d
    ·omega
 ·rcases List.mem_append.1 hs with h1 | h1
  ·exact hb s h1
  ·simp at h1; subst h1; exact ⟨hm.1, by simp only; omega, by simp only; omega⟩
 ·rw [inL_append, inL_append, h x, onP_app, onP_one]
  simp only [inL, Bool.or_false]
  rw [Bool.eq_iff_iff]
  simp only [Bool.or_eq_true, Bool.and_eq_true, decide_eq_true_eq]
  rw [Int.min_eq_right (by omega)]
  constructor
  ·rintro ((⟨a, b⟩ | ⟨a, b⟩) | ⟨a, b⟩)
   ·exact ⟨a, .inl b⟩
   ·exact ⟨⟨by omega, by omega⟩, .inr ((key x (by omega) (by omega)).2 (.inl ⟨a, by omega⟩))⟩
   ·exact ⟨⟨by omega, by omega⟩, .inr ((key x (by omega) (by omega)).2 (.inr b))⟩
  ·rintro ⟨⟨a, b⟩, c | c⟩
   ·exact .inl (.inl ⟨⟨a, b⟩, c⟩)
   ·rcases (key x a b).1 c with d | d
    ·exact .inl (.inr ⟨d.1, b⟩)
    ·exact .inr ⟨a, d⟩
 ·rcases List.mem_append.1 hs with h1 | h1
  ·rcases List.mem_append.1 h1 with h1 | h1
   ·exact hb s h1
   ·simp at h1; subst h1; exact ⟨hm.1, by simp only; omega, by simp only; omega⟩
  ·simp at h1; subst h1; exact ⟨Int.le_refl _, by simp only; omega, by simp only; omega⟩
theorem fo_full {P y1 y2 : Int} {T r : List Sp} (hP : 1 ≤ P) (hy3 : P ≤ y2 - y1) : ∀ x, inL [(0, P)] x = ((decide (0 ≤ x) && decide (x < P)) && onP P (T ++ (y1, y2) :: r) x) := by
 intro x
 have h : onP P (T ++ (y1, y2) :: r) x = true := by
  unfold onP
  rw [List.any_append, List.any_cons]
  have : (x - y1) % P < P := Int.emod_lt_of_pos _ (by omega)
  rw [decide_eq_true (show (x - y1) % P < y2 - y1 by omega)]
  simp
 rw [h]
 simp [inL]

def FoldP (P : Int) (L F : List Sp) : Prop := Canon F ∧ ∀ x, inL F x = ((decide (0 ≤ x) && decide (x < P)) && onP P L x)
open Classical in
noncomputable def foldU (P : Int) (L : List Sp) : List Sp := if h : ∃ F, FoldP P L F then Classical.choose h else []
theorem foldU_eq {P : Int} {L F : List Sp} (h : FoldP P L F) : foldU P L = F := by
 unfold foldU
 rw [dif_pos ⟨F, h⟩]
 have h2 := Classical.choose_spec (⟨F, h⟩ : ∃ F, FoldP P L F)
 exact canon_ext h2.1 h.1 (fun x => by rw [h2.2, h.2])
noncomputable def ofPM (P : Int) (L : List Sp) : Per × Int := if allV L = false then ((0, []), 1) else if 2000 < L.length then ((0, []), 5) else limM P (foldU P L)
theorem foldP_in {P : Int} {L F : List Sp} (h : FoldP P L F) : inside P F := by
 intro s hs
 have hp := canon_pos h.1 s hs
 have i1 : inL F s.1 = true := by exact inL_of_mem hs (by omega) (by omega)
 have i2 : inL F (s.2 - 1) = true := by exact inL_of_mem hs (by omega) (by omega)
 rw [h.2] at i1 i2
 simp only [Bool.and_eq_true, decide_eq_true_eq] at i1 i2
 omega
end Go.Proofs.YtmfdnbfjdhlonaaGreatDoor
namespace Go.Proofs.YtmfdnbfjdhlonaaGreatDoor
open Go.RowKit Wk

def GfPost (P : Int) (L : List Sp) (w : World) (e : Ending) (w' : World) : Prop := ∃ v, e = .returned v ∧ OwnS w' w.heap.size v (foldU P L) ∧ FoldP P L (foldU P L) ∧ (foldU P L).length ≤ 2 * L.length ∧ Below w.heap.size w w'
theorem fo_end {P : Int} {L F : List Sp} {w w' : World} {v : Value} (h1 : Canon F) (h2 : ∀ x, inL F x = ((decide (0 ≤ x) && decide (x < P)) && onP P L x)) (ho : OwnS w' w.heap.size v F) (hl : F.length ≤ 2 * L.length) (hb : Below w.heap.size w w') : GfPost P L w (.returned v) w' := by
 have e := foldU_eq (P := P) (L := L) (F := F) ⟨h1, h2⟩
 refine ⟨v, rfl, ?_, ?_, ?_, hb⟩
 ·rw [e]; exact ho
 ·rw [e]; exact ⟨h1, h2⟩
 ·rw [e]; exact hl

set_option maxRecDepth 100000 in
set_option maxHeartbeats 4000000 in
theorem gfold_any (P : Int) (v : Value) (L : List Sp) (w : World) (h : RdS w v L) (hP1 : 1 ≤ P) (hP2 : P ≤ 12622780800) (hL : ∀ s ∈ L, -1000000000000000 ≤ s.1 ∧ s.1 < s.2 ∧ s.2 ≤ 1000000000000000) (hll : L.length ≤ 2000) :
  Calls Tryz.prog 74 #[.int .i64 P, v] w (GfPost P L w) := by
 have HM := Lib.hid (fun y W h1 h2 => imod_any y P W hP1 (by omega) h1 h2)
 obtain ⟨p, c, rfl, hlL, hc⟩ := h
 have HC := Lib.hid hc
 have HL := Lib.hid hL
 clear hc hL
 go_enter Tryz.func74, Tryz.ntmps74
 go_wp2_with fail
 go_loopw [5, 12] (fun u vi wr => ∃ (i : Nat) (A : List Sp), vi = .int .i64 i ∧ i ≤ L.length ∧ OwnS wr w.heap.size u A ∧ Hid (FoInv P (L.take i) A) ∧ Below w.heap.size w wr) (fun _ vi _ => L.length - (intOf vi).toNat)
 case atStart => exact ⟨0, [], rfl, Nat.zero_le _, OwnS.nil _ _, by unfold Hid FoInv; simp [inL, onP], Below.refl _ _⟩
 case round =>
  obtain ⟨i, A, rfl, hi, ho, HF, hB⟩ := hrel
  have hAl : A.length ≤ 4000 := by have := HF.out.2.2; rw [List.length_take] at this; omega
  by_cases hlt : i < L.length
  ·obtain ⟨bb, o, y1, y2, rfl, hbw, HXY, d1, d2⟩ := rd_at HC.out hB hlt
   obtain ⟨hy0, hy1, hy2⟩ := HL.out _ (mem_of_getD HXY.out hlt)
   simp only at hy0 hy1 hy2
   have HTK : Hid (L.take (i + 1) = L.take i ++ [(y1, y2)]) := getD_take_succ HXY.out hlt
   have s0 : IntKind.i64.wrap (y2 - y1) = y2 - y1 := by rw [IntKind.wrap_i64]; omega
   by_cases hfull : P ≤ y2 - y1
   ·have t1 : decide (P ≤ y2 - y1) = true := by simpa using hfull
    have HFU : Hid (∀ x, inL [(0, P)] x = ((decide (0 ≤ x) && decide (x < P)) && onP P L x)) := by
     have e : L = L.take i ++ (y1, y2) :: L.drop (i + 1) := by
      have e1 := HTK.out
      have e2 := List.take_append_drop (i + 1) L
      rw [e1] at e2
      simpa using e2.symm
     unfold Hid
     rw [e]
     exact fo_full hP1 hfull
    have hba : Below wr.heap.size wr (wr.alloc (.cells #[.int .i64 y1, .int .i64 y2] 41)) := (Below.refl _ _).alloc (Nat.le_refl _) _
    have hBa := keepBelow hB hba
    have hsa : (wr.alloc (.cells #[.int .i64 y1, .int .i64 y2] 41)).heap.size = wr.heap.size + 1 := by simp
    have HON := Lib.hid (own_one (wr.alloc (.cells #[.int .i64 y1, .int .i64 y2] 41)) (B := w.heap.size) hBa.size 0 P)
    have HBB := Lib.hid (hBa.alloc hBa.size (.cells #[.int .i64 0, .int .i64 P] 41))
    have HLT := Lib.hid hlt
    rw [hsa] at HON
    clear hba hBa hsa hfull hlt
    go_wp2
    go_ret
    exact fo_end (by simp [Canon]; omega) HFU.out HON.out (by have := HLT.out; simp; omega) HBB.out
   ·have t1 : decide (P ≤ y2 - y1) = false := by simpa using hfull
    obtain ⟨at', hat⟩ : ∃ a, y1 - y1 / P * P = a := ⟨_, rfl⟩
    obtain ⟨e, he⟩ : ∃ e, at' + y2 - y1 = e := ⟨_, rfl⟩
    obtain ⟨k1, k2, k3, k4, k5, k6⟩ := fo_step hP1 hy1 (by omega) HF.out.1 HF.out.2.1 at' e hat.symm he.symm
    have K := Lib.hid (HM.out y1)
    rw [hat] at K
    have K5 := Lib.hid k5
    have K6 := Lib.hid k6
    have s1 : IntKind.i64.wrap (at' + y2) = at' + y2 := by rw [IntKind.wrap_i64]; omega
    have s2 : IntKind.i64.wrap (at' + y2 - y1) = e := by rw [IntKind.wrap_i64]; omega
    have hba : Below wr.heap.size wr (wr.alloc (.cells #[.int .i64 y1, .int .i64 y2] 41)) := (Below.refl _ _).alloc (Nat.le_refl _) _
    have hBa := keepBelow hB hba
    have hoa := ho.below hba
    have b0 : (wr.alloc (.cells #[.int .i64 y1, .int .i64 y2] 41)).cell? ⟨wr.heap.size, 0, none⟩ = some (.int .i64 y1) := by simp [go_sem]
    have b1 : (wr.alloc (.cells #[.int .i64 y1, .int .i64 y2] 41)).cell? ⟨wr.heap.size, 1, none⟩ = some (.int .i64 y2) := by simp [go_sem]
    have HTL : Hid ((L.take (i + 1)).length = i + 1) := by unfold Hid; rw [List.length_take]; omega
    have HAL : Hid (A.length ≤ 2 * i) := by have := HF.out.2.2; rw [List.length_take] at this; unfold Hid; omega
    clear hba hfull k5 k6 hat he
    go_wp2_with fail
    refine (K.out _ (by omega) (by omega)).mono ?_
    rintro e' w2 ⟨rfl, hb2⟩
    have hB2 := keepBelow hBa hb2
    have ho2 := hoa.below hb2
    have g0 := keepCell hb2 b0
    have g1 := keepCell hb2 b1
    obtain ⟨m, hm⟩ : ∃ m, min e P = m := ⟨_, rfl⟩
    have hl3 : A.length < 1000000000000 := by omega
    clear hb2 hoa b0 b1
    by_cases hep : P < e
    ·have t2 : decide (P < e) = true := by simpa using hep
     have s3 : IntKind.i64.wrap (e - P) = e - P := by rw [IntKind.wrap_i64]; omega
     obtain ⟨q1, q2⟩ := K6.out hep
     have HQ := Lib.hid (And.intro q1 q2)
     have hl4 : (A ++ [(at', min e P)]).length < 1000000000000 := by simp; omega
     have HL4 := Lib.hid hl4
     clear q1 q2 hep hm hl4
     go_upto_if 47 with (at_builtin; refine wpList_app_span rfl (.tmp 37) (.tmp 43) rfl rfl ho2 hB2 rfl (by simp) hl3 ?_; intro v1 w9 o1 b1 k1 z1; clear k1)
     have hl4 := HL4.out
     go_wp2_with (at_builtin; refine wpList_app_span rfl (.tmp 48) (.tmp 53) rfl rfl o1 b1 rfl (by simp) hl4 ?_; intro v2 w8 o2 b2 k2 z2; clear k2)
     go_roundw
     case rel => exact ⟨i + 1, _, by go_num, by omega, o2, by unfold Hid FoInv; rw [HTK.out]; exact ⟨HQ.out.1, HQ.out.2, by rw [← HTK.out, HTL.out]; have := HAL.out; simp; omega⟩, b2⟩
     case measure => simp [intOf]; omega
    ·have t2 : decide (P < e) = false := by simpa using hep
     obtain ⟨q1, q2⟩ := K5.out (by omega)
     have HQ := Lib.hid (And.intro q1 q2)
     clear q1 q2 hep hm
     go_wp2_with (at_builtin; refine wpList_app_span rfl (.tmp 37) (.tmp 43) rfl rfl ho2 hB2 rfl (by simp) hl3 ?_; intro v1 w9 o1 b1 k1 z1; clear k1)
     go_roundw
     case rel => exact ⟨i + 1, _, by go_num, by omega, o1, by unfold Hid FoInv; rw [HTK.out]; exact ⟨HQ.out.1, HQ.out.2, by rw [← HTK.out, HTL.out]; have := HAL.out; simp; omega⟩, b1⟩
     case measure => simp [intOf]; omega
  ·have hil : L.take i = L := by rw [show i = L.length by omega]; exact List.take_length
   rw [hil] at HF
   have HJ := Lib.hid (joined_own u5 A w wr ho hB (fun s hs => by have := HF.out.2.1 s hs; omega) (by omega))
   go_wp2_with fail
   refine HJ.out.mono ?_
   rintro e w2 ⟨v2, L', rfl, o2, p2, s2, b2⟩
   have HR := Lib.hid (And.intro o2 (And.intro p2 (And.intro s2 b2)))
   clear o2 p2 s2 b2
   go_wp2
   go_ret
   obtain ⟨o2, p2, s2, b2⟩ := HR.out
   obtain ⟨j1, j2, j3⟩ := join_perm p2 s2 (fun s hs => (HF.out.2.1 s hs).2.1)
   exact fo_end j1 (fun x => by rw [j2]; exact HF.out.1 x) o2 (Nat.le_trans j3 HF.out.2.2) b2
end Go.Proofs.YtmfdnbfjdhlonaaGreatDoor
namespace Go.Proofs.YtmfdnbfjdhlonaaGreatDoor
open Go.RowKit Wk

theorem allV_bnd {L : List Sp} (h : allV L = true) : ∀ s ∈ L, -4398046511104 ≤ s.1 ∧ s.1 < s.2 ∧ s.2 ≤ 4398046511104 := fun s hs => by
 unfold allV at h
 exact (ivB_iff s).1 (List.all_eq_true.1 h s hs)
theorem inside_bnd {P : Int} {F : List Sp} (hc : Canon F) (hP : P ≤ 12622780800) (h : inside P F) : Bnd F := fun s hs => by
 have := canon_pos hc s hs
 have := h s hs
 exact ⟨by omega, by omega, by omega⟩
set_option maxRecDepth 100000 in
set_option maxHeartbeats 2000000 in
theorem pof_any (P : Int) (v : Value) (L : List Sp) (w : World) (h : RdS w v L) (hP1 : 1 ≤ P) (hP2 : P ≤ 12622780800) :
  Calls Tryz.prog 36 #[.int .i64 P, v] w (PrPost (ofPM P L) w) := by
 have HCN := Lib.hid (fun W h => conV_per v L W h)
 have HD := Lib.hid h
 obtain ⟨R, hR⟩ : ∃ R, ofPM P L = R := ⟨_, rfl⟩
 rw [hR]
 unfold ofPM at hR
 have HFN : Hid (allV L = true → L.length ≤ 2000 → ∀ W, RdS W v L → Calls Tryz.prog 74 #[.int .i64 P, v] W (GfPost P L W)) := Lib.hid fun ha hl W hr => gfold_any P v L W hr hP1 hP2 (fun s hs => by have := allV_bnd ha s hs; omega) hl
 obtain ⟨W, hWe⟩ : ∃ W, w.alloc (.cells #[.int .i64 0, .slice none 0 0] 29) = W := ⟨_, rfl⟩
 have hB0 : Below w.heap.size w W := by rw [← hWe]; exact (Below.refl _ w).alloc (Nat.le_refl _) _
 have hBX : Box2 W w.heap.size (.int .i64 0) (.slice none 0 0) := by rw [← hWe]; exact box2_new _ _ _ _
 have HRW := Lib.hid (keepRd hB0 h)
 have hlb : (L.length : Int) ≤ 8796093022208 := by obtain ⟨_, _, _, q, _⟩ := h; omega
 obtain ⟨pa, pc, rfl⟩ := h.form
 have HE := Lib.hid hWe
 have g1 : decide (P < 1) = false := by simp; omega
 have g2 : decide (12622780800 < P) = false := by simp; omega
 have hP1' : ¬P < 1 := by omega
 have hP2' : ¬12622780800 < P := by omega
 clear hWe h
 go_enter Tryz.func36, Tryz.ntmps36
 obtain ⟨a, ha⟩ : ∃ a, allV L = a := ⟨_, rfl⟩
 rw [ha] at HCN hR HFN
 clear ha
 cases a with
 | false =>
  rw [if_pos rfl] at hR
  subst hR
  go_wp2_with fail
  rw [HE.out]
  go_wp2_with fail
  refine (HCN.out _ HRW.out).mono ?_
  rintro e w1 ⟨rfl, hb1⟩
  have HB1 := Lib.hid (keepBelow hB0 hb1)
  obtain ⟨⟨z0, z1⟩, f0, f1⟩ := hBX.below hb1
  clear hb1
  go_wp2_with fail
  change bodyPost _ _ _ _ _ (put2 w1 w.heap.size (.int .i64 0) (.slice none 0 0))
  obtain ⟨r0, r1⟩ := Box2.put (W := w1) (b := w.heap.size) ⟨⟨z0, z1⟩, f0, f1⟩ (.int .i64 0) (.slice none 0 0)
  have hBZ := put2_below (.int .i64 0) (.slice none 0 0) HB1.out (b := w.heap.size) (Nat.le_refl _)
  generalize put2 w1 w.heap.size (.int .i64 0) (.slice none 0 0) = Z at *
  refine bodyPost_ret (v := .tuple #[.agg #[.int .i64 0, .slice none 0 0], .int .i64 1]) (by simp [results, Tryz.results36, go_sem, r0, r1]) rfl ?_
  exact ⟨_, rfl, OwnS.nil _ _, hBZ⟩
 | true =>
  rw [if_neg (by simp)] at hR
  by_cases hl : 2000 < L.length
  ·have hl' : (2000 : Int) < L.length := by omega
   rw [if_pos hl] at hR
   subst hR
   go_wp2_with fail
   rw [HE.out]
   go_wp2_with fail
   refine (HCN.out _ HRW.out).mono ?_
   rintro e w1 ⟨rfl, hb1⟩
   have HB1 := Lib.hid (keepBelow hB0 hb1)
   obtain ⟨⟨z0, z1⟩, f0, f1⟩ := hBX.below hb1
   clear hb1
   go_wp2_with fail
   change bodyPost _ _ _ _ _ (put2 w1 w.heap.size (.int .i64 0) (.slice none 0 0))
   obtain ⟨r0, r1⟩ := Box2.put (W := w1) (b := w.heap.size) ⟨⟨z0, z1⟩, f0, f1⟩ (.int .i64 0) (.slice none 0 0)
   have hBZ := put2_below (.int .i64 0) (.slice none 0 0) HB1.out (b := w.heap.size) (Nat.le_refl _)
   generalize put2 w1 w.heap.size (.int .i64 0) (.slice none 0 0) = Z at *
   refine bodyPost_ret (v := .tuple #[.agg #[.int .i64 0, .slice none 0 0], .int .i64 5]) (by simp [results, Tryz.results36, go_sem, r0, r1]) rfl ?_
   exact ⟨_, rfl, OwnS.nil _ _, hBZ⟩
  ·have hl' : ¬(2000 : Int) < L.length := by omega
   rw [if_neg hl] at hR
   have HF := Lib.hid (HFN.out rfl (by omega))
   have HLL : Hid (L.length ≤ 2000) := Lib.hid (by omega)
   clear HFN hl
   go_wp2_with fail
   rw [HE.out]
   go_wp2_with fail
   refine (HCN.out _ HRW.out).mono ?_
   rintro e w1 ⟨rfl, hb1⟩
   have HB1 := Lib.hid (keepBelow hB0 hb1)
   have HR1 := Lib.hid (keepRd hb1 HRW.out)
   have hBX1 := hBX.below hb1
   clear hb1
   go_wp2_with fail
   refine (HF.out _ HR1.out).mono ?_
   rintro e w2 ⟨v2, rfl, o2, hf2, hl2, hb2⟩
   have hr2 := o2.rd (by have := HLL.out; omega)
   have hin := foldP_in hf2
   have HLI := Lib.hid (limited_any P v2 (foldU P L) w2 hr2 ⟨hf2.1, inside_bnd hf2.1 hP2 hin, by have := HLL.out; omega⟩ hP1 hP2 hin)
   rw [hR] at HLI
   have hs1 := HB1.out.size
   have HB2 := Lib.hid (keepBelow HB1.out hb2)
   have hBX2 := hBX1.below hb2
   clear o2 hb2 hr2 hf2 hl2 hin hBX hBX1
   go_wp2_with fail
   refine HLI.out.mono ?_
   rintro e w3 ⟨v3, rfl, o3, hb3⟩
   obtain ⟨p3, q3, rfl, _⟩ := o3.form
   have HB3 := Lib.hid (keepBelow HB2.out hb3)
   obtain ⟨⟨z0, z1⟩, f0, f1⟩ := hBX2.below hb3
   have HO3 := Lib.hid (o3.mono HB2.out.size)
   have HO4 := Lib.hid o3
   have hlt : w.heap.size < w2.heap.size := World.block_lt_of_cell? w2 ⟨w.heap.size, 0, none⟩ hBX2.1.1
   clear o3 hb3 hBX2
   go_wp2
   change bodyPost _ _ _ _ _ (put2 w3 w.heap.size (.int .i64 R.1.1) (.slice p3 R.1.2.length q3))
   obtain ⟨r0, r1⟩ := Box2.put (W := w3) (b := w.heap.size) ⟨⟨z0, z1⟩, f0, f1⟩ (.int .i64 R.1.1) (.slice p3 R.1.2.length q3)
   have hBZ := put2_below (.int .i64 R.1.1) (.slice p3 R.1.2.length q3) HB3.out (b := w.heap.size) (Nat.le_refl _)
   have hOZ := put2_own (.int .i64 R.1.1) (.slice p3 R.1.2.length q3) HO4.out (b := w.heap.size) hlt
   generalize put2 w3 w.heap.size (.int .i64 R.1.1) (.slice p3 R.1.2.length q3) = Z at *
   refine bodyPost_ret (v := .tuple #[.agg #[.int .i64 R.1.1, .slice p3 R.1.2.length q3], .int .i64 R.2]) (by simp [results, Tryz.results36, go_sem, r0, r1]) rfl ?_
   exact ⟨_, rfl, hOZ.mono (by omega), hBZ⟩
end Go.Proofs.YtmfdnbfjdhlonaaGreatDoor
namespace Go.Proofs.YtmfdnbfjdhlonaaGreatDoor
open Go.RowKit Wk

theorem foInv_ex {P : Int} (hP : 1 ≤ P) : ∀ (r T A : List Sp), FoInv P T A → (∀ s ∈ r, s.1 < s.2) → ∃ A', FoInv P (T ++ r) A'
 | [], T, A, h, _ => ⟨A, by rw [List.append_nil]; exact h⟩
 | (y1, y2) :: r, T, A, h, hp => by
  have hy : y1 < y2 := hp (y1, y2) (List.mem_cons_self ..)
  by_cases hf : P ≤ y2 - y1
  ·exact ⟨[(0, P)], fun x => fo_full hP hf x, by simp; omega, by simp; omega⟩
  ·obtain ⟨k1, k2, k3, k4, k5, k6⟩ := fo_step hP hy (by omega) h.1 h.2.1 _ _ rfl rfl
   have e : T ++ (y1, y2) :: r = (T ++ [(y1, y2)]) ++ r := by simp
   rw [e]
   by_cases hep : y1 - y1 / P * P + y2 - y1 ≤ P
   ·obtain ⟨q1, q2⟩ := k5 hep
    exact foInv_ex hP r _ _ ⟨q1, q2, by have := h.2.2; simp; omega⟩ (fun s hs => hp s (List.mem_cons_of_mem _ hs))
   ·obtain ⟨q1, q2⟩ := k6 (by omega)
    exact foInv_ex hP r _ _ ⟨q1, q2, by have := h.2.2; simp; omega⟩ (fun s hs => hp s (List.mem_cons_of_mem _ hs))
theorem foldP_ex {P : Int} {L : List Sp} (hP : 1 ≤ P) (hp : ∀ s ∈ L, s.1 < s.2) : ∃ F, FoldP P L F ∧ F.length ≤ 2 * L.length := by
 obtain ⟨A, hA⟩ := foInv_ex hP L [] [] ⟨fun x => by simp [inL, onP], fun s hs => by simp at hs, by simp⟩ hp
 rw [List.nil_append] at hA
 have hs : (A.mergeSort fun a b => decide (a.1 ≤ b.1)).Pairwise (fun a b => a.1 ≤ b.1) := by
  have := List.pairwise_mergeSort (le := fun a b : Sp => decide (a.1 ≤ b.1)) (fun a b c h1 h2 => by simp at h1 h2 ⊢; omega) (fun a b => by simp; omega) A
  exact this.imp (fun h => by simpa using h)
 obtain ⟨j1, j2, j3⟩ := join_perm (List.mergeSort_perm A _) hs (fun s hs => (hA.2.1 s hs).2.1)
 exact ⟨_, ⟨j1, fun x => by rw [j2]; exact hA.1 x⟩, Nat.le_trans j3 hA.2.2⟩
theorem foldU_ok {P : Int} {L : List Sp} (hP : 1 ≤ P) (hp : ∀ s ∈ L, s.1 < s.2) : FoldP P L (foldU P L) := by
 obtain ⟨F, hF, -⟩ := foldP_ex hP hp
 rw [foldU_eq hF]
 exact hF
theorem foldU_len {P : Int} {L : List Sp} (hP : 1 ≤ P) (hp : ∀ s ∈ L, s.1 < s.2) : (foldU P L).length ≤ 2 * L.length := by
 obtain ⟨F, hF, hl⟩ := foldP_ex hP hp
 rw [foldU_eq hF]
 exact hl
theorem ofPM_ok {P : Int} {L : List Sp} (hP : 1 ≤ P) (hP2 : P ≤ 12622780800) (h : (ofPM P L).2 = 0) : pvB (ofPM P L).1.1 (ofPM P L).1.2 = true ∧ ∀ x, hasP (ofPM P L).1 x = hasP (P, foldU P L) x := by
 unfold ofPM at h ⊢
 split at h
 ·simp at h
 ·rename_i ha
  split at h
  ·simp at h
  ·rename_i hl
   rw [if_neg ha, if_neg hl]
   have hv : allV L = true := by simpa using ha
   have hF := foldU_ok hP (fun s hs => (allV_bnd hv s hs).2.1)
   unfold limM at h ⊢
   split at h
   ·simp at h
   ·rename_i hc
    rw [if_neg hc]
    exact least_form (P := P) ⟨hP, hF.1, foldP_in hF⟩ hP2 (by omega)
theorem form_pure {p : Per} (h : pvB p.1 p.2 = true) : formF (pureF p) = (pureF p, 0) := by
 have h1 : pairM p.1 p.2 p.1 p.2 = 0 := ak_pair h
 have h2 : peB p.1 p.2 p.1 p.2 = true := by unfold peB; rw [h]; simp
 unfold formF pureF
 simp only
 rw [if_neg (by rw [h1]; simp), h2]
 simp [lastF, firstF, lastN, firstN]
theorem given_pure {p : Per} (h : pvB p.1 p.2 = true) : givenB (pureF p) = true := by
 unfold givenB pureF
 simp only
 rw [h]
 simp [lineB, rvB]
theorem ofM_pure {p : Per} (h : pvB p.1 p.2 = true) : ofM (pureF p) = (pureF p, 0) := by
 unfold ofM
 rw [if_pos (given_pure h), form_pure h]
theorem VB_pure {p : Per} (h : pvB p.1 p.2 = true) : VB (pureF p) = true := by
 unfold VB
 rw [given_pure h, form_pure h]
 have h2 : peB p.1 p.2 p.1 p.2 = true := by unfold peB; rw [h]; simp
 simp [pureF, h2]
theorem has_pure (p : Per) (x : Int) : hasS (pureF p) x = hasP p x := by
 unfold hasS pureF
 simp only
 split
 ·rfl
 ·rfl
theorem ofPM_len {P : Int} {L : List Sp} : (ofPM P L).1.2.length ≤ 2000 := by
 unfold ofPM limM
 split
 ·simp
 ·split
  ·simp
  ·split
   ·simp
   ·simp only; omega
def pureE (r : Per × Int) : St × Int := if r.2 ≠ 0 then (noSt, r.2) else (pureF r.1, 0)

def shf (d : Int) (l : List Sp) : List Sp := l.map fun s => (d + s.1, d + s.2)
theorem shf_len (d : Int) (l : List Sp) : (shf d l).length = l.length := by unfold shf; simp
theorem shf_app (d : Int) (a b : List Sp) : shf d (a ++ b) = shf d a ++ shf d b := by unfold shf; simp
def wkT (d0 : Int) (H : List (List Sp)) (k : Nat) : List Sp := (List.range k).flatMap fun i : Nat => shf (86400 * (d0 + (i : Int))) (H.getD i [])
theorem wkT_succ (d0 : Int) (H : List (List Sp)) (k : Nat) : wkT d0 H (k + 1) = wkT d0 H k ++ shf (86400 * (d0 + k)) (H.getD k []) := by
 unfold wkT
 rw [List.range_succ, List.flatMap_append]
 simp
theorem wkT_len {d0 : Int} {H : List (List Sp)} (h : ∀ i, i < 7 → (H.getD i []).length ≤ 10) : ∀ k, k ≤ 7 → (wkT d0 H k).length ≤ 10 * k
 | 0, _ => by simp [wkT]
 | k + 1, hk => by
  rw [wkT_succ, List.length_append, shf_len]
  have := wkT_len (d0 := d0) h k (by omega)
  have := h k (by omega)
  omega
theorem okl_iff {l : List Sp} (h : okl l = true) : l.length ≤ 10 ∧ Canon l ∧ ∀ s ∈ l, 0 ≤ s.1 ∧ s.1 < s.2 ∧ s.2 ≤ 86400 := by
 unfold okl at h
 rw [Bool.and_eq_true, decide_eq_true_eq] at h
 obtain ⟨h1, h2⟩ := inside_of_insB h.2
 have hc := (canon_of_rvB h1).1
 exact ⟨h.1, hc, fun s hs => ⟨(h2 s hs).1, canon_pos hc s hs, (h2 s hs).2⟩⟩
theorem wkT_mem {d0 : Int} {H : List (List Sp)} {k : Nat} {s : Sp} (hs : s ∈ wkT d0 H k) : ∃ i : Nat, i < k ∧ ∃ t ∈ H.getD i [], s = (86400 * (d0 + i) + t.1, 86400 * (d0 + i) + t.2) := by
 unfold wkT at hs
 rw [List.mem_flatMap] at hs
 obtain ⟨i, hi, h⟩ := hs
 unfold shf at h
 rw [List.mem_map] at h
 obtain ⟨t, ht, rfl⟩ := h
 exact ⟨i, List.mem_range.1 hi, t, ht, rfl⟩
theorem wkT_allV {d0 : Int} {H : List (List Sp)} (h1 : -1000 ≤ d0) (h2 : d0 ≤ 1000) (h : ∀ i, i < 7 → okl (H.getD i []) = true) : allV (wkT d0 H 7) = true := by
 unfold allV
 rw [List.all_eq_true]
 intro s hs
 obtain ⟨i, hi, t, ht, rfl⟩ := wkT_mem hs
 have := (okl_iff (h i hi)).2.2 t ht
 rw [ivB_iff]
 simp only
 omega
theorem onP_flat (P : Int) (f : Nat → List Sp) (x : Int) : ∀ l : List Nat, onP P (l.flatMap f) x = l.any fun i => onP P (f i) x
 | [] => by simp [onP]
 | i :: r => by rw [List.flatMap_cons, onP_app, onP_flat P f x r]; simp
noncomputable def weekM (d0 : Int) (H : List (List Sp)) : St × Int := if okH H = false then (noSt, 1) else pureE (ofPM 604800 (wkT d0 H 7))
theorem ofPM_good {P : Int} {L : List Sp} (ha : allV L = true) (hl : L.length ≤ 2000) : ofPM P L = limM P (foldU P L) := by
 unfold ofPM
 rw [ha, if_neg (by simp), if_neg (by omega)]
theorem week_of {d0 : Int} {H : List (List Sp)} (h : okH H = true) : weekM d0 H = pureE (ofPM 604800 (wkT d0 H 7)) := by
 unfold weekM
 rw [if_neg (by rw [h]; simp)]
theorem week_no {d0 : Int} {H : List (List Sp)} (h : okH H = false) : weekM d0 H = (noSt, 1) := by
 unfold weekM
 rw [if_pos h]
end Go.Proofs.YtmfdnbfjdhlonaaGreatDoor
namespace Go.Proofs.YtmfdnbfjdhlonaaGreatDoor
open Go.RowKit Wk

theorem set_no {w w' : World} {n : Int} (hb : Below w.heap.size w w') : TsPost (noSt, n) w (.returned (.tuple #[.agg #[.int .i64 0, .slice none 0 0, .int .i64 0, .slice none 0 0, .int .i64 0, .int .i64 0, .slice none 0 0], .int .i64 n])) w' := ⟨_, _, _, rfl, rdst_no w', hb⟩
theorem ts_fin {T : St × Int} {w w2 : World} {b b1 b2 b3 : Nat} {a1 a2 a3 : Option Addr} (h : RdSt w2 T.1 (.slice a1 T.1.lf.2.length b1) (.slice a2 T.1.rt.2.length b2) (.slice a3 T.1.l.length b3)) (hp : PosSt T.1) (hz : Zero7 w2 b) (hB : Below w.heap.size w w2) (hb : w.heap.size ≤ b) :
  TsPost T w (.returned (.tuple #[.agg #[.int .i64 T.1.lf.1, .slice a1 T.1.lf.2.length b1, .int .i64 T.1.rt.1, .slice a2 T.1.rt.2.length b2, .int .i64 T.1.fr, .int .i64 T.1.to, .slice a3 T.1.l.length b3], .int .i64 T.2])) (put7 w2 b (.int .i64 T.1.lf.1) (.slice a1 T.1.lf.2.length b1) (.int .i64 T.1.rt.1) (.slice a2 T.1.rt.2.length b2) (.int .i64 T.1.fr) (.int .i64 T.1.to) (.slice a3 T.1.l.length b3)) :=
 ⟨_, _, _, rfl, RdSt.put _ _ _ _ _ _ _ h hp hz, put7_below _ _ _ _ _ _ _ hB hb⟩
theorem pos_pureE {p : Per} {n : Int} (hp : n = 0 → pvB p.1 p.2 = true) : PosSt (pureE (p, n)).1 := by
 unfold pureE
 simp only
 split
 ·exact pos_no
 ·rename_i h
  exact pos_OkS (okS_of_VB (VB_pure (hp (by simpa using h))))
set_option maxRecDepth 100000 in
set_option maxHeartbeats 2000000 in
theorem opure_any (p : Per) (n : Int) (v : Value) (w : World) (h : RdS w v p.2) (hp : n = 0 → pvB p.1 p.2 = true) :
  Calls Tryz.prog 35 #[.agg #[.int .i64 p.1, v], .int .i64 n] w (TsPost (pureE (p, n)) w) := by
 have HPO := Lib.hid (pos_pureE hp)
 obtain ⟨R, hR⟩ : ∃ R, pureE (p, n) = R := ⟨_, rfl⟩
 rw [hR] at HPO ⊢
 unfold pureE at hR
 simp only at hR
 obtain ⟨W, hWe⟩ : ∃ W, (w.alloc (.cells #[.int .i64 p.1, v] 29)).alloc (.cells #[.int .i64 0, .slice none 0 0, .int .i64 0, .slice none 0 0, .int .i64 0, .int .i64 0, .slice none 0 0] 31) = W := ⟨_, rfl⟩
 have hB0 : Below w.heap.size w W := by rw [← hWe]; exact ((Below.refl _ w).alloc (Nat.le_refl _) _).alloc (by simp) _
 have c0 : W.cell? ⟨w.heap.size, 0, none⟩ = some (.int .i64 p.1) := by rw [← hWe]; simp [go_sem]
 have c1 : W.cell? ⟨w.heap.size, 1, none⟩ = some v := by rw [← hWe]; simp [go_sem]
 have HX : Hid (Set7 W (w.heap.size + 1) (.int .i64 0) (.slice none 0 0) (.int .i64 0) (.slice none 0 0) (.int .i64 0) (.int .i64 0) (.slice none 0 0)) := by
  rw [← hWe]
  refine Lib.hid ⟨⟨?_, ?_, ?_, ?_, ?_, ?_, ?_⟩, ?_, ?_, ?_, ?_, ?_, ?_, ?_⟩ <;> simp [go_sem]
 have HZ : Hid (Zero7 W (w.heap.size + 1)) := by
  unfold Hid
  rw [← hWe]
  have := zero7_new (w.alloc (.cells #[.int .i64 p.1, v] 29))
  simpa using this
 have HRW := Lib.hid (keepRd hB0 h)
 obtain ⟨pa, pc, rfl⟩ := h.form
 have HE := Lib.hid hWe
 have HP := Lib.hid hp
 clear hWe h hp
 go_enter Tryz.func35, Tryz.ntmps35
 by_cases hn : n = 0
 ·subst hn
  rw [if_neg (by simp)] at hR
  have hof := ofM_pure (HP.out rfl)
  have HT : Hid (∀ W, RdS W (.slice pa p.2.length pc) p.2 → Calls Tryz.prog 70 #[.agg #[.int .i64 p.1, .slice pa p.2.length pc], .agg #[.int .i64 p.1, .slice pa p.2.length pc], .int .i64 0, .int .i64 0, .slice none 0 0] W (TsPost R W)) := Lib.hid fun W hr => by
   have := tof_any (pureF p) (.slice pa p.2.length pc) (.slice pa p.2.length pc) (.slice none 0 0) W ⟨hr, hr, rd_none W⟩
   rw [hof, hR] at this
   exact this
  clear hof HP hR
  go_wp2_with fail
  rw [HE.out]
  go_wp2_with fail
  refine (HT.out _ HRW.out).mono ?_
  rintro e w1 ⟨vl, vr, vv, rfl, hst, hb1⟩
  have HZ1 := Lib.hid (HZ.out.below (World.block_lt_of_cell? W ⟨w.heap.size + 1, 0, none⟩ HX.out.1.1) hb1)
  obtain ⟨⟨X0, X1, X2, X3, X4, X5, X6⟩, K0, K1, K2, K3, K4, K5, K6⟩ := HX.out.below hb1
  have HB1 := Lib.hid (keepBelow hB0 hb1)
  obtain ⟨l1, l2, l3⟩ := hst
  obtain ⟨a1, b1, rfl⟩ := l1.form
  obtain ⟨a2, b2, rfl⟩ := l2.form
  obtain ⟨a3, b3, rfl⟩ := l3.form
  have HS := Lib.hid (And.intro l1 (And.intro l2 l3))
  clear l1 l2 l3
  clear hb1
  go_wp2_with fail
  change bodyPost _ _ _ _ _ (put7 w1 (w.heap.size + 1) (.int .i64 R.1.lf.1) (.slice a1 R.1.lf.2.length b1) (.int .i64 R.1.rt.1) (.slice a2 R.1.rt.2.length b2) (.int .i64 R.1.fr) (.int .i64 R.1.to) (.slice a3 R.1.l.length b3))
  obtain ⟨r0, r1, r2, r3, r4, r5, r6⟩ := put7_at (.int .i64 R.1.lf.1) (.slice a1 R.1.lf.2.length b1) (.int .i64 R.1.rt.1) (.slice a2 R.1.rt.2.length b2) (.int .i64 R.1.fr) (.int .i64 R.1.to) (.slice a3 R.1.l.length b3) X0 X1 X2 X3 X4 X5 X6
  have hfin := ts_fin (T := R) (b := (w.heap.size + 1)) HS.out HPO.out HZ1.out HB1.out (by omega)
  generalize put7 w1 (w.heap.size + 1) (.int .i64 R.1.lf.1) (.slice a1 R.1.lf.2.length b1) (.int .i64 R.1.rt.1) (.slice a2 R.1.rt.2.length b2) (.int .i64 R.1.fr) (.int .i64 R.1.to) (.slice a3 R.1.l.length b3) = Z at *
  refine bodyPost_ret (v := .tuple #[.agg #[.int .i64 R.1.lf.1, .slice a1 R.1.lf.2.length b1, .int .i64 R.1.rt.1, .slice a2 R.1.rt.2.length b2, .int .i64 R.1.fr, .int .i64 R.1.to, .slice a3 R.1.l.length b3], .int .i64 R.2]) (by simp [results, Tryz.results35, go_sem, r0, r1, r2, r3, r4, r5, r6]) rfl ?_
  exact hfin
 ·rw [if_pos hn] at hR
  subst hR
  have hn1 : (n == 0) = false := by simpa using hn
  have hn2 : (n != 0) = true := by simpa using hn
  obtain ⟨⟨X0, X1, X2, X3, X4, X5, X6⟩, K0, K1, K2, K3, K4, K5, K6⟩ := HX.out
  go_wp2_with fail
  rw [HE.out]
  go_wp2_with fail
  refine bodyPost_ret (v := .tuple #[.agg #[.int .i64 0, .slice none 0 0, .int .i64 0, .slice none 0 0, .int .i64 0, .int .i64 0, .slice none 0 0], .int .i64 n]) (by simp [results, Tryz.results35, go_sem, X0, X1, X2, X3, X4, X5, X6]) rfl ?_
  exact set_no hB0

theorem idx7 {v0 v1 v2 v3 v4 v5 v6 : Value} {H : List (List Sp)} {w : World} (h : RdH w [v0, v1, v2, v3, v4, v5, v6] H) {k : Nat} (hk : k < 7) :
  ∃ v, (∀ W, (Instr.index 23 (.agg #[v0, v1, v2, v3, v4, v5, v6]) (.int .i64 k)).run Tryz.prog W = .ok v W) ∧ RdS w v (H.getD k []) := by
 rcases k with _ | _ | _ | _ | _ | _ | _ | k
 ·exact ⟨v0, fun _ => by kernel_rfl, h.2.2 0 (by omega)⟩
 ·exact ⟨v1, fun _ => by kernel_rfl, h.2.2 1 (by omega)⟩
 ·exact ⟨v2, fun _ => by kernel_rfl, h.2.2 2 (by omega)⟩
 ·exact ⟨v3, fun _ => by kernel_rfl, h.2.2 3 (by omega)⟩
 ·exact ⟨v4, fun _ => by kernel_rfl, h.2.2 4 (by omega)⟩
 ·exact ⟨v5, fun _ => by kernel_rfl, h.2.2 5 (by omega)⟩
 ·exact ⟨v6, fun _ => by kernel_rfl, h.2.2 6 (by omega)⟩
 ·omega
theorem shf_take {d x y : Int} {l : List Sp} {j : Nat} (h : l.getD j (0, 0) = (x, y)) (hj : j < l.length) : shf d (l.take (j + 1)) = shf d (l.take j) ++ [(d + x, d + y)] := by
 rw [getD_take_succ h hj, shf_app]
 rfl
set_option maxRecDepth 100000 in
set_option maxHeartbeats 4000000 in
theorem week_any (v0 v1 v2 v3 v4 v5 v6 : Value) (H : List (List Sp)) (w : World) (h : RdH w [v0, v1, v2, v3, v4, v5, v6] H) :
  Calls Tryz.prog 11 #[.agg #[v0, v1, v2, v3, v4, v5, v6]] w (TsPost (weekM 4 H) w) := by
 have hH := h.2.1
 obtain ⟨R, hRT⟩ : ∃ R, weekM 4 H = R := ⟨_, rfl⟩
 rw [hRT]
 have HRT := Lib.hid hRT
 clear hRT
 have HV := Lib.hid (fun W h => ovalid_any v0 v1 v2 v3 v4 v5 v6 H W h)
 obtain ⟨q, hq⟩ : ∃ q, okH H = q := ⟨_, rfl⟩
 obtain ⟨W, hWe⟩ : ∃ W, (w.alloc (.cells #[v0, v1, v2, v3, v4, v5, v6] 25)).alloc (.cells #[.int .i64 0, .slice none 0 0, .int .i64 0, .slice none 0 0, .int .i64 0, .int .i64 0, .slice none 0 0] 31) = W := ⟨_, rfl⟩
 have hB0 : Below w.heap.size w W := by rw [← hWe]; exact ((Below.refl _ w).alloc (Nat.le_refl _) _).alloc (by simp) _
 have c0 : W.cell? ⟨w.heap.size, 0, none⟩ = some v0 := by rw [← hWe]; simp [go_sem]
 have c1 : W.cell? ⟨w.heap.size, 1, none⟩ = some v1 := by rw [← hWe]; simp [go_sem]
 have c2 : W.cell? ⟨w.heap.size, 2, none⟩ = some v2 := by rw [← hWe]; simp [go_sem]
 have c3 : W.cell? ⟨w.heap.size, 3, none⟩ = some v3 := by rw [← hWe]; simp [go_sem]
 have c4 : W.cell? ⟨w.heap.size, 4, none⟩ = some v4 := by rw [← hWe]; simp [go_sem]
 have c5 : W.cell? ⟨w.heap.size, 5, none⟩ = some v5 := by rw [← hWe]; simp [go_sem]
 have c6 : W.cell? ⟨w.heap.size, 6, none⟩ = some v6 := by rw [← hWe]; simp [go_sem]
 have HX : Hid (Set7 W (w.heap.size + 1) (.int .i64 0) (.slice none 0 0) (.int .i64 0) (.slice none 0 0) (.int .i64 0) (.int .i64 0) (.slice none 0 0)) := by
  rw [← hWe]
  refine Lib.hid ⟨⟨?_, ?_, ?_, ?_, ?_, ?_, ?_⟩, ?_, ?_, ?_, ?_, ?_, ?_, ?_⟩ <;> simp [go_sem]
 have HZ : Hid (Zero7 W (w.heap.size + 1)) := by
  unfold Hid
  rw [← hWe]
  have := zero7_new (w.alloc (.cells #[v0, v1, v2, v3, v4, v5, v6] 25))
  simpa using this
 have HRW := Lib.hid (h.below hB0)
 have HE := Lib.hid hWe
 have HQ := Lib.hid hq
 rw [hq] at HV
 clear hWe h hq
 go_enter Tryz.func11, Tryz.ntmps11
 go_wp2_with fail
 rw [HE.out]
 go_wp2_with fail
 refine (HV.out _ HRW.out).mono ?_
 rintro e w1 ⟨rfl, hb1⟩
 have HB1 := Lib.hid (keepBelow hB0 hb1)
 have HZ1 := Lib.hid (HZ.out.below (World.block_lt_of_cell? W ⟨w.heap.size + 1, 0, none⟩ HX.out.1.1) hb1)
 have HX1 := Lib.hid (HX.out.below hb1)
 have HR1 := Lib.hid (HRW.out.below hb1)
 have d0 := keepCell hb1 c0
 have d1 := keepCell hb1 c1
 have d2 := keepCell hb1 c2
 have d3 := keepCell hb1 c3
 have d4 := keepCell hb1 c4
 have d5 := keepCell hb1 c5
 have d6 := keepCell hb1 c6
 have HS1 : Hid (w.heap.size + 1 < w1.heap.size) := Lib.hid (World.block_lt_of_cell? w1 ⟨w.heap.size + 1, 0, none⟩ HX1.out.1.1)
 clear hb1 hB0 HX HZ HRW HV HE c0 c1 c2 c3 c4 c5 c6
 cases q with
 | false =>
  obtain ⟨⟨X0, X1, X2, X3, X4, X5, X6⟩, K0, K1, K2, K3, K4, K5, K6⟩ := HX1.out
  have hR1 : (noSt, (1 : Int)) = R := by rw [← HRT.out]; exact (week_no HQ.out).symm
  subst hR1
  go_wp2_with fail
  change bodyPost _ _ _ _ _ (put7 w1 (w.heap.size + 1) (.int .i64 0) (.slice none 0 0) (.int .i64 0) (.slice none 0 0) (.int .i64 0) (.int .i64 0) (.slice none 0 0))
  obtain ⟨r0, r1, r2, r3, r4, r5, r6⟩ := put7_at (.int .i64 0) (.slice none 0 0) (.int .i64 0) (.slice none 0 0) (.int .i64 0) (.int .i64 0) (.slice none 0 0) X0 X1 X2 X3 X4 X5 X6
  have hbz := put7_below (.int .i64 0) (.slice none 0 0) (.int .i64 0) (.slice none 0 0) (.int .i64 0) (.int .i64 0) (.slice none 0 0) HB1.out (b := (w.heap.size + 1)) (by omega)
  generalize put7 w1 (w.heap.size + 1) (.int .i64 0) (.slice none 0 0) (.int .i64 0) (.slice none 0 0) (.int .i64 0) (.int .i64 0) (.slice none 0 0) = Z at *
  refine bodyPost_ret (v := .tuple #[.agg #[.int .i64 0, .slice none 0 0, .int .i64 0, .slice none 0 0, .int .i64 0, .int .i64 0, .slice none 0 0], .int .i64 1]) (by simp [results, Tryz.results11, go_sem, r0, r1, r2, r3, r4, r5, r6]) rfl ?_
  exact set_no hbz
 | true =>
  have ho := (okH_iff hH).1 HQ.out
  have HL10 : Hid (∀ i, i < 7 → (H.getD i []).length ≤ 10) := Lib.hid fun i hi => (okl_iff (ho i hi)).1
  have HBD : Hid (∀ i, i < 7 → ∀ s ∈ H.getD i [], 0 ≤ s.1 ∧ s.1 < s.2 ∧ s.2 ≤ 86400) := Lib.hid fun i hi => (okl_iff (ho i hi)).2.2
  have HAV := Lib.hid (wkT_allV (d0 := 4) (by omega) (by omega) ho)
  have hRW := HRT.out
  rw [week_of HQ.out] at hRW
  clear ho
  have HOK := Lib.hid (fun h0 => (ofPM_ok (P := 604800) (L := wkT 4 H 7) (by omega) (by omega) h0).1)
  obtain ⟨⟨p, n⟩, hpn⟩ : ∃ r, ofPM 604800 (wkT 4 H 7) = r := ⟨_, rfl⟩
  rw [hpn] at HOK hRW
  have HPO := Lib.hid (pos_pureE HOK.out)
  have HPE : Hid (∀ v W, RdS W v p.2 → Calls Tryz.prog 35 #[.agg #[.int .i64 p.1, v], .int .i64 n] W (TsPost (pureE (p, n)) W)) := Lib.hid fun v W hr => opure_any p n v W hr HOK.out
  rw [hRW] at HPO HPE
  have HPL : Hid (p.2.length ≤ 1000000) := Lib.hid (by have := ofPM_len (P := 604800) (L := wkT 4 H 7); rw [hpn] at this; exact Nat.le_trans this (by omega))
  have HPN := Lib.hid hpn
  clear hpn hRW
  go_wp2_with fail
  go_loopw [4, 5, 6, 15] (fun u4 _ _ u15 wr => ∃ k : Nat, u15 = .int .i64 k ∧ k ≤ 7 ∧ Hid (OwnS wr w1.heap.size u4 (wkT 4 H k)) ∧ Hid (Below w1.heap.size w1 wr)) (fun _ _ _ u15 _ => 7 - (intOf u15).toNat)
  case atStart => exact ⟨0, rfl, by omega, Lib.hid (OwnS.nil _ _), Lib.hid (Below.refl _ _)⟩
  case round =>
   obtain ⟨k, rfl, hk, HO, HB⟩ := hrel
   by_cases hlt : k < 7
   ·have hlt' : (k : Int) < 7 := by omega
    obtain ⟨vk, hix, hrk⟩ := idx7 HR1.out hlt
    obtain ⟨l, hl⟩ : ∃ l, H.getD k [] = l := ⟨_, rfl⟩
    have hl10 := HL10.out k hlt
    have hbd := HBD.out k hlt
    rw [hl] at hrk hl10 hbd
    have HLK := Lib.hid hl
    have HBL := Lib.hid hbd
    obtain ⟨la, lc, rfl, hlb, hc⟩ := hrk
    have HC := Lib.hid hc
    have HWL := Lib.hid (wkT_len (d0 := 4) HL10.out k (by omega))
    have s1 : IntKind.i64.wrap (4 + (k : Int)) = 4 + (k : Int) := by rw [IntKind.wrap_i64]; omega
    have s2 : IntKind.i64.wrap (86400 * (4 + (k : Int))) = 86400 * (4 + (k : Int)) := by rw [IntKind.wrap_i64]; omega
    clear hc hbd hl
    go_wp2_with fail
    generalize wr = Wo at *
    go_loopw [4, 8, 21] (fun u4 _ u21 wr => ∃ j : Nat, u21 = .int .i64 j ∧ j ≤ l.length ∧ Hid (OwnS wr w1.heap.size u4 (wkT 4 H k ++ shf (86400 * (4 + (k : Int))) (l.take j))) ∧ Hid (Below w1.heap.size w1 wr)) (fun _ _ u21 _ => l.length - (intOf u21).toNat)
    case atStart => exact ⟨0, rfl, Nat.zero_le _, Lib.hid (by simpa [shf] using HO.out), HB⟩
    case round =>
     obtain ⟨j, rfl, hj, HO2, HB2⟩ := hrel
     have hjb : (j : Int) ≤ 10 := by omega
     by_cases hjl : j < l.length
     ·have hjl' : (j : Int) < l.length := by omega
      obtain ⟨bb, o, x, y, rfl, hbw, HXY, e1, e2⟩ := rd_at HC.out HB2.out hjl
      have hxy := HBL.out _ (mem_of_getD HXY.out hjl)
      simp only at hxy
      have HTK := Lib.hid (shf_take (d := 86400 * (4 + (k : Int))) HXY.out hjl)
      have s3 : IntKind.i64.wrap (86400 * (4 + (k : Int)) + x) = 86400 * (4 + (k : Int)) + x := by rw [IntKind.wrap_i64]; omega
      have s4 : IntKind.i64.wrap (86400 * (4 + (k : Int)) + y) = 86400 * (4 + (k : Int)) + y := by rw [IntKind.wrap_i64]; omega
      have hba : Below wr.heap.size wr (wr.alloc (.cells #[.int .i64 x, .int .i64 y] 41)) := (Below.refl _ _).alloc (Nat.le_refl _) _
      have hBa := keepBelow HB2.out hba
      have hoa := HO2.out.below hba
      have b0 : (wr.alloc (.cells #[.int .i64 x, .int .i64 y] 41)).cell? ⟨wr.heap.size, 0, none⟩ = some (.int .i64 x) := by simp [go_sem]
      have b1 : (wr.alloc (.cells #[.int .i64 x, .int .i64 y] 41)).cell? ⟨wr.heap.size, 1, none⟩ = some (.int .i64 y) := by simp [go_sem]
      have hll : (wkT 4 H k ++ shf (86400 * (4 + (k : Int))) (l.take j)).length < 1000000000000 := by
       rw [List.length_append, shf_len, List.length_take]
       have := HWL.out
       omega
      clear hba hxy
      go_wp2_with (at_builtin; refine wpList_app_span rfl (.tmp 25) (.tmp 39) rfl rfl hoa hBa rfl (by simp) hll ?_; intro v1' w9 o1 bb1 k1 z1; clear k1)
      go_roundw
      case rel => exact ⟨j + 1, by go_num, by omega, Lib.hid (by rw [HTK.out, ← List.append_assoc]; exact o1), Lib.hid bb1⟩
      case measure => simp [intOf]; omega
     ·have HF : Hid (OwnS wr w1.heap.size u4 (wkT 4 H (k + 1))) := by
       have h := HO2.out
       rw [List.take_of_length_le (by omega)] at h
       refine Lib.hid ?_
       rw [wkT_succ, HLK.out]
       exact h
      clear HO2
      go_wp2_with fail
      go_roundw
      case rel => exact ⟨k + 1, by go_num, by omega, HF, HB2⟩
      case measure => simp [intOf]; omega
   ·have hk7 : k = 7 := by omega
    subst hk7
    have hwl := wkT_len (d0 := 4) HL10.out 7 (by omega)
    have HRL := Lib.hid (HO.out.rd (by omega))
    have HPF := Lib.hid (pof_any 604800 u4 (wkT 4 H 7) wr HRL.out (by omega) (by omega))
    rw [HPN.out] at HPF
    clear hwl HO
    go_wp2_with fail
    refine HPF.out.mono ?_
    rintro e w2 ⟨v2, rfl, o2, hb2⟩
    have HR2 := Lib.hid (o2.rd (by have := HPL.out; simp only; omega))
    have HB2 := Lib.hid (keepBelow HB.out hb2)
    clear o2 hb2
    go_wp2_with fail
    refine (HPE.out _ _ HR2.out).mono ?_
    rintro e w3 ⟨vl, vr, vv, rfl, hst, hb3⟩
    have HB3 := Lib.hid (keepBelow HB2.out hb3)
    have HB4 := Lib.hid (keepBelow HB1.out (HB3.out))
    have HZ3 := Lib.hid (HZ1.out.below HS1.out HB3.out)
    obtain ⟨⟨X0, X1, X2, X3, X4, X5, X6⟩, K0, K1, K2, K3, K4, K5, K6⟩ := HX1.out.below HB3.out
    obtain ⟨l1, l2, l3⟩ := hst
    obtain ⟨a1, b1, rfl⟩ := l1.form
    obtain ⟨a2, b2, rfl⟩ := l2.form
    obtain ⟨a3, b3, rfl⟩ := l3.form
    have HS := Lib.hid (And.intro l1 (And.intro l2 l3))
    clear l1 l2 l3
    clear hb3
    go_wp2_with fail
    change bodyPost _ _ _ _ _ (put7 w3 (w.heap.size + 1) (.int .i64 R.1.lf.1) (.slice a1 R.1.lf.2.length b1) (.int .i64 R.1.rt.1) (.slice a2 R.1.rt.2.length b2) (.int .i64 R.1.fr) (.int .i64 R.1.to) (.slice a3 R.1.l.length b3))
    obtain ⟨r0, r1, r2, r3, r4, r5, r6⟩ := put7_at (.int .i64 R.1.lf.1) (.slice a1 R.1.lf.2.length b1) (.int .i64 R.1.rt.1) (.slice a2 R.1.rt.2.length b2) (.int .i64 R.1.fr) (.int .i64 R.1.to) (.slice a3 R.1.l.length b3) X0 X1 X2 X3 X4 X5 X6
    have hfin := ts_fin (T := R) (b := (w.heap.size + 1)) HS.out HPO.out HZ3.out HB4.out (by omega)
    generalize put7 w3 (w.heap.size + 1) (.int .i64 R.1.lf.1) (.slice a1 R.1.lf.2.length b1) (.int .i64 R.1.rt.1) (.slice a2 R.1.rt.2.length b2) (.int .i64 R.1.fr) (.int .i64 R.1.to) (.slice a3 R.1.l.length b3) = Z at *
    refine bodyPost_ret (v := .tuple #[.agg #[.int .i64 R.1.lf.1, .slice a1 R.1.lf.2.length b1, .int .i64 R.1.rt.1, .slice a2 R.1.rt.2.length b2, .int .i64 R.1.fr, .int .i64 R.1.to, .slice a3 R.1.l.length b3], .int .i64 R.2]) (by simp [results, Tryz.results11, go_sem, r0, r1, r2, r3, r4, r5, r6]) rfl ?_
    exact hfin
end Go.Proofs.YtmfdnbfjdhlonaaGreatDoor
