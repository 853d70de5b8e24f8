import Derived.Test.YtlbjfbpejomkmaaGreatWkAgQa
import Derived.Test.YtlbjfbpejomkmaaGreatWkAgQf
/- Agenda: the set of the chapter's example. -/
namespace Go.Proofs.YtlbjfbpejomkmaaGreat
open Go.RowKit Wk

def DyPost (w : World) (e : Ending) (w' : World) : Prop :=
 ∃ v, e = .returned (.agg #[.int .i64 24, v, .int .i64 24, v, .int .i64 0, .int .i64 0, .slice none 0 0]) ∧ RdS w' v [(0, 8)] ∧ Below w.heap.size w w'
set_option maxHeartbeats 1000000 in
theorem day_any (w : World) : Calls Tryz.prog 36 #[] w (DyPost w) := by
 go_enter Tryz.func36, Tryz.ntmps36
 go_wp2
 refine bodyPost_ret (v := .agg #[.int .i64 24, .slice (some ⟨w.heap.size + 1, 0, none⟩) 1 1, .int .i64 24, .slice (some ⟨w.heap.size + 1, 0, none⟩) 1 1, .int .i64 0, .int .i64 0, .slice none 0 0]) (by simp [results, Tryz.results36, go_sem]) rfl ?_
 refine ⟨_, rfl, ⟨some ⟨w.heap.size + 1, 0, none⟩, 1, rfl, by decide, fun i hi => ?_⟩, (((Below.refl _ w).alloc (Nat.le_refl _) _).alloc (by simp) _).alloc (by simp; omega) _⟩
 have h0 : i = 0 := by simp at hi; exact hi
 subst h0
 exact ⟨_, _, rfl, by simp [go_sem], by simp [go_sem]⟩
end Go.Proofs.YtlbjfbpejomkmaaGreat
namespace Go.Proofs.YtlbjfbpejomkmaaGreat
open Go.RowKit Wk

def agN (b : UInt8) : ByteArray := ⟨#[b]⟩
def agK (d1 d2 : Int) : List Kv := [(agT (agN 97) d1, .slice none 0 0), (agT (agN 98) d2, .slice none 0 0)]
def agRow (d1 d2 : Int) : Obj := .cells #[.string (agN 97), .int .i64 6, .int .i64 0, .slice none 0 0, .int .i64 d1, .string (agN 98), .int .i64 6, .int .i64 0, .slice none 0 0, .int .i64 d2] 44
def AgW (W : World) (b : Nat) (d1 d2 : Int) : Prop := (W.cell? ⟨b, 0, none⟩ = some (.string (agN 97)) ∧ W.cell? ⟨b, 1, none⟩ = some (.int .i64 6) ∧ W.cell? ⟨b, 2, none⟩ = some (.int .i64 0) ∧ W.cell? ⟨b, 3, none⟩ = some (.slice none 0 0) ∧ W.cell? ⟨b, 4, none⟩ = some (.int .i64 d1)) ∧
 (W.cell? ⟨b, 5, none⟩ = some (.string (agN 98)) ∧ W.cell? ⟨b, 6, none⟩ = some (.int .i64 6) ∧ W.cell? ⟨b, 7, none⟩ = some (.int .i64 0) ∧ W.cell? ⟨b, 8, none⟩ = some (.slice none 0 0) ∧ W.cell? ⟨b, 9, none⟩ = some (.int .i64 d2)) ∧ W.frozen? ⟨b, 9, none⟩ = false
theorem AgW.below {W X : World} {b : Nat} {d1 d2 : Int} (h : AgW W b d1 d2) (hb : Below W.heap.size W X) : AgW X b d1 d2 := by
 obtain ⟨⟨h0, h1, h2, h3, h4⟩, ⟨h5, h6, h7, h8, h9⟩, h10⟩ := h
 exact ⟨⟨keepCell hb h0, keepCell hb h1, keepCell hb h2, keepCell hb h3, keepCell hb h4⟩, ⟨keepCell hb h5, keepCell hb h6, keepCell hb h7, keepCell hb h8, keepCell hb h9⟩, keepFz hb h9 h10⟩
theorem agW_new (X : World) (d1 d2 : Int) : AgW (X.alloc (agRow d1 d2)) X.heap.size d1 d2 := by
 unfold agRow
 refine ⟨⟨?_, ?_, ?_, ?_, ?_⟩, ⟨?_, ?_, ?_, ?_, ?_⟩, ?_⟩ <;> simp [go_sem]
theorem AgW.set {W : World} {b : Nat} {d1 d2 : Int} (h : AgW W b d1 d2) (d : Int) : AgW (W.setCell ⟨b, 9, none⟩ (.int .i64 d)) b d1 d := by
 obtain ⟨⟨h0, h1, h2, h3, h4⟩, ⟨h5, h6, h7, h8, h9⟩, h10⟩ := h
 refine ⟨⟨?_, ?_, ?_, ?_, ?_⟩, ⟨?_, ?_, ?_, ?_, cell_eq h9⟩, (frz_set ..).trans h10⟩
 all_goals (refine (cell_ne (Or.inr (by decide))).trans ?_; assumption)
theorem rdJ_nil (W : World) : RdJ W (.slice none 0 0) [] := ⟨none, 0, rfl, by simp, fun i hi => by simp at hi⟩
theorem AgW.rd {W : World} {b : Nat} {d1 d2 : Int} (h : AgW W b d1 d2) : RdK W (.slice (some ⟨b, 0, none⟩) 2 2) (agK d1 d2) := by
 refine ⟨some ⟨b, 0, none⟩, 2, rfl, by simp [agK], fun i hi => ?_⟩
 have hi : i < 2 := hi
 rcases (by omega : i = 0 ∨ i = 1) with rfl | rfl
 ·exact ⟨rdJ_nil W, b, 0, rfl, h.1⟩
 ·exact ⟨rdJ_nil W, b, 0, rfl, h.2.1⟩
def agR (v : Value) : List Sw := [(agS, v, v, .slice none 0 0)]
def agRowS (v : Value) : Obj := .cells #[.int .i64 24, v, .int .i64 24, v, .int .i64 0, .int .i64 0, .slice none 0 0] 54
theorem rdS_nil (W : World) : RdS W (.slice none 0 0) [] := ⟨none, 0, rfl, by simp, fun i hi => by simp at hi⟩
theorem agR_rd {X : World} {a : Option Addr} {c : Nat} (h : RdS X (.slice a 1 c) [(0, 8)]) : RdR (X.alloc (agRowS (.slice a 1 c))) (.slice (some ⟨X.heap.size, 0, none⟩) 1 1) (agR (.slice a 1 c)) := by
 refine ⟨some ⟨X.heap.size, 0, none⟩, 1, rfl, by simp [agR], fun i hi => ?_⟩
 have hi : i < 1 := hi
 obtain rfl : i = 0 := by omega
 have hb : Below X.heap.size X (X.alloc (agRowS (.slice a 1 c))) := (Below.refl _ _).alloc (Nat.le_refl _) _
 refine ⟨⟨keepRd hb h, keepRd hb h, rdS_nil _⟩, X.heap.size, 0, rfl, ?_⟩
 unfold agRowS
 refine ⟨?_, ?_, ?_, ?_, ?_, ?_, ?_⟩ <;> simp [go_sem, agR, agS]
theorem tks_ag (d1 d2 : Int) : tks (agK d1 d2) = [agT (agN 97) d1, agT (agN 98) d2] := rfl
theorem sts_ag (v : Value) : sts (agR v) = [agS] := rfl
theorem ag_vld {d1 d2 : Int} (h1 : lineB d1 = true) (h2 : lineB d2 = true) : vldM [agT (agN 97) d1, agT (agN 98) d2] [agS] = true := by
 refine vld_yes (by simp) (by simp) (by simp [ag_VB]) fun k hk => ?_
 have hk : k < 2 := hk
 rw [okT_iff]
 rcases (by omega : k = 0 ∨ k = 1) with rfl | rfl
 ·refine ⟨by show 1 ≤ (agN 97).size; decide, by show (agN 97).size ≤ 30; decide, fun k hk => by omega, by show (1 : Int) ≤ 6; decide, by show (6 : Int) ≤ 4398046511104; decide, by show (0 : Int) ≤ 0; decide, by show (0 : Int) < ((1 : Nat) : Int); decide, h1, by rfl⟩
 ·refine ⟨by show 1 ≤ (agN 98).size; decide, by show (agN 98).size ≤ 30; decide, fun k hk => ?_, by show (1 : Int) ≤ 6; decide, by show (6 : Int) ≤ 4398046511104; decide, by show (0 : Int) ≤ 0; decide, by show (0 : Int) < ((1 : Nat) : Int); decide, h2, by rfl⟩
  obtain rfl : k = 0 := by omega
  intro h
  have h : agN 97 = agN 98 := h
  have := congrArg (fun b : ByteArray => b.data.toList) h
  simp [agN] at this
theorem ag_sch {d1 d2 : Int} (h1 : lineB d1 = true) (h2 : lineB d2 = true) : schB [agT (agN 97) d1, agT (agN 98) d2] [agS] 0 10 = true := by
 unfold schB
 rw [ag_vld h1 h2]
 rfl
def sp2 (x y u v : Int) : Obj := .cells #[.int .i64 x, .int .i64 y, .int .i64 u, .int .i64 v] 46
theorem sp2_rd (X : World) (x y u v : Int) : RdS (X.alloc (sp2 x y u v)) (.slice (some ⟨X.heap.size, 0, none⟩) 2 2) [(x, y), (u, v)] := by
 refine ⟨some ⟨X.heap.size, 0, none⟩, 2, rfl, by simp, fun i hi => ?_⟩
 have hi : i < 2 := hi
 unfold sp2
 rcases (by omega : i = 0 ∨ i = 1) with rfl | rfl
 all_goals exact ⟨X.heap.size, 0, rfl, by simp [go_sem], by simp [go_sem]⟩
set_option maxRecDepth 100000 in
set_option maxHeartbeats 4000000 in
theorem awake48_any (w : World) : Calls Tryz.prog 12 #[] w fun e w' => e = .returned (.bool true) ∧ Below w.heap.size w w' := by
 have HD := Lib.hid (fun W => day_any W)
 have HS := Lib.hid (fun vl vR most L R W hL hR => sched_any vl vR 0 most L R W hL hR)
 have HE := Lib.hid (fun v1 v2 l1 l2 W h1 h2 => seq_any v1 v2 l1 l2 W h1 h2)
 go_enter Tryz.func12, Tryz.ntmps12
 go_wp2_with fail
 obtain ⟨W1, hW1⟩ : ∃ X, w.alloc (agRow 30 100) = X := ⟨_, rfl⟩
 have ha := agW_new w 30 100
 have hb1 : Below w.heap.size w (w.alloc (agRow 30 100)) := (Below.refl _ _).alloc (Nat.le_refl _) _
 rw [hW1] at ha hb1
 unfold agRow agN at hW1
 rw [hW1]
 have HA1 := Lib.hid ha
 have HB1 := Lib.hid hb1
 clear ha hb1 hW1
 refine (HD.out _).mono ?_
 rintro e w2 ⟨v, rfl, hrd, hb2⟩
 obtain ⟨a, c, rfl, _⟩ := id hrd
 have HA2 := Lib.hid (HA1.out.below hb2)
 have HB2 := Lib.hid (keepBelow HB1.out hb2)
 have HRR := Lib.hid (agR_rd hrd)
 obtain ⟨W3, hW3⟩ : ∃ X, w2.alloc (agRowS (.slice a 1 c)) = X := ⟨_, rfl⟩
 have hb3 : Below w2.heap.size w2 W3 := by rw [← hW3]; exact (Below.refl _ _).alloc (Nat.le_refl _) _
 rw [hW3] at HRR
 unfold agRowS at hW3
 have HA3 := Lib.hid (HA2.out.below hb3)
 have HB3 := Lib.hid (keepBelow HB2.out hb3)
 have HW3 := Lib.hid hW3
 clear hb2 hb3 hrd hW3
 go_wp2_with fail
 rw [HW3.out]
 clear HW3
 refine (HS.out _ _ 10 _ _ _ HA3.out.rd HRR.out).mono ?_
 rintro e w4 ⟨hb4, hr4, -⟩
 rw [tks_ag, sts_ag] at hr4
 have hr4 := hr4 (ag_sch (by decide) (by decide))
 rw [ag_one] at hr4
 obtain ⟨g4, rfl, hg4, hrow4, -⟩ := hr4
 have HA4 := Lib.hid (HA3.out.below hb4)
 have HB4 := Lib.hid (keepBelow HB3.out hb4)
 have hne4 : w.heap.size ≠ g4 := by
  have h1 := World.block_lt_of_cell? W3 ⟨w.heap.size, 0, none⟩ HA3.out.1.1
  have h1 : w.heap.size < W3.heap.size := h1
  omega
 have HR4 := Lib.hid (hrow4.set (o := 9) hne4 (.int .i64 6))
 have HA5 := Lib.hid (HA4.out.set 6)
 have HB5 := Lib.hid (HB4.out.setCell (p := ⟨w.heap.size, 9, none⟩) (Nat.le_refl _) (.int .i64 6))
 obtain ⟨-, ⟨-, -, -, -, z9⟩, zf⟩ := HA4.out
 clear hb4 hrow4 HRR HA3 HB3 hne4 hg4 HA1 HA2 HB1 HB2
 go_wp2_with fail
 generalize w4.setCell ⟨w.heap.size, 9, none⟩ (.int .i64 6) = w5 at *
 clear z9 zf HA4 HB4
 refine (HD.out _).mono ?_
 rintro e w6 ⟨v, rfl, hrd, hb6⟩
 obtain ⟨a, c, rfl, _⟩ := id hrd
 have HA6 := Lib.hid (HA5.out.below hb6)
 have HB6 := Lib.hid (keepBelow HB5.out hb6)
 have HR6 := Lib.hid (HR4.out.below hb6)
 have HRR := Lib.hid (agR_rd hrd)
 obtain ⟨W7, hW7⟩ : ∃ X, w6.alloc (agRowS (.slice a 1 c)) = X := ⟨_, rfl⟩
 have hb7 : Below w6.heap.size w6 W7 := by rw [← hW7]; exact (Below.refl _ _).alloc (Nat.le_refl _) _
 rw [hW7] at HRR
 unfold agRowS at hW7
 have HA7 := Lib.hid (HA6.out.below hb7)
 have HB7 := Lib.hid (keepBelow HB6.out hb7)
 have HR7 := Lib.hid (HR6.out.below hb7)
 have HW7 := Lib.hid hW7
 clear hb6 hb7 hrd hW7
 go_wp2_with fail
 rw [HW7.out]
 clear HW7
 refine (HS.out _ _ 10 _ _ _ HA7.out.rd HRR.out).mono ?_
 rintro e w8 ⟨hb8, hr8, -⟩
 rw [tks_ag, sts_ag] at hr8
 have hr8 := hr8 (ag_sch (by decide) (by decide))
 rw [ag_two] at hr8
 obtain ⟨g8, rfl, hg8, hrow8, -⟩ := hr8
 have HB8 := Lib.hid (keepBelow HB7.out hb8)
 have HX8 := Lib.hid ((HR7.out.below hb8).rd (by decide))
 have HY8 := Lib.hid (hrow8.rd (by decide))
 clear hb8 hr8 hrow8 hg8 HRR
 go_wp2_with fail
 have HP := Lib.hid (sp2_rd w8 0 6 6 28)
 have hb9 : Below w8.heap.size w8 (w8.alloc (sp2 0 6 6 28)) := (Below.refl _ _).alloc (Nat.le_refl _) _
 have HX9 := Lib.hid (keepRd hb9 HX8.out)
 have HY9 := Lib.hid (keepRd hb9 HY8.out)
 have HB9 := Lib.hid (keepBelow HB8.out hb9)
 clear hb9
 refine (HE.out _ _ _ _ _ HX9.out HP.out).mono ?_
 rintro e w10 ⟨rfl, hb10⟩
 rw [decide_eq_true (by rfl)]
 have HY10 := Lib.hid (keepRd hb10 HY9.out)
 have HB10 := Lib.hid (keepBelow HB9.out hb10)
 clear hb10
 go_wp2_with fail
 have HP := Lib.hid (sp2_rd w10 6 28 0 6)
 have hb11 : Below w10.heap.size w10 (w10.alloc (sp2 6 28 0 6)) := (Below.refl _ _).alloc (Nat.le_refl _) _
 have HY11 := Lib.hid (keepRd hb11 HY10.out)
 have HB11 := Lib.hid (keepBelow HB10.out hb11)
 clear hb11
 refine (HE.out _ _ _ _ _ HY11.out HP.out).mono ?_
 rintro e w12 ⟨rfl, hb12⟩
 rw [decide_eq_true (by rfl)]
 have HB12 := Lib.hid (keepBelow HB11.out hb12)
 clear hb12
 go_wp2
 go_ret
 exact ⟨rfl, HB12.out⟩
end Go.Proofs.YtlbjfbpejomkmaaGreat
