import Derived.Test.YtlbglinpgjlbkaaGreatDoorWkQk
import Derived.Test.YtlbglinpgjlbkaaGreatDoorWkQr
/- Zone texts: lengths of months; days that fit; what is a moment. -/
namespace Go.Proofs.YtlbglinpgjlbkaaGreatDoor
open Go.RowKit Wk

theorem callsB {P : Program} {f : FuncId} {args : Array Value} {E : Ending} {w : World} (h : ∀ w', Calls P f args w' fun e w'' => e = E ∧ Below w'.heap.size w' w'') : ∀ w', Below w.heap.size w w' → Calls P f args w' fun e w'' => e = E ∧ Below w.heap.size w w'' :=
 fun w' hb => (h w').mono fun _ _ ⟨h1, h2⟩ => ⟨h1, keepBelow hb h2⟩
theorem callsS {P : Program} {f : FuncId} {args : Array Value} {E : Ending} {w : World} (h : ∀ w', Calls P f args w' fun e w'' => e = E ∧ w'' = w') : ∀ w', Below w.heap.size w w' → Calls P f args w' fun e w'' => e = E ∧ Below w.heap.size w w'' :=
 fun w' hb => (h w').mono fun _ _ ⟨h1, h2⟩ => ⟨h1, by rw [h2]; exact hb⟩
theorem below_box {w : World} {o : Obj} : Below w.heap.size w (w.alloc o) := (Below.refl _ w).alloc (Nat.le_refl _) _
theorem year_any (y : Int) (w : World) :
  Calls Tryz.prog 237 #[.int .i64 y] w fun e w' => e = .returned (.bool (decide (1 ≤ y ∧ y ≤ 9999))) ∧ w' = w := by
 go_enter Tryz.func237, Tryz.ntmps237
 go_wp2
 all_goals go_ret
 all_goals exact ⟨ret_bool (by rw [Bool.eq_iff_iff]; simp; omega), rfl⟩
theorem leap_any (w : World) :
  Calls Tryz.prog 238 #[.int .i64 2000] w fun e w' => e = .returned (.bool true) ∧ w' = w := by
 go_enter Tryz.func238, Tryz.ntmps238
 go_wp2_with (first | (go_at_call 237; refine (year_any _ _).mono ?_; rintro e w' ⟨rfl, rfl⟩) | fail)
 all_goals go_ret
 all_goals exact ⟨rfl, rfl⟩
theorem len_i0 (W : World) : (Instr.index 231 (.agg #[.int .i64 31, .int .i64 28, .int .i64 31, .int .i64 30, .int .i64 31, .int .i64 30, .int .i64 31, .int .i64 31, .int .i64 30, .int .i64 31, .int .i64 30, .int .i64 31]) (.int .i64 0)).run Tryz.prog W = .ok (.int .i64 31) W := by kernel_rfl
theorem len_i2 (W : World) : (Instr.index 231 (.agg #[.int .i64 31, .int .i64 28, .int .i64 31, .int .i64 30, .int .i64 31, .int .i64 30, .int .i64 31, .int .i64 31, .int .i64 30, .int .i64 31, .int .i64 30, .int .i64 31]) (.int .i64 2)).run Tryz.prog W = .ok (.int .i64 31) W := by kernel_rfl
theorem len_i3 (W : World) : (Instr.index 231 (.agg #[.int .i64 31, .int .i64 28, .int .i64 31, .int .i64 30, .int .i64 31, .int .i64 30, .int .i64 31, .int .i64 31, .int .i64 30, .int .i64 31, .int .i64 30, .int .i64 31]) (.int .i64 3)).run Tryz.prog W = .ok (.int .i64 30) W := by kernel_rfl
theorem len_i4 (W : World) : (Instr.index 231 (.agg #[.int .i64 31, .int .i64 28, .int .i64 31, .int .i64 30, .int .i64 31, .int .i64 30, .int .i64 31, .int .i64 31, .int .i64 30, .int .i64 31, .int .i64 30, .int .i64 31]) (.int .i64 4)).run Tryz.prog W = .ok (.int .i64 31) W := by kernel_rfl
theorem len_i5 (W : World) : (Instr.index 231 (.agg #[.int .i64 31, .int .i64 28, .int .i64 31, .int .i64 30, .int .i64 31, .int .i64 30, .int .i64 31, .int .i64 31, .int .i64 30, .int .i64 31, .int .i64 30, .int .i64 31]) (.int .i64 5)).run Tryz.prog W = .ok (.int .i64 30) W := by kernel_rfl
theorem len_i6 (W : World) : (Instr.index 231 (.agg #[.int .i64 31, .int .i64 28, .int .i64 31, .int .i64 30, .int .i64 31, .int .i64 30, .int .i64 31, .int .i64 31, .int .i64 30, .int .i64 31, .int .i64 30, .int .i64 31]) (.int .i64 6)).run Tryz.prog W = .ok (.int .i64 31) W := by kernel_rfl
theorem len_i7 (W : World) : (Instr.index 231 (.agg #[.int .i64 31, .int .i64 28, .int .i64 31, .int .i64 30, .int .i64 31, .int .i64 30, .int .i64 31, .int .i64 31, .int .i64 30, .int .i64 31, .int .i64 30, .int .i64 31]) (.int .i64 7)).run Tryz.prog W = .ok (.int .i64 31) W := by kernel_rfl
theorem len_i8 (W : World) : (Instr.index 231 (.agg #[.int .i64 31, .int .i64 28, .int .i64 31, .int .i64 30, .int .i64 31, .int .i64 30, .int .i64 31, .int .i64 31, .int .i64 30, .int .i64 31, .int .i64 30, .int .i64 31]) (.int .i64 8)).run Tryz.prog W = .ok (.int .i64 30) W := by kernel_rfl
theorem len_i9 (W : World) : (Instr.index 231 (.agg #[.int .i64 31, .int .i64 28, .int .i64 31, .int .i64 30, .int .i64 31, .int .i64 30, .int .i64 31, .int .i64 31, .int .i64 30, .int .i64 31, .int .i64 30, .int .i64 31]) (.int .i64 9)).run Tryz.prog W = .ok (.int .i64 31) W := by kernel_rfl
theorem len_i10 (W : World) : (Instr.index 231 (.agg #[.int .i64 31, .int .i64 28, .int .i64 31, .int .i64 30, .int .i64 31, .int .i64 30, .int .i64 31, .int .i64 31, .int .i64 30, .int .i64 31, .int .i64 30, .int .i64 31]) (.int .i64 10)).run Tryz.prog W = .ok (.int .i64 30) W := by kernel_rfl
theorem len_i11 (W : World) : (Instr.index 231 (.agg #[.int .i64 31, .int .i64 28, .int .i64 31, .int .i64 30, .int .i64 31, .int .i64 30, .int .i64 31, .int .i64 31, .int .i64 30, .int .i64 31, .int .i64 30, .int .i64 31]) (.int .i64 11)).run Tryz.prog W = .ok (.int .i64 31) W := by kernel_rfl
set_option maxRecDepth 100000 in
set_option maxHeartbeats 4000000 in
theorem length_any (m : Int) (h1 : 1 ≤ m) (h2 : m ≤ 12) (w : World) :
  Calls Tryz.prog 217 #[.int .i64 2000, .int .i64 m] w fun e w' => e = .returned (.int .i64 (lenM m)) ∧ w' = w := by
 have hy : Hid (Calls Tryz.prog 237 #[.int .i64 2000] w fun e w' => e = .returned (.bool true) ∧ w' = w) := Lib.hid (year_any 2000 w)
 have hL := Lib.hid (leap_any w)
 rcases (by omega : m = 1 ∨ m = 2 ∨ m = 3 ∨ m = 4 ∨ m = 5 ∨ m = 6 ∨ m = 7 ∨ m = 8 ∨ m = 9 ∨ m = 10 ∨ m = 11 ∨ m = 12) with rfl | rfl | rfl | rfl | rfl | rfl | rfl | rfl | rfl | rfl | rfl | rfl
 all_goals go_enter Tryz.func217, Tryz.ntmps217
 all_goals have i0 := len_i0
 all_goals have i2 := len_i2
 all_goals have i3 := len_i3
 all_goals have i4 := len_i4
 all_goals have i5 := len_i5
 all_goals have i6 := len_i6
 all_goals have i7 := len_i7
 all_goals have i8 := len_i8
 all_goals have i9 := len_i9
 all_goals have i10 := len_i10
 all_goals have i11 := len_i11
 all_goals go_wp2_with (first | (go_at_call 237; refine hy.out.mono ?_; rintro e w' ⟨rfl, rfl⟩) | (go_at_call 238; refine hL.out.mono ?_; rintro e w' ⟨rfl, rfl⟩) | fail)
 all_goals go_ret
 all_goals exact ⟨rfl, rfl⟩
theorem leap02_any (w : World) :
  Calls Tryz.prog 229 #[.int .i64 2000] w fun e w' => e = .returned (.bool true) ∧ w' = w := by
 go_enter Tryz.func229, Tryz.ntmps229
 go_wp2
 all_goals go_ret
 all_goals exact ⟨rfl, rfl⟩
set_option maxRecDepth 100000 in
set_option maxHeartbeats 4000000 in
theorem length02_any (m : Int) (h1 : 1 ≤ m) (h2 : m ≤ 12) (w : World) :
  Calls Tryz.prog 201 #[.int .i64 2000, .int .i64 m] w fun e w' => e = .returned (.int .i64 (lenM m)) ∧ w' = w := by
 have hL := Lib.hid (leap02_any w)
 rcases (by omega : m = 1 ∨ m = 2 ∨ m = 3 ∨ m = 4 ∨ m = 5 ∨ m = 6 ∨ m = 7 ∨ m = 8 ∨ m = 9 ∨ m = 10 ∨ m = 11 ∨ m = 12) with rfl | rfl | rfl | rfl | rfl | rfl | rfl | rfl | rfl | rfl | rfl | rfl
 all_goals go_enter Tryz.func201, Tryz.ntmps201
 all_goals go_wp2_with (first | (go_at_call 229; refine hL.out.mono ?_; rintro e w' ⟨rfl, rfl⟩) | fail)
 all_goals go_ret
 all_goals exact ⟨rfl, rfl⟩
set_option maxRecDepth 100000 in
theorem fits_any (o : OnT) (m : Int) (h1 : 1 ≤ m) (h2 : m ≤ 12) (w : World) :
  Calls Tryz.prog 182 #[onV o, .int .i64 m] w fun e w' => e = .returned (.bool (fitsB o m)) ∧ Below w.heap.size w w' := by
 obtain ⟨k, v, d⟩ := o
 have HL := Lib.hid (length_any m h1 h2)
 unfold onV
 simp only
 obtain ⟨O, hO⟩ : ∃ O : Obj, (.cells #[.int .i64 k, .int .i64 v, .int .i64 d] 39) = O := ⟨_, rfl⟩
 have HB : Hid (Below w.heap.size w (w.alloc O)) := Lib.hid below_box
 go_enter Tryz.func182, Tryz.ntmps182
 go_upto_region 1 with fail
 try rw [hO]
 have c2 : (w.alloc O).cell? ⟨w.heap.size, 2, none⟩ = some (.int .i64 d) := by rw [← hO]; simp [go_sem]
 clear hO
 generalize w.alloc O = X at *
 have c2d : X.drew.cell? ⟨w.heap.size, 2, none⟩ = some (.int .i64 d) := c2
 go_quiet ((go_at_call 217; refine Calls.quiet_of_same (HL.out _)))
 go_wp2_with fail
 go_ret
 exact ⟨rfl, below_drewN HB.out _⟩
end Go.Proofs.YtlbglinpgjlbkaaGreatDoor
namespace Go.Proofs.YtlbglinpgjlbkaaGreatDoor
open Go.RowKit Wk

def Cls (W : World) (b : Nat) (l : List Value) : Prop := ∀ j u, l[j]? = some u → W.cell? ⟨b, j, none⟩ = some u
theorem Cls.at {W X : World} {b : Nat} {l : List Value} (h : Cls W b l) (hb : Below W.heap.size W X) {j : Nat} {u : Value} (hu : l[j]? = some u) : X.cell? ⟨b, j, none⟩ = some u := keepCell hb (h j u hu)
theorem Cls.new (w : World) (l : List Value) (T : TypeId) : Cls (w.alloc (.cells l.toArray T)) w.heap.size l := fun j u hu => by
 rw [World.cell?_alloc_new]
 simpa using hu
theorem CallsB.mono {P : Program} {f : FuncId} {args : Array Value} {E : Ending} {X : World} (h : ∀ w', Below X.heap.size X w' → Calls P f args w' fun e w'' => e = E ∧ Below X.heap.size X w'') (w' : World) (hb : Below X.heap.size X w') : Calls P f args w' fun e w'' => e = E ∧ Below X.heap.size X w'' := h w' hb
def flRu (r : RuT) : List Value := [.string ⟨r.nm.toArray⟩, .int .i64 r.fr, .int .i64 r.to, .int .i64 r.mo, .int .i64 r.on.k, .int .i64 r.on.w, .int .i64 r.on.d, .int .i64 r.at_, .int .i64 r.ck, .int .i64 r.sv, .string ⟨r.le.toArray⟩]
def flLi (l : LiT) : List Value := [.int .i64 l.of_, .string ⟨l.ru.toArray⟩, .int .i64 l.sv, .string ⟨l.fm.toArray⟩, .bool l.la, .int .i64 l.un.yr, .int .i64 l.un.mo, .int .i64 l.un.on.k, .int .i64 l.un.on.w, .int .i64 l.un.on.d, .int .i64 l.un.at_, .int .i64 l.un.ck]
def ruV (r : RuT) : Value := .agg (flRu r).toArray
def liV (l : LiT) : Value := .agg (flLi l).toArray
set_option maxRecDepth 100000 in
set_option maxHeartbeats 4000000 in
theorem moment_any (m : Int) (o : OnT) (a c : Int) (w : World) :
  Calls Tryz.prog 139 #[.int .i64 m, onV o, .int .i64 a, .int .i64 c] w fun e w' => e = .returned (.bool (momB m o a c)) ∧ Below w.heap.size w w' := by
 obtain ⟨r, hr⟩ : ∃ r, momB m o a c = r := ⟨_, rfl⟩
 rw [hr]
 unfold momB at hr
 obtain ⟨q1, hq1⟩ : ∃ q, onB o = q := ⟨_, rfl⟩
 obtain ⟨q2, hq2⟩ : ∃ q, fitsB o m = q := ⟨_, rfl⟩
 rw [hq1, hq2] at hr
 have HR := Lib.hid hr
 clear hr
 obtain ⟨k, v, d⟩ := o
 obtain ⟨L, hL⟩ : ∃ L : List Value, [.int .i64 k, .int .i64 v, .int .i64 d] = L := ⟨_, rfl⟩
 obtain ⟨X, hX⟩ : ∃ X, w.alloc (.cells L.toArray 39) = X := ⟨_, rfl⟩
 have hXX : w.alloc (.cells #[.int .i64 k, .int .i64 v, .int .i64 d] 39) = X := by rw [← hX, ← hL]
 have HC : Hid (Cls X w.heap.size L) := Lib.hid (by rw [← hX]; exact Cls.new w L _)
 have HBX : Hid (Below w.heap.size w X) := Lib.hid (by rw [← hX]; exact below_box)
 have HV : Hid (∀ w', Below X.heap.size X w' → Calls Tryz.prog 95 #[.agg #[.int .i64 k, .int .i64 v, .int .i64 d]] w' fun e w'' => e = .returned (.bool q1) ∧ Below X.heap.size X w'') := Lib.hid (by rw [← hq1]; exact callsB (validOn_any ⟨k, v, d⟩))
 have HF : Hid (1 ≤ m → m ≤ 12 → ∀ w', Below X.heap.size X w' → Calls Tryz.prog 182 #[.agg #[.int .i64 k, .int .i64 v, .int .i64 d], .int .i64 m] w' fun e w'' => e = .returned (.bool q2) ∧ Below X.heap.size X w'') := Lib.hid (fun h1 h2 => by rw [← hq2]; exact callsB (fits_any ⟨k, v, d⟩ m h1 h2))
 have HLc := Lib.hid hL
 clear hq1 hq2
 unfold onV
 simp only
 go_enter Tryz.func139, Tryz.ntmps139
 go_upto_region 1 with fail
 try rw [hXX]
 have hb : Below X.heap.size X X := Below.refl _ _
 have c0 := Cls.at HC.out hb (j := 0) (u := .int .i64 k) (by rw [← HLc.out]; rfl); have c1 := Cls.at HC.out hb (j := 1) (u := .int .i64 v) (by rw [← HLc.out]; rfl); have c2 := Cls.at HC.out hb (j := 2) (u := .int .i64 d) (by rw [← HLc.out]; rfl); clear hL hX hXX
 by_cases hm : 1 ≤ m ∧ m ≤ 12
 ·have m1 := hm.1
  have m2 := hm.2
  have HF2 := Lib.hid (HF.out m1 m2)
  clear HF hm
  go_wp2_with (first | (go_at_call 95; refine (HV.out _ (by assumption)).mono ?_; rintro e w' ⟨rfl, hb⟩; have c0 := Cls.at HC.out hb (j := 0) (u := .int .i64 k) (by rw [← HLc.out]; rfl); have c1 := Cls.at HC.out hb (j := 1) (u := .int .i64 v) (by rw [← HLc.out]; rfl); have c2 := Cls.at HC.out hb (j := 2) (u := .int .i64 d) (by rw [← HLc.out]; rfl); skip) | (go_at_call 182; refine (HF2.out _ (by assumption)).mono ?_; rintro e w' ⟨rfl, hb⟩; skip) | fail)
  all_goals go_ret
  all_goals refine ⟨ret_bool ?_, by first | exact keepBelow HBX.out (by assumption) | exact HBX.out⟩
  all_goals rw [← HR.out]
  all_goals clear HR HV HF2 HC HLc
  all_goals cases q1 <;> cases q2 <;> first | rfl | contradiction | (simp; omega) | (simp; done) | (trace_state; fail)
 ·clear HF HV
  go_wp2_with fail
  all_goals go_ret
  all_goals refine ⟨ret_bool ?_, by first | exact keepBelow HBX.out (by assumption) | exact HBX.out⟩
  all_goals rw [← HR.out]
  all_goals clear HR HC HLc
  all_goals cases q1 <;> cases q2 <;> first | rfl | contradiction | (simp; omega) | (simp; done) | (trace_state; fail)
set_option maxRecDepth 100000 in
set_option maxHeartbeats 4000000 in
theorem fits19_any (m : Int) (o : OnT) (w : World) :
  Calls Tryz.prog 169 #[.int .i64 m, onV o] w fun e w' => e = .returned (.bool (fitsR m o)) ∧ Below w.heap.size w w' := by
 obtain ⟨r, hr⟩ : ∃ r, fitsR m o = r := ⟨_, rfl⟩
 rw [hr]
 unfold fitsR at hr
 obtain ⟨q1, hq1⟩ : ∃ q, onB o = q := ⟨_, rfl⟩
 rw [hq1] at hr
 have HR := Lib.hid hr
 clear hr
 obtain ⟨k, v, d⟩ := o
 obtain ⟨L, hL⟩ : ∃ L : List Value, [.int .i64 k, .int .i64 v, .int .i64 d] = L := ⟨_, rfl⟩
 obtain ⟨X, hX⟩ : ∃ X, w.alloc (.cells L.toArray 39) = X := ⟨_, rfl⟩
 have hXX : w.alloc (.cells #[.int .i64 k, .int .i64 v, .int .i64 d] 39) = X := by rw [← hX, ← hL]
 have HC : Hid (Cls X w.heap.size L) := Lib.hid (by rw [← hX]; exact Cls.new w L _)
 have HBX : Hid (Below w.heap.size w X) := Lib.hid (by rw [← hX]; exact below_box)
 have HV := Lib.hid (fun x : Ext X => validOn19_any ⟨k, v, d⟩ (extOf X x))
 rw [hq1] at HV
 have HV2 : Hid (∀ x : Ext X, Calls Tryz.prog 32 #[.agg #[.int .i64 k, .int .i64 v, .int .i64 d]] (extOf X x) fun e w' => e = .returned (.bool q1) ∧ Below (extOf X x).heap.size (extOf X x) w') := HV
 have HF : Hid (1 ≤ m → m ≤ 12 → ∀ x : Ext X, Calls Tryz.prog 201 #[.int .i64 2000, .int .i64 m] (extOf X x) fun e w' => e = .returned (.int .i64 (lenM m)) ∧ extOf X x = w') := Lib.hid (fun h1 h2 x => (length02_any m h1 h2 _).mono fun _ _ ⟨a, b⟩ => ⟨a, b.symm⟩)
 have hc0 := ext_cell (HC.out 0 (.int .i64 k) (by rw [← hL]; rfl))
 have hc1 := ext_cell (HC.out 1 (.int .i64 v) (by rw [← hL]; rfl))
 have hc2 := ext_cell (HC.out 2 (.int .i64 d) (by rw [← hL]; rfl))
 clear hq1 HV
 unfold onV
 simp only
 go_enter Tryz.func169, Tryz.ntmps169
 go_upto_region 1 with fail
 try rw [hXX]
 clear hL hX hXX
 by_cases h1 : 1 ≤ m
 ·have g1 : decide (1 ≤ m) = true := by simpa using h1
  by_cases h2 : m ≤ 12
  ·have g2 : decide (m ≤ 12) = true := by simpa using h2
   have HF2 := Lib.hid (HF.out h1 h2)
   cases q1 with
   | true =>
    refine wp_region_ext (by kernel_rfl) (by kernel_rfl) ?_
    iterate 18 (go_big_quiet_step ((first | (go_at_call 32; refine calls_ext (HV2.out _)) | (go_at_call 201; refine calls_ext_same (HF2.out _)))))
    refine wpQuiet_nil ?_
    intro w1 hb1
    go_wp2
    go_ret
    exact ⟨ret_bool (by rw [← HR.out, g1, g2] <;> rfl), keepBelow HBX.out hb1⟩
   | false =>
    refine wp_region_ext (by kernel_rfl) (by kernel_rfl) ?_
    iterate 18 (go_big_quiet_step ((go_at_call 32; refine calls_ext (HV2.out _))))
    refine wpQuiet_nil ?_
    intro w1 hb1
    go_wp2
    go_ret
    exact ⟨ret_bool (by rw [← HR.out, g1, g2] <;> rfl), keepBelow HBX.out hb1⟩
  ·have g2 : decide (m ≤ 12) = false := by simpa using h2
   refine wp_region_ext (by kernel_rfl) (by kernel_rfl) ?_
   iterate 18 (go_big_quiet_step (fail))
   refine wpQuiet_nil ?_
   intro w1 hb1
   go_wp2
   go_ret
   exact ⟨ret_bool (by rw [← HR.out, g1, g2] <;> rfl), keepBelow HBX.out hb1⟩
 ·have g1 : decide (1 ≤ m) = false := by simpa using h1
  refine wp_region_ext (by kernel_rfl) (by kernel_rfl) ?_
  iterate 18 (go_big_quiet_step (fail))
  refine wpQuiet_nil ?_
  intro w1 hb1
  go_wp2
  go_ret
  exact ⟨ret_bool (by rw [← HR.out, g1] <;> rfl), keepBelow HBX.out hb1⟩
theorem bs_of (s : Bs) : ∃ N : ByteArray, s = bsO N := ⟨⟨s.toArray⟩, rfl⟩
set_option maxRecDepth 100000 in
set_option maxHeartbeats 8000000 in
theorem validRule_any (r : RuT) (hle : r.le.length < 4294967281) (w : World) :
  Calls Tryz.prog 62 #[ruV r] w fun e w' => e = .returned (.bool (ruB r)) ∧ Below w.heap.size w w' := by
 obtain ⟨nm, fr, tu, mo, ⟨k, v, d⟩, at_, ck, sv, le⟩ := r
 obtain ⟨NM, rfl⟩ := bs_of nm
 obtain ⟨LE, rfl⟩ := bs_of le
 simp only [bs_len] at hle
 obtain ⟨r, hr⟩ : ∃ r, ruB ⟨bsO NM, fr, tu, mo, ⟨k, v, d⟩, at_, ck, sv, bsO LE⟩ = r := ⟨_, rfl⟩
 rw [hr]
 unfold ruB at hr
 simp only at hr
 obtain ⟨q1, hq1⟩ : ∃ q, nameB (bsO NM) = q := ⟨_, rfl⟩
 obtain ⟨q2, hq2⟩ : ∃ q, momB mo ⟨k, v, d⟩ at_ ck = q := ⟨_, rfl⟩
 obtain ⟨q3, hq3⟩ : ∃ q, savB sv = q := ⟨_, rfl⟩
 obtain ⟨q4, hq4⟩ : ∃ q, letterB (bsO LE) = q := ⟨_, rfl⟩
 rw [hq1, hq2, hq3, hq4] at hr
 have HR := Lib.hid hr
 clear hr
 obtain ⟨L, hL⟩ : ∃ L : List Value, [.string NM, .int .i64 fr, .int .i64 tu, .int .i64 mo, .int .i64 k, .int .i64 v, .int .i64 d, .int .i64 at_, .int .i64 ck, .int .i64 sv, .string LE] = L := ⟨_, rfl⟩
 obtain ⟨X, hX⟩ : ∃ X, w.alloc (.cells L.toArray 41) = X := ⟨_, rfl⟩
 have hXX : w.alloc (.cells #[.string NM, .int .i64 fr, .int .i64 tu, .int .i64 mo, .int .i64 k, .int .i64 v, .int .i64 d, .int .i64 at_, .int .i64 ck, .int .i64 sv, .string LE] 41) = X := by rw [← hX, ← hL]
 have HC : Hid (Cls X w.heap.size L) := Lib.hid (by rw [← hX]; exact Cls.new w L _)
 have HBX : Hid (Below w.heap.size w X) := Lib.hid (by rw [← hX]; exact below_box)
 have HNM : Hid (∀ w', Below X.heap.size X w' → Calls Tryz.prog 65 #[.string NM] w' fun e w'' => e = .returned (.bool q1) ∧ Below X.heap.size X w'') := Lib.hid (by rw [← hq1]; exact callsS (name_any NM))
 have HMO : Hid (∀ w', Below X.heap.size X w' → Calls Tryz.prog 139 #[.int .i64 mo, .agg #[.int .i64 k, .int .i64 v, .int .i64 d], .int .i64 at_, .int .i64 ck] w' fun e w'' => e = .returned (.bool q2) ∧ Below X.heap.size X w'') := Lib.hid (by rw [← hq2]; exact callsB (moment_any mo ⟨k, v, d⟩ at_ ck))
 have HSV : Hid (∀ w', Below X.heap.size X w' → Calls Tryz.prog 122 #[.int .i64 sv] w' fun e w'' => e = .returned (.bool q3) ∧ Below X.heap.size X w'') := Lib.hid (by rw [← hq3]; exact callsS (isSaving_any sv))
 have HLE : Hid (∀ w', Below X.heap.size X w' → Calls Tryz.prog 124 #[.string LE] w' fun e w'' => e = .returned (.bool q4) ∧ Below X.heap.size X w'') := Lib.hid (by rw [← hq4]; exact callsS (isLetter_any LE hle))
 have HLc := Lib.hid hL
 clear hq1 hq2 hq3 hq4
 show Calls _ _ #[.agg #[.string NM, .int .i64 fr, .int .i64 tu, .int .i64 mo, .int .i64 k, .int .i64 v, .int .i64 d, .int .i64 at_, .int .i64 ck, .int .i64 sv, .string LE]] w _
 go_enter Tryz.func62, Tryz.ntmps62
 go_upto_region 1 with fail
 try rw [hXX]
 have hb : Below X.heap.size X X := Below.refl _ _
 have c0 := Cls.at HC.out hb (j := 0) (u := .string NM) (by rw [← HLc.out]; rfl); have c1 := Cls.at HC.out hb (j := 1) (u := .int .i64 fr) (by rw [← HLc.out]; rfl); have c2 := Cls.at HC.out hb (j := 2) (u := .int .i64 tu) (by rw [← HLc.out]; rfl); have c3 := Cls.at HC.out hb (j := 3) (u := .int .i64 mo) (by rw [← HLc.out]; rfl); have c4 := Cls.at HC.out hb (j := 4) (u := .int .i64 k) (by rw [← HLc.out]; rfl); have c5 := Cls.at HC.out hb (j := 5) (u := .int .i64 v) (by rw [← HLc.out]; rfl); have c6 := Cls.at HC.out hb (j := 6) (u := .int .i64 d) (by rw [← HLc.out]; rfl); have c7 := Cls.at HC.out hb (j := 7) (u := .int .i64 at_) (by rw [← HLc.out]; rfl); have c8 := Cls.at HC.out hb (j := 8) (u := .int .i64 ck) (by rw [← HLc.out]; rfl); have c9 := Cls.at HC.out hb (j := 9) (u := .int .i64 sv) (by rw [← HLc.out]; rfl); have c10 := Cls.at HC.out hb (j := 10) (u := .string LE) (by rw [← HLc.out]; rfl); clear hL hX hXX
 go_wp2_with (first | (go_at_call 65; refine (HNM.out _ (by assumption)).mono ?_; rintro e w' ⟨rfl, hb⟩; have c0 := Cls.at HC.out hb (j := 0) (u := .string NM) (by rw [← HLc.out]; rfl); have c1 := Cls.at HC.out hb (j := 1) (u := .int .i64 fr) (by rw [← HLc.out]; rfl); have c2 := Cls.at HC.out hb (j := 2) (u := .int .i64 tu) (by rw [← HLc.out]; rfl); have c3 := Cls.at HC.out hb (j := 3) (u := .int .i64 mo) (by rw [← HLc.out]; rfl); have c4 := Cls.at HC.out hb (j := 4) (u := .int .i64 k) (by rw [← HLc.out]; rfl); have c5 := Cls.at HC.out hb (j := 5) (u := .int .i64 v) (by rw [← HLc.out]; rfl); have c6 := Cls.at HC.out hb (j := 6) (u := .int .i64 d) (by rw [← HLc.out]; rfl); have c7 := Cls.at HC.out hb (j := 7) (u := .int .i64 at_) (by rw [← HLc.out]; rfl); have c8 := Cls.at HC.out hb (j := 8) (u := .int .i64 ck) (by rw [← HLc.out]; rfl); have c9 := Cls.at HC.out hb (j := 9) (u := .int .i64 sv) (by rw [← HLc.out]; rfl); have c10 := Cls.at HC.out hb (j := 10) (u := .string LE) (by rw [← HLc.out]; rfl); skip) | (go_at_call 139; refine (HMO.out _ (by assumption)).mono ?_; rintro e w' ⟨rfl, hb⟩; have c0 := Cls.at HC.out hb (j := 0) (u := .string NM) (by rw [← HLc.out]; rfl); have c1 := Cls.at HC.out hb (j := 1) (u := .int .i64 fr) (by rw [← HLc.out]; rfl); have c2 := Cls.at HC.out hb (j := 2) (u := .int .i64 tu) (by rw [← HLc.out]; rfl); have c3 := Cls.at HC.out hb (j := 3) (u := .int .i64 mo) (by rw [← HLc.out]; rfl); have c4 := Cls.at HC.out hb (j := 4) (u := .int .i64 k) (by rw [← HLc.out]; rfl); have c5 := Cls.at HC.out hb (j := 5) (u := .int .i64 v) (by rw [← HLc.out]; rfl); have c6 := Cls.at HC.out hb (j := 6) (u := .int .i64 d) (by rw [← HLc.out]; rfl); have c7 := Cls.at HC.out hb (j := 7) (u := .int .i64 at_) (by rw [← HLc.out]; rfl); have c8 := Cls.at HC.out hb (j := 8) (u := .int .i64 ck) (by rw [← HLc.out]; rfl); have c9 := Cls.at HC.out hb (j := 9) (u := .int .i64 sv) (by rw [← HLc.out]; rfl); have c10 := Cls.at HC.out hb (j := 10) (u := .string LE) (by rw [← HLc.out]; rfl); skip) | (go_at_call 122; refine (HSV.out _ (by assumption)).mono ?_; rintro e w' ⟨rfl, hb⟩; have c0 := Cls.at HC.out hb (j := 0) (u := .string NM) (by rw [← HLc.out]; rfl); have c1 := Cls.at HC.out hb (j := 1) (u := .int .i64 fr) (by rw [← HLc.out]; rfl); have c2 := Cls.at HC.out hb (j := 2) (u := .int .i64 tu) (by rw [← HLc.out]; rfl); have c3 := Cls.at HC.out hb (j := 3) (u := .int .i64 mo) (by rw [← HLc.out]; rfl); have c4 := Cls.at HC.out hb (j := 4) (u := .int .i64 k) (by rw [← HLc.out]; rfl); have c5 := Cls.at HC.out hb (j := 5) (u := .int .i64 v) (by rw [← HLc.out]; rfl); have c6 := Cls.at HC.out hb (j := 6) (u := .int .i64 d) (by rw [← HLc.out]; rfl); have c7 := Cls.at HC.out hb (j := 7) (u := .int .i64 at_) (by rw [← HLc.out]; rfl); have c8 := Cls.at HC.out hb (j := 8) (u := .int .i64 ck) (by rw [← HLc.out]; rfl); have c9 := Cls.at HC.out hb (j := 9) (u := .int .i64 sv) (by rw [← HLc.out]; rfl); have c10 := Cls.at HC.out hb (j := 10) (u := .string LE) (by rw [← HLc.out]; rfl); skip) | (go_at_call 124; refine (HLE.out _ (by assumption)).mono ?_; rintro e w' ⟨rfl, hb⟩; have c0 := Cls.at HC.out hb (j := 0) (u := .string NM) (by rw [← HLc.out]; rfl); have c1 := Cls.at HC.out hb (j := 1) (u := .int .i64 fr) (by rw [← HLc.out]; rfl); have c2 := Cls.at HC.out hb (j := 2) (u := .int .i64 tu) (by rw [← HLc.out]; rfl); have c3 := Cls.at HC.out hb (j := 3) (u := .int .i64 mo) (by rw [← HLc.out]; rfl); have c4 := Cls.at HC.out hb (j := 4) (u := .int .i64 k) (by rw [← HLc.out]; rfl); have c5 := Cls.at HC.out hb (j := 5) (u := .int .i64 v) (by rw [← HLc.out]; rfl); have c6 := Cls.at HC.out hb (j := 6) (u := .int .i64 d) (by rw [← HLc.out]; rfl); have c7 := Cls.at HC.out hb (j := 7) (u := .int .i64 at_) (by rw [← HLc.out]; rfl); have c8 := Cls.at HC.out hb (j := 8) (u := .int .i64 ck) (by rw [← HLc.out]; rfl); have c9 := Cls.at HC.out hb (j := 9) (u := .int .i64 sv) (by rw [← HLc.out]; rfl); have c10 := Cls.at HC.out hb (j := 10) (u := .string LE) (by rw [← HLc.out]; rfl); skip) | fail)
 all_goals go_ret
 all_goals refine ⟨ret_bool ?_, by first | exact keepBelow HBX.out (by assumption) | exact HBX.out⟩
 all_goals rw [← HR.out]
 all_goals clear HR HNM HMO HSV HLE HC HLc
 all_goals cases q1 <;> cases q2 <;> cases q3 <;> cases q4 <;> first | rfl | contradiction | (simp; omega) | (simp; done) | (trace_state; fail)
set_option maxRecDepth 100000 in
set_option maxHeartbeats 8000000 in
theorem validRule19_any (r : RuT) (hle : r.le.length < 4294967281) (w : World) :
  Calls Tryz.prog 107 #[ruV r] w fun e w' => e = .returned (.bool (ruB r)) ∧ Below w.heap.size w w' := by
 obtain ⟨nm, fr, tu, mo, ⟨k, v, d⟩, at_, ck, sv, le⟩ := r
 obtain ⟨NM, rfl⟩ := bs_of nm
 obtain ⟨LE, rfl⟩ := bs_of le
 simp only [bs_len] at hle
 obtain ⟨r, hr⟩ : ∃ r, ruB ⟨bsO NM, fr, tu, mo, ⟨k, v, d⟩, at_, ck, sv, bsO LE⟩ = r := ⟨_, rfl⟩
 rw [hr]
 unfold ruB at hr
 simp only at hr
 obtain ⟨q1, hq1⟩ : ∃ q, nameB (bsO NM) = q := ⟨_, rfl⟩
 have hmo : momB mo ⟨k, v, d⟩ at_ ck = (fitsR mo ⟨k, v, d⟩ && decide (0 ≤ at_ ∧ at_ ≤ 93600 ∧ 1 ≤ ck ∧ ck ≤ 3)) := by
  unfold momB fitsR fitsB
  cases onB ⟨k, v, d⟩ <;> simp [Bool.decide_and, Bool.and_assoc]
 rw [hmo] at hr
 clear hmo
 obtain ⟨q2, hq2⟩ : ∃ q, fitsR mo ⟨k, v, d⟩ = q := ⟨_, rfl⟩
 obtain ⟨q5, hq5⟩ : ∃ q, decide (0 ≤ at_ ∧ at_ ≤ 93600 ∧ 1 ≤ ck ∧ ck ≤ 3) = q := ⟨_, rfl⟩
 rw [hq5] at hr
 obtain ⟨q3, hq3⟩ : ∃ q, savB sv = q := ⟨_, rfl⟩
 obtain ⟨q4, hq4⟩ : ∃ q, letterB (bsO LE) = q := ⟨_, rfl⟩
 rw [hq1, hq2, hq3, hq4] at hr
 have HR := Lib.hid hr
 clear hr
 obtain ⟨L, hL⟩ : ∃ L : List Value, [.string NM, .int .i64 fr, .int .i64 tu, .int .i64 mo, .int .i64 k, .int .i64 v, .int .i64 d, .int .i64 at_, .int .i64 ck, .int .i64 sv, .string LE] = L := ⟨_, rfl⟩
 obtain ⟨X, hX⟩ : ∃ X, w.alloc (.cells L.toArray 41) = X := ⟨_, rfl⟩
 have hXX : w.alloc (.cells #[.string NM, .int .i64 fr, .int .i64 tu, .int .i64 mo, .int .i64 k, .int .i64 v, .int .i64 d, .int .i64 at_, .int .i64 ck, .int .i64 sv, .string LE] 41) = X := by rw [← hX, ← hL]
 have HC : Hid (Cls X w.heap.size L) := Lib.hid (by rw [← hX]; exact Cls.new w L _)
 have HBX : Hid (Below w.heap.size w X) := Lib.hid (by rw [← hX]; exact below_box)
 have HNM : Hid (∀ w', Below X.heap.size X w' → Calls Tryz.prog 109 #[.string NM] w' fun e w'' => e = .returned (.bool q1) ∧ Below X.heap.size X w'') := Lib.hid (by rw [← hq1]; exact callsS (name18_any NM))
 have HMO : Hid (∀ w', Below X.heap.size X w' → Calls Tryz.prog 169 #[.int .i64 mo, .agg #[.int .i64 k, .int .i64 v, .int .i64 d]] w' fun e w'' => e = .returned (.bool q2) ∧ Below X.heap.size X w'') := Lib.hid (by rw [← hq2]; exact callsB (fits19_any mo ⟨k, v, d⟩))
 have HCK : Hid (∀ w', Below X.heap.size X w' → Calls Tryz.prog 170 #[.int .i64 at_, .int .i64 ck] w' fun e w'' => e = .returned (.bool q5) ∧ Below X.heap.size X w'') := Lib.hid (by rw [← hq5]; exact callsS (clocked19_any at_ ck))
 have HSV : Hid (∀ w', Below X.heap.size X w' → Calls Tryz.prog 171 #[.int .i64 sv] w' fun e w'' => e = .returned (.bool q3) ∧ Below X.heap.size X w'') := Lib.hid (by rw [← hq3]; exact callsS (saving19_any sv))
 have HLE : Hid (∀ w', Below X.heap.size X w' → Calls Tryz.prog 137 #[.string LE] w' fun e w'' => e = .returned (.bool q4) ∧ Below X.heap.size X w'') := Lib.hid (by rw [← hq4]; exact callsS (letter19_any LE hle))
 have HLc := Lib.hid hL
 clear hq1 hq2 hq3 hq4 hq5
 show Calls _ _ #[.agg #[.string NM, .int .i64 fr, .int .i64 tu, .int .i64 mo, .int .i64 k, .int .i64 v, .int .i64 d, .int .i64 at_, .int .i64 ck, .int .i64 sv, .string LE]] w _
 go_enter Tryz.func107, Tryz.ntmps107
 go_upto_region 1 with fail
 try rw [hXX]
 have hb : Below X.heap.size X X := Below.refl _ _
 have c0 := Cls.at HC.out hb (j := 0) (u := .string NM) (by rw [← HLc.out]; rfl); have c1 := Cls.at HC.out hb (j := 1) (u := .int .i64 fr) (by rw [← HLc.out]; rfl); have c2 := Cls.at HC.out hb (j := 2) (u := .int .i64 tu) (by rw [← HLc.out]; rfl); have c3 := Cls.at HC.out hb (j := 3) (u := .int .i64 mo) (by rw [← HLc.out]; rfl); have c4 := Cls.at HC.out hb (j := 4) (u := .int .i64 k) (by rw [← HLc.out]; rfl); have c5 := Cls.at HC.out hb (j := 5) (u := .int .i64 v) (by rw [← HLc.out]; rfl); have c6 := Cls.at HC.out hb (j := 6) (u := .int .i64 d) (by rw [← HLc.out]; rfl); have c7 := Cls.at HC.out hb (j := 7) (u := .int .i64 at_) (by rw [← HLc.out]; rfl); have c8 := Cls.at HC.out hb (j := 8) (u := .int .i64 ck) (by rw [← HLc.out]; rfl); have c9 := Cls.at HC.out hb (j := 9) (u := .int .i64 sv) (by rw [← HLc.out]; rfl); have c10 := Cls.at HC.out hb (j := 10) (u := .string LE) (by rw [← HLc.out]; rfl); clear hL hX hXX
 go_wp2_with (first | (go_at_call 109; refine (HNM.out _ (by assumption)).mono ?_; rintro e w' ⟨rfl, hb⟩; have c0 := Cls.at HC.out hb (j := 0) (u := .string NM) (by rw [← HLc.out]; rfl); have c1 := Cls.at HC.out hb (j := 1) (u := .int .i64 fr) (by rw [← HLc.out]; rfl); have c2 := Cls.at HC.out hb (j := 2) (u := .int .i64 tu) (by rw [← HLc.out]; rfl); have c3 := Cls.at HC.out hb (j := 3) (u := .int .i64 mo) (by rw [← HLc.out]; rfl); have c4 := Cls.at HC.out hb (j := 4) (u := .int .i64 k) (by rw [← HLc.out]; rfl); have c5 := Cls.at HC.out hb (j := 5) (u := .int .i64 v) (by rw [← HLc.out]; rfl); have c6 := Cls.at HC.out hb (j := 6) (u := .int .i64 d) (by rw [← HLc.out]; rfl); have c7 := Cls.at HC.out hb (j := 7) (u := .int .i64 at_) (by rw [← HLc.out]; rfl); have c8 := Cls.at HC.out hb (j := 8) (u := .int .i64 ck) (by rw [← HLc.out]; rfl); have c9 := Cls.at HC.out hb (j := 9) (u := .int .i64 sv) (by rw [← HLc.out]; rfl); have c10 := Cls.at HC.out hb (j := 10) (u := .string LE) (by rw [← HLc.out]; rfl); skip) | (go_at_call 169; refine (HMO.out _ (by assumption)).mono ?_; rintro e w' ⟨rfl, hb⟩; have c0 := Cls.at HC.out hb (j := 0) (u := .string NM) (by rw [← HLc.out]; rfl); have c1 := Cls.at HC.out hb (j := 1) (u := .int .i64 fr) (by rw [← HLc.out]; rfl); have c2 := Cls.at HC.out hb (j := 2) (u := .int .i64 tu) (by rw [← HLc.out]; rfl); have c3 := Cls.at HC.out hb (j := 3) (u := .int .i64 mo) (by rw [← HLc.out]; rfl); have c4 := Cls.at HC.out hb (j := 4) (u := .int .i64 k) (by rw [← HLc.out]; rfl); have c5 := Cls.at HC.out hb (j := 5) (u := .int .i64 v) (by rw [← HLc.out]; rfl); have c6 := Cls.at HC.out hb (j := 6) (u := .int .i64 d) (by rw [← HLc.out]; rfl); have c7 := Cls.at HC.out hb (j := 7) (u := .int .i64 at_) (by rw [← HLc.out]; rfl); have c8 := Cls.at HC.out hb (j := 8) (u := .int .i64 ck) (by rw [← HLc.out]; rfl); have c9 := Cls.at HC.out hb (j := 9) (u := .int .i64 sv) (by rw [← HLc.out]; rfl); have c10 := Cls.at HC.out hb (j := 10) (u := .string LE) (by rw [← HLc.out]; rfl); skip) | (go_at_call 170; refine (HCK.out _ (by assumption)).mono ?_; rintro e w' ⟨rfl, hb⟩; have c0 := Cls.at HC.out hb (j := 0) (u := .string NM) (by rw [← HLc.out]; rfl); have c1 := Cls.at HC.out hb (j := 1) (u := .int .i64 fr) (by rw [← HLc.out]; rfl); have c2 := Cls.at HC.out hb (j := 2) (u := .int .i64 tu) (by rw [← HLc.out]; rfl); have c3 := Cls.at HC.out hb (j := 3) (u := .int .i64 mo) (by rw [← HLc.out]; rfl); have c4 := Cls.at HC.out hb (j := 4) (u := .int .i64 k) (by rw [← HLc.out]; rfl); have c5 := Cls.at HC.out hb (j := 5) (u := .int .i64 v) (by rw [← HLc.out]; rfl); have c6 := Cls.at HC.out hb (j := 6) (u := .int .i64 d) (by rw [← HLc.out]; rfl); have c7 := Cls.at HC.out hb (j := 7) (u := .int .i64 at_) (by rw [← HLc.out]; rfl); have c8 := Cls.at HC.out hb (j := 8) (u := .int .i64 ck) (by rw [← HLc.out]; rfl); have c9 := Cls.at HC.out hb (j := 9) (u := .int .i64 sv) (by rw [← HLc.out]; rfl); have c10 := Cls.at HC.out hb (j := 10) (u := .string LE) (by rw [← HLc.out]; rfl); skip) | (go_at_call 171; refine (HSV.out _ (by assumption)).mono ?_; rintro e w' ⟨rfl, hb⟩; have c0 := Cls.at HC.out hb (j := 0) (u := .string NM) (by rw [← HLc.out]; rfl); have c1 := Cls.at HC.out hb (j := 1) (u := .int .i64 fr) (by rw [← HLc.out]; rfl); have c2 := Cls.at HC.out hb (j := 2) (u := .int .i64 tu) (by rw [← HLc.out]; rfl); have c3 := Cls.at HC.out hb (j := 3) (u := .int .i64 mo) (by rw [← HLc.out]; rfl); have c4 := Cls.at HC.out hb (j := 4) (u := .int .i64 k) (by rw [← HLc.out]; rfl); have c5 := Cls.at HC.out hb (j := 5) (u := .int .i64 v) (by rw [← HLc.out]; rfl); have c6 := Cls.at HC.out hb (j := 6) (u := .int .i64 d) (by rw [← HLc.out]; rfl); have c7 := Cls.at HC.out hb (j := 7) (u := .int .i64 at_) (by rw [← HLc.out]; rfl); have c8 := Cls.at HC.out hb (j := 8) (u := .int .i64 ck) (by rw [← HLc.out]; rfl); have c9 := Cls.at HC.out hb (j := 9) (u := .int .i64 sv) (by rw [← HLc.out]; rfl); have c10 := Cls.at HC.out hb (j := 10) (u := .string LE) (by rw [← HLc.out]; rfl); skip) | (go_at_call 137; refine (HLE.out _ (by assumption)).mono ?_; rintro e w' ⟨rfl, hb⟩; have c0 := Cls.at HC.out hb (j := 0) (u := .string NM) (by rw [← HLc.out]; rfl); have c1 := Cls.at HC.out hb (j := 1) (u := .int .i64 fr) (by rw [← HLc.out]; rfl); have c2 := Cls.at HC.out hb (j := 2) (u := .int .i64 tu) (by rw [← HLc.out]; rfl); have c3 := Cls.at HC.out hb (j := 3) (u := .int .i64 mo) (by rw [← HLc.out]; rfl); have c4 := Cls.at HC.out hb (j := 4) (u := .int .i64 k) (by rw [← HLc.out]; rfl); have c5 := Cls.at HC.out hb (j := 5) (u := .int .i64 v) (by rw [← HLc.out]; rfl); have c6 := Cls.at HC.out hb (j := 6) (u := .int .i64 d) (by rw [← HLc.out]; rfl); have c7 := Cls.at HC.out hb (j := 7) (u := .int .i64 at_) (by rw [← HLc.out]; rfl); have c8 := Cls.at HC.out hb (j := 8) (u := .int .i64 ck) (by rw [← HLc.out]; rfl); have c9 := Cls.at HC.out hb (j := 9) (u := .int .i64 sv) (by rw [← HLc.out]; rfl); have c10 := Cls.at HC.out hb (j := 10) (u := .string LE) (by rw [← HLc.out]; rfl); skip) | fail)
 all_goals go_ret
 all_goals refine ⟨ret_bool ?_, by first | exact keepBelow HBX.out (by assumption) | exact HBX.out⟩
 all_goals rw [← HR.out]
 all_goals clear HR HNM HMO HSV HLE HC HLc HCK
 all_goals cases q1 <;> cases q2 <;> cases q3 <;> cases q4 <;> cases q5 <;> first | rfl | contradiction | (simp; omega) | (simp; done) | (trace_state; fail)
end Go.Proofs.YtlbglinpgjlbkaaGreatDoor
namespace Go.Proofs.YtlbglinpgjlbkaaGreatDoor
open Go.RowKit Wk

theorem un0_iff (yr mo k v d at_ ck : Int) : decide ((⟨yr, mo, ⟨k, v, d⟩, at_, ck⟩ : UnT) = un0) = (yr == 0 && mo == 0 && k == 0 && v == 0 && d == 0 && at_ == 0 && ck == 0) := by
 rw [Bool.eq_iff_iff]
 simp [un0, on0, and_assoc]
set_option maxRecDepth 100000 in
set_option maxHeartbeats 8000000 in
theorem validLine_any (l : LiT) (hfm : l.fm.length < 4294967281) (w : World) (hg : Glob w) :
  Calls Tryz.prog 140 #[liV l] w fun e w' => e = .returned (.bool (liB l)) ∧ Below w.heap.size w w' := by
 obtain ⟨of, ru, sv, fm, la, ⟨yr, mo, ⟨k, v, d⟩, at_, ck⟩⟩ := l
 obtain ⟨RU, rfl⟩ := bs_of ru
 obtain ⟨FM, rfl⟩ := bs_of fm
 simp only [bs_len] at hfm
 obtain ⟨r, hr⟩ : ∃ r, liB ⟨of, bsO RU, sv, bsO FM, la, ⟨yr, mo, ⟨k, v, d⟩, at_, ck⟩⟩ = r := ⟨_, rfl⟩
 rw [hr]
 unfold liB at hr
 simp only at hr
 rw [un0_iff] at hr
 obtain ⟨qf, hqf⟩ : ∃ q, fmtB (bsO FM) = q := ⟨_, rfl⟩
 obtain ⟨qn, hqn⟩ : ∃ q, nameB (bsO RU) = q := ⟨_, rfl⟩
 obtain ⟨qs, hqs⟩ : ∃ q, savB sv = q := ⟨_, rfl⟩
 obtain ⟨qm, hqm⟩ : ∃ q, momB mo ⟨k, v, d⟩ at_ ck = q := ⟨_, rfl⟩
 rw [hqf, hqn, hqs, hqm] at hr
 have HR := Lib.hid hr
 have HQM := Lib.hid hqm
 have HQS := Lib.hid hqs
 clear hr
 obtain ⟨L, hL⟩ : ∃ L : List Value, [.int .i64 of, .string RU, .int .i64 sv, .string FM, .bool la, .int .i64 yr, .int .i64 mo, .int .i64 k, .int .i64 v, .int .i64 d, .int .i64 at_, .int .i64 ck] = L := ⟨_, rfl⟩
 obtain ⟨X, hX⟩ : ∃ X, w.alloc (.cells L.toArray 102) = X := ⟨_, rfl⟩
 have hXX : w.alloc (.cells #[.int .i64 of, .string RU, .int .i64 sv, .string FM, .bool la, .int .i64 yr, .int .i64 mo, .int .i64 k, .int .i64 v, .int .i64 d, .int .i64 at_, .int .i64 ck] 102) = X := by rw [← hX, ← hL]
 have HC : Hid (Cls X w.heap.size L) := Lib.hid (by rw [← hX]; exact Cls.new w L _)
 have HBX : Hid (Below w.heap.size w X) := Lib.hid (by rw [← hX]; exact below_box)
 have HFM : Hid (∀ w', Below X.heap.size X w' → Calls Tryz.prog 127 #[.string FM] w' fun e w'' => e = .returned (.bool qf) ∧ Below X.heap.size X w'') := Lib.hid (by rw [← hqf]; exact fun w' hb => (isFormat_any FM hfm w' (hg.below (keepBelow HBX.out hb))).mono fun _ _ ⟨h1, h2⟩ => ⟨h1, keepBelow hb h2⟩)
 have HMO : Hid (∀ w', Below X.heap.size X w' → Calls Tryz.prog 139 #[.int .i64 mo, .agg #[.int .i64 k, .int .i64 v, .int .i64 d], .int .i64 at_, .int .i64 ck] w' fun e w'' => e = .returned (.bool qm) ∧ Below X.heap.size X w'') := Lib.hid (by rw [← hqm]; exact callsB (moment_any mo ⟨k, v, d⟩ at_ ck))
 have HFY : Hid (∀ w', Calls Tryz.prog 139 #[.int .i64 mo, .agg #[.int .i64 k, .int .i64 v, .int .i64 d], .int .i64 at_, .int .i64 ck] w' fun e w'' => e = .returned (.bool qm) ∧ Below w'.heap.size w' w'') := Lib.hid (by rw [← hqm]; exact moment_any mo ⟨k, v, d⟩ at_ ck)
 have HNM : Hid (∀ w', Below X.heap.size X w' → Calls Tryz.prog 65 #[.string RU] w' fun e w'' => e = .returned (.bool qn) ∧ Below X.heap.size X w'') := Lib.hid (by rw [← hqn]; exact callsS (name_any RU))
 have HSV : Hid (∀ w', Below X.heap.size X w' → Calls Tryz.prog 122 #[.int .i64 sv] w' fun e w'' => e = .returned (.bool qs) ∧ Below X.heap.size X w'') := Lib.hid (by rw [← hqs]; exact callsS (isSaving_any sv))
 have HLc := Lib.hid hL
 clear hqf hqn hqs hqm
 show Calls _ _ #[.agg #[.int .i64 of, .string RU, .int .i64 sv, .string FM, .bool la, .int .i64 yr, .int .i64 mo, .int .i64 k, .int .i64 v, .int .i64 d, .int .i64 at_, .int .i64 ck]] w _
 go_enter Tryz.func140, Tryz.ntmps140
 go_upto_region 1 with fail
 try rw [hXX]
 have hb : Below X.heap.size X X := Below.refl _ _
 have c0 := Cls.at HC.out hb (j := 0) (u := .int .i64 of) (by rw [← HLc.out]; rfl); have c1 := Cls.at HC.out hb (j := 1) (u := .string RU) (by rw [← HLc.out]; rfl); have c2 := Cls.at HC.out hb (j := 2) (u := .int .i64 sv) (by rw [← HLc.out]; rfl); have c3 := Cls.at HC.out hb (j := 3) (u := .string FM) (by rw [← HLc.out]; rfl); have c4 := Cls.at HC.out hb (j := 4) (u := .bool la) (by rw [← HLc.out]; rfl); have c5 := Cls.at HC.out hb (j := 5) (u := .int .i64 yr) (by rw [← HLc.out]; rfl); have c6 := Cls.at HC.out hb (j := 6) (u := .int .i64 mo) (by rw [← HLc.out]; rfl); have c7 := Cls.at HC.out hb (j := 7) (u := .int .i64 k) (by rw [← HLc.out]; rfl); have c8 := Cls.at HC.out hb (j := 8) (u := .int .i64 v) (by rw [← HLc.out]; rfl); have c9 := Cls.at HC.out hb (j := 9) (u := .int .i64 d) (by rw [← HLc.out]; rfl); have c10 := Cls.at HC.out hb (j := 10) (u := .int .i64 at_) (by rw [← HLc.out]; rfl); have c11 := Cls.at HC.out hb (j := 11) (u := .int .i64 ck) (by rw [← HLc.out]; rfl); clear hL hX hXX
 obtain ⟨b1, hb1⟩ : ∃ b, (!(decide (-57600 ≤ of) && decide (of ≤ 57600) && qf)) = b := ⟨_, rfl⟩
 have HB1 := Lib.hid hb1
 clear hb1
 go_cut [17] (fun u wx => u = .bool b1 ∧ Hid (Below X.heap.size X wx))
 case first =>
  go_wp2_with (first | (go_at_call 127; refine (HFM.out _ (by assumption)).mono ?_; rintro e w' ⟨rfl, hb⟩; skip) | fail)
  all_goals go_meet
  all_goals (case rel =>
   refine ⟨?_, by assumption⟩
   congr 1
   rw [← HB1.out]
   clear HB1 HR HQM
   cases qf <;> first | rfl | contradiction | (simp; omega) | (simp; done) | (rw [Bool.eq_iff_iff]; simp; omega) | (rw [Bool.eq_iff_iff]; simp; done))
 case rest =>
 obtain ⟨rfl, HBc⟩ := hcut
 generalize wc = W1 at *
 clear hb
 have hb := HBc.out
 clear HFM c0 c1 c2 c3 c4 c5 c6 c7 c8 c9 c10 c11
 cases b1 with
 | true =>
  go_wp2_with fail
  go_ret
  refine ⟨ret_bool ?_, keepBelow HBX.out HBc.out⟩
  rw [← HR.out]
  have := HB1.out
  rw [Bool.not_eq_true'] at this
  rw [this]
  rfl
 | false =>
 have c0 := Cls.at HC.out hb (j := 0) (u := .int .i64 of) (by rw [← HLc.out]; rfl); have c1 := Cls.at HC.out hb (j := 1) (u := .string RU) (by rw [← HLc.out]; rfl); have c2 := Cls.at HC.out hb (j := 2) (u := .int .i64 sv) (by rw [← HLc.out]; rfl); have c3 := Cls.at HC.out hb (j := 3) (u := .string FM) (by rw [← HLc.out]; rfl); have c4 := Cls.at HC.out hb (j := 4) (u := .bool la) (by rw [← HLc.out]; rfl); have c5 := Cls.at HC.out hb (j := 5) (u := .int .i64 yr) (by rw [← HLc.out]; rfl); have c6 := Cls.at HC.out hb (j := 6) (u := .int .i64 mo) (by rw [← HLc.out]; rfl); have c7 := Cls.at HC.out hb (j := 7) (u := .int .i64 k) (by rw [← HLc.out]; rfl); have c8 := Cls.at HC.out hb (j := 8) (u := .int .i64 v) (by rw [← HLc.out]; rfl); have c9 := Cls.at HC.out hb (j := 9) (u := .int .i64 d) (by rw [← HLc.out]; rfl); have c10 := Cls.at HC.out hb (j := 10) (u := .int .i64 at_) (by rw [← HLc.out]; rfl); have c11 := Cls.at HC.out hb (j := 11) (u := .int .i64 ck) (by rw [← HLc.out]; rfl); skip
 obtain ⟨b3, hb3⟩ : ∃ b, (!((if bsO RU = [] then true else qn && sv == 0) && qs)) = b := ⟨_, rfl⟩
 have HB3 := Lib.hid hb3
 clear hb3
 go_upto_region 3 with fail
 go_cut [37] (fun u wx => u = .bool b3 ∧ Hid (Below X.heap.size X wx))
 case first =>
  by_cases hz : RU.size = 0
  ·have g1 : RU.toList.isEmpty = true := by rw [(toList_nil RU).2 hz]; rfl
   have HE : Hid (bsO RU = []) := Lib.hid (List.eq_nil_of_length_eq_zero (by rw [bs_len]; exact hz))
   go_wp2_with (first | (go_at_call 65; refine (HNM.out _ (by assumption)).mono ?_; rintro e w' ⟨rfl, hb⟩; have c2 := Cls.at HC.out hb (j := 2) (u := .int .i64 sv) (by rw [← HLc.out]; rfl); skip) | (go_at_call 122; refine (HSV.out _ (by assumption)).mono ?_; rintro e w' ⟨rfl, hb⟩; skip) | fail)
   all_goals go_meet
   all_goals (case rel =>
    refine ⟨?_, by assumption⟩
    congr 1
    rw [← HB3.out, if_pos HE.out]
    clear HB3 HR HQM HB1 HE
    cases qs <;> first | rfl | contradiction | (simp; omega) | (simp; done) | (rw [Bool.eq_iff_iff]; simp; omega) | (rw [Bool.eq_iff_iff]; simp; done))
  ·have g1 : RU.toList.isEmpty = false := by
    have : ¬RU.toList = [] := fun q => hz ((toList_nil RU).1 q)
    simpa using this
   have HE : Hid (¬bsO RU = []) := Lib.hid (fun q => hz (by rw [← bs_len, q]; rfl))
   cases qn with
   | false =>
    go_wp2_with (first | (go_at_call 65; refine (HNM.out _ (by assumption)).mono ?_; rintro e w' ⟨rfl, hb⟩; have c2 := Cls.at HC.out hb (j := 2) (u := .int .i64 sv) (by rw [← HLc.out]; rfl); skip) | fail)
    all_goals go_meet
    all_goals (case rel =>
     refine ⟨?_, by assumption⟩
     congr 1
     rw [← HB3.out, if_neg HE.out]
     rfl)
   | true =>
    by_cases hsv : sv = 0
    ·have gsv : (sv != 0) = false := by rw [hsv]; rfl
     have gsw : (sv == 0) = true := by rw [hsv]; rfl
     clear hsv
     cases qs with
     | false =>
      go_wp2_with (first | (go_at_call 65; refine (HNM.out _ (by assumption)).mono ?_; rintro e w' ⟨rfl, hb⟩; have c2 := Cls.at HC.out hb (j := 2) (u := .int .i64 sv) (by rw [← HLc.out]; rfl); skip) | (go_at_call 122; refine (HSV.out _ (by assumption)).mono ?_; rintro e w' ⟨rfl, hb⟩; skip) | fail)
      all_goals go_meet
      all_goals (case rel =>
       refine ⟨?_, by assumption⟩
       congr 1
       rw [← HB3.out, if_neg HE.out, Bool.and_false]
       rfl)
     | true =>
      go_wp2_with (first | (go_at_call 65; refine (HNM.out _ (by assumption)).mono ?_; rintro e w' ⟨rfl, hb⟩; have c2 := Cls.at HC.out hb (j := 2) (u := .int .i64 sv) (by rw [← HLc.out]; rfl); skip) | (go_at_call 122; refine (HSV.out _ (by assumption)).mono ?_; rintro e w' ⟨rfl, hb⟩; skip) | fail)
      all_goals go_meet
      all_goals (case rel =>
       refine ⟨?_, by assumption⟩
       congr 1
       rw [← HB3.out, if_neg HE.out, gsw]
       rfl)
    ·have gsv : (sv != 0) = true := by simpa using hsv
     have gsw : (sv == 0) = false := by simpa using hsv
     clear hsv
     go_wp2_with (first | (go_at_call 65; refine (HNM.out _ (by assumption)).mono ?_; rintro e w' ⟨rfl, hb⟩; have c2 := Cls.at HC.out hb (j := 2) (u := .int .i64 sv) (by rw [← HLc.out]; rfl); skip) | (go_at_call 122; refine (HSV.out _ (by assumption)).mono ?_; rintro e w' ⟨rfl, hb⟩; skip) | fail)
     all_goals go_meet
     all_goals (case rel =>
      refine ⟨?_, by assumption⟩
      congr 1
      rw [← HB3.out, if_neg HE.out, gsw]
      rfl)
 case rest =>
 obtain ⟨rfl, HBd⟩ := hcut
 generalize wc = W2 at *
 clear hb
 have hb := HBd.out
 clear HNM HSV HQS c0 c1 c2 c3 c4 c5 c6 c7 c8 c9 c10 c11
 have HR2 : Hid ((b3 = true → r = false) ∧ (b3 = false → r = if la = true then (yr == 0 && mo == 0 && k == 0 && v == 0 && d == 0 && at_ == 0 && ck == 0) else decide (1 ≤ yr) && decide (yr ≤ 9999) && qm)) := Lib.hid (by
  have h1 := HB1.out
  have h3 := HB3.out
  have hr := HR.out
  rw [Bool.not_eq_false'] at h1
  rw [h1, Bool.true_and] at hr
  generalize (if bsO RU = [] then true else qn && sv == 0) = e at *
  cases b3 with
  | true =>
   rw [Bool.not_eq_true'] at h3
   refine ⟨fun _ => ?_, fun h => (by cases h)⟩
   rw [← hr, h3, Bool.false_and]
  | false =>
   rw [Bool.not_eq_false'] at h3
   refine ⟨fun h => (by cases h), fun _ => ?_⟩
   rw [← hr, h3, Bool.true_and])
 clear HR HB1 HB3
 cases b3 with
 | true =>
  go_wp2_with fail
  go_ret
  exact ⟨ret_bool (HR2.out.1 (by first | rfl | trivial)).symm, keepBelow HBX.out HBd.out⟩
 | false =>
 have c0 := Cls.at HC.out hb (j := 0) (u := .int .i64 of) (by rw [← HLc.out]; rfl); have c1 := Cls.at HC.out hb (j := 1) (u := .string RU) (by rw [← HLc.out]; rfl); have c2 := Cls.at HC.out hb (j := 2) (u := .int .i64 sv) (by rw [← HLc.out]; rfl); have c3 := Cls.at HC.out hb (j := 3) (u := .string FM) (by rw [← HLc.out]; rfl); have c4 := Cls.at HC.out hb (j := 4) (u := .bool la) (by rw [← HLc.out]; rfl); have c5 := Cls.at HC.out hb (j := 5) (u := .int .i64 yr) (by rw [← HLc.out]; rfl); have c6 := Cls.at HC.out hb (j := 6) (u := .int .i64 mo) (by rw [← HLc.out]; rfl); have c7 := Cls.at HC.out hb (j := 7) (u := .int .i64 k) (by rw [← HLc.out]; rfl); have c8 := Cls.at HC.out hb (j := 8) (u := .int .i64 v) (by rw [← HLc.out]; rfl); have c9 := Cls.at HC.out hb (j := 9) (u := .int .i64 d) (by rw [← HLc.out]; rfl); have c10 := Cls.at HC.out hb (j := 10) (u := .int .i64 at_) (by rw [← HLc.out]; rfl); have c11 := Cls.at HC.out hb (j := 11) (u := .int .i64 ck) (by rw [← HLc.out]; rfl); skip
 obtain ⟨bu, hbu⟩ : ∃ bu, W2.heap.size = bu := ⟨_, rfl⟩
 obtain ⟨L2, hL2⟩ : ∃ L : List Value, [.int .i64 yr, .int .i64 mo, .int .i64 k, .int .i64 v, .int .i64 d, .int .i64 at_, .int .i64 ck] = L := ⟨_, rfl⟩
 obtain ⟨Y, hY⟩ : ∃ Y, W2.alloc (.cells L2.toArray 100) = Y := ⟨_, rfl⟩
 have hYY : W2.alloc (.cells #[.int .i64 yr, .int .i64 mo, .int .i64 k, .int .i64 v, .int .i64 d, .int .i64 at_, .int .i64 ck] 100) = Y := by rw [← hY, ← hL2]
 have HCY : Hid (Cls Y bu L2) := Lib.hid (by rw [← hY, ← hbu]; exact Cls.new W2 L2 _)
 have HBY : Hid (Below X.heap.size X Y) := Lib.hid (by rw [← hY]; exact keepBelow HBd.out below_box)
 have HL2 := Lib.hid hL2
 clear hL2
 go_upto_region 6 with fail
 try rw [hbu]
 clear hY hYY hbu hb
 have hb := HBY.out
 have hy : Below Y.heap.size Y Y := Below.refl _ _
 clear c0 c1 c2 c3 c4 c5 c6 c7 c8 c9 c10 c11
 have c4 := Cls.at HC.out hb (j := 4) (u := .bool la) (by rw [← HLc.out]; rfl)
 have u0 := Cls.at HCY.out hy (j := 0) (u := .int .i64 yr) (by rw [← HL2.out]; rfl); have u1 := Cls.at HCY.out hy (j := 1) (u := .int .i64 mo) (by rw [← HL2.out]; rfl); have u2 := Cls.at HCY.out hy (j := 2) (u := .int .i64 k) (by rw [← HL2.out]; rfl); have u3 := Cls.at HCY.out hy (j := 3) (u := .int .i64 v) (by rw [← HL2.out]; rfl); have u4 := Cls.at HCY.out hy (j := 4) (u := .int .i64 d) (by rw [← HL2.out]; rfl); have u5 := Cls.at HCY.out hy (j := 5) (u := .int .i64 at_) (by rw [← HL2.out]; rfl); have u6 := Cls.at HCY.out hy (j := 6) (u := .int .i64 ck) (by rw [← HL2.out]; rfl); skip
 cases la with
 | true =>
  go_wp2_with fail
  all_goals go_ret
  all_goals refine ⟨ret_bool ?_, keepBelow HBX.out HBY.out⟩
  all_goals rw [HR2.out.2 (by first | rfl | trivial), if_pos (by trivial)]
  all_goals clear HR2 HQM
  all_goals first | rfl | (simp; omega) | (simp; done)
 | false =>
  have HMY : Hid (∀ w', Below Y.heap.size Y w' → Calls Tryz.prog 139 #[.int .i64 mo, .agg #[.int .i64 k, .int .i64 v, .int .i64 d], .int .i64 at_, .int .i64 ck] w' fun e w'' => e = .returned (.bool qm) ∧ Below Y.heap.size Y w'') := Lib.hid fun w' hb => (HFY.out w').mono fun _ _ ⟨h1, h2⟩ => ⟨h1, keepBelow hb h2⟩
  clear HMO hb
  go_wp2_with (first | (go_at_call 139; refine (HMY.out _ (by assumption)).mono ?_; rintro e w' ⟨rfl, hb⟩) | fail)
  all_goals go_ret
  all_goals refine ⟨ret_bool ?_, keepBelow (keepBelow HBX.out HBY.out) (by assumption)⟩
  all_goals rw [HR2.out.2 (by first | rfl | trivial), if_neg (by simp)]
  all_goals clear HR2 HQM
  all_goals cases qm <;> first | rfl | contradiction | (simp; omega) | (simp; done)
set_option maxRecDepth 100000 in
set_option maxHeartbeats 8000000 in
theorem line19_any (l : LiT) (hfm : l.fm.length < 4294967281) (w : World) :
  Calls Tryz.prog 172 #[liV l] w fun e w' => e = .returned (.bool (liB l)) ∧ Below w.heap.size w w' := by
 obtain ⟨of, ru, sv, fm, la, ⟨yr, mo, ⟨k, v, d⟩, at_, ck⟩⟩ := l
 obtain ⟨RU, rfl⟩ := bs_of ru
 obtain ⟨FM, rfl⟩ := bs_of fm
 simp only [bs_len] at hfm
 obtain ⟨r, hr⟩ : ∃ r, liB ⟨of, bsO RU, sv, bsO FM, la, ⟨yr, mo, ⟨k, v, d⟩, at_, ck⟩⟩ = r := ⟨_, rfl⟩
 rw [hr]
 unfold liB at hr
 simp only at hr
 rw [un0_iff] at hr
 obtain ⟨qf, hqf⟩ : ∃ q, fmtB (bsO FM) = q := ⟨_, rfl⟩
 obtain ⟨qn, hqn⟩ : ∃ q, nameB (bsO RU) = q := ⟨_, rfl⟩
 obtain ⟨qs, hqs⟩ : ∃ q, savB sv = q := ⟨_, rfl⟩
 obtain ⟨qm, hqm⟩ : ∃ q, momB mo ⟨k, v, d⟩ at_ ck = q := ⟨_, rfl⟩
 rw [hqf, hqn, hqs, hqm] at hr
 have hmo : momB mo ⟨k, v, d⟩ at_ ck = (fitsR mo ⟨k, v, d⟩ && decide (0 ≤ at_ ∧ at_ ≤ 93600 ∧ 1 ≤ ck ∧ ck ≤ 3)) := by
  unfold momB fitsR fitsB
  cases onB ⟨k, v, d⟩ <;> simp [Bool.decide_and, Bool.and_assoc]
 rw [hmo] at hqm
 clear hmo
 obtain ⟨q2, hq2⟩ : ∃ q, fitsR mo ⟨k, v, d⟩ = q := ⟨_, rfl⟩
 obtain ⟨q5, hq5⟩ : ∃ q, decide (0 ≤ at_ ∧ at_ ≤ 93600 ∧ 1 ≤ ck ∧ ck ≤ 3) = q := ⟨_, rfl⟩
 rw [hq2, hq5] at hqm
 have HR := Lib.hid hr
 have HQM := Lib.hid hqm
 have HQS := Lib.hid hqs
 clear hr
 obtain ⟨L, hL⟩ : ∃ L : List Value, [.int .i64 of, .string RU, .int .i64 sv, .string FM, .bool la, .int .i64 yr, .int .i64 mo, .int .i64 k, .int .i64 v, .int .i64 d, .int .i64 at_, .int .i64 ck] = L := ⟨_, rfl⟩
 obtain ⟨X, hX⟩ : ∃ X, w.alloc (.cells L.toArray 102) = X := ⟨_, rfl⟩
 have hXX : w.alloc (.cells #[.int .i64 of, .string RU, .int .i64 sv, .string FM, .bool la, .int .i64 yr, .int .i64 mo, .int .i64 k, .int .i64 v, .int .i64 d, .int .i64 at_, .int .i64 ck] 102) = X := by rw [← hX, ← hL]
 have HC : Hid (Cls X w.heap.size L) := Lib.hid (by rw [← hX]; exact Cls.new w L _)
 have HBX : Hid (Below w.heap.size w X) := Lib.hid (by rw [← hX]; exact below_box)
 have HFM : Hid (∀ w', Below X.heap.size X w' → Calls Tryz.prog 138 #[.string FM] w' fun e w'' => e = .returned (.bool qf) ∧ Below X.heap.size X w'') := Lib.hid (by rw [← hqf]; exact callsB (format19_any FM hfm))
 have HMO : Hid (∀ w', Below X.heap.size X w' → Calls Tryz.prog 169 #[.int .i64 mo, .agg #[.int .i64 k, .int .i64 v, .int .i64 d]] w' fun e w'' => e = .returned (.bool q2) ∧ Below X.heap.size X w'') := Lib.hid (by rw [← hq2]; exact callsB (fits19_any mo ⟨k, v, d⟩))
 have HFY : Hid (∀ w', Calls Tryz.prog 169 #[.int .i64 mo, .agg #[.int .i64 k, .int .i64 v, .int .i64 d]] w' fun e w'' => e = .returned (.bool q2) ∧ Below w'.heap.size w' w'') := Lib.hid (by rw [← hq2]; exact fits19_any mo ⟨k, v, d⟩)
 have HCY2 : Hid (∀ w', Calls Tryz.prog 170 #[.int .i64 at_, .int .i64 ck] w' fun e w'' => e = .returned (.bool q5) ∧ w'' = w') := Lib.hid (by rw [← hq5]; exact clocked19_any at_ ck)
 have HCK : Hid (∀ w', Below X.heap.size X w' → Calls Tryz.prog 170 #[.int .i64 at_, .int .i64 ck] w' fun e w'' => e = .returned (.bool q5) ∧ Below X.heap.size X w'') := Lib.hid (by rw [← hq5]; exact callsS (clocked19_any at_ ck))
 have HNM : Hid (∀ w', Below X.heap.size X w' → Calls Tryz.prog 109 #[.string RU] w' fun e w'' => e = .returned (.bool qn) ∧ Below X.heap.size X w'') := Lib.hid (by rw [← hqn]; exact callsS (name18_any RU))
 have HSV : Hid (∀ w', Below X.heap.size X w' → Calls Tryz.prog 171 #[.int .i64 sv] w' fun e w'' => e = .returned (.bool qs) ∧ Below X.heap.size X w'') := Lib.hid (by rw [← hqs]; exact callsS (saving19_any sv))
 have HLc := Lib.hid hL
 clear hqf hqn hqs hqm hq2 hq5
 show Calls _ _ #[.agg #[.int .i64 of, .string RU, .int .i64 sv, .string FM, .bool la, .int .i64 yr, .int .i64 mo, .int .i64 k, .int .i64 v, .int .i64 d, .int .i64 at_, .int .i64 ck]] w _
 go_enter Tryz.func172, Tryz.ntmps172
 go_upto_region 1 with fail
 try rw [hXX]
 have hb : Below X.heap.size X X := Below.refl _ _
 have c0 := Cls.at HC.out hb (j := 0) (u := .int .i64 of) (by rw [← HLc.out]; rfl); have c1 := Cls.at HC.out hb (j := 1) (u := .string RU) (by rw [← HLc.out]; rfl); have c2 := Cls.at HC.out hb (j := 2) (u := .int .i64 sv) (by rw [← HLc.out]; rfl); have c3 := Cls.at HC.out hb (j := 3) (u := .string FM) (by rw [← HLc.out]; rfl); have c4 := Cls.at HC.out hb (j := 4) (u := .bool la) (by rw [← HLc.out]; rfl); have c5 := Cls.at HC.out hb (j := 5) (u := .int .i64 yr) (by rw [← HLc.out]; rfl); have c6 := Cls.at HC.out hb (j := 6) (u := .int .i64 mo) (by rw [← HLc.out]; rfl); have c7 := Cls.at HC.out hb (j := 7) (u := .int .i64 k) (by rw [← HLc.out]; rfl); have c8 := Cls.at HC.out hb (j := 8) (u := .int .i64 v) (by rw [← HLc.out]; rfl); have c9 := Cls.at HC.out hb (j := 9) (u := .int .i64 d) (by rw [← HLc.out]; rfl); have c10 := Cls.at HC.out hb (j := 10) (u := .int .i64 at_) (by rw [← HLc.out]; rfl); have c11 := Cls.at HC.out hb (j := 11) (u := .int .i64 ck) (by rw [← HLc.out]; rfl); clear hL hX hXX
 obtain ⟨b1, hb1⟩ : ∃ b, (!(decide (-57600 ≤ of) && decide (of ≤ 57600) && qf)) = b := ⟨_, rfl⟩
 have HB1 := Lib.hid hb1
 clear hb1
 go_cut [17] (fun u wx => u = .bool b1 ∧ Hid (Below X.heap.size X wx))
 case first =>
  go_wp2_with (first | (go_at_call 138; refine (HFM.out _ (by assumption)).mono ?_; rintro e w' ⟨rfl, hb⟩; skip) | fail)
  all_goals go_meet
  all_goals (case rel =>
   refine ⟨?_, by assumption⟩
   congr 1
   rw [← HB1.out]
   clear HB1 HR HQM
   cases qf <;> first | rfl | contradiction | (simp; omega) | (simp; done) | (rw [Bool.eq_iff_iff]; simp; omega) | (rw [Bool.eq_iff_iff]; simp; done))
 case rest =>
 obtain ⟨rfl, HBc⟩ := hcut
 generalize wc = W1 at *
 clear hb
 have hb := HBc.out
 clear HFM c0 c1 c2 c3 c4 c5 c6 c7 c8 c9 c10 c11
 cases b1 with
 | true =>
  go_wp2_with fail
  go_ret
  refine ⟨ret_bool ?_, keepBelow HBX.out HBc.out⟩
  rw [← HR.out]
  have := HB1.out
  rw [Bool.not_eq_true'] at this
  rw [this]
  rfl
 | false =>
 have c0 := Cls.at HC.out hb (j := 0) (u := .int .i64 of) (by rw [← HLc.out]; rfl); have c1 := Cls.at HC.out hb (j := 1) (u := .string RU) (by rw [← HLc.out]; rfl); have c2 := Cls.at HC.out hb (j := 2) (u := .int .i64 sv) (by rw [← HLc.out]; rfl); have c3 := Cls.at HC.out hb (j := 3) (u := .string FM) (by rw [← HLc.out]; rfl); have c4 := Cls.at HC.out hb (j := 4) (u := .bool la) (by rw [← HLc.out]; rfl); have c5 := Cls.at HC.out hb (j := 5) (u := .int .i64 yr) (by rw [← HLc.out]; rfl); have c6 := Cls.at HC.out hb (j := 6) (u := .int .i64 mo) (by rw [← HLc.out]; rfl); have c7 := Cls.at HC.out hb (j := 7) (u := .int .i64 k) (by rw [← HLc.out]; rfl); have c8 := Cls.at HC.out hb (j := 8) (u := .int .i64 v) (by rw [← HLc.out]; rfl); have c9 := Cls.at HC.out hb (j := 9) (u := .int .i64 d) (by rw [← HLc.out]; rfl); have c10 := Cls.at HC.out hb (j := 10) (u := .int .i64 at_) (by rw [← HLc.out]; rfl); have c11 := Cls.at HC.out hb (j := 11) (u := .int .i64 ck) (by rw [← HLc.out]; rfl); skip
 obtain ⟨b3, hb3⟩ : ∃ b, (!((if bsO RU = [] then true else qn && sv == 0) && qs)) = b := ⟨_, rfl⟩
 have HB3 := Lib.hid hb3
 clear hb3
 go_upto_region 3 with fail
 go_cut [42] (fun u wx => u = .bool b3 ∧ Hid (Below X.heap.size X wx))
 case first =>
  by_cases hz : RU.size = 0
  ·have g1 : RU.toList.isEmpty = true := by rw [(toList_nil RU).2 hz]; rfl
   have HE : Hid (bsO RU = []) := Lib.hid (List.eq_nil_of_length_eq_zero (by rw [bs_len]; exact hz))
   cases qs with
   | true =>
    go_wp2_with (first | (go_at_call 171; refine (HSV.out _ (by assumption)).mono ?_; rintro e w' ⟨rfl, hb⟩; have c1 := Cls.at HC.out hb (j := 1) (u := .string RU) (by rw [← HLc.out]; rfl); have c2 := Cls.at HC.out hb (j := 2) (u := .int .i64 sv) (by rw [← HLc.out]; rfl); skip) | fail)
    all_goals go_meet
    all_goals (case rel =>
     refine ⟨?_, by assumption⟩
     congr 1
     rw [← HB3.out, if_pos HE.out]
     rfl)
   | false =>
    go_wp2_with (first | (go_at_call 171; refine (HSV.out _ (by assumption)).mono ?_; rintro e w' ⟨rfl, hb⟩; have c1 := Cls.at HC.out hb (j := 1) (u := .string RU) (by rw [← HLc.out]; rfl); have c2 := Cls.at HC.out hb (j := 2) (u := .int .i64 sv) (by rw [← HLc.out]; rfl); skip) | fail)
    all_goals go_meet
    all_goals (case rel =>
     refine ⟨?_, by assumption⟩
     congr 1
     rw [← HB3.out, if_pos HE.out]
     rfl)
  ·have g1 : RU.toList.isEmpty = false := by
    have : ¬RU.toList = [] := fun q => hz ((toList_nil RU).1 q)
    simpa using this
   have HE : Hid (¬bsO RU = []) := Lib.hid (fun q => hz (by rw [← bs_len, q]; rfl))
   by_cases hsv : sv = 0
   ·have gsv : (sv != 0) = false := by rw [hsv]; rfl
    have gsw : (sv == 0) = true := by rw [hsv]; rfl
    have gss : qs = true := by rw [← HQS.out, hsv]; rfl
    have HGS := Lib.hid gss
    clear hsv gss
    cases qn with
    | true =>
     go_wp2_with (first | (go_at_call 109; refine (HNM.out _ (by assumption)).mono ?_; rintro e w' ⟨rfl, hb⟩; skip) | fail)
     all_goals go_meet
     all_goals (case rel =>
      refine ⟨?_, by assumption⟩
      congr 1
      rw [← HB3.out, if_neg HE.out, gsw, HGS.out]
      rfl)
    | false =>
     go_wp2_with (first | (go_at_call 109; refine (HNM.out _ (by assumption)).mono ?_; rintro e w' ⟨rfl, hb⟩; skip) | fail)
     all_goals go_meet
     all_goals (case rel =>
      refine ⟨?_, by assumption⟩
      congr 1
      rw [← HB3.out, if_neg HE.out]
      rfl)
   ·have gsv : (sv != 0) = true := by simpa using hsv
    have gsw : (sv == 0) = false := by simpa using hsv
    clear hsv
    go_wp2_with (first | (go_at_call 109; refine (HNM.out _ (by assumption)).mono ?_; rintro e w' ⟨rfl, hb⟩; skip) | fail)
    all_goals go_meet
    all_goals (case rel =>
     refine ⟨?_, by assumption⟩
     congr 1
     rw [← HB3.out, if_neg HE.out, gsw, Bool.and_false]
     rfl)
 case rest =>
 obtain ⟨rfl, HBd⟩ := hcut
 generalize wc = W2 at *
 clear hb
 have hb := HBd.out
 clear HNM HSV HQS c0 c1 c2 c3 c4 c5 c6 c7 c8 c9 c10 c11
 have HR2 : Hid ((b3 = true → r = false) ∧ (b3 = false → r = if la = true then (yr == 0 && mo == 0 && k == 0 && v == 0 && d == 0 && at_ == 0 && ck == 0) else decide (1 ≤ yr) && decide (yr ≤ 9999) && qm)) := Lib.hid (by
  have h1 := HB1.out
  have h3 := HB3.out
  have hr := HR.out
  rw [Bool.not_eq_false'] at h1
  rw [h1, Bool.true_and] at hr
  generalize (if bsO RU = [] then true else qn && sv == 0) = e at *
  cases b3 with
  | true =>
   rw [Bool.not_eq_true'] at h3
   refine ⟨fun _ => ?_, fun h => (by cases h)⟩
   rw [← hr, h3, Bool.false_and]
  | false =>
   rw [Bool.not_eq_false'] at h3
   refine ⟨fun h => (by cases h), fun _ => ?_⟩
   rw [← hr, h3, Bool.true_and])
 clear HR HB1 HB3
 cases b3 with
 | true =>
  go_wp2_with fail
  go_ret
  exact ⟨ret_bool (HR2.out.1 (by first | rfl | trivial)).symm, keepBelow HBX.out HBd.out⟩
 | false =>
 have c0 := Cls.at HC.out hb (j := 0) (u := .int .i64 of) (by rw [← HLc.out]; rfl); have c1 := Cls.at HC.out hb (j := 1) (u := .string RU) (by rw [← HLc.out]; rfl); have c2 := Cls.at HC.out hb (j := 2) (u := .int .i64 sv) (by rw [← HLc.out]; rfl); have c3 := Cls.at HC.out hb (j := 3) (u := .string FM) (by rw [← HLc.out]; rfl); have c4 := Cls.at HC.out hb (j := 4) (u := .bool la) (by rw [← HLc.out]; rfl); have c5 := Cls.at HC.out hb (j := 5) (u := .int .i64 yr) (by rw [← HLc.out]; rfl); have c6 := Cls.at HC.out hb (j := 6) (u := .int .i64 mo) (by rw [← HLc.out]; rfl); have c7 := Cls.at HC.out hb (j := 7) (u := .int .i64 k) (by rw [← HLc.out]; rfl); have c8 := Cls.at HC.out hb (j := 8) (u := .int .i64 v) (by rw [← HLc.out]; rfl); have c9 := Cls.at HC.out hb (j := 9) (u := .int .i64 d) (by rw [← HLc.out]; rfl); have c10 := Cls.at HC.out hb (j := 10) (u := .int .i64 at_) (by rw [← HLc.out]; rfl); have c11 := Cls.at HC.out hb (j := 11) (u := .int .i64 ck) (by rw [← HLc.out]; rfl); skip
 obtain ⟨bu, hbu⟩ : ∃ bu, W2.heap.size = bu := ⟨_, rfl⟩
 obtain ⟨L2, hL2⟩ : ∃ L : List Value, [.int .i64 yr, .int .i64 mo, .int .i64 k, .int .i64 v, .int .i64 d, .int .i64 at_, .int .i64 ck] = L := ⟨_, rfl⟩
 obtain ⟨Y, hY⟩ : ∃ Y, W2.alloc (.cells L2.toArray 100) = Y := ⟨_, rfl⟩
 have hYY : W2.alloc (.cells #[.int .i64 yr, .int .i64 mo, .int .i64 k, .int .i64 v, .int .i64 d, .int .i64 at_, .int .i64 ck] 100) = Y := by rw [← hY, ← hL2]
 have HCY : Hid (Cls Y bu L2) := Lib.hid (by rw [← hY, ← hbu]; exact Cls.new W2 L2 _)
 have HBY : Hid (Below X.heap.size X Y) := Lib.hid (by rw [← hY]; exact keepBelow HBd.out below_box)
 have HL2 := Lib.hid hL2
 clear hL2
 go_upto_region 6 with fail
 try rw [hbu]
 clear hY hYY hbu hb
 have hb := HBY.out
 have hy : Below Y.heap.size Y Y := Below.refl _ _
 clear c0 c1 c2 c3 c4 c5 c6 c7 c8 c9 c10 c11
 have c4 := Cls.at HC.out hb (j := 4) (u := .bool la) (by rw [← HLc.out]; rfl)
 have u0 := Cls.at HCY.out hy (j := 0) (u := .int .i64 yr) (by rw [← HL2.out]; rfl); have u1 := Cls.at HCY.out hy (j := 1) (u := .int .i64 mo) (by rw [← HL2.out]; rfl); have u2 := Cls.at HCY.out hy (j := 2) (u := .int .i64 k) (by rw [← HL2.out]; rfl); have u3 := Cls.at HCY.out hy (j := 3) (u := .int .i64 v) (by rw [← HL2.out]; rfl); have u4 := Cls.at HCY.out hy (j := 4) (u := .int .i64 d) (by rw [← HL2.out]; rfl); have u5 := Cls.at HCY.out hy (j := 5) (u := .int .i64 at_) (by rw [← HL2.out]; rfl); have u6 := Cls.at HCY.out hy (j := 6) (u := .int .i64 ck) (by rw [← HL2.out]; rfl); skip
 cases la with
 | true =>
  go_wp2_with fail
  all_goals go_ret
  all_goals refine ⟨ret_bool ?_, keepBelow HBX.out HBY.out⟩
  all_goals rw [HR2.out.2 (by first | rfl | trivial), if_pos (by trivial)]
  all_goals clear HR2 HQM
  all_goals first | rfl | (simp; omega) | (simp; done)
 | false =>
  have HMY : Hid (∀ w', Below Y.heap.size Y w' → Calls Tryz.prog 169 #[.int .i64 mo, .agg #[.int .i64 k, .int .i64 v, .int .i64 d]] w' fun e w'' => e = .returned (.bool q2) ∧ Below Y.heap.size Y w'') := Lib.hid fun w' hb => (HFY.out w').mono fun _ _ ⟨h1, h2⟩ => ⟨h1, keepBelow hb h2⟩
  have HCKY : Hid (∀ w', Below Y.heap.size Y w' → Calls Tryz.prog 170 #[.int .i64 at_, .int .i64 ck] w' fun e w'' => e = .returned (.bool q5) ∧ Below Y.heap.size Y w'') := Lib.hid fun w' hb => (HCY2.out w').mono fun _ _ ⟨h1, h2⟩ => ⟨h1, by rw [h2]; exact hb⟩
  clear HMO HCK hb
  go_wp2_with (first | (go_at_call 169; refine (HMY.out _ (by assumption)).mono ?_; rintro e w' ⟨rfl, hb⟩; have u5 := Cls.at HCY.out hb (j := 5) (u := .int .i64 at_) (by rw [← HL2.out]; rfl); have u6 := Cls.at HCY.out hb (j := 6) (u := .int .i64 ck) (by rw [← HL2.out]; rfl); skip) | (go_at_call 170; refine (HCKY.out _ (by assumption)).mono ?_; rintro e w' ⟨rfl, hb⟩) | fail)
  all_goals go_ret
  all_goals refine ⟨ret_bool ?_, keepBelow (keepBelow HBX.out HBY.out) (by assumption)⟩
  all_goals rw [HR2.out.2 (by first | rfl | trivial), if_neg (by simp), ← HQM.out]
  all_goals clear HR2 HQM
  all_goals cases q2 <;> cases q5 <;> first | rfl | contradiction | (simp; omega) | (simp; done)
end Go.Proofs.YtlbglinpgjlbkaaGreatDoor
namespace Go.Proofs.YtlbglinpgjlbkaaGreatDoor
open Go.RowKit Wk

abbrev RdLi (w : World) (v : Value) (l : List LiT) : Prop := RdG 12 flLi li0 w v l
theorem flLi_len (l : LiT) : (flLi l).length = 12 := rfl
theorem flRu_len (l : RuT) : (flRu l).length = 11 := rfl
def ru0 : RuT := ⟨[], 0, 0, 0, on0, 0, 0, 0, []⟩
abbrev RdRu (w : World) (v : Value) (l : List RuT) : Prop := RdG 11 flRu ru0 w v l
def flLk (x : LkT) : List Value := [.string ⟨x.nm.toArray⟩, .string ⟨x.zo.toArray⟩]
theorem flLk_len (l : LkT) : (flLk l).length = 2 := rfl
def lk0 : LkT := ⟨[], []⟩
abbrev RdLk (w : World) (v : Value) (l : List LkT) : Prop := RdG 2 flLk lk0 w v l
abbrev ZkT := ZoT × Value
def zk0 : ZkT := (⟨[], []⟩, nilV)
def flZk (z : ZkT) : List Value := [.string ⟨z.1.nm.toArray⟩, z.2]
theorem flZk_len (l : ZkT) : (flZk l).length = 2 := rfl
structure RdZk (w : World) (v : Value) (L : List ZkT) : Prop where
 row : RdG 2 flZk zk0 w v L
 li : ∀ i, i < L.length → RdLi w (L.getD i zk0).2 (L.getD i zk0).1.li
theorem RdZk.below {w w' : World} {v : Value} {L : List ZkT} (h : RdZk w v L) (hb : Below w.heap.size w w') : RdZk w' v L := ⟨h.row.below hb, fun i hi => (h.li i hi).below hb⟩
structure RdSr (w : World) (rv zv lv : Value) (s : SrT) (Z : List ZkT) : Prop where
 ru : RdRu w rv s.ru
 zo : RdZk w zv Z
 zs : Z.map Prod.fst = s.zo
 lk : RdLk w lv s.lk
theorem RdSr.below {w w' : World} {rv zv lv : Value} {s : SrT} {Z : List ZkT} (h : RdSr w rv zv lv s Z) (hb : Below w.heap.size w w') : RdSr w' rv zv lv s Z := ⟨h.ru.below hb, h.zo.below hb, h.zs, h.lk.below hb⟩
def SzZ (z : ZoT) : Prop := z.nm.length ≤ 4294967280 ∧ ∀ l ∈ z.li, l.ru.length ≤ 4294967280 ∧ l.fm.length ≤ 4294967280
structure SzS (s : SrT) : Prop where
 ru : ∀ r ∈ s.ru, r.nm.length ≤ 4294967280 ∧ r.le.length ≤ 4294967280
 zo : ∀ z ∈ s.zo, SzZ z
 lk : ∀ x ∈ s.lk, x.nm.length ≤ 4294967280 ∧ x.zo.length ≤ 4294967280
def lokB (li : List LiT) (i : Nat) : Bool := liB (li.getD i li0) && (li.getD i li0).la == (i + 1 == li.length)
theorem zoB_eq (nm : Bs) (li : List LiT) : zoB ⟨nm, li⟩ = (nameB nm && decide (1 ≤ li.length) && decide (li.length ≤ 100) && (List.range li.length).all (lokB li)) := rfl
theorem lok_all {li : List LiT} (h : ∀ j, j < li.length → lokB li j = true) : (List.range li.length).all (lokB li) = true := List.all_eq_true.2 fun j hj => h j (List.mem_range.1 hj)
theorem lok_no {li : List LiT} {j : Nat} (hj : j < li.length) (h : lokB li j = false) : (List.range li.length).all (lokB li) = false := List.all_eq_false.2 ⟨j, List.mem_range.2 hj, by rw [h]; simp⟩
theorem lok_next {li : List LiT} {i : Nat} (h : ∀ j, j < i → lokB li j = true) (hi : lokB li i = true) : Hid (∀ j, j < i + 1 → lokB li j = true) := Lib.hid fun j hj => by
 rcases Nat.lt_or_ge j i with g | g
 ·exact h j g
 ·obtain rfl : j = i := by omega
  exact hi
theorem getD_mem {α : Type} {l : List α} {i : Nat} {d : α} (h : i < l.length) : l.getD i d ∈ l := by
 rw [List.getD_eq_getElem?_getD, List.getElem?_eq_getElem h]
 exact List.getElem_mem _
set_option maxRecDepth 100000 in
set_option maxHeartbeats 8000000 in
theorem validZone_any (nm : Bs) (lv : Value) (li : List LiT) (w : World) (hr : RdLi w lv li) (hsz : ∀ l ∈ li, l.ru.length ≤ 4294967280 ∧ l.fm.length ≤ 4294967280) (hg : Glob w) :
  Calls Tryz.prog 63 #[.agg #[.string ⟨nm.toArray⟩, lv]] w fun e w' => e = .returned (.bool (zoB ⟨nm, li⟩)) ∧ Below w.heap.size w w' := by
 obtain ⟨NM, rfl⟩ := bs_of nm
 obtain ⟨r, hr0⟩ : ∃ r, zoB ⟨bsO NM, li⟩ = r := ⟨_, rfl⟩
 rw [hr0]
 rw [zoB_eq] at hr0
 obtain ⟨qn, hqn⟩ : ∃ q, nameB (bsO NM) = q := ⟨_, rfl⟩
 rw [hqn] at hr0
 have HR := Lib.hid hr0
 clear hr0
 have HL := Lib.hid hr
 obtain ⟨al, cl, rfl⟩ := hr.form
 have HSZ := Lib.hid hsz
 obtain ⟨L, hL⟩ : ∃ L : List Value, [.string NM, .slice al li.length cl] = L := ⟨_, rfl⟩
 obtain ⟨X, hX⟩ : ∃ X, w.alloc (.cells L.toArray 45) = X := ⟨_, rfl⟩
 obtain ⟨bz, hbz⟩ : ∃ b, w.heap.size = b := ⟨_, rfl⟩
 have hXX : w.alloc (.cells #[.string NM, .slice al li.length cl] 45) = X := by rw [← hX, ← hL]
 have HC : Hid (Cls X bz L) := Lib.hid (by rw [← hX, ← hbz]; exact Cls.new w L _)
 have HBX : Hid (Below w.heap.size w X) := Lib.hid (by rw [← hX]; exact below_box)
 have HNM : Hid (∀ w', Below X.heap.size X w' → Calls Tryz.prog 65 #[.string NM] w' fun e w'' => e = .returned (.bool qn) ∧ w'' = w') := Lib.hid (by rw [← hqn]; exact fun w' _ => name_any NM w')
 have HLc := Lib.hid hL
 clear hr hsz hqn hL
 show Calls _ _ #[.agg #[.string NM, .slice al li.length cl]] w _
 go_enter Tryz.func63, Tryz.ntmps63
 go_upto_region 1 with fail
 try rw [hXX]
 try rw [hbz]
 have hb : Below X.heap.size X X := Below.refl _ _
 have c0 := Cls.at HC.out hb (j := 0) (u := .string NM) (by rw [← HLc.out]; rfl)
 have c1 := Cls.at HC.out hb (j := 1) (u := .slice al li.length cl) (by rw [← HLc.out]; rfl)
 clear hX hXX hbz
 cases qn with
 | false =>
  go_wp2_with (first | (go_at_call 65; refine (HNM.out _ (by assumption)).mono ?_; rintro e w' ⟨rfl, hw⟩; rw [hw]; clear hw) | fail)
  go_ret
  exact ⟨ret_bool (by rw [← HR.out]; rfl), HBX.out⟩
 | true =>
 by_cases h1 : li.length < 1
 ·have HN : Hid (r = false) := Lib.hid (by rw [← HR.out, decide_eq_false (p := 1 ≤ li.length) (by omega)]; rfl)
  go_wp2_with (first | (go_at_call 65; refine (HNM.out _ (by assumption)).mono ?_; rintro e w' ⟨rfl, hw⟩; rw [hw]; clear hw) | fail)
  go_ret
  exact ⟨ret_bool HN.out.symm, HBX.out⟩
 by_cases h2 : 100 < li.length
 ·have HN : Hid (r = false) := Lib.hid (by rw [← HR.out, decide_eq_false (p := li.length ≤ 100) (by omega), Bool.and_false]; rfl)
  go_wp2_with (first | (go_at_call 65; refine (HNM.out _ (by assumption)).mono ?_; rintro e w' ⟨rfl, hw⟩; rw [hw]; clear hw) | fail)
  go_ret
  exact ⟨ret_bool HN.out.symm, HBX.out⟩
 have HA : Hid ((List.range li.length).all (lokB li) = r) := Lib.hid (by
  have := HR.out
  rw [decide_eq_true (p := 1 ≤ li.length) (by omega), decide_eq_true (p := li.length ≤ 100) (by omega)] at this
  exact this)
 have hl1 : 1 ≤ li.length := by omega
 have hl2 : (li.length : Int) ≤ 100 := by omega
 go_wp2_with (first | (go_at_call 65; refine (HNM.out _ (by assumption)).mono ?_; rintro e w' ⟨rfl, hw⟩; rw [hw]; clear hw) | fail)
 clear HNM hb c0 c1
 go_loopw [3, 4, 24] (fun _ _ u wr => ∃ i : Nat, u = .int .i64 i ∧ i ≤ li.length ∧ Hid (∀ j, j < i → lokB li j = true) ∧ Hid (Below X.heap.size X wr)) (fun _ _ u _ => li.length - (intOf u).toNat)
 case atStart => exact ⟨0, rfl, Nat.zero_le _, fun j h => absurd h (by omega), Below.refl _ _⟩
 case round =>
  obtain ⟨i, rfl, hi, HZ, HB⟩ := hrel
  have hib : (i : Int) ≤ 100 := by omega
  have c1 := Cls.at HC.out HB.out (j := 1) (u := .slice al li.length cl) (by rw [← HLc.out]; rfl)
  by_cases hlt : i < li.length
  ·obtain ⟨x, hx⟩ : ∃ x, li.getD i li0 = x := ⟨_, rfl⟩
   have hxm : x ∈ li := by rw [← hx]; exact getD_mem hlt
   obtain ⟨al', cl', ea, _, hc⟩ := HL.out.below (keepBelow HBX.out HB.out)
   cases ea
   obtain ⟨b, o, rfl, hcc⟩ := hc i hlt
   rw [hx] at hcc
   clear hc
   have HLK : Hid (lokB li i = (liB x && x.la == (i + 1 == li.length))) := Lib.hid (by rw [← hx]; rfl)
   have hfm := (HSZ.out x hxm).2
   have HVL : Hid (∀ w', Below w.heap.size w w' → Calls Tryz.prog 140 #[liV x] w' fun e w'' => e = .returned (.bool (liB x)) ∧ Below w'.heap.size w' w'') := Lib.hid fun w' hb => validLine_any x (by omega) w' (hg.below hb)
   obtain ⟨q, hq⟩ : ∃ q, liB x = q := ⟨_, rfl⟩
   rw [hq] at HVL HLK
   clear hq hx hxm hfm
   obtain ⟨of, ru, sv, fm, la, ⟨yr, mo, ⟨k, v, d⟩, at_, ck⟩⟩ := x
   obtain ⟨RU, rfl⟩ := bs_of ru
   obtain ⟨FM, rfl⟩ := bs_of fm
   have HVL2 : Hid (∀ w', Below w.heap.size w w' → Calls Tryz.prog 140 #[.agg #[.int .i64 of, .string RU, .int .i64 sv, .string FM, .bool la, .int .i64 yr, .int .i64 mo, .int .i64 k, .int .i64 v, .int .i64 d, .int .i64 at_, .int .i64 ck]] w' fun e w'' => e = .returned (.bool q) ∧ Below w'.heap.size w' w'') := HVL
   have HLK2 : Hid (lokB li i = (q && la == (i + 1 == li.length))) := HLK
   clear HVL HLK
   have e0 : wr.cell? ⟨b, o + i * 12, none⟩ = some (.int .i64 of) := hcc 0 _ (by decide) rfl
   have e1 : wr.cell? ⟨b, o + i * 12 + 1, none⟩ = some (.string RU) := hcc 1 _ (by decide) rfl
   have e2 : wr.cell? ⟨b, o + i * 12 + 2, none⟩ = some (.int .i64 sv) := hcc 2 _ (by decide) rfl
   have e3 : wr.cell? ⟨b, o + i * 12 + 3, none⟩ = some (.string FM) := hcc 3 _ (by decide) rfl
   have e4 : wr.cell? ⟨b, o + i * 12 + 4, none⟩ = some (.bool la) := hcc 4 _ (by decide) rfl
   have e5 : wr.cell? ⟨b, o + i * 12 + 5, none⟩ = some (.int .i64 yr) := hcc 5 _ (by decide) rfl
   have e6 : wr.cell? ⟨b, o + i * 12 + 6, none⟩ = some (.int .i64 mo) := hcc 6 _ (by decide) rfl
   have e7 : wr.cell? ⟨b, o + i * 12 + 7, none⟩ = some (.int .i64 k) := hcc 7 _ (by decide) rfl
   have e8 : wr.cell? ⟨b, o + i * 12 + 8, none⟩ = some (.int .i64 v) := hcc 8 _ (by decide) rfl
   have e9 : wr.cell? ⟨b, o + i * 12 + 9, none⟩ = some (.int .i64 d) := hcc 9 _ (by decide) rfl
   have e10 : wr.cell? ⟨b, o + i * 12 + 10, none⟩ = some (.int .i64 at_) := hcc 10 _ (by decide) rfl
   have e11 : wr.cell? ⟨b, o + i * 12 + 11, none⟩ = some (.int .i64 ck) := hcc 11 _ (by decide) rfl
   clear hcc
   obtain ⟨bl, hbl⟩ : ∃ b, wr.heap.size = b := ⟨_, rfl⟩
   obtain ⟨L2, hL2⟩ : ∃ L : List Value, [.int .i64 of, .string RU, .int .i64 sv, .string FM, .bool la, .int .i64 yr, .int .i64 mo, .int .i64 k, .int .i64 v, .int .i64 d, .int .i64 at_, .int .i64 ck] = L := ⟨_, rfl⟩
   obtain ⟨Y, hY⟩ : ∃ Y, wr.alloc (.cells L2.toArray 102) = Y := ⟨_, rfl⟩
   have hYY : wr.alloc (.cells #[.int .i64 of, .string RU, .int .i64 sv, .string FM, .bool la, .int .i64 yr, .int .i64 mo, .int .i64 k, .int .i64 v, .int .i64 d, .int .i64 at_, .int .i64 ck] 102) = Y := by rw [← hY, ← hL2]
   have HCY : Hid (Cls Y bl L2) := Lib.hid (by rw [← hY, ← hbl]; exact Cls.new wr L2 _)
   have HBY : Hid (Below X.heap.size X Y) := Lib.hid (by rw [← hY]; exact keepBelow HB.out below_box)
   have HL2 := Lib.hid hL2
   clear hL2 c1
   go_upto_region 6 with fail
   try rw [hbl]
   clear hY hYY hbl e0 e1 e2 e3 e4 e5 e6 e7 e8 e9 e10 e11
   have hy : Below Y.heap.size Y Y := Below.refl _ _
   have u0 := Cls.at HCY.out hy (j := 0) (u := .int .i64 of) (by rw [← HL2.out]; rfl); have u1 := Cls.at HCY.out hy (j := 1) (u := .string RU) (by rw [← HL2.out]; rfl); have u2 := Cls.at HCY.out hy (j := 2) (u := .int .i64 sv) (by rw [← HL2.out]; rfl); have u3 := Cls.at HCY.out hy (j := 3) (u := .string FM) (by rw [← HL2.out]; rfl); have u4 := Cls.at HCY.out hy (j := 4) (u := .bool la) (by rw [← HL2.out]; rfl); have u5 := Cls.at HCY.out hy (j := 5) (u := .int .i64 yr) (by rw [← HL2.out]; rfl); have u6 := Cls.at HCY.out hy (j := 6) (u := .int .i64 mo) (by rw [← HL2.out]; rfl); have u7 := Cls.at HCY.out hy (j := 7) (u := .int .i64 k) (by rw [← HL2.out]; rfl); have u8 := Cls.at HCY.out hy (j := 8) (u := .int .i64 v) (by rw [← HL2.out]; rfl); have u9 := Cls.at HCY.out hy (j := 9) (u := .int .i64 d) (by rw [← HL2.out]; rfl); have u10 := Cls.at HCY.out hy (j := 10) (u := .int .i64 at_) (by rw [← HL2.out]; rfl); have u11 := Cls.at HCY.out hy (j := 11) (u := .int .i64 ck) (by rw [← HL2.out]; rfl); clear hy
   have HVY := Lib.hid (HVL2.out Y (keepBelow HBX.out HBY.out))
   clear HVL2
   cases q with
   | false =>
    have HNO : Hid (false = r) := Lib.hid (by rw [← HA.out]; exact (lok_no hlt HLK2.out).symm)
    go_wp2_with (first | (go_at_call 140; refine HVY.out.mono ?_; rintro e w' ⟨rfl, hb⟩; have c1 := Cls.at HC.out (keepBelow HBY.out hb) (j := 1) (u := .slice (some ⟨b, o, none⟩) li.length cl) (by rw [← HLc.out]; rfl); have u4 := Cls.at HCY.out hb (j := 4) (u := .bool la) (by rw [← HL2.out]; rfl); have HBN := Lib.hid (keepBelow HBY.out hb)) | fail)
    go_ret
    exact ⟨ret_bool HNO.out, keepBelow HBX.out HBN.out⟩
   | true =>
    by_cases hie : i + 1 = li.length
    ·have gi : ((i : Int) == (li.length : Int) - 1) = true := by simp; omega
     have HE : Hid ((i + 1 == li.length) = true) := Lib.hid (by simpa using hie)
     cases la with
     | true =>
      have HOK : Hid (lokB li i = true) := Lib.hid (by rw [HLK2.out, HE.out]; rfl)
      clear hie
      go_wp2_with (first | (go_at_call 140; refine HVY.out.mono ?_; rintro e w' ⟨rfl, hb⟩; have c1 := Cls.at HC.out (keepBelow HBY.out hb) (j := 1) (u := .slice (some ⟨b, o, none⟩) li.length cl) (by rw [← HLc.out]; rfl); have u4 := Cls.at HCY.out hb (j := 4) (u := .bool true) (by rw [← HL2.out]; rfl); have HBN := Lib.hid (keepBelow HBY.out hb)) | fail)
      go_roundw
      case rel =>
       refine ⟨i + 1, by go_num, by omega, fun j hj => ?_, HBN⟩
       rcases Nat.lt_or_ge j i with g | g
       ·exact HZ.out j g
       ·obtain rfl : j = i := by omega
        exact HOK.out
      case measure => simp [intOf]; omega
     | false =>
      have HNO : Hid (false = r) := Lib.hid (by rw [← HA.out]; exact (lok_no hlt (by rw [HLK2.out, HE.out]; rfl)).symm)
      clear hie
      go_wp2_with (first | (go_at_call 140; refine HVY.out.mono ?_; rintro e w' ⟨rfl, hb⟩; have c1 := Cls.at HC.out (keepBelow HBY.out hb) (j := 1) (u := .slice (some ⟨b, o, none⟩) li.length cl) (by rw [← HLc.out]; rfl); have u4 := Cls.at HCY.out hb (j := 4) (u := .bool false) (by rw [← HL2.out]; rfl); have HBN := Lib.hid (keepBelow HBY.out hb)) | fail)
      go_ret
      exact ⟨ret_bool HNO.out, keepBelow HBX.out HBN.out⟩
    ·have gi : ((i : Int) == (li.length : Int) - 1) = false := by simp; omega
     have HE : Hid ((i + 1 == li.length) = false) := Lib.hid (by simpa using hie)
     cases la with
     | false =>
      have HOK : Hid (lokB li i = true) := Lib.hid (by rw [HLK2.out, HE.out]; rfl)
      clear hie
      go_wp2_with (first | (go_at_call 140; refine HVY.out.mono ?_; rintro e w' ⟨rfl, hb⟩; have c1 := Cls.at HC.out (keepBelow HBY.out hb) (j := 1) (u := .slice (some ⟨b, o, none⟩) li.length cl) (by rw [← HLc.out]; rfl); have u4 := Cls.at HCY.out hb (j := 4) (u := .bool false) (by rw [← HL2.out]; rfl); have HBN := Lib.hid (keepBelow HBY.out hb)) | fail)
      go_roundw
      case rel =>
       refine ⟨i + 1, by go_num, by omega, fun j hj => ?_, HBN⟩
       rcases Nat.lt_or_ge j i with g | g
       ·exact HZ.out j g
       ·obtain rfl : j = i := by omega
        exact HOK.out
      case measure => simp [intOf]; omega
     | true =>
      have HNO : Hid (false = r) := Lib.hid (by rw [← HA.out]; exact (lok_no hlt (by rw [HLK2.out, HE.out]; rfl)).symm)
      clear hie
      go_wp2_with (first | (go_at_call 140; refine HVY.out.mono ?_; rintro e w' ⟨rfl, hb⟩; have c1 := Cls.at HC.out (keepBelow HBY.out hb) (j := 1) (u := .slice (some ⟨b, o, none⟩) li.length cl) (by rw [← HLc.out]; rfl); have u4 := Cls.at HCY.out hb (j := 4) (u := .bool true) (by rw [← HL2.out]; rfl); have HBN := Lib.hid (keepBelow HBY.out hb)) | fail)
      go_ret
      exact ⟨ret_bool HNO.out, keepBelow HBX.out HBN.out⟩
  ·have hie : i = li.length := by omega
   have HYES : Hid (true = r) := Lib.hid (by rw [← HA.out]; exact (lok_all (by rw [← hie]; exact HZ.out)).symm)
   go_wp2_with fail
   go_ret
   exact ⟨ret_bool HYES.out, keepBelow HBX.out HB.out⟩
set_option maxRecDepth 100000 in
set_option maxHeartbeats 8000000 in
theorem zone19_any (nm : Bs) (lv : Value) (li : List LiT) (w : World) (hr : RdLi w lv li) (hsz : ∀ l ∈ li, l.ru.length ≤ 4294967280 ∧ l.fm.length ≤ 4294967280) :
  Calls Tryz.prog 108 #[.agg #[.string ⟨nm.toArray⟩, lv]] w fun e w' => e = .returned (.bool (zoB ⟨nm, li⟩)) ∧ Below w.heap.size w w' := by
 obtain ⟨NM, rfl⟩ := bs_of nm
 obtain ⟨r, hr0⟩ : ∃ r, zoB ⟨bsO NM, li⟩ = r := ⟨_, rfl⟩
 rw [hr0]
 rw [zoB_eq] at hr0
 obtain ⟨qn, hqn⟩ : ∃ q, nameB (bsO NM) = q := ⟨_, rfl⟩
 rw [hqn] at hr0
 have HR := Lib.hid hr0
 clear hr0
 have HL := Lib.hid hr
 obtain ⟨al, cl, rfl⟩ := hr.form
 have HSZ := Lib.hid hsz
 obtain ⟨L, hL⟩ : ∃ L : List Value, [.string NM, .slice al li.length cl] = L := ⟨_, rfl⟩
 obtain ⟨X, hX⟩ : ∃ X, w.alloc (.cells L.toArray 45) = X := ⟨_, rfl⟩
 obtain ⟨bz, hbz⟩ : ∃ b, w.heap.size = b := ⟨_, rfl⟩
 have hXX : w.alloc (.cells #[.string NM, .slice al li.length cl] 45) = X := by rw [← hX, ← hL]
 have HC : Hid (Cls X bz L) := Lib.hid (by rw [← hX, ← hbz]; exact Cls.new w L _)
 have HBX : Hid (Below w.heap.size w X) := Lib.hid (by rw [← hX]; exact below_box)
 have HNM : Hid (∀ w', Below X.heap.size X w' → Calls Tryz.prog 109 #[.string NM] w' fun e w'' => e = .returned (.bool qn) ∧ w'' = w') := Lib.hid (by rw [← hqn]; exact fun w' _ => name18_any NM w')
 have HLc := Lib.hid hL
 clear hr hsz hqn hL
 show Calls _ _ #[.agg #[.string NM, .slice al li.length cl]] w _
 go_enter Tryz.func108, Tryz.ntmps108
 go_upto_region 1 with fail
 try rw [hXX]
 try rw [hbz]
 have hb : Below X.heap.size X X := Below.refl _ _
 have c0 := Cls.at HC.out hb (j := 0) (u := .string NM) (by rw [← HLc.out]; rfl)
 have c1 := Cls.at HC.out hb (j := 1) (u := .slice al li.length cl) (by rw [← HLc.out]; rfl)
 clear hX hXX hbz
 cases qn with
 | false =>
  go_wp2_with (first | (go_at_call 109; refine (HNM.out _ (by assumption)).mono ?_; rintro e w' ⟨rfl, hw⟩; rw [hw]; clear hw) | fail)
  go_ret
  exact ⟨ret_bool (by rw [← HR.out]; rfl), HBX.out⟩
 | true =>
 by_cases h1 : li.length < 1
 ·have HN : Hid (r = false) := Lib.hid (by rw [← HR.out, decide_eq_false (p := 1 ≤ li.length) (by omega)]; rfl)
  go_wp2_with (first | (go_at_call 109; refine (HNM.out _ (by assumption)).mono ?_; rintro e w' ⟨rfl, hw⟩; rw [hw]; clear hw) | fail)
  go_ret
  exact ⟨ret_bool HN.out.symm, HBX.out⟩
 by_cases h2 : 100 < li.length
 ·have HN : Hid (r = false) := Lib.hid (by rw [← HR.out, decide_eq_false (p := li.length ≤ 100) (by omega), Bool.and_false]; rfl)
  go_wp2_with (first | (go_at_call 109; refine (HNM.out _ (by assumption)).mono ?_; rintro e w' ⟨rfl, hw⟩; rw [hw]; clear hw) | fail)
  go_ret
  exact ⟨ret_bool HN.out.symm, HBX.out⟩
 have HA : Hid ((List.range li.length).all (lokB li) = r) := Lib.hid (by
  have := HR.out
  rw [decide_eq_true (p := 1 ≤ li.length) (by omega), decide_eq_true (p := li.length ≤ 100) (by omega)] at this
  exact this)
 have hl1 : 1 ≤ li.length := by omega
 have hl2 : (li.length : Int) ≤ 100 := by omega
 go_wp2_with (first | (go_at_call 109; refine (HNM.out _ (by assumption)).mono ?_; rintro e w' ⟨rfl, hw⟩; rw [hw]; clear hw) | fail)
 clear HNM hb c0 c1
 go_loopw [3] (fun u wr => ∃ i : Nat, u = .int .i64 i ∧ i ≤ li.length ∧ Hid (∀ j, j < i → lokB li j = true) ∧ Hid (Below X.heap.size X wr)) (fun u _ => li.length - (intOf u).toNat)
 case atStart => exact ⟨0, rfl, Nat.zero_le _, fun j h => absurd h (by omega), Below.refl _ _⟩
 case round =>
  obtain ⟨i, rfl, hi, HZ, HB⟩ := hrel
  have hib : (i : Int) ≤ 100 := by omega
  have c1 := Cls.at HC.out HB.out (j := 1) (u := .slice al li.length cl) (by rw [← HLc.out]; rfl)
  by_cases hlt : i < li.length
  ·obtain ⟨x, hx⟩ : ∃ x, li.getD i li0 = x := ⟨_, rfl⟩
   have hxm : x ∈ li := by rw [← hx]; exact getD_mem hlt
   obtain ⟨al', cl', ea, _, hc⟩ := HL.out.below (keepBelow HBX.out HB.out)
   cases ea
   obtain ⟨b, o, rfl, hcc⟩ := hc i hlt
   rw [hx] at hcc
   clear hc
   have HLK : Hid (lokB li i = (liB x && x.la == (i + 1 == li.length))) := Lib.hid (by rw [← hx]; rfl)
   have hfm := (HSZ.out x hxm).2
   have HVL : Hid (∀ w', Below w.heap.size w w' → Calls Tryz.prog 172 #[liV x] w' fun e w'' => e = .returned (.bool (liB x)) ∧ Below w'.heap.size w' w'') := Lib.hid fun w' hb => line19_any x (by omega) w'
   obtain ⟨q, hq⟩ : ∃ q, liB x = q := ⟨_, rfl⟩
   rw [hq] at HVL HLK
   clear hq hx hxm hfm
   obtain ⟨of, ru, sv, fm, la, ⟨yr, mo, ⟨k, v, d⟩, at_, ck⟩⟩ := x
   obtain ⟨RU, rfl⟩ := bs_of ru
   obtain ⟨FM, rfl⟩ := bs_of fm
   have HVL2 : Hid (∀ w', Below w.heap.size w w' → Calls Tryz.prog 172 #[.agg #[.int .i64 of, .string RU, .int .i64 sv, .string FM, .bool la, .int .i64 yr, .int .i64 mo, .int .i64 k, .int .i64 v, .int .i64 d, .int .i64 at_, .int .i64 ck]] w' fun e w'' => e = .returned (.bool q) ∧ Below w'.heap.size w' w'') := HVL
   have HLK2 : Hid (lokB li i = (q && la == (i + 1 == li.length))) := HLK
   clear HVL HLK
   have e0 : wr.cell? ⟨b, o + i * 12, none⟩ = some (.int .i64 of) := hcc 0 _ (by decide) rfl
   have e1 : wr.cell? ⟨b, o + i * 12 + 1, none⟩ = some (.string RU) := hcc 1 _ (by decide) rfl
   have e2 : wr.cell? ⟨b, o + i * 12 + 2, none⟩ = some (.int .i64 sv) := hcc 2 _ (by decide) rfl
   have e3 : wr.cell? ⟨b, o + i * 12 + 3, none⟩ = some (.string FM) := hcc 3 _ (by decide) rfl
   have e4 : wr.cell? ⟨b, o + i * 12 + 4, none⟩ = some (.bool la) := hcc 4 _ (by decide) rfl
   have e5 : wr.cell? ⟨b, o + i * 12 + 5, none⟩ = some (.int .i64 yr) := hcc 5 _ (by decide) rfl
   have e6 : wr.cell? ⟨b, o + i * 12 + 6, none⟩ = some (.int .i64 mo) := hcc 6 _ (by decide) rfl
   have e7 : wr.cell? ⟨b, o + i * 12 + 7, none⟩ = some (.int .i64 k) := hcc 7 _ (by decide) rfl
   have e8 : wr.cell? ⟨b, o + i * 12 + 8, none⟩ = some (.int .i64 v) := hcc 8 _ (by decide) rfl
   have e9 : wr.cell? ⟨b, o + i * 12 + 9, none⟩ = some (.int .i64 d) := hcc 9 _ (by decide) rfl
   have e10 : wr.cell? ⟨b, o + i * 12 + 10, none⟩ = some (.int .i64 at_) := hcc 10 _ (by decide) rfl
   have e11 : wr.cell? ⟨b, o + i * 12 + 11, none⟩ = some (.int .i64 ck) := hcc 11 _ (by decide) rfl
   clear hcc
   have x0 := ext_cell e0
   have x1 := ext_cell e1
   have x2 := ext_cell e2
   have x3 := ext_cell e3
   have x4 := ext_cell e4
   have x5 := ext_cell e5
   have x6 := ext_cell e6
   have x7 := ext_cell e7
   have x8 := ext_cell e8
   have x9 := ext_cell e9
   have x10 := ext_cell e10
   have x11 := ext_cell e11
   have y1 := ext_cell c1
   have HVE : Hid (∀ x : Ext wr, Calls Tryz.prog 172 #[.agg #[.int .i64 of, .string RU, .int .i64 sv, .string FM, .bool la, .int .i64 yr, .int .i64 mo, .int .i64 k, .int .i64 v, .int .i64 d, .int .i64 at_, .int .i64 ck]] (extOf wr x) fun e w'' => e = .returned (.bool q) ∧ Below (extOf wr x).heap.size (extOf wr x) w'') := Lib.hid fun x => HVL2.out _ (keepBelow HBX.out (keepBelow HB.out (extOf_below wr x)))
   clear HVL2
   have g0 : (i : Int) < (li.length : Int) := by omega
   have gwr : IntKind.i64.wrap ((li.length : Int) - 1) = (li.length : Int) - 1 := by rw [IntKind.wrap_i64]; omega
   cases q with
   | false =>
    have HNO : Hid (false = r) := Lib.hid (by rw [← HA.out]; exact (lok_no hlt HLK2.out).symm)
    go_upto_region 6 with fail
    go_cut [48] from 20 to 48 (fun u wx => u = .bool true ∧ Hid (Below wr.heap.size wr wx))
    case first =>
     refine wp_region_ext (by kernel_rfl) (by kernel_rfl) ?_
     iterate 22 (go_big_quiet_step ((go_at_call 172; refine calls_ext (HVE.out _))))
     refine wpQuiet_nil ?_
     intro w1 hb1
     go_wp2_with fail
     go_meet
     case rel => exact ⟨rfl, hb1⟩
    case rest =>
    obtain ⟨rfl, HBn⟩ := hcut
    generalize wc = W1 at *
    have HBN := Lib.hid (keepBelow HB.out HBn.out)
    go_wp2_with fail
    go_ret
    exact ⟨ret_bool HNO.out, keepBelow HBX.out HBN.out⟩
   | true =>
    by_cases hie : i + 1 = li.length
    ·have gi : ((i : Int) == (li.length : Int) - 1) = true := by simp; omega
     have HE : Hid ((i + 1 == li.length) = true) := Lib.hid (by simpa using hie)
     clear hie
     cases la with
     | true =>
      have HOK : Hid (lokB li i = true) := Lib.hid (by rw [HLK2.out, HE.out]; rfl)
      go_upto_region 6 with fail
      go_cut [48] from 20 to 48 (fun u wx => u = .bool false ∧ Hid (Below wr.heap.size wr wx))
      case first =>
       refine wp_region_ext (by kernel_rfl) (by kernel_rfl) ?_
       iterate 22 (go_big_quiet_step ((go_at_call 172; refine calls_ext (HVE.out _))))
       refine wpQuiet_nil ?_
       intro w1 hb1
       go_wp2_with fail
       go_meet
       case rel => exact ⟨rfl, hb1⟩
      case rest =>
      obtain ⟨rfl, HBn⟩ := hcut
      generalize wc = W1 at *
      have HBN := Lib.hid (keepBelow HB.out HBn.out)
      go_wp2_with fail
      go_roundw
      case rel =>
       first
       | exact ⟨i + 1, by go_num, by omega, lok_next HZ.out HOK.out, HBN⟩
       | ((repeat apply Exists.intro); exact ⟨⟨i + 1, by go_num, by omega, lok_next HZ.out HOK.out, HBN⟩, rfl⟩)
      case measure => simp [intOf]; omega
     | false =>
      have HNO : Hid (false = r) := Lib.hid (by rw [← HA.out]; exact (lok_no hlt (by rw [HLK2.out, HE.out]; rfl)).symm)
      go_upto_region 6 with fail
      go_cut [48] from 20 to 48 (fun u wx => u = .bool true ∧ Hid (Below wr.heap.size wr wx))
      case first =>
       refine wp_region_ext (by kernel_rfl) (by kernel_rfl) ?_
       iterate 22 (go_big_quiet_step ((go_at_call 172; refine calls_ext (HVE.out _))))
       refine wpQuiet_nil ?_
       intro w1 hb1
       go_wp2_with fail
       go_meet
       case rel => exact ⟨rfl, hb1⟩
      case rest =>
      obtain ⟨rfl, HBn⟩ := hcut
      generalize wc = W1 at *
      have HBN := Lib.hid (keepBelow HB.out HBn.out)
      go_wp2_with fail
      go_ret
      exact ⟨ret_bool HNO.out, keepBelow HBX.out HBN.out⟩
    ·have gi : ((i : Int) == (li.length : Int) - 1) = false := by simp; omega
     have HE : Hid ((i + 1 == li.length) = false) := Lib.hid (by simpa using hie)
     clear hie
     cases la with
     | false =>
      have HOK : Hid (lokB li i = true) := Lib.hid (by rw [HLK2.out, HE.out]; rfl)
      go_upto_region 6 with fail
      go_cut [48] from 20 to 48 (fun u wx => u = .bool false ∧ Hid (Below wr.heap.size wr wx))
      case first =>
       refine wp_region_ext (by kernel_rfl) (by kernel_rfl) ?_
       iterate 22 (go_big_quiet_step ((go_at_call 172; refine calls_ext (HVE.out _))))
       refine wpQuiet_nil ?_
       intro w1 hb1
       go_wp2_with fail
       go_meet
       case rel => exact ⟨rfl, hb1⟩
      case rest =>
      obtain ⟨rfl, HBn⟩ := hcut
      generalize wc = W1 at *
      have HBN := Lib.hid (keepBelow HB.out HBn.out)
      go_wp2_with fail
      go_roundw
      case rel =>
       first
       | exact ⟨i + 1, by go_num, by omega, lok_next HZ.out HOK.out, HBN⟩
       | ((repeat apply Exists.intro); exact ⟨⟨i + 1, by go_num, by omega, lok_next HZ.out HOK.out, HBN⟩, rfl⟩)
      case measure => simp [intOf]; omega
     | true =>
      have HNO : Hid (false = r) := Lib.hid (by rw [← HA.out]; exact (lok_no hlt (by rw [HLK2.out, HE.out]; rfl)).symm)
      go_upto_region 6 with fail
      go_cut [48] from 20 to 48 (fun u wx => u = .bool true ∧ Hid (Below wr.heap.size wr wx))
      case first =>
       refine wp_region_ext (by kernel_rfl) (by kernel_rfl) ?_
       iterate 22 (go_big_quiet_step ((go_at_call 172; refine calls_ext (HVE.out _))))
       refine wpQuiet_nil ?_
       intro w1 hb1
       go_wp2_with fail
       go_meet
       case rel => exact ⟨rfl, hb1⟩
      case rest =>
      obtain ⟨rfl, HBn⟩ := hcut
      generalize wc = W1 at *
      have HBN := Lib.hid (keepBelow HB.out HBn.out)
      go_wp2_with fail
      go_ret
      exact ⟨ret_bool HNO.out, keepBelow HBX.out HBN.out⟩
  ·have hie : i = li.length := by omega
   have HYES : Hid (true = r) := Lib.hid (by rw [← HA.out]; exact (lok_all (by rw [← hie]; exact HZ.out)).symm)
   go_wp2_with fail
   go_ret
   exact ⟨ret_bool HYES.out, keepBelow HBX.out HB.out⟩
end Go.Proofs.YtlbglinpgjlbkaaGreatDoor
