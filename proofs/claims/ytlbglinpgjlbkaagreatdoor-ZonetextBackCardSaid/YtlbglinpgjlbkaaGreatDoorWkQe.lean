import Derived.Test.YtlbglinpgjlbkaaGreatDoorWkQd
import Derived.Test.YtlbglinpgjlbkaaGreatDoorWkShelfU
/- Zone texts: the names of months and weekdays: the walks. -/
namespace Go.Proofs.YtlbglinpgjlbkaaGreatDoor
open Go.RowKit Wk

def flS (x : Bs) : List Value := [.string ⟨x.toArray⟩]
abbrev RdSt (w : World) (v : Value) (L : List Bs) : Prop := RdG 1 flS [] w v L
theorem RdSt.cell {w : World} {v : Value} {L : List Bs} (h : RdSt w v L) {i : Nat} (hi : i < L.length) : ∃ b o c, v = .slice (some ⟨b, o, none⟩) L.length c ∧ w.cell? ⟨b, o + i, none⟩ = some (.string ⟨(L.getD i []).toArray⟩) := by
 obtain ⟨a, c, rfl, -, hc⟩ := h
 obtain ⟨b, o, rfl, q⟩ := hc i hi
 exact ⟨b, o, c, rfl, by simpa using q 0 _ (by decide) rfl⟩
theorem idx_find : ∀ (L : List Bs) (x : ByteArray) (i : Nat), Lib.idxFromS (L.map fun y => ⟨y.toArray⟩) x i = match L.findIdx? (· == bsO x) with
  | some k => ((i + k : Nat) : Int)
  | none => -1
 | [], x, i => rfl
 | y :: L, x, i => by
  have ih := idx_find L x (i + 1)
  rw [List.map_cons, Lib.idxFromS, List.findIdx?_cons]
  have he : ((⟨y.toArray⟩ : ByteArray) = x) ↔ (y == bsO x) = true := by
   rw [beq_iff_eq]
   constructor
   ·rintro rfl; rfl
   ·rintro rfl; rfl
  by_cases h : (y == bsO x) = true
  ·rw [if_pos h]
   simp only [he.2 h]
   simp
  ·rw [if_neg h]
   have h' : ¬((⟨y.toArray⟩ : ByteArray) = x) := fun q => h (he.1 q)
   simp only [h']
   simp only [if_false]
   rw [ih]
   cases L.findIdx? (· == bsO x) with
   | none => rfl
   | some k =>
    show ((i + 1 + k : Nat) : Int) = ((i + (k + 1) : Nat) : Int)
    rw [show i + 1 + k = i + (k + 1) by omega]
set_option maxHeartbeats 1000000 in
theorem find_any (v : Value) (L : List Bs) (x : ByteArray) (w : World) (h : RdSt w v L) (h0 : 0 < L.length) (hl : L.length ≤ 1000) :
  Calls Tryz.prog 151 #[v, .string x] w fun e w' => e = .returned (.tuple #[.int .i64 (findM' L (bsO x)).1, .int .i64 (findM' L (bsO x)).2]) ∧ w' = w := by
 obtain ⟨b, o, c, rfl, -⟩ := h.cell h0
 have HC : Hid (∀ w', w' = w → Calls Tryz.prog 194 #[.slice (some ⟨b, o, none⟩) L.length c, .string x] w' fun e w'' => e = .returned (.int .i64 (match L.findIdx? (· == bsO x) with
  | some k => (k : Int)
  | none => -1)) ∧ w'' = w') := by
  refine Lib.hid ?_
  rintro w' rfl
  have := Tryz.slices_Index_string b o L.length c (L.map fun y => ⟨y.toArray⟩) x w' (by simp) (by omega) (fun j hj => by
   rw [List.length_map] at hj
   obtain ⟨b', o', c', e, q⟩ := h.cell hj
   injection e with e1 e2 e3
   injection e1 with e1
   injection e1 with e1 e4
   subst e1 e4
   rw [q, List.getD_eq_getElem?_getD, List.getD_eq_getElem?_getD, List.getElem?_map, List.getElem?_eq_getElem hj]
   rfl)
  rw [List.take_of_length_le (by simp), Lib.idxOfS, idx_find] at this
  simp only [Nat.zero_add] at this
  exact this
 unfold findM'
 have hk : ∀ k, L.findIdx? (· == bsO x) = some k → k < L.length := fun k q => by
  rw [List.findIdx?_eq_some_iff_getElem] at q
  exact q.1
 go_enter Tryz.func151, Tryz.ntmps151
 cases hf : L.findIdx? (· == bsO x) with
 | none =>
  rw [hf] at HC
  simp only at HC
  go_wp2_with (first | (go_at_call 194; refine (HC.out _ rfl).mono ?_; rintro e w' ⟨rfl, rfl⟩) | (fail))
  go_ret2
  exact ⟨rfl, rfl⟩
 | some k =>
  have hk1 := hk k hf
  have hkb : (k : Int) ≤ 1000 := by omega
  rw [hf] at HC
  simp only at HC
  clear hf hk
  go_wp2_with (first | (go_at_call 194; refine (HC.out _ rfl).mono ?_; rintro e w' ⟨rfl, rfl⟩) | (fail))
  go_ret2
  exact ⟨rfl, rfl⟩
set_option maxHeartbeats 1000000 in
theorem get_any (v : Value) (L : List Bs) (n : Int) (w : World) (h : RdSt w v L) (hl : L.length ≤ 1000) :
  Calls Tryz.prog 158 #[v, .int .i64 n] w fun e w' => e = .returned (.string ⟨(getM L n).toArray⟩) ∧ w' = w := by
 obtain ⟨a, c, rfl⟩ := h.form
 go_enter Tryz.func158, Tryz.ntmps158
 unfold getM
 by_cases h1 : n < 1
 ·rw [if_pos (.inl h1)]
  go_wp2
  go_ret
  exact ⟨rfl, rfl⟩
 ·by_cases h2 : (L.length : Int) < n
  ·rw [if_pos (.inr h2)]
   go_wp2
   go_ret
   exact ⟨rfl, rfl⟩
  ·rw [if_neg (by omega)]
   obtain ⟨i, hi⟩ : ∃ i : Nat, n = (i : Int) + 1 := ⟨n.toNat - 1, by omega⟩
   subst hi
   obtain ⟨b, o, c', e, q⟩ := h.cell (i := i) (by omega)
   injection e with e1 e2 e3
   subst e1 e3
   rw [show ((i : Int) + 1).toNat - 1 = i by omega]
   generalize L.getD i [] = y at *
   have hi2 : (i : Int) < L.length := by omega
   have hi3 : i < L.length := by omega
   go_wp2
   go_ret
   exact ⟨rfl, rfl⟩
theorem row_at (L : List Bs) (i : Nat) (hi : i < L.length) (u : Value) (hu : (flS (L.getD i []))[0]? = some u) : (L.map fun x => Value.string ⟨x.toArray⟩)[i]? = some u := by
 rw [List.getElem?_map, List.getElem?_eq_getElem hi]
 rw [List.getD_eq_getElem?_getD, List.getElem?_eq_getElem hi] at hu
 exact hu
set_option maxHeartbeats 1000000 in
theorem weekdays_any (w : World) :
  Calls Tryz.prog 152 #[] w fun e w' => (∃ v, e = .returned v ∧ RdSt w' v wdayL) ∧ Below w.heap.size w w' := by
 obtain ⟨O, hO⟩ : ∃ O : Obj, (.cells #[.string ⟨#[77, 111, 110]⟩, .string ⟨#[84, 117, 101]⟩, .string ⟨#[87, 101, 100]⟩, .string ⟨#[84, 104, 117]⟩, .string ⟨#[70, 114, 105]⟩, .string ⟨#[83, 97, 116]⟩, .string ⟨#[83, 117, 110]⟩] 9) = O := ⟨_, rfl⟩
 have HB : Hid (Below w.heap.size w (w.alloc O)) := (Below.refl _ w).alloc (Nat.le_refl _) _
 have HR : Hid (RdSt (w.alloc O) (.slice (some ⟨w.heap.size, 0, none⟩) 7 7) wdayL) := by
  refine Lib.hid ⟨_, _, rfl, by decide, fun i hi => ⟨_, _, rfl, fun j u hj hu => ?_⟩⟩
  obtain rfl : j = 0 := by omega
  rw [← hO, Nat.zero_add, Nat.mul_one, Nat.add_zero, World.cell?_alloc_new]
  have := row_at wdayL i hi u hu
  rw [← List.getElem?_toArray] at this
  exact this
 go_enter Tryz.func152, Tryz.ntmps152
 go_wp2
 go_ret
 exact ⟨⟨_, rfl, HR.out⟩, HB.out⟩
end Go.Proofs.YtlbglinpgjlbkaaGreatDoor
namespace Go.Proofs.YtlbglinpgjlbkaaGreatDoor
open Go.RowKit Wk

set_option maxHeartbeats 1000000 in
theorem months_any (w : World) :
  Calls Tryz.prog 198 #[] w fun e w' => (∃ v, e = .returned v ∧ RdSt w' v monthL) ∧ Below w.heap.size w w' := by
 obtain ⟨O, hO⟩ : ∃ O : Obj, (.cells #[.string ⟨#[74, 97, 110]⟩, .string ⟨#[70, 101, 98]⟩, .string ⟨#[77, 97, 114]⟩, .string ⟨#[65, 112, 114]⟩, .string ⟨#[77, 97, 121]⟩, .string ⟨#[74, 117, 110]⟩, .string ⟨#[74, 117, 108]⟩, .string ⟨#[65, 117, 103]⟩, .string ⟨#[83, 101, 112]⟩, .string ⟨#[79, 99, 116]⟩, .string ⟨#[78, 111, 118]⟩, .string ⟨#[68, 101, 99]⟩] 9) = O := ⟨_, rfl⟩
 have HB : Hid (Below w.heap.size w (w.alloc O)) := (Below.refl _ w).alloc (Nat.le_refl _) _
 have HR : Hid (RdSt (w.alloc O) (.slice (some ⟨w.heap.size, 0, none⟩) 12 12) monthL) := by
  refine Lib.hid ⟨_, _, rfl, by decide, fun i hi => ⟨_, _, rfl, fun j u hj hu => ?_⟩⟩
  obtain rfl : j = 0 := by omega
  rw [← hO, Nat.zero_add, Nat.mul_one, Nat.add_zero, World.cell?_alloc_new]
  have := row_at monthL i hi u hu
  rw [← List.getElem?_toArray] at this
  exact this
 go_enter Tryz.func198, Tryz.ntmps198
 go_wp2
 go_ret
 exact ⟨⟨_, rfl, HR.out⟩, HB.out⟩
theorem weekday_any (x : ByteArray) (w : World) :
  Calls Tryz.prog 88 #[.string x] w fun e w' => e = .returned (.tuple #[.int .i64 (findM' wdayL (bsO x)).1, .int .i64 (findM' wdayL (bsO x)).2]) ∧ Below w.heap.size w w' := by
 go_enter Tryz.func88, Tryz.ntmps88
 go_wp2_with (first | (go_at_call 152; refine (weekdays_any _).mono ?_; rintro e w' ⟨⟨v, rfl, hv⟩, hb⟩) | (go_at_call 151; refine (find_any _ _ _ _ (by assumption) (by decide) (by decide)).mono ?_; rintro e w'' ⟨rfl, rfl⟩) | (fail))
 go_ret2
 exact ⟨rfl, by assumption⟩
theorem month_any (x : ByteArray) (w : World) :
  Calls Tryz.prog 181 #[.string x] w fun e w' => e = .returned (.tuple #[.int .i64 (findM' monthL (bsO x)).1, .int .i64 (findM' monthL (bsO x)).2]) ∧ Below w.heap.size w w' := by
 go_enter Tryz.func181, Tryz.ntmps181
 go_wp2_with (first | (go_at_call 198; refine (months_any _).mono ?_; rintro e w' ⟨⟨v, rfl, hv⟩, hb⟩) | (go_at_call 151; refine (find_any _ _ _ _ (by assumption) (by decide) (by decide)).mono ?_; rintro e w'' ⟨rfl, rfl⟩) | (fail))
 go_ret2
 exact ⟨rfl, by assumption⟩
theorem weekdayName_any (n : Int) (w : World) :
  Calls Tryz.prog 97 #[.int .i64 n] w fun e w' => e = .returned (.string ⟨(getM wdayL n).toArray⟩) ∧ Below w.heap.size w w' := by
 go_enter Tryz.func97, Tryz.ntmps97
 go_wp2_with (first | (go_at_call 152; refine (weekdays_any _).mono ?_; rintro e w' ⟨⟨v, rfl, hv⟩, hb⟩) | (go_at_call 158; refine (get_any _ _ _ _ (by assumption) (by decide)).mono ?_; rintro e w'' ⟨rfl, rfl⟩) | (fail))
 go_ret
 exact ⟨rfl, by assumption⟩
theorem monthName_any (n : Int) (w : World) :
  Calls Tryz.prog 162 #[.int .i64 n] w fun e w' => e = .returned (.string ⟨(getM monthL n).toArray⟩) ∧ Below w.heap.size w w' := by
 go_enter Tryz.func162, Tryz.ntmps162
 go_wp2_with (first | (go_at_call 198; refine (months_any _).mono ?_; rintro e w' ⟨⟨v, rfl, hv⟩, hb⟩) | (go_at_call 158; refine (get_any _ _ _ _ (by assumption) (by decide)).mono ?_; rintro e w'' ⟨rfl, rfl⟩) | (fail))
 go_ret
 exact ⟨rfl, by assumption⟩
end Go.Proofs.YtlbglinpgjlbkaaGreatDoor
namespace Go.Proofs.YtlbglinpgjlbkaaGreatDoor
open Go.RowKit Wk

end Go.Proofs.YtlbglinpgjlbkaaGreatDoor
namespace Go.Proofs.YtlbglinpgjlbkaaGreatDoor
open Go.RowKit Wk

set_option maxRecDepth 100000 in
theorem two_any (n : Nat) (hn : n < 100) (w : World) :
  Calls Tryz.prog 227 #[.int .i64 (n : Int)] w fun e w' => e = .returned (.string ⟨(twoT n).toArray⟩) ∧ Below w.heap.size w w' := by
 have h1 : (0 : Int) ≤ n := by omega
 have h2 : (n : Int) ≤ 99 := by omega
 obtain ⟨m, hm⟩ : ∃ m : Int, (n : Int) = m := ⟨_, rfl⟩
 obtain ⟨r, hr⟩ : ∃ r : ByteArray, ⟨(twoT n).toArray⟩ = r := ⟨_, rfl⟩
 obtain ⟨O, hO⟩ : ∃ O : Obj, (.cells #[.int .u8 (48 + m / 10), .int .u8 (48 + m % 10)] 5) = O := ⟨_, rfl⟩
 have hB : Hid (Below w.heap.size w (w.alloc O)) := (Below.refl _ w).alloc (Nat.le_refl _) _
 have hcv : (convert 143 9 (.slice (some ⟨w.heap.size, 0, none⟩) 2 2)).run Tryz.prog (w.alloc O) = .ok (.string r) (w.alloc O) := by
  rw [← hr]
  refine run_convert_bytes_back (w.alloc O) 143 9 5 ⟨w.heap.size, 0, none⟩ 2 (twoT n) Tryz.underlying143 Tryz.underlying5 Tryz.underlying9 ?_
  intro j hj
  have hj : j < 2 := hj
  rw [WideShapes.add_plain, ← hO, Nat.zero_add, World.cell?_alloc_new]
  have d1 := (digU_dig (n := n / 10) (by omega)).2
  have d2 := (digU_dig (n := n % 10) (by omega)).2
  rcases (by omega : j = 0 ∨ j = 1) with rfl | rfl
  ·show some (Value.int .u8 (48 + m / 10)) = some (Value.int .u8 ((digU (n / 10)).toNat : Int))
   rw [d1, ← hm]
   congr 2
  ·show some (Value.int .u8 (48 + m % 10)) = some (Value.int .u8 ((digU (n % 10)).toNat : Int))
   rw [d2, ← hm]
   congr 2
 rw [hr, hm]
 rw [hm] at h1 h2
 clear hm hr hn
 go_enter Tryz.func227, Tryz.ntmps227
 go_wp2
 go_ret
 exact ⟨rfl, hB.out⟩
theorem ret_str {a b : ByteArray} (h : a = b) : Ending.returned (.string a) = .returned (.string b) := by rw [h]
theorem bs_inj {a b : ByteArray} (h : bsO a = bsO b) : a = b := by
 apply ByteArray.ext
 exact Array.toList_inj.1 h
theorem bs_app (a b : ByteArray) : bsO (a ++ b) = bsO a ++ bsO b := by
 show (a ++ b).data.toList = _
 rw [ByteArray.data_append]
 simp
theorem bs_ext (a : ByteArray) (i j : Nat) : bsO (a.extract i j) = ((bsO a).take j).drop i := by
 show (a.extract i j).data.toList = _
 rw [Lib.extract_data]
 simp [List.drop_take]
set_option maxRecDepth 100000 in
set_option maxHeartbeats 1000000 in
theorem spanText_any (n : Nat) (hn : n < 360000) (w : World) :
  Calls Tryz.prog 199 #[.int .i64 (n : Int)] w fun e w' => e = .returned (.string ⟨(spanT n).toArray⟩) ∧ Below w.heap.size w w' := by
 have h1 : (0 : Int) ≤ n := by omega
 have h2 : (n : Int) ≤ 359999 := by omega
 obtain ⟨m, hm⟩ : ∃ m : Int, (n : Int) = m := ⟨_, rfl⟩
 obtain ⟨r, hr⟩ : ∃ r : ByteArray, ⟨(spanT n).toArray⟩ = r := ⟨_, rfl⟩
 obtain ⟨A, hA⟩ : ∃ A : ByteArray, ⟨(twoT (n / 3600)).toArray⟩ = A := ⟨_, rfl⟩
 obtain ⟨B, hB⟩ : ∃ B : ByteArray, ⟨(twoT (n / 60 % 60)).toArray⟩ = B := ⟨_, rfl⟩
 obtain ⟨C, hC⟩ : ∃ C : ByteArray, ⟨(twoT (n % 60)).toArray⟩ = C := ⟨_, rfl⟩
 have HA : Hid (∀ w', Calls Tryz.prog 227 #[.int .i64 (m / 3600)] w' fun e w'' => e = .returned (.string A) ∧ Below w'.heap.size w' w'') := Lib.hid fun w' => by
  have := two_any (n / 3600) (by omega) w'
  rw [hA, show ((n / 3600 : Nat) : Int) = m / 3600 by omega] at this
  exact this
 have HB : Hid (∀ w', Calls Tryz.prog 227 #[.int .i64 (m / 60 % 60)] w' fun e w'' => e = .returned (.string B) ∧ Below w'.heap.size w' w'') := Lib.hid fun w' => by
  have := two_any (n / 60 % 60) (by omega) w'
  rw [hB, show ((n / 60 % 60 : Nat) : Int) = m / 60 % 60 by omega] at this
  exact this
 have HC : Hid (∀ w', Calls Tryz.prog 227 #[.int .i64 (m % 60)] w' fun e w'' => e = .returned (.string C) ∧ Below w'.heap.size w' w'') := Lib.hid fun w' => by
  have := two_any (n % 60) (by omega) w'
  rw [hC, show ((n % 60 : Nat) : Int) = m % 60 by omega] at this
  exact this
 have a2 : A.size = 2 := by rw [← hA]; rfl
 have b2 : B.size = 2 := by rw [← hB]; rfl
 have c2 : C.size = 2 := by rw [← hC]; rfl
 have HR : Hid (bsO r = spanT n) := Lib.hid (by rw [← hr])
 have HA2 : Hid (bsO A = twoT (n / 3600)) := Lib.hid (by rw [← hA])
 have HB2 : Hid (bsO B = twoT (n / 60 % 60)) := Lib.hid (by rw [← hB])
 have HC2 : Hid (bsO C = twoT (n % 60)) := Lib.hid (by rw [← hC])
 have HM := Lib.hid hm
 rw [hr, hm]
 rw [hm] at h1 h2
 clear hm hr hA hB hC hn
 go_enter Tryz.func199, Tryz.ntmps199
 by_cases g1 : m < 36000
 ·by_cases g2 : 0 < m % 60
  ·go_wp2_with (first | (go_at_call 227; (first | (with_reducible refine (HA.out _).mono ?_) | (with_reducible refine (HB.out _).mono ?_) | (with_reducible refine (HC.out _).mono ?_)); rintro e w' ⟨rfl, hw⟩) | (fail))
   go_ret
   refine ⟨ret_str (bs_inj ?_), keepBelow (keepBelow (by assumption) (by assumption)) (by assumption)⟩
   have hm := HM.out
   rw [HR.out]
   unfold spanT
   rw [if_pos (by omega), if_pos (by omega)]
   simp only [bs_app, bs_ext, HA2.out, HB2.out, HC2.out]
   rfl
  ·go_wp2_with (first | (go_at_call 227; (first | (with_reducible refine (HA.out _).mono ?_) | (with_reducible refine (HB.out _).mono ?_) | (with_reducible refine (HC.out _).mono ?_)); rintro e w' ⟨rfl, hw⟩) | (fail))
   go_ret
   refine ⟨ret_str (bs_inj ?_), keepBelow (by assumption) (by assumption)⟩
   have hm := HM.out
   rw [HR.out]
   unfold spanT
   rw [if_pos (by omega), if_neg (by omega)]
   simp only [bs_app, bs_ext, HA2.out, HB2.out]
   rfl
 ·by_cases g2 : 0 < m % 60
  ·go_wp2_with (first | (go_at_call 227; (first | (with_reducible refine (HA.out _).mono ?_) | (with_reducible refine (HB.out _).mono ?_) | (with_reducible refine (HC.out _).mono ?_)); rintro e w' ⟨rfl, hw⟩) | (fail))
   go_ret
   refine ⟨ret_str (bs_inj ?_), keepBelow (keepBelow (by assumption) (by assumption)) (by assumption)⟩
   have hm := HM.out
   rw [HR.out]
   unfold spanT
   rw [if_neg (by omega), if_pos (by omega)]
   simp only [bs_app, HA2.out, HB2.out, HC2.out]
   rfl
  ·go_wp2_with (first | (go_at_call 227; (first | (with_reducible refine (HA.out _).mono ?_) | (with_reducible refine (HB.out _).mono ?_) | (with_reducible refine (HC.out _).mono ?_)); rintro e w' ⟨rfl, hw⟩) | (fail))
   go_ret
   refine ⟨ret_str (bs_inj ?_), keepBelow (by assumption) (by assumption)⟩
   have hm := HM.out
   rw [HR.out]
   unfold spanT
   rw [if_neg (by omega), if_neg (by omega)]
   simp only [bs_app, HA2.out, HB2.out]
   rfl
end Go.Proofs.YtlbglinpgjlbkaaGreatDoor
namespace Go.Proofs.YtlbglinpgjlbkaaGreatDoor
open Go.RowKit Wk

set_option maxRecDepth 100000 in
set_option maxHeartbeats 1000000 in
theorem offsetText_any (n : Int) (w : World) :
  Calls Tryz.prog 164 #[.int .i64 n] w fun e w' => e = .returned (.string ⟨(offsetT n).toArray⟩) ∧ Below w.heap.size w w' := by
 obtain ⟨r, hr⟩ : ∃ r : ByteArray, ⟨(offsetT n).toArray⟩ = r := ⟨_, rfl⟩
 rw [hr]
 have HR : Hid (bsO r = offsetT n) := Lib.hid (by rw [← hr])
 clear hr
 go_enter Tryz.func164, Tryz.ntmps164
 by_cases g1 : n < -93600
 ·go_wp2_with fail
  go_ret
  refine ⟨ret_str (bs_inj ?_), Below.refl _ _⟩
  rw [HR.out]
  unfold offsetT
  rw [if_pos (.inl g1)]
 ·by_cases g2 : 93600 < n
  ·go_wp2_with fail
   go_ret
   refine ⟨ret_str (bs_inj ?_), Below.refl _ _⟩
   rw [HR.out]
   unfold offsetT
   rw [if_pos (.inr g2)]
  ·by_cases g3 : n < 0
   ·obtain ⟨t, ht⟩ : ∃ t : ByteArray, ⟨(spanT (-n).toNat).toArray⟩ = t := ⟨_, rfl⟩
    have HS : Hid (∀ w', Calls Tryz.prog 199 #[.int .i64 (-n)] w' fun e w'' => e = .returned (.string t) ∧ Below w'.heap.size w' w'') := Lib.hid fun w' => by
     have := spanText_any (-n).toNat (by omega) w'
     rw [ht, show (((-n).toNat : Nat) : Int) = -n by omega] at this
     exact this
    have HT : Hid (bsO t = spanT (-n).toNat) := Lib.hid (by rw [← ht])
    have ts : t.size ≤ 8 := by
     have := (span_wd (n := (-n).toNat) (by omega)).2.1
     rw [← HT.out, bs_len] at this
     exact this
    have ts2 : (t.size : Int) ≤ 8 := by omega
    clear ht
    go_wp2_with (first | (go_at_call 199; refine (HS.out _).mono ?_; rintro e w' ⟨rfl, hw⟩) | (fail))
    go_ret
    refine ⟨ret_str (bs_inj ?_), (by assumption)⟩
    rw [HR.out]
    unfold offsetT
    rw [if_neg (by omega), if_pos g3, bs_app, HT.out]
    rfl
   ·obtain ⟨t, ht⟩ : ∃ t : ByteArray, ⟨(spanT n.toNat).toArray⟩ = t := ⟨_, rfl⟩
    have HS : Hid (∀ w', Calls Tryz.prog 199 #[.int .i64 n] w' fun e w'' => e = .returned (.string t) ∧ Below w'.heap.size w' w'') := Lib.hid fun w' => by
     have := spanText_any n.toNat (by omega) w'
     rw [ht, show ((n.toNat : Nat) : Int) = n by omega] at this
     exact this
    have HT : Hid (bsO t = spanT n.toNat) := Lib.hid (by rw [← ht])
    clear ht
    go_wp2_with (first | (go_at_call 199; refine (HS.out _).mono ?_; rintro e w' ⟨rfl, hw⟩) | (fail))
    go_ret
    refine ⟨ret_str (bs_inj ?_), (by assumption)⟩
    rw [HR.out]
    unfold offsetT
    rw [if_neg (by omega), if_neg (show ¬n < 0 by omega), HT.out]
end Go.Proofs.YtlbglinpgjlbkaaGreatDoor
