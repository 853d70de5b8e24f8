import Derived.Test.YtmfdnbfjdhlonaaGreatDoorWkOzB
import Derived.Test.YtmfdnbfjdhlonaaGreatDoorWkShelfU
/- Zone texts: the names of months and weekdays: the walks. -/
namespace Go.Proofs.YtmfdnbfjdhlonaaGreatDoor
open Go.RowKit Wk

def flS (x : Bs) : List Value := [.string ⟨x.toArray⟩]
abbrev RdTx (w : World) (v : Value) (L : List Bs) : Prop := RdG 1 flS [] w v L
theorem RdTx.cell {w : World} {v : Value} {L : List Bs} (h : RdTx w v L) {i : Nat} (hi : i < L.length) : ∃ b o c, v = .slice (some ⟨b, o, none⟩) L.length c ∧ w.cell? ⟨b, o + i, none⟩ = some (.string ⟨(L.getD i []).toArray⟩) := by
 obtain ⟨a, c, rfl, -, hc⟩ := h
 obtain ⟨b, o, rfl, q⟩ := hc i hi
 exact ⟨b, o, c, rfl, by simpa using q 0 _ (by decide) rfl⟩
theorem idx_find : ∀ (L : List Bs) (x : ByteArray) (i : Nat), Lib.idxFromS (L.map fun y => ⟨y.toArray⟩) x i = match L.findIdx? (· == bsO x) with
  | some k => ((i + k : Nat) : Int)
  | none => -1
 | [], x, i => rfl
 | y :: L, x, i => by
  have ih := idx_find L x (i + 1)
  rw [List.map_cons, Lib.idxFromS, List.findIdx?_cons]
  have he : ((⟨y.toArray⟩ : ByteArray) = x) ↔ (y == bsO x) = true := by
   rw [beq_iff_eq]
   constructor
   ·rintro rfl; rfl
   ·rintro rfl; rfl
  by_cases h : (y == bsO x) = true
  ·rw [if_pos h]
   simp only [he.2 h]
   simp
  ·rw [if_neg h]
   have h' : ¬((⟨y.toArray⟩ : ByteArray) = x) := fun q => h (he.1 q)
   simp only [h']
   simp only [if_false]
   rw [ih]
   cases L.findIdx? (· == bsO x) with
   | none => rfl
   | some k =>
    show ((i + 1 + k : Nat) : Int) = ((i + (k + 1) : Nat) : Int)
    rw [show i + 1 + k = i + (k + 1) by omega]
set_option maxHeartbeats 1000000 in
theorem find_any (v : Value) (L : List Bs) (x : ByteArray) (w : World) (h : RdTx w v L) (h0 : 0 < L.length) (hl : L.length ≤ 1000) :
  Calls Tryz.prog 151 #[v, .string x] w fun e w' => e = .returned (.tuple #[.int .i64 (findM' L (bsO x)).1, .int .i64 (findM' L (bsO x)).2]) ∧ w' = w := by
 obtain ⟨b, o, c, rfl, -⟩ := h.cell h0
 have HC : Hid (∀ w', w' = w → Calls Tryz.prog 171 #[.slice (some ⟨b, o, none⟩) L.length c, .string x] w' fun e w'' => e = .returned (.int .i64 (match L.findIdx? (· == bsO x) with
  | some k => (k : Int)
  | none => -1)) ∧ w'' = w') := by
  refine Lib.hid ?_
  rintro w' rfl
  have := Tryz.slices_Index_string b o L.length c (L.map fun y => ⟨y.toArray⟩) x w' (by simp) (by omega) (fun j hj => by
   rw [List.length_map] at hj
   obtain ⟨b', o', c', e, q⟩ := h.cell hj
   injection e with e1 e2 e3
   injection e1 with e1
   injection e1 with e1 e4
   subst e1 e4
   rw [q, List.getD_eq_getElem?_getD, List.getD_eq_getElem?_getD, List.getElem?_map, List.getElem?_eq_getElem hj]
   rfl)
  rw [List.take_of_length_le (by simp), Lib.idxOfS, idx_find] at this
  simp only [Nat.zero_add] at this
  exact this
 unfold findM'
 have hk : ∀ k, L.findIdx? (· == bsO x) = some k → k < L.length := fun k q => by
  rw [List.findIdx?_eq_some_iff_getElem] at q
  exact q.1
 go_enter Tryz.func151, Tryz.ntmps151
 cases hf : L.findIdx? (· == bsO x) with
 | none =>
  rw [hf] at HC
  simp only at HC
  go_wp2_with (first | (go_at_call 171; refine (HC.out _ rfl).mono ?_; rintro e w' ⟨rfl, rfl⟩) | (fail))
  go_ret2
  exact ⟨rfl, rfl⟩
 | some k =>
  have hk1 := hk k hf
  have hkb : (k : Int) ≤ 1000 := by omega
  rw [hf] at HC
  simp only at HC
  clear hf hk
  go_wp2_with (first | (go_at_call 171; refine (HC.out _ rfl).mono ?_; rintro e w' ⟨rfl, rfl⟩) | (fail))
  go_ret2
  exact ⟨rfl, rfl⟩
theorem row_at (L : List Bs) (i : Nat) (hi : i < L.length) (u : Value) (hu : (flS (L.getD i []))[0]? = some u) : (L.map fun x => Value.string ⟨x.toArray⟩)[i]? = some u := by
 rw [List.getElem?_map, List.getElem?_eq_getElem hi]
 rw [List.getD_eq_getElem?_getD, List.getElem?_eq_getElem hi] at hu
 exact hu
set_option maxHeartbeats 1000000 in
theorem weekdays_any (w : World) :
  Calls Tryz.prog 98 #[] w fun e w' => (∃ v, e = .returned v ∧ RdTx w' v wdayL) ∧ Below w.heap.size w w' := by
 obtain ⟨O, hO⟩ : ∃ O : Obj, (.cells #[.string ⟨#[77, 111, 110]⟩, .string ⟨#[84, 117, 101]⟩, .string ⟨#[87, 101, 100]⟩, .string ⟨#[84, 104, 117]⟩, .string ⟨#[70, 114, 105]⟩, .string ⟨#[83, 97, 116]⟩, .string ⟨#[83, 117, 110]⟩] 9) = O := ⟨_, rfl⟩
 have HB : Hid (Below w.heap.size w (w.alloc O)) := (Below.refl _ w).alloc (Nat.le_refl _) _
 have HR : Hid (RdTx (w.alloc O) (.slice (some ⟨w.heap.size, 0, none⟩) 7 7) wdayL) := by
  refine Lib.hid ⟨_, _, rfl, by decide, fun i hi => ⟨_, _, rfl, fun j u hj hu => ?_⟩⟩
  obtain rfl : j = 0 := by omega
  rw [← hO, Nat.zero_add, Nat.mul_one, Nat.add_zero, World.cell?_alloc_new]
  have := row_at wdayL i hi u hu
  rw [← List.getElem?_toArray] at this
  exact this
 go_enter Tryz.func98, Tryz.ntmps98
 go_wp2
 go_ret
 exact ⟨⟨_, rfl, HR.out⟩, HB.out⟩
end Go.Proofs.YtmfdnbfjdhlonaaGreatDoor
namespace Go.Proofs.YtmfdnbfjdhlonaaGreatDoor
open Go.RowKit Wk

theorem weekday_any (x : ByteArray) (w : World) :
  Calls Tryz.prog 107 #[.string x] w fun e w' => e = .returned (.tuple #[.int .i64 (findM' wdayL (bsO x)).1, .int .i64 (findM' wdayL (bsO x)).2]) ∧ Below w.heap.size w w' := by
 go_enter Tryz.func107, Tryz.ntmps107
 go_wp2_with (first | (go_at_call 98; refine (weekdays_any _).mono ?_; rintro e w' ⟨⟨v, rfl, hv⟩, hb⟩) | (go_at_call 151; refine (find_any _ _ _ _ (by assumption) (by decide) (by decide)).mono ?_; rintro e w'' ⟨rfl, rfl⟩) | (fail))
 go_ret2
 exact ⟨rfl, by assumption⟩
end Go.Proofs.YtmfdnbfjdhlonaaGreatDoor
namespace Go.Proofs.YtmfdnbfjdhlonaaGreatDoor
open Go.RowKit Wk

end Go.Proofs.YtmfdnbfjdhlonaaGreatDoor
namespace Go.Proofs.YtmfdnbfjdhlonaaGreatDoor
open Go.RowKit Wk

theorem bs_inj {a b : ByteArray} (h : bsO a = bsO b) : a = b := by
 apply ByteArray.ext
 exact Array.toList_inj.1 h
theorem bs_ext (a : ByteArray) (i j : Nat) : bsO (a.extract i j) = ((bsO a).take j).drop i := by
 show (a.extract i j).data.toList = _
 rw [Lib.extract_data]
 simp [List.drop_take]
end Go.Proofs.YtmfdnbfjdhlonaaGreatDoor
namespace Go.Proofs.YtmfdnbfjdhlonaaGreatDoor
open Go.RowKit Wk

end Go.Proofs.YtmfdnbfjdhlonaaGreatDoor
