import Derived.Test.YtmfdnbfjdhlonaaGreatDoorWkBa
import Derived.Test.YtmfdnbfjdhlonaaGreatDoorWkOzA
import Derived.Test.YtmfdnbfjdhlonaaGreatDoorWkShelfT
import Derived.Lib.IndexAny
/- Lists in memory, whatever an element's cells: read, and of the call's own. -/
namespace Go.Proofs.YtmfdnbfjdhlonaaGreatDoor
open Go.RowKit Wk

def RdG {α : Type} (sz : Nat) (fl : α → List Value) (d : α) (w : World) (v : Value) (L : List α) : Prop :=
 ∃ a c, v = .slice a L.length c ∧ L.length ≤ 1152921504606846976 ∧ ∀ i, i < L.length → ∃ b o, a = some ⟨b, o, none⟩ ∧ ∀ j u, j < sz → (fl (L.getD i d))[j]? = some u → w.cell? ⟨b, o + i * sz + j, none⟩ = some u
theorem RdG.below {α : Type} {sz : Nat} {fl : α → List Value} {d : α} {w w' : World} {v : Value} {L : List α} (h : RdG sz fl d w v L) (hb : Below w.heap.size w w') : RdG sz fl d w' v L := by
 obtain ⟨a, c, rfl, hl, hc⟩ := h
 refine ⟨a, c, rfl, hl, fun i hi => ?_⟩
 obtain ⟨b, o, rfl, c1⟩ := hc i hi
 exact ⟨b, o, rfl, fun j u hj hu => keepCell hb (c1 j u hj hu)⟩
theorem RdG.form {α : Type} {sz : Nat} {fl : α → List Value} {d : α} {w : World} {v : Value} {L : List α} (h : RdG sz fl d w v L) : ∃ a c, v = .slice a L.length c := let ⟨a, c, e, _⟩ := h; ⟨a, c, e⟩
end Go.Proofs.YtmfdnbfjdhlonaaGreatDoor
namespace Go.Proofs.YtmfdnbfjdhlonaaGreatDoor
open Go.RowKit Wk

abbrev bsO (s : ByteArray) : Bs := s.data.toList
theorem digit_any (x : UInt8) (w : World) :
  Calls Tryz.prog 130 #[.int .u8 (x.toNat : Int)] w fun e w' => e = .returned (.bool (digC x)) ∧ w' = w := by
 go_enter Tryz.func130, Tryz.ntmps130
 go_wp2
 all_goals go_ret
 all_goals exact ⟨ret_bool (by rw [Bool.eq_iff_iff]; simp [digC]; omega), rfl⟩
end Go.Proofs.YtmfdnbfjdhlonaaGreatDoor
namespace Go.Proofs.YtmfdnbfjdhlonaaGreatDoor
open Go.RowKit Wk

theorem bs_len (s : ByteArray) : (bsO s).length = s.size := by
 show s.data.toList.length = s.data.size
 simp
theorem bs_at (s : ByteArray) (k : Nat) (h : k < s.size) : (bsO s)[k]'(by rw [bs_len]; exact h) = s[k] := by
 show s.data.toList[k]'_ = s.data[k]'_
 simp
end Go.Proofs.YtmfdnbfjdhlonaaGreatDoor
namespace Go.Proofs.YtmfdnbfjdhlonaaGreatDoor
open Go.RowKit Wk

theorem toNat_ne {x : UInt8} {n : Nat} (h : n < 256) : ((x.toNat : Int) = (n : Int)) ↔ x = UInt8.ofNat n := by
 constructor
 ·intro e
  apply UInt8.toNat_inj.1
  rw [UInt8.toNat_ofNat']
  omega
 ·intro e
  rw [e, UInt8.toNat_ofNat']
  omega
theorem whole_ix (s : ByteArray) : wholeB (bsO s) = true ↔ 1 ≤ s.size ∧ (∀ k (h : k < s.size), digC s[k] = true) ∧ ∀ h : 0 < s.size, 1 < s.size → (s[0].toNat : Int) ≠ 48 := by
 refine (fun (key : ∀ (l : Bs) (hl : l.length = s.size) (_ : ∀ k (h : k < s.size), l[k]'(by omega) = s[k]), (wholeB l = true ↔ 1 ≤ s.size ∧ (∀ k (h : k < s.size), digC s[k] = true) ∧ ∀ h : 0 < s.size, 1 < s.size → (s[0].toNat : Int) ≠ 48)) => key (bsO s) (bs_len s) (bs_at s)) ?_
 intro l hl hb
 rw [whole_iff]
 have hall : (∀ k (h : k < s.size), digC s[k] = true) ↔ l.all digC = true := by
  rw [List.all_eq_true]
  constructor
  ·intro h x hx
   obtain ⟨k, hk, rfl⟩ := List.mem_iff_getElem.1 hx
   rw [hb k (by omega)]
   exact h k (by omega)
  ·intro h k hk
   rw [← hb k hk]
   exact h _ (List.getElem_mem _)
 rw [hall]
 have hne : l ≠ [] ↔ 1 ≤ s.size := by
  rw [← hl]
  cases l <;> simp
 have hh : ∀ h : 0 < s.size, (l.head? ≠ some 48 ↔ (s[0].toNat : Int) ≠ 48) := fun h => by
  have e : l.head? = some s[0] := by rw [List.head?_eq_getElem?, List.getElem?_eq_getElem (by omega), hb 0 h]
  have h48 := toNat_ne (x := s[0]) (n := 48) (by omega)
  rw [e]
  constructor
  ·exact fun q e2 => q (by rw [h48.1 e2]; rfl)
  ·exact fun q e2 => q (h48.2 (by simpa using e2))
 rw [hne, hl]
 constructor
 ·rintro ⟨h1, h2, h3⟩
  exact ⟨h1, h2, fun h h4 => (hh h).1 (h3 h4)⟩
 ·rintro ⟨h1, h2, h3⟩
  exact ⟨h1, h2, fun h4 => (hh (by omega)).2 (h3 (by omega) h4)⟩
end Go.Proofs.YtmfdnbfjdhlonaaGreatDoor
namespace Go.Proofs.YtmfdnbfjdhlonaaGreatDoor
open Go.RowKit Wk

theorem toList_nil (t : ByteArray) : t.toList = [] ↔ t.size = 0 := by
 rw [Lib.toList_data, ← bs_len]
 exact List.length_eq_zero_iff.symm
theorem take_dig {t : ByteArray} {k : Nat} (hk : k < t.size) : decV ((bsO t).take (k + 1)) = 10 * decV ((bsO t).take k) + (t[k].toNat - 48) := by
 rw [List.take_add_one, List.getElem?_eq_getElem (by rw [bs_len]; exact hk), bs_at t k hk]
 exact decV_snoc _ _
theorem not_dig {t : ByteArray} {k : Nat} {hk : k < t.size} (hd : digC t[k] = false) : ¬(bsO t).all digC = true := fun q => by
 have := List.all_eq_true.1 q t[k] (by rw [← bs_at t k hk]; exact List.getElem_mem _)
 rw [hd] at this
 exact absurd this (by simp)
end Go.Proofs.YtmfdnbfjdhlonaaGreatDoor
