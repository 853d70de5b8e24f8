import Derived.Test.YtlbglinpgjlbkaaGreatDoorWkO1
/- Zone texts: the reference's decimal numbers up to 9999. No conditions. -/
namespace Go.Proofs.YtlbglinpgjlbkaaGreatDoor
open Go.RowKit Wk

theorem itoa_dec {n : Int} (h : 0 ≤ n) : Lib.itoa n = Lib.decDigits n.toNat := by unfold Lib.itoa; rw [if_neg (by omega)]
theorem dec_len4 {u : Nat} (h : u ≤ 9999) : (Lib.decDigits u).length ≤ 4 := by
 by_cases h1 : u < 10
 ·rw [decDigits_small h1]; simp
 rw [decDigits_step h1, List.length_append]
 by_cases h2 : u / 10 < 10
 ·rw [decDigits_small h2]; simp
 rw [decDigits_step h2, List.length_append]
 by_cases h3 : u / 10 / 10 < 10
 ·rw [decDigits_small h3]; simp
 rw [decDigits_step h3, List.length_append]
 rw [decDigits_small (show u / 10 / 10 / 10 < 10 by omega)]; simp
theorem itoa_len4 {n : Int} (h : 0 ≤ n) (h2 : n ≤ 9999) : (Lib.itoa n).length ≤ 4 := by rw [itoa_dec h]; exact dec_len4 (by omega)
theorem dec_more {n m : Int} {S D : ByteArray} (hm : 1 ≤ m) (h : Lib.itoa n = Lib.decDigits m.toNat ++ bsO S) (hD : bsO D = [digU (m % 10).toNat]) :
  (m / 10 = 0 ∧ bsO (D ++ S) = Lib.itoa n) ∨ (1 ≤ m / 10 ∧ Lib.itoa n = Lib.decDigits (m / 10).toNat ++ bsO (D ++ S)) := by
 rw [h, bs_app, hD]
 by_cases h1 : m.toNat < 10
 ·refine .inl ⟨by omega, ?_⟩
  rw [decDigits_small h1, show (m % 10).toNat = m.toNat by omega]
 ·refine .inr ⟨by omega, ?_⟩
  rw [decDigits_step h1, show (m % 10).toNat = m.toNat % 10 by omega, show (m / 10).toNat = m.toNat / 10 by omega, List.append_assoc]
set_option maxRecDepth 100000 in
set_option maxHeartbeats 4000000 in
theorem dec9_any (n : Int) (h1 : 1 ≤ n) (h2 : n ≤ 9999) (w : World) :
  Calls Tryz.prog 159 #[.int .i64 n, .int .i64 1] w fun e w' => e = .returned (.string ⟨(Lib.itoa n).toArray⟩) ∧ Below w.heap.size w w' := by
 obtain ⟨SF, hSF⟩ : ∃ D : ByteArray, ⟨(Lib.itoa n).toArray⟩ = D := ⟨_, rfl⟩
 rw [hSF]
 have HSF : Hid (bsO SF = Lib.itoa n) := Lib.hid (by rw [← hSF])
 have HLN : Hid (∀ S : ByteArray, ∀ l : Bs, Lib.itoa n = l ++ bsO S → (S.size : Int) ≤ 4) := Lib.hid fun S l h => by
  have q := congrArg List.length h
  rw [List.length_append, bs_len] at q
  have := itoa_len4 (n := n) (by omega) h2
  omega
 have hn0 : (0 : Int) ≤ n := by omega
 clear hSF
 go_enter Tryz.func159, Tryz.ntmps159
 go_wp2_with fail
 go_loopw [5, 6, 7] (fun u5 u6 _ wr => ∃ (m : Int) (S : ByteArray), u5 = .string S ∧ u6 = .int .i64 m ∧ 0 ≤ m ∧ m ≤ 9999 ∧ (S.size : Int) ≤ 4 ∧ Hid ((m = 0 ∧ bsO S = Lib.itoa n) ∨ (1 ≤ m ∧ Lib.itoa n = Lib.decDigits m.toNat ++ bsO S)) ∧ Hid (Below w.heap.size w wr)) (fun _ u _ _ => (intOf u).toNat)
 case atStart => exact ⟨n, ⟨#[]⟩, rfl, rfl, by omega, h2, by decide, Lib.hid (.inr ⟨h1, by rw [itoa_dec hn0]; exact (List.append_nil _).symm⟩), Lib.hid (Below.refl _ _)⟩
 case round =>
  obtain ⟨m, S, rfl, rfl, hm0, hm9, hs4, HR, HB⟩ := hrel
  by_cases hm : m = 0
  ·subst hm
   obtain rfl : S = SF := bs_inj (by
    rcases HR.out with q | q
    ·rw [q.2, HSF.out]
    ·omega)
   have hsf : (1 : Int) ≤ (S.size : Int) := by
    have h := HSF.out
    rw [itoa_dec hn0] at h
    rw [← bs_len, h]
    have : Lib.decDigits n.toNat ≠ [] := (dec_ok _ _ (Nat.le_refl _)).2.2.1
    have := List.length_pos_iff.2 this
    omega
   have hne : S.toList.isEmpty = false := by
    rw [empty_eq]
    have h : (bsO S).length = S.size := bs_len S
    cases hb : bsO S with
    | nil => rw [hb] at h; simp at h; omega
    | cons c r => rfl
   have hne2 : ¬S.toList = [] := by simpa using hne
   have hnn : ¬n < 0 := by omega
   go_wp2_with fail
   go_loopw [5] (fun u5 wx => u5 = .string S ∧ wx = wr) (fun _ _ => 0)
   case atStart => exact ⟨rfl, rfl⟩
   case round =>
    obtain ⟨rfl, hwx⟩ := hrel
    rw [hwx]
    clear hwx
    go_wp2_with fail
    go_ret
    exact ⟨rfl, HB.out⟩
  ·have g1 : (m != 0) = true := by simp; omega
   have m0 : 0 ≤ m % 10 := by omega
   have m1 : m % 10 ≤ 9 := by omega
   have m2 : ¬m % 10 < 0 := by omega
   have hcv := conv_dig wr m0 m1
   obtain ⟨D, hD⟩ : ∃ D : ByteArray, ⟨#[digU (m % 10).toNat]⟩ = D := ⟨_, rfl⟩
   have hds : (D.size : Int) = 1 := by rw [← hD]; rfl
   rw [hD] at hcv
   have HF : Hid ((m / 10 = 0 ∧ bsO (D ++ S) = Lib.itoa n) ∨ (1 ≤ m / 10 ∧ Lib.itoa n = Lib.decDigits (m / 10).toNat ++ bsO (D ++ S))) := Lib.hid (by
    rcases HR.out with q | q
    ·omega
    ·exact dec_more q.1 q.2 (by rw [← hD]))
   have HZ : Hid (((D ++ S).size : Int) ≤ 4) := Lib.hid (by
    rcases HF.out with q | q
    ·exact HLN.out _ [] q.2.symm
    ·exact HLN.out _ _ q.2)
   obtain ⟨X, hX⟩ : ∃ X, wr.alloc (.cells #[.int .u8 (48 + m % 10)] 5) = X := ⟨_, rfl⟩
   have HX : Hid (Below wr.heap.size wr X) := Lib.hid (by rw [← hX]; exact (Below.refl _ _).alloc (Nat.le_refl _) _)
   rw [hX] at hcv
   clear hD
   go_wp2_with fail
   go_roundw
   case rel => exact ⟨m / 10, D ++ S, rfl, rfl, by omega, by omega, HZ.out, HF, Lib.hid (keepBelow HB.out HX.out)⟩
   case measure => simp [intOf]; omega
def decB (n : Int) : ByteArray := ⟨(Lib.itoa n).toArray⟩
set_option maxRecDepth 100000 in
theorem decimal_any (n : Int) (h1 : 1 ≤ n) (h2 : n ≤ 9999) (w : World) :
  Calls Tryz.prog 99 #[.int .i64 n] w fun e w' => e = .returned (.string (decB n)) ∧ Below w.heap.size w w' := by
 obtain ⟨DT, hDT⟩ : ∃ D : ByteArray, decB n = D := ⟨_, rfl⟩
 have q := dec9_any n h1 h2
 rw [show (⟨(Lib.itoa n).toArray⟩ : ByteArray) = DT from hDT] at q
 rw [hDT]
 have HQ := Lib.hid q
 clear q hDT
 go_enter Tryz.func99, Tryz.ntmps99
 go_wp2_with (first | (go_at_call 159; refine (HQ.out _).mono ?_; rintro e w' ⟨rfl, hb⟩) | fail)
 go_ret
 exact ⟨rfl, hb⟩
end Go.Proofs.YtlbglinpgjlbkaaGreatDoor
