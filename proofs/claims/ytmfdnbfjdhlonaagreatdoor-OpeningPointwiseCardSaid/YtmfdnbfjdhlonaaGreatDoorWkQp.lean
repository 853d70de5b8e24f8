import Derived.Test.YtmfdnbfjdhlonaaGreatDoorWkQn
/- The law OpeningPointwise. -/
namespace Go.Proofs.YtmfdnbfjdhlonaaGreatDoor
open Go.RowKit Wk

theorem getD_in {α : Type} {l : List α} {k : Nat} {d : α} (h : k < l.length) : l.getD k d ∈ l := by
 rw [List.getD_eq_getElem?_getD, List.getElem?_eq_getElem h]
 exact List.getElem_mem h
theorem any_false {α : Type} {l : List α} {d : α} {f : α → Bool} (h : ∀ i, i < l.length → f (l.getD i d) = false) : l.any f = false := by
 rw [List.any_eq_false]
 intro x hx
 obtain ⟨i, hi, rfl⟩ := List.getElem_of_mem hx
 have := h i hi
 rw [List.getD_eq_getElem?_getD, List.getElem?_eq_getElem hi] at this
 simp only [Option.getD_some] at this
 rw [this]
 simp
def inSp (k : Int) (s : Sp) : Bool := decide (s.1 ≤ k) && decide (k < s.2)
set_option maxRecDepth 100000 in
set_option maxHeartbeats 1000000 in
theorem pw1_any (pb : Nat) (k : Int) (s : Sp) (W : World) (h : W.cell? ⟨pb, 0, none⟩ = some (.int .i64 k)) :
  Calls Tryz.prog 17 #[.agg #[.int .i64 s.1, .int .i64 s.2], .pointer (some ⟨pb, 0, none⟩)] W fun e w' => e = .returned (.bool (inSp k s)) ∧ Below W.heap.size W w' := by
 obtain ⟨x, y⟩ := s
 have hba : Below W.heap.size W (W.alloc (.cells #[.int .i64 x, .int .i64 y] 41)) := (Below.refl _ _).alloc (Nat.le_refl _) _
 have c0 : (W.alloc (.cells #[.int .i64 x, .int .i64 y] 41)).cell? ⟨W.heap.size, 0, none⟩ = some (.int .i64 x) := by simp [go_sem]
 have c1 : (W.alloc (.cells #[.int .i64 x, .int .i64 y] 41)).cell? ⟨W.heap.size, 1, none⟩ = some (.int .i64 y) := by simp [go_sem]
 have ck := keepCell hba h
 have HB := Lib.hid hba
 clear h hba
 simp only
 by_cases h1 : x ≤ k
 ·by_cases h2 : k < y
  ·have g1 : decide (x ≤ k) = true := by simpa using h1
   have g2 : decide (k < y) = true := by simpa using h2
   have HF : Hid (inSp k (x, y) = true) := Lib.hid (by unfold inSp; simp only; rw [g1, g2]; rfl)
   go_enter Tryz.func17, Tryz.ntmps17
   go_wp2_with fail
   go_ret
   exact ⟨ret_bool (by rw [HF.out]), HB.out⟩
  ·have g1 : decide (x ≤ k) = true := by simpa using h1
   have g2 : decide (k < y) = false := by simpa using h2
   have HF : Hid (inSp k (x, y) = false) := Lib.hid (by unfold inSp; simp only; rw [g1, g2]; rfl)
   go_enter Tryz.func17, Tryz.ntmps17
   go_wp2_with fail
   go_ret
   exact ⟨ret_bool (by rw [HF.out]), HB.out⟩
 ·have g1 : decide (x ≤ k) = false := by simpa using h1
  have HF : Hid (inSp k (x, y) = false) := Lib.hid (by unfold inSp; simp only; rw [g1]; rfl)
  go_enter Tryz.func17, Tryz.ntmps17
  go_wp2_with fail
  go_ret
  exact ⟨ret_bool (by rw [HF.out]), HB.out⟩

set_option maxRecDepth 100000 in
set_option maxHeartbeats 2000000 in
theorem idx_pw (pb : Nat) (f : Sp → Bool) (v : Value) (L : List (Sp)) (w : World) (h : RdS w v L) (HF : Hid (∀ x, x ∈ L → ∀ W, Below w.heap.size w W → Calls Tryz.prog 17 #[.agg #[.int .i64 x.1, .int .i64 x.2], .pointer (some ⟨pb, 0, none⟩)] W fun e w' => e = .returned (.bool (f x)) ∧ Below W.heap.size W w')) :
  Calls Tryz.prog 43 #[v, .func (.func 17) #[] #[.pointer (some ⟨pb, 0, none⟩)]] w fun e w' => (∃ r : Int, e = .returned (.int .i64 r) ∧ (decide (0 ≤ r) = L.any f)) ∧ Below w.heap.size w w' := by
 obtain ⟨a, c, rfl, hl, hc⟩ := h
 have HC := Lib.hid hc
 clear hc
 go_enter Tryz.func43, Tryz.ntmps43
 go_wp2_with fail
 go_loopw [5, 8] (fun _ u wr => ∃ k : Nat, u = .int .i64 k ∧ k ≤ L.length ∧ Hid (∀ i, i < k → f (L.getD i (0, 0)) = false) ∧ Below w.heap.size w wr) (fun _ u _ => L.length - (intOf u).toNat)
 case atStart => exact ⟨0, rfl, Nat.zero_le _, fun i hi => by omega, Below.refl _ _⟩
 case round =>
  obtain ⟨k, rfl, hk, HZ, hB⟩ := hrel
  by_cases hlt : k < L.length
  ·have hm : L.getD k (0, 0) ∈ L := getD_in hlt
   obtain ⟨b, o, rfl, c1, d1⟩ := HC.out k hlt
   obtain ⟨x, hx⟩ : ∃ x, L.getD k (0, 0) = x := ⟨_, rfl⟩
   have HX := HF.out _ hm wr hB
   rw [hx] at HX c1 d1
   have c2 := keepCell hB c1
   have d2 := keepCell hB d1
   have HXE := Lib.hid hx
   clear hx hm c1 d1
   obtain ⟨g, hg⟩ : ∃ g, f x = g := ⟨_, rfl⟩
   rw [hg] at HX
   have HG := Lib.hid hg
   have HH := Lib.hid HX
   clear hg HX
   go_wp2_with fail
   refine HH.out.mono ?_
   rintro e w1 ⟨rfl, hb1⟩
   have hB1 := keepBelow hB hb1
   clear c2 d2 hb1
   cases g with
   | false =>
    go_wp2
    go_roundw
    case rel =>
     refine ⟨k + 1, by go_num, by omega, fun i hi => ?_, hB1⟩
     rcases Nat.lt_succ_iff_lt_or_eq.1 hi with h | rfl
     ·exact HZ.out i h
     ·rw [HXE.out]; exact HG.out
    case measure => simp [intOf]; omega
   | true =>
    have hA : L.any f = true := List.any_eq_true.2 ⟨L.getD k (0, 0), getD_in hlt, by rw [HXE.out]; exact HG.out⟩
    go_wp2
    go_ret
    exact ⟨⟨k, rfl, by rw [hA]; simp⟩, hB1⟩
  ·have hA : L.any f = false := any_false (d := (0, 0)) fun i hi => HZ.out i (by omega)
   go_wp2
   go_ret
   exact ⟨⟨-1, rfl, by rw [hA]; simp⟩, hB⟩
theorem con_pw (pb : Nat) (f : Sp → Bool) (v : Value) (L : List (Sp)) (w : World) (h : RdS w v L) (HF : Hid (∀ x, x ∈ L → ∀ W, Below w.heap.size w W → Calls Tryz.prog 17 #[.agg #[.int .i64 x.1, .int .i64 x.2], .pointer (some ⟨pb, 0, none⟩)] W fun e w' => e = .returned (.bool (f x)) ∧ Below W.heap.size W w')) :
  Calls Tryz.prog 16 #[v, .func (.func 17) #[] #[.pointer (some ⟨pb, 0, none⟩)]] w fun e w' => e = .returned (.bool (L.any f)) ∧ Below w.heap.size w w' := by
 have H := Lib.hid (idx_pw pb f v L w h HF)
 obtain ⟨a, c, rfl, _⟩ := h
 go_enter Tryz.func16, Tryz.ntmps16
 go_wp2_with fail
 refine H.out.mono ?_
 rintro e w1 ⟨⟨r, rfl, hr⟩, hb1⟩
 have HRR := Lib.hid hr
 clear hr
 go_wp2
 go_ret
 exact ⟨ret_bool HRR.out, hb1⟩

theorem pw_one {k d : Int} {i : Nat} {s : Sp} (h0 : 0 ≤ k) (h1 : k < 86400) (hi : i < 7) (h2 : 0 ≤ s.1) (h3 : s.1 < s.2) (h4 : s.2 ≤ 86400) :
  decide ((d * 86400 + k - (86400 * (4 + (i : Int)) + s.1)) % 604800 < s.2 - s.1) = (decide (((d + 3) % 7).toNat = i) && inSp k s) := by
 have hm0 := Int.emod_nonneg (d - 4 - i) (b := 7) (by omega)
 have hm1 := Int.emod_lt_of_pos (d - 4 - i) (b := 7) (by omega)
 obtain ⟨m, hm⟩ : ∃ m, (d - 4 - (i : Int)) % 7 = m := ⟨_, rfl⟩
 obtain ⟨q, hq⟩ : ∃ q, (d - 4 - (i : Int)) / 7 = q := ⟨_, rfl⟩
 have hd : d - 4 - (i : Int) = 7 * q + m := by have := Int.mul_ediv_add_emod (d - 4 - i) 7; rw [hm, hq] at this; omega
 rw [hm] at hm0 hm1
 have hi7 : ((d + 3) % 7).toNat = i ↔ m = 0 := by omega
 have e : d * 86400 + k - (86400 * (4 + (i : Int)) + s.1) = (86400 * m + (k - s.1)) + 604800 * q := by omega
 rw [e, Int.add_mul_emod_self_left]
 unfold inSp
 by_cases hz : m = 0
 ·rw [decide_eq_true (hi7.2 hz), Bool.true_and, hz]
  by_cases hk : s.1 ≤ k
  ·rw [Int.emod_eq_of_lt (by omega) (by omega), decide_eq_true hk, Bool.true_and]
   congr 1
   apply propext
   omega
  ·rw [← Int.add_emod_right, Int.emod_eq_of_lt (by omega) (by omega), decide_eq_false hk]
   simp
   omega
 ·rw [decide_eq_false (fun h => hz (hi7.1 h)), Int.emod_eq_of_lt (by omega) (by omega)]
  simp
  omega
theorem any_pick (f : Nat → Bool) (j : Nat) : ∀ n, ((List.range n).any fun i => decide (j = i) && f i) = (decide (j < n) && f j)
 | 0 => by simp
 | n + 1 => by
  rw [List.range_succ, List.any_append, any_pick f j n]
  simp only [List.any_cons, List.any_nil, Bool.or_false]
  by_cases h : j = n
  ·subst h; simp
  ·rcases Nat.lt_or_ge j n with h1 | h1
   ·rw [decide_eq_true h1, decide_eq_false h, decide_eq_true (show j < n + 1 by omega)]; simp
   ·rw [decide_eq_false (show ¬j < n by omega), decide_eq_false h, decide_eq_false (show ¬j < n + 1 by omega)]; simp
theorem any_and {α : Type} (c : Bool) (g : α → Bool) : ∀ l : List α, (l.any fun x => c && g x) = (c && l.any g)
 | [] => by cases c <;> rfl
 | x :: r => by rw [List.any_cons, any_and c g r, List.any_cons]; cases c <;> rfl
theorem any_ext {α : Type} {f g : α → Bool} : ∀ {l : List α}, (∀ x ∈ l, f x = g x) → l.any f = l.any g
 | [], _ => rfl
 | x :: r, h => by rw [List.any_cons, List.any_cons, h x (List.mem_cons_self ..), any_ext fun y hy => h y (List.mem_cons_of_mem _ hy)]
theorem pw_eq {H : List (List Sp)} {k d : Int} (h0 : 0 ≤ k) (h1 : k < 86400) (h : ∀ i, i < 7 → okl (H.getD i []) = true) : onP 604800 (wkT 4 H 7) (d * 86400 + k) = (H.getD ((d + 3) % 7).toNat []).any (inSp k) := by
 unfold wkT
 rw [onP_flat]
 have hj : ((d + 3) % 7).toNat < 7 := by have := Int.emod_lt_of_pos (d + 3) (b := 7) (by omega); omega
 have key : ∀ i ∈ List.range 7, onP 604800 (shf (86400 * (4 + (i : Int))) (H.getD i [])) (d * 86400 + k) = (decide (((d + 3) % 7).toNat = i) && (H.getD i []).any (inSp k)) := by
  intro i hi
  have hi7 := List.mem_range.1 hi
  rw [← any_and]
  unfold onP shf
  rw [List.any_map]
  refine any_ext fun s hs => ?_
  obtain ⟨q1, q2, q3⟩ := (okl_iff (h i hi7)).2.2 s hs
  simp only [Function.comp]
  rw [show 86400 * (4 + (i : Int)) + s.2 - (86400 * (4 + (i : Int)) + s.1) = s.2 - s.1 by omega]
  exact pw_one h0 h1 hi7 q1 q2 q3
 rw [any_ext key, any_pick (fun i => (H.getD i []).any (inSp k)), decide_eq_true hj, Bool.true_and]
theorem onP_per (L : List Sp) (x : Int) : onP 604800 L (x + 604800) = onP 604800 L x ∧ onP 604800 L (x - 604800) = onP 604800 L x := by
 unfold onP
 constructor
 ·congr 1
  funext s
  rw [show x + 604800 - s.1 = x - s.1 + 604800 * 1 by omega, Int.add_mul_emod_self_left]
 ·congr 1
  funext s
  rw [show x - 604800 - s.1 = x - s.1 + 604800 * (-1) by omega, Int.add_mul_emod_self_left]
end Go.Proofs.YtmfdnbfjdhlonaaGreatDoor
