import Derived.Test.YtnjpceocnldlfaaGreatWkPq
import Derived.Test.YtnjpceocnldlfaaGreatWkBa
import Derived.Test.YtnjpceocnldlfaaGreatWkRfA
/- Going through two lists in runs: the ends, the rules, done. -/
namespace Go.Proofs.YtnjpceocnldlfaaGreat
open Go.RowKit Wk

theorem nat_half (n : Nat) : Int.tdiv (n : Int) 2 = ((n / 2 : Nat) : Int) := by rw [Int.tdiv_eq_ediv_of_nonneg (by omega)]; omega
theorem nat_odd (n : Nat) : Int.tmod (n : Int) 2 = ((n % 2 : Nat) : Int) := by rw [Int.tmod_eq_emod_of_nonneg (by omega)]; omega

theorem runs_Union_rule (x y : Bool) (w : World) :
    Calls Tryz.prog 137 #[.bool x, .bool y] w fun e w' => e = .returned (.bool (ruleB 0 x y)) ∧ w = w' := by
  cases x <;> cases y <;> (go_enter Tryz.func137, Tryz.ntmps137; go_wp2; go_ret; exact ⟨ret_bool (by decide), rfl⟩)
theorem periodic_Union_rule (x y : Bool) (w : World) :
    Calls Tryz.prog 135 #[.bool x, .bool y] w fun e w' => e = .returned (.bool (ruleB 0 x y)) ∧ w = w' := by
  cases x <;> cases y <;> (go_enter Tryz.func135, Tryz.ntmps135; go_wp2; go_ret; exact ⟨ret_bool (by decide), rfl⟩)
theorem runs_Meet_rule (x y : Bool) (w : World) :
    Calls Tryz.prog 154 #[.bool x, .bool y] w fun e w' => e = .returned (.bool (ruleB 1 x y)) ∧ w = w' := by
  cases x <;> cases y <;> (go_enter Tryz.func154, Tryz.ntmps154; go_wp2; go_ret; exact ⟨ret_bool (by decide), rfl⟩)
theorem periodic_Meet_rule (x y : Bool) (w : World) :
    Calls Tryz.prog 153 #[.bool x, .bool y] w fun e w' => e = .returned (.bool (ruleB 1 x y)) ∧ w = w' := by
  cases x <;> cases y <;> (go_enter Tryz.func153, Tryz.ntmps153; go_wp2; go_ret; exact ⟨ret_bool (by decide), rfl⟩)
theorem runs_Minus_rule (x y : Bool) (w : World) :
    Calls Tryz.prog 156 #[.bool x, .bool y] w fun e w' => e = .returned (.bool (ruleB 2 x y)) ∧ w = w' := by
  cases x <;> cases y <;> (go_enter Tryz.func156, Tryz.ntmps156; go_wp2; go_ret; exact ⟨ret_bool (by decide), rfl⟩)
theorem periodic_Minus_rule (x y : Bool) (w : World) :
    Calls Tryz.prog 155 #[.bool x, .bool y] w fun e w' => e = .returned (.bool (ruleB 2 x y)) ∧ w = w' := by
  cases x <;> cases y <;> (go_enter Tryz.func155, Tryz.ntmps155; go_wp2; go_ret; exact ⟨ret_bool (by decide), rfl⟩)

set_option maxHeartbeats 1000000 in
theorem rend_any (v : Value) (l : List Sp) (n : Nat) (w : World) (h : RdS w v l) (hn : n ≤ 2 * l.length) :
    Calls Tryz.prog 165 #[v, .int .i64 n] w fun e w' => e = .returned (.int .i64 (endX l n)) ∧ w = w' := by
  obtain ⟨a, c, rfl, hl, hc⟩ := h
  have q1 := nat_half n
  have q2 := nat_odd n
  have q3 : IntKind.i64.wrap (2 * (l.length : Int)) = 2 * (l.length : Int) := by rw [IntKind.wrap_i64]; omega
  by_cases he : n = 2 * l.length
  · have t0 : ((n : Int) == 2 * (l.length : Int)) = true := by simp; omega
    have HE : Hid (endX l n = 8796093022208) := by unfold Hid endX; rw [if_pos he]
    clear hc he
    go_enter Tryz.func165, Tryz.ntmps165
    go_wp2
    go_ret
    exact ⟨ret_int HE.out.symm, rfl⟩
  · have t0 : ((n : Int) == 2 * (l.length : Int)) = false := by simp; omega
    have HE : Hid (endX l n = endE l n) := by unfold Hid endX; rw [if_neg he]
    obtain ⟨m, hm⟩ : ∃ m, n / 2 = m := ⟨_, rfl⟩
    have hlt : m < l.length := by omega
    obtain ⟨b, o, x, y, rfl, hbw, HXY, d1, d2⟩ := rd_at hc (Below.refl _ w) hlt
    rw [hm] at q1
    have HM := Lib.hid hm
    have q4 : IntKind.i64.wrap (m : Int) = (m : Int) := by rw [IntKind.wrap_i64]; omega
    clear hc he hm
    rcases Nat.mod_two_eq_zero_or_one n with h2 | h2
    · have HE2 : Hid (endE l n = x) := by unfold Hid endE; rw [if_pos h2, HM.out, HXY.out]
      rw [h2] at q2
      clear h2 hn
      go_enter Tryz.func165, Tryz.ntmps165
      go_wp2
      go_ret
      exact ⟨ret_int (by rw [HE.out, HE2.out]), rfl⟩
    · have HE2 : Hid (endE l n = y) := by unfold Hid endE; rw [if_neg (by omega), HM.out, HXY.out]
      rw [h2] at q2
      clear h2 hn
      go_enter Tryz.func165, Tryz.ntmps165
      go_wp2
      go_ret
      exact ⟨ret_int (by rw [HE.out, HE2.out]), rfl⟩
theorem rdone_any (v : Value) (L : List Sp) (B : Nat) (w : World) (h : OwnS w B v L) (hl : L.length ≤ 8796093022208) :
    Calls Tryz.prog 143 #[v] w fun e w' => (∃ u, e = .returned (.tuple #[u, .int .i64 (dnM L).2]) ∧ OwnS w B u (dnM L).1) ∧ w = w' := by
  have HO := Lib.hid h
  obtain ⟨a, c, rfl, _⟩ := h.form
  clear h
  by_cases hb : 2000 < L.length
  · have t0 : decide ((2000 : Int) < (L.length : Int)) = true := decide_eq_true (by omega)
    have HB : Hid (dnM L = ([], 5)) := by unfold Hid dnM; rw [if_pos hb]
    clear hb
    go_enter Tryz.func143, Tryz.ntmps143
    go_wp2
    go_ret2
    exact ⟨⟨.slice none 0 0, by rw [HB.out]; rfl, by rw [HB.out]; exact OwnS.nil _ _⟩, rfl⟩
  · have t0 : decide ((2000 : Int) < (L.length : Int)) = false := decide_eq_false (by omega)
    have HB : Hid (dnM L = (L, 0)) := by unfold Hid dnM; rw [if_neg hb]
    clear hb
    go_enter Tryz.func143, Tryz.ntmps143
    go_wp2
    go_ret2
    exact ⟨⟨_, by rw [HB.out]; rfl, by rw [HB.out]; exact HO.out⟩, rfl⟩
def RcPost (kind : Int) (a b : List Sp) (w : World) (e : Ending) (w' : World) : Prop := ∃ v, e = .returned (.tuple #[v, .int .i64 (rcM kind a b).2]) ∧ OwnS w' w.heap.size v (rcM kind a b).1 ∧ Below w.heap.size w w'
end Go.Proofs.YtnjpceocnldlfaaGreat
namespace Go.Proofs.YtnjpceocnldlfaaGreat
open Go.RowKit Wk

set_option maxRecDepth 100000 in
set_option maxHeartbeats 1000000 in
theorem pend_any (v : Value) (l : List Sp) (n : Nat) (w : World) (h : RdS w v l) (hn : n ≤ 2 * l.length) :
    Calls Tryz.prog 177 #[v, .int .i64 n] w fun e w' => ((n < 2 * l.length → e = .returned (.tuple #[.int .i64 (endX l n), .bool true])) ∧ (n = 2 * l.length → e = .returned (.tuple #[.int .i64 0, .bool false]))) ∧ w = w' := by
  obtain ⟨a, c, rfl, hl, hc⟩ := h
  have q1 := nat_half n
  obtain ⟨m, hm⟩ : ∃ m, n / 2 = m := ⟨_, rfl⟩
  rw [hm] at q1
  have q5 : (n : Int) / 2 = (m : Int) := by omega
  have q4 : IntKind.i64.wrap (m : Int) = (m : Int) := by rw [IntKind.wrap_i64]; omega
  by_cases he : n = 2 * l.length
  · have t0 : l.length ≤ m := by omega
    have HE := Lib.hid he
    clear hc he hm
    go_enter Tryz.func177, Tryz.ntmps177
    go_wp2
    go_ret2
    exact ⟨⟨fun hh => by have := HE.out; omega, fun _ => rfl⟩, rfl⟩
  · have t0 : ¬ l.length ≤ m := by omega
    have HE : Hid (endX l n = endE l n) := by unfold Hid endX; rw [if_neg he]
    have HN := Lib.hid he
    have hlt : m < l.length := by omega
    obtain ⟨b, o, x, y, rfl, hbw, HXY, d1, d2⟩ := rd_at hc (Below.refl _ w) hlt
    have HM := Lib.hid hm
    clear hc he
    rcases Nat.mod_two_eq_zero_or_one n with h2 | h2
    · have HE2 : Hid (endE l n = x) := by unfold Hid endE; rw [if_pos h2, HM.out, HXY.out]
      have q2 : (n : Int) % 2 = 0 := by omega
      have q3 : Int.tmod (n : Int) 2 = 0 := by rw [nat_odd, h2]; rfl
      clear h2 hn hm
      go_enter Tryz.func177, Tryz.ntmps177
      go_wp2
      go_ret2
      exact ⟨⟨fun _ => by rw [HE.out, HE2.out]; rfl, fun hh => absurd hh HN.out⟩, rfl⟩
    · have HE2 : Hid (endE l n = y) := by unfold Hid endE; rw [if_neg (by omega), HM.out, HXY.out]
      have q2 : (n : Int) % 2 = 1 := by omega
      have q3 : Int.tmod (n : Int) 2 = 1 := by rw [nat_odd, h2]; rfl
      clear h2 hn hm
      go_enter Tryz.func177, Tryz.ntmps177
      go_wp2
      go_ret2
      exact ⟨⟨fun _ => by rw [HE.out, HE2.out]; rfl, fun hh => absurd hh HN.out⟩, rfl⟩

def opnL (ins : Bool) (fr : Int) (L : List Sp) : List Sp := if ins then L ++ [(fr, 0)] else L
def PcPost (kind : Int) (a b : List Sp) (w : World) (e : Ending) (w' : World) : Prop := ∃ v L, e = .returned v ∧ OwnS w' w.heap.size v L ∧ Canon L ∧ (∀ x, inL L x = ruleB kind (inL a x) (inL b x)) ∧ L.length ≤ a.length + b.length ∧ Below w.heap.size w w'
end Go.Proofs.YtnjpceocnldlfaaGreat
