import Derived.Test.YtnjpceocnldlfaaGreatWkRce
import Derived.Test.YtnjpceocnldlfaaGreatWkRfA
/- periodic.combine: the ends. -/
namespace Go.Proofs.YtnjpceocnldlfaaGreat
open Go.RowKit Wk

set_option maxRecDepth 100000 in
set_option maxHeartbeats 1000000 in
theorem pend_any (v : Value) (l : List Sp) (n : Nat) (w : World) (h : RdS w v l) (hn : n ≤ 2 * l.length) :
    Calls Tryz.prog 177 #[v, .int .i64 n] w fun e w' => ((n < 2 * l.length → e = .returned (.tuple #[.int .i64 (endX l n), .bool true])) ∧ (n = 2 * l.length → e = .returned (.tuple #[.int .i64 0, .bool false]))) ∧ w = w' := by
  obtain ⟨a, c, rfl, hl, hc⟩ := h
  have q1 := nat_half n
  obtain ⟨m, hm⟩ : ∃ m, n / 2 = m := ⟨_, rfl⟩
  rw [hm] at q1
  have q5 : (n : Int) / 2 = (m : Int) := by omega
  have q4 : IntKind.i64.wrap (m : Int) = (m : Int) := by rw [IntKind.wrap_i64]; omega
  by_cases he : n = 2 * l.length
  · have t0 : l.length ≤ m := by omega
    have HE := Lib.hid he
    clear hc he hm
    go_enter Tryz.func177, Tryz.ntmps177
    go_wp2
    go_ret2
    exact ⟨⟨fun hh => by have := HE.out; omega, fun _ => rfl⟩, rfl⟩
  · have t0 : ¬ l.length ≤ m := by omega
    have HE : Hid (endX l n = endE l n) := by unfold Hid endX; rw [if_neg he]
    have HN := Lib.hid he
    have hlt : m < l.length := by omega
    obtain ⟨b, o, x, y, rfl, hbw, HXY, d1, d2⟩ := rd_at hc (Below.refl _ w) hlt
    have HM := Lib.hid hm
    clear hc he
    rcases Nat.mod_two_eq_zero_or_one n with h2 | h2
    · have HE2 : Hid (endE l n = x) := by unfold Hid endE; rw [if_pos h2, HM.out, HXY.out]
      have q2 : (n : Int) % 2 = 0 := by omega
      have q3 : Int.tmod (n : Int) 2 = 0 := by rw [nat_odd, h2]; rfl
      clear h2 hn hm
      go_enter Tryz.func177, Tryz.ntmps177
      go_wp2
      go_ret2
      exact ⟨⟨fun _ => by rw [HE.out, HE2.out]; rfl, fun hh => absurd hh HN.out⟩, rfl⟩
    · have HE2 : Hid (endE l n = y) := by unfold Hid endE; rw [if_neg (by omega), HM.out, HXY.out]
      have q2 : (n : Int) % 2 = 1 := by omega
      have q3 : Int.tmod (n : Int) 2 = 1 := by rw [nat_odd, h2]; rfl
      clear h2 hn hm
      go_enter Tryz.func177, Tryz.ntmps177
      go_wp2
      go_ret2
      exact ⟨⟨fun _ => by rw [HE.out, HE2.out]; rfl, fun hh => absurd hh HN.out⟩, rfl⟩

/-- the list as the program holds it: the last run may be open -/
def opnL (ins : Bool) (fr : Int) (L : List Sp) : List Sp := if ins then L ++ [(fr, 0)] else L
def PcPost (kind : Int) (a b : List Sp) (w : World) (e : Ending) (w' : World) : Prop := ∃ v L, e = .returned v ∧ OwnS w' w.heap.size v L ∧ Canon L ∧ (∀ x, inL L x = ruleB kind (inL a x) (inL b x)) ∧ L.length ≤ a.length + b.length ∧ Below w.heap.size w w'
end Go.Proofs.YtnjpceocnldlfaaGreat
