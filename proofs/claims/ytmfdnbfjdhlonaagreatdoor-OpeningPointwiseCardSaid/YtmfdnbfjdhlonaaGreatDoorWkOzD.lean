import Derived.Test.YtmfdnbfjdhlonaaGreatDoorWkOzC
/- Zone texts: the reference's values of digits. -/
namespace Go.Proofs.YtmfdnbfjdhlonaaGreatDoor
open Go.RowKit Wk

theorem decV_dig : ∀ (l : Bs), l.length ≤ 2 → l.all digC = true → decV l ≤ 99 ∧ (l.length ≤ 1 → decV l ≤ 9)
 | [], _, _ => by simp [decV, decF]
 | [a], _, h => by
  simp only [List.all_cons, Bool.and_eq_true] at h
  have := dig_of h.1
  simp [decV, decF]
  omega
 | [a, b], _, h => by
  simp only [List.all_cons, Bool.and_eq_true] at h
  have := dig_of h.1
  have := dig_of h.2.1
  rw [decV_two]
  unfold sixV
  simp
  omega
 | a :: b :: c :: r, h, _ => by simp at h
end Go.Proofs.YtmfdnbfjdhlonaaGreatDoor
namespace Go.Proofs.YtmfdnbfjdhlonaaGreatDoor
open Go.RowKit Wk

def spanP (s : Bs) : Int × Bool := match spanM s with
 | some n => (n, true)
 | none => (0, false)
theorem span_ret {s : Bs} {p : Int × Bool} {a : Int} {b : Bool} (h : spanP s = p) (h2 : spanP s = (a, b)) : Ending.returned (.tuple #[.int .i64 a, .bool b]) = .returned (.tuple #[.int .i64 p.1, .bool p.2]) := by
 rw [← h, h2]
end Go.Proofs.YtmfdnbfjdhlonaaGreatDoor
namespace Go.Proofs.YtmfdnbfjdhlonaaGreatDoor
open Go.RowKit Wk

end Go.Proofs.YtmfdnbfjdhlonaaGreatDoor
namespace Go.Proofs.YtmfdnbfjdhlonaaGreatDoor
open Go.RowKit Wk

theorem clk_ret {s : ByteArray} {n : Int × Int × Int} {a b c : Int} (h : clockM (bsO s) = n) (h2 : clockM (bsO s) = (a, b, c)) : Ending.returned (.tuple #[.int .i64 a, .int .i64 b, .int .i64 c]) = .returned (.tuple #[.int .i64 n.1, .int .i64 n.2.1, .int .i64 n.2.2]) := by
 rw [← h, h2]
theorem last_at (s : ByteArray) (h : 0 < s.size) : (bsO s).getLast? = some (s[s.size - 1]'(by omega)) := by
 rw [List.getLast?_eq_getElem?, bs_len, List.getElem?_eq_getElem (by rw [bs_len]; omega), bs_at s (s.size - 1) (by omega)]
theorem clk_of {s T : Bs} {c : Int} (h1 : clkCut s = T) (h2 : clkOf s = c) {r : Int × Int × Int} (h : ((spanP T).2 = false ∧ r = (0, 0, 3)) ∨ ((spanP T).2 = true ∧ 93600 < (spanP T).1 ∧ r = (0, 0, 2)) ∨ ((spanP T).2 = true ∧ ¬93600 < (spanP T).1 ∧ r = ((spanP T).1, c, 0))) : clockM s = r := by
 unfold clockM
 unfold spanP at h
 rw [h1, h2]
 cases hm : spanM T with
 | none =>
  simp only [hm] at h
  rcases h with h | h | h
  ·exact h.2.symm
  ·exact absurd h.1 (by simp)
  ·exact absurd h.1 (by simp)
 | some n =>
  simp only [hm] at h
  rcases h with h | h | h
  ·exact absurd h.1 (by simp)
  ·rw [h.2.2]
   have : 93600 < n := by have := h.2.1; omega
   simp only [this, if_true]
  ·rw [h.2.2]
   have : ¬93600 < n := by have := h.2.1; omega
   simp only [this, if_false]
end Go.Proofs.YtmfdnbfjdhlonaaGreatDoor
namespace Go.Proofs.YtmfdnbfjdhlonaaGreatDoor
open Go.RowKit Wk

def nv (n : Nat) : Int := -(n : Int)
def pv (n : Nat) : Int := n
end Go.Proofs.YtmfdnbfjdhlonaaGreatDoor
