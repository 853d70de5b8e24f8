import Derived.Test.YtnjpceocnldlfaaGreatWkRfA
import Derived.Deep.AppendLies
import Derived.Deep.RegionLaw
import Derived.Test.YtnjpceocnldlfaaGreatWkPl
import Derived.Deep.CutBlock
import Derived.Test.YtnjpceocnldlfaaGreatWkBa
import Derived.Deep.RegionHeld3
/- The reference's periodic sets: Same, ends. -/
namespace Go.Proofs.YtnjpceocnldlfaaGreat
open Go.RowKit Wk

theorem ownI_elt {w : World} {B : Nat} {v : Value} {l : List Int} (h : OwnI w B v l) {i : Nat} (hi : i < l.length) : ∃ g c, v = .slice (some ⟨g, 0, none⟩) l.length c ∧ w.cell? ⟨g, i, none⟩ = some (.int .i64 (l.getD i 0)) := by
  obtain ⟨a, c, rfl, hc⟩ := h.form
  obtain ⟨g, rfl, _, h1⟩ := hc i hi
  exact ⟨g, c, rfl, h1⟩

end Go.Proofs.YtnjpceocnldlfaaGreat
/- The reference's combination of two canonical lists. -/
namespace Go.Proofs.YtnjpceocnldlfaaGreat
open Go.RowKit Wk

end Go.Proofs.YtnjpceocnldlfaaGreat
/- The reference's division, rotation and cut. -/
namespace Go.Proofs.YtnjpceocnldlfaaGreat
open Go.RowKit Wk

/-- two lists of the call's own lie apart -/
def Sep (a b : Value) : Prop := ∀ k, a.ownBlock = some k → b.ownBlock = some k → False
theorem Sep.symm {a b : Value} (h : Sep a b) : Sep b a := fun k h1 h2 => h k h2 h1
theorem Sep.nil (v : Value) : Sep (.slice none 0 0) v := fun k h => by simp [Value.ownBlock] at h

end Go.Proofs.YtnjpceocnldlfaaGreat
/- The reference's cut and Least. -/
namespace Go.Proofs.YtnjpceocnldlfaaGreat
open Go.RowKit Wk

end Go.Proofs.YtnjpceocnldlfaaGreat
/- The reference's Least. -/
namespace Go.Proofs.YtnjpceocnldlfaaGreat
open Go.RowKit Wk

end Go.Proofs.YtnjpceocnldlfaaGreat
/- The reference's Valid of a periodic set. -/
namespace Go.Proofs.YtnjpceocnldlfaaGreat
open Go.RowKit Wk

end Go.Proofs.YtnjpceocnldlfaaGreat
/- The reference: Has, Equal, In, Same, Line. -/
namespace Go.Proofs.YtnjpceocnldlfaaGreat
open Go.RowKit Wk

set_option maxHeartbeats 1000000 in
theorem in12_any (v : Value) (l : List Sp) (z : Int) (w : World) (h : RdS w v l) :
    Calls Tryz.prog 33 #[v, .int .i64 z] w fun e w' => e = .returned (.bool (inL l z)) ∧ Below w.heap.size w w' := by
  obtain ⟨a, c, rfl, hl, hc⟩ := h
  have HC := Lib.hid hc
  clear hc
  go_enter Tryz.func33, Tryz.ntmps33
  go_wp2_with fail
  go_loopw [5] (fun i wr => ∃ k : Nat, i = .int .i64 k ∧ k ≤ l.length ∧ Hid (∀ j, j < k → (l.getD j (0, 0)).2 ≤ z ∨ z < (l.getD j (0, 0)).1) ∧ Below w.heap.size w wr) (fun i _ => l.length - (intOf i).toNat)
  case atStart => exact ⟨0, rfl, Nat.zero_le _, fun j hj => by omega, Below.refl _ _⟩
  case round =>
    obtain ⟨k, rfl, hk, HJ, hB⟩ := hrel
    by_cases hlt : k < l.length
    · obtain ⟨b, o, x, y, rfl, hbw, HXY, d1, d2⟩ := rd_at HC.out hB hlt
      cases g1 : decide (x ≤ z) with
      | false =>
        have HJ2 : Hid (∀ j, j < k + 1 → (l.getD j (0, 0)).2 ≤ z ∨ z < (l.getD j (0, 0)).1) := fun j hj => by
          rcases Nat.lt_succ_iff_lt_or_eq.1 hj with h | rfl
          · exact HJ.out j h
          · rw [HXY.out]; simp at g1; exact .inr g1
        go_wp2
        go_roundw
        case rel => exact ⟨k + 1, by go_num, by omega, HJ2, hB⟩
        case measure => simp [intOf]; omega
      | true =>
        cases g2 : decide (z < y) with
        | false =>
          have HJ2 : Hid (∀ j, j < k + 1 → (l.getD j (0, 0)).2 ≤ z ∨ z < (l.getD j (0, 0)).1) := fun j hj => by
            rcases Nat.lt_succ_iff_lt_or_eq.1 hj with h | rfl
            · exact HJ.out j h
            · rw [HXY.out]; simp at g2; exact .inl g2
          go_wp2
          go_roundw
          case rel => exact ⟨k + 1, by go_num, by omega, HJ2, hB⟩
          case measure => simp [intOf]; omega
        | true =>
          have HT : Hid (inL l z = true) := inL_of_mem (mem_of_getD HXY.out hlt) (by simpa using g1) (by simpa using g2)
          go_wp2
          go_ret
          exact ⟨ret_bool HT.out.symm, hB⟩
    · have HT : Hid (inL l z = false) := no_mem fun j hj => HJ.out j (by omega)
      go_wp2
      go_ret
      exact ⟨ret_bool HT.out.symm, hB⟩

end Go.Proofs.YtnjpceocnldlfaaGreat
/- The reference: Same of runs, Spread. -/
namespace Go.Proofs.YtnjpceocnldlfaaGreat
open Go.RowKit Wk

end Go.Proofs.YtnjpceocnldlfaaGreat
