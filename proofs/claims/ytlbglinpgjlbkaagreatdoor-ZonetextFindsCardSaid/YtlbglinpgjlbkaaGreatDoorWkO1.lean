import Derived.Test.YtlbglinpgjlbkaaGreatDoorWkC7
import Derived.Test.YtlbglinpgjlbkaaGreatDoorWkQn
import Derived.Test.YtlbglinpgjlbkaaGreatDoorWkShelfU
import Derived.Lib.AppendIntMem
import Derived.Deep.RegionHeld3
/- Zone texts: the texts of days of a month. Printed by gen_o1.py. -/
namespace Go.Proofs.YtlbglinpgjlbkaaGreatDoor
open Go.RowKit Wk

theorem wday_len (v : Int) : (getM wdayL v).length ≤ 3 := by
 unfold getM
 split
 ·exact Nat.zero_le _
 ·rename_i h
  have h7 : wdayL.length = 7 := rfl
  have hm : ∀ x ∈ wdayL, x.length ≤ 3 := by decide
  exact hm _ (getD_mem (by omega))
end Go.Proofs.YtlbglinpgjlbkaaGreatDoor
