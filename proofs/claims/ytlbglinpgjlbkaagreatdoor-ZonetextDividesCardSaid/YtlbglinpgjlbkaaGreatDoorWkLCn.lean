import Derived.Test.YtlbglinpgjlbkaaGreatDoorWkLQ
import Derived.Test.YtlbglinpgjlbkaaGreatDoorWkL0
import Derived.Test.YtlbglinpgjlbkaaGreatDoorWkS1
import Derived.Test.YtlbglinpgjlbkaaGreatDoorWkJ4
/- Zone texts: the law Canonical. Printed by gen_lcn.py. -/
namespace Go.Proofs.YtlbglinpgjlbkaaGreatDoor
open Go.RowKit Wk

theorem sz_valid {s : SrT} (h : validB s = true) : SzS s := by
 obtain ⟨-, -, h1, h2, h3, -⟩ := valid_parts h
 refine ⟨fun r hr => ?_, fun z hz => ⟨?_, fun l hl => ?_⟩, fun x hx => ?_⟩
 ·obtain ⟨p1, -, -, -, -, -, p7⟩ := ru_parts (h1 r hr)
  have := (name_wd p1).2
  have := (letter_wd p7).2
  unfold dashT at this
  refine ⟨by omega, ?_⟩
  split at this
  ·rename_i e; rw [e]; exact Nat.zero_le _
  ·omega
 ·have := (name_wd (zo_parts (h2 z hz)).1).2
  omega
 ·obtain ⟨-, -, -, hl2⟩ := zo_parts (h2 z hz)
  obtain ⟨i, hi, e⟩ := List.mem_iff_getElem.1 hl
  obtain ⟨-, q2, q3, -, -, -⟩ := li_parts ((hl2 i hi).1)
  rw [e] at q2 q3
  have := (fmt_wd q2).2
  refine ⟨?_, by omega⟩
  by_cases e2 : l.ru = []
  ·rw [e2]; exact Nat.zero_le _
  ·have := (name_wd (q3 e2).1).2
   omega
 ·have := (name_wd (h3 x hx).1).2
  have := (name_wd (h3 x hx).2).2
  exact ⟨by omega, by omega⟩
end Go.Proofs.YtlbglinpgjlbkaaGreatDoor
