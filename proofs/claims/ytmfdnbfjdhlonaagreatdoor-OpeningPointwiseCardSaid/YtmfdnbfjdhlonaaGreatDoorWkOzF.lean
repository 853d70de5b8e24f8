import Derived.Test.YtmfdnbfjdhlonaaGreatDoorWkOzE
import Derived.Deep.AppendLies
import Derived.Deep.RegionLaw
/- Zone texts: lines of a text (strings.Split at a newline); words as cells. -/
namespace Go.Proofs.YtmfdnbfjdhlonaaGreatDoor
open Go.RowKit Wk

theorem keepFr {W w' : World} {a : Addr} {v : Value} {b : Bool} (hb : Below W.heap.size W w') (h : W.cell? a = some v) (hf : W.frozen? a = b) : w'.frozen? a = b :=
 (hb.frozen (p := a) (World.block_lt_of_cell? W a h)).trans hf
def Glob (w : World) : Prop := ∃ m, w.cell? ⟨0, 0, none⟩ = some (.int .i64 m)
theorem Glob.below {w w' : World} (h : Glob w) (hb : Below w.heap.size w w') : Glob w' := let ⟨m, hm⟩ := h; ⟨m, keepCell hb hm⟩
end Go.Proofs.YtmfdnbfjdhlonaaGreatDoor
namespace Go.Proofs.YtmfdnbfjdhlonaaGreatDoor
open Go.RowKit Wk

end Go.Proofs.YtmfdnbfjdhlonaaGreatDoor
namespace Go.Proofs.YtmfdnbfjdhlonaaGreatDoor
open Go.RowKit Wk

end Go.Proofs.YtmfdnbfjdhlonaaGreatDoor
