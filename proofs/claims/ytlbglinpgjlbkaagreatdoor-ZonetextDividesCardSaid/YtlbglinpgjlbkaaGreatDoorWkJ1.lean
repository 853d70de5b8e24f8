import Derived.Test.YtlbglinpgjlbkaaGreatDoorWkO1
import Derived.Test.YtlbglinpgjlbkaaGreatDoorWkRp
import Derived.Shelf.Strings.BuilderK
import Derived.Shelf.Strings.BuilderF
/- Zone texts: a builder that a call made, strings.Join by blanks, and the lengths of the words of a line. -/
namespace Go.Proofs.YtlbglinpgjlbkaaGreatDoor
open Go.RowKit Wk

theorem Blk.others {w w' : World} {b b' : Nat} {cs : Array Value} {T : TypeId} (h : Blk w b' cs T) (hk : Lib.OthersKept 5 (some b) w w') (hn : b' ≠ b) (hT : T ≠ 5) : Blk w' b' cs T :=
 hk b' _ h (fun e => hn (by injection e)) fun c fz e => hT (by injection e)

end Go.Proofs.YtlbglinpgjlbkaaGreatDoor
