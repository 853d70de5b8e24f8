import Derived.Test.YtlbglinpgjlbkaaGreatDoorWkC3
import Derived.Test.YtlbglinpgjlbkaaGreatDoorWkQi
/- Zone texts: the reference's zoned, linked, Rules. Printed by gen_c4.py. -/
namespace Go.Proofs.YtlbglinpgjlbkaaGreatDoor
open Go.RowKit Wk

theorem Tryz.infoRu : (Tryz.prog.info? 41).map (fun i => (i.zero, i.size, i.bytes)) = some (some (.agg #[.string ⟨#[]⟩, .int .i64 0, .int .i64 0, .int .i64 0, .int .i64 0, .int .i64 0, .int .i64 0, .int .i64 0, .int .i64 0, .int .i64 0, .string ⟨#[]⟩]), 11, 104) := by kernel_rfl
end Go.Proofs.YtlbglinpgjlbkaaGreatDoor
