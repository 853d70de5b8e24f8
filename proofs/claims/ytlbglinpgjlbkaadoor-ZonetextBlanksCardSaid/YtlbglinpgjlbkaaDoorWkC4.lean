import Derived.Test.YtlbglinpgjlbkaaDoorWkC3
import Derived.Test.YtlbglinpgjlbkaaDoorWkQi
/- Zone texts: the reference's zoned, linked, Rules. Printed by gen_c4.py. -/
namespace Go.Proofs.YtlbglinpgjlbkaaDoor
open Go.RowKit Wk

theorem Tryd.infoRu : (Tryd.prog.info? 58).map (fun i => (i.zero, i.size, i.bytes)) = some (some (.agg #[.string ⟨#[]⟩, .int .i64 0, .int .i64 0, .int .i64 0, .int .i64 0, .int .i64 0, .int .i64 0, .int .i64 0, .int .i64 0, .int .i64 0, .string ⟨#[]⟩]), 11, 104) := by kernel_rfl
end Go.Proofs.YtlbglinpgjlbkaaDoor
