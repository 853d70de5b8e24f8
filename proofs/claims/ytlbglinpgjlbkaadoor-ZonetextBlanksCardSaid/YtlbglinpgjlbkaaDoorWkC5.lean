import Derived.Test.YtlbglinpgjlbkaaDoorWkC4
/- Zone texts: the reference's Check and Valid. Printed by gen_c5.py. -/
namespace Go.Proofs.YtlbglinpgjlbkaaDoor
open Go.RowKit Wk

end Go.Proofs.YtlbglinpgjlbkaaDoor
