import Derived.Test.YtlbjfbpejomkmaaGreatWkRfE
/- The reference's Window of a set, Parts. -/
namespace Go.Proofs.YtlbjfbpejomkmaaGreat
open Go.RowKit Wk

end Go.Proofs.YtlbjfbpejomkmaaGreat
