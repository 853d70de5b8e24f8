import Derived.Test.YtlbjfbpejomkmaaGreatWkRfB
import Derived.Test.YtlbjfbpejomkmaaGreatWkPl
import Derived.Test.YtlbjfbpejomkmaaGreatWkForm
import Derived.Test.YtlbjfbpejomkmaaGreatWkVal
/- The reference's Pure and Form. -/
namespace Go.Proofs.YtlbjfbpejomkmaaGreat
open Go.RowKit Wk

end Go.Proofs.YtlbjfbpejomkmaaGreat

namespace Go.Proofs.YtlbjfbpejomkmaaGreat
open Go.RowKit Wk

end Go.Proofs.YtlbjfbpejomkmaaGreat
namespace Go.Proofs.YtlbjfbpejomkmaaGreat
open Go.RowKit Wk

end Go.Proofs.YtlbjfbpejomkmaaGreat
