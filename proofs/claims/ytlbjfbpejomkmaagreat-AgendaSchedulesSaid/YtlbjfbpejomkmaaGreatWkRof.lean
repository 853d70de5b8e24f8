import Derived.Test.YtlbjfbpejomkmaaGreatWkBg
import Derived.Test.YtlbjfbpejomkmaaGreatWkBh
import Derived.Test.YtlbjfbpejomkmaaGreatWkBi
/- runs.Of. -/
namespace Go.Proofs.YtlbjfbpejomkmaaGreat
open Go.RowKit Wk

end Go.Proofs.YtlbjfbpejomkmaaGreat
