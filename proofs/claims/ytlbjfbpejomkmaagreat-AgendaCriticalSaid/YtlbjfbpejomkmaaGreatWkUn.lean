import Derived.Test.YtlbjfbpejomkmaaGreatWkRfX
import Derived.Test.YtlbjfbpejomkmaaGreatWkPn
import Derived.Laws.AppendOwnNone
import Derived.Test.YtlbjfbpejomkmaaGreatWkBg
import Derived.Test.YtlbjfbpejomkmaaGreatWkBh
import Derived.Test.YtlbjfbpejomkmaaGreatWkBi
import Derived.Test.YtlbjfbpejomkmaaGreatWkBf
/- The reference's lists of integers: insert, Ends. -/
namespace Go.Proofs.YtlbjfbpejomkmaaGreat
open Go.RowKit Wk

end Go.Proofs.YtlbjfbpejomkmaaGreat
namespace Go.Proofs.YtlbjfbpejomkmaaGreat
open Go.RowKit Wk

end Go.Proofs.YtlbjfbpejomkmaaGreat
namespace Go.Proofs.YtlbjfbpejomkmaaGreat
open Go.RowKit Wk
namespace Wk
end Wk

end Go.Proofs.YtlbjfbpejomkmaaGreat
