import Derived.Test.YtlbjfbpejomkmaaGreatWkPq
import Derived.Test.YtlbjfbpejomkmaaGreatWkPl
/- The ends of spans in order, and the union as a list between them. -/
namespace Go.Proofs.YtlbjfbpejomkmaaGreat
namespace Wk
end Wk
end Go.Proofs.YtlbjfbpejomkmaaGreat
