import Derived.Test.YtlbjfbpejomkmaaGreatWkBa
import Derived.Sort.OwnSortedInts
import Derived.Shelf.SlSortCmp.WholeK
import Derived.Shelf.SlSortCmp.NoneTotal
import Derived.Test.YtlbjfbpejomkmaaGreatWkShelfS
import Derived.Test.YtlbjfbpejomkmaaGreatWkRfA
import Derived.Test.YtlbjfbpejomkmaaGreatWkPn
/- slices.SortFunc on a list of spans of the call's own, by the library's contract. -/
namespace Go.Proofs.YtlbjfbpejomkmaaGreat
open Go.RowKit Wk Go.Sort Go.Shelf

structure BSp where
 val : Sp
 lo : -1152921504606846976 ≤ val.1
 hi : val.1 ≤ 1152921504606846976
instance : Inhabited BSp := ⟨⟨(0, 0), by decide, by decide⟩⟩
end Go.Proofs.YtlbjfbpejomkmaaGreat
namespace Go.Proofs.YtlbjfbpejomkmaaGreat
open Go.RowKit Wk

end Go.Proofs.YtlbjfbpejomkmaaGreat
