import Derived.Test.YtlbjfbpejomkmaaGreatWkRfX
import Derived.Test.YtlbjfbpejomkmaaGreatWkBc
/- Agenda: the reference's Spans. -/
namespace Go.Proofs.YtlbjfbpejomkmaaGreat
open Go.RowKit Wk

set_option maxHeartbeats 1000000 in
theorem spans48_any (v1 v2 : Value) (l1 l2 : List Sp) (w : World) (h1 : RdS w v1 l1) (h2 : RdS w v2 l2) :
  Calls Tryz.prog 19 #[v1, v2] w fun e w' => e = .returned (.bool (decide (l1 = l2))) ∧ Below w.heap.size w w' := by
 have H := Lib.hid (same12_any v1 v2 l1 l2 w h1 h2)
 generalize decide (l1 = l2) = d at *
 obtain ⟨a1, c1, rfl⟩ := h1.form
 obtain ⟨a2, c2, rfl⟩ := h2.form
 clear h1 h2
 go_enter Tryz.func19, Tryz.ntmps19
 go_wp2_with fail
 refine H.out.mono ?_
 rintro e w1 ⟨rfl, hb1⟩
 go_wp2
 go_ret
 exact ⟨rfl, hb1⟩
end Go.Proofs.YtlbjfbpejomkmaaGreat
