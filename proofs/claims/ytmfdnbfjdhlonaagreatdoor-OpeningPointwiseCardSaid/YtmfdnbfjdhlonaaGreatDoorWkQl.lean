import Derived.Test.YtmfdnbfjdhlonaaGreatDoorWkOqD
import Derived.Test.YtmfdnbfjdhlonaaGreatDoorWkQk
import Derived.Test.YtmfdnbfjdhlonaaGreatDoorWkRfC
/- The reference's Week. -/
namespace Go.Proofs.YtmfdnbfjdhlonaaGreatDoor
open Go.RowKit Wk

def BoxR (W : World) (b : Nat) (H : List (List Sp)) : Prop := ∀ k, k < 7 → ∃ a c, W.cell? ⟨b, k, none⟩ = some (.slice a (H.getD k []).length c) ∧ RdS W (.slice a (H.getD k []).length c) (H.getD k [])
theorem BoxR.below {W W' : World} {b : Nat} {H : List (List Sp)} (h : BoxR W b H) (hb : Below W.heap.size W W') : BoxR W' b H := fun k hk => let ⟨a, c, h1, h2⟩ := h k hk; ⟨a, c, keepCell hb h1, keepRd hb h2⟩
theorem RdH.box {W : World} {b : Nat} {v0 v1 v2 v3 v4 v5 v6 : Value} {H : List (List Sp)} (h : RdH W [v0, v1, v2, v3, v4, v5, v6] H) (c0 : W.cell? ⟨b, 0, none⟩ = some v0) (c1 : W.cell? ⟨b, 1, none⟩ = some v1) (c2 : W.cell? ⟨b, 2, none⟩ = some v2) (c3 : W.cell? ⟨b, 3, none⟩ = some v3) (c4 : W.cell? ⟨b, 4, none⟩ = some v4) (c5 : W.cell? ⟨b, 5, none⟩ = some v5) (c6 : W.cell? ⟨b, 6, none⟩ = some v6) : BoxR W b H := by
 have key : ∀ (k : Nat) (v : Value), W.cell? ⟨b, k, none⟩ = some v → RdS W v (H.getD k []) → ∃ a c, W.cell? ⟨b, k, none⟩ = some (.slice a (H.getD k []).length c) ∧ RdS W (.slice a (H.getD k []).length c) (H.getD k []) := fun k v hc hr => by
  obtain ⟨a, c, rfl⟩ := hr.form
  exact ⟨a, c, hc, hr⟩
 intro k hk
 rcases k with _ | _ | _ | _ | _ | _ | _ | k
 ·exact key 0 v0 c0 (h.2.2 0 (by omega))
 ·exact key 1 v1 c1 (h.2.2 1 (by omega))
 ·exact key 2 v2 c2 (h.2.2 2 (by omega))
 ·exact key 3 v3 c3 (h.2.2 3 (by omega))
 ·exact key 4 v4 c4 (h.2.2 4 (by omega))
 ·exact key 5 v5 c5 (h.2.2 5 (by omega))
 ·exact key 6 v6 c6 (h.2.2 6 (by omega))
 ·omega
end Go.Proofs.YtmfdnbfjdhlonaaGreatDoor
