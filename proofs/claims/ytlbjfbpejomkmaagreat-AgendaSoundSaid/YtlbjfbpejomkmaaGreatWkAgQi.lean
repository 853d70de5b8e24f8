import Derived.Test.YtlbjfbpejomkmaaGreatWkAgQa
import Derived.Test.YtlbjfbpejomkmaaGreatWkAgPl
import Derived.Test.YtlbjfbpejomkmaaGreatWkPn
import Derived.Test.YtlbjfbpejomkmaaGreatWkAgQd
import Derived.Test.YtlbjfbpejomkmaaGreatWkAgQh
import Derived.Test.YtlbjfbpejomkmaaGreatWkRfE
import Derived.Test.YtlbjfbpejomkmaaGreatWkAgQe
import Derived.Test.YtlbjfbpejomkmaaGreatWkAgQc
import Derived.Test.YtlbjfbpejomkmaaGreatWkUn
import Derived.Test.YtlbjfbpejomkmaaGreatWkAgQf
/- Agenda, plain: adding over runs and gaps; what Next and Change say. -/
namespace Go.Proofs.YtlbjfbpejomkmaaGreat
namespace Wk

end Wk
end Go.Proofs.YtlbjfbpejomkmaaGreat
namespace Go.Proofs.YtlbjfbpejomkmaaGreat
open Go.RowKit Wk

end Go.Proofs.YtlbjfbpejomkmaaGreat
namespace Go.Proofs.YtlbjfbpejomkmaaGreat
open Go.RowKit Wk

structure SeW (W : World) (b : Nat) (vl vR : Value) (start left : Int) : Prop where
  c0 : W.cell? ⟨b, 0, none⟩ = some vl
  c1 : W.cell? ⟨b, 1, none⟩ = some vR
  c2 : W.cell? ⟨b, 2, none⟩ = some (.int .i64 start)
  c3 : W.cell? ⟨b, 3, none⟩ = some (.int .i64 left)
  f3 : W.frozen? ⟨b, 3, none⟩ = false
theorem SeW.below {W X : World} {b : Nat} {vl vR : Value} {start left : Int} (h : SeW W b vl vR start left) (hb : Below W.heap.size W X) : SeW X b vl vR start left :=
  ⟨keepCell hb h.c0, keepCell hb h.c1, keepCell hb h.c2, keepCell hb h.c3, keepFz hb h.c3 h.f3⟩
theorem SeW.setLeft {W : World} {b : Nat} {vl vR : Value} {start left : Int} (h : SeW W b vl vR start left) (x : Int) : SeW (W.setCell ⟨b, 3, none⟩ (.int .i64 x)) b vl vR start x :=
  ⟨(cell_ne (Or.inr (by decide))).trans h.c0, (cell_ne (Or.inr (by decide))).trans h.c1, (cell_ne (Or.inr (by decide))).trans h.c2, cell_eq h.c3, (frz_set ..).trans h.f3⟩
end Go.Proofs.YtlbjfbpejomkmaaGreat
namespace Go.Proofs.YtlbjfbpejomkmaaGreat
open Go.RowKit Wk

end Go.Proofs.YtlbjfbpejomkmaaGreat
namespace Go.Proofs.YtlbjfbpejomkmaaGreat
open Go.RowKit Wk

def RdP1 (b : Nat) (W : World) (v : Value) (a : List Sp) : Prop :=
  ∃ p c, v = .slice p a.length c ∧ a.length ≤ 24 ∧ ∀ i, i < a.length → ∃ g o, p = some ⟨g, o, none⟩ ∧ g ≠ b ∧ W.cell? ⟨g, o + i * 2, none⟩ = some (.int .i64 (spAt a i).1) ∧ W.cell? ⟨g, o + i * 2 + 1, none⟩ = some (.int .i64 (spAt a i).2)
theorem RdP1.rd {b : Nat} {W : World} {v : Value} {a : List Sp} (h : RdP1 b W v a) : RdS W v a := by
  obtain ⟨p, c, rfl, hl, hc⟩ := h
  exact ⟨p, c, rfl, by omega, fun i hi => let ⟨g, o, e, _, c1, c2⟩ := hc i hi; ⟨g, o, e, c1, c2⟩⟩
theorem RdP1.keep {B b : Nat} {W X : World} {v : Value} {a : List Sp} (h : RdP1 b W v a) (hk : K3 B b b b W X) : RdP1 b X v a := by
  obtain ⟨p, c, rfl, hl, hc⟩ := h
  exact ⟨p, c, rfl, hl, fun i hi => let ⟨g, o, e, hn, c1, c2⟩ := hc i hi; ⟨g, o, e, hn, hk.cell hn hn hn c1, hk.cell hn hn hn c2⟩⟩
theorem RowP.setAt {W : World} {g : Nat} {a : List Sp} (h : RowP W g a) {i : Nat} (hi : i < a.length) (s : Sp) : RowP ((W.setCell ⟨g, i * 2, none⟩ (.int .i64 s.1)).setCell ⟨g, i * 2 + 1, none⟩ (.int .i64 s.2)) g (a.set i s) := by
  intro k hk
  rw [List.length_set] at hk
  refine ⟨?_, ((frz_set ..).trans (frz_set ..)).trans (h k hk).2.1, ((frz_set ..).trans (frz_set ..)).trans (h k hk).2.2⟩
  unfold spAt
  rw [getD_setL a i k s (0, 0) hi]
  by_cases q : k = i
  · subst q
    rw [if_pos rfl]
    exact ⟨(cell_ne (Or.inr (by omega))).trans (cell_eq (h k hk).1.1), cell_eq ((cell_ne (Or.inr (by omega))).trans (h k hk).1.2)⟩
  · rw [if_neg q]
    exact ⟨((cell_ne (Or.inr (by omega))).trans (cell_ne (Or.inr (by omega)))).trans (h k hk).1.1, ((cell_ne (Or.inr (by omega))).trans (cell_ne (Or.inr (by omega)))).trans (h k hk).1.2⟩
end Go.Proofs.YtlbjfbpejomkmaaGreat
