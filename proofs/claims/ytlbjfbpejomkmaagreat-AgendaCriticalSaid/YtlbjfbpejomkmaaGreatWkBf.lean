import Derived.Test.YtlbjfbpejomkmaaGreatWkVal
import Derived.Test.YtlbjfbpejomkmaaGreatWkPn
/- timeset.isPure. -/
namespace Go.Proofs.YtlbjfbpejomkmaaGreat
open Go.RowKit Wk

end Go.Proofs.YtlbjfbpejomkmaaGreat
namespace Go.Proofs.YtlbjfbpejomkmaaGreat
open Go.RowKit Wk

def Zero7 (W : World) (b : Nat) : Prop := ∀ (o : Nat) (x y : Int), W.cell? ⟨b, o, none⟩ = some (.int .i64 x) → W.cell? ⟨b, o + 1, none⟩ = some (.int .i64 y) → ¬ x < y
theorem Zero7.below {W X : World} {b : Nat} (h : Zero7 W b) (hb : b < W.heap.size) (hX : Below W.heap.size W X) : Zero7 X b := fun o x y h1 h2 => by
 rw [hX.cell (p := ⟨b, o, none⟩) hb] at h1
 rw [hX.cell (p := ⟨b, o + 1, none⟩) hb] at h2
 exact h o x y h1 h2
theorem RdX.zero {W : World} {b : Nat} {v : Value} {l : List Sp} (h : RdS W v l) (hp : ∀ s ∈ l, s.1 < s.2) (hz : Zero7 W b) : RdX W b v l := by
 refine ⟨h, fun b' o n c e h0 e2 => ?_⟩
 obtain ⟨a, c', rfl, hl, hc⟩ := h
 obtain ⟨b3, o3, rfl, c1, c2⟩ := hc 0 h0
 cases e
 subst e2
 have h1 := hp _ (idx_mem h0)
 exact hz _ _ _ c1 c2 h1
def PosSt (s : St) : Prop := (∀ x ∈ s.lf.2, x.1 < x.2) ∧ (∀ x ∈ s.rt.2, x.1 < x.2) ∧ ∀ x ∈ s.l, x.1 < x.2
theorem RdSt.put {W : World} {b : Nat} {s : St} {vl vr vv : Value} (u0 u1 u2 u3 u4 u5 u6 : Value) (h : RdSt W s vl vr vv) (hp : PosSt s) (hz : Zero7 W b) : RdSt (put7 W b u0 u1 u2 u3 u4 u5 u6) s vl vr vv :=
 ⟨((RdX.zero h.1 hp.1 hz).put7 _ _ _ _ _ _ _).1, ((RdX.zero h.2.1 hp.2.1 hz).put7 _ _ _ _ _ _ _).1, ((RdX.zero h.2.2 hp.2.2 hz).put7 _ _ _ _ _ _ _).1⟩
theorem rd_none (w : World) : RdS w (.slice none 0 0) [] := (OwnS.nil w 0).rd (by simp)
end Go.Proofs.YtlbjfbpejomkmaaGreat
