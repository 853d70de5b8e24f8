import Derived.Test.YtlbjfbpejomkmaaGreatWkVal
import Derived.Test.YtlbjfbpejomkmaaGreatWkPq
import Derived.Test.YtlbjfbpejomkmaaGreatWkPr
/- timeset.isPure. -/
namespace Go.Proofs.YtlbjfbpejomkmaaGreat
open Go.RowKit Wk

end Go.Proofs.YtlbjfbpejomkmaaGreat
namespace Go.Proofs.YtlbjfbpejomkmaaGreat
open Go.RowKit Wk

def Zero7 (W : World) (b : Nat) : Prop := ∀ (o : Nat) (x y : Int), W.cell? ⟨b, o, none⟩ = some (.int .i64 x) → W.cell? ⟨b, o + 1, none⟩ = some (.int .i64 y) → ¬ x < y
theorem Zero7.below {W X : World} {b : Nat} (h : Zero7 W b) (hb : b < W.heap.size) (hX : Below W.heap.size W X) : Zero7 X b := fun o x y h1 h2 => by
  rw [hX.cell (p := ⟨b, o, none⟩) hb] at h1
  rw [hX.cell (p := ⟨b, o + 1, none⟩) hb] at h2
  exact h o x y h1 h2
theorem RdX.zero {W : World} {b : Nat} {v : Value} {l : List Sp} (h : RdS W v l) (hp : ∀ s ∈ l, s.1 < s.2) (hz : Zero7 W b) : RdX W b v l := by
  refine ⟨h, fun b' o n c e h0 e2 => ?_⟩
  obtain ⟨a, c', rfl, hl, hc⟩ := h
  obtain ⟨b3, o3, rfl, c1, c2⟩ := hc 0 h0
  cases e
  subst e2
  have h1 := hp _ (idx_mem h0)
  exact hz _ _ _ c1 c2 h1
def PosSt (s : St) : Prop := (∀ x ∈ s.lf.2, x.1 < x.2) ∧ (∀ x ∈ s.rt.2, x.1 < x.2) ∧ ∀ x ∈ s.l, x.1 < x.2
theorem RdSt.put {W : World} {b : Nat} {s : St} {vl vr vv : Value} (u0 u1 u2 u3 u4 u5 u6 : Value) (h : RdSt W s vl vr vv) (hp : PosSt s) (hz : Zero7 W b) : RdSt (put7 W b u0 u1 u2 u3 u4 u5 u6) s vl vr vv :=
  ⟨((RdX.zero h.1 hp.1 hz).put7 _ _ _ _ _ _ _).1, ((RdX.zero h.2.1 hp.2.1 hz).put7 _ _ _ _ _ _ _).1, ((RdX.zero h.2.2 hp.2.2 hz).put7 _ _ _ _ _ _ _).1⟩
theorem rd_none (w : World) : RdS w (.slice none 0 0) [] := (OwnS.nil w 0).rd (by simp)
structure CbIn (w : World) (a b : St) (al ar av bl br bv f0 f1 : Value) (X : World) : Prop where
  xa : Set7 X w.heap.size (.int .i64 a.lf.1) al (.int .i64 a.rt.1) ar (.int .i64 a.fr) (.int .i64 a.to) av
  xb : Set7 X (w.heap.size + 1) (.int .i64 b.lf.1) bl (.int .i64 b.rt.1) br (.int .i64 b.fr) (.int .i64 b.to) bv
  op : X.cell? ⟨w.heap.size + 1 + 1, 0, none⟩ = some f0 ∧ X.cell? ⟨w.heap.size + 1 + 1, 1, none⟩ = some f1
  xz : Set7 X (w.heap.size + 1 + 1 + 1) (.int .i64 0) (.slice none 0 0) (.int .i64 0) (.slice none 0 0) (.int .i64 0) (.int .i64 0) (.slice none 0 0)
  zz : Zero7 X (w.heap.size + 1 + 1 + 1)
  ra : RdSt X a al ar av
  rb : RdSt X b bl br bv
  be : Below w.heap.size w X
theorem CbIn.below {w X Y : World} {a b : St} {al ar av bl br bv f0 f1 : Value} (h : CbIn w a b al ar av bl br bv f0 f1 X) (hb : Below X.heap.size X Y) : CbIn w a b al ar av bl br bv f0 f1 Y :=
  ⟨h.xa.below hb, h.xb.below hb, ⟨keepCell hb h.op.1, keepCell hb h.op.2⟩, h.xz.below hb, h.zz.below (World.block_lt_of_cell? X ⟨w.heap.size + 1 + 1 + 1, 0, none⟩ h.xz.1.1) hb, keepSt hb h.ra, keepSt hb h.rb, keepBelow h.be hb⟩
end Go.Proofs.YtlbjfbpejomkmaaGreat
