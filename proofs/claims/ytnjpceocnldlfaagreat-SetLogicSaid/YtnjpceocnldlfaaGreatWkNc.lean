import Derived.Test.YtnjpceocnldlfaaGreatWkC13
import Derived.Test.YtnjpceocnldlfaaGreatWkPu
import Derived.Test.YtnjpceocnldlfaaGreatWkRof
import Derived.Test.YtnjpceocnldlfaaGreatWkBf
import Derived.Test.YtnjpceocnldlfaaGreatWkNa
import Derived.Test.YtnjpceocnldlfaaGreatWkRfC
import Derived.Test.YtnjpceocnldlfaaGreatWkRfX
/- The reference's Not and Move of periodic sets. -/
namespace Go.Proofs.YtnjpceocnldlfaaGreat
open Go.RowKit Wk

end Go.Proofs.YtnjpceocnldlfaaGreat
namespace Go.Proofs.YtnjpceocnldlfaaGreat
open Go.RowKit Wk

def PqPost (r : Per × Int) (w : World) (e : Ending) (w' : World) : Prop := ∃ v', e = .returned (.tuple #[.agg #[.int .i64 r.1.1, v'], .int .i64 r.2]) ∧ RdS w' v' r.1.2 ∧ Below w.heap.size w w'

end Go.Proofs.YtnjpceocnldlfaaGreat
namespace Go.Proofs.YtnjpceocnldlfaaGreat
open Go.RowKit Wk

def cutAt (W : World) (n : Nat) : World := { W with heap := W.heap.extract 0 n }
theorem cutAt_size {W : World} {n : Nat} (h : n ≤ W.heap.size) : (cutAt W n).heap.size = n := by
  show (W.heap.extract 0 n).size = n
  simp; omega
theorem cutAt_below {W : World} {n : Nat} (h : n ≤ W.heap.size) : Below n (cutAt W n) W :=
  ⟨rfl, rfl, rfl, by rw [cutAt_size h]; exact h, fun k hk => by
    show W.heap[k]? = (W.heap.extract 0 n)[k]?
    rw [Array.getElem?_extract]
    simp; omega⟩
theorem cutAt_back {W X : World} {n : Nat} (h : n ≤ W.heap.size) (hb : Below n (cutAt W n) X) (hs : W.heap.size ≤ X.heap.size) : Below n W X :=
  ⟨hb.os, hb.tape, hb.output, hs, fun k hk => (hb.block k hk).trans ((cutAt_below h).block k hk).symm⟩
theorem set7_keep {W X : World} {b n : Nat} {u0 u1 u2 u3 u4 u5 u6 : Value} (h : Set7 W b u0 u1 u2 u3 u4 u5 u6) (hb : b < n) (hX : Below n W X) : Set7 X b u0 u1 u2 u3 u4 u5 u6 := by
  obtain ⟨⟨c0, c1, c2, c3, c4, c5, c6⟩, f0, f1, f2, f3, f4, f5, f6⟩ := h
  have hc : ∀ o, X.cell? ⟨b, o, none⟩ = W.cell? ⟨b, o, none⟩ := fun o => hX.cell (p := ⟨b, o, none⟩) hb
  have hf : ∀ o, X.frozen? ⟨b, o, none⟩ = W.frozen? ⟨b, o, none⟩ := fun o => hX.frozen (p := ⟨b, o, none⟩) hb
  unfold Set7
  rw [hc, hc, hc, hc, hc, hc, hc, hf, hf, hf, hf, hf, hf, hf]
  exact ⟨⟨c0, c1, c2, c3, c4, c5, c6⟩, f0, f1, f2, f3, f4, f5, f6⟩
theorem set7_last {W : World} {b : Nat} {u0 u1 u2 u3 u4 u5 u6 : Value} (h : Set7 W b u0 u1 u2 u3 u4 u5 u6) (u : Value) : Set7 (W.setCell ⟨b, 6, none⟩ u) b u0 u1 u2 u3 u4 u5 u := by
  obtain ⟨⟨c0, c1, c2, c3, c4, c5, c6⟩, f0, f1, f2, f3, f4, f5, f6⟩ := h
  refine ⟨⟨?_, ?_, ?_, ?_, ?_, ?_, ?_⟩, ?_, ?_, ?_, ?_, ?_, ?_, ?_⟩ <;> simp [go_sem, *]

structure NtIn (w : World) (a : St) (al ar av : Value) (X : World) : Prop where
  xa : Set7 X w.heap.size (.int .i64 a.lf.1) al (.int .i64 a.rt.1) ar (.int .i64 a.fr) (.int .i64 a.to) av
  xz : Set7 X (w.heap.size + 1) (.int .i64 0) (.slice none 0 0) (.int .i64 0) (.slice none 0 0) (.int .i64 0) (.int .i64 0) (.slice none 0 0)
  zz : Zero7 X (w.heap.size + 1)
  ra : RdSt X a al ar av
  be : Below w.heap.size w X
theorem NtIn.below {w X Y : World} {a : St} {al ar av : Value} (h : NtIn w a al ar av X) (hb : Below X.heap.size X Y) : NtIn w a al ar av Y :=
  ⟨h.xa.below hb, h.xz.below hb, h.zz.below (World.block_lt_of_cell? X ⟨w.heap.size + 1, 0, none⟩ h.xz.1.1) hb, keepSt hb h.ra, keepBelow h.be hb⟩
theorem PrPost.pq {r : Per × Int} {w w' : World} {e : Ending} (hl : r.1.2.length ≤ 2000) (h : PrPost r w e w') : PqPost r w e w' := by
  obtain ⟨v, rfl, o, b⟩ := h
  exact ⟨v, rfl, o.rd (by omega), b⟩
theorem tNotPer (P : Int) (v : Value) (l : List Sp) (w : World) (h : RdS w v l) : Calls Tryz.prog 99 #[.agg #[.int .i64 P, v]] w (PqPost (perNot (P, l)) w) := (pnot_any P v l w h).mono fun _ _ h => h.pq perNot_len
end Go.Proofs.YtnjpceocnldlfaaGreat
namespace Go.Proofs.YtnjpceocnldlfaaGreat
open Go.RowKit Wk

theorem cut_below {w W X : World} {k n : Nat} (h : Below k w W) (hk : k ≤ n) (hn : n ≤ W.heap.size) (hw : w.heap.size ≤ n) (hX : Below n (cutAt W n) X) : Below k w X :=
  ⟨hX.os.trans h.os, hX.tape.trans h.tape, hX.output.trans h.output, by have := hX.size; rw [cutAt_size hn] at this; omega, fun j hj => ((hX.block j (by omega)).trans ((cutAt_below hn).block j (by omega)).symm).trans (h.block j hj)⟩

end Go.Proofs.YtnjpceocnldlfaaGreat
