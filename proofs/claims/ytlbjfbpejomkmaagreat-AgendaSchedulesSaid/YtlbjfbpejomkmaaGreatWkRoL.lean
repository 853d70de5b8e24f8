import Derived.Test.YtlbjfbpejomkmaaGreatRows
import Derived.Test.YtlbjfbpejomkmaaGreatWkBf
import Derived.Deep.SlicePairs
import Derived.SizedLaws
import Derived.ProofKit
import Derived.OpenShut
import Derived.ChangeOld
import Derived.Below
import Derived.Carry
/- Opening what came in: sets, spans, lists, periodic sets. No conditions. -/
namespace Go.Proofs.YtlbjfbpejomkmaaGreat
open Go.ChangeShapes Go.WideShapes Go.ChangeAt Go.RowKit Wk

theorem rowOwn : ownKnob Tryz.prog.godebug = none := by kernel_rfl
theorem rowLaid : laidOutB Tryz.prog = true := by kernel_rfl

theorem open_spans {H : Type} {enc : TypeId × Value → H} {W : World} {spare : Nat → Bool} {held : Bool} {fuel : Nat} {cs : List Value} {x : DataW H × List MemPlace}
  (h : DataW.trod enc Tryz.prog W 0 spare held fuel 26 cs = some x) (hw : ∀ n ∈ x.1.weights Tryz.prog 26, n ≤ reachBytes) : ∃ v l, cs = [v] ∧ RdS W v l := by
 rcases Deep.open_slice_pairs (P := Tryz.prog) Tryz.underlying26 Tryz.underlying46 (by kernel_rfl) rfl rfl (by kernel_rfl) (by kernel_rfl) h with ⟨rfl, rfl⟩ | ⟨a, len, cap, m, n, V0, V1, D0, D1, P0, P1, rfl, hb, hl, hm, hmm, rfl, hx⟩
 ·exact ⟨_, [], rfl, rd_none W⟩
 ·have hlm : len ≤ m := by rw [hmm]; split <;> omega
  have hbytes : Tryz.prog.bytesOf 46 = 16 := by kernel_rfl
  have hln : len ≤ 8796093022208 := by
   have := hw ((len + (m - len)) * Tryz.prog.bytesOf 46) (by simp [DataW.weights, Tryz.underlying26])
   rw [hbytes] at this
   unfold reachBytes at this
   omega
  have each : ∀ i, i < len → ∃ p : Int × Int, V0 i = .int .i64 p.1 ∧ V1 i = .int .i64 p.2 := by
   intro i hi
   obtain ⟨c0, c1, h0, h1⟩ := hx i (by omega)
   obtain ⟨x0, e0, _⟩ := DataW.trod_int (P := Tryz.prog) Tryz.underlying3 h0
   obtain ⟨x1, e1, _⟩ := DataW.trod_int (P := Tryz.prog) Tryz.underlying3 h1
   simp at e0 e1
   exact ⟨(x0, x1), e0, e1⟩
  obtain ⟨q, hq⟩ := Deep.choose_lt each
  have hlen : ((List.range len).map q).length = len := by simp
  refine ⟨_, (List.range len).map q, rfl, some a, cap, by rw [hlen], by rw [hlen]; exact hln, fun i hi => ?_⟩
  rw [hlen] at hi
  obtain ⟨c0, c1, _, _⟩ := hx i (by omega)
  have hsp := World.cell?_spot (hx 0 (by omega)).1
  obtain ⟨b, o, sp⟩ := a
  have hs0 : sp = none := by simpa [Addr.add] using hsp
  subst hs0
  rw [add_plain] at c0 c1
  have hg : ((List.range len).map q).getD i (0, 0) = q i := by simp [List.getD_eq_getElem?_getD, hi]
  rw [hg]
  obtain ⟨e0, e1⟩ := hq i hi
  refine ⟨b, o, rfl, ?_, ?_⟩
  ·rw [← e0]; exact c0
  ·rw [← e1]; exact c1

set_option maxRecDepth 100000 in
theorem open_per {H : Type} {enc : TypeId × Value → H} {W : World} {spare : Nat → Bool} {held : Bool} {fuel : Nat} {cs : List Value} {x : DataW H × List MemPlace}
  (h : DataW.trod enc Tryz.prog W 0 spare held fuel 52 cs = some x) (hw : ∀ n ∈ x.1.weights Tryz.prog 52, n ≤ reachBytes) : ∃ P v l, cs = [.int .i64 P, v] ∧ RdS W v l := by
 obtain ⟨xs, k, rfl, rfl, hcl, hxl, hf⟩ := DataW.trod_struct (P := Tryz.prog) Tryz.underlying52 h
 have hc : Tryz.prog.cellsOf 52 = 2 := by kernel_rfl
 have hc3 : Tryz.prog.cellsOf 3 = 1 := by kernel_rfl
 have hc22 : Tryz.prog.cellsOf 26 = 1 := by kernel_rfl
 rw [hc] at hcl
 match xs, hxl, cs, hcl with
 | [y0, y1], _, [v0, v1], _ =>
  have g0 := hf 0 _ rfl
  have g1 := hf 1 _ rfl
  simp [hc3, hc22] at g0 g1
  obtain ⟨P, e0, _⟩ := DataW.trod_int (P := Tryz.prog) Tryz.underlying3 g0
  obtain ⟨v, l, e1, hr⟩ := open_spans g1 (fun n hn => hw n (by simp [DataW.weights, DataW.weightsEach, Tryz.underlying52, hn]))
  simp at e0 e1
  subst e0 e1
  exact ⟨P, _, l, rfl, hr⟩

end Go.Proofs.YtlbjfbpejomkmaaGreat
