import Derived.Test.YtmfdnbfjdhlonaaGreatDoorCards
import Derived.Test.YtmfdnbfjdhlonaaGreatDoorTie
import Derived.Test.YtmfdnbfjdhlonaaGreatDoorWkOqC
import Derived.Test.YtmfdnbfjdhlonaaGreatDoorWkOzF
import Derived.Deep.SlicePairs
import Derived.Deep.DeepHandedRow
import Derived.Deep.DeepWitnessRowRef
import Derived.Lay
import Derived.SevenTiedAt
import Derived.LaidSub
import Derived.SizedLaws
import Derived.ProofKit
import Derived.OpenShut
import Derived.ChangeOld
import Derived.Carry
import Derived.Shelf.Vars
/- Rows of the Opening laws: what they share. -/
namespace Go.Proofs.YtmfdnbfjdhlonaaGreatDoor
open Go.ChangeShapes Go.WideShapes Go.ChangeAt Go.RowKit Wk

theorem rowOwn : ownKnob Tryz.prog.godebug = none := by kernel_rfl
theorem rowLaidO : laidOutB Tryz.prog = true := by kernel_rfl
set_option maxRecDepth 100000 in
theorem glob_of_shaped {W : World} (h : W.ShapedOpen Tryz.prog) : Glob W := cell_of_shapedOpen_int (g := 0) (t := 3) (zero := #[.int .i64 0]) h (of_decide_eq_true (by kernel_rfl)) (by kernel_rfl) rfl (by kernel_rfl) (by kernel_rfl) Tryz.underlying3
theorem open_spans {H : Type} {enc : TypeId × Value → H} {W : World} {spare : Nat → Bool} {held : Bool} {fuel : Nat} {cs : List Value} {x : DataW H × List MemPlace}
  (h : DataW.trod enc Tryz.prog W 0 spare held fuel 22 cs = some x) (hw : ∀ n ∈ x.1.weights Tryz.prog 22, n ≤ reachBytes) : ∃ v l, cs = [v] ∧ RdS W v l := by
 rcases Deep.open_slice_pairs (P := Tryz.prog) Tryz.underlying22 Tryz.underlying41 (by kernel_rfl) rfl rfl (by kernel_rfl) (by kernel_rfl) h with ⟨rfl, rfl⟩ | ⟨a, len, cap, m, n, V0, V1, D0, D1, P0, P1, rfl, hb, hl, hm, hmm, rfl, hx⟩
 ·exact ⟨_, [], rfl, (OwnS.nil W 0).rd (by simp)⟩
 ·have hlm : len ≤ m := by rw [hmm]; split <;> omega
  have hbytes : Tryz.prog.bytesOf 41 = 16 := by kernel_rfl
  have hln : len ≤ 8796093022208 := by
   have := hw ((len + (m - len)) * Tryz.prog.bytesOf 41) (by simp [DataW.weights, Tryz.underlying22])
   rw [hbytes] at this
   unfold reachBytes at this
   omega
  have each : ∀ i, i < len → ∃ p : Int × Int, V0 i = .int .i64 p.1 ∧ V1 i = .int .i64 p.2 := by
   intro i hi
   obtain ⟨c0, c1, h0, h1⟩ := hx i (by omega)
   obtain ⟨x0, e0, _⟩ := DataW.trod_int (P := Tryz.prog) Tryz.underlying3 h0
   obtain ⟨x1, e1, _⟩ := DataW.trod_int (P := Tryz.prog) Tryz.underlying3 h1
   simp at e0 e1
   exact ⟨(x0, x1), e0, e1⟩
  obtain ⟨q, hq⟩ := Deep.choose_lt each
  have hlen : ((List.range len).map q).length = len := by simp
  refine ⟨_, (List.range len).map q, rfl, some a, cap, by rw [hlen], by rw [hlen]; exact hln, fun i hi => ?_⟩
  rw [hlen] at hi
  obtain ⟨c0, c1, _, _⟩ := hx i (by omega)
  have hsp := World.cell?_spot (hx 0 (by omega)).1
  obtain ⟨b, o, sp⟩ := a
  have hs0 : sp = none := by simpa [Addr.add] using hsp
  subst hs0
  rw [add_plain] at c0 c1
  have hg : ((List.range len).map q).getD i (0, 0) = q i := by simp [List.getD_eq_getElem?_getD, hi]
  rw [hg]
  obtain ⟨e0, e1⟩ := hq i hi
  refine ⟨b, o, rfl, ?_, ?_⟩
  ·rw [← e0]; exact c0
  ·rw [← e1]; exact c1
set_option maxRecDepth 100000 in
theorem open_week {H : Type} {enc : TypeId × Value → H} {W : World} {spare : Nat → Bool} {held : Bool} {fuel : Nat} {cs : List Value} {x : DataW H × List MemPlace}
  (h : DataW.trod enc Tryz.prog W 0 spare held fuel 23 cs = some x) (hw : ∀ n ∈ x.1.weights Tryz.prog 23, n ≤ reachBytes) :
  ∃ v0 v1 v2 v3 v4 v5 v6 H, cs = [v0, v1, v2, v3, v4, v5, v6] ∧ RdH W [v0, v1, v2, v3, v4, v5, v6] H := by
 obtain ⟨xs, k, rfl, rfl, hcl, hxl, hf⟩ := DataW.trod_array (P := Tryz.prog) Tryz.underlying23 h
 have hc : Tryz.prog.cellsOf 23 = 7 := by kernel_rfl
 have hc22 : Tryz.prog.cellsOf 22 = 1 := by kernel_rfl
 rw [hc] at hcl
 rw [hc22] at hf
 clear h
 match xs, hxl, cs, hcl with
 | [y0, y1, y2, y3, y4, y5, y6], _, [u0, u1, u2, u3, u4, u5, u6], _ =>
  have g0 := hf 0 (by decide)
  have g1 := hf 1 (by decide)
  have g2 := hf 2 (by decide)
  have g3 := hf 3 (by decide)
  have g4 := hf 4 (by decide)
  have g5 := hf 5 (by decide)
  have g6 := hf 6 (by decide)
  simp at g0 g1 g2 g3 g4 g5 g6
  have hwt : ∀ y ∈ [y0, y1, y2, y3, y4, y5, y6], ∀ n ∈ y.1.weights Tryz.prog 22, n ≤ reachBytes := fun y hy n hn => hw n (by
   simp only [DataW.weights, Tryz.underlying23]
   simp only [List.map_cons, List.map_nil, DataW.weightsAll, List.append_nil, List.mem_append]
   simp only [List.mem_cons, List.not_mem_nil, or_false] at hy
   rcases hy with rfl | rfl | rfl | rfl | rfl | rfl | rfl <;> simp [hn])
  obtain ⟨v0, l0, e0, r0⟩ := open_spans g0 (hwt y0 (by simp))
  obtain ⟨v1, l1, e1, r1⟩ := open_spans g1 (hwt y1 (by simp))
  obtain ⟨v2, l2, e2, r2⟩ := open_spans g2 (hwt y2 (by simp))
  obtain ⟨v3, l3, e3, r3⟩ := open_spans g3 (hwt y3 (by simp))
  obtain ⟨v4, l4, e4, r4⟩ := open_spans g4 (hwt y4 (by simp))
  obtain ⟨v5, l5, e5, r5⟩ := open_spans g5 (hwt y5 (by simp))
  obtain ⟨v6, l6, e6, r6⟩ := open_spans g6 (hwt y6 (by simp))
  simp at e0 e1 e2 e3 e4 e5 e6
  subst e0 e1 e2 e3 e4 e5 e6
  refine ⟨_, _, _, _, _, _, _, [l0, l1, l2, l3, l4, l5, l6], rfl, rfl, rfl, fun i hi => ?_⟩
  rcases i with _ | _ | _ | _ | _ | _ | _ | i <;> first | assumption | omega
set_option maxRecDepth 100000 in
theorem open_hours {H : Type} {enc : TypeId × Value → H} {W : World} {base : Nat} {spare : Nat → Bool} {held : Bool} {v : Value} {d : DataW H} {p : List MemPlace} (hv : Value.okWide Tryz.prog W .any base 25 v)
  (h : DataW.Trod enc Tryz.prog W 0 spare held 25 v d p) (hw : ∀ n ∈ d.weights Tryz.prog 25, n ≤ reachBytes) :
  ∃ v0 v1 v2 v3 v4 v5 v6 H, v = .agg #[v0, v1, v2, v3, v4, v5, v6] ∧ RdH W [v0, v1, v2, v3, v4, v5, v6] H := by
 obtain ⟨cs, rfl, hsz⟩ := okWide_struct (P := Tryz.prog) Tryz.underlying25 hv
 obtain ⟨fuel, h⟩ := h
 obtain ⟨xs, k, rfl, hx, hcl, hxl, hf⟩ := DataW.trod_struct (P := Tryz.prog) Tryz.underlying25 h
 have hc : Tryz.prog.cellsOf 25 = 7 := by kernel_rfl
 have hc23 : Tryz.prog.cellsOf 23 = 7 := by kernel_rfl
 have hd : d = .agg (xs.map (·.1)) := congrArg Prod.fst hx
 subst hd
 clear hx h hsz
 simp only [Value.cells] at hcl hf
 obtain ⟨cl⟩ := cs
 rw [hc] at hcl
 simp only at hcl hf
 match xs, hxl, cl, hcl with
 | [y0], _, [u0, u1, u2, u3, u4, u5, u6], _ =>
  have g0 := hf 0 _ rfl
  simp [hc23] at g0
  obtain ⟨v0, v1, v2, v3, v4, v5, v6, H, e0, r0⟩ := open_week g0 (fun n hn => hw n (by simp [DataW.weights, DataW.weightsEach, Tryz.underlying25, hn]))
  simp at e0
  obtain ⟨rfl, rfl, rfl, rfl, rfl, rfl, rfl⟩ := e0
  exact ⟨_, _, _, _, _, _, _, H, rfl, r0⟩
end Go.Proofs.YtmfdnbfjdhlonaaGreatDoor
