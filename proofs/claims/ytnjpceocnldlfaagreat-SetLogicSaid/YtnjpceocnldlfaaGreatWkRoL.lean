import Derived.Test.YtnjpceocnldlfaaGreatRows
import Derived.Test.YtnjpceocnldlfaaGreatWkBf
import Derived.Deep.SlicePairs
import Derived.SizedLaws
import Derived.ProofKit
import Derived.OpenShut
import Derived.ChangeOld
import Derived.Below
import Derived.Carry
/- Opening what came in: sets, spans, lists, periodic sets. No conditions. -/
namespace Go.Proofs.YtnjpceocnldlfaaGreat
open Go.ChangeShapes Go.WideShapes Go.ChangeAt Go.RowKit Wk

theorem rowOwn : ownKnob Tryz.prog.godebug = none := by kernel_rfl
theorem rowLaid : laidOutB Tryz.prog = true := by kernel_rfl

theorem open_spans {H : Type} {enc : TypeId × Value → H} {W : World} {spare : Nat → Bool} {held : Bool} {fuel : Nat} {cs : List Value} {x : DataW H × List MemPlace}
    (h : DataW.trod enc Tryz.prog W 0 spare held fuel 22 cs = some x) (hw : ∀ n ∈ x.1.weights Tryz.prog 22, n ≤ reachBytes) : ∃ v l, cs = [v] ∧ RdS W v l := by
  rcases Deep.open_slice_pairs (P := Tryz.prog) Tryz.underlying22 Tryz.underlying40 (by kernel_rfl) rfl rfl (by kernel_rfl) (by kernel_rfl) h with ⟨rfl, rfl⟩ | ⟨a, len, cap, m, n, V0, V1, D0, D1, P0, P1, rfl, hb, hl, hm, hmm, rfl, hx⟩
  · exact ⟨_, [], rfl, rd_none W⟩
  · have hlm : len ≤ m := by rw [hmm]; split <;> omega
    have hbytes : Tryz.prog.bytesOf 40 = 16 := by kernel_rfl
    have hln : len ≤ 8796093022208 := by
      have := hw ((len + (m - len)) * Tryz.prog.bytesOf 40) (by simp [DataW.weights, Tryz.underlying22])
      rw [hbytes] at this
      unfold reachBytes at this
      omega
    have each : ∀ i, i < len → ∃ p : Int × Int, V0 i = .int .i64 p.1 ∧ V1 i = .int .i64 p.2 := by
      intro i hi
      obtain ⟨c0, c1, h0, h1⟩ := hx i (by omega)
      obtain ⟨x0, e0, _⟩ := DataW.trod_int (P := Tryz.prog) Tryz.underlying3 h0
      obtain ⟨x1, e1, _⟩ := DataW.trod_int (P := Tryz.prog) Tryz.underlying3 h1
      simp at e0 e1
      exact ⟨(x0, x1), e0, e1⟩
    obtain ⟨q, hq⟩ := Deep.choose_lt each
    have hlen : ((List.range len).map q).length = len := by simp
    refine ⟨_, (List.range len).map q, rfl, some a, cap, by rw [hlen], by rw [hlen]; exact hln, fun i hi => ?_⟩
    rw [hlen] at hi
    obtain ⟨c0, c1, _, _⟩ := hx i (by omega)
    have hsp := World.cell?_spot (hx 0 (by omega)).1
    obtain ⟨b, o, sp⟩ := a
    have hs0 : sp = none := by simpa [Addr.add] using hsp
    subst hs0
    rw [add_plain] at c0 c1
    have hg : ((List.range len).map q).getD i (0, 0) = q i := by simp [List.getD_eq_getElem?_getD, hi]
    rw [hg]
    obtain ⟨e0, e1⟩ := hq i hi
    refine ⟨b, o, rfl, ?_, ?_⟩
    · rw [← e0]; exact c0
    · rw [← e1]; exact c1

set_option maxRecDepth 100000 in
theorem open_per {H : Type} {enc : TypeId × Value → H} {W : World} {spare : Nat → Bool} {held : Bool} {fuel : Nat} {cs : List Value} {x : DataW H × List MemPlace}
    (h : DataW.trod enc Tryz.prog W 0 spare held fuel 24 cs = some x) (hw : ∀ n ∈ x.1.weights Tryz.prog 24, n ≤ reachBytes) : ∃ P v l, cs = [.int .i64 P, v] ∧ RdS W v l := by
  obtain ⟨xs, k, rfl, rfl, hcl, hxl, hf⟩ := DataW.trod_struct (P := Tryz.prog) Tryz.underlying24 h
  have hc : Tryz.prog.cellsOf 24 = 2 := by kernel_rfl
  have hc3 : Tryz.prog.cellsOf 3 = 1 := by kernel_rfl
  have hc22 : Tryz.prog.cellsOf 22 = 1 := by kernel_rfl
  rw [hc] at hcl
  match xs, hxl, cs, hcl with
  | [y0, y1], _, [v0, v1], _ =>
    have g0 := hf 0 _ rfl
    have g1 := hf 1 _ rfl
    simp [hc3, hc22] at g0 g1
    obtain ⟨P, e0, _⟩ := DataW.trod_int (P := Tryz.prog) Tryz.underlying3 g0
    obtain ⟨v, l, e1, hr⟩ := open_spans g1 (fun n hn => hw n (by simp [DataW.weights, DataW.weightsEach, Tryz.underlying24, hn]))
    simp at e0 e1
    subst e0 e1
    exact ⟨P, _, l, rfl, hr⟩

set_option maxRecDepth 100000 in
theorem open_set {H : Type} {enc : TypeId × Value → H} {W : World} {base : Nat} {spare : Nat → Bool} {held : Bool} {v : Value} {d : DataW H} {p : List MemPlace} (hv : Value.okWide Tryz.prog W .any base 26 v)
    (h : DataW.Trod enc Tryz.prog W 0 spare held 26 v d p) (hw : ∀ n ∈ d.weights Tryz.prog 26, n ≤ reachBytes) :
    ∃ (s : St) (vl vr vv : Value), v = .agg #[.int .i64 s.lf.1, vl, .int .i64 s.rt.1, vr, .int .i64 s.fr, .int .i64 s.to, vv] ∧ RdSt W s vl vr vv := by
  obtain ⟨cs, rfl, hsz⟩ := okWide_struct (P := Tryz.prog) Tryz.underlying26 hv
  obtain ⟨fuel, h⟩ := h
  obtain ⟨xs, k, rfl, hx, hcl, hxl, hf⟩ := DataW.trod_struct (P := Tryz.prog) Tryz.underlying26 h
  have hc : Tryz.prog.cellsOf 26 = 7 := by kernel_rfl
  have hc24 : Tryz.prog.cellsOf 24 = 2 := by kernel_rfl
  have hc3 : Tryz.prog.cellsOf 3 = 1 := by kernel_rfl
  have hc22 : Tryz.prog.cellsOf 22 = 1 := by kernel_rfl
  have hd : d = .agg (xs.map (·.1)) := congrArg Prod.fst hx
  subst hd
  clear hx h hsz
  simp only [Value.cells] at hcl hf
  obtain ⟨cl⟩ := cs
  rw [hc] at hcl
  simp only at hcl hf
  match xs, hxl, cl, hcl with
  | [y0, y1, y2, y3, y4], _, [u0, u1, u2, u3, u4, u5, u6], _ =>
    have g0 := hf 0 _ rfl
    have g1 := hf 1 _ rfl
    have g2 := hf 2 _ rfl
    have g3 := hf 3 _ rfl
    have g4 := hf 4 _ rfl
    simp [hc3, hc22, hc24] at g0 g1 g2 g3 g4
    obtain ⟨P, vl, l, e0, r0⟩ := open_per g0 (fun n hn => hw n (by simp [DataW.weights, DataW.weightsEach, Tryz.underlying26, hn]))
    obtain ⟨Q, vr, m, e1, r1⟩ := open_per g1 (fun n hn => hw n (by simp [DataW.weights, DataW.weightsEach, Tryz.underlying26, hn]))
    obtain ⟨f, e2, _⟩ := DataW.trod_int (P := Tryz.prog) Tryz.underlying3 g2
    obtain ⟨t, e3, _⟩ := DataW.trod_int (P := Tryz.prog) Tryz.underlying3 g3
    obtain ⟨vv, kk, e4, r4⟩ := open_spans g4 (fun n hn => hw n (by simp [DataW.weights, DataW.weightsEach, Tryz.underlying26, hn]))
    simp at e0 e1 e2 e3 e4
    obtain ⟨rfl, rfl⟩ := e0
    obtain ⟨rfl, rfl⟩ := e1
    subst e2 e3 e4
    exact ⟨⟨(P, l), (Q, m), f, t, kk⟩, _, _, _, rfl, r0, r1, r4⟩
end Go.Proofs.YtnjpceocnldlfaaGreat
