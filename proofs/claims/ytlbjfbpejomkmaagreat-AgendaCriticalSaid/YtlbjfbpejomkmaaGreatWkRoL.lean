import Derived.Test.YtlbjfbpejomkmaaGreatRows
import Derived.Test.YtlbjfbpejomkmaaGreatWkBf
import Derived.Deep.SlicePairs
import Derived.SizedLaws
import Derived.ProofKit
import Derived.OpenShut
import Derived.ChangeOld
import Derived.Below
import Derived.Carry
import Derived.Test.YtlbjfbpejomkmaaGreatWkAgQa
import Derived.Deep.Slices
import Derived.Test.YtlbjfbpejomkmaaGreatWkAgQj
/- Opening what came in: sets, spans, lists, periodic sets. No conditions. -/
namespace Go.Proofs.YtlbjfbpejomkmaaGreat
open Go.ChangeShapes Go.WideShapes Go.ChangeAt Go.RowKit Wk

theorem rowOwn : ownKnob Tryz.prog.godebug = none := by kernel_rfl
theorem rowLaid : laidOutB Tryz.prog = true := by kernel_rfl

theorem open_spans {H : Type} {enc : TypeId × Value → H} {W : World} {spare : Nat → Bool} {held : Bool} {fuel : Nat} {cs : List Value} {x : DataW H × List MemPlace}
  (h : DataW.trod enc Tryz.prog W 0 spare held fuel 26 cs = some x) (hw : ∀ n ∈ x.1.weights Tryz.prog 26, n ≤ reachBytes) : ∃ v l, cs = [v] ∧ RdS W v l := by
 rcases Deep.open_slice_pairs (P := Tryz.prog) Tryz.underlying26 Tryz.underlying46 (by kernel_rfl) rfl rfl (by kernel_rfl) (by kernel_rfl) h with ⟨rfl, rfl⟩ | ⟨a, len, cap, m, n, V0, V1, D0, D1, P0, P1, rfl, hb, hl, hm, hmm, rfl, hx⟩
 ·exact ⟨_, [], rfl, rd_none W⟩
 ·have hlm : len ≤ m := by rw [hmm]; split <;> omega
  have hbytes : Tryz.prog.bytesOf 46 = 16 := by kernel_rfl
  have hln : len ≤ 8796093022208 := by
   have := hw ((len + (m - len)) * Tryz.prog.bytesOf 46) (by simp [DataW.weights, Tryz.underlying26])
   rw [hbytes] at this
   unfold reachBytes at this
   omega
  have each : ∀ i, i < len → ∃ p : Int × Int, V0 i = .int .i64 p.1 ∧ V1 i = .int .i64 p.2 := by
   intro i hi
   obtain ⟨c0, c1, h0, h1⟩ := hx i (by omega)
   obtain ⟨x0, e0, _⟩ := DataW.trod_int (P := Tryz.prog) Tryz.underlying3 h0
   obtain ⟨x1, e1, _⟩ := DataW.trod_int (P := Tryz.prog) Tryz.underlying3 h1
   simp at e0 e1
   exact ⟨(x0, x1), e0, e1⟩
  obtain ⟨q, hq⟩ := Deep.choose_lt each
  have hlen : ((List.range len).map q).length = len := by simp
  refine ⟨_, (List.range len).map q, rfl, some a, cap, by rw [hlen], by rw [hlen]; exact hln, fun i hi => ?_⟩
  rw [hlen] at hi
  obtain ⟨c0, c1, _, _⟩ := hx i (by omega)
  have hsp := World.cell?_spot (hx 0 (by omega)).1
  obtain ⟨b, o, sp⟩ := a
  have hs0 : sp = none := by simpa [Addr.add] using hsp
  subst hs0
  rw [add_plain] at c0 c1
  have hg : ((List.range len).map q).getD i (0, 0) = q i := by simp [List.getD_eq_getElem?_getD, hi]
  rw [hg]
  obtain ⟨e0, e1⟩ := hq i hi
  refine ⟨b, o, rfl, ?_, ?_⟩
  ·rw [← e0]; exact c0
  ·rw [← e1]; exact c1

set_option maxRecDepth 100000 in
theorem open_per {H : Type} {enc : TypeId × Value → H} {W : World} {spare : Nat → Bool} {held : Bool} {fuel : Nat} {cs : List Value} {x : DataW H × List MemPlace}
  (h : DataW.trod enc Tryz.prog W 0 spare held fuel 52 cs = some x) (hw : ∀ n ∈ x.1.weights Tryz.prog 52, n ≤ reachBytes) : ∃ P v l, cs = [.int .i64 P, v] ∧ RdS W v l := by
 obtain ⟨xs, k, rfl, rfl, hcl, hxl, hf⟩ := DataW.trod_struct (P := Tryz.prog) Tryz.underlying52 h
 have hc : Tryz.prog.cellsOf 52 = 2 := by kernel_rfl
 have hc3 : Tryz.prog.cellsOf 3 = 1 := by kernel_rfl
 have hc22 : Tryz.prog.cellsOf 26 = 1 := by kernel_rfl
 rw [hc] at hcl
 match xs, hxl, cs, hcl with
 | [y0, y1], _, [v0, v1], _ =>
  have g0 := hf 0 _ rfl
  have g1 := hf 1 _ rfl
  simp [hc3, hc22] at g0 g1
  obtain ⟨P, e0, _⟩ := DataW.trod_int (P := Tryz.prog) Tryz.underlying3 g0
  obtain ⟨v, l, e1, hr⟩ := open_spans g1 (fun n hn => hw n (by simp [DataW.weights, DataW.weightsEach, Tryz.underlying52, hn]))
  simp at e0 e1
  subst e0 e1
  exact ⟨P, _, l, rfl, hr⟩

set_option maxRecDepth 100000 in
theorem open_list {H : Type} {enc : TypeId × Value → H} {W : World} {base : Nat} {spare : Nat → Bool} {held : Bool} {v : Value} {d : DataW H} {p : List MemPlace} (hv : Value.okWide Tryz.prog W .any base 26 v)
  (h : DataW.Trod enc Tryz.prog W 0 spare held 26 v d p) (hw : ∀ n ∈ d.weights Tryz.prog 26, n ≤ reachBytes) : ∃ l : List Sp, RdS W v l := by
 obtain ⟨a, n, c, rfl⟩ := okWide_slice (P := Tryz.prog) Tryz.underlying26 hv
 obtain ⟨fuel, h⟩ := h
 obtain ⟨u, l, e, hr⟩ := open_spans h hw
 cases e
 exact ⟨l, hr⟩
end Go.Proofs.YtlbjfbpejomkmaaGreat
namespace Go.Proofs.YtlbjfbpejomkmaaGreat
open Go.ChangeShapes Go.WideShapes Go.ChangeAt Go.RowKit Wk

theorem weights_all {H : Type} {P : Program} {e : TypeId} : ∀ {l : List (DataW H)} {d : DataW H} {n : Nat}, d ∈ l → n ∈ d.weights P e → n ∈ DataW.weightsAll P e l
 | [], d, n, hd, _ => by simp at hd
 | x :: r, d, n, hd, hn => by
  unfold DataW.weightsAll
  rcases List.mem_cons.1 hd with rfl | hd
  ·exact List.mem_append_left _ hn
  ·exact List.mem_append_right _ (weights_all hd hn)
theorem weights_slice {H : Type} {P : Program} {t e : TypeId} (ht : P.underlying t = some (.slice e)) {D : Nat → DataW H} {len : Nat} {sp : List (DataW H)} {i n : Nat} (hi : i < len) (hn : n ∈ (D i).weights P e) : n ∈ (DataW.slice ((List.range len).map D) sp).weights P t := by
 unfold DataW.weights
 rw [ht]
 simp only
 refine List.mem_cons_of_mem _ (List.mem_append_left _ (weights_all (d := D i) ?_ hn))
 exact List.mem_map.2 ⟨i, List.mem_range.2 hi, rfl⟩
theorem weights_len {H : Type} {P : Program} {t e : TypeId} (ht : P.underlying t = some (.slice e)) {D : Nat → DataW H} {len : Nat} {sp : List (DataW H)} : (len + sp.length) * P.bytesOf e ∈ (DataW.slice ((List.range len).map D) sp).weights P t := by
 unfold DataW.weights
 rw [ht]
 simp
theorem open_intsJ {H : Type} {enc : TypeId × Value → H} {W : World} {spare : Nat → Bool} {held : Bool} {fuel : Nat} {cs : List Value} {x : DataW H × List MemPlace}
  (h : DataW.trod enc Tryz.prog W 0 spare held fuel 36 cs = some x) (hw : ∀ n ∈ x.1.weights Tryz.prog 36, n ≤ reachBytes) : ∃ v l, cs = [v] ∧ RdJ W v l := by
 rcases Deep.open_slice1 (P := Tryz.prog) Tryz.underlying36 (by kernel_rfl) h with ⟨rfl, rfl⟩ | ⟨a, len, cap, m, n, V, D, Pl, rfl, hb, hl, hm, hmm, rfl, hx⟩
 ·exact ⟨_, [], rfl, none, 0, rfl, by simp, fun i hi => by simp at hi⟩
 ·have hlm : len ≤ m := by rw [hmm]; split <;> omega
  have hln : len ≤ 1152921504606846976 := by
   have := hw _ (weights_len Tryz.underlying36)
   rw [show Tryz.prog.bytesOf 3 = 8 by kernel_rfl] at this
   unfold reachBytes at this
   omega
  have each : ∀ i, i < len → ∃ p : Int, V i = .int .i64 p := by
   intro i hi
   obtain ⟨c0, h0⟩ := hx i (by omega)
   obtain ⟨x0, e0, _⟩ := DataW.trod_int (P := Tryz.prog) Tryz.underlying3 h0
   simp at e0
   exact ⟨x0, e0⟩
  obtain ⟨q, hq⟩ := Deep.choose_lt each
  have hlen : ((List.range len).map q).length = len := by simp
  refine ⟨_, (List.range len).map q, rfl, some a, cap, by rw [hlen], by rw [hlen]; exact hln, fun i hi => ?_⟩
  rw [hlen] at hi
  obtain ⟨c0, _⟩ := hx i (by omega)
  have hsp := World.cell?_spot (hx 0 (by omega)).1
  obtain ⟨b, o, sp⟩ := a
  have hs0 : sp = none := by simpa [Addr.add] using hsp
  subst hs0
  rw [add_plain] at c0
  have hg : ((List.range len).map q).getD i 0 = q i := by simp [List.getD_eq_getElem?_getD, hi]
  rw [hg, ← hq i hi]
  exact ⟨b, o, rfl, c0⟩

set_option maxRecDepth 100000 in
theorem open_task {H : Type} {enc : TypeId × Value → H} {W : World} {spare : Nat → Bool} {held : Bool} {fuel : Nat} {cs : List Value} {x : DataW H × List MemPlace}
  (h : DataW.trod enc Tryz.prog W 0 spare held fuel 44 cs = some x) (hw : ∀ n ∈ x.1.weights Tryz.prog 44, n ≤ reachBytes) : ∃ k : Kv, cs = [.string k.1.nm, .int .i64 k.1.wk, .int .i64 k.1.rs, k.2, .int .i64 k.1.du] ∧ RdJ W k.2 k.1.af := by
 obtain ⟨xs, k, rfl, rfl, hcl, hxl, hf⟩ := DataW.trod_struct (P := Tryz.prog) Tryz.underlying44 h
 have hc : Tryz.prog.cellsOf 44 = 5 := by kernel_rfl
 have hc3 : Tryz.prog.cellsOf 3 = 1 := by kernel_rfl
 have hc9 : Tryz.prog.cellsOf 9 = 1 := by kernel_rfl
 have hc22 : Tryz.prog.cellsOf 36 = 1 := by kernel_rfl
 rw [hc] at hcl
 match xs, hxl, cs, hcl with
 | [y0, y1, y2, y3, y4], _, [v0, v1, v2, v3, v4], _ =>
  have g0 := hf 0 _ rfl
  have g1 := hf 1 _ rfl
  have g2 := hf 2 _ rfl
  have g3 := hf 3 _ rfl
  have g4 := hf 4 _ rfl
  simp [hc3, hc9, hc22] at g0 g1 g2 g3 g4
  obtain ⟨s0, e0, _⟩ := DataW.trod_string (P := Tryz.prog) Tryz.underlying9 g0
  obtain ⟨n1, e1, _⟩ := DataW.trod_int (P := Tryz.prog) Tryz.underlying3 g1
  obtain ⟨n2, e2, _⟩ := DataW.trod_int (P := Tryz.prog) Tryz.underlying3 g2
  obtain ⟨v, l, e3, hr⟩ := open_intsJ g3 (fun n hn => hw n (by simp [DataW.weights, DataW.weightsEach, Tryz.underlying44, hn]))
  obtain ⟨n4, e4, _⟩ := DataW.trod_int (P := Tryz.prog) Tryz.underlying3 g4
  simp at e0 e1 e2 e3 e4
  subst e0 e1 e2 e3 e4
  exact ⟨(⟨s0, n1, n2, l, n4⟩, _), rfl, hr⟩

theorem open_tasks0 {H : Type} {enc : TypeId × Value → H} {W : World} {spare : Nat → Bool} {held : Bool} {fuel : Nat} {cs : List Value} {x : DataW H × List MemPlace}
  (h : DataW.trod enc Tryz.prog W 0 spare held fuel 22 cs = some x) (hw : ∀ n ∈ x.1.weights Tryz.prog 22, n ≤ reachBytes) : ∃ v l, cs = [v] ∧ RdK W v l := by
 rcases Deep.open_slice (P := Tryz.prog) Tryz.underlying22 h with ⟨rfl, rfl⟩ | ⟨a, len, cap, m, n, D, Pl, rfl, hb, hl, hm, hmm, rfl, hx⟩
 ·exact ⟨_, [], rfl, none, 0, rfl, by simp, fun i hi => by simp at hi⟩
 ·have hlm : len ≤ m := by rw [hmm]; split <;> omega
  have hln : len ≤ 1152921504606846976 := by
   have := hw _ (weights_len Tryz.underlying22)
   rw [show Tryz.prog.bytesOf 44 = 64 by kernel_rfl] at this
   unfold reachBytes at this
   omega
  have hc5 : Tryz.prog.cellsOf 44 = 5 := by kernel_rfl
  rw [hc5] at hx
  have each : ∀ i, i < len → ∃ k : Kv, RdJ W k.2 k.1.af ∧ W.cell? ((a.add (i * 5)).add 0) = some (.string k.1.nm) ∧ W.cell? ((a.add (i * 5)).add 1) = some (.int .i64 k.1.wk) ∧ W.cell? ((a.add (i * 5)).add 2) = some (.int .i64 k.1.rs) ∧ W.cell? ((a.add (i * 5)).add 3) = some k.2 ∧ W.cell? ((a.add (i * 5)).add 4) = some (.int .i64 k.1.du) := by
   intro i hi
   obtain ⟨cs, h1, h2⟩ := hx i (by omega)
   obtain ⟨_, _, hcell⟩ := World.cells?_some h1
   obtain ⟨k, rfl, hr⟩ := open_task h2 (fun n hn => hw n (weights_slice Tryz.underlying22 hi hn))
   exact ⟨k, hr, hcell 0 (by omega), hcell 1 (by omega), hcell 2 (by omega), hcell 3 (by omega), hcell 4 (by omega)⟩
  have : Inhabited Kv := ⟨kv0⟩
  obtain ⟨q, hq⟩ := Deep.choose_lt each
  have hlen : ((List.range len).map q).length = len := by simp
  refine ⟨_, (List.range len).map q, rfl, some a, cap, by rw [hlen], by rw [hlen]; exact hln, fun i hi => ?_⟩
  rw [hlen] at hi
  have hg : ((List.range len).map q).getD i kv0 = q i := by simp [List.getD_eq_getElem?_getD, hi]
  rw [hg]
  obtain ⟨hr, c0, c1, c2, c3, c4⟩ := hq i hi
  have hsp := World.cell?_spot (hq 0 (by omega)).2.1
  obtain ⟨b, o, sp⟩ := a
  have hs0 : sp = none := by simpa [Addr.add] using hsp
  subst hs0
  rw [add_plain, add_plain] at c0 c1 c2 c3 c4
  exact ⟨hr, b, o, rfl, c0, c1, c2, c3, c4⟩

set_option maxRecDepth 100000 in
theorem open_set0 {H : Type} {enc : TypeId × Value → H} {W : World} {spare : Nat → Bool} {held : Bool} {fuel : Nat} {cs : List Value} {x : DataW H × List MemPlace}
  (h : DataW.trod enc Tryz.prog W 0 spare held fuel 54 cs = some x) (hw : ∀ n ∈ x.1.weights Tryz.prog 54, n ≤ reachBytes) :
  ∃ s : Sw, cs = [.int .i64 s.1.lf.1, s.2.1, .int .i64 s.1.rt.1, s.2.2.1, .int .i64 s.1.fr, .int .i64 s.1.to, s.2.2.2] ∧ RdSt W s.1 s.2.1 s.2.2.1 s.2.2.2 := by
 obtain ⟨xs, k, rfl, hx, hcl, hxl, hf⟩ := DataW.trod_struct (P := Tryz.prog) Tryz.underlying54 h
 have hc : Tryz.prog.cellsOf 54 = 7 := by kernel_rfl
 have hc24 : Tryz.prog.cellsOf 52 = 2 := by kernel_rfl
 have hc3 : Tryz.prog.cellsOf 3 = 1 := by kernel_rfl
 have hc22 : Tryz.prog.cellsOf 26 = 1 := by kernel_rfl
 obtain ⟨d, p⟩ := x
 have hd : d = .agg (xs.map (·.1)) := congrArg Prod.fst hx
 subst hd
 clear hx h
 rw [hc] at hcl
 match xs, hxl, cs, hcl with
 | [y0, y1, y2, y3, y4], _, [u0, u1, u2, u3, u4, u5, u6], _ =>
  have g0 := hf 0 _ rfl
  have g1 := hf 1 _ rfl
  have g2 := hf 2 _ rfl
  have g3 := hf 3 _ rfl
  have g4 := hf 4 _ rfl
  simp [hc3, hc22, hc24] at g0 g1 g2 g3 g4
  obtain ⟨P, vl, l, e0, r0⟩ := open_per g0 (fun n hn => hw n (by simp [DataW.weights, DataW.weightsEach, Tryz.underlying54, hn]))
  obtain ⟨Q, vr, m, e1, r1⟩ := open_per g1 (fun n hn => hw n (by simp [DataW.weights, DataW.weightsEach, Tryz.underlying54, hn]))
  obtain ⟨f, e2, _⟩ := DataW.trod_int (P := Tryz.prog) Tryz.underlying3 g2
  obtain ⟨t, e3, _⟩ := DataW.trod_int (P := Tryz.prog) Tryz.underlying3 g3
  obtain ⟨vv, kk, e4, r4⟩ := open_spans g4 (fun n hn => hw n (by simp [DataW.weights, DataW.weightsEach, Tryz.underlying54, hn]))
  simp at e0 e1 e2 e3 e4
  obtain ⟨rfl, rfl⟩ := e0
  obtain ⟨rfl, rfl⟩ := e1
  subst e2 e3 e4
  exact ⟨(⟨(P, l), (Q, m), f, t, kk⟩, _, _, _), rfl, r0, r1, r4⟩

theorem open_sets0 {H : Type} {enc : TypeId × Value → H} {W : World} {spare : Nat → Bool} {held : Bool} {fuel : Nat} {cs : List Value} {x : DataW H × List MemPlace}
  (h : DataW.trod enc Tryz.prog W 0 spare held fuel 23 cs = some x) (hw : ∀ n ∈ x.1.weights Tryz.prog 23, n ≤ reachBytes) : ∃ v l, cs = [v] ∧ RdR W v l := by
 rcases Deep.open_slice (P := Tryz.prog) Tryz.underlying23 h with ⟨rfl, rfl⟩ | ⟨a, len, cap, m, n, D, Pl, rfl, hb, hl, hm, hmm, rfl, hx⟩
 ·exact ⟨_, [], rfl, none, 0, rfl, by simp, fun i hi => by simp at hi⟩
 ·have hlm : len ≤ m := by rw [hmm]; split <;> omega
  have hln : len ≤ 1152921504606846976 := by
   have := hw _ (weights_len Tryz.underlying23)
   rw [show Tryz.prog.bytesOf 54 = 104 by kernel_rfl] at this
   unfold reachBytes at this
   omega
  have hc7 : Tryz.prog.cellsOf 54 = 7 := by kernel_rfl
  rw [hc7] at hx
  have each : ∀ i, i < len → ∃ s : Sw, RdSt W s.1 s.2.1 s.2.2.1 s.2.2.2 ∧ W.cell? ((a.add (i * 7)).add 0) = some (.int .i64 s.1.lf.1) ∧ W.cell? ((a.add (i * 7)).add 1) = some s.2.1 ∧ W.cell? ((a.add (i * 7)).add 2) = some (.int .i64 s.1.rt.1) ∧ W.cell? ((a.add (i * 7)).add 3) = some s.2.2.1 ∧ W.cell? ((a.add (i * 7)).add 4) = some (.int .i64 s.1.fr) ∧ W.cell? ((a.add (i * 7)).add 5) = some (.int .i64 s.1.to) ∧ W.cell? ((a.add (i * 7)).add 6) = some s.2.2.2 := by
   intro i hi
   obtain ⟨cs, h1, h2⟩ := hx i (by omega)
   obtain ⟨_, _, hcell⟩ := World.cells?_some h1
   obtain ⟨k, rfl, hr⟩ := open_set0 h2 (fun n hn => hw n (weights_slice Tryz.underlying23 hi hn))
   exact ⟨k, hr, hcell 0 (by omega), hcell 1 (by omega), hcell 2 (by omega), hcell 3 (by omega), hcell 4 (by omega), hcell 5 (by omega), hcell 6 (by omega)⟩
  have : Inhabited Sw := ⟨sw0⟩
  obtain ⟨q, hq⟩ := Deep.choose_lt each
  have hlen : ((List.range len).map q).length = len := by simp
  refine ⟨_, (List.range len).map q, rfl, some a, cap, by rw [hlen], by rw [hlen]; exact hln, fun i hi => ?_⟩
  rw [hlen] at hi
  have hg : ((List.range len).map q).getD i sw0 = q i := by simp [List.getD_eq_getElem?_getD, hi]
  rw [hg]
  obtain ⟨hr, c0, c1, c2, c3, c4, c5, c6⟩ := hq i hi
  have hsp := World.cell?_spot (hq 0 (by omega)).2.1
  obtain ⟨b, o, sp⟩ := a
  have hs0 : sp = none := by simpa [Addr.add] using hsp
  subst hs0
  rw [add_plain, add_plain] at c0 c1 c2 c3 c4 c5 c6
  exact ⟨hr, b, o, rfl, c0, c1, c2, c3, c4, c5, c6⟩

set_option maxRecDepth 100000 in
theorem open_tasks {H : Type} {enc : TypeId × Value → H} {W : World} {base : Nat} {spare : Nat → Bool} {held : Bool} {v : Value} {d : DataW H} {p : List MemPlace} (hv : Value.okWide Tryz.prog W .any base 22 v)
  (h : DataW.Trod enc Tryz.prog W 0 spare held 22 v d p) (hw : ∀ n ∈ d.weights Tryz.prog 22, n ≤ reachBytes) : ∃ l, RdK W v l := by
 obtain ⟨a, n, c, rfl⟩ := okWide_slice (P := Tryz.prog) Tryz.underlying22 hv
 obtain ⟨fuel, h⟩ := h
 obtain ⟨v', l, e, hr⟩ := open_tasks0 h hw
 cases e
 exact ⟨l, hr⟩
set_option maxRecDepth 100000 in
theorem open_sets {H : Type} {enc : TypeId × Value → H} {W : World} {base : Nat} {spare : Nat → Bool} {held : Bool} {v : Value} {d : DataW H} {p : List MemPlace} (hv : Value.okWide Tryz.prog W .any base 23 v)
  (h : DataW.Trod enc Tryz.prog W 0 spare held 23 v d p) (hw : ∀ n ∈ d.weights Tryz.prog 23, n ≤ reachBytes) : ∃ l, RdR W v l := by
 obtain ⟨a, n, c, rfl⟩ := okWide_slice (P := Tryz.prog) Tryz.underlying23 hv
 obtain ⟨fuel, h⟩ := h
 obtain ⟨v', l, e, hr⟩ := open_sets0 h hw
 cases e
 exact ⟨l, hr⟩
end Go.Proofs.YtlbjfbpejomkmaaGreat
namespace Go.Proofs.YtlbjfbpejomkmaaGreat
open Go.ChangeShapes Go.WideShapes Go.ChangeAt Go.RowKit Wk
set_option maxRecDepth 100000 in
theorem tasks_cap {H : Type} {enc : TypeId × Value → H} {W : World} {base : Nat} {spare : Nat → Bool} {held : Bool} {v : Value} {d : DataW H} {p : List MemPlace} (hv : Value.okWide Tryz.prog W .any base 22 v)
  (h : DataW.Trod enc Tryz.prog W 0 spare held 22 v d p) : CapK v := by
 obtain ⟨a, n, c, rfl⟩ := okWide_slice (P := Tryz.prog) Tryz.underlying22 hv
 obtain ⟨fuel, h⟩ := h
 rcases Deep.open_slice (P := Tryz.prog) Tryz.underlying22 h with ⟨e, _⟩ | ⟨a', len, cap, m, k, D, Pl, e, hb, hl, hm, hmm, _, hx⟩
 ·cases e
  intro a n c h
  cases h
  exact Nat.le_refl _
 ·cases e
  intro a n c h
  cases h
  exact hl
end Go.Proofs.YtlbjfbpejomkmaaGreat
