import Derived.Test.YtlbglinpgjlbkaaGreatDoorWkRowZ
import Derived.Test.YtlbglinpgjlbkaaGreatDoorWkC3
import Derived.Deep.Slices
/- Opening an api.Source that came in. Printed by gen_op.py. No conditions. -/
namespace Go.Proofs.YtlbglinpgjlbkaaGreatDoor
open Go.ChangeShapes Go.WideShapes Go.ChangeAt Go.RowKit Wk

theorem weights_all {H : Type} {P : Program} {e : TypeId} : ∀ {l : List (DataW H)} {d : DataW H} {n : Nat}, d ∈ l → n ∈ d.weights P e → n ∈ DataW.weightsAll P e l
 | [], d, n, hd, _ => by simp at hd
 | x :: r, d, n, hd, hn => by
  unfold DataW.weightsAll
  rcases List.mem_cons.1 hd with rfl | hd
  ·exact List.mem_append_left _ hn
  ·exact List.mem_append_right _ (weights_all hd hn)
theorem weights_slice {H : Type} {P : Program} {t e : TypeId} (ht : P.underlying t = some (.slice e)) {D : Nat → DataW H} {len : Nat} {sp : List (DataW H)} {i n : Nat} (hi : i < len) (hn : n ∈ (D i).weights P e) : n ∈ (DataW.slice ((List.range len).map D) sp).weights P t := by
 unfold DataW.weights
 rw [ht]
 simp only
 refine List.mem_cons_of_mem _ (List.mem_append_left _ (weights_all (d := D i) ?_ hn))
 exact List.mem_map.2 ⟨i, List.mem_range.2 hi, rfl⟩
theorem weights_len {H : Type} {P : Program} {t e : TypeId} (ht : P.underlying t = some (.slice e)) {D : Nat → DataW H} {len : Nat} {sp : List (DataW H)} : (len + sp.length) * P.bytesOf e ∈ (DataW.slice ((List.range len).map D) sp).weights P t := by
 unfold DataW.weights
 rw [ht]
 simp
set_option maxRecDepth 100000 in
theorem open_rowG {α : Type} {sz : Nat} {fl : α → List Value} (d0 : α) (Q : α → Prop) {H : Type} {enc : TypeId × Value → H} {W : World} {spare : Nat → Bool} {held : Bool} {fuel : Nat} {cs : List Value} {x : DataW H × List MemPlace} {t e : TypeId}
  (ht : Tryz.prog.underlying t = some (.slice e)) (hc : Tryz.prog.cellsOf e = sz) (hpos : 0 < sz) (hby : 8 ≤ Tryz.prog.bytesOf e) (hf : ∀ x, (fl x).length = sz)
  (hel : ∀ (n : Nat) (cs : List Value) (x : DataW H × List MemPlace), DataW.trod enc Tryz.prog W 0 spare held n e cs = some x → (∀ n ∈ x.1.weights Tryz.prog e, n ≤ reachBytes) → ∃ k, cs = fl k ∧ Q k)
  (h : DataW.trod enc Tryz.prog W 0 spare held fuel t cs = some x) (hw : ∀ n ∈ x.1.weights Tryz.prog t, n ≤ reachBytes) : ∃ v L, cs = [v] ∧ RdG sz fl d0 W v L ∧ CapV v ∧ ∀ i, i < L.length → Q (L.getD i d0) := by
 rcases Deep.open_slice (P := Tryz.prog) ht h with ⟨rfl, rfl⟩ | ⟨a, len, cap, m, n, D, Pl, rfl, hb, hl, hm, hmm, rfl, hx⟩
 ·exact ⟨_, [], rfl, ⟨none, 0, rfl, by simp, fun i hi => by simp at hi⟩, fun a n c h => by cases h; exact Nat.le_refl _, fun i hi => by simp at hi⟩
 ·have hlm : len ≤ m := by rw [hmm]; split <;> omega
  have hln : len ≤ 1152921504606846976 := by
   have h1 := hw _ (weights_len ht)
   have h2 : len * 8 ≤ (len + ((List.range (m - len)).map fun j => D (len + j)).length) * Tryz.prog.bytesOf e := Nat.mul_le_mul (Nat.le_add_right _ _) hby
   unfold reachBytes at h1
   omega
  rw [hc] at hx
  have each : ∀ i, i < len → ∃ k : α, Q k ∧ ∀ j, j < sz → W.cell? ((a.add (i * sz)).add j) = (fl k)[j]? := by
   intro i hi
   obtain ⟨cs, h1, h2⟩ := hx i (by omega)
   obtain ⟨_, _, hcell⟩ := World.cells?_some h1
   obtain ⟨k, rfl, hr⟩ := hel _ _ _ h2 (fun n hn => hw n (weights_slice ht hi hn))
   exact ⟨k, hr, hcell⟩
  have : Inhabited α := ⟨d0⟩
  obtain ⟨q, hq⟩ := Deep.choose_lt each
  have hlen : ((List.range len).map q).length = len := by simp
  have hg : ∀ i, i < len → ((List.range len).map q).getD i d0 = q i := fun i hi => by simp [List.getD_eq_getElem?_getD, hi]
  refine ⟨_, (List.range len).map q, rfl, ⟨some a, cap, by rw [hlen], by rw [hlen]; exact hln, fun i hi => ?_⟩, fun a n c h => by cases h; exact hl, fun i hi => ?_⟩
  ·rw [hlen] at hi
   rw [hg i hi]
   have h0 := (hq 0 (by omega)).2 0 hpos
   rw [List.getElem?_eq_getElem (by rw [hf]; exact hpos)] at h0
   have hsp := World.cell?_spot h0
   obtain ⟨b, o, sp⟩ := a
   have hs0 : sp = none := by simpa [Addr.add] using hsp
   subst hs0
   refine ⟨b, o, rfl, fun j u hj hu => ?_⟩
   have h1 := (hq i hi).2 j hj
   rw [add_plain, add_plain, hu] at h1
   exact h1
  ·rw [hlen] at hi
   rw [hg i hi]
   exact (hq i hi).1

set_option maxRecDepth 100000 in
theorem open_on0 {H : Type} {enc : TypeId × Value → H} {W : World} {spare : Nat → Bool} {held : Bool} {fuel : Nat} {cs : List Value} {x : DataW H × List MemPlace}
  (h : DataW.trod enc Tryz.prog W 0 spare held fuel 39 cs = some x) : ∃ o : OnT, cs = [.int .i64 o.k, .int .i64 o.w, .int .i64 o.d] := by
 obtain ⟨xs, k, rfl, hx, hcl, hxl, hf⟩ := DataW.trod_struct (P := Tryz.prog) Tryz.underlying39 h
 have hc : Tryz.prog.cellsOf 39 = 3 := by kernel_rfl
 have hci : Tryz.prog.cellsOf 3 = 1 := by kernel_rfl
 obtain ⟨d, p⟩ := x
 have hd : d = .agg (xs.map (·.1)) := congrArg Prod.fst hx
 subst hd
 clear hx h
 rw [hc] at hcl
 match xs, hxl, cs, hcl with
 | [y0, y1, y2], _, [u0, u1, u2], _ =>
  have g0 := hf 0 _ rfl
  have g1 := hf 1 _ rfl
  have g2 := hf 2 _ rfl
  simp [hci] at g0 g1 g2
  obtain ⟨x0, e0, _⟩ := DataW.trod_int (P := Tryz.prog) Tryz.underlying3 g0
  obtain ⟨x1, e1, _⟩ := DataW.trod_int (P := Tryz.prog) Tryz.underlying3 g1
  obtain ⟨x2, e2, _⟩ := DataW.trod_int (P := Tryz.prog) Tryz.underlying3 g2
  simp at e0 e1 e2
  subst e0
  subst e1
  subst e2
  exact ⟨⟨x0, x1, x2⟩, rfl⟩
set_option maxRecDepth 100000 in
theorem open_until0 {H : Type} {enc : TypeId × Value → H} {W : World} {spare : Nat → Bool} {held : Bool} {fuel : Nat} {cs : List Value} {x : DataW H × List MemPlace}
  (h : DataW.trod enc Tryz.prog W 0 spare held fuel 100 cs = some x) : ∃ u : UnT, cs = [.int .i64 u.yr, .int .i64 u.mo, .int .i64 u.on.k, .int .i64 u.on.w, .int .i64 u.on.d, .int .i64 u.at_, .int .i64 u.ck] := by
 obtain ⟨xs, k, rfl, hx, hcl, hxl, hf⟩ := DataW.trod_struct (P := Tryz.prog) Tryz.underlying100 h
 have hc : Tryz.prog.cellsOf 100 = 7 := by kernel_rfl
 have hci : Tryz.prog.cellsOf 3 = 1 := by kernel_rfl
 have hc_2 : Tryz.prog.cellsOf 39 = 3 := by kernel_rfl
 obtain ⟨d, p⟩ := x
 have hd : d = .agg (xs.map (·.1)) := congrArg Prod.fst hx
 subst hd
 clear hx h
 rw [hc] at hcl
 match xs, hxl, cs, hcl with
 | [y0, y1, y2, y3, y4], _, [u0, u1, u2, u3, u4, u5, u6], _ =>
  have g0 := hf 0 _ rfl
  have g1 := hf 1 _ rfl
  have g2 := hf 2 _ rfl
  have g3 := hf 3 _ rfl
  have g4 := hf 4 _ rfl
  simp [hci, hc_2] at g0 g1 g2 g3 g4
  obtain ⟨x0, e0, _⟩ := DataW.trod_int (P := Tryz.prog) Tryz.underlying3 g0
  obtain ⟨x1, e1, _⟩ := DataW.trod_int (P := Tryz.prog) Tryz.underlying3 g1
  obtain ⟨x2, e2⟩ := open_on0 g2
  obtain ⟨x3, e3, _⟩ := DataW.trod_int (P := Tryz.prog) Tryz.underlying3 g3
  obtain ⟨x4, e4, _⟩ := DataW.trod_int (P := Tryz.prog) Tryz.underlying3 g4
  simp at e0 e1 e2 e3 e4
  subst e0
  subst e1
  obtain ⟨rfl, rfl, rfl⟩ := e2
  subst e3
  subst e4
  exact ⟨⟨x0, x1, x2, x3, x4⟩, rfl⟩
set_option maxRecDepth 100000 in
theorem open_line0 {H : Type} {enc : TypeId × Value → H} {W : World} {spare : Nat → Bool} {held : Bool} {fuel : Nat} {cs : List Value} {x : DataW H × List MemPlace}
  (h : DataW.trod enc Tryz.prog W 0 spare held fuel 102 cs = some x) : ∃ l : LiT, cs = flLi l := by
 obtain ⟨xs, k, rfl, hx, hcl, hxl, hf⟩ := DataW.trod_struct (P := Tryz.prog) Tryz.underlying102 h
 have hc : Tryz.prog.cellsOf 102 = 12 := by kernel_rfl
 have hcs : Tryz.prog.cellsOf 9 = 1 := by kernel_rfl
 have hci : Tryz.prog.cellsOf 3 = 1 := by kernel_rfl
 have hcb : Tryz.prog.cellsOf 4 = 1 := by kernel_rfl
 have hc_5 : Tryz.prog.cellsOf 100 = 7 := by kernel_rfl
 obtain ⟨d, p⟩ := x
 have hd : d = .agg (xs.map (·.1)) := congrArg Prod.fst hx
 subst hd
 clear hx h
 rw [hc] at hcl
 match xs, hxl, cs, hcl with
 | [y0, y1, y2, y3, y4, y5], _, [u0, u1, u2, u3, u4, u5, u6, u7, u8, u9, u10, u11], _ =>
  have g0 := hf 0 _ rfl
  have g1 := hf 1 _ rfl
  have g2 := hf 2 _ rfl
  have g3 := hf 3 _ rfl
  have g4 := hf 4 _ rfl
  have g5 := hf 5 _ rfl
  simp [hcs, hci, hcb, hc_5] at g0 g1 g2 g3 g4 g5
  obtain ⟨x0, e0, _⟩ := DataW.trod_int (P := Tryz.prog) Tryz.underlying3 g0
  obtain ⟨x1, e1, _⟩ := DataW.trod_string (P := Tryz.prog) Tryz.underlying9 g1
  obtain ⟨x2, e2, _⟩ := DataW.trod_int (P := Tryz.prog) Tryz.underlying3 g2
  obtain ⟨x3, e3, _⟩ := DataW.trod_string (P := Tryz.prog) Tryz.underlying9 g3
  obtain ⟨x4, e4, _⟩ := DataW.trod_bool (P := Tryz.prog) Tryz.underlying4 g4
  obtain ⟨x5, e5⟩ := open_until0 g5
  simp at e0 e1 e2 e3 e4 e5
  subst e0
  subst e1
  subst e2
  subst e3
  subst e4
  obtain ⟨rfl, rfl, rfl, rfl, rfl, rfl, rfl⟩ := e5
  exact ⟨⟨x0, bsO x1, x2, bsO x3, x4, x5⟩, rfl⟩
set_option maxRecDepth 100000 in
theorem open_rule0 {H : Type} {enc : TypeId × Value → H} {W : World} {spare : Nat → Bool} {held : Bool} {fuel : Nat} {cs : List Value} {x : DataW H × List MemPlace}
  (h : DataW.trod enc Tryz.prog W 0 spare held fuel 41 cs = some x) : ∃ r : RuT, cs = flRu r := by
 obtain ⟨xs, k, rfl, hx, hcl, hxl, hf⟩ := DataW.trod_struct (P := Tryz.prog) Tryz.underlying41 h
 have hc : Tryz.prog.cellsOf 41 = 11 := by kernel_rfl
 have hcs : Tryz.prog.cellsOf 9 = 1 := by kernel_rfl
 have hci : Tryz.prog.cellsOf 3 = 1 := by kernel_rfl
 have hc_4 : Tryz.prog.cellsOf 39 = 3 := by kernel_rfl
 obtain ⟨d, p⟩ := x
 have hd : d = .agg (xs.map (·.1)) := congrArg Prod.fst hx
 subst hd
 clear hx h
 rw [hc] at hcl
 match xs, hxl, cs, hcl with
 | [y0, y1, y2, y3, y4, y5, y6, y7, y8], _, [u0, u1, u2, u3, u4, u5, u6, u7, u8, u9, u10], _ =>
  have g0 := hf 0 _ rfl
  have g1 := hf 1 _ rfl
  have g2 := hf 2 _ rfl
  have g3 := hf 3 _ rfl
  have g4 := hf 4 _ rfl
  have g5 := hf 5 _ rfl
  have g6 := hf 6 _ rfl
  have g7 := hf 7 _ rfl
  have g8 := hf 8 _ rfl
  simp [hcs, hci, hc_4] at g0 g1 g2 g3 g4 g5 g6 g7 g8
  obtain ⟨x0, e0, _⟩ := DataW.trod_string (P := Tryz.prog) Tryz.underlying9 g0
  obtain ⟨x1, e1, _⟩ := DataW.trod_int (P := Tryz.prog) Tryz.underlying3 g1
  obtain ⟨x2, e2, _⟩ := DataW.trod_int (P := Tryz.prog) Tryz.underlying3 g2
  obtain ⟨x3, e3, _⟩ := DataW.trod_int (P := Tryz.prog) Tryz.underlying3 g3
  obtain ⟨x4, e4⟩ := open_on0 g4
  obtain ⟨x5, e5, _⟩ := DataW.trod_int (P := Tryz.prog) Tryz.underlying3 g5
  obtain ⟨x6, e6, _⟩ := DataW.trod_int (P := Tryz.prog) Tryz.underlying3 g6
  obtain ⟨x7, e7, _⟩ := DataW.trod_int (P := Tryz.prog) Tryz.underlying3 g7
  obtain ⟨x8, e8, _⟩ := DataW.trod_string (P := Tryz.prog) Tryz.underlying9 g8
  simp at e0 e1 e2 e3 e4 e5 e6 e7 e8
  subst e0
  subst e1
  subst e2
  subst e3
  obtain ⟨rfl, rfl, rfl⟩ := e4
  subst e5
  subst e6
  subst e7
  subst e8
  exact ⟨⟨bsO x0, x1, x2, x3, x4, x5, x6, x7, bsO x8⟩, rfl⟩
set_option maxRecDepth 100000 in
theorem open_link0 {H : Type} {enc : TypeId × Value → H} {W : World} {spare : Nat → Bool} {held : Bool} {fuel : Nat} {cs : List Value} {x : DataW H × List MemPlace}
  (h : DataW.trod enc Tryz.prog W 0 spare held fuel 48 cs = some x) : ∃ l : LkT, cs = flLk l := by
 obtain ⟨xs, k, rfl, hx, hcl, hxl, hf⟩ := DataW.trod_struct (P := Tryz.prog) Tryz.underlying48 h
 have hc : Tryz.prog.cellsOf 48 = 2 := by kernel_rfl
 have hcs : Tryz.prog.cellsOf 9 = 1 := by kernel_rfl
 obtain ⟨d, p⟩ := x
 have hd : d = .agg (xs.map (·.1)) := congrArg Prod.fst hx
 subst hd
 clear hx h
 rw [hc] at hcl
 match xs, hxl, cs, hcl with
 | [y0, y1], _, [u0, u1], _ =>
  have g0 := hf 0 _ rfl
  have g1 := hf 1 _ rfl
  simp [hcs] at g0 g1
  obtain ⟨x0, e0, _⟩ := DataW.trod_string (P := Tryz.prog) Tryz.underlying9 g0
  obtain ⟨x1, e1, _⟩ := DataW.trod_string (P := Tryz.prog) Tryz.underlying9 g1
  simp at e0 e1
  subst e0
  subst e1
  exact ⟨⟨bsO x0, bsO x1⟩, rfl⟩
set_option maxRecDepth 100000 in
theorem open_lines0 {H : Type} {enc : TypeId × Value → H} {W : World} {spare : Nat → Bool} {held : Bool} {fuel : Nat} {cs : List Value} {x : DataW H × List MemPlace}
  (h : DataW.trod enc Tryz.prog W 0 spare held fuel 43 cs = some x) (hw : ∀ n ∈ x.1.weights Tryz.prog 43, n ≤ reachBytes) : ∃ v L, cs = [v] ∧ RdG 12 flLi li0 W v L ∧ CapV v ∧ ∀ i, i < L.length → (fun _ => True) (L.getD i li0) :=
 open_rowG li0 (fun _ => True) Tryz.underlying43 (show Tryz.prog.cellsOf 102 = 12 by kernel_rfl) (by omega) (by rw [show Tryz.prog.bytesOf 102 = 112 by kernel_rfl]; omega) (fun _ => rfl) (fun n cs x h hw => by
  obtain ⟨l, e⟩ := open_line0 h
  exact ⟨l, e, trivial⟩) h hw
set_option maxRecDepth 100000 in
theorem open_rules0 {H : Type} {enc : TypeId × Value → H} {W : World} {spare : Nat → Bool} {held : Bool} {fuel : Nat} {cs : List Value} {x : DataW H × List MemPlace}
  (h : DataW.trod enc Tryz.prog W 0 spare held fuel 23 cs = some x) (hw : ∀ n ∈ x.1.weights Tryz.prog 23, n ≤ reachBytes) : ∃ v L, cs = [v] ∧ RdG 11 flRu ru0 W v L ∧ CapV v ∧ ∀ i, i < L.length → (fun _ => True) (L.getD i ru0) :=
 open_rowG ru0 (fun _ => True) Tryz.underlying23 (show Tryz.prog.cellsOf 41 = 11 by kernel_rfl) (by omega) (by rw [show Tryz.prog.bytesOf 41 = 104 by kernel_rfl]; omega) (fun _ => rfl) (fun n cs x h hw => by
  obtain ⟨l, e⟩ := open_rule0 h
  exact ⟨l, e, trivial⟩) h hw
set_option maxRecDepth 100000 in
theorem open_links0 {H : Type} {enc : TypeId × Value → H} {W : World} {spare : Nat → Bool} {held : Bool} {fuel : Nat} {cs : List Value} {x : DataW H × List MemPlace}
  (h : DataW.trod enc Tryz.prog W 0 spare held fuel 25 cs = some x) (hw : ∀ n ∈ x.1.weights Tryz.prog 25, n ≤ reachBytes) : ∃ v L, cs = [v] ∧ RdG 2 flLk lk0 W v L ∧ CapV v ∧ ∀ i, i < L.length → (fun _ => True) (L.getD i lk0) :=
 open_rowG lk0 (fun _ => True) Tryz.underlying25 (show Tryz.prog.cellsOf 48 = 2 by kernel_rfl) (by omega) (by rw [show Tryz.prog.bytesOf 48 = 32 by kernel_rfl]; omega) (fun _ => rfl) (fun n cs x h hw => by
  obtain ⟨l, e⟩ := open_link0 h
  exact ⟨l, e, trivial⟩) h hw
set_option maxRecDepth 100000 in
theorem open_zone0 {H : Type} {enc : TypeId × Value → H} {W : World} {spare : Nat → Bool} {held : Bool} {fuel : Nat} {cs : List Value} {x : DataW H × List MemPlace}
  (h : DataW.trod enc Tryz.prog W 0 spare held fuel 45 cs = some x) (hw : ∀ n ∈ x.1.weights Tryz.prog 45, n ≤ reachBytes) : ∃ z : ZkT, cs = flZk z ∧ RdLi W z.2 z.1.li ∧ CapV z.2 := by
 obtain ⟨xs, k, rfl, hx, hcl, hxl, hf⟩ := DataW.trod_struct (P := Tryz.prog) Tryz.underlying45 h
 have hc : Tryz.prog.cellsOf 45 = 2 := by kernel_rfl
 have hcs : Tryz.prog.cellsOf 9 = 1 := by kernel_rfl
 have hc_1 : Tryz.prog.cellsOf 43 = 1 := by kernel_rfl
 obtain ⟨d, p⟩ := x
 have hd : d = .agg (xs.map (·.1)) := congrArg Prod.fst hx
 subst hd
 clear hx h
 rw [hc] at hcl
 match xs, hxl, cs, hcl with
 | [y0, y1], _, [u0, u1], _ =>
  have g0 := hf 0 _ rfl
  have g1 := hf 1 _ rfl
  simp [hcs, hc_1] at g0 g1
  obtain ⟨x0, e0, _⟩ := DataW.trod_string (P := Tryz.prog) Tryz.underlying9 g0
  obtain ⟨x1, L, e1, hr, hcp, _⟩ := open_lines0 g1 (fun n hn => hw n (by simp [DataW.weights, DataW.weightsEach, Tryz.underlying45, hn]))
  simp at e0 e1
  subst e0
  subst e1
  exact ⟨(⟨bsO x0, L⟩, u1), rfl, hr, hcp⟩
set_option maxRecDepth 100000 in
theorem open_zones0 {H : Type} {enc : TypeId × Value → H} {W : World} {spare : Nat → Bool} {held : Bool} {fuel : Nat} {cs : List Value} {x : DataW H × List MemPlace}
  (h : DataW.trod enc Tryz.prog W 0 spare held fuel 24 cs = some x) (hw : ∀ n ∈ x.1.weights Tryz.prog 24, n ≤ reachBytes) : ∃ v L, cs = [v] ∧ RdG 2 flZk zk0 W v L ∧ CapV v ∧ ∀ i, i < L.length → (fun z => RdLi W z.2 z.1.li ∧ CapV z.2) (L.getD i zk0) :=
 open_rowG zk0 (fun z => RdLi W z.2 z.1.li ∧ CapV z.2) Tryz.underlying24 (show Tryz.prog.cellsOf 45 = 2 by kernel_rfl) (by omega) (by rw [show Tryz.prog.bytesOf 45 = 40 by kernel_rfl]; omega) (fun _ => rfl) (fun n cs x h hw => open_zone0 h hw) h hw
set_option maxRecDepth 100000 in
theorem open_source0 {H : Type} {enc : TypeId × Value → H} {W : World} {spare : Nat → Bool} {held : Bool} {fuel : Nat} {cs : List Value} {x : DataW H × List MemPlace}
  (h : DataW.trod enc Tryz.prog W 0 spare held fuel 27 cs = some x) (hw : ∀ n ∈ x.1.weights Tryz.prog 27, n ≤ reachBytes) : ∃ rv zv lv S Z, cs = [rv, zv, lv] ∧ RdSr W rv zv lv S Z ∧ CapV rv ∧ CapV zv ∧ CapV lv ∧ ∀ i, i < Z.length → CapV (Z.getD i zk0).2 := by
 obtain ⟨xs, k, rfl, hx, hcl, hxl, hf⟩ := DataW.trod_struct (P := Tryz.prog) Tryz.underlying27 h
 have hc : Tryz.prog.cellsOf 27 = 3 := by kernel_rfl
 have hc_0 : Tryz.prog.cellsOf 23 = 1 := by kernel_rfl
 have hc_1 : Tryz.prog.cellsOf 24 = 1 := by kernel_rfl
 have hc_2 : Tryz.prog.cellsOf 25 = 1 := by kernel_rfl
 obtain ⟨d, p⟩ := x
 have hd : d = .agg (xs.map (·.1)) := congrArg Prod.fst hx
 subst hd
 clear hx h
 rw [hc] at hcl
 match xs, hxl, cs, hcl with
 | [y0, y1, y2], _, [u0, u1, u2], _ =>
  have g0 := hf 0 _ rfl
  have g1 := hf 1 _ rfl
  have g2 := hf 2 _ rfl
  simp [hc_0, hc_1, hc_2] at g0 g1 g2
  obtain ⟨x0, L0, e0, r0, c0, _⟩ := open_rules0 g0 (fun n hn => hw n (by simp [DataW.weights, DataW.weightsEach, Tryz.underlying27, hn]))
  obtain ⟨x1, L1, e1, r1, c1, q1⟩ := open_zones0 g1 (fun n hn => hw n (by simp [DataW.weights, DataW.weightsEach, Tryz.underlying27, hn]))
  obtain ⟨x2, L2, e2, r2, c2, _⟩ := open_links0 g2 (fun n hn => hw n (by simp [DataW.weights, DataW.weightsEach, Tryz.underlying27, hn]))
  simp at e0 e1 e2
  subst e0
  subst e1
  subst e2
  exact ⟨u0, u1, u2, ⟨L0, L1.map Prod.fst, L2⟩, L1, rfl, ⟨r0, ⟨r1, fun i hi => (q1 i hi).1⟩, rfl, r2⟩, c0, c1, c2, fun i hi => (q1 i hi).2⟩
set_option maxRecDepth 100000 in
theorem open_source {H : Type} {enc : TypeId × Value → H} {W : World} {base : Nat} {spare : Nat → Bool} {held : Bool} {v : Value} {d : DataW H} {p : List MemPlace} (hv : Value.okWide Tryz.prog W .any base 27 v)
  (h : DataW.Trod enc Tryz.prog W 0 spare held 27 v d p) (hw : ∀ n ∈ d.weights Tryz.prog 27, n ≤ reachBytes) : ∃ rv zv lv S Z, v = .agg #[rv, zv, lv] ∧ RdSr W rv zv lv S Z ∧ CapV rv ∧ CapV zv ∧ CapV lv ∧ ∀ i, i < Z.length → CapV (Z.getD i zk0).2 := by
 obtain ⟨cs, rfl, hsz⟩ := okWide_struct (P := Tryz.prog) Tryz.underlying27 hv
 obtain ⟨fuel, h⟩ := h
 obtain ⟨rv, zv, lv, S, Z, e, r⟩ := open_source0 h hw
 refine ⟨rv, zv, lv, S, Z, ?_, r⟩
 obtain ⟨cl⟩ := cs
 simp only [Value.cells] at e
 rw [e]
end Go.Proofs.YtlbglinpgjlbkaaGreatDoor
