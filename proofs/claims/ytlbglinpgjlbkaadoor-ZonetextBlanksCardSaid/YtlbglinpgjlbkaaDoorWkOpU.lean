import Derived.Test.YtlbglinpgjlbkaaDoorWkRowZ
import Derived.Test.YtlbglinpgjlbkaaDoorWkLBl
import Derived.Deep.Slices
/- Opening a []uint8 that came in. Printed by gen_opu.py. No conditions. -/
namespace Go.Proofs.YtlbglinpgjlbkaaDoor
open Go.ChangeShapes Go.WideShapes Go.ChangeAt Go.RowKit Wk

theorem weights_allU {H : Type} {P : Program} {e : TypeId} : ∀ {l : List (DataW H)} {d : DataW H} {n : Nat}, d ∈ l → n ∈ d.weights P e → n ∈ DataW.weightsAll P e l
 | [], d, n, hd, _ => by simp at hd
 | x :: r, d, n, hd, hn => by
  unfold DataW.weightsAll
  rcases List.mem_cons.1 hd with rfl | hd
  ·exact List.mem_append_left _ hn
  ·exact List.mem_append_right _ (weights_allU hd hn)
theorem weights_sliceU {H : Type} {P : Program} {t e : TypeId} (ht : P.underlying t = some (.slice e)) {D : Nat → DataW H} {len : Nat} {sp : List (DataW H)} {i n : Nat} (hi : i < len) (hn : n ∈ (D i).weights P e) : n ∈ (DataW.slice ((List.range len).map D) sp).weights P t := by
 unfold DataW.weights
 rw [ht]
 simp only
 refine List.mem_cons_of_mem _ (List.mem_append_left _ (weights_allU (d := D i) ?_ hn))
 exact List.mem_map.2 ⟨i, List.mem_range.2 hi, rfl⟩
theorem weights_lenU {H : Type} {P : Program} {t e : TypeId} (ht : P.underlying t = some (.slice e)) {D : Nat → DataW H} {len : Nat} {sp : List (DataW H)} : (len + sp.length) * P.bytesOf e ∈ (DataW.slice ((List.range len).map D) sp).weights P t := by
 unfold DataW.weights
 rw [ht]
 simp
set_option maxRecDepth 100000 in
theorem open_rowU {α : Type} {sz : Nat} {fl : α → List Value} (d0 : α) (Q : α → Prop) {H : Type} {enc : TypeId × Value → H} {W : World} {spare : Nat → Bool} {held : Bool} {fuel : Nat} {cs : List Value} {x : DataW H × List MemPlace} {t e : TypeId}
  (ht : Tryd.prog.underlying t = some (.slice e)) (hc : Tryd.prog.cellsOf e = sz) (hpos : 0 < sz) (hby : 1 ≤ Tryd.prog.bytesOf e) (hf : ∀ x, (fl x).length = sz)
  (hel : ∀ (n : Nat) (cs : List Value) (x : DataW H × List MemPlace), DataW.trod enc Tryd.prog W 0 spare held n e cs = some x → (∀ n ∈ x.1.weights Tryd.prog e, n ≤ reachBytes) → ∃ k, cs = fl k ∧ Q k)
  (h : DataW.trod enc Tryd.prog W 0 spare held fuel t cs = some x) (hw : ∀ n ∈ x.1.weights Tryd.prog t, n ≤ reachBytes) : ∃ v L, cs = [v] ∧ RdG sz fl d0 W v L := by
 rcases Deep.open_slice (P := Tryd.prog) ht h with ⟨rfl, rfl⟩ | ⟨a, len, cap, m, n, D, Pl, rfl, hb, hl, hm, hmm, rfl, hx⟩
 ·exact ⟨_, [], rfl, ⟨none, 0, rfl, by simp, fun i hi => by simp at hi⟩⟩
 ·have hlm : len ≤ m := by rw [hmm]; split <;> omega
  have hln : len ≤ 1152921504606846976 := by
   have h1 := hw _ (weights_lenU ht)
   have h2 : len * 1 ≤ (len + ((List.range (m - len)).map fun j => D (len + j)).length) * Tryd.prog.bytesOf e := Nat.mul_le_mul (Nat.le_add_right _ _) hby
   unfold reachBytes at h1
   omega
  rw [hc] at hx
  have each : ∀ i, i < len → ∃ k : α, Q k ∧ ∀ j, j < sz → W.cell? ((a.add (i * sz)).add j) = (fl k)[j]? := by
   intro i hi
   obtain ⟨cs, h1, h2⟩ := hx i (by omega)
   obtain ⟨_, _, hcell⟩ := World.cells?_some h1
   obtain ⟨k, rfl, hr⟩ := hel _ _ _ h2 (fun n hn => hw n (weights_sliceU ht hi hn))
   exact ⟨k, hr, hcell⟩
  have : Inhabited α := ⟨d0⟩
  obtain ⟨q, hq⟩ := Deep.choose_lt each
  have hlen : ((List.range len).map q).length = len := by simp
  have hg : ∀ i, i < len → ((List.range len).map q).getD i d0 = q i := fun i hi => by simp [List.getD_eq_getElem?_getD, hi]
  refine ⟨_, (List.range len).map q, rfl, ⟨some a, cap, by rw [hlen], by rw [hlen]; exact hln, fun i hi => ?_⟩⟩
  rw [hlen] at hi
  rw [hg i hi]
  have h0 := (hq 0 (by omega)).2 0 hpos
  rw [List.getElem?_eq_getElem (by rw [hf]; exact hpos)] at h0
  have hsp := World.cell?_spot h0
  obtain ⟨b, o, sp⟩ := a
  have hs0 : sp = none := by simpa [Addr.add] using hsp
  subst hs0
  refine ⟨b, o, rfl, fun j u hj hu => ?_⟩
  have h1 := (hq i hi).2 j hj
  rw [add_plain, add_plain, hu] at h1
  exact h1

set_option maxRecDepth 100000 in
theorem open_u8 {H : Type} {enc : TypeId × Value → H} {W : World} {spare : Nat → Bool} {held : Bool} {fuel : Nat} {cs : List Value} {x : DataW H × List MemPlace}
  (h : DataW.trod enc Tryd.prog W 0 spare held fuel 5 cs = some x) : ∃ k : UInt8, cs = flU k := by
 obtain ⟨n, rfl, _, hw⟩ := DataW.trod_int (P := Tryd.prog) Tryd.underlying5 h
 simp only [Lit.wf, Bool.and_eq_true, decide_eq_true_eq] at hw
 have h1 : (0 : Int) ≤ n := hw.1
 have h2 : n ≤ 255 := hw.2
 refine ⟨UInt8.ofNat n.toNat, ?_⟩
 unfold flU
 rw [UInt8.toNat_ofNat_of_lt' (by simp [UInt8.size]; omega)]
 rw [show ((n.toNat : Nat) : Int) = n by omega]
set_option maxRecDepth 100000 in
theorem open_bytes {H : Type} {enc : TypeId × Value → H} {W : World} {base : Nat} {spare : Nat → Bool} {held : Bool} {v : Value} {d : DataW H} {p : List MemPlace} (hv : Value.okWide Tryd.prog W .any base 37 v)
  (h : DataW.Trod enc Tryd.prog W 0 spare held 37 v d p) (hw : ∀ n ∈ d.weights Tryd.prog 37, n ≤ reachBytes) : ∃ F, RdU W v F := by
 obtain ⟨a, n, c, rfl, _⟩ := okWide_slice (P := Tryd.prog) Tryd.underlying37 hv
 obtain ⟨fuel, h⟩ := h
 obtain ⟨v, L, e, r⟩ := open_rowU (t := 37) (e := 5) (0 : UInt8) (fun _ => True) Tryd.underlying37 (by kernel_rfl) (by omega) (of_decide_eq_true (by kernel_rfl)) flU_len (fun n cs x hx _ => let ⟨k, e⟩ := open_u8 hx; ⟨k, e, trivial⟩) h hw
 simp only [Value.cells, List.cons.injEq, and_true] at e
 subst e
 exact ⟨L, r⟩
end Go.Proofs.YtlbglinpgjlbkaaDoor
