import Derived.Test.YtlbglinpgjlbkaaGreatDoorWkR6
/- Zone texts: a line behind the last zone's others; the program's reader: line, where no zone waits. Printed by gen_r7.py. -/
namespace Go.Proofs.YtlbglinpgjlbkaaGreatDoor
open Go.RowKit Wk

theorem addLine_at {s : SrT} {Z : List ZkT} (hz : Z.map Prod.fst = s.zo) {m : Nat} (hm : Z.length = m + 1) (x : LiT) (v : Value) : (Z.set m (⟨(Z.getD m zk0).1.nm, (Z.getD m zk0).1.li ++ [x]⟩, v)).map Prod.fst = (addLine s x).zo := by
 have hl : s.zo.length = m + 1 := by rw [← hz, List.length_map, hm]
 unfold addLine
 simp only
 have hlast : s.zo.getLastD ⟨[], []⟩ = (Z.getD m zk0).1 := by
  rw [← hz, List.getLastD_eq_getLast?, List.getLast?_eq_getElem?, List.length_map, hm, Nat.add_sub_cancel, List.getElem?_map, List.getD_eq_getElem?_getD, List.getElem?_eq_getElem (by omega)]
  rfl
 rw [hlast, List.map_set, ← hz]
 have h2 : (Z.map Prod.fst).length = m + 1 := by rw [List.length_map, hm]
 generalize Z.map Prod.fst = L at h2
 refine List.ext_getElem? fun i => ?_
 rcases Nat.lt_trichotomy i m with q | q | q
 ·rw [List.getElem?_set_ne (by omega), List.getElem?_append_left (by rw [List.length_dropLast]; omega), List.getElem?_dropLast, if_pos (by omega)]
 ·subst q
  rw [List.getElem?_set_self (by omega), List.getElem?_append_right (by rw [List.length_dropLast]; omega), List.length_dropLast, show i - (L.length - 1) = 0 by omega]
  rfl
 ·rw [List.getElem?_eq_none (by rw [List.length_set]; omega), List.getElem?_eq_none (by rw [List.length_append, List.length_dropLast]; simp only [List.length_cons, List.length_nil]; omega)]
theorem SrcM.addLi {B sb : Nat} {s : SrT} {rv lv : Value} {g1 c1 m : Nat} {Z : List ZkT} {w w3 : World} (hm : Z.length = m + 1) (h : SrcM B sb s rv (.slice (some ⟨g1, 0, none⟩) (m + 1) c1) lv Z w) {v1 : Value} {x : LiT} (o1 : OwnG 102 12 flLi w3 B v1 ((Z.getD m zk0).1.li ++ [x])) (k1 : ∀ b, b < w.heap.size → (Z.getD m zk0).2.ownBlock ≠ some b → w3.heap[b]? = w.heap[b]?)
  (f1 : ∀ g, v1.ownBlock = some g → (∃ g0, (Z.getD m zk0).2.ownBlock = some g0 ∧ g0 ≤ g) ∨ w.heap.size ≤ g) :
  SrcM B sb (addLine s x) rv (.slice (some ⟨g1, 0, none⟩) (m + 1) c1) lv (Z.set m (⟨(Z.getD m zk0).1.nm, (Z.getD m zk0).1.li ++ [x]⟩, v1)) (w3.setCell ⟨g1, m * 2 + 1, none⟩ v1) := by
 have hlm := h.li m (by omega)
 have hb3 : Blk w3 sb #[rv, .slice (some ⟨g1, 0, none⟩) (m + 1) c1, lv] 27 := h.blk.same (k1 sb h.blk.lt fun q => hlm.apart h.blk (by decide) q rfl)
 have hz3 : OwnG 45 2 flZk w3 B (.slice (some ⟨g1, 0, none⟩) (m + 1) c1) Z := h.zo.same fun g q => k1 g (World.ownsRow.lt h.zo g q).2 fun q' => hlm.apart2 h.zo (by decide) q' q
 have hzf : OwnG 45 2 flZk w3 B (.slice (some ⟨g1, 0, none⟩) Z.length c1) Z := by rw [hm]; exact hz3
 have hset := hzf.setAt flZk_len zk0 (i := m) (j := 1) (by omega) (by decide) v1 (⟨(Z.getD m zk0).1.nm, (Z.getD m zk0).1.li ++ [x]⟩, v1) rfl
 rw [hm] at hset
 have hg1 : ∀ g, g ≠ g1 → (w3.setCell ⟨g1, m * 2 + 1, none⟩ v1).heap[g]? = w3.heap[g]? := fun g q => set_far_heap _ _ _ _ q
 have hzo : (Value.slice (some ⟨g1, 0, none⟩) (m + 1) c1).ownBlock = some g1 := rfl
 have hK : ∀ g, g < w.heap.size → g ≠ g1 → (Z.getD m zk0).2.ownBlock ≠ some g → (w3.setCell ⟨g1, m * 2 + 1, none⟩ v1).heap[g]? = w.heap[g]? := fun g q1 q2 q3 => (hg1 g q2).trans (k1 g q1 q3)
 refine ⟨h.blk.same (hK sb h.blk.lt (fun q => h.zo.apart h.blk (by decide) hzo q.symm) fun q => hlm.apart h.blk (by decide) q rfl), ?_, ?_, addLine_at h.zs hm x v1, ?_, ?_, h.lo, ?_⟩
 ·exact h.ru.same fun g q => hK g (World.ownsRow.lt h.ru g q).2 (fun e => h.ru.apart2 h.zo (by decide) q (by rw [e]; exact hzo)) fun q' => hlm.apart2 h.ru (by decide) q' q
 ·exact hset
 ·intro i hi
  rw [List.length_set] at hi
  by_cases hq : i = m
  ·subst hq
   have e : (Z.set i (⟨(Z.getD i zk0).1.nm, (Z.getD i zk0).1.li ++ [x]⟩, v1)).getD i zk0 = (⟨(Z.getD i zk0).1.nm, (Z.getD i zk0).1.li ++ [x]⟩, v1) := by
    rw [List.getD_eq_getElem?_getD, List.getElem?_set_self hi]
    rfl
   rw [e]
   exact o1.same fun g q => hg1 g fun e => by
    subst e
    exact o1.apart2 hz3 (by decide) q hzo
  ·have e : (Z.set m (⟨(Z.getD m zk0).1.nm, (Z.getD m zk0).1.li ++ [x]⟩, v1)).getD i zk0 = Z.getD i zk0 := by
    rw [List.getD_eq_getElem?_getD, List.getElem?_set_ne (Ne.symm hq), ← List.getD_eq_getElem?_getD]
   rw [e]
   exact (h.li i hi).same fun g q => hK g (World.ownsRow.lt (h.li i hi) g q).2 (fun e => (h.li i hi).apart2 h.zo (by decide) q (by rw [e]; exact hzo)) (fun e => absurd (h.ap i m (by omega) (by omega) g g q e) (by omega))
 ·exact h.lk.same fun g q => hK g (World.ownsRow.lt h.lk g q).2 (fun e => h.lk.apart2 h.zo (by decide) q (by rw [e]; exact hzo)) fun q' => hlm.apart2 h.lk (by decide) q' q
 ·intro i j hij hj g g' hg hg'
  rw [List.length_set] at hj
  rw [List.getD_eq_getElem?_getD, List.getElem?_set_ne (by omega), ← List.getD_eq_getElem?_getD] at hg
  by_cases hq : j = m
  ·subst hq
   rw [List.getD_eq_getElem?_getD, List.getElem?_set_self hj] at hg'
   rcases f1 g' hg' with ⟨g0, a1, a2⟩ | a
   ·have := h.ap i j hij hj g g0 hg a1
    omega
   ·have := (World.ownsRow.lt (h.li i (by omega)) g hg).2
    omega
  ·rw [List.getD_eq_getElem?_getD, List.getElem?_set_ne (Ne.symm hq), ← List.getD_eq_getElem?_getD] at hg'
   exact h.ap i j hij hj g g' hg hg'
def topB (v : Value) (w : World) : Nat := match v.ownBlock with
 | some g => g
 | none => w.heap.size
theorem own_top {α : Type} {T : TypeId} {sz : Nat} {fl : α → List Value} {w : World} {B : Nat} {v : Value} {L : List α} (h : OwnG T sz fl w B v L) : OwnG T sz fl w (topB v w) v L := h.raise fun g q => by unfold topB; rw [q]; exact Nat.le_refl _
theorem topB_le {α : Type} {T : TypeId} {sz : Nat} {fl : α → List Value} {w : World} {B : Nat} {v : Value} {L : List α} (h : OwnG T sz fl w B v L) (hB : B ≤ w.heap.size) : B ≤ topB v w ∧ topB v w ≤ w.heap.size := by
 unfold topB
 cases hq : v.ownBlock with
 | none => exact ⟨hB, Nat.le_refl _⟩
 | some g =>
  have := World.ownsRow.lt h g hq
  exact ⟨this.1, by show g ≤ _; omega⟩
theorem topB_new {α : Type} {T : TypeId} {sz : Nat} {fl : α → List Value} {w w3 : World} {v v1 : Value} {L : List α} (o1 : OwnG T sz fl w3 (topB v w) v1 L) : ∀ g, v1.ownBlock = some g → (∃ g0, v.ownBlock = some g0 ∧ g0 ≤ g) ∨ w.heap.size ≤ g := fun g hg => by
 have h1 := (World.ownsRow.lt o1 g hg).1
 unfold topB at h1
 cases hq : v.ownBlock with
 | none => rw [hq] at h1; exact .inr h1
 | some g0 => rw [hq] at h1; exact .inl ⟨g0, rfl, h1⟩
end Go.Proofs.YtlbglinpgjlbkaaGreatDoor
namespace Go.Proofs.YtlbglinpgjlbkaaGreatDoor
open Go.RowKit Wk

theorem zlast_at {s : SrT} {Z : List ZkT} (hz : Z.map Prod.fst = s.zo) {m : Nat} (hm : Z.length = m + 1) : (s.zo == [] || doneB (s.zo.getLastD ⟨[], []⟩)) = doneB (Z.getD m zk0).1 := by
 have hlast : s.zo.getLastD ⟨[], []⟩ = (Z.getD m zk0).1 := by
  rw [← hz, List.getLastD_eq_getLast?, List.getLast?_eq_getElem?, List.length_map, hm, Nat.add_sub_cancel, List.getElem?_map, List.getD_eq_getElem?_getD, List.getElem?_eq_getElem (by omega)]
  rfl
 have hne : (s.zo == []) = false := by
  have : s.zo ≠ [] := fun q => by
   have h2 := congrArg List.length hz
   rw [List.length_map, hm, q] at h2
   simp at h2
  simpa using this
 rw [hlast, hne, Bool.false_or]

set_option maxRecDepth 100000 in
set_option maxHeartbeats 8000000 in
theorem rline_no {w0 : World} {rb sb : Nat} {wv : Value} {ws : List Tok} (hc : RCtx w0 rb wv ws) (s : RSt) (h1 : 1 ≤ s.n) (sr : SrT) (rv zv lv : Value) (Z : List ZkT) (w : World) (h : RSat w0 rb wv ws s w) (hm : SrcM w0.heap.size sb sr rv zv lv Z w) (hl : Z.length < 1000000) (hli : ∀ i, i < Z.length → (Z.getD i zk0).1.li.length ≤ 1000000)
  (hq : (sr.zo == [] || doneB (sr.zo.getLastD ⟨[], []⟩)) = true) :
  Calls Tryz.prog 45 #[.pointer (some ⟨rb, 0, none⟩), .pointer (some ⟨sb, 0, none⟩)] w (LPost w0 rb wv ws sb (failS ws 6 s) sr) := by
 have HM := Lib.hid hm
 have HH := Lib.hid h
 have HFA : Hid (∀ W, RSat w0 rb wv ws s W → Calls Tryz.prog 119 #[.pointer (some ⟨rb, 0, none⟩), .int .i64 6] W fun e' w' => e' = .returned (.tuple #[]) ∧ RSat w0 rb wv ws (failS ws 6 s) w' ∧ W.grownBy w' (some rb)) := Lib.hid fun W hW => fail_any hc s 6 W hW h1
 have HN := Lib.hid (show 1 ≤ (failS ws 6 s).n by rw [fail_n]; exact h1)
 rcases Nat.eq_zero_or_pos Z.length with h0 | h0
 ·obtain ⟨za, zc, ez⟩ : ∃ a c, zv = .slice a 0 c := by
   obtain ⟨a, c, e⟩ := hm.zo.form
   rw [h0] at e
   exact ⟨a, c, e⟩
  subst ez
  have y1 : w.cell? ⟨sb, 1, none⟩ = some (.slice za 0 zc) := HM.out.blk.cell (j := 1) rfl
  clear hc h hm hl hli hq h0 h1
  go_enter Tryz.func45, Tryz.ntmps45
  go_wp2_with (first | (go_at_call 119; refine (HFA.out _ HH.out).mono ?_; rintro e w1 ⟨rfl, hs1, hg1⟩) | fail)
  go_end0
  exact ⟨rfl, hs1, HN.out, _, _, _, _, HM.out.grown HH.out.blk hg1 (by decide) (by decide) (by decide) (by decide) (by decide)⟩
 ·obtain ⟨m, hm1⟩ : ∃ m, Z.length = m + 1 := ⟨Z.length - 1, by omega⟩
  obtain ⟨g1, zc, ez, -, -⟩ := hm.zo.pos h0
  have hzo := hm.zo
  rw [ez] at hzo
  have q0 := (hzo.cell flZk_len zk0 (i := m) (j := 0) (u := .string ⟨(Z.getD m zk0).1.nm.toArray⟩) (by omega) (by decide) rfl).1
  have q1 := (hzo.cell flZk_len zk0 (i := m) (j := 1) (u := (Z.getD m zk0).2) (by omega) (by decide) rfl).1
  rw [zlast_at hm.zs hm1] at hq
  have hlr := (hm.li m (by omega)).rd flLi_len (d := li0) (hli m (by omega))
  obtain ⟨z, hz⟩ : ∃ z, Z.getD m zk0 = z := ⟨_, rfl⟩
  rw [hz] at q0 q1 hq hlr
  rw [hm1] at ez
  subst ez
  obtain ⟨⟨nm, li⟩, lv2⟩ := z
  obtain ⟨NM, rfl⟩ := bs_of nm
  simp only at hlr hq
  have HDN : Hid (Calls Tryz.prog 51 #[.agg #[.string NM, lv2]] w fun e w' => e = .returned (.bool true) ∧ Below w.heap.size w w') := Lib.hid (by rw [← hq]; exact done_any (bsO NM) lv2 li w hlr)
  obtain ⟨a2, n2, rfl⟩ := hlr.form
  have e0 : w.cell? ⟨g1, m * 2, none⟩ = some (.string NM) := q0
  have e1 : w.cell? ⟨g1, m * 2 + 1, none⟩ = some (.slice a2 li.length n2) := q1
  have y1 : w.cell? ⟨sb, 1, none⟩ = some (.slice (some ⟨g1, 0, none⟩) (m + 1) zc) := HM.out.blk.cell (j := 1) rfl
  have hmi : (((m + 1 : Nat) : Int) - 1) = (m : Int) := by omega
  have hmb : (m : Int) ≤ 1000000 := by omega
  have hm0 : (((m + 1 : Nat) : Int) == 0) = false := by simp; omega
  clear hc h hm hl hli hq h0 h1 q0 q1 hzo hz hm1 hlr
  go_enter Tryz.func45, Tryz.ntmps45
  go_wp2_with (first | (go_at_call 51; refine HDN.out.mono ?_; rintro e w' ⟨rfl, hb⟩; have HHB := Lib.hid (HH.out.below hb); have HMB := Lib.hid (HM.out.below hb)) | (go_at_call 119; refine (HFA.out _ HHB.out).mono ?_; rintro e w1 ⟨rfl, hs1, hg1⟩) | fail)
  go_end0
  exact ⟨rfl, hs1, HN.out, _, _, _, _, HMB.out.grown HHB.out.blk hg1 (by decide) (by decide) (by decide) (by decide) (by decide)⟩
end Go.Proofs.YtlbglinpgjlbkaaGreatDoor
