import Derived.Test.YtlbglinpgjlbkaaDoorWkJD
/- strings.Builder's String: what lies in memory stays readable (seat .D). No conditions. -/
namespace Go.Proofs.YtlbglinpgjlbkaaDoor
open Go.RowKit Wk

def CellsKept (w w' : World) : Prop := ∀ a u, w.cell? a = some u → w'.cell? a = some u
theorem cell_freeze (w : World) (a : Addr) (n : Nat) (x : Addr) : (w.freeze a n).cell? x = w.cell? x := by
 unfold World.freeze
 split
 ·rfl
 ·unfold World.cell?
  simp only [Array.getElem?_modify]
  by_cases hx : a.block = x.block
  ·rw [if_pos hx]
   cases hq : w.heap[x.block]? with
   | none => rfl
   | some o => cases o <;> rfl
  ·rw [if_neg hx]
set_option maxRecDepth 100000 in
set_option maxHeartbeats 2000000 in
theorem bstr_cells {w0 w : World} {b : Nat} {l : Bs} (h : Bld w0 b l w) (h0 : l ≠ []) :
  Calls Tryd.prog 10 #[.pointer (some ⟨b, 0, none⟩)] w fun e w' => e = .returned (.string ⟨l.toArray⟩) ∧ Below w0.heap.size w0 w' ∧ CellsKept w w' := by
 obtain ⟨hF, hBW⟩ := h
 obtain ⟨p, hB, v, hbk, hown, -⟩ : ∃ p, Lib.BuilderAtF 39 5 w0.heap.size b p (Lib.byteCells l) w := hF.elim (fun q => ⟨_, q⟩) fun q => ⟨_, q⟩
 have hl0 : l.length ≠ 0 := by simpa using h0
 rw [Lib.byteCells_length] at hown
 rcases hown.2 with ⟨-, hz⟩ | ⟨g, cap, cur, fz, rfl, hbg, hg, hfz, hnc, hcm, hcs, htake⟩
 ·exact absurd hz hl0
 have c1 : w.drew.cell? ⟨b, 1, none⟩ = some (.slice (some ⟨g, 0, none⟩) l.length cap) := by
  have q : w.drew.heap[b]? = some (.cells #[p, .slice (some ⟨g, 0, none⟩) l.length cap] 39 (0, 0)) := hbk
  rw [Lib.cell_of_heap q]; rfl
 have hUS : (Builtin.unsafeString_ #[77, 3] 9 #[.pointer (some ⟨g, 0, none⟩), .int .i64 l.length]).run Tryd.prog w.drew = .ok (.string ⟨l.toArray⟩) (w.drew.freeze ⟨g, 0, none⟩ l.length) := by
  refine Lib.run_unsafeString_row w.drew 77 3 9 5 Tryd.underlying77 (by kernel_rfl) g cur.size ?_ l h0 (by omega) (by unfold maxLen at hcm; omega) ?_
  ·have q : w.drew.heap[g]? = some (.cells cur 5 fz) := hg
   simp [World.shape?, q]
  ·intro j x hx
   exact hown.cells (g := g) rfl j (.int .u8 x.toNat) (by simp [Lib.byteCells, hx])
 have HB : Hid (Below w0.heap.size w0 (w.drew.freeze ⟨g, 0, none⟩ l.length)) := Lib.hid (hBW.trans (Lib.below_freeze (Below.drew (Below.refl _ w)) (p := ⟨g, 0, none⟩) hbg _))
 have HC : Hid (CellsKept w (w.drew.freeze ⟨g, 0, none⟩ l.length)) := Lib.hid fun a u hu => by
  have q : w.drew.cell? a = some u := hu
  rw [cell_freeze]
  exact q
 obtain ⟨Fw, hFw⟩ : ∃ F, w.drew.freeze ⟨g, 0, none⟩ l.length = F := ⟨_, rfl⟩
 have HC1 : Hid (∀ W, W = w.drew ∨ W = Fw → W.cell? ⟨b, 1, none⟩ = some (.slice (some ⟨g, 0, none⟩) l.length cap)) := Lib.hid fun W hW => by
  rcases hW with rfl | rfl
  ·exact c1
  ·rw [← hFw, cell_freeze]
   exact c1
 have HSD : Hid (∀ W : World, (Builtin.unsafeSliceData_ #[37] 77 #[.slice (some ⟨g, 0, none⟩) l.length cap]).run Tryd.prog W = .ok (.pointer (some ⟨g, 0, none⟩)) W) := Lib.hid fun W => Lib.run_unsafeSliceData_row _ _ _ _ _ _ (by omega)
 rw [hFw] at hUS HB HC
 have HUS := Lib.hid hUS
 clear hown htake hbk hg hF hBW hB h0 hUS c1 hFw hfz hnc hcm hcs
 go_enter Tryd.func10, Tryd.ntmps10
 go_upto_region 1 with fail
 refine wp_region_held_drew (S := fun w' => w' = w.drew ∨ w' = Fw) (by kernel_rfl) ?_ (fun hHeld => ?_)
 ·exact .inl rfl
 refine wpAnyH_take (i := 0) (v := ?v1) rfl (by kernel_rfl) (by kernel_rfl) (by kernel_rfl) (fun _ _ _ h => h) (Or.inl ⟨by rfl, ?hy1⟩) (by assumption) ?rest1
 case hy1 =>
  intro w' hSw
  clear hSw
  go_simp
  try with_reducible rfl
 case rest1 =>
 refine wpAnyH_take (i := 1) (v := ?v2) rfl (by kernel_rfl) (by kernel_rfl) (by kernel_rfl) (fun _ _ _ h => h) (Or.inl ⟨by rfl, ?hy2⟩) (by assumption) ?rest2
 case hy2 =>
  intro w' hSw
  clear hSw
  go_simp
  try with_reducible rfl
 case rest2 =>
 refine wpAnyH_take (i := 2) (v := ?v3) rfl (by kernel_rfl) (by kernel_rfl) (by kernel_rfl) (fun _ _ _ h => h) (Or.inl ⟨by rfl, ?hy3⟩) (by assumption) ?rest3
 case hy3 =>
  intro w' hSw
  clear hSw
  go_simp
  try with_reducible rfl
 case rest3 =>
 refine wpAnyH_take (i := 3) (v := ?v4) rfl (by kernel_rfl) (by kernel_rfl) (by kernel_rfl) (fun _ _ _ h => h) (Or.inl ⟨by rfl, ?hy4⟩) (by assumption) ?rest4
 case hy4 =>
  intro w' hSw
  have c1 := HC1.out _ hSw
  clear hSw
  go_simp
  try with_reducible rfl
 case rest4 =>
 refine wpAnyH_take (i := 4) (v := .pointer (some ⟨g, 0, none⟩)) rfl (by kernel_rfl) (by kernel_rfl) (by kernel_rfl) (fun _ _ _ h => h) (Or.inl ⟨by rfl, ?hy5⟩) (by assumption) ?rest5
 case hy5 =>
  intro w' hSw
  clear hSw
  go_simp
  rw [HSD.out]
  rfl
 case rest5 =>
 refine wpAnyH_take (i := 5) (v := ?v6) rfl (by kernel_rfl) (by kernel_rfl) (by kernel_rfl) (fun _ _ _ h => h) (Or.inl ⟨by rfl, ?hy6⟩) (by assumption) ?rest6
 case hy6 =>
  intro w' hSw
  clear hSw
  go_simp
  try with_reducible rfl
 case rest6 =>
 refine wpAnyH_take (i := 6) (v := ?v7) rfl (by kernel_rfl) (by kernel_rfl) (by kernel_rfl) (fun _ _ _ h => h) (Or.inl ⟨by rfl, ?hy7⟩) (by assumption) ?rest7
 case hy7 =>
  intro w' hSw
  clear hSw
  go_simp
  try with_reducible rfl
 case rest7 =>
 refine wpAnyH_take (i := 7) (v := ?v8) rfl (by kernel_rfl) (by kernel_rfl) (by kernel_rfl) (fun _ _ _ h => h) (Or.inl ⟨by rfl, ?hy8⟩) (by assumption) ?rest8
 case hy8 =>
  intro w' hSw
  clear hSw
  go_simp
  try with_reducible rfl
 case rest8 =>
 refine wpAnyH_take (i := 8) (v := ?v9) rfl (by kernel_rfl) (by kernel_rfl) (by kernel_rfl) (fun _ _ _ h => h) (Or.inl ⟨by rfl, ?hy9⟩) (by assumption) ?rest9
 case hy9 =>
  intro w' hSw
  have c1 := HC1.out _ hSw
  clear hSw
  go_simp
  try with_reducible rfl
 case rest9 =>
 refine wpAnyH_take (i := 9) (v := ?v10) rfl (by kernel_rfl) (by kernel_rfl) (by kernel_rfl) (fun _ _ _ h => h) (Or.inl ⟨by rfl, ?hy10⟩) (by assumption) ?rest10
 case hy10 =>
  intro w' hSw
  clear hSw
  go_simp
  try with_reducible rfl
 case rest10 =>
 go_simp
 refine wpAnyH_ready (rs := [10]) (by kernel_rfl) (by simp) ?_
 refine AllReadyH.cons rfl (fun K hK => ?_) AllReadyH.nil
 go_simp
 rw [HUS.out]
 go_simp
 refine hK.out _ _ ?_ (fun hHeld => ?_)
 ·exact .inr rfl
 clear hK K
 refine wpAnyH_take (i := 11) (v := ?v11) rfl (by kernel_rfl) (by kernel_rfl) (by kernel_rfl) (fun _ _ _ h => h) (Or.inl ⟨by rfl, ?hy11⟩) (by assumption) ?rest11
 case hy11 =>
  intro w' hSw
  clear hSw
  go_simp
  try with_reducible rfl
 case rest11 =>
 refine wpAnyH_done (by kernel_rfl) ?_ _
 go_simp
 go_wp2_with fail
 go_ret
 exact ⟨rfl, HB.out, HC.out⟩
end Go.Proofs.YtlbglinpgjlbkaaDoor
