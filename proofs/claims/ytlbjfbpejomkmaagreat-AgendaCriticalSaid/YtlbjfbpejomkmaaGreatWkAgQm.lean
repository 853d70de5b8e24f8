import Derived.Test.YtlbjfbpejomkmaaGreatWkAgQd
import Derived.Test.YtlbjfbpejomkmaaGreatWkAgPl
import Derived.Test.YtlbjfbpejomkmaaGreatWkAgQf
/- slices.Equal of integers. -/
namespace Go.Proofs.YtlbjfbpejomkmaaGreat
open Go.RowKit Wk

theorem OwnI.rdJ {w : World} {B : Nat} {v : Value} {L : List Int} (h : OwnI w B v L) (hl : L.length ≤ 1152921504606846976) : RdJ w v L := by
 obtain ⟨a, c, rfl, hc⟩ := h.form
 refine ⟨a, c, rfl, hl, fun i hi => ?_⟩
 obtain ⟨g, rfl, _, c1⟩ := hc i hi
 exact ⟨g, 0, rfl, by rw [Nat.zero_add]; exact c1⟩
theorem rdJ_at {w wr : World} {a : Option Addr} {l : List Int} {k : Nat} (hc : ∀ i, i < l.length → ∃ b o, a = some ⟨b, o, none⟩ ∧ w.cell? ⟨b, o + i, none⟩ = some (.int .i64 (l.getD i 0)))
  (hB : Below w.heap.size w wr) (hlt : k < l.length) : ∃ b o x, a = some ⟨b, o, none⟩ ∧ Hid (l.getD k 0 = x) ∧ wr.cell? ⟨b, o + k, none⟩ = some (.int .i64 x) := by
 obtain ⟨b, o, e, c1⟩ := hc k hlt
 exact ⟨b, o, _, e, rfl, keepCell hB c1⟩

set_option maxHeartbeats 800000 in
theorem iseqJ_any (v1 v2 : Value) (l : List Int) (w : World) (h1 : RdJ w v1 l) (h2 : RdJ w v2 l) :
  Calls Tryz.prog 24 #[v1, v2] w fun e w' => e = .returned (.bool true) ∧ Below w.heap.size w w' := by
 obtain ⟨a1, c1, rfl, hl1, hc1⟩ := h1
 obtain ⟨a2, c2, rfl, hl2, hc2⟩ := h2
 have g0 : (((l.length : Int)) == (l.length : Int)) = true := by simp
 have g1 : (((l.length : Int)) != (l.length : Int)) = false := by simp
 go_enter Tryz.func24, Tryz.ntmps24
 go_wp2_with fail
 go_loopw [13] (fun i wr => ∃ k : Nat, k ≤ l.length ∧ i = .int .i64 k ∧ Below w.heap.size w wr) (fun i _ => l.length - (intOf i).toNat)
 case atStart => exact ⟨0, Nat.zero_le _, rfl, Below.refl _ _⟩
 case round =>
  obtain ⟨k, hk, rfl, hB⟩ := hrel
  by_cases hlt : k < l.length
  ·obtain ⟨b, o, x, rfl, HXY, d1⟩ := rdJ_at hc1 hB hlt
   obtain ⟨b', o', x', rfl, HXY', d1'⟩ := rdJ_at (k := k) hc2 hB hlt
   obtain rfl : x = x' := HXY.out.symm.trans HXY'.out
   clear hc1 hc2 HXY HXY'
   have e1 := ext_cell d1
   have e1' := ext_cell d1'
   have hsz := hB.size
   have g2 : (x == x) = true := by simp
   have g3 : (x != x) = false := by simp
   go_wp2_with fail
   refine wp_region_ext (by kernel_rfl) (by kernel_rfl) ?_
   iterate 9 (go_big_quiet_step (fail))
   refine wpQuiet_nil ?_
   intro w1 hb1
   have hBn := hB.trans (hb1.mono hsz)
   go_wp2
   go_roundw
   case rel => exact ⟨k + 1, by omega, by go_num, hBn⟩
   case measure => simp [intOf]; omega
  ·clear hc1 hc2
   go_wp2
   go_ret
   exact ⟨rfl, hB⟩
end Go.Proofs.YtlbjfbpejomkmaaGreat
namespace Go.Proofs.YtlbjfbpejomkmaaGreat
open Go.RowKit Wk

end Go.Proofs.YtlbjfbpejomkmaaGreat
namespace Go.Proofs.YtlbjfbpejomkmaaGreat
namespace Wk

theorem numK_le (keep : Nat → Bool) (k : Nat) : numK keep k ≤ k := by
 unfold numK keptL
 have := List.length_filter_le keep (List.range k)
 rwa [List.length_range] at this
end Wk
end Go.Proofs.YtlbjfbpejomkmaaGreat
namespace Go.Proofs.YtlbjfbpejomkmaaGreat
open Go.RowKit Wk

def RowV (W : World) (g n : Nat) (F : Nat → Value) : Prop := ∀ i, i < n → W.cell? ⟨g, i, none⟩ = some (F i) ∧ W.frozen? ⟨g, i, none⟩ = false
theorem RowV.below {W X : World} {g n : Nat} {F : Nat → Value} (h : RowV W g n F) (hb : Below W.heap.size W X) : RowV X g n F := fun i hi => ⟨keepCell hb (h i hi).1, keepFz hb (h i hi).1 (h i hi).2⟩
theorem RowV.far {W : World} {g n b o : Nat} {F : Nat → Value} (h : RowV W g n F) (hn : b ≠ g) (v : Value) : RowV (W.setCell ⟨b, o, none⟩ v) g n F := fun i hi => ⟨(cell_ne (Or.inl hn)).trans (h i hi).1, (frz_set ..).trans (h i hi).2⟩
theorem RowV.set {W : World} {g n k : Nat} {F : Nat → Value} (h : RowV W g n F) (hk : k < n) (v : Value) : RowV (W.setCell ⟨g, k, none⟩ v) g n fun i => if i = k then v else F i := fun i hi => by
 by_cases e : i = k
 ·subst e
  show _ = some (if i = i then v else F i) ∧ _
  rw [if_pos rfl]
  exact ⟨cell_eq (h i hi).1, (frz_set ..).trans (h i hi).2⟩
 ·show _ = some (if i = k then v else F i) ∧ _
  rw [if_neg e]
  exact ⟨(cell_ne (Or.inr (fun q => e q.symm))).trans (h i hi).1, (frz_set ..).trans (h i hi).2⟩
theorem RowV.congr {W : World} {g n : Nat} {F G : Nat → Value} (h : RowV W g n F) (he : ∀ i, i < n → F i = G i) : RowV W g n G := fun i hi => by rw [← he i hi]; exact h i hi
end Go.Proofs.YtlbjfbpejomkmaaGreat
namespace Go.Proofs.YtlbjfbpejomkmaaGreat
open Go.RowKit Wk

end Go.Proofs.YtlbjfbpejomkmaaGreat
namespace Go.Proofs.YtlbjfbpejomkmaaGreat
open Go.RowKit Wk

def CfPost (p : Int × List Nat) (w : World) (e : Ending) (w' : World) : Prop := ∃ v, e = .returned (.tuple #[v, .int .i64 p.1]) ∧ OwnI w' w.heap.size v (natI p.2) ∧ Below w.heap.size w w'
theorem keptI_len (n : Nat) (keep : Nat → Bool) : (natI (keptL n keep)).length ≤ n := by rw [natI_length]; exact numK_le keep n
theorem rowV_zeroB {W : World} {B g N : Nat} (h : W.ownsRow B 4 1 (.slice (some ⟨g, 0, none⟩) N N) N (madeCells (Value.bool false).cells (N * 1)).toList) : g < W.heap.size ∧ RowV W g N fun _ => .bool false := by
 obtain ⟨h1, h2⟩ := row_zeroB h
 refine ⟨h1, fun i hi => ?_⟩
 have := h2 i (by rw [List.length_replicate]; exact hi)
 rw [rep_at] at this
 exact this
end Go.Proofs.YtlbjfbpejomkmaaGreat
