import Derived.Test.YtlbjfbpejomkmaaGreatWkAgQd
/- slices.Equal of integers. -/
namespace Go.Proofs.YtlbjfbpejomkmaaGreat
open Go.RowKit Wk

theorem OwnI.rdJ {w : World} {B : Nat} {v : Value} {L : List Int} (h : OwnI w B v L) (hl : L.length ≤ 1152921504606846976) : RdJ w v L := by
  obtain ⟨a, c, rfl, hc⟩ := h.form
  refine ⟨a, c, rfl, hl, fun i hi => ?_⟩
  obtain ⟨g, rfl, _, c1⟩ := hc i hi
  exact ⟨g, 0, rfl, by rw [Nat.zero_add]; exact c1⟩
theorem rdJ_at {w wr : World} {a : Option Addr} {l : List Int} {k : Nat} (hc : ∀ i, i < l.length → ∃ b o, a = some ⟨b, o, none⟩ ∧ w.cell? ⟨b, o + i, none⟩ = some (.int .i64 (l.getD i 0)))
    (hB : Below w.heap.size w wr) (hlt : k < l.length) : ∃ b o x, a = some ⟨b, o, none⟩ ∧ Hid (l.getD k 0 = x) ∧ wr.cell? ⟨b, o + k, none⟩ = some (.int .i64 x) := by
  obtain ⟨b, o, e, c1⟩ := hc k hlt
  exact ⟨b, o, _, e, rfl, keepCell hB c1⟩

set_option maxHeartbeats 800000 in
theorem iseqJ_any (v1 v2 : Value) (l : List Int) (w : World) (h1 : RdJ w v1 l) (h2 : RdJ w v2 l) :
    Calls Tryz.prog 24 #[v1, v2] w fun e w' => e = .returned (.bool true) ∧ Below w.heap.size w w' := by
  obtain ⟨a1, c1, rfl, hl1, hc1⟩ := h1
  obtain ⟨a2, c2, rfl, hl2, hc2⟩ := h2
  have g0 : (((l.length : Int)) == (l.length : Int)) = true := by simp
  have g1 : (((l.length : Int)) != (l.length : Int)) = false := by simp
  go_enter Tryz.func24, Tryz.ntmps24
  go_wp2_with fail
  go_loopw [13] (fun i wr => ∃ k : Nat, k ≤ l.length ∧ i = .int .i64 k ∧ Below w.heap.size w wr) (fun i _ => l.length - (intOf i).toNat)
  case atStart => exact ⟨0, Nat.zero_le _, rfl, Below.refl _ _⟩
  case round =>
    obtain ⟨k, hk, rfl, hB⟩ := hrel
    by_cases hlt : k < l.length
    · obtain ⟨b, o, x, rfl, HXY, d1⟩ := rdJ_at hc1 hB hlt
      obtain ⟨b', o', x', rfl, HXY', d1'⟩ := rdJ_at (k := k) hc2 hB hlt
      obtain rfl : x = x' := HXY.out.symm.trans HXY'.out
      clear hc1 hc2 HXY HXY'
      have e1 := ext_cell d1
      have e1' := ext_cell d1'
      have hsz := hB.size
      have g2 : (x == x) = true := by simp
      have g3 : (x != x) = false := by simp
      go_wp2_with fail
      refine wp_region_ext (by kernel_rfl) (by kernel_rfl) ?_
      iterate 9 (go_big_quiet_step (fail))
      refine wpQuiet_nil ?_
      intro w1 hb1
      have hBn := hB.trans (hb1.mono hsz)
      go_wp2
      go_roundw
      case rel => exact ⟨k + 1, by omega, by go_num, hBn⟩
      case measure => simp [intOf]; omega
    · clear hc1 hc2
      go_wp2
      go_ret
      exact ⟨rfl, hB⟩
end Go.Proofs.YtlbjfbpejomkmaaGreat
