import Derived.Test.YtlbjfbpejomkmaaGreatWkPq
import Derived.Test.YtlbjfbpejomkmaaGreatWkBa
/- Going through two lists in runs: the ends, the rules, done. -/
namespace Go.Proofs.YtlbjfbpejomkmaaGreat
open Go.RowKit Wk

theorem rdone_any (v : Value) (L : List Sp) (B : Nat) (w : World) (h : OwnS w B v L) (hl : L.length ≤ 8796093022208) :
    Calls Tryz.prog 96 #[v] w fun e w' => (∃ u, e = .returned (.tuple #[u, .int .i64 (dnM L).2]) ∧ OwnS w B u (dnM L).1) ∧ w = w' := by
  have HO := Lib.hid h
  obtain ⟨a, c, rfl, _⟩ := h.form
  clear h
  by_cases hb : 2000 < L.length
  · have t0 : decide ((2000 : Int) < (L.length : Int)) = true := decide_eq_true (by omega)
    have HB : Hid (dnM L = ([], 5)) := by unfold Hid dnM; rw [if_pos hb]
    clear hb
    go_enter Tryz.func96, Tryz.ntmps96
    go_wp2
    go_ret2
    exact ⟨⟨.slice none 0 0, by rw [HB.out]; rfl, by rw [HB.out]; exact OwnS.nil _ _⟩, rfl⟩
  · have t0 : decide ((2000 : Int) < (L.length : Int)) = false := decide_eq_false (by omega)
    have HB : Hid (dnM L = (L, 0)) := by unfold Hid dnM; rw [if_neg hb]
    clear hb
    go_enter Tryz.func96, Tryz.ntmps96
    go_wp2
    go_ret2
    exact ⟨⟨_, by rw [HB.out]; rfl, by rw [HB.out]; exact HO.out⟩, rfl⟩
end Go.Proofs.YtlbjfbpejomkmaaGreat
