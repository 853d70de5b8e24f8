import Derived.Test.YtlbjfbpejomkmaaGreatWkAgQa
import Derived.Test.YtlbjfbpejomkmaaGreatWkAgPl
import Derived.Test.YtlbjfbpejomkmaaGreatWkPn
import Derived.Test.YtlbjfbpejomkmaaGreatWkAgQd
import Derived.Test.YtlbjfbpejomkmaaGreatWkAgQh
import Derived.Test.YtlbjfbpejomkmaaGreatWkRfE
import Derived.Test.YtlbjfbpejomkmaaGreatWkAgQe
import Derived.Test.YtlbjfbpejomkmaaGreatWkAgQc
import Derived.Test.YtlbjfbpejomkmaaGreatWkUn
import Derived.Test.YtlbjfbpejomkmaaGreatWkAgQf
/- Agenda, plain: adding over runs and gaps; what Next and Change say. -/
namespace Go.Proofs.YtlbjfbpejomkmaaGreat
namespace Wk

theorem pot_run {s : St} (h : GoodS s) : ∀ (k : Nat) (x : Int), (∀ z, x ≤ z → z < x + k → hasS s z = true) → potS s (x + k) = potS s x + k
 | 0, x, _ => by rw [show x + ((0 : Nat) : Int) = x by omega]; omega
 | k + 1, x, hz => by
  have h1 := pot_run h k x fun z a b => hz z a (by omega)
  have h2 := potS_steps h (x + k)
  rw [hz (x + k) (by omega) (by omega)] at h2
  rw [show x + ((k + 1 : Nat) : Int) = x + k + 1 by omega, h2, h1]
  simp [b2i]
  omega
theorem pot_full {s : St} (h : GoodS s) {x y : Int} (hxy : x ≤ y) (hz : ∀ z, x ≤ z → z < y → hasS s z = true) : potS s y = potS s x + (y - x) := by
 have := pot_run h (y - x).toNat x fun z a b => hz z a (by omega)
 rw [show x + ((y - x).toNat : Int) = y by omega] at this
 omega
theorem next_not {h : Int → Bool} {x : Int} {q : Option Int} (hn : NextC h x q) : NextC (fun z => !h z) x q := by
 cases q with
 | none => exact fun z a => by show (!h (z - 1)) = !h z; rw [hn z a]
 | some y => exact ⟨hn.1, fun e => hn.2.1 (by simpa using e), fun z a b => by show (!h (z - 1)) = !h z; rw [hn.2.2 z a b]⟩
theorem next_full {h : Int → Bool} {x y : Int} (hx : h x = true) (hn : NextC h x (some y)) : x < y ∧ h y = false ∧ ∀ z, x ≤ z → z < y → h z = true := by
 obtain ⟨a, b, c⟩ := next_first (h := fun z => !h z) (by simp [hx]) (next_not hn)
 exact ⟨a, by simpa using b, fun z h1 h2 => by simpa using c z h1 h2⟩
theorem next_always {h : Int → Bool} {x : Int} (hx : h x = true) (hn : NextC h x none) : ∀ z, x ≤ z → h z = true := fun z a => by
 simpa using next_never (h := fun z => !h z) (by simp [hx]) (next_not hn) z a
theorem ch_step {s : St} {x : Int} {r : Option Int} (hl : lineB x = true) (hx : hasS s x = true) (hr : ChSpec true s x r) :
  (r = none ∧ ∀ z, x ≤ z → z < 4398046511104 → hasS s z = true) ∨ ∃ e, r = some e ∧ x < e ∧ e ≤ 4398046511104 ∧ hasS s e = false ∧ ∀ z, x ≤ z → z < e → hasS s z = true := by
 unfold ChSpec at hr
 rw [if_neg (by rw [hl]; simp)] at hr
 obtain ⟨q, hq, rfl⟩ := hr
 cases q with
 | none => exact Or.inl ⟨rfl, fun z a _ => next_always hx hq z a⟩
 | some y =>
  obtain ⟨a, b, c⟩ := next_full hx hq
  by_cases hy : 4398046511104 < y
  ·exact Or.inl ⟨by unfold onLine; simp only [if_pos hy], fun z h1 h2 => c z h1 (by omega)⟩
  ·exact Or.inr ⟨y, by unfold onLine; simp only [if_neg hy], a, by omega, b, c⟩
theorem ne_step {s : St} {x : Int} {r : Option Int} (hl : lineB x = true) (hr : NeSpec true s x r) :
  (r = none ∧ ∀ z, x ≤ z → z < 4398046511104 → hasS s z = false) ∨ ∃ y, r = some y ∧ x ≤ y ∧ y ≤ 4398046511104 ∧ hasS s y = true ∧ ∀ z, x ≤ z → z < y → hasS s z = false := by
 have hb := (lineB_iff x).1 hl
 unfold NeSpec at hr
 rw [if_neg (by rw [hl]; simp)] at hr
 by_cases hx : hasS s x = true
 ·rw [if_pos hx] at hr
  exact Or.inr ⟨x, hr, Int.le_refl _, hb.2, hx, fun z a b => by omega⟩
 ·rw [if_neg hx] at hr
  have hx : hasS s x = false := by simpa using hx
  obtain ⟨q, hq, rfl⟩ := hr
  cases q with
  | none => exact Or.inl ⟨rfl, fun z a _ => next_never hx hq z a⟩
  | some y =>
   obtain ⟨a, b, c⟩ := next_first hx hq
   by_cases hy : 4398046511104 < y
   ·exact Or.inl ⟨by unfold onLine; simp only [if_pos hy], fun z h1 h2 => c z h1 (by omega)⟩
   ·exact Or.inr ⟨y, by unfold onLine; simp only [if_neg hy], by omega, by omega, b, c⟩
end Wk
end Go.Proofs.YtlbjfbpejomkmaaGreat
namespace Go.Proofs.YtlbjfbpejomkmaaGreat
open Go.RowKit Wk

end Go.Proofs.YtlbjfbpejomkmaaGreat
namespace Go.Proofs.YtlbjfbpejomkmaaGreat
open Go.RowKit Wk

theorem ext_rdJ {W : World} {v : Value} {l : List Int} (h : RdJ W v l) : ∀ x : Ext W, RdJ (extOf W x) v l := fun x => h.below x.2

end Go.Proofs.YtlbjfbpejomkmaaGreat
namespace Go.Proofs.YtlbjfbpejomkmaaGreat
open Go.RowKit Wk

end Go.Proofs.YtlbjfbpejomkmaaGreat
namespace Go.Proofs.YtlbjfbpejomkmaaGreat
open Go.RowKit Wk

theorem RowP.setAt {W : World} {g : Nat} {a : List Sp} (h : RowP W g a) {i : Nat} (hi : i < a.length) (s : Sp) : RowP ((W.setCell ⟨g, i * 2, none⟩ (.int .i64 s.1)).setCell ⟨g, i * 2 + 1, none⟩ (.int .i64 s.2)) g (a.set i s) := by
 intro k hk
 rw [List.length_set] at hk
 refine ⟨?_, ((frz_set ..).trans (frz_set ..)).trans (h k hk).2.1, ((frz_set ..).trans (frz_set ..)).trans (h k hk).2.2⟩
 unfold spAt
 rw [getD_setL a i k s (0, 0) hi]
 by_cases q : k = i
 ·subst q
  rw [if_pos rfl]
  exact ⟨(cell_ne (Or.inr (by omega))).trans (cell_eq (h k hk).1.1), cell_eq ((cell_ne (Or.inr (by omega))).trans (h k hk).1.2)⟩
 ·rw [if_neg q]
  exact ⟨((cell_ne (Or.inr (by omega))).trans (cell_ne (Or.inr (by omega)))).trans (h k hk).1.1, ((cell_ne (Or.inr (by omega))).trans (cell_ne (Or.inr (by omega)))).trans (h k hk).1.2⟩
end Go.Proofs.YtlbjfbpejomkmaaGreat
