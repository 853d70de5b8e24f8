import Derived.Test.YtlbjfbpejomkmaaGreatWkPq
import Derived.Test.YtlbjfbpejomkmaaGreatWkPl
/- The chapter's example of sets: what Minus and Of come to there, plain. No conditions. -/
namespace Go.Proofs.YtlbjfbpejomkmaaGreat
namespace Wk
def aL : List Sp := [(0, 1)]
theorem ak_pe {P : Int} {l : List Sp} (h : pvB P l = true) : peB P l P l = true := by
  unfold peB; rw [h]; simp
theorem ak_pair {P : Int} {l : List Sp} (h : pvB P l = true) : pairM P l P l = 0 := by
  unfold pairM; rw [if_pos (ak_pe h)]
theorem ak_VB {s : St} (h1 : pvB s.lf.1 s.lf.2 = true) (h2 : pvB s.rt.1 s.rt.2 = true) (h3 : (decide (s.fr ≤ s.to) && lineB s.fr && lineB s.to && rvB s.l && (decide (s.l = []) || (decide (s.fr ≤ (s.l.getD 0 (0, 0)).1) && decide ((s.l.getD (s.l.length - 1) (0, 0)).2 ≤ s.to)))) = true) (hf : formF s = (s, 0)) : VB s = true := by
  have hg : givenB s = true := by
    unfold givenB
    rw [h1, h2]
    simpa only [Bool.true_and, Bool.and_assoc] using h3
  unfold VB
  rw [hg, hf]
  simp only [ak_pe h1, ak_pe h2]
  simp
def a7 : St := ⟨(7, aL), (7, aL), 0, 0, []⟩
def aB : St := ⟨(2, aL), (4, aL), 7, 7, []⟩
end Wk
end Go.Proofs.YtlbjfbpejomkmaaGreat
namespace Go.Proofs.YtlbjfbpejomkmaaGreat
namespace Wk

end Wk
end Go.Proofs.YtlbjfbpejomkmaaGreat
namespace Go.Proofs.YtlbjfbpejomkmaaGreat
namespace Wk

end Wk
end Go.Proofs.YtlbjfbpejomkmaaGreat
namespace Go.Proofs.YtlbjfbpejomkmaaGreat
namespace Wk

theorem MSt.run {R : Bool → Bool → Bool} (hR : R false false = false) {a b : List Sp} (ha : Canon a) (hb : Canon b) (ba : Bnd a) (bb : Bnd b) : ∀ (n : Nat) {p : Int} {i k : Nat} {ins : Bool} {fr : Int} {L : List Sp}, 2 * a.length + 2 * b.length ≤ n + (i + k) → i ≤ 2 * a.length → k ≤ 2 * b.length → MSt R a b p i k ins fr L →
    ∃ L', Canon L' ∧ (∀ x, inL L' x = R (inL a x) (inL b x)) ∧ L'.length ≤ a.length + b.length
  | 0, p, i, k, ins, fr, L, hn, hi, hk, h => by
    obtain ⟨h1, h2, h3⟩ := h.done hR (by omega) (by omega)
    have := h.len
    exact ⟨L, h2, h3, by omega⟩
  | n + 1, p, i, k, ins, fr, L, hn, hi, hk, h => by
    by_cases hd : i = 2 * a.length ∧ k = 2 * b.length
    · obtain ⟨h1, h2, h3⟩ := h.done hR hd.1 hd.2
      have := h.len
      exact ⟨L, h2, h3, by omega⟩
    · have hik : i < 2 * a.length ∨ k < 2 * b.length := by omega
      obtain ⟨x, hx⟩ : ∃ x, endX a i = x := ⟨_, rfl⟩
      obtain ⟨y, hy⟩ : ∃ y, endX b k = y := ⟨_, rfl⟩
      obtain ⟨at', hat⟩ : ∃ z, min x y = z := ⟨_, rfl⟩
      obtain ⟨i', hi'⟩ : ∃ i', (x = at' → i' = i + 1) ∧ (x ≠ at' → i' = i) := by
        by_cases e : x = at'
        · exact ⟨i + 1, fun _ => rfl, fun hh => absurd e hh⟩
        · exact ⟨i, fun hh => absurd hh e, fun _ => rfl⟩
      obtain ⟨k', hk'⟩ : ∃ k', (y = at' → k' = k + 1) ∧ (y ≠ at' → k' = k) := by
        by_cases e : y = at'
        · exact ⟨k + 1, fun _ => rfl, fun hh => absurd e hh⟩
        · exact ⟨k, fun hh => absurd hh e, fun _ => rfl⟩
      obtain ⟨g1, g2, g3, g4, _, _⟩ := h.go ha hb ba bb hik hx hy hat hi' hk' rfl
      exact MSt.run hR ha hb ba bb n (by omega) g2 g3 g1
end Wk
end Go.Proofs.YtlbjfbpejomkmaaGreat
namespace Go.Proofs.YtlbjfbpejomkmaaGreat
namespace Wk
theorem form_pure {p : Per} (h : pvB p.1 p.2 = true) : formF (pureF p) = (pureF p, 0) := by
  have he : earlyB (pureF p) = true := by
    unfold earlyB pureF
    simp only [ak_pe h]
    rfl
  exact form_early (ak_pair h) he
theorem VB_pure {p : Per} (h : pvB p.1 p.2 = true) : VB (pureF p) = true := ak_VB h h rfl (form_pure h)
end Wk
end Go.Proofs.YtlbjfbpejomkmaaGreat
