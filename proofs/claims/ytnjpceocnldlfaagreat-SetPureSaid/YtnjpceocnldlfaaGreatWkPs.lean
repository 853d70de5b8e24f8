import Derived.Test.YtnjpceocnldlfaaGreatWkPr
/- Purely periodic sets: their form, their unions, plain. -/
namespace Go.Proofs.YtnjpceocnldlfaaGreat
namespace Wk
theorem form_pure {p : Per} (h : pvB p.1 p.2 = true) : formF (pureF p) = (pureF p, 0) := by
  have he : earlyB (pureF p) = true := by
    unfold earlyB pureF
    simp only [ak_pe h]
    rfl
  exact form_early (ak_pair h) he
theorem VB_pure {p : Per} (h : pvB p.1 p.2 = true) : VB (pureF p) = true := ak_VB h h rfl (form_pure h)
theorem pureB_pure {p : Per} (h : pvB p.1 p.2 = true) : pureB (pureF p) = true := by
  unfold pureB pureF
  simp only [ak_pe h]
  rfl
theorem comb_pure {k : Int} {p q : Per} (hp : pvB p.1 p.2 = true) (hq : pvB q.1 q.2 = true) :
    combM k (pureF p) (pureF q) = if (bothM k p q).2 = 0 then (pureF (bothM k p q).1, 0) else (noSt, (bothM k p q).2) := by
  have h1 := VB_pure hp
  have h2 := VB_pure hq
  by_cases he : (bothM k p q).2 = 0
  · rw [if_pos he]
    have hb := bothM_ok he
    obtain ⟨⟨r, e⟩, hr⟩ : ∃ r, bothM k p q = r := ⟨_, rfl⟩
    rw [hr] at hb he ⊢
    simp only at he hb ⊢
    subst he
    have hw : winL (pureF p) (pureF q) = 0 := by unfold winL; rw [if_pos (pureB_pure hp)]; rfl
    have hw2 : winR (pureF p) (pureF q) = 0 := by unfold winR; rw [if_pos (pureB_pure hp)]; rfl
    rw [comb_form (kind := k) (p := r) (q := r) h1 h2 hr hr (ak_pair hb.2.2.1) hw hw2 (by simp [memF])]
    exact form_pure hb.2.2.1
  · rw [if_neg he]
    exact comb_left h1 h2 rfl he
end Wk
end Go.Proofs.YtnjpceocnldlfaaGreat
