import Derived.Test.YtnjpceocnldlfaaGreatWkPn
/- The walk through a set, plain. -/
namespace Go.Proofs.YtnjpceocnldlfaaGreat
namespace Wk
theorem wlk_const_up {h : Int → Bool} {x c : Int} (hc : ∀ z, x < z → z < c → h (z - 1) = h z) (y : Int) (h1 : x ≤ y) (h2 : y < c) : h y = h x := by
  obtain ⟨n, hn⟩ : ∃ n : Nat, y = x + n := ⟨(y - x).toNat, by omega⟩
  induction n generalizing y with
  | zero => rw [hn]; simp
  | succ n ih =>
    have := ih (x + n) (by omega) (by omega) rfl
    have e := hc y (by omega) h2
    rw [show y - 1 = x + n by omega] at e
    rw [← e, this]
theorem wlk_const_dn {h : Int → Bool} {x c : Int} (hc : ∀ z, c < z → z ≤ x → h (z - 1) = h z) (y : Int) (h1 : c ≤ y) (h2 : y ≤ x) : h y = h x := by
  obtain ⟨n, hn⟩ : ∃ n : Nat, y = x - n := ⟨(x - y).toNat, by omega⟩
  induction n generalizing y with
  | zero => rw [hn]; simp
  | succ n ih =>
    have := ih (x - n) (by omega) (by omega) rfl
    have e := hc (x - n) (by omega) (by omega)
    rw [show x - (n : Int) - 1 = y by omega] at e
    rw [e, this]
theorem wlk_next_facts {h : Int → Bool} {x c : Int} (hp : NextC h x (some c)) : x < c ∧ h (c - 1) = h x ∧ h c = !(h x) ∧ ∀ y, x ≤ y → y < c → h y = h x := by
  obtain ⟨h1, h2, h3⟩ := hp
  have e := wlk_const_up h3 (c - 1) (by omega) (by omega)
  refine ⟨h1, e, ?_, wlk_const_up h3⟩
  rw [e] at h2
  cases hx : h x <;> cases hc : h c <;> simp [hx, hc] at h2 ⊢
theorem wlk_next_none {h : Int → Bool} {x : Int} (hp : NextC h x none) (y : Int) (hy : x ≤ y) : h y = h x :=
  wlk_const_up (c := y + 1) (fun z a _ => hp z a) y hy (by omega)
theorem wlk_prev_facts {h : Int → Bool} {x c : Int} (hp : PrevC h x (some c)) : c ≤ x ∧ h (c - 1) = (!(h x)) ∧ ∀ y, c ≤ y → y ≤ x → h y = h x := by
  obtain ⟨h1, h2, h3⟩ := hp
  have e := wlk_const_dn h3 c (by omega) h1
  refine ⟨h1, ?_, wlk_const_dn h3⟩
  rw [e] at h2
  cases hx : h x <;> cases hc : h (c - 1) <;> simp [hx, hc] at h2 ⊢
theorem wlk_prev_none {h : Int → Bool} {x : Int} (hp : PrevC h x none) (y : Int) (hy : y ≤ x) : h y = h x :=
  wlk_const_dn (c := y) (fun z _ b => hp z b) y (by omega) hy
end Wk
end Go.Proofs.YtnjpceocnldlfaaGreat
