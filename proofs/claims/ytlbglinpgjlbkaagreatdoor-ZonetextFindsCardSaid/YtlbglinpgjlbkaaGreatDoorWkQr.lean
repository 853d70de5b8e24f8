import Derived.Test.YtlbglinpgjlbkaaGreatDoorWkQb
/- Zone texts, plain: the reference's reader as a state. -/
namespace Go.Proofs.YtlbglinpgjlbkaaGreatDoor
namespace Wk
open Go.Lib

def SimEr {α : Type} (ws : List Tok) (f : SM α) : Prop := ∀ s : RSt, s.e ≠ 0 → s.n ≤ ws.length → (f s).2.p = s.p ∧ (f s).2.e = s.e ∧ (f s).2.n ≤ ws.length
theorem SimEr.bind {α β : Type} {ws : List Tok} {f : SM α} {g : α → SM β} (h : SimEr ws f) (h' : ∀ a, SimEr ws (g a)) : SimEr ws (SM.bind f g) := by
 intro s hs hn
 unfold SM.bind
 obtain ⟨q1, q2, q3⟩ := h s hs hn
 have h2 := h' (f s).1 (f s).2 (by rw [q2]; exact hs) q3
 exact ⟨h2.1.trans q1, h2.2.1.trans q2, h2.2.2⟩
theorem SimEr.ret {α : Type} (ws : List Tok) (a : α) : SimEr ws (SM.ret a) := fun _ _ hn => ⟨rfl, rfl, hn⟩
def fitsR (m : Int) (o : OnT) : Bool := decide (1 ≤ m) && decide (m ≤ 12) && onB o && decide (o.d ≤ lenM m)
structure Sim1 {α : Type} (t : Tok) (ws : List Tok) (f : SM α) (m : Rd α) : Prop where
 ok : ∀ n, 1 ≤ n → n ≤ ws.length → ws.getD (n - 1) tok0 = t → match m ws n with
  | .inl (a, k) => f (st0 n) = (a, st0 k) ∧ k ≤ ws.length
  | .inr (p, e) => (f (st0 n)).2.p = p ∧ (f (st0 n)).2.e = e ∧ e ≠ 0 ∧ (f (st0 n)).2.n ≤ ws.length
 er : SimEr ws f
theorem Sim.one {α : Type} {ws : List Tok} {f : SM α} {m : Rd α} (h : Sim ws f m) (t : Tok) : Sim1 t ws f m := ⟨fun n _ hn _ => h.ok n hn, h.er⟩
theorem find_bd {s : Bs} {l : List Bs} (h : ((findM' l s).2 == 0) = true) : 1 ≤ (findM' l s).1 ∧ (findM' l s).1 ≤ l.length := by
 unfold findM' at h ⊢
 cases hk : l.findIdx? (· == s) with
 | none => rw [hk] at h; exact absurd h (by simp)
 | some k =>
  have : k < l.length := by
   rw [List.findIdx?_eq_some_iff_getElem] at hk
   exact hk.1
  simp only
  omega
end Wk
end Go.Proofs.YtlbglinpgjlbkaaGreatDoor
