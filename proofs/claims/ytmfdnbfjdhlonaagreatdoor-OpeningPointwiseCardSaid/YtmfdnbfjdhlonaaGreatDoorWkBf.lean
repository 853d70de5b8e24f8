import Derived.Test.YtmfdnbfjdhlonaaGreatDoorWkVal
import Derived.Test.YtmfdnbfjdhlonaaGreatDoorWkPn
/- timeset.isPure. -/
namespace Go.Proofs.YtmfdnbfjdhlonaaGreatDoor
open Go.RowKit Wk

end Go.Proofs.YtmfdnbfjdhlonaaGreatDoor
namespace Go.Proofs.YtmfdnbfjdhlonaaGreatDoor
open Go.RowKit Wk

def Zero7 (W : World) (b : Nat) : Prop := ∀ (o : Nat) (x y : Int), W.cell? ⟨b, o, none⟩ = some (.int .i64 x) → W.cell? ⟨b, o + 1, none⟩ = some (.int .i64 y) → ¬ x < y
theorem Zero7.below {W X : World} {b : Nat} (h : Zero7 W b) (hb : b < W.heap.size) (hX : Below W.heap.size W X) : Zero7 X b := fun o x y h1 h2 => by
 rw [hX.cell (p := ⟨b, o, none⟩) hb] at h1
 rw [hX.cell (p := ⟨b, o + 1, none⟩) hb] at h2
 exact h o x y h1 h2
theorem zero7_new (W : World) : Zero7 (W.alloc (.cells #[.int .i64 0, .slice none 0 0, .int .i64 0, .slice none 0 0, .int .i64 0, .int .i64 0, .slice none 0 0] 31)) W.heap.size := by
 intro o x y h1 h2
 rcases (by omega : o = 0 ∨ o = 1 ∨ o = 2 ∨ o = 3 ∨ o = 4 ∨ o = 5 ∨ 6 ≤ o) with rfl | rfl | rfl | rfl | rfl | rfl | h
 ·simp [go_sem] at h2
 ·simp [go_sem] at h1
 ·simp [go_sem] at h2
 ·simp [go_sem] at h1
 ·simp [go_sem] at h1 h2; omega
 ·simp [go_sem] at h2
 ·rcases (by omega : o = 6 ∨ 7 ≤ o) with rfl | h7
  ·simp [go_sem] at h1
  ·have e : (W.alloc (.cells #[.int .i64 0, .slice none 0 0, .int .i64 0, .slice none 0 0, .int .i64 0, .int .i64 0, .slice none 0 0] 31)).cell? ⟨W.heap.size, o, none⟩ = none := by
    simp [go_sem]
    exact h7
   rw [e] at h1
   cases h1
theorem RdX.zero {W : World} {b : Nat} {v : Value} {l : List Sp} (h : RdS W v l) (hp : ∀ s ∈ l, s.1 < s.2) (hz : Zero7 W b) : RdX W b v l := by
 refine ⟨h, fun b' o n c e h0 e2 => ?_⟩
 obtain ⟨a, c', rfl, hl, hc⟩ := h
 obtain ⟨b3, o3, rfl, c1, c2⟩ := hc 0 h0
 cases e
 subst e2
 have h1 := hp _ (idx_mem h0)
 exact hz _ _ _ c1 c2 h1
def TsPost (r : St × Int) (w : World) (e : Ending) (w' : World) : Prop :=
 ∃ vl vr vv, e = .returned (.tuple #[.agg #[.int .i64 r.1.lf.1, vl, .int .i64 r.1.rt.1, vr, .int .i64 r.1.fr, .int .i64 r.1.to, vv], .int .i64 r.2]) ∧ RdSt w' r.1 vl vr vv ∧ Below w.heap.size w w'
def PosSt (s : St) : Prop := (∀ x ∈ s.lf.2, x.1 < x.2) ∧ (∀ x ∈ s.rt.2, x.1 < x.2) ∧ ∀ x ∈ s.l, x.1 < x.2
theorem pos_no : PosSt noSt := ⟨fun x h => by simp [noSt] at h, fun x h => by simp [noSt] at h, fun x h => by simp [noSt] at h⟩
theorem pos_OkS {s : St} (h : OkS s) : PosSt s := ⟨canon_pos h.good.lf.canon, canon_pos h.good.rt.canon, canon_pos (canon_of_rvB h.l).1⟩
theorem pos_form {s : St} (h : OkS s) : PosSt (formF s).1 := by
 have hs := pos_OkS h
 have hm : ∀ (g : Int → Bool) f t, ∀ x ∈ memL g f t, x.1 < x.2 := fun g f t x hx => by
  unfold memL at hx
  split at hx
  ·exact canon_pos (memF_can g f _).1 x hx
  ·simp at hx
 have hE : ∀ e b, PosSt (formE s e b).1 := fun e b => by
  unfold formE
  generalize (if b ≤ e + 1 then b else e + 1) = fr
  simp only
  split
  ·exact ⟨hs.1, hs.2.1, hm _ _ _⟩
  ·exact pos_no
 unfold formF
 split
 ·exact pos_no
 ·split
  ·exact ⟨hs.1, hs.1, fun x hx => by simp [pureF] at hx⟩
  ·split
   ·exact hE _ _
   ·exact ⟨hs.1, hs.1, fun x hx => by simp [pureF] at hx⟩
theorem RdSt.put {W : World} {b : Nat} {s : St} {vl vr vv : Value} (u0 u1 u2 u3 u4 u5 u6 : Value) (h : RdSt W s vl vr vv) (hp : PosSt s) (hz : Zero7 W b) : RdSt (put7 W b u0 u1 u2 u3 u4 u5 u6) s vl vr vv :=
 ⟨((RdX.zero h.1 hp.1 hz).put7 _ _ _ _ _ _ _).1, ((RdX.zero h.2.1 hp.2.1 hz).put7 _ _ _ _ _ _ _).1, ((RdX.zero h.2.2 hp.2.2 hz).put7 _ _ _ _ _ _ _).1⟩
theorem rd_none (w : World) : RdS w (.slice none 0 0) [] := (OwnS.nil w 0).rd (by simp)
theorem rdst_no (w : World) : RdSt w noSt (.slice none 0 0) (.slice none 0 0) (.slice none 0 0) := ⟨rd_none w, rd_none w, rd_none w⟩

end Go.Proofs.YtmfdnbfjdhlonaaGreatDoor
