/- The ways through timeset.form, plain. No conditions. -/
import Derived.Test.YtkfonfheakpcbaaGreatWkPlainE
import Derived.Test.YtkfonfheakpcbaaGreatWkPlainH
import Derived.Test.YtkfonfheakpcbaaGreatWkAwk
namespace Go.Proofs.YtkfonfheakpcbaaGreat
namespace Wk
def earlyB (s : St) : Bool := (lastF (fun x => inL s.l x != hasP s.rt x) s.fr s.to).isNone && peB s.lf.1 s.lf.2 s.rt.1 s.rt.2 && (firstF (fun x => inL s.l x != hasP s.lf x) s.fr s.to).isNone
theorem form_pair {s : St} {e : Int} (h : pairM s.lf.1 s.lf.2 s.rt.1 s.rt.2 = e) (he : e ≠ 0) : formF s = (noSt, e) := by
  unfold formF; rw [h, if_pos he]
theorem form_early {s : St} (h : pairM s.lf.1 s.lf.2 s.rt.1 s.rt.2 = 0) (he : earlyB s = true) : formF s = (pureF s.lf, 0) := by
  unfold formF; rw [h, if_neg (by simp)]; unfold earlyB at he; rw [if_pos he]
theorem form_none {s : St} (h : pairM s.lf.1 s.lf.2 s.rt.1 s.rt.2 = 0) (he : earlyB s = false) (hn : endF s = none ∨ begF s = none) : formF s = (pureF s.lf, 0) := by
  unfold formF; rw [h, if_neg (by simp)]; unfold earlyB at he; rw [if_neg (by rw [he]; simp)]
  rcases hn with hn | hn
  · rw [hn]
  · rw [hn]; cases endF s <;> rfl
theorem form_some {s : St} {e b : Int} (h : pairM s.lf.1 s.lf.2 s.rt.1 s.rt.2 = 0) (he : earlyB s = false) (h1 : endF s = some e) (h2 : begF s = some b) : formF s = formE s e b := by
  unfold formF; rw [h, if_neg (by simp)]; unfold earlyB at he; rw [if_neg (by rw [he]; simp), h1, h2]
theorem last_bd {d : Int → Bool} {low high x : Int} (h : lastF d low high = some x) : low ≤ x ∧ x < high := by
  have := lastF_ok d low high
  rw [h] at this
  exact ⟨this.1, this.2.1⟩
theorem first_bd {d : Int → Bool} {low high x : Int} (h : firstF d low high = some x) : low ≤ x ∧ x < high := by
  have := firstF_ok d low high
  rw [h] at this
  exact ⟨this.1, this.2.1⟩
theorem end_bd {s : St} (hs : OkS s) {x : Int} (h : endF s = some x) : -17021827311905 ≤ x ∧ x ≤ 4398046511104 := by
  have h1 := (rvB_of_pvB hs.lf).2.1
  have h2 := (rvB_of_pvB hs.rt).2.1
  have hc := commonM_bd h1 h2
  have hfr := hs.f1
  have hto := hs.t1
  have hft := hs.ft
  unfold endF at h
  cases h3 : lastF (fun x => inL s.l x != hasP s.rt x) s.fr s.to with
  | some y =>
    rw [h3] at h
    have := last_bd h3
    simp at h
    omega
  | none =>
    rw [h3, Option.none_or] at h
    have := last_bd h
    omega
theorem beg_bd {s : St} (hs : OkS s) {x : Int} (h : begF s = some x) : -4398046511104 ≤ x ∧ x ≤ 17021827311905 := by
  have h1 := (rvB_of_pvB hs.lf).2.1
  have h2 := (rvB_of_pvB hs.rt).2.1
  have hc := commonM_bd h1 h2
  have hfr := hs.f1
  have hto := hs.t1
  have hft := hs.ft
  unfold begF at h
  cases h3 : firstF (fun x => inL s.l x != hasP s.lf x) s.fr s.to with
  | some y =>
    rw [h3] at h
    have := first_bd h3
    simp at h
    omega
  | none =>
    rw [h3, Option.none_or] at h
    have := first_bd h
    omega
/-- the pair of the example is in its form -/
theorem aw_VB : VB awS = true := by
  have hp : pvB 86400 awL = true := aw_pv
  have he : peB 86400 awL 86400 awL = true := by unfold peB; rw [hp]; simp
  have hpair : pairM awS.lf.1 awS.lf.2 awS.rt.1 awS.rt.2 = 0 := by
    show pairM 86400 awL 86400 awL = 0
    unfold pairM; rw [if_pos he]
  have hearly : earlyB awS = true := by
    unfold earlyB
    rw [show awS.lf.1 = 86400 from rfl, show awS.lf.2 = awL from rfl, show awS.rt.1 = 86400 from rfl, show awS.rt.2 = awL from rfl, he]
    rfl
  have hf := form_early hpair hearly
  have hg : givenB awS = true := by
    unfold givenB
    rw [show awS.lf.1 = 86400 from rfl, show awS.lf.2 = awL from rfl, show awS.rt.1 = 86400 from rfl, show awS.rt.2 = awL from rfl, hp]
    rfl
  unfold VB
  rw [hg, hf]
  show (((((true && (0 : Int) == 0) && (0 : Int) == 0) && (0 : Int) == 0) && peB 86400 awL 86400 awL) && peB 86400 awL 86400 awL) && decide (([] : List Sp) = []) = true
  rw [he]
  rfl
end Wk
end Go.Proofs.YtkfonfheakpcbaaGreat
