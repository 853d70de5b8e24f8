import Derived.Test.YtnjpceocnldlfaaGreatWkC13
import Derived.Test.YtnjpceocnldlfaaGreatWkPu
import Derived.Test.YtnjpceocnldlfaaGreatWkRof
import Derived.Test.YtnjpceocnldlfaaGreatWkBf
import Derived.Test.YtnjpceocnldlfaaGreatWkNa
import Derived.Test.YtnjpceocnldlfaaGreatWkRfC
import Derived.Test.YtnjpceocnldlfaaGreatWkRfX
/- The reference's Not and Move of periodic sets. -/
namespace Go.Proofs.YtnjpceocnldlfaaGreat
open Go.RowKit Wk

end Go.Proofs.YtnjpceocnldlfaaGreat
namespace Go.Proofs.YtnjpceocnldlfaaGreat
open Go.RowKit Wk

def PqPost (r : Per × Int) (w : World) (e : Ending) (w' : World) : Prop := ∃ v', e = .returned (.tuple #[.agg #[.int .i64 r.1.1, v'], .int .i64 r.2]) ∧ RdS w' v' r.1.2 ∧ Below w.heap.size w w'

end Go.Proofs.YtnjpceocnldlfaaGreat
namespace Go.Proofs.YtnjpceocnldlfaaGreat
open Go.RowKit Wk

structure NtIn (w : World) (a : St) (al ar av : Value) (X : World) : Prop where
  xa : Set7 X w.heap.size (.int .i64 a.lf.1) al (.int .i64 a.rt.1) ar (.int .i64 a.fr) (.int .i64 a.to) av
  xz : Set7 X (w.heap.size + 1) (.int .i64 0) (.slice none 0 0) (.int .i64 0) (.slice none 0 0) (.int .i64 0) (.int .i64 0) (.slice none 0 0)
  zz : Zero7 X (w.heap.size + 1)
  ra : RdSt X a al ar av
  be : Below w.heap.size w X
theorem NtIn.below {w X Y : World} {a : St} {al ar av : Value} (h : NtIn w a al ar av X) (hb : Below X.heap.size X Y) : NtIn w a al ar av Y :=
  ⟨h.xa.below hb, h.xz.below hb, h.zz.below (World.block_lt_of_cell? X ⟨w.heap.size + 1, 0, none⟩ h.xz.1.1) hb, keepSt hb h.ra, keepBelow h.be hb⟩
theorem PrPost.pq {r : Per × Int} {w w' : World} {e : Ending} (hl : r.1.2.length ≤ 2000) (h : PrPost r w e w') : PqPost r w e w' := by
  obtain ⟨v, rfl, o, b⟩ := h
  exact ⟨v, rfl, o.rd (by omega), b⟩
end Go.Proofs.YtnjpceocnldlfaaGreat
namespace Go.Proofs.YtnjpceocnldlfaaGreat
open Go.RowKit Wk

set_option maxRecDepth 100000 in
set_option maxHeartbeats 1000000 in
theorem rpure14_any (s : St) (vl vr vv : Value) (w : World) (h : RdSt w s vl vr vv) (hp1 : pvB s.lf.1 s.lf.2 = true) (hp2 : pvB s.rt.1 s.rt.2 = true) :
    Calls Tryz.prog 110 #[.agg #[.int .i64 s.lf.1, vl, .int .i64 s.rt.1, vr, .int .i64 s.fr, .int .i64 s.to, vv]] w fun e w' => e = .returned (.bool (pureB s)) ∧ Below w.heap.size w w' := by
  obtain ⟨⟨P, l⟩, ⟨Q, m⟩, f, t, k⟩ := s
  simp only at h hp1 hp2 ⊢
  have HPP : Hid (∀ W, RdS W vl l → RdS W vr m → Calls Tryz.prog 68 #[.agg #[.int .i64 P, vl], .agg #[.int .i64 Q, vr]] W fun e w' => e = .returned (.bool (peB P l Q m)) ∧ Below W.heap.size W w') := fun W h h' => by
    have := equal13_any P Q vl vr l m W h h'
    have e : ((P == Q) && decide (l = m)) = peB P l Q m := by unfold peB; rw [hp1, hp2]; rfl
    rwa [e] at this
  have HP := HPP
  clear HPP hp1 hp2
  have HR0 := Lib.hid h
  have HPU : Hid (pureB ⟨(P, l), (Q, m), f, t, k⟩ = ((decide (f = 0) && decide (t = 0)) && peB P l Q m)) := rfl
  generalize pureB ⟨(P, l), (Q, m), f, t, k⟩ = pb at *
  obtain ⟨pe, hpe⟩ : ∃ pe, peB P l Q m = pe := ⟨_, rfl⟩
  rw [hpe] at HP HPU
  clear hpe
  obtain ⟨a1, n1, rfl⟩ := h.1.form
  obtain ⟨a2, n2, rfl⟩ := h.2.1.form
  obtain ⟨a3, n3, rfl⟩ := h.2.2.form
  simp only at HR0 ⊢
  clear h
  obtain ⟨W, hWe⟩ : ∃ W, w.alloc (.cells #[.int .i64 P, .slice a1 l.length n1, .int .i64 Q, .slice a2 m.length n2, .int .i64 f, .int .i64 t, .slice a3 k.length n3] 26) = W := ⟨_, rfl⟩
  have hW : Below w.heap.size w W := by rw [← hWe]; exact (Below.refl _ w).alloc (Nat.le_refl _) _
  have HX : Hid (Set7 W w.heap.size (.int .i64 P) (.slice a1 l.length n1) (.int .i64 Q) (.slice a2 m.length n2) (.int .i64 f) (.int .i64 t) (.slice a3 k.length n3)) := by
    rw [← hWe]
    refine ⟨⟨?_, ?_, ?_, ?_, ?_, ?_, ?_⟩, ?_, ?_, ?_, ?_, ?_, ?_, ?_⟩ <;> simp [go_sem]
  have HR := Lib.hid (keepSt hW HR0.out)
  have HE := Lib.hid hWe
  clear hWe
  obtain ⟨⟨B0, B1, B2, B3, B4, B5, B6⟩, _⟩ := HX.out
  by_cases h1 : f = 0
  · subst h1
    by_cases h2 : t = 0
    · subst h2
      go_enter Tryz.func110, Tryz.ntmps110
      go_wp2_with fail
      rw [HE.out]
      go_wp2_with fail
      refine (HP.out _ HR.out.1 HR.out.2.1).mono ?_
      rintro e w1 ⟨rfl, hb1⟩
      go_wp2
      go_ret
      exact ⟨ret_bool (by rw [HPU.out]; simp), keepBelow hW hb1⟩
    · have t1 : (t == 0) = false := by simpa using h2
      have HQ : Hid (pb = false) := by unfold Hid; rw [HPU.out, decide_eq_false h2]; simp
      clear h2
      go_enter Tryz.func110, Tryz.ntmps110
      go_wp2_with fail
      rw [HE.out]
      go_wp2
      go_ret
      exact ⟨ret_bool HQ.out.symm, hW⟩
  · have t1 : (f == 0) = false := by simpa using h1
    have HQ : Hid (pb = false) := by unfold Hid; rw [HPU.out, decide_eq_false h1]; simp
    clear h1
    go_enter Tryz.func110, Tryz.ntmps110
    go_wp2_with fail
    rw [HE.out]
    go_wp2
    go_ret
    exact ⟨ret_bool HQ.out.symm, hW⟩
end Go.Proofs.YtnjpceocnldlfaaGreat
