import Derived.Test.YtkfonfheakpcbaaGreatWkBnd
import Derived.Test.YtkfonfheakpcbaaGreatWkPl
/- timeset: a set as a source: part, has, joint, after. -/
namespace Go.Proofs.YtkfonfheakpcbaaGreat
open Go.RowKit Wk

theorem m_chas (W : World) (p : Int) (a : Option Addr) (n c : Nat) : (method 277 110 (.agg #[.int .i64 p, .slice a n c]) "civiltime/timeset.has").run Tryz.prog W = .ok (184, .agg #[.int .i64 p, .slice a n c]) W := by kernel_rfl
theorem m_bhas (W : World) (a : Option Addr) (n c : Nat) : (method 277 111 (.slice a n c) "civiltime/timeset.has").run Tryz.prog W = .ok (192, .slice a n c) W := by kernel_rfl
theorem m_cafter (W : World) (p : Int) (a : Option Addr) (n c : Nat) : (method 277 110 (.agg #[.int .i64 p, .slice a n c]) "civiltime/timeset.after").run Tryz.prog W = .ok (183, .agg #[.int .i64 p, .slice a n c]) W := by kernel_rfl
theorem m_bafter (W : World) (a : Option Addr) (n c : Nat) : (method 277 111 (.slice a n c) "civiltime/timeset.after").run Tryz.prog W = .ok (191, .slice a n c) W := by kernel_rfl

/-- the lists of a set, as they lie in memory -/
def RdSt (w : World) (s : St) (vl vr vv : Value) : Prop := RdS w vl s.lf.2 ∧ RdS w vr s.rt.2 ∧ RdS w vv s.l
theorem keepSt {W w' : World} {s : St} {vl vr vv : Value} (hb : Below W.heap.size W w') (h : RdSt W s vl vr vv) : RdSt w' s vl vr vv := ⟨keepRd hb h.1, keepRd hb h.2.1, keepRd hb h.2.2⟩
theorem RdS.form {w : World} {v : Value} {l : List Sp} (h : RdS w v l) : ∃ a c, v = .slice a l.length c := let ⟨a, c, e, _⟩ := h; ⟨a, c, e⟩
/-- what whole.part returns -/
def partV (s : St) (vl vr vv : Value) (x : Int) : Value :=
  if x < s.fr then .iface 110 (.agg #[.int .i64 s.lf.1, vl]) else if x < s.to then .iface 111 vv else .iface 110 (.agg #[.int .i64 s.rt.1, vr])

set_option maxHeartbeats 1000000 in
theorem wpart_any (s : St) (vl vr vv : Value) (x : Int) (w : World) (h : RdSt w s vl vr vv) :
    Calls Tryz.prog 80 #[.agg #[.int .i64 s.lf.1, vl, .int .i64 s.rt.1, vr, .int .i64 s.fr, .int .i64 s.to, vv], .int .i64 x] w fun e w' => e = .returned (partV s vl vr vv x) ∧ Below w.heap.size w w' := by
  obtain ⟨al, cl, rfl⟩ := h.1.form
  obtain ⟨ar, cr, rfl⟩ := h.2.1.form
  obtain ⟨av, cv, rfl⟩ := h.2.2.form
  clear h
  obtain ⟨⟨lp, ll⟩, ⟨rp, rl⟩, fr, tt, l⟩ := s
  unfold partV
  simp only
  by_cases h1 : x < fr
  · rw [if_pos h1]
    go_enter Tryz.func80, Tryz.ntmps80
    go_wp2
    go_ret
    exact ⟨rfl, (Below.refl _ _).alloc (Nat.le_refl _) _⟩
  · rw [if_neg h1]
    by_cases h2 : x < tt
    · rw [if_pos h2]
      go_enter Tryz.func80, Tryz.ntmps80
      go_wp2
      go_ret
      exact ⟨rfl, (Below.refl _ _).alloc (Nat.le_refl _) _⟩
    · rw [if_neg h2]
      go_enter Tryz.func80, Tryz.ntmps80
      go_wp2
      go_ret
      exact ⟨rfl, (Below.refl _ _).alloc (Nat.le_refl _) _⟩

set_option maxRecDepth 100000 in
set_option maxHeartbeats 1000000 in
theorem whas_any (s : St) (vl vr vv : Value) (x : Int) (w : World) (h : RdSt w s vl vr vv) (hs : OkS s) (hx1 : -1152921504606846976 ≤ x) (hx2 : x ≤ 1152921504606846976) :
    Calls Tryz.prog 53 #[.agg #[.int .i64 s.lf.1, vl, .int .i64 s.rt.1, vr, .int .i64 s.fr, .int .i64 s.to, vv], .int .i64 x] w fun e w' => e = .returned (.bool (hasS s x)) ∧ Below w.heap.size w w' := by
  have H1 := Lib.hid (fun W h => wpart_any s vl vr vv x W h)
  have H2 := Lib.hid (fun W h => chas_any s.lf.1 x vl s.lf.2 W h hs.lf hx1 hx2)
  have H3 := Lib.hid (fun W h => bhas_any x vv s.l W h hs.l)
  have H4 := Lib.hid (fun W h => chas_any s.rt.1 x vr s.rt.2 W h hs.rt hx1 hx2)
  have hft := hs.ft
  have HD := Lib.hid h
  obtain ⟨al, cl, rfl⟩ := h.1.form
  obtain ⟨ar, cr, rfl⟩ := h.2.1.form
  obtain ⟨av, cv, rfl⟩ := h.2.2.form
  clear h hs
  have q1 := m_chas
  have q2 := m_bhas
  go_enter Tryz.func53, Tryz.ntmps53
  go_wp2_with fail
  refine (H1.out _ (keepSt ((Below.refl _ w).alloc (Nat.le_refl _) _) HD.out)).mono ?_
  rintro e w1 ⟨rfl, hb1⟩
  have hB1 := keepBelow ((Below.refl _ w).alloc (Nat.le_refl _) _) hb1
  have HR1 := Lib.hid (keepSt hB1 HD.out)
  clear hb1
  unfold partV
  by_cases h1 : x < s.fr
  · rw [if_pos h1]
    have HX := Lib.hid (hasS_lf h1)
    go_wp2_with fail
    refine (H2.out _ HR1.out.1).mono ?_
    rintro e w2 ⟨rfl, hb2⟩
    go_wp2
    go_ret
    exact ⟨ret_bool HX.out.symm, keepBelow hB1 hb2⟩
  · rw [if_neg h1]
    by_cases h2 : x < s.to
    · rw [if_pos h2]
      have HX := Lib.hid (hasS_mid (by omega) h2)
      go_wp2_with fail
      refine (H3.out _ HR1.out.2.2).mono ?_
      rintro e w2 ⟨rfl, hb2⟩
      go_wp2
      go_ret
      exact ⟨ret_bool HX.out.symm, keepBelow hB1 hb2⟩
    · rw [if_neg h2]
      have HX := Lib.hid (hasS_rt hft (by omega : s.to ≤ x))
      go_wp2_with fail
      refine (H4.out _ HR1.out.2.1).mono ?_
      rintro e w2 ⟨rfl, hb2⟩
      go_wp2
      go_ret
      exact ⟨ret_bool HX.out.symm, keepBelow hB1 hb2⟩

set_option maxRecDepth 100000 in
set_option maxHeartbeats 1000000 in
theorem wjoint_any (s : St) (vl vr vv : Value) (x : Int) (w : World) (h : RdSt w s vl vr vv) (hs : OkS s) (hx1 : -1152921504606846975 ≤ x) (hx2 : x ≤ 1152921504606846976) :
    Calls Tryz.prog 112 #[.agg #[.int .i64 s.lf.1, vl, .int .i64 s.rt.1, vr, .int .i64 s.fr, .int .i64 s.to, vv], .int .i64 x] w fun e w' => e = .returned (.bool (hasS s (x - 1) != hasS s x)) ∧ Below w.heap.size w w' := by
  have H1 := Lib.hid (fun y W h h1 h2 => whas_any s vl vr vv y W h hs h1 h2)
  have HD := Lib.hid h
  obtain ⟨al, cl, rfl⟩ := h.1.form
  obtain ⟨ar, cr, rfl⟩ := h.2.1.form
  obtain ⟨av, cv, rfl⟩ := h.2.2.form
  clear h hs
  obtain ⟨W, hWe⟩ : ∃ W, w.alloc (.cells #[.int .i64 s.lf.1, .slice al s.lf.2.length cl, .int .i64 s.rt.1, .slice ar s.rt.2.length cr, .int .i64 s.fr, .int .i64 s.to, .slice av s.l.length cv] 73) = W := ⟨_, rfl⟩
  have hB0 : Below w.heap.size w W := by rw [← hWe]; exact (Below.refl _ _).alloc (Nat.le_refl _) _
  have c0 : ∀ X, (extOf W X).cell? ⟨w.heap.size, 0, none⟩ = some (.int .i64 s.lf.1) := ext_cell (by rw [← hWe]; simp [go_sem])
  have c1 : ∀ X, (extOf W X).cell? ⟨w.heap.size, 1, none⟩ = some (.slice al s.lf.2.length cl) := ext_cell (by rw [← hWe]; simp [go_sem])
  have c2 : ∀ X, (extOf W X).cell? ⟨w.heap.size, 2, none⟩ = some (.int .i64 s.rt.1) := ext_cell (by rw [← hWe]; simp [go_sem])
  have c3 : ∀ X, (extOf W X).cell? ⟨w.heap.size, 3, none⟩ = some (.slice ar s.rt.2.length cr) := ext_cell (by rw [← hWe]; simp [go_sem])
  have c4 : ∀ X, (extOf W X).cell? ⟨w.heap.size, 4, none⟩ = some (.int .i64 s.fr) := ext_cell (by rw [← hWe]; simp [go_sem])
  have c5 : ∀ X, (extOf W X).cell? ⟨w.heap.size, 5, none⟩ = some (.int .i64 s.to) := ext_cell (by rw [← hWe]; simp [go_sem])
  have c6 : ∀ X, (extOf W X).cell? ⟨w.heap.size, 6, none⟩ = some (.slice av s.l.length cv) := ext_cell (by rw [← hWe]; simp [go_sem])
  have HE := Lib.hid hWe
  clear hWe
  have HR := Lib.hid (fun X => keepSt (extOf_below W X) (keepSt hB0 HD.out))
  have hq : IntKind.i64.wrap (x - 1) = x - 1 := IntWalk.i64_in _ (by omega)
  go_enter Tryz.func112, Tryz.ntmps112
  go_wp2_with fail
  rw [HE.out]
  refine wp_region_ext (by kernel_rfl) (by kernel_rfl) ?_
  repeat (go_big_quiet_step ((go_at_call 53; refine calls_ext (H1.out _ _ (HR.out _) (by omega) (by omega)))))
  refine wpQuiet_nil ?_
  intro w1 hb1
  go_wp2
  go_ret
  exact ⟨rfl, keepBelow hB0 hb1⟩
end Go.Proofs.YtkfonfheakpcbaaGreat
