import Derived.Test.YtnjpceocnldlfaaGreatWkVal
import Derived.Test.YtnjpceocnldlfaaGreatWkPq
import Derived.Test.YtnjpceocnldlfaaGreatWkPr
/- timeset.isPure. -/
namespace Go.Proofs.YtnjpceocnldlfaaGreat
open Go.RowKit Wk

set_option maxRecDepth 100000 in
set_option maxHeartbeats 1000000 in
theorem ispure_any (s : St) (vl vr vv : Value) (w : World) (h : RdSt w s vl vr vv) :
    Calls Tryz.prog 108 #[.agg #[.int .i64 s.lf.1, vl, .int .i64 s.rt.1, vr, .int .i64 s.fr, .int .i64 s.to, vv]] w fun e w' => e = .returned (.bool (pureB s)) ∧ Below w.heap.size w w' := by
  obtain ⟨⟨P, l⟩, ⟨Q, m⟩, f, t, k⟩ := s
  simp only at h ⊢
  have HP := Lib.hid (fun W h h' => pequal_any P Q vl vr l m W h h')
  have HR0 := Lib.hid h
  have HPU : Hid (pureB ⟨(P, l), (Q, m), f, t, k⟩ = ((decide (f = 0) && decide (t = 0)) && peB P l Q m)) := rfl
  generalize pureB ⟨(P, l), (Q, m), f, t, k⟩ = pb at *
  obtain ⟨pe, hpe⟩ : ∃ pe, peB P l Q m = pe := ⟨_, rfl⟩
  rw [hpe] at HP HPU
  clear hpe
  obtain ⟨a1, n1, rfl⟩ := h.1.form
  obtain ⟨a2, n2, rfl⟩ := h.2.1.form
  obtain ⟨a3, n3, rfl⟩ := h.2.2.form
  simp only at HR0 ⊢
  clear h
  obtain ⟨W, hWe⟩ : ∃ W, w.alloc (.cells #[.int .i64 P, .slice a1 l.length n1, .int .i64 Q, .slice a2 m.length n2, .int .i64 f, .int .i64 t, .slice a3 k.length n3] 26) = W := ⟨_, rfl⟩
  have hW : Below w.heap.size w W := by rw [← hWe]; exact (Below.refl _ w).alloc (Nat.le_refl _) _
  have HX : Hid (Set7 W w.heap.size (.int .i64 P) (.slice a1 l.length n1) (.int .i64 Q) (.slice a2 m.length n2) (.int .i64 f) (.int .i64 t) (.slice a3 k.length n3)) := by
    rw [← hWe]
    refine ⟨⟨?_, ?_, ?_, ?_, ?_, ?_, ?_⟩, ?_, ?_, ?_, ?_, ?_, ?_, ?_⟩ <;> simp [go_sem]
  have HR := Lib.hid (keepSt hW HR0.out)
  have HE := Lib.hid hWe
  clear hWe
  obtain ⟨⟨B0, B1, B2, B3, B4, B5, B6⟩, _⟩ := HX.out
  by_cases h1 : f = 0
  · subst h1
    by_cases h2 : t = 0
    · subst h2
      go_enter Tryz.func108, Tryz.ntmps108
      go_wp2_with fail
      rw [HE.out]
      go_wp2_with fail
      refine (HP.out _ HR.out.1 HR.out.2.1).mono ?_
      rintro e w1 ⟨rfl, hb1⟩
      go_wp2
      go_ret
      exact ⟨ret_bool (by rw [HPU.out]; simp), keepBelow hW hb1⟩
    · have t1 : (t == 0) = false := by simpa using h2
      have HQ : Hid (pb = false) := by unfold Hid; rw [HPU.out, decide_eq_false h2]; simp
      clear h2
      go_enter Tryz.func108, Tryz.ntmps108
      go_wp2_with fail
      rw [HE.out]
      go_wp2
      go_ret
      exact ⟨ret_bool HQ.out.symm, hW⟩
  · have t1 : (f == 0) = false := by simpa using h1
    have HQ : Hid (pb = false) := by unfold Hid; rw [HPU.out, decide_eq_false h1]; simp
    clear h1
    go_enter Tryz.func108, Tryz.ntmps108
    go_wp2_with fail
    rw [HE.out]
    go_wp2
    go_ret
    exact ⟨ret_bool HQ.out.symm, hW⟩
end Go.Proofs.YtnjpceocnldlfaaGreat
namespace Go.Proofs.YtnjpceocnldlfaaGreat
open Go.RowKit Wk

def Zero7 (W : World) (b : Nat) : Prop := ∀ (o : Nat) (x y : Int), W.cell? ⟨b, o, none⟩ = some (.int .i64 x) → W.cell? ⟨b, o + 1, none⟩ = some (.int .i64 y) → ¬ x < y
theorem Zero7.below {W X : World} {b : Nat} (h : Zero7 W b) (hb : b < W.heap.size) (hX : Below W.heap.size W X) : Zero7 X b := fun o x y h1 h2 => by
  rw [hX.cell (p := ⟨b, o, none⟩) hb] at h1
  rw [hX.cell (p := ⟨b, o + 1, none⟩) hb] at h2
  exact h o x y h1 h2
theorem zero7_new (W : World) : Zero7 (W.alloc (.cells #[.int .i64 0, .slice none 0 0, .int .i64 0, .slice none 0 0, .int .i64 0, .int .i64 0, .slice none 0 0] 26)) W.heap.size := by
  intro o x y h1 h2
  rcases (by omega : o = 0 ∨ o = 1 ∨ o = 2 ∨ o = 3 ∨ o = 4 ∨ o = 5 ∨ 6 ≤ o) with rfl | rfl | rfl | rfl | rfl | rfl | h
  · simp [go_sem] at h2
  · simp [go_sem] at h1
  · simp [go_sem] at h2
  · simp [go_sem] at h1
  · simp [go_sem] at h1 h2; omega
  · simp [go_sem] at h2
  · rcases (by omega : o = 6 ∨ 7 ≤ o) with rfl | h7
    · simp [go_sem] at h1
    · have e : (W.alloc (.cells #[.int .i64 0, .slice none 0 0, .int .i64 0, .slice none 0 0, .int .i64 0, .int .i64 0, .slice none 0 0] 26)).cell? ⟨W.heap.size, o, none⟩ = none := by
        simp [go_sem]
        exact h7
      rw [e] at h1
      cases h1
theorem RdX.zero {W : World} {b : Nat} {v : Value} {l : List Sp} (h : RdS W v l) (hp : ∀ s ∈ l, s.1 < s.2) (hz : Zero7 W b) : RdX W b v l := by
  refine ⟨h, fun b' o n c e h0 e2 => ?_⟩
  obtain ⟨a, c', rfl, hl, hc⟩ := h
  obtain ⟨b3, o3, rfl, c1, c2⟩ := hc 0 h0
  cases e
  subst e2
  have h1 := hp _ (idx_mem h0)
  exact hz _ _ _ c1 c2 h1
def TsPost (r : St × Int) (w : World) (e : Ending) (w' : World) : Prop :=
  ∃ vl vr vv, e = .returned (.tuple #[.agg #[.int .i64 r.1.lf.1, vl, .int .i64 r.1.rt.1, vr, .int .i64 r.1.fr, .int .i64 r.1.to, vv], .int .i64 r.2]) ∧ RdSt w' r.1 vl vr vv ∧ Below w.heap.size w w'
def PosSt (s : St) : Prop := (∀ x ∈ s.lf.2, x.1 < x.2) ∧ (∀ x ∈ s.rt.2, x.1 < x.2) ∧ ∀ x ∈ s.l, x.1 < x.2
theorem pos_no : PosSt noSt := ⟨fun x h => by simp [noSt] at h, fun x h => by simp [noSt] at h, fun x h => by simp [noSt] at h⟩
theorem pos_OkS {s : St} (h : OkS s) : PosSt s := ⟨canon_pos h.good.lf.canon, canon_pos h.good.rt.canon, canon_pos (canon_of_rvB h.l).1⟩
theorem pos_form {s : St} (h : OkS s) : PosSt (formF s).1 := by
  have hs := pos_OkS h
  have hm : ∀ (g : Int → Bool) f t, ∀ x ∈ memL g f t, x.1 < x.2 := fun g f t x hx => by
    unfold memL at hx
    split at hx
    · exact canon_pos (memF_can g f _).1 x hx
    · simp at hx
  have hE : ∀ e b, PosSt (formE s e b).1 := fun e b => by
    unfold formE
    generalize (if b ≤ e + 1 then b else e + 1) = fr
    simp only
    split
    · exact ⟨hs.1, hs.2.1, hm _ _ _⟩
    · exact pos_no
  unfold formF
  split
  · exact pos_no
  · split
    · exact ⟨hs.1, hs.1, fun x hx => by simp [pureF] at hx⟩
    · split
      · exact hE _ _
      · exact ⟨hs.1, hs.1, fun x hx => by simp [pureF] at hx⟩
theorem RdSt.put {W : World} {b : Nat} {s : St} {vl vr vv : Value} (u0 u1 u2 u3 u4 u5 u6 : Value) (h : RdSt W s vl vr vv) (hp : PosSt s) (hz : Zero7 W b) : RdSt (put7 W b u0 u1 u2 u3 u4 u5 u6) s vl vr vv :=
  ⟨((RdX.zero h.1 hp.1 hz).put7 _ _ _ _ _ _ _).1, ((RdX.zero h.2.1 hp.2.1 hz).put7 _ _ _ _ _ _ _).1, ((RdX.zero h.2.2 hp.2.2 hz).put7 _ _ _ _ _ _ _).1⟩
theorem rd_none (w : World) : RdS w (.slice none 0 0) [] := (OwnS.nil w 0).rd (by simp)
theorem rdst_no (w : World) : RdSt w noSt (.slice none 0 0) (.slice none 0 0) (.slice none 0 0) := ⟨rd_none w, rd_none w, rd_none w⟩

structure CbIn (w : World) (a b : St) (al ar av bl br bv f0 f1 : Value) (X : World) : Prop where
  xa : Set7 X w.heap.size (.int .i64 a.lf.1) al (.int .i64 a.rt.1) ar (.int .i64 a.fr) (.int .i64 a.to) av
  xb : Set7 X (w.heap.size + 1) (.int .i64 b.lf.1) bl (.int .i64 b.rt.1) br (.int .i64 b.fr) (.int .i64 b.to) bv
  op : X.cell? ⟨w.heap.size + 1 + 1, 0, none⟩ = some f0 ∧ X.cell? ⟨w.heap.size + 1 + 1, 1, none⟩ = some f1
  xz : Set7 X (w.heap.size + 1 + 1 + 1) (.int .i64 0) (.slice none 0 0) (.int .i64 0) (.slice none 0 0) (.int .i64 0) (.int .i64 0) (.slice none 0 0)
  zz : Zero7 X (w.heap.size + 1 + 1 + 1)
  ra : RdSt X a al ar av
  rb : RdSt X b bl br bv
  be : Below w.heap.size w X
theorem CbIn.below {w X Y : World} {a b : St} {al ar av bl br bv f0 f1 : Value} (h : CbIn w a b al ar av bl br bv f0 f1 X) (hb : Below X.heap.size X Y) : CbIn w a b al ar av bl br bv f0 f1 Y :=
  ⟨h.xa.below hb, h.xb.below hb, ⟨keepCell hb h.op.1, keepCell hb h.op.2⟩, h.xz.below hb, h.zz.below (World.block_lt_of_cell? X ⟨w.heap.size + 1 + 1 + 1, 0, none⟩ h.xz.1.1) hb, keepSt hb h.ra, keepSt hb h.rb, keepBelow h.be hb⟩
theorem pos_comb {k : Int} {a b : St} : PosSt (combM k a b).1 := by
  by_cases h0 : VB a = false ∨ VB b = false
  · rw [comb_bad h0]; exact pos_no
  have h1 : VB a = true := by
    cases h : VB a with
    | true => rfl
    | false => exact absurd (.inl h) h0
  have h2 : VB b = true := by
    cases h : VB b with
    | true => rfl
    | false => exact absurd (.inr h) h0
  obtain ⟨⟨p, e1⟩, hl⟩ : ∃ r, bothM k a.lf b.lf = r := ⟨_, rfl⟩
  by_cases he1 : e1 ≠ 0
  · rw [comb_left h1 h2 (by rw [hl]) he1]; exact pos_no
  obtain ⟨⟨q, e2⟩, hr⟩ : ∃ r, bothM k a.rt b.rt = r := ⟨_, rfl⟩
  have he1 : e1 = 0 := by omega
  subst he1
  by_cases he2 : e2 ≠ 0
  · rw [comb_right h1 h2 (by rw [hl]) (by rw [hr]) he2]; exact pos_no
  have he2 : e2 = 0 := by omega
  subst he2
  by_cases hp : pairM p.1 p.2 q.1 q.2 ≠ 0
  · rw [comb_pair h1 h2 hl hr rfl hp]; exact pos_no
  have hp : pairM p.1 p.2 q.1 q.2 = 0 := by omega
  have hw := cwin_ok (okS_of_VB h1) (okS_of_VB h2)
  by_cases h5 : 2000 < (memF (hasS a) (winL a b) (winR a b - winL a b).toNat).length + (memF (hasS b) (winL a b) (winR a b - winL a b).toNat).length
  · rw [comb_full h1 h2 hl hr hp rfl rfl h5]; exact pos_no
  rw [comb_form h1 h2 hl hr hp rfl rfl h5]
  have b1 := bothM_ok (kind := k) (p := a.lf) (q := b.lf) (by rw [hl])
  have b2 := bothM_ok (kind := k) (p := a.rt) (q := b.rt) (by rw [hr])
  rw [hl] at b1
  rw [hr] at b2
  exact pos_form (comb_ok b1.2.2.1 b2.2.2.1 hw.1 hw.2.1 hw.2.2 (comb_lists hw.1 hw.2.1 hw.2.2 (by omega)).2)
end Go.Proofs.YtnjpceocnldlfaaGreat
