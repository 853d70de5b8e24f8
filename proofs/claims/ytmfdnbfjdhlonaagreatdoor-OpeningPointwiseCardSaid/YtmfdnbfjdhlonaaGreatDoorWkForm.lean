import Derived.Test.YtmfdnbfjdhlonaaGreatDoorWkBe
import Derived.Test.YtmfdnbfjdhlonaaGreatDoorWkPl
import Derived.BigRegion
import Derived.Deep.CutRange
import Derived.Deep.DeepCutAuto
/- timeset.form. -/
namespace Go.Proofs.YtmfdnbfjdhlonaaGreatDoor
open Go.RowKit Wk

def RdX (w : World) (b : Nat) (v : Value) (l : List Sp) : Prop :=
 RdS w v l ∧ ∀ b' o n c, v = .slice (some ⟨b', o, none⟩) n c → 0 < l.length → b' ≠ b
theorem RdX.rd {w : World} {b : Nat} {v : Value} {l : List Sp} (h : RdX w b v l) : RdS w v l := h.1
theorem RdX.below {w w' : World} {b : Nat} {v : Value} {l : List Sp} (h : RdX w b v l) (hb : Below w.heap.size w w') : RdX w' b v l := ⟨keepRd hb h.1, h.2⟩
theorem RdX.setCell {w : World} {b o : Nat} {v : Value} {l : List Sp} (h : RdX w b v l) (u : Value) : RdX (w.setCell ⟨b, o, none⟩ u) b v l := by
 obtain ⟨⟨a, c, rfl, hl, hc⟩, h2⟩ := h
 refine ⟨⟨a, c, rfl, hl, fun i hi => ?_⟩, h2⟩
 obtain ⟨b', o', rfl, c1, c2⟩ := hc i hi
 have hne : b ≠ b' := fun e => h2 _ _ _ _ rfl (by omega) e.symm
 exact ⟨b', o', rfl, (World.cell?_setCell_far w _ _ _ hne).trans c1, (World.cell?_setCell_far w _ _ _ hne).trans c2⟩
theorem RdX.nil (w : World) (b : Nat) : RdX w b (.slice none 0 0) [] := ⟨(OwnS.nil w 0).rd (by simp), fun _ _ _ _ h => by cases h⟩
theorem RdX.old {w : World} {b : Nat} {v : Value} {l : List Sp} (h : RdS w v l) (hb : w.heap.size ≤ b) : RdX w b v l := by
 refine ⟨h, fun b' o n c e h0 => ?_⟩
 obtain ⟨a, c', rfl, hl, hc⟩ := h
 obtain ⟨b2, o2, rfl, c1, _⟩ := hc 0 h0
 cases e
 have := World.block_lt_of_cell? w _ c1
 have : b' < w.heap.size := this
 omega
theorem RdX.ownLow {w : World} {b B : Nat} {v : Value} {l : List Sp} (h : OwnS w B v l) (hl : l.length ≤ 8796093022208) (hb : b < B) : RdX w b v l :=
 ⟨h.rd hl, fun b' o n c e _ => by have := (h.lt b' (by rw [e]; rfl)).1; omega⟩
theorem RdX.put7 {W : World} {b : Nat} {v : Value} {l : List Sp} (u0 u1 u2 u3 u4 u5 u6 : Value) (h : RdX W b v l) : RdX (put7 W b u0 u1 u2 u3 u4 u5 u6) b v l := by
 unfold Go.Proofs.YtmfdnbfjdhlonaaGreatDoor.put7
 exact ((((((h.setCell _).setCell _).setCell _).setCell _).setCell _).setCell _).setCell _

def FoPost (s : St) (w : World) (e : Ending) (w' : World) : Prop :=
 ∃ vl vr vv, e = .returned (.tuple #[.agg #[.int .i64 (formF s).1.lf.1, vl, .int .i64 (formF s).1.rt.1, vr, .int .i64 (formF s).1.fr, .int .i64 (formF s).1.to, vv], .int .i64 (formF s).2]) ∧ RdSt w' (formF s).1 vl vr vv ∧ Below w.heap.size w w'
theorem fo_of {s T : St} {E : Int} {w w' : World} {e : Ending} (vl vr vv : Value) (h : formF s = (T, E)) (he : e = .returned (.tuple #[.agg #[.int .i64 T.lf.1, vl, .int .i64 T.rt.1, vr, .int .i64 T.fr, .int .i64 T.to, vv], .int .i64 E]))
  (hr : RdSt w' T vl vr vv) (hb : Below w.heap.size w w') : FoPost s w e w' := by
 refine ⟨vl, vr, vv, ?_, ?_, hb⟩
 ·rw [h]; exact he
 ·rw [h]; exact hr

def Set7 (W : World) (b : Nat) (u0 u1 u2 u3 u4 u5 u6 : Value) : Prop :=
 (W.cell? ⟨b, 0, none⟩ = some u0 ∧ W.cell? ⟨b, 1, none⟩ = some u1 ∧ W.cell? ⟨b, 2, none⟩ = some u2 ∧ W.cell? ⟨b, 3, none⟩ = some u3 ∧ W.cell? ⟨b, 4, none⟩ = some u4 ∧ W.cell? ⟨b, 5, none⟩ = some u5 ∧ W.cell? ⟨b, 6, none⟩ = some u6) ∧
 (W.frozen? ⟨b, 0, none⟩ = false ∧ W.frozen? ⟨b, 1, none⟩ = false ∧ W.frozen? ⟨b, 2, none⟩ = false ∧ W.frozen? ⟨b, 3, none⟩ = false ∧ W.frozen? ⟨b, 4, none⟩ = false ∧ W.frozen? ⟨b, 5, none⟩ = false ∧ W.frozen? ⟨b, 6, none⟩ = false)
theorem Set7.below {W W' : World} {b : Nat} {u0 u1 u2 u3 u4 u5 u6 : Value} (h : Set7 W b u0 u1 u2 u3 u4 u5 u6) (hb : Below W.heap.size W W') : Set7 W' b u0 u1 u2 u3 u4 u5 u6 := by
 obtain ⟨⟨c0, c1, c2, c3, c4, c5, c6⟩, f0, f1, f2, f3, f4, f5, f6⟩ := h
 have hlt := World.block_lt_of_cell? W _ c0
 have hf : ∀ o, W'.frozen? ⟨b, o, none⟩ = W.frozen? ⟨b, o, none⟩ := fun o => hb.frozen (p := ⟨b, o, none⟩) hlt
 refine ⟨⟨keepCell hb c0, keepCell hb c1, keepCell hb c2, keepCell hb c3, keepCell hb c4, keepCell hb c5, keepCell hb c6⟩, ?_⟩
 rw [hf, hf, hf, hf, hf, hf, hf]
 exact ⟨f0, f1, f2, f3, f4, f5, f6⟩

structure FoIn (w : World) (P Q : Int) (u v z : Value) (l m k : List Sp) (X : World) : Prop where
 c0 : X.cell? ⟨w.heap.size, 0, none⟩ = some (.int .i64 P)
 c1 : X.cell? ⟨w.heap.size, 1, none⟩ = some u
 c2 : X.cell? ⟨w.heap.size + 1, 0, none⟩ = some (.int .i64 Q)
 c3 : X.cell? ⟨w.heap.size + 1, 1, none⟩ = some v
 bx : Set7 X (w.heap.size + 1 + 1) (.int .i64 0) (.slice none 0 0) (.int .i64 0) (.slice none 0 0) (.int .i64 0) (.int .i64 0) (.slice none 0 0)
 r1 : RdS X u l
 r2 : RdS X v m
 r3 : RdS X z k
 bl : Below w.heap.size w X
 y1 : RdX X (w.heap.size + 1 + 1) u l
 y2 : RdX X (w.heap.size + 1 + 1) v m
 ys : w.heap.size + 1 + 1 < X.heap.size
theorem FoIn.below {w : World} {P Q : Int} {u v z : Value} {l m k : List Sp} {X Y : World} (h : FoIn w P Q u v z l m k X) (hb : Below X.heap.size X Y) : FoIn w P Q u v z l m k Y :=
 ⟨keepCell hb h.c0, keepCell hb h.c1, keepCell hb h.c2, keepCell hb h.c3, h.bx.below hb, keepRd hb h.r1, keepRd hb h.r2, keepRd hb h.r3, keepBelow h.bl hb, h.y1.below hb, h.y2.below hb, Nat.lt_of_lt_of_le h.ys hb.size⟩
structure FoCy (b1 b2 : Nat) (P Q : Int) (u v : Value) (X : World) : Prop where
 g0 : X.cell? ⟨b1, 0, none⟩ = some (.int .i64 P)
 g1 : X.cell? ⟨b1, 1, none⟩ = some u
 g2 : X.cell? ⟨b2, 0, none⟩ = some (.int .i64 Q)
 g3 : X.cell? ⟨b2, 1, none⟩ = some v
theorem FoCy.below {b1 b2 : Nat} {P Q : Int} {u v : Value} {X Y : World} (h : FoCy b1 b2 P Q u v X) (hb : Below X.heap.size X Y) : FoCy b1 b2 P Q u v Y :=
 ⟨keepCell hb h.g0, keepCell hb h.g1, keepCell hb h.g2, keepCell hb h.g3⟩

theorem m_whas (W : World) (p q f t : Int) (a a' a'' : Option Addr) (n n' n'' c c' c'' : Nat) : (method 357 83 (.agg #[.int .i64 p, .slice a n c, .int .i64 q, .slice a' n' c', .int .i64 f, .int .i64 t, .slice a'' n'' c'']) "civiltime/timeset.has").run Tryz.prog W = .ok (45, .agg #[.int .i64 p, .slice a n c, .int .i64 q, .slice a' n' c', .int .i64 f, .int .i64 t, .slice a'' n'' c'']) W := by kernel_rfl
theorem m_wafter (W : World) (p q f t : Int) (a a' a'' : Option Addr) (n n' n'' c c' c'' : Nat) : (method 357 83 (.agg #[.int .i64 p, .slice a n c, .int .i64 q, .slice a' n' c', .int .i64 f, .int .i64 t, .slice a'' n'' c'']) "civiltime/timeset.after").run Tryz.prog W = .ok (233, .agg #[.int .i64 p, .slice a n c, .int .i64 q, .slice a' n' c', .int .i64 f, .int .i64 t, .slice a'' n'' c'']) W := by kernel_rfl
theorem srcA_whole (s : St) (vl vr vv : Value) (w : World) (h : RdSt w s vl vr vv) (hs : OkS s) :
  SrcA 83 (.agg #[.int .i64 s.lf.1, vl, .int .i64 s.rt.1, vr, .int .i64 s.fr, .int .i64 s.to, vv]) w (hasS s) 45 233 := by
 obtain ⟨a1, c1, e1⟩ := h.1.form
 obtain ⟨a2, c2, e2⟩ := h.2.1.form
 obtain ⟨a3, c3, e3⟩ := h.2.2.form
 refine ⟨fun W => ?_, fun W => ?_, fun args W => by go_simp, fun args W => by go_simp, fun W x hb h1 h2 => whas_any s vl vr vv x W (keepSt hb h) hs h1 h2, fun W x hb h1 h2 => wafter_any s vl vr vv x W (keepSt hb h) hs h1 h2⟩
 ·subst e1 e2 e3; exact m_whas W _ _ _ _ _ _ _ _ _ _ _ _ _
 ·subst e1 e2 e3; exact m_wafter W _ _ _ _ _ _ _ _ _ _ _ _ _
theorem formE_bad {s : St} {e b fr : Int} (hf : (if b ≤ e + 1 then b else e + 1) = fr) (h : (lineB fr && lineB (e + 1)) = false) : formE s e b = (noSt, 9) := by
 unfold formE; simp only [hf]; rw [h]; rfl
theorem formE_ok {s : St} {e b fr : Int} (hf : (if b ≤ e + 1 then b else e + 1) = fr) (h : (lineB fr && lineB (e + 1)) = true) : formE s e b = (⟨s.lf, s.rt, fr, e + 1, memL (hasS s) fr (e + 1)⟩, 0) := by
 unfold formE; simp only [hf]; rw [h]; rfl
theorem memL_len (h : Int → Bool) (f t : Int) : (memL h f t).length ≤ 2000 := by
 unfold memL; split
 ·assumption
 ·simp
theorem Set7.far {W : World} {b b' o : Nat} {u0 u1 u2 u3 u4 u5 u6 : Value} (h : Set7 W b u0 u1 u2 u3 u4 u5 u6) (hne : b' ≠ b) (u : Value) : Set7 (W.setCell ⟨b', o, none⟩ u) b u0 u1 u2 u3 u4 u5 u6 := by
 obtain ⟨⟨c0, c1, c2, c3, c4, c5, c6⟩, f0, f1, f2, f3, f4, f5, f6⟩ := h
 have hc : ∀ j, (W.setCell ⟨b', o, none⟩ u).cell? ⟨b, j, none⟩ = W.cell? ⟨b, j, none⟩ := fun j => World.cell?_setCell_far W _ _ _ hne
 refine ⟨⟨?_, ?_, ?_, ?_, ?_, ?_, ?_⟩, ?_, ?_, ?_, ?_, ?_, ?_, ?_⟩
 ·rw [hc]; exact c0
 ·rw [hc]; exact c1
 ·rw [hc]; exact c2
 ·rw [hc]; exact c3
 ·rw [hc]; exact c4
 ·rw [hc]; exact c5
 ·rw [hc]; exact c6
 all_goals simp [go_sem, *]
theorem RdX.set2 {w : World} {b b' o : Nat} {v : Value} {l : List Sp} (h : RdX w b v l) (h' : RdX w b' v l) (u : Value) : RdX (w.setCell ⟨b', o, none⟩ u) b v l := ⟨(h'.setCell u).1, h.2⟩

theorem OwnS.away {w : World} {b B : Nat} {v : Value} {l : List Sp} (h : OwnS w B v l) (hl : l.length ≤ 8796093022208) (hb : v.ownBlock ≠ some b) : RdX w b v l :=
 ⟨h.rd hl, fun b' o n c e _ e2 => hb (by rw [e, ← e2]; rfl)⟩

theorem box_new (Y : World) : Set7 (Y.alloc (.cells #[.int .i64 0, .slice none 0 0, .int .i64 0, .slice none 0 0, .int .i64 0, .int .i64 0, .slice none 0 0] 31)) Y.heap.size (.int .i64 0) (.slice none 0 0) (.int .i64 0) (.slice none 0 0) (.int .i64 0) (.int .i64 0) (.slice none 0 0) := by
 refine ⟨⟨?_, ?_, ?_, ?_, ?_, ?_, ?_⟩, ?_, ?_, ?_, ?_, ?_, ?_, ?_⟩ <;> simp [go_sem]

theorem RdX.put72 {W : World} {b b' : Nat} {v : Value} {l : List Sp} (u0 u1 u2 u3 u4 u5 u6 : Value) (h : RdX W b v l) (h' : RdX W b' v l) : RdX (Go.Proofs.YtmfdnbfjdhlonaaGreatDoor.put7 W b' u0 u1 u2 u3 u4 u5 u6) b v l := ⟨(h'.put7 u0 u1 u2 u3 u4 u5 u6).1, h.2⟩
theorem Set7.put7 {W : World} {b : Nat} {x0 x1 x2 x3 x4 x5 x6 : Value} (u0 u1 u2 u3 u4 u5 u6 : Value) (h : Set7 W b x0 x1 x2 x3 x4 x5 x6) : Set7 (Go.Proofs.YtmfdnbfjdhlonaaGreatDoor.put7 W b u0 u1 u2 u3 u4 u5 u6) b u0 u1 u2 u3 u4 u5 u6 := by
 obtain ⟨⟨c0, c1, c2, c3, c4, c5, c6⟩, f0, f1, f2, f3, f4, f5, f6⟩ := h
 refine ⟨put7_at u0 u1 u2 u3 u4 u5 u6 c0 c1 c2 c3 c4 c5 c6, ?_, ?_, ?_, ?_, ?_, ?_, ?_⟩ <;> simp [Go.Proofs.YtmfdnbfjdhlonaaGreatDoor.put7, go_sem, *]

theorem box_newd (Y : World) : Set7 (Y.alloc (.cells #[.int .i64 0, .slice none 0 0, .int .i64 0, .slice none 0 0, .int .i64 0, .int .i64 0, .slice none 0 0] 31)).drew Y.heap.size (.int .i64 0) (.slice none 0 0) (.int .i64 0) (.slice none 0 0) (.int .i64 0) (.int .i64 0) (.slice none 0 0) := box_new Y

set_option maxRecDepth 100000 in
set_option maxHeartbeats 40000000 in
theorem form_any (s : St) (vl vr vv : Value) (w : World) (h : RdSt w s vl vr vv) (hs : OkS s) :
  Calls Tryz.prog 84 #[.agg #[.int .i64 s.lf.1, vl], .agg #[.int .i64 s.rt.1, vr], .int .i64 s.fr, .int .i64 s.to, vv] w (FoPost s w) := by
 have HS := Lib.hid hs
 obtain ⟨⟨P, l⟩, ⟨Q, m⟩, f, t, k⟩ := s
 obtain ⟨hv1, hv2, hv3, hf1, hft, ht1, hins⟩ := hs
 clear hins
 obtain ⟨h1, h2, h3⟩ := h
 simp only at h1 h2 h3 hv1 hv2 hv3 hf1 hft ht1 ⊢
 obtain ⟨s, hse⟩ : ∃ s : St, s = ⟨(P, l), (Q, m), f, t, k⟩ := ⟨_, rfl⟩
 rw [← hse] at HS ⊢
 have HSE := Lib.hid hse
 obtain ⟨hP1, hP2⟩ : 1 ≤ P ∧ P ≤ 12622780800 := ⟨(rvB_of_pvB hv1).2.1, (rvB_of_pvB hv1).2.2.1⟩
 obtain ⟨hQ1, hQ2⟩ : 1 ≤ Q ∧ Q ≤ 12622780800 := ⟨(rvB_of_pvB hv2).2.1, (rvB_of_pvB hv2).2.2.1⟩
 have C1 := Lib.hid (fun W h1 h2 => pair_any P Q vl vr l m W h1 h2 hv1 hv2)
 have C2 := Lib.hid (fun W h1 h2 => pequal_any P Q vl vr l m W h1 h2)
 have C3 := Lib.hid (fun W => common_any P Q W hP1 hP2 hQ1 hQ2)
 have C4 := Lib.hid (fun W (h3 : RdS W vv k) (h2 : RdS W vr m) => last_any _ _ _ _ _ _ _ _ _ _ f t W (srcB_bounded vv k W h3 hv3) (srcB_cycle Q vr m W h2 hv2) (by omega) (by omega) (by omega))
 have C5 := Lib.hid (fun W (h3 : RdS W vv k) (h1 : RdS W vl l) => first_any _ _ _ _ _ _ _ _ _ _ f t W (srcA_bounded vv k W h3 hv3) (srcA_cycle P vl l W h1 hv1) (by omega) (by omega))
 have C6 := Lib.hid (fun W (h1 : RdS W vl l) (h2 : RdS W vr m) c (hc1 : 1 ≤ c) (hc2 : c ≤ 12622780801) => last_any _ _ _ _ _ _ _ _ _ _ (f - c) f W (srcB_cycle P vl l W h1 hv1) (srcB_cycle Q vr m W h2 hv2) (by omega) (by omega) (by omega))
 have C7 := Lib.hid (fun W (h1 : RdS W vl l) (h2 : RdS W vr m) c (hc1 : 1 ≤ c) (hc2 : c ≤ 12622780801) => first_any _ _ _ _ _ _ _ _ _ _ t (t + c) W (srcA_cycle Q vr m W h2 hv2) (srcA_cycle P vl l W h1 hv1) (by omega) (by omega))
 have C8 := Lib.hid (fun W h1 => pure_any P vl l W h1)
 have C9 := Lib.hid (fun W h1 => copy_any P vl l W h1)
 have C10 := Lib.hid (fun W h2 => copy_any Q vr m W h2)
 have C11 := Lib.hid (fun a b W (hr : RdSt W s vl vr vv) (hab : a ≤ b) (ha : -1152921504606846976 ≤ a) (hb : b ≤ 1152921504606846976) => members_any _ _ _ _ _ a b W (srcA_whole s vl vr vv W hr HS.out) hab ha hb)
 have C11 : Hid (∀ a b W, RdS W vl l → RdS W vr m → RdS W vv k → a ≤ b → -1152921504606846976 ≤ a → b ≤ 1152921504606846976 → Calls Tryz.prog 127 #[.iface 83 (.agg #[.int .i64 P, vl, .int .i64 Q, vr, .int .i64 f, .int .i64 t, vv]), .int .i64 a, .int .i64 b] W (MePost (hasS s) a b W)) := by
  intro a b W h1 h2 h3 ha hb hc
  have := C11.out a b W
  rw [hse] at this ⊢
  exact this ⟨h1, h2, h3⟩ ha hb hc
 have HLR : Hid (s.lf = (P, l) ∧ s.rt = (Q, m)) := by rw [hse]; exact ⟨rfl, rfl⟩
 have hcb := commonM_bd hP1 hQ1
 have HPM : Hid (pairM s.lf.1 s.lf.2 s.rt.1 s.rt.2 = pairM P l Q m) := by rw [hse]; rfl
 have HPE : Hid (peB s.lf.1 s.lf.2 s.rt.1 s.rt.2 = peB P l Q m) := by rw [hse]; rfl
 have HEnd : Hid (endF s = (lastF (fun x => inL k x != hasP (Q, m) x) f t).or (lastF (fun x => hasP (P, l) x != hasP (Q, m) x) (f - commonM P Q) f)) := by rw [hse]; rfl
 have HBeg : Hid (begF s = (firstF (fun x => inL k x != hasP (P, l) x) f t).or (firstF (fun x => hasP (Q, m) x != hasP (P, l) x) t (t + commonM P Q))) := by rw [hse]; rfl
 have HEar : Hid (earlyB s = ((lastF (fun x => inL k x != hasP (Q, m) x) f t).isNone && peB P l Q m && (firstF (fun x => inL k x != hasP (P, l) x) f t).isNone)) := by rw [hse]; rfl
 have HPU : Hid (pureF s.lf = ⟨(P, l), (P, l), 0, 0, []⟩) := by rw [hse]; rfl
 have HEB := Lib.hid (fun x h => end_bd (x := x) HS.out h)
 have HBB := Lib.hid (fun x h => beg_bd (x := x) HS.out h)
 have hlen : l.length ≤ 8796093022208 := by obtain ⟨_, _, _, q, _⟩ := h1; exact q
 have hlem : m.length ≤ 8796093022208 := by obtain ⟨_, _, _, q, _⟩ := h2; exact q
 clear hse HS hv1 hv2 hv3
 generalize commonM P Q = cm at *
 obtain ⟨pm, hpm⟩ : ∃ pm, pairM P l Q m = pm := ⟨_, rfl⟩
 obtain ⟨pe, hpe⟩ : ∃ pe, peB P l Q m = pe := ⟨_, rfl⟩
 rw [hpm] at C1 HPM
 rw [hpe] at C2 HPE HEar
 clear hpm hpe
 obtain ⟨a1, n1, rfl⟩ := h1.form
 obtain ⟨a2, n2, rfl⟩ := h2.form
 obtain ⟨a3, n3, rfl⟩ := h3.form
 obtain ⟨W, hWe⟩ : ∃ W, ((w.alloc (.cells #[.int .i64 P, .slice a1 l.length n1] 29)).alloc (.cells #[.int .i64 Q, .slice a2 m.length n2] 29)).alloc (.cells #[.int .i64 0, .slice none 0 0, .int .i64 0, .slice none 0 0, .int .i64 0, .int .i64 0, .slice none 0 0] 31) = W := ⟨_, rfl⟩
 have hW : Below w.heap.size w W := by rw [← hWe]; exact (((Below.refl _ w).alloc (Nat.le_refl _) _).alloc (by simp) _).alloc (by simp; omega) _
 have hWs : W.heap.size = w.heap.size + 1 + 1 + 1 := by rw [← hWe]; simp
 have c0 : W.cell? ⟨w.heap.size, 0, none⟩ = some (.int .i64 P) := by rw [← hWe]; simp [go_sem]
 have c1 : W.cell? ⟨w.heap.size, 1, none⟩ = some (.slice a1 l.length n1) := by rw [← hWe]; simp [go_sem]
 have c2 : W.cell? ⟨w.heap.size + 1, 0, none⟩ = some (.int .i64 Q) := by rw [← hWe]; simp [go_sem]
 have c3 : W.cell? ⟨w.heap.size + 1, 1, none⟩ = some (.slice a2 m.length n2) := by rw [← hWe]; simp [go_sem]
 have HBX : Hid (Set7 W (w.heap.size + 1 + 1) (.int .i64 0) (.slice none 0 0) (.int .i64 0) (.slice none 0 0) (.int .i64 0) (.int .i64 0) (.slice none 0 0)) := by
  rw [← hWe]
  refine ⟨⟨?_, ?_, ?_, ?_, ?_, ?_, ?_⟩, ?_, ?_, ?_, ?_, ?_, ?_, ?_⟩ <;> simp [go_sem]
 have I0 := Lib.hid (FoIn.mk c0 c1 c2 c3 HBX.out (keepRd hW h1) (keepRd hW h2) (keepRd hW h3) hW ((RdX.old h1 (by omega)).below hW) ((RdX.old h2 (by omega)).below hW) (by omega))
 have HE := Lib.hid hWe
 clear hWe h1 h2 h3
 go_enter Tryz.func84, Tryz.ntmps84
 go_wp2_with fail
 rw [HE.out]
 go_wp2_with fail
 refine (C1.out _ I0.out.r1 I0.out.r2).mono ?_
 rintro e w1 ⟨rfl, hb1⟩
 have I1 := Lib.hid (I0.out.below hb1)
 clear hb1 c0 c1 c2 c3 HBX I0 HE hW hWs C1
 by_cases hpm : pm = 0
 ·subst hpm
  have c0 := I1.out.c0
  have c1 := I1.out.c1
  have c2 := I1.out.c2
  have c3 := I1.out.c3
  go_wp2_with fail
  refine (C2.out _ I1.out.r1 I1.out.r2).mono ?_
  rintro e w2 ⟨rfl, hb2⟩
  have I2 := Lib.hid (I1.out.below hb2)
  clear hb2 c0 c1 c2 c3 I1 C2
  have e0 := I2.out.c0
  have e1 := I2.out.c1
  have e2 := I2.out.c2
  have e3 := I2.out.c3
  go_wp2_with fail
  go_cut [14, 15, 16] from 26 to 41 (fun p q u wx => u = .slice a3 k.length n3 ∧ ∃ b1 b2, p = .pointer (some ⟨b1, 0, none⟩) ∧ q = .pointer (some ⟨b2, 0, none⟩) ∧ wx.cell? ⟨b1, 0, none⟩ = some (.int .i64 P) ∧ wx.cell? ⟨b1, 1, none⟩ = some (.slice a1 l.length n1) ∧ wx.cell? ⟨b2, 0, none⟩ = some (.int .i64 Q) ∧ wx.cell? ⟨b2, 1, none⟩ = some (.slice a2 m.length n2) ∧ Below w2.heap.size w2 wx)
  case first =>
   clear C3 C4 C5 C6 C7 C8 HEnd HBeg HEar HPU HEB HBB HPM HPE HSE I2
   have x0 := World.new_ne w2 _ e0
   have x1 := World.new_ne w2 _ e2
   go_region_held3 (fun w' => w'.cell? ⟨w.heap.size, 0, none⟩ = some (.int .i64 P) ∧ w'.cell? ⟨w.heap.size, 1, none⟩ = some (.slice a1 l.length n1) ∧ w'.cell? ⟨w.heap.size + 1, 0, none⟩ = some (.int .i64 Q) ∧ w'.cell? ⟨w.heap.size + 1, 1, none⟩ = some (.slice a2 m.length n2)) (go_keep) (fail)
   all_goals (go_wp2_with fail; go_meet)
   all_goals (case rel => exact ⟨rfl, _, _, rfl, rfl, by simp [go_sem], by simp [go_sem], by simp [go_sem], by simp [go_sem], (((Below.refl _ w2).alloc (Nat.le_refl _) _).alloc (by simp) _).drew⟩)
  case rest =>
   obtain ⟨rfl, b1, b2, rfl, rfl, g0, g1, g2, g3, hb3⟩ := hcut
   have J3 := Lib.hid (FoCy.mk g0 g1 g2 g3)
   have I3 := Lib.hid (I2.out.below hb3)
   clear hb3 g0 g1 g2 g3 I2 e0 e1 e2 e3
   have c0 := I3.out.c0
   have c2 := I3.out.c2
   go_wp2_with fail
   refine (C3.out _).mono ?_
   rintro e w4 ⟨rfl, hb4⟩
   have I4 := Lib.hid (I3.out.below hb4)
   have J4 := Lib.hid (J3.out.below hb4)
   clear hb4 I3 J3 c0 c2
   have g2 := J4.out.g2
   have g3 := J4.out.g3
   go_wp2_with fail
   refine (C4.out _ I4.out.r3 I4.out.r2).mono ?_
   rintro e w5 ⟨r1, hr1, rfl, hb5⟩
   have I5 := Lib.hid (I4.out.below hb5)
   have J5 := Lib.hid (J4.out.below hb5)
   have L1 := Lib.hid (last_is hr1)
   clear hb5 I4 J4 g2 g3 hr1
   go_upto_if 57 with fail
   go_cut [18, 19, 20, 21] from 46 to 85 (fun u v _ _ wx => ∃ r : Option Int, u = .int .i64 (r.getD 0) ∧ v = .bool r.isSome ∧ Hid (endF s = r) ∧ Hid (earlyB s = false) ∧ Below w5.heap.size w5 wx)
   case first =>
    have g0 := J5.out.g0
    have g1 := J5.out.g1
    have g2 := J5.out.g2
    have g3 := J5.out.g3
    have c0 := I5.out.c0
    have c1 := I5.out.c1
    cases r1 with
    | some x =>
     go_wp2_with fail
     go_meet
     case rel => exact ⟨some x, rfl, rfl, by unfold Hid; rw [HEnd.out, ← L1.out]; rfl, by unfold Hid; rw [HEar.out, ← L1.out]; rfl, Below.refl _ _⟩
    | none =>
     cases pe with
     | false =>
      go_wp2_with fail
      refine (C6.out _ I5.out.r1 I5.out.r2 cm hcb.1 hcb.2).mono ?_
      rintro e w6 ⟨r2, hr2, rfl, hb6⟩
      have L2 := Lib.hid (last_is hr2)
      go_wp2_with fail
      go_meet
      case rel => exact ⟨r2, rfl, rfl, by unfold Hid; rw [HEnd.out, ← L1.out, ← L2.out]; rfl, by unfold Hid; rw [HEar.out, ← L1.out]; rfl, hb6⟩
     | true =>
      go_wp2_with fail
      refine (C5.out _ I5.out.r3 I5.out.r1).mono ?_
      rintro e w6 ⟨r2, hr2, rfl, hb6⟩
      have I6 := Lib.hid (I5.out.below hb6)
      have J6 := Lib.hid (J5.out.below hb6)
      have L2 := Lib.hid (first_is hr2)
      clear hr2 g0 g1 g2 g3 c0 c1
      have g0 := J6.out.g0
      have g1 := J6.out.g1
      have g2 := J6.out.g2
      have g3 := J6.out.g3
      have c0 := I6.out.c0
      have c1 := I6.out.c1
      cases r2 with
      | some y =>
       go_wp2_with fail
       refine (C6.out _ I6.out.r1 I6.out.r2 cm hcb.1 hcb.2).mono ?_
       rintro e w7 ⟨r3, hr3, rfl, hb7⟩
       have L3 := Lib.hid (last_is hr3)
       go_wp2_with fail
       go_meet
       case rel => exact ⟨r3, rfl, rfl, by unfold Hid; rw [HEnd.out, ← L1.out, ← L3.out]; rfl, by unfold Hid; rw [HEar.out, ← L1.out, ← L2.out]; rfl, hb6.trans (hb7.mono hb6.size)⟩
      | none =>
       have HE0 : Hid (earlyB s = true) := by unfold Hid; rw [HEar.out, ← L1.out, ← L2.out]; rfl
       have p0 := I6.out.c0
       have p1 := I6.out.c1
       go_wp2_with fail
       refine (C8.out _ I6.out.r1).mono ?_
       rintro e wp ⟨vB, rfl, oB, hbp⟩
       have IP := Lib.hid (I6.out.below hbp)
       have OB := Lib.hid (RdX.ownLow oB hlen I6.out.ys)
       clear hbp oB p0 p1 I6
       obtain ⟨⟨B0, B1, B2, B3, B4, B5, B6⟩, K0, K1, K2, K3, K4, K5, K6⟩ := IP.out.bx
       obtain ⟨aB, nB, rfl⟩ := OB.out.rd.form
       go_wp2

       change bodyPost _ _ _ _ _ (put7 wp (w.heap.size + 1 + 1) (.int .i64 P) (.slice a1 l.length n1) (.int .i64 P) (.slice aB l.length nB) (.int .i64 0) (.int .i64 0) (.slice none 0 0))
       obtain ⟨⟨B0, B1, B2, B3, B4, B5, B6⟩, _⟩ := IP.out.bx
       obtain ⟨r0, r1, r2, r3, r4, r5, r6⟩ := put7_at (.int .i64 P) (.slice a1 l.length n1) (.int .i64 P) (.slice aB l.length nB) (.int .i64 0) (.int .i64 0) (.slice none 0 0) B0 B1 B2 B3 B4 B5 B6
       have hBZ := put7_below (.int .i64 P) (.slice a1 l.length n1) (.int .i64 P) (.slice aB l.length nB) (.int .i64 0) (.int .i64 0) (.slice none 0 0) IP.out.bl (b := (w.heap.size + 1 + 1)) (by omega)
       have HZ0 := Lib.hid (RdX.put7 (.int .i64 P) (.slice a1 l.length n1) (.int .i64 P) (.slice aB l.length nB) (.int .i64 0) (.int .i64 0) (.slice none 0 0) IP.out.y1)
       have HZ1 := Lib.hid (RdX.put7 (.int .i64 P) (.slice a1 l.length n1) (.int .i64 P) (.slice aB l.length nB) (.int .i64 0) (.int .i64 0) (.slice none 0 0) OB.out)
       have HZ2 := Lib.hid (RdX.put7 (.int .i64 P) (.slice a1 l.length n1) (.int .i64 P) (.slice aB l.length nB) (.int .i64 0) (.int .i64 0) (.slice none 0 0) (RdX.nil wp (w.heap.size + 1 + 1)))
       generalize put7 wp (w.heap.size + 1 + 1) (.int .i64 P) (.slice a1 l.length n1) (.int .i64 P) (.slice aB l.length nB) (.int .i64 0) (.int .i64 0) (.slice none 0 0) = Z at *
       refine bodyPost_ret (v := .tuple #[.agg #[.int .i64 P, .slice a1 l.length n1, .int .i64 P, .slice aB l.length nB, .int .i64 0, .int .i64 0, .slice none 0 0], .int .i64 0]) (by simp [results, Tryz.results84, go_sem, r0, r1, r2, r3, r4, r5, r6]) rfl ?_
       exact fo_of _ _ _ ((form_early HPM.out HE0.out).trans (by rw [HPU.out])) rfl ⟨HZ0.out.rd, HZ1.out.rd, HZ2.out.rd⟩ hBZ
   case rest =>
    obtain ⟨r, rfl, rfl, L6, E6, hb6⟩ := hcut
    have I6 := Lib.hid (I5.out.below hb6)
    have J6 := Lib.hid (J5.out.below hb6)
    clear hb6 I5 J5 L1
    have g0 := J6.out.g0
    have g1 := J6.out.g1
    go_wp2_with fail
    refine (C5.out _ I6.out.r3 I6.out.r1).mono ?_
    rintro e w7 ⟨r4, hr4, rfl, hb7⟩
    have I7 := Lib.hid (I6.out.below hb7)
    have J7 := Lib.hid (J6.out.below hb7)
    have L7 := Lib.hid (first_is hr4)
    clear hb7 I6 J6 hr4 g0 g1
    go_upto_if 96 with fail
    go_cut [22, 23] from 85 to 108 (fun u v wx => ∃ r : Option Int, u = .int .i64 (r.getD 0) ∧ v = .bool r.isSome ∧ Hid (begF s = r) ∧ Below w7.heap.size w7 wx)
    case first =>
     have g0 := J7.out.g0
     have g1 := J7.out.g1
     have g2 := J7.out.g2
     have g3 := J7.out.g3
     cases r4 with
     | some x =>
      go_wp2_with fail
      go_meet
      case rel => exact ⟨some x, rfl, rfl, by unfold Hid; rw [HBeg.out, ← L7.out]; rfl, Below.refl _ _⟩
     | none =>
      go_wp2_with fail
      refine (C7.out _ I7.out.r1 I7.out.r2 cm hcb.1 hcb.2).mono ?_
      rintro e w8 ⟨r5, hr5, rfl, hb8⟩
      have L8 := Lib.hid (first_is hr5)
      go_wp2_with fail
      go_meet
      case rel => exact ⟨r5, rfl, rfl, by unfold Hid; rw [HBeg.out, ← L7.out, ← L8.out]; rfl, hb8⟩
    case rest =>
     obtain ⟨q, rfl, rfl, L8, hb8⟩ := hcut
     have I8 := Lib.hid (I7.out.below hb8)
     clear hb8 I7 J7 L7 C3 C4 C5 C6 C7 HEnd HBeg HEar HPE
     generalize wc = wP at *
     cases r with
     | none =>
      have p0 := I8.out.c0
      have p1 := I8.out.c1
      go_wp2_with fail
      refine (C8.out _ I8.out.r1).mono ?_
      rintro e wp ⟨vB, rfl, oB, hbp⟩
      have IP := Lib.hid (I8.out.below hbp)
      have OB := Lib.hid (RdX.ownLow oB hlen I8.out.ys)
      clear hbp oB p0 p1 I8
      obtain ⟨⟨B0, B1, B2, B3, B4, B5, B6⟩, K0, K1, K2, K3, K4, K5, K6⟩ := IP.out.bx
      obtain ⟨aB, nB, rfl⟩ := OB.out.rd.form
      go_wp2

      change bodyPost _ _ _ _ _ (put7 wp (w.heap.size + 1 + 1) (.int .i64 P) (.slice a1 l.length n1) (.int .i64 P) (.slice aB l.length nB) (.int .i64 0) (.int .i64 0) (.slice none 0 0))
      obtain ⟨⟨B0, B1, B2, B3, B4, B5, B6⟩, _⟩ := IP.out.bx
      obtain ⟨r0, r1, r2, r3, r4, r5, r6⟩ := put7_at (.int .i64 P) (.slice a1 l.length n1) (.int .i64 P) (.slice aB l.length nB) (.int .i64 0) (.int .i64 0) (.slice none 0 0) B0 B1 B2 B3 B4 B5 B6
      have hBZ := put7_below (.int .i64 P) (.slice a1 l.length n1) (.int .i64 P) (.slice aB l.length nB) (.int .i64 0) (.int .i64 0) (.slice none 0 0) IP.out.bl (b := (w.heap.size + 1 + 1)) (by omega)
      have HZ0 := Lib.hid (RdX.put7 (.int .i64 P) (.slice a1 l.length n1) (.int .i64 P) (.slice aB l.length nB) (.int .i64 0) (.int .i64 0) (.slice none 0 0) IP.out.y1)
      have HZ1 := Lib.hid (RdX.put7 (.int .i64 P) (.slice a1 l.length n1) (.int .i64 P) (.slice aB l.length nB) (.int .i64 0) (.int .i64 0) (.slice none 0 0) OB.out)
      have HZ2 := Lib.hid (RdX.put7 (.int .i64 P) (.slice a1 l.length n1) (.int .i64 P) (.slice aB l.length nB) (.int .i64 0) (.int .i64 0) (.slice none 0 0) (RdX.nil wp (w.heap.size + 1 + 1)))
      generalize put7 wp (w.heap.size + 1 + 1) (.int .i64 P) (.slice a1 l.length n1) (.int .i64 P) (.slice aB l.length nB) (.int .i64 0) (.int .i64 0) (.slice none 0 0) = Z at *
      refine bodyPost_ret (v := .tuple #[.agg #[.int .i64 P, .slice a1 l.length n1, .int .i64 P, .slice aB l.length nB, .int .i64 0, .int .i64 0, .slice none 0 0], .int .i64 0]) (by simp [results, Tryz.results84, go_sem, r0, r1, r2, r3, r4, r5, r6]) rfl ?_
      exact fo_of _ _ _ ((form_none HPM.out E6.out (.inl L6.out)).trans (by rw [HPU.out])) rfl ⟨HZ0.out.rd, HZ1.out.rd, HZ2.out.rd⟩ hBZ

     | some e =>
     cases q with
     | none =>
      have p0 := I8.out.c0
      have p1 := I8.out.c1
      go_wp2_with fail
      refine (C8.out _ I8.out.r1).mono ?_
      rintro e wp ⟨vB, rfl, oB, hbp⟩
      have IP := Lib.hid (I8.out.below hbp)
      have OB := Lib.hid (RdX.ownLow oB hlen I8.out.ys)
      clear hbp oB p0 p1 I8
      obtain ⟨⟨B0, B1, B2, B3, B4, B5, B6⟩, K0, K1, K2, K3, K4, K5, K6⟩ := IP.out.bx
      obtain ⟨aB, nB, rfl⟩ := OB.out.rd.form
      go_wp2

      change bodyPost _ _ _ _ _ (put7 wp (w.heap.size + 1 + 1) (.int .i64 P) (.slice a1 l.length n1) (.int .i64 P) (.slice aB l.length nB) (.int .i64 0) (.int .i64 0) (.slice none 0 0))
      obtain ⟨⟨B0, B1, B2, B3, B4, B5, B6⟩, _⟩ := IP.out.bx
      obtain ⟨r0, r1, r2, r3, r4, r5, r6⟩ := put7_at (.int .i64 P) (.slice a1 l.length n1) (.int .i64 P) (.slice aB l.length nB) (.int .i64 0) (.int .i64 0) (.slice none 0 0) B0 B1 B2 B3 B4 B5 B6
      have hBZ := put7_below (.int .i64 P) (.slice a1 l.length n1) (.int .i64 P) (.slice aB l.length nB) (.int .i64 0) (.int .i64 0) (.slice none 0 0) IP.out.bl (b := (w.heap.size + 1 + 1)) (by omega)
      have HZ0 := Lib.hid (RdX.put7 (.int .i64 P) (.slice a1 l.length n1) (.int .i64 P) (.slice aB l.length nB) (.int .i64 0) (.int .i64 0) (.slice none 0 0) IP.out.y1)
      have HZ1 := Lib.hid (RdX.put7 (.int .i64 P) (.slice a1 l.length n1) (.int .i64 P) (.slice aB l.length nB) (.int .i64 0) (.int .i64 0) (.slice none 0 0) OB.out)
      have HZ2 := Lib.hid (RdX.put7 (.int .i64 P) (.slice a1 l.length n1) (.int .i64 P) (.slice aB l.length nB) (.int .i64 0) (.int .i64 0) (.slice none 0 0) (RdX.nil wp (w.heap.size + 1 + 1)))
      generalize put7 wp (w.heap.size + 1 + 1) (.int .i64 P) (.slice a1 l.length n1) (.int .i64 P) (.slice aB l.length nB) (.int .i64 0) (.int .i64 0) (.slice none 0 0) = Z at *
      refine bodyPost_ret (v := .tuple #[.agg #[.int .i64 P, .slice a1 l.length n1, .int .i64 P, .slice aB l.length nB, .int .i64 0, .int .i64 0, .slice none 0 0], .int .i64 0]) (by simp [results, Tryz.results84, go_sem, r0, r1, r2, r3, r4, r5, r6]) rfl ?_
      exact fo_of _ _ _ ((form_none HPM.out E6.out (.inr L8.out)).trans (by rw [HPU.out])) rfl ⟨HZ0.out.rd, HZ1.out.rd, HZ2.out.rd⟩ hBZ

     | some b =>
     clear C8
     have heb := HEB.out e L6.out
     have hbb := HBB.out b L8.out
     have HFo := Lib.hid (form_some HPM.out E6.out L6.out L8.out)
     clear HEB HBB L6 L8 E6 HPU HPM
     obtain ⟨fr, hfr⟩ : ∃ fr, (if b ≤ e + 1 then b else e + 1) = fr := ⟨_, rfl⟩
     have HFR := Lib.hid hfr
     have hfr1 : fr ≤ e + 1 ∧ -17021827311905 ≤ fr := by rw [← hfr]; split <;> omega
     clear hfr
     have hys := I8.out.ys
     go_wp2_with fail
     go_cut [24] from 46 to 125 (fun u wx => ∃ bx v1 v2, u = .pointer (some ⟨bx, 0, none⟩) ∧ wP.heap.size ≤ bx ∧ Set7 wx bx (.int .i64 P) v1 (.int .i64 Q) v2 (.int .i64 (e + 1)) (.int .i64 (e + 1)) (.slice none 0 0) ∧ RdX wx bx v1 l ∧ RdX wx bx v2 m ∧ RdX wx (w.heap.size + 1 + 1) v1 l ∧ RdX wx (w.heap.size + 1 + 1) v2 m ∧ Below wP.heap.size wP wx)
     case first =>
      have c0 := I8.out.c0
      have c1 := I8.out.c1
      have c2 := I8.out.c2
      have c3 := I8.out.c3
      clear C11 HFo HFR
      have hd : Below wP.heap.size wP wP.drew := (Below.refl _ wP).drew
      have hda : ∀ o, Below wP.heap.size wP (wP.alloc o).drew := fun o => ((Below.refl _ wP).alloc (Nat.le_refl _) o).drew
      have HC : Hid (∀ X, Below wP.heap.size wP X → X.cell? ⟨w.heap.size, 0, none⟩ = some (.int .i64 P) ∧ X.cell? ⟨w.heap.size, 1, none⟩ = some (.slice a1 l.length n1) ∧ X.cell? ⟨w.heap.size + 1, 0, none⟩ = some (.int .i64 Q) ∧ X.cell? ⟨w.heap.size + 1, 1, none⟩ = some (.slice a2 m.length n2)) := fun X hX => ⟨keepCell hX c0, keepCell hX c1, keepCell hX c2, keepCell hX c3⟩
      have H9 : Hid (∀ X, Below wP.heap.size wP X → Calls Tryz.prog 126 #[.agg #[.int .i64 P, .slice a1 l.length n1]] X (CpPost P l X)) := fun X hX => C9.out X (keepRd hX I8.out.r1)
      have H10 : Hid (∀ X, Below wP.heap.size wP X → Calls Tryz.prog 126 #[.agg #[.int .i64 Q, .slice a2 m.length n2]] X (CpPost Q m X)) := fun X hX => C10.out X (keepRd hX I8.out.r2)
      clear C9 C10
      have np0 := fun o => keepCell ((Below.refl _ wP).alloc (Nat.le_refl _) o) c0
      have nr0 : ∀ o, (wP.alloc o).drew.cell? _ = _ := np0
      have np1 := fun o => keepCell ((Below.refl _ wP).alloc (Nat.le_refl _) o) c1
      have nr1 : ∀ o, (wP.alloc o).drew.cell? _ = _ := np1
      have np2 := fun o => keepCell ((Below.refl _ wP).alloc (Nat.le_refl _) o) c2
      have nr2 : ∀ o, (wP.alloc o).drew.cell? _ = _ := np2
      have np3 := fun o => keepCell ((Below.refl _ wP).alloc (Nat.le_refl _) o) c3
      have nr3 : ∀ o, (wP.alloc o).drew.cell? _ = _ := np3
      have y0 : w.heap.size ≠ wP.heap.size := by omega
      have y0' : wP.heap.size ≠ w.heap.size := by omega
      have y1 : w.heap.size + 1 ≠ wP.heap.size := by omega
      have y1' : wP.heap.size ≠ w.heap.size + 1 := by omega
      have nq0 := fun o => keepCell ((Below.refl _ wP.drew).alloc (Nat.le_refl _) o) c0
      have nq1 := fun o => keepCell ((Below.refl _ wP.drew).alloc (Nat.le_refl _) o) c1
      have nq2 := fun o => keepCell ((Below.refl _ wP.drew).alloc (Nat.le_refl _) o) c2
      have nq3 := fun o => keepCell ((Below.refl _ wP.drew).alloc (Nat.le_refl _) o) c3
      go_region_with (first
       | (go_at_call_of 126 (Value.int IntKind.i64 P); refine (H9.out _ (by (first | with_reducible exact hd | with_reducible exact hda _ | with_reducible exact hd.alloc (Nat.le_refl _) _ | with_reducible exact hfa | with_reducible exact hfa.alloc hfa.size _ | with_reducible exact hfb | with_reducible exact hfb.alloc hfb.size _))).mono ?_; rintro e' wA ⟨vA, rfl, oA, bA⟩; have hfa : Below wP.heap.size wP wA := keepBelow (by (first | with_reducible exact hd | with_reducible exact hda _ | with_reducible exact hd.alloc (Nat.le_refl _) _ | with_reducible exact hfa | with_reducible exact hfa.alloc hfa.size _ | with_reducible exact hfb | with_reducible exact hfb.alloc hfb.size _)) bA; (first | (have BXa := Lib.hid (BXb.out.below bA); obtain ⟨⟨Ba0, Ba1, Ba2, Ba3, Ba4, Ba5, Ba6⟩, Ka0, Ka1, Ka2, Ka3, Ka4, Ka5, Ka6⟩ := BXa.out) | (have BXa := Lib.hid (by with_reducible exact (box_newd wP).below bA); obtain ⟨⟨Ba0, Ba1, Ba2, Ba3, Ba4, Ba5, Ba6⟩, Ka0, Ka1, Ka2, Ka3, Ka4, Ka5, Ka6⟩ := BXa.out) | (have BXa := Lib.hid (by with_reducible exact (box_new wB).below bA); obtain ⟨⟨Ba0, Ba1, Ba2, Ba3, Ba4, Ba5, Ba6⟩, Ka0, Ka1, Ka2, Ka3, Ka4, Ka5, Ka6⟩ := BXa.out) | skip); obtain ⟨ca0, ca1, ca2, ca3⟩ := HC.out _ hfa; have nna0 := fun o => keepCell ((Below.refl _ wA).alloc (Nat.le_refl _) o) ca0; have nna1 := fun o => keepCell ((Below.refl _ wA).alloc (Nat.le_refl _) o) ca1; have nna2 := fun o => keepCell ((Below.refl _ wA).alloc (Nat.le_refl _) o) ca2; have nna3 := fun o => keepCell ((Below.refl _ wA).alloc (Nat.le_refl _) o) ca3; (first | (have Ob2 := Lib.hid (Ob.out.below bA)) | (have Ob2 := Lib.hid (OwnS.below (Ob.out.alloc _) bA)) | skip); obtain ⟨pa, na, rfl, _⟩ := oA.form; have Oa := Lib.hid oA; clear bA oA)
       | (go_at_call_of 126 (Value.int IntKind.i64 Q); refine (H10.out _ (by (first | with_reducible exact hd | with_reducible exact hda _ | with_reducible exact hd.alloc (Nat.le_refl _) _ | with_reducible exact hfa | with_reducible exact hfa.alloc hfa.size _ | with_reducible exact hfb | with_reducible exact hfb.alloc hfb.size _))).mono ?_; rintro e' wB ⟨vB, rfl, oB, bB⟩; have hfb : Below wP.heap.size wP wB := keepBelow (by (first | with_reducible exact hd | with_reducible exact hda _ | with_reducible exact hd.alloc (Nat.le_refl _) _ | with_reducible exact hfa | with_reducible exact hfa.alloc hfa.size _ | with_reducible exact hfb | with_reducible exact hfb.alloc hfb.size _)) bB; (first | (have BXb := Lib.hid (BXa.out.below bB); obtain ⟨⟨Bb0, Bb1, Bb2, Bb3, Bb4, Bb5, Bb6⟩, Kb0, Kb1, Kb2, Kb3, Kb4, Kb5, Kb6⟩ := BXb.out) | (have BXb := Lib.hid (by with_reducible exact (box_newd wP).below bB); obtain ⟨⟨Bb0, Bb1, Bb2, Bb3, Bb4, Bb5, Bb6⟩, Kb0, Kb1, Kb2, Kb3, Kb4, Kb5, Kb6⟩ := BXb.out) | (have BXb := Lib.hid (by with_reducible exact (box_new wA).below bB); obtain ⟨⟨Bb0, Bb1, Bb2, Bb3, Bb4, Bb5, Bb6⟩, Kb0, Kb1, Kb2, Kb3, Kb4, Kb5, Kb6⟩ := BXb.out) | skip); obtain ⟨cb0, cb1, cb2, cb3⟩ := HC.out _ hfb; have nnb0 := fun o => keepCell ((Below.refl _ wB).alloc (Nat.le_refl _) o) cb0; have nnb1 := fun o => keepCell ((Below.refl _ wB).alloc (Nat.le_refl _) o) cb1; have nnb2 := fun o => keepCell ((Below.refl _ wB).alloc (Nat.le_refl _) o) cb2; have nnb3 := fun o => keepCell ((Below.refl _ wB).alloc (Nat.le_refl _) o) cb3; (first | (have Oa2 := Lib.hid (Oa.out.below bB)) | (have Oa2 := Lib.hid (OwnS.below (Oa.out.alloc _) bB)) | skip); obtain ⟨pb, nb, rfl, _⟩ := oB.form; have Ob := Lib.hid oB; have hAB := bB.size; clear bB oB))
      all_goals (go_wp2_with fail; go_meet)
      ·have sa := hfa.size
       have sb := hfb.size
       have hdz : wP.drew.heap.size = wP.heap.size := rfl
       have la : ∀ k, (Value.slice pa l.length na).ownBlock = some k → wP.heap.size ≤ k ∧ k < wA.heap.size := fun k hk => by have q := Oa.out.lt k hk; simp only [hdz] at q; omega
       have lb : ∀ k, (Value.slice pb m.length nb).ownBlock = some k → wA.heap.size ≤ k ∧ k < wB.heap.size := fun k hk => by have q := Ob.out.lt k hk; omega
       have sAB : wA.heap.size ≤ wB.heap.size := hAB
       have ra : RdX wB (w.heap.size + 1 + 1) (.slice pa l.length na) l := Oa2.out.away hlen (fun e => by have := la _ e; omega)
       have rb : RdX wB (w.heap.size + 1 + 1) (.slice pb m.length nb) m := Ob.out.away hlem (fun e => by have := lb _ e; omega)
       have ra1 : RdX wB wB.heap.size (.slice pa l.length na) l := Oa2.out.away hlen (fun e => by have := la _ e; omega)
       have rb1 : RdX wB wB.heap.size (.slice pb m.length nb) m := Ob.out.away hlem (fun e => by have := lb _ e; omega)
       have al := (Below.refl wB.heap.size wB).alloc (Nat.le_refl _) (.cells #[.int .i64 P, .slice pa l.length na, .int .i64 Q, .slice pb m.length nb, .int .i64 (e + 1), .int .i64 (e + 1), .slice none 0 0] 31)
       exact ⟨_, _, _, rfl, sb, by (refine ⟨⟨?_, ?_, ?_, ?_, ?_, ?_, ?_⟩, ?_, ?_, ?_, ?_, ?_, ?_, ?_⟩ <;> simp [go_sem]), ra1.below al, rb1.below al, ra.below al, rb.below al, hfb.alloc sb _⟩
      ·have sa := hfa.size
       have sb := hfb.size
       have hdz : wP.drew.heap.size = wP.heap.size := rfl
       have hdz3 : ∀ o, (wA.alloc o).heap.size = wA.heap.size + 1 := fun o => by simp
       have la : ∀ k, (Value.slice pa l.length na).ownBlock = some k → wP.heap.size ≤ k ∧ k < wA.heap.size := fun k hk => by have q := Oa.out.lt k hk; simp only [hdz] at q; omega
       have lb : ∀ k, (Value.slice pb m.length nb).ownBlock = some k → wA.heap.size < k ∧ k < wB.heap.size := fun k hk => by have q := Ob.out.lt k hk; simp only [hdz3] at q; omega
       have sAB : wA.heap.size ≤ wB.heap.size := Nat.le_of_lt (World.block_lt_of_cell? wB ⟨wA.heap.size, 0, none⟩ Bb0)
       have ra : RdX wB (w.heap.size + 1 + 1) (.slice pa l.length na) l := Oa2.out.away hlen (fun e => by have := la _ e; omega)
       have rb : RdX wB (w.heap.size + 1 + 1) (.slice pb m.length nb) m := Ob.out.away hlem (fun e => by have := lb _ e; omega)
       have ra1 : RdX wB wA.heap.size (.slice pa l.length na) l := Oa2.out.away hlen (fun e => by have := la _ e; omega)
       have rb1 : RdX wB wA.heap.size (.slice pb m.length nb) m := Ob.out.away hlem (fun e => by have := lb _ e; omega)
       exact ⟨_, _, _, rfl, sa, BXb.out.put7 _ _ _ _ _ _ _, ra1.put7 _ _ _ _ _ _ _, rb1.put7 _ _ _ _ _ _ _, ra.put72 _ _ _ _ _ _ _ ra1, rb.put72 _ _ _ _ _ _ _ rb1, put7_below _ _ _ _ _ _ _ hfb sa⟩
      ·have sa := hfa.size
       have sb := hfb.size
       have hdz : wP.drew.heap.size = wP.heap.size := rfl
       have hdz3 : ∀ o, (wA.alloc o).heap.size = wA.heap.size + 1 := fun o => by simp
       have la : ∀ k, (Value.slice pa l.length na).ownBlock = some k → wP.heap.size ≤ k ∧ k < wA.heap.size := fun k hk => by have q := Oa.out.lt k hk; simp only [hdz] at q; omega
       have lb : ∀ k, (Value.slice pb m.length nb).ownBlock = some k → wA.heap.size < k ∧ k < wB.heap.size := fun k hk => by have q := Ob.out.lt k hk; simp only [hdz3] at q; omega
       have sAB : wA.heap.size ≤ wB.heap.size := Nat.le_of_lt (World.block_lt_of_cell? wB ⟨wA.heap.size, 0, none⟩ Bb0)
       have ra : RdX wB (w.heap.size + 1 + 1) (.slice pa l.length na) l := Oa2.out.away hlen (fun e => by have := la _ e; omega)
       have rb : RdX wB (w.heap.size + 1 + 1) (.slice pb m.length nb) m := Ob.out.away hlem (fun e => by have := lb _ e; omega)
       have ra1 : RdX wB wA.heap.size (.slice pa l.length na) l := Oa2.out.away hlen (fun e => by have := la _ e; omega)
       have rb1 : RdX wB wA.heap.size (.slice pb m.length nb) m := Ob.out.away hlem (fun e => by have := lb _ e; omega)
       exact ⟨_, _, _, rfl, sa, BXb.out.put7 _ _ _ _ _ _ _, ra1.put7 _ _ _ _ _ _ _, rb1.put7 _ _ _ _ _ _ _, ra.put72 _ _ _ _ _ _ _ ra1, rb.put72 _ _ _ _ _ _ _ rb1, put7_below _ _ _ _ _ _ _ hfb sa⟩
      ·have sa := hfa.size
       have sb := hfb.size
       have hdz : wP.drew.heap.size = wP.heap.size := rfl
       have la : ∀ k, (Value.slice pa l.length na).ownBlock = some k → wP.heap.size ≤ k ∧ k < wA.heap.size := fun k hk => by have q := Oa.out.lt k hk; simp only [hdz] at q; omega
       have lb : ∀ k, (Value.slice pb m.length nb).ownBlock = some k → wA.heap.size ≤ k ∧ k < wB.heap.size := fun k hk => by have q := Ob.out.lt k hk; omega
       have sAB : wA.heap.size ≤ wB.heap.size := hAB
       have ra : RdX wB (w.heap.size + 1 + 1) (.slice pa l.length na) l := Oa2.out.away hlen (fun e => by have := la _ e; omega)
       have rb : RdX wB (w.heap.size + 1 + 1) (.slice pb m.length nb) m := Ob.out.away hlem (fun e => by have := lb _ e; omega)
       have ra1 : RdX wB wB.heap.size (.slice pa l.length na) l := Oa2.out.away hlen (fun e => by have := la _ e; omega)
       have rb1 : RdX wB wB.heap.size (.slice pb m.length nb) m := Ob.out.away hlem (fun e => by have := lb _ e; omega)
       have al := (Below.refl wB.heap.size wB).alloc (Nat.le_refl _) (.cells #[.int .i64 P, .slice pa l.length na, .int .i64 Q, .slice pb m.length nb, .int .i64 (e + 1), .int .i64 (e + 1), .slice none 0 0] 31)
       exact ⟨_, _, _, rfl, sb, by (refine ⟨⟨?_, ?_, ?_, ?_, ?_, ?_, ?_⟩, ?_, ?_, ?_, ?_, ?_, ?_, ?_⟩ <;> simp [go_sem]), ra1.below al, rb1.below al, ra.below al, rb.below al, hfb.alloc sb _⟩
      ·have sa := hfa.size
       have sb := hfb.size
       have hdz : wP.drew.heap.size = wP.heap.size := rfl
       have hdz3 : ∀ o, (wA.alloc o).heap.size = wA.heap.size + 1 := fun o => by simp
       have la : ∀ k, (Value.slice pa l.length na).ownBlock = some k → wP.heap.size ≤ k ∧ k < wA.heap.size := fun k hk => by have q := Oa.out.lt k hk; simp only [hdz] at q; omega
       have lb : ∀ k, (Value.slice pb m.length nb).ownBlock = some k → wA.heap.size < k ∧ k < wB.heap.size := fun k hk => by have q := Ob.out.lt k hk; simp only [hdz3] at q; omega
       have sAB : wA.heap.size ≤ wB.heap.size := Nat.le_of_lt (World.block_lt_of_cell? wB ⟨wA.heap.size, 0, none⟩ Bb0)
       have ra : RdX wB (w.heap.size + 1 + 1) (.slice pa l.length na) l := Oa2.out.away hlen (fun e => by have := la _ e; omega)
       have rb : RdX wB (w.heap.size + 1 + 1) (.slice pb m.length nb) m := Ob.out.away hlem (fun e => by have := lb _ e; omega)
       have ra1 : RdX wB wA.heap.size (.slice pa l.length na) l := Oa2.out.away hlen (fun e => by have := la _ e; omega)
       have rb1 : RdX wB wA.heap.size (.slice pb m.length nb) m := Ob.out.away hlem (fun e => by have := lb _ e; omega)
       exact ⟨_, _, _, rfl, sa, BXb.out.put7 _ _ _ _ _ _ _, ra1.put7 _ _ _ _ _ _ _, rb1.put7 _ _ _ _ _ _ _, ra.put72 _ _ _ _ _ _ _ ra1, rb.put72 _ _ _ _ _ _ _ rb1, put7_below _ _ _ _ _ _ _ hfb sa⟩
      ·have sa := hfa.size
       have sb := hfb.size
       have hdz2 : ∀ o, (wP.alloc o).drew.heap.size = wP.heap.size + 1 := fun o => by show (wP.alloc o).heap.size = _; simp
       have la : ∀ k, (Value.slice pa l.length na).ownBlock = some k → wP.heap.size < k ∧ k < wA.heap.size := fun k hk => by have q := Oa.out.lt k hk; simp only [hdz2] at q; omega
       have lb : ∀ k, (Value.slice pb m.length nb).ownBlock = some k → wA.heap.size ≤ k ∧ k < wB.heap.size := fun k hk => by have q := Ob.out.lt k hk; omega
       have hpa : wP.heap.size < wA.heap.size := World.block_lt_of_cell? wA _ Ba0
       have sAB : wA.heap.size ≤ wB.heap.size := hAB
       have ra : RdX wB (w.heap.size + 1 + 1) (.slice pa l.length na) l := Oa2.out.away hlen (fun e => by have := la _ e; omega)
       have rb : RdX wB (w.heap.size + 1 + 1) (.slice pb m.length nb) m := Ob.out.away hlem (fun e => by have := lb _ e; omega)
       have ra1 : RdX wB wP.heap.size (.slice pa l.length na) l := Oa2.out.away hlen (fun e => by have := la _ e; omega)
       have rb1 : RdX wB wP.heap.size (.slice pb m.length nb) m := Ob.out.away hlem (fun e => by have := lb _ e; omega)
       exact ⟨_, _, _, rfl, Nat.le_refl _, BXb.out.put7 _ _ _ _ _ _ _, ra1.put7 _ _ _ _ _ _ _, rb1.put7 _ _ _ _ _ _ _, ra.put72 _ _ _ _ _ _ _ ra1, rb.put72 _ _ _ _ _ _ _ rb1, put7_below _ _ _ _ _ _ _ hfb (Nat.le_refl _)⟩
      ·have sa := hfa.size
       have sb := hfb.size
       have hdz2 : ∀ o, (wP.alloc o).drew.heap.size = wP.heap.size + 1 := fun o => by show (wP.alloc o).heap.size = _; simp
       have la : ∀ k, (Value.slice pa l.length na).ownBlock = some k → wP.heap.size < k ∧ k < wA.heap.size := fun k hk => by have q := Oa.out.lt k hk; simp only [hdz2] at q; omega
       have lb : ∀ k, (Value.slice pb m.length nb).ownBlock = some k → wA.heap.size ≤ k ∧ k < wB.heap.size := fun k hk => by have q := Ob.out.lt k hk; omega
       have hpa : wP.heap.size < wA.heap.size := World.block_lt_of_cell? wA _ Ba0
       have sAB : wA.heap.size ≤ wB.heap.size := hAB
       have ra : RdX wB (w.heap.size + 1 + 1) (.slice pa l.length na) l := Oa2.out.away hlen (fun e => by have := la _ e; omega)
       have rb : RdX wB (w.heap.size + 1 + 1) (.slice pb m.length nb) m := Ob.out.away hlem (fun e => by have := lb _ e; omega)
       have ra1 : RdX wB wP.heap.size (.slice pa l.length na) l := Oa2.out.away hlen (fun e => by have := la _ e; omega)
       have rb1 : RdX wB wP.heap.size (.slice pb m.length nb) m := Ob.out.away hlem (fun e => by have := lb _ e; omega)
       exact ⟨_, _, _, rfl, Nat.le_refl _, BXb.out.put7 _ _ _ _ _ _ _, ra1.put7 _ _ _ _ _ _ _, rb1.put7 _ _ _ _ _ _ _, ra.put72 _ _ _ _ _ _ _ ra1, rb.put72 _ _ _ _ _ _ _ rb1, put7_below _ _ _ _ _ _ _ hfb (Nat.le_refl _)⟩
      ·have sa := hfa.size
       have sb := hfb.size
       have hdz2 : ∀ o, (wP.alloc o).drew.heap.size = wP.heap.size + 1 := fun o => by show (wP.alloc o).heap.size = _; simp
       have la : ∀ k, (Value.slice pa l.length na).ownBlock = some k → wP.heap.size < k ∧ k < wA.heap.size := fun k hk => by have q := Oa.out.lt k hk; simp only [hdz2] at q; omega
       have lb : ∀ k, (Value.slice pb m.length nb).ownBlock = some k → wA.heap.size ≤ k ∧ k < wB.heap.size := fun k hk => by have q := Ob.out.lt k hk; omega
       have hpa : wP.heap.size < wA.heap.size := World.block_lt_of_cell? wA _ Ba0
       have sAB : wA.heap.size ≤ wB.heap.size := hAB
       have ra : RdX wB (w.heap.size + 1 + 1) (.slice pa l.length na) l := Oa2.out.away hlen (fun e => by have := la _ e; omega)
       have rb : RdX wB (w.heap.size + 1 + 1) (.slice pb m.length nb) m := Ob.out.away hlem (fun e => by have := lb _ e; omega)
       have ra1 : RdX wB wP.heap.size (.slice pa l.length na) l := Oa2.out.away hlen (fun e => by have := la _ e; omega)
       have rb1 : RdX wB wP.heap.size (.slice pb m.length nb) m := Ob.out.away hlem (fun e => by have := lb _ e; omega)
       exact ⟨_, _, _, rfl, Nat.le_refl _, BXb.out.put7 _ _ _ _ _ _ _, ra1.put7 _ _ _ _ _ _ _, rb1.put7 _ _ _ _ _ _ _, ra.put72 _ _ _ _ _ _ _ ra1, rb.put72 _ _ _ _ _ _ _ rb1, put7_below _ _ _ _ _ _ _ hfb (Nat.le_refl _)⟩
      ·have sa := hfa.size
       have sb := hfb.size
       have hdz : wP.drew.heap.size = wP.heap.size := rfl
       have la : ∀ k, (Value.slice pa l.length na).ownBlock = some k → wP.heap.size ≤ k ∧ k < wA.heap.size := fun k hk => by have q := Oa.out.lt k hk; simp only [hdz] at q; omega
       have lb : ∀ k, (Value.slice pb m.length nb).ownBlock = some k → wA.heap.size ≤ k ∧ k < wB.heap.size := fun k hk => by have q := Ob.out.lt k hk; omega
       have sAB : wA.heap.size ≤ wB.heap.size := hAB
       have ra : RdX wB (w.heap.size + 1 + 1) (.slice pa l.length na) l := Oa2.out.away hlen (fun e => by have := la _ e; omega)
       have rb : RdX wB (w.heap.size + 1 + 1) (.slice pb m.length nb) m := Ob.out.away hlem (fun e => by have := lb _ e; omega)
       have ra1 : RdX wB wB.heap.size (.slice pa l.length na) l := Oa2.out.away hlen (fun e => by have := la _ e; omega)
       have rb1 : RdX wB wB.heap.size (.slice pb m.length nb) m := Ob.out.away hlem (fun e => by have := lb _ e; omega)
       have al := (Below.refl wB.heap.size wB).alloc (Nat.le_refl _) (.cells #[.int .i64 P, .slice pa l.length na, .int .i64 Q, .slice pb m.length nb, .int .i64 (e + 1), .int .i64 (e + 1), .slice none 0 0] 31)
       exact ⟨_, _, _, rfl, sb, by (refine ⟨⟨?_, ?_, ?_, ?_, ?_, ?_, ?_⟩, ?_, ?_, ?_, ?_, ?_, ?_, ?_⟩ <;> simp [go_sem]), ra1.below al, rb1.below al, ra.below al, rb.below al, hfb.alloc sb _⟩
      ·have sa := hfa.size
       have sb := hfb.size
       have hdz : wP.drew.heap.size = wP.heap.size := rfl
       have hdz3 : ∀ o, (wA.alloc o).heap.size = wA.heap.size + 1 := fun o => by simp
       have la : ∀ k, (Value.slice pa l.length na).ownBlock = some k → wP.heap.size ≤ k ∧ k < wA.heap.size := fun k hk => by have q := Oa.out.lt k hk; simp only [hdz] at q; omega
       have lb : ∀ k, (Value.slice pb m.length nb).ownBlock = some k → wA.heap.size < k ∧ k < wB.heap.size := fun k hk => by have q := Ob.out.lt k hk; simp only [hdz3] at q; omega
       have sAB : wA.heap.size ≤ wB.heap.size := Nat.le_of_lt (World.block_lt_of_cell? wB ⟨wA.heap.size, 0, none⟩ Bb0)
       have ra : RdX wB (w.heap.size + 1 + 1) (.slice pa l.length na) l := Oa2.out.away hlen (fun e => by have := la _ e; omega)
       have rb : RdX wB (w.heap.size + 1 + 1) (.slice pb m.length nb) m := Ob.out.away hlem (fun e => by have := lb _ e; omega)
       have ra1 : RdX wB wA.heap.size (.slice pa l.length na) l := Oa2.out.away hlen (fun e => by have := la _ e; omega)
       have rb1 : RdX wB wA.heap.size (.slice pb m.length nb) m := Ob.out.away hlem (fun e => by have := lb _ e; omega)
       exact ⟨_, _, _, rfl, sa, BXb.out.put7 _ _ _ _ _ _ _, ra1.put7 _ _ _ _ _ _ _, rb1.put7 _ _ _ _ _ _ _, ra.put72 _ _ _ _ _ _ _ ra1, rb.put72 _ _ _ _ _ _ _ rb1, put7_below _ _ _ _ _ _ _ hfb sa⟩
      ·have sa := hfa.size
       have sb := hfb.size
       have hdz2 : ∀ o, (wP.alloc o).drew.heap.size = wP.heap.size + 1 := fun o => by show (wP.alloc o).heap.size = _; simp
       have la : ∀ k, (Value.slice pa l.length na).ownBlock = some k → wP.heap.size < k ∧ k < wA.heap.size := fun k hk => by have q := Oa.out.lt k hk; simp only [hdz2] at q; omega
       have lb : ∀ k, (Value.slice pb m.length nb).ownBlock = some k → wA.heap.size ≤ k ∧ k < wB.heap.size := fun k hk => by have q := Ob.out.lt k hk; omega
       have hpa : wP.heap.size < wA.heap.size := World.block_lt_of_cell? wA _ Ba0
       have sAB : wA.heap.size ≤ wB.heap.size := hAB
       have ra : RdX wB (w.heap.size + 1 + 1) (.slice pa l.length na) l := Oa2.out.away hlen (fun e => by have := la _ e; omega)
       have rb : RdX wB (w.heap.size + 1 + 1) (.slice pb m.length nb) m := Ob.out.away hlem (fun e => by have := lb _ e; omega)
       have ra1 : RdX wB wP.heap.size (.slice pa l.length na) l := Oa2.out.away hlen (fun e => by have := la _ e; omega)
       have rb1 : RdX wB wP.heap.size (.slice pb m.length nb) m := Ob.out.away hlem (fun e => by have := lb _ e; omega)
       exact ⟨_, _, _, rfl, Nat.le_refl _, BXb.out.put7 _ _ _ _ _ _ _, ra1.put7 _ _ _ _ _ _ _, rb1.put7 _ _ _ _ _ _ _, ra.put72 _ _ _ _ _ _ _ ra1, rb.put72 _ _ _ _ _ _ _ rb1, put7_below _ _ _ _ _ _ _ hfb (Nat.le_refl _)⟩
      ·have sa := hfa.size
       have sb := hfb.size
       have hdz2 : ∀ o, (wP.alloc o).drew.heap.size = wP.heap.size + 1 := fun o => by show (wP.alloc o).heap.size = _; simp
       have la : ∀ k, (Value.slice pa l.length na).ownBlock = some k → wP.heap.size < k ∧ k < wA.heap.size := fun k hk => by have q := Oa.out.lt k hk; simp only [hdz2] at q; omega
       have lb : ∀ k, (Value.slice pb m.length nb).ownBlock = some k → wA.heap.size ≤ k ∧ k < wB.heap.size := fun k hk => by have q := Ob.out.lt k hk; omega
       have hpa : wP.heap.size < wA.heap.size := World.block_lt_of_cell? wA _ Ba0
       have sAB : wA.heap.size ≤ wB.heap.size := hAB
       have ra : RdX wB (w.heap.size + 1 + 1) (.slice pa l.length na) l := Oa2.out.away hlen (fun e => by have := la _ e; omega)
       have rb : RdX wB (w.heap.size + 1 + 1) (.slice pb m.length nb) m := Ob.out.away hlem (fun e => by have := lb _ e; omega)
       have ra1 : RdX wB wP.heap.size (.slice pa l.length na) l := Oa2.out.away hlen (fun e => by have := la _ e; omega)
       have rb1 : RdX wB wP.heap.size (.slice pb m.length nb) m := Ob.out.away hlem (fun e => by have := lb _ e; omega)
       exact ⟨_, _, _, rfl, Nat.le_refl _, BXb.out.put7 _ _ _ _ _ _ _, ra1.put7 _ _ _ _ _ _ _, rb1.put7 _ _ _ _ _ _ _, ra.put72 _ _ _ _ _ _ _ ra1, rb.put72 _ _ _ _ _ _ _ rb1, put7_below _ _ _ _ _ _ _ hfb (Nat.le_refl _)⟩
      ·have sa := hfa.size
       have sb := hfb.size
       have hdz2 : ∀ o, (wP.alloc o).drew.heap.size = wP.heap.size + 1 := fun o => by show (wP.alloc o).heap.size = _; simp
       have la : ∀ k, (Value.slice pa l.length na).ownBlock = some k → wP.heap.size < k ∧ k < wA.heap.size := fun k hk => by have q := Oa.out.lt k hk; simp only [hdz2] at q; omega
       have lb : ∀ k, (Value.slice pb m.length nb).ownBlock = some k → wA.heap.size ≤ k ∧ k < wB.heap.size := fun k hk => by have q := Ob.out.lt k hk; omega
       have hpa : wP.heap.size < wA.heap.size := World.block_lt_of_cell? wA _ Ba0
       have sAB : wA.heap.size ≤ wB.heap.size := hAB
       have ra : RdX wB (w.heap.size + 1 + 1) (.slice pa l.length na) l := Oa2.out.away hlen (fun e => by have := la _ e; omega)
       have rb : RdX wB (w.heap.size + 1 + 1) (.slice pb m.length nb) m := Ob.out.away hlem (fun e => by have := lb _ e; omega)
       have ra1 : RdX wB wP.heap.size (.slice pa l.length na) l := Oa2.out.away hlen (fun e => by have := la _ e; omega)
       have rb1 : RdX wB wP.heap.size (.slice pb m.length nb) m := Ob.out.away hlem (fun e => by have := lb _ e; omega)
       exact ⟨_, _, _, rfl, Nat.le_refl _, BXb.out.put7 _ _ _ _ _ _ _, ra1.put7 _ _ _ _ _ _ _, rb1.put7 _ _ _ _ _ _ _, ra.put72 _ _ _ _ _ _ _ ra1, rb.put72 _ _ _ _ _ _ _ rb1, put7_below _ _ _ _ _ _ _ hfb (Nat.le_refl _)⟩
      ·have sa := hfa.size
       have sb := hfb.size
       have hdz2 : ∀ o, (wP.alloc o).drew.heap.size = wP.heap.size + 1 := fun o => by show (wP.alloc o).heap.size = _; simp
       have la : ∀ k, (Value.slice pa l.length na).ownBlock = some k → wP.heap.size < k ∧ k < wA.heap.size := fun k hk => by have q := Oa.out.lt k hk; simp only [hdz2] at q; omega
       have lb : ∀ k, (Value.slice pb m.length nb).ownBlock = some k → wA.heap.size ≤ k ∧ k < wB.heap.size := fun k hk => by have q := Ob.out.lt k hk; omega
       have hpa : wP.heap.size < wA.heap.size := World.block_lt_of_cell? wA _ Ba0
       have sAB : wA.heap.size ≤ wB.heap.size := hAB
       have ra : RdX wB (w.heap.size + 1 + 1) (.slice pa l.length na) l := Oa2.out.away hlen (fun e => by have := la _ e; omega)
       have rb : RdX wB (w.heap.size + 1 + 1) (.slice pb m.length nb) m := Ob.out.away hlem (fun e => by have := lb _ e; omega)
       have ra1 : RdX wB wP.heap.size (.slice pa l.length na) l := Oa2.out.away hlen (fun e => by have := la _ e; omega)
       have rb1 : RdX wB wP.heap.size (.slice pb m.length nb) m := Ob.out.away hlem (fun e => by have := lb _ e; omega)
       exact ⟨_, _, _, rfl, Nat.le_refl _, BXb.out.put7 _ _ _ _ _ _ _, ra1.put7 _ _ _ _ _ _ _, rb1.put7 _ _ _ _ _ _ _, ra.put72 _ _ _ _ _ _ _ ra1, rb.put72 _ _ _ _ _ _ _ rb1, put7_below _ _ _ _ _ _ _ hfb (Nat.le_refl _)⟩
      ·have sa := hfa.size
       have sb := hfb.size
       have hdz2 : ∀ o, (wP.alloc o).drew.heap.size = wP.heap.size + 1 := fun o => by show (wP.alloc o).heap.size = _; simp
       have la : ∀ k, (Value.slice pa l.length na).ownBlock = some k → wP.heap.size < k ∧ k < wA.heap.size := fun k hk => by have q := Oa.out.lt k hk; simp only [hdz2] at q; omega
       have lb : ∀ k, (Value.slice pb m.length nb).ownBlock = some k → wA.heap.size ≤ k ∧ k < wB.heap.size := fun k hk => by have q := Ob.out.lt k hk; omega
       have hpa : wP.heap.size < wA.heap.size := World.block_lt_of_cell? wA _ Ba0
       have sAB : wA.heap.size ≤ wB.heap.size := hAB
       have ra : RdX wB (w.heap.size + 1 + 1) (.slice pa l.length na) l := Oa2.out.away hlen (fun e => by have := la _ e; omega)
       have rb : RdX wB (w.heap.size + 1 + 1) (.slice pb m.length nb) m := Ob.out.away hlem (fun e => by have := lb _ e; omega)
       have ra1 : RdX wB wP.heap.size (.slice pa l.length na) l := Oa2.out.away hlen (fun e => by have := la _ e; omega)
       have rb1 : RdX wB wP.heap.size (.slice pb m.length nb) m := Ob.out.away hlem (fun e => by have := lb _ e; omega)
       exact ⟨_, _, _, rfl, Nat.le_refl _, BXb.out.put7 _ _ _ _ _ _ _, ra1.put7 _ _ _ _ _ _ _, rb1.put7 _ _ _ _ _ _ _, ra.put72 _ _ _ _ _ _ _ ra1, rb.put72 _ _ _ _ _ _ _ rb1, put7_below _ _ _ _ _ _ _ hfb (Nat.le_refl _)⟩
     case rest =>
      obtain ⟨bx, v1, v2, rfl, hbx, HX9, o1, o2, o3, o4, hb9⟩ := hcut
      have X9 := Lib.hid HX9
      have O1 := Lib.hid o1
      have O2 := Lib.hid o2
      have O3 := Lib.hid o3
      have O4 := Lib.hid o4
      obtain ⟨q1, n1', rfl⟩ := o1.1.form
      obtain ⟨q2, n2', rfl⟩ := o2.1.form
      clear HX9 o1 o2 o3 o4
      have hwx := hb9.size
      have hbl := World.block_lt_of_cell? wc _ X9.out.1.1
      have hbl : bx < wc.heap.size := hbl
      go_upto_if 128 with fail
      go_cut [24] from 46 to 130 (fun u wx => u = .pointer (some ⟨bx, 0, none⟩) ∧ Set7 wx bx (.int .i64 P) (.slice q1 l.length n1') (.int .i64 Q) (.slice q2 m.length n2') (.int .i64 fr) (.int .i64 (e + 1)) (.slice none 0 0) ∧ RdX wx bx (.slice q1 l.length n1') l ∧ RdX wx bx (.slice q2 m.length n2') m ∧ RdX wx (w.heap.size + 1 + 1) (.slice q1 l.length n1') l ∧ RdX wx (w.heap.size + 1 + 1) (.slice q2 m.length n2') m ∧ Below wP.heap.size wP wx ∧ bx < wx.heap.size)
      case first =>
       by_cases hbe : b ≤ e + 1
       ·have HF2 : Hid (fr = b) := by unfold Hid; rw [← HFR.out, if_pos hbe]
        obtain ⟨⟨B0, B1, B2, B3, B4, B5, B6⟩, K0, K1, K2, K3, K4, K5, K6⟩ := X9.out
        go_wp2_with fail
        go_meet
        case rel =>
         refine ⟨rfl, ?_, O1.out.setCell _, O2.out.setCell _, O3.out.set2 O1.out _, O4.out.set2 O2.out _, hb9.setCell hbx _, by simp; omega⟩
         rw [HF2.out]
         refine ⟨⟨?_, ?_, ?_, ?_, ?_, ?_, ?_⟩, ?_, ?_, ?_, ?_, ?_, ?_, ?_⟩ <;> simp [go_sem, *]
       ·have HF2 : Hid (fr = e + 1) := by unfold Hid; rw [← HFR.out, if_neg hbe]
        go_wp2_with fail
        go_meet
        case rel => exact ⟨rfl, by rw [HF2.out]; exact X9.out, O1.out, O2.out, O3.out, O4.out, hb9, hbl⟩
      case rest =>
       obtain ⟨rfl, HXA, y1, y2, y3, y4, hbA, hblA⟩ := hcut
       have XA := Lib.hid HXA
       have Y1 := Lib.hid y1
       have Y2 := Lib.hid y2
       have Y3 := Lib.hid y3
       have Y4 := Lib.hid y4
       have IA := Lib.hid (I8.out.below hbA)
       obtain ⟨⟨B0, B1, B2, B3, B4, B5, B6⟩, K0, K1, K2, K3, K4, K5, K6⟩ := XA.out
       clear X9 O1 O2 O3 O4 hb9 HXA y1 y2 y3 y4 hwx hbl
       have T1 := Lib.hid (fun W => tline_any fr W)
       have T2 := Lib.hid (fun W => tline_any (e + 1) W)
       go_wp2_with fail
       refine (T1.out _).mono ?_
       rintro e' w10 ⟨rfl, rfl⟩
       cases hl1 : lineB fr with
       | false =>
        have H0 : Hid (formE s e b = (noSt, 9)) := formE_bad HFR.out (by rw [hl1]; rfl)
        clear hl1 B0 B1 B2 B3 B4 B5 B6 K0 K1 K2 K3 K4 K5 K6
        obtain ⟨⟨B0, B1, B2, B3, B4, B5, B6⟩, K0, K1, K2, K3, K4, K5, K6⟩ := IA.out.bx
        go_wp2
        change bodyPost _ _ _ _ _ (put7 wc (w.heap.size + 1 + 1) (.int .i64 0) (.slice none 0 0) (.int .i64 0) (.slice none 0 0) (.int .i64 0) (.int .i64 0) (.slice none 0 0))
        obtain ⟨⟨B0, B1, B2, B3, B4, B5, B6⟩, _⟩ := IA.out.bx
        obtain ⟨r0, r1, r2, r3, r4, r5, r6⟩ := put7_at (.int .i64 0) (.slice none 0 0) (.int .i64 0) (.slice none 0 0) (.int .i64 0) (.int .i64 0) (.slice none 0 0) B0 B1 B2 B3 B4 B5 B6
        have hBZ := put7_below (.int .i64 0) (.slice none 0 0) (.int .i64 0) (.slice none 0 0) (.int .i64 0) (.int .i64 0) (.slice none 0 0) IA.out.bl (b := (w.heap.size + 1 + 1)) (by omega)
        have HZ0 := Lib.hid (RdX.put7 (.int .i64 0) (.slice none 0 0) (.int .i64 0) (.slice none 0 0) (.int .i64 0) (.int .i64 0) (.slice none 0 0) (RdX.nil wc (w.heap.size + 1 + 1)))
        have HZ1 := Lib.hid (RdX.put7 (.int .i64 0) (.slice none 0 0) (.int .i64 0) (.slice none 0 0) (.int .i64 0) (.int .i64 0) (.slice none 0 0) (RdX.nil wc (w.heap.size + 1 + 1)))
        have HZ2 := Lib.hid (RdX.put7 (.int .i64 0) (.slice none 0 0) (.int .i64 0) (.slice none 0 0) (.int .i64 0) (.int .i64 0) (.slice none 0 0) (RdX.nil wc (w.heap.size + 1 + 1)))
        generalize put7 wc (w.heap.size + 1 + 1) (.int .i64 0) (.slice none 0 0) (.int .i64 0) (.slice none 0 0) (.int .i64 0) (.int .i64 0) (.slice none 0 0) = Z at *
        refine bodyPost_ret (v := .tuple #[.agg #[.int .i64 0, .slice none 0 0, .int .i64 0, .slice none 0 0, .int .i64 0, .int .i64 0, .slice none 0 0], .int .i64 9]) (by simp [results, Tryz.results84, go_sem, r0, r1, r2, r3, r4, r5, r6]) rfl ?_
        exact fo_of _ _ _ (HFo.out.trans H0.out) rfl ⟨HZ0.out.rd, HZ1.out.rd, HZ2.out.rd⟩ hBZ

       | true =>
        go_wp2_with fail
        refine (T2.out _).mono ?_
        rintro e' w10 ⟨rfl, rfl⟩
        cases hl2 : lineB (e + 1) with
        | false =>
         have H0 : Hid (formE s e b = (noSt, 9)) := formE_bad HFR.out (by rw [hl1, hl2]; rfl)
         clear hl1 hl2 B0 B1 B2 B3 B4 B5 B6 K0 K1 K2 K3 K4 K5 K6
         obtain ⟨⟨B0, B1, B2, B3, B4, B5, B6⟩, K0, K1, K2, K3, K4, K5, K6⟩ := IA.out.bx
         go_wp2
         change bodyPost _ _ _ _ _ (put7 wc (w.heap.size + 1 + 1) (.int .i64 0) (.slice none 0 0) (.int .i64 0) (.slice none 0 0) (.int .i64 0) (.int .i64 0) (.slice none 0 0))
         obtain ⟨⟨B0, B1, B2, B3, B4, B5, B6⟩, _⟩ := IA.out.bx
         obtain ⟨r0, r1, r2, r3, r4, r5, r6⟩ := put7_at (.int .i64 0) (.slice none 0 0) (.int .i64 0) (.slice none 0 0) (.int .i64 0) (.int .i64 0) (.slice none 0 0) B0 B1 B2 B3 B4 B5 B6
         have hBZ := put7_below (.int .i64 0) (.slice none 0 0) (.int .i64 0) (.slice none 0 0) (.int .i64 0) (.int .i64 0) (.slice none 0 0) IA.out.bl (b := (w.heap.size + 1 + 1)) (by omega)
         have HZ0 := Lib.hid (RdX.put7 (.int .i64 0) (.slice none 0 0) (.int .i64 0) (.slice none 0 0) (.int .i64 0) (.int .i64 0) (.slice none 0 0) (RdX.nil wc (w.heap.size + 1 + 1)))
         have HZ1 := Lib.hid (RdX.put7 (.int .i64 0) (.slice none 0 0) (.int .i64 0) (.slice none 0 0) (.int .i64 0) (.int .i64 0) (.slice none 0 0) (RdX.nil wc (w.heap.size + 1 + 1)))
         have HZ2 := Lib.hid (RdX.put7 (.int .i64 0) (.slice none 0 0) (.int .i64 0) (.slice none 0 0) (.int .i64 0) (.int .i64 0) (.slice none 0 0) (RdX.nil wc (w.heap.size + 1 + 1)))
         generalize put7 wc (w.heap.size + 1 + 1) (.int .i64 0) (.slice none 0 0) (.int .i64 0) (.slice none 0 0) (.int .i64 0) (.int .i64 0) (.slice none 0 0) = Z at *
         refine bodyPost_ret (v := .tuple #[.agg #[.int .i64 0, .slice none 0 0, .int .i64 0, .slice none 0 0, .int .i64 0, .int .i64 0, .slice none 0 0], .int .i64 9]) (by simp [results, Tryz.results84, go_sem, r0, r1, r2, r3, r4, r5, r6]) rfl ?_
         exact fo_of _ _ _ (HFo.out.trans H0.out) rfl ⟨HZ0.out.rd, HZ1.out.rd, HZ2.out.rd⟩ hBZ

        | true =>
         have H0 : Hid (formE s e b = (⟨(P, l), (Q, m), fr, e + 1, memL (hasS s) fr (e + 1)⟩, 0)) := by
          unfold Hid
          rw [formE_ok HFR.out (by rw [hl1, hl2]; rfl), HLR.out.1, HLR.out.2]
         clear hl1 hl2
         have c0 := IA.out.c0
         have c1 := IA.out.c1
         have c2 := IA.out.c2
         have c3 := IA.out.c3
         go_wp2_with fail
         obtain ⟨wD, hwD⟩ : ∃ wD, wc.alloc (.cells #[.int .i64 P, .slice a1 l.length n1, .int .i64 Q, .slice a2 m.length n2, .int .i64 f, .int .i64 t, .slice a3 k.length n3] 83) = wD := ⟨_, rfl⟩
         have hba : Below wc.heap.size wc wD := by rw [← hwD]; exact (Below.refl _ wc).alloc (Nat.le_refl _) _
         rw [hwD]
         have IB := Lib.hid (IA.out.below hba)
         have XB := Lib.hid (XA.out.below hba)
         have hsD := hba.size
         refine (C11.out _ _ _ IB.out.r1 IB.out.r2 IB.out.r3 hfr1.1 (by omega) (by omega)).mono ?_
         rintro e' w12 ⟨vM, rfl, oM, hb12⟩
         have IC := Lib.hid (IB.out.below hb12)
         have XC := Lib.hid (XB.out.below hb12)
         have Z1 := Lib.hid (((Y1.out.below hba).below hb12))
         have Z2 := Lib.hid (((Y2.out.below hba).below hb12))
         have Z3 := Lib.hid (((Y3.out.below hba).below hb12))
         have Z4 := Lib.hid (((Y4.out.below hba).below hb12))
         have hML := memL_len (hasS s) fr (e + 1)
         have M1 := Lib.hid (RdX.ownLow oM (by omega) (show bx < wD.heap.size by omega))
         have M2 := Lib.hid (RdX.ownLow oM (by omega) IB.out.ys)
         obtain ⟨aM, nM, rfl, _⟩ := oM.form
         clear hb12 hba hwD IA IB XA XB Y1 Y2 Y3 Y4 oM c0 c1 c2 c3 B0 B1 B2 B3 B4 B5 B6 K0 K1 K2 K3 K4 K5 K6 T1 T2
         have hne : bx ≠ w.heap.size + 1 + 1 := by omega
         have hne' : w.heap.size + 1 + 1 ≠ bx := by omega
         obtain ⟨⟨B0, B1, B2, B3, B4, B5, B6⟩, K0, K1, K2, K3, K4, K5, K6⟩ := XC.out
         obtain ⟨⟨D0, D1, D2, D3, D4, D5, D6⟩, E0, E1, E2, E3, E4, E5, E6⟩ := IC.out.bx
         go_wp2
         have hB := (IC.out.bl.setCell (p := ⟨bx, 6, none⟩) (show w.heap.size ≤ bx by omega) (.slice aM (memL (hasS s) fr (e + 1)).length nM))
         have V1 := Lib.hid (Z3.out.set2 Z1.out (o := 6) (.slice aM (memL (hasS s) fr (e + 1)).length nM))
         have V2 := Lib.hid (Z4.out.set2 Z2.out (o := 6) (.slice aM (memL (hasS s) fr (e + 1)).length nM))
         have V3 := Lib.hid (M2.out.set2 M1.out (o := 6) (.slice aM (memL (hasS s) fr (e + 1)).length nM))
         change bodyPost _ _ _ _ _ (put7 (w12.setCell ⟨bx, 6, none⟩ (.slice aM (memL (hasS s) fr (e + 1)).length nM)) (w.heap.size + 1 + 1) (.int .i64 P) (.slice q1 l.length n1') (.int .i64 Q) (.slice q2 m.length n2') (.int .i64 fr) (.int .i64 (e + 1)) (.slice aM (memL (hasS s) fr (e + 1)).length nM))
         obtain ⟨⟨B0, B1, B2, B3, B4, B5, B6⟩, _⟩ := IC.out.bx.far hne _
         obtain ⟨r0, r1, r2, r3, r4, r5, r6⟩ := put7_at (.int .i64 P) (.slice q1 l.length n1') (.int .i64 Q) (.slice q2 m.length n2') (.int .i64 fr) (.int .i64 (e + 1)) (.slice aM (memL (hasS s) fr (e + 1)).length nM) B0 B1 B2 B3 B4 B5 B6
         have hBZ := put7_below (.int .i64 P) (.slice q1 l.length n1') (.int .i64 Q) (.slice q2 m.length n2') (.int .i64 fr) (.int .i64 (e + 1)) (.slice aM (memL (hasS s) fr (e + 1)).length nM) hB (b := (w.heap.size + 1 + 1)) (by omega)
         have HZ0 := Lib.hid (RdX.put7 (.int .i64 P) (.slice q1 l.length n1') (.int .i64 Q) (.slice q2 m.length n2') (.int .i64 fr) (.int .i64 (e + 1)) (.slice aM (memL (hasS s) fr (e + 1)).length nM) V1.out)
         have HZ1 := Lib.hid (RdX.put7 (.int .i64 P) (.slice q1 l.length n1') (.int .i64 Q) (.slice q2 m.length n2') (.int .i64 fr) (.int .i64 (e + 1)) (.slice aM (memL (hasS s) fr (e + 1)).length nM) V2.out)
         have HZ2 := Lib.hid (RdX.put7 (.int .i64 P) (.slice q1 l.length n1') (.int .i64 Q) (.slice q2 m.length n2') (.int .i64 fr) (.int .i64 (e + 1)) (.slice aM (memL (hasS s) fr (e + 1)).length nM) V3.out)
         generalize put7 (w12.setCell ⟨bx, 6, none⟩ (.slice aM (memL (hasS s) fr (e + 1)).length nM)) (w.heap.size + 1 + 1) (.int .i64 P) (.slice q1 l.length n1') (.int .i64 Q) (.slice q2 m.length n2') (.int .i64 fr) (.int .i64 (e + 1)) (.slice aM (memL (hasS s) fr (e + 1)).length nM) = Z at *
         refine bodyPost_ret (v := .tuple #[.agg #[.int .i64 P, .slice q1 l.length n1', .int .i64 Q, .slice q2 m.length n2', .int .i64 fr, .int .i64 (e + 1), .slice aM (memL (hasS s) fr (e + 1)).length nM], .int .i64 0]) (by simp [results, Tryz.results84, go_sem, r0, r1, r2, r3, r4, r5, r6]) rfl ?_
         exact fo_of _ _ _ (HFo.out.trans H0.out) rfl ⟨HZ0.out.rd, HZ1.out.rd, HZ2.out.rd⟩ hBZ

 ·have g1 : (pm == 0) = false := by simpa using hpm
  have HN := Lib.hid hpm
  obtain ⟨⟨B0, B1, B2, B3, B4, B5, B6⟩, K0, K1, K2, K3, K4, K5, K6⟩ := I1.out.bx
  have c0 := I1.out.c0
  go_wp2
  change bodyPost _ _ _ _ _ (put7 w1 (w.heap.size + 1 + 1) (.int .i64 0) (.slice none 0 0) (.int .i64 0) (.slice none 0 0) (.int .i64 0) (.int .i64 0) (.slice none 0 0))
  obtain ⟨⟨B0, B1, B2, B3, B4, B5, B6⟩, _⟩ := I1.out.bx
  obtain ⟨r0, r1, r2, r3, r4, r5, r6⟩ := put7_at (.int .i64 0) (.slice none 0 0) (.int .i64 0) (.slice none 0 0) (.int .i64 0) (.int .i64 0) (.slice none 0 0) B0 B1 B2 B3 B4 B5 B6
  have hBZ := put7_below (.int .i64 0) (.slice none 0 0) (.int .i64 0) (.slice none 0 0) (.int .i64 0) (.int .i64 0) (.slice none 0 0) I1.out.bl (b := (w.heap.size + 1 + 1)) (by omega)
  have HZ0 := Lib.hid (RdX.put7 (.int .i64 0) (.slice none 0 0) (.int .i64 0) (.slice none 0 0) (.int .i64 0) (.int .i64 0) (.slice none 0 0) (RdX.nil w1 (w.heap.size + 1 + 1)))
  have HZ1 := Lib.hid (RdX.put7 (.int .i64 0) (.slice none 0 0) (.int .i64 0) (.slice none 0 0) (.int .i64 0) (.int .i64 0) (.slice none 0 0) (RdX.nil w1 (w.heap.size + 1 + 1)))
  have HZ2 := Lib.hid (RdX.put7 (.int .i64 0) (.slice none 0 0) (.int .i64 0) (.slice none 0 0) (.int .i64 0) (.int .i64 0) (.slice none 0 0) (RdX.nil w1 (w.heap.size + 1 + 1)))
  generalize put7 w1 (w.heap.size + 1 + 1) (.int .i64 0) (.slice none 0 0) (.int .i64 0) (.slice none 0 0) (.int .i64 0) (.int .i64 0) (.slice none 0 0) = Z at *
  refine bodyPost_ret (v := .tuple #[.agg #[.int .i64 0, .slice none 0 0, .int .i64 0, .slice none 0 0, .int .i64 0, .int .i64 0, .slice none 0 0], .int .i64 pm]) (by simp [results, Tryz.results84, go_sem, r0, r1, r2, r3, r4, r5, r6]) rfl ?_
  exact fo_of _ _ _ (form_pair HPM.out HN.out) rfl ⟨HZ0.out.rd, HZ1.out.rd, HZ2.out.rd⟩ hBZ
end Go.Proofs.YtmfdnbfjdhlonaaGreatDoor
