import Derived.Test.YtnjpceocnldlfaaGreatWkLgC
/- SetLogic: a set and an error as one value; the six equalities. -/
namespace Go.Proofs.YtnjpceocnldlfaaGreat
open Go.RowKit Wk

def TupV (r : St × Int) (u : Value) (w : World) : Prop :=
  ∃ a1 m1 a2 m2 a3 m3, u = .tuple #[.agg #[.int .i64 r.1.lf.1, .slice a1 r.1.lf.2.length m1, .int .i64 r.1.rt.1, .slice a2 r.1.rt.2.length m2, .int .i64 r.1.fr, .int .i64 r.1.to, .slice a3 r.1.l.length m3], .int .i64 r.2] ∧
    RdSt w r.1 (.slice a1 r.1.lf.2.length m1) (.slice a2 r.1.rt.2.length m2) (.slice a3 r.1.l.length m3)
theorem TupV.stp {k : Nat} {r : St × Int} {u : Value} {w w' : World} {c : Bool} (h : TupV r u w) (ho : OneB w k c) (hs : Stp k w w') : TupV r u w' := by
  obtain ⟨a1, m1, a2, m2, a3, m3, e, hr⟩ := h
  exact ⟨a1, m1, a2, m2, a3, m3, e, hs.st ho hr⟩
theorem TupV.sto {b : Nat} {r : St × Int} {u : Value} {w w' : World} (h : TupV r u w) (hs : Sto w w' b) (hp : PosSt r.1) : TupV r u w' := by
  obtain ⟨a1, m1, a2, m2, a3, m3, e, hr⟩ := h
  exact ⟨a1, m1, a2, m2, a3, m3, e, hs.st hr hp⟩

theorem gd {l : Array Bool} {i j : Nat} {b : Bool} (h : (l.setIfInBounds i true).getD j false = b) (hne : i ≠ j := by decide) : l.getD j false = b := by rwa [getD_ne hne] at h
theorem gx {l : Array Bool} {i j : Nat} {P : Prop} (f : Hid (l.getD j false = true → P)) (hne : i ≠ j := by decide) : Hid ((l.setIfInBounds i true).getD j false = true → P) := Lib.hid fun h => f.out (gd h hne)
theorem gx2 {l : Array Bool} {i j q : Nat} {b : Bool} {P : Prop} (f : Hid (l.getD j false = true → l.getD q false = b → P)) (hne : i ≠ j := by decide) (hne' : i ≠ q := by decide) : Hid ((l.setIfInBounds i true).getD j false = true → (l.setIfInBounds i true).getD q false = b → P) := Lib.hid fun h h' => f.out (gd h hne) (gd h' hne')
theorem gn {l : Array Bool} {i j q : Nat} {P : Prop} (f : Hid (l.getD j false = true → l.getD q false = true)) (hna : l.getD q false = false) (hne : i ≠ j := by decide) : Hid ((l.setIfInBounds i true).getD j false = true → P) := Lib.hid fun h => by have hq := f.out (gd h hne); rw [hna] at hq; cases hq
theorem gi {l : Array Bool} {i j q : Nat} (f : Hid (l.getD j false = true → l.getD q false = true)) (hne : i ≠ j := by decide) (hne' : i ≠ q := by decide) : Hid ((l.setIfInBounds i true).getD j false = true → (l.setIfInBounds i true).getD q false = true) := Lib.hid fun h => by rw [getD_ne hne']; exact f.out (gd h hne)
theorem go1 {l : Array Bool} {i : Nat} {A P : Prop} (hi : i < l.size) : Hid (A → (l.setIfInBounds i true).getD i false = false → P) := Lib.hid fun _ h' => by rw [getD_self hi] at h'; cases h'
theorem gs {l : Array Bool} {i j k : Nat} {S : St → Prop} {u : Value} {w w' : World} {c : Bool} (f : Hid (l.getD j false = true → SetV k S u w)) (ho : OneB w k c) (hs : Stp k w w') (hd : OkDown k w w') (hne : i ≠ j := by decide) : Hid ((l.setIfInBounds i true).getD j false = true → SetV k S u w') := Lib.hid fun h => (f.out (gd h hne)).stp ho hs hd
theorem gt {l : Array Bool} {i j k b : Nat} {S : St → Prop} {u : Value} {w w' : World} (f : Hid (l.getD j false = true → SetV k S u w)) (hs : Sto w w' b) (hk : k ≠ b) (hne : i ≠ j := by decide) : Hid ((l.setIfInBounds i true).getD j false = true → SetV k S u w') := Lib.hid fun h => (f.out (gd h hne)).sto hs hk
theorem gu {l : Array Bool} {i j k : Nat} {r : St × Int} {u : Value} {w w' : World} {c : Bool} (f : Hid (l.getD j false = true → TupV r u w)) (ho : OneB w k c) (hs : Stp k w w') (hne : i ≠ j := by decide) : Hid ((l.setIfInBounds i true).getD j false = true → TupV r u w') := Lib.hid fun h => (f.out (gd h hne)).stp ho hs
theorem gv {l : Array Bool} {i j b : Nat} {r : St × Int} {u : Value} {w w' : World} (f : Hid (l.getD j false = true → TupV r u w)) (hs : Sto w w' b) (hp : PosSt r.1) (hne : i ≠ j := by decide) : Hid ((l.setIfInBounds i true).getD j false = true → TupV r u w') := Lib.hid fun h => (f.out (gd h hne)).sto hs hp
theorem gp {l : Array Bool} {i j q k n0 : Nat} {u : Value} {w w' : World} (f : Hid (l.getD j false = true → l.getD q false = false → BoxV k n0 u w)) (hs : Stp k w w') (hne : i ≠ j := by decide) (hne' : i ≠ q := by decide) : Hid ((l.setIfInBounds i true).getD j false = true → (l.setIfInBounds i true).getD q false = false → BoxV k n0 u w') := Lib.hid fun h h' => (f.out (gd h hne) (gd h' hne')).stp hs
theorem gq {l : Array Bool} {i j q k n0 b : Nat} {u : Value} {w w' : World} (f : Hid (l.getD j false = true → l.getD q false = false → BoxV k n0 u w)) (hs : Sto w w' b) (hu : l.getD j false = true → u ≠ .pointer (some ⟨b, 0, none⟩)) (hne : i ≠ j := by decide) (hne' : i ≠ q := by decide) : Hid ((l.setIfInBounds i true).getD j false = true → (l.setIfInBounds i true).getD q false = false → BoxV k n0 u w') := Lib.hid fun h h' => (f.out (gd h hne) (gd h' hne')).sto hs (hu (gd h hne))
theorem gy {l : Array Bool} {i j k n0 : Nat} {S : St → Prop} {u : Value} {w w' : World} {c : Bool} (f : Hid (l.getD j false = true → StoV k n0 S u w)) (ho : OneB w k c) (hs : Stp k w w') (hd : OkDown k w w') (hne : i ≠ j := by decide) : Hid ((l.setIfInBounds i true).getD j false = true → StoV k n0 S u w') := Lib.hid fun h => (f.out (gd h hne)).stp ho hs hd
theorem gz {l : Array Bool} {i j q k n0 b : Nat} {S : St → Prop} {u : Value} {w w' : World} (f : Hid (l.getD j false = true → StoV k n0 S u w)) (hs : Sto w w' b) (hk : k ≠ b) (hu : l.getD q false = true → u ≠ .pointer (some ⟨b, 0, none⟩)) (fi : Hid (l.getD j false = true → l.getD q false = true)) (hne : i ≠ j := by decide) : Hid ((l.setIfInBounds i true).getD j false = true → StoV k n0 S u w') := Lib.hid fun h => (f.out (gd h hne)).sto hs hk (hu (fi.out (gd h hne)))

theorem lg_ext {s t : St} (hs : VB s = true) (ht : VB t = true) (h : ∀ x, hasS s x = hasS t x) : eqTB s t = true := by
  have ho := okS_of_VB ht
  rw [VB_uniq hs ht h]
  unfold eqTB peB
  rw [ht, ho.lf, ho.rt]
  simp
theorem lg_h0 {a b c : St} (h : combM 0 a b = (c, 0)) : VB c = true ∧ ∀ x, hasS c x = (hasS a x || hasS b x) := ⟨(comb_has h).2.2.1, fun x => (comb_has h).2.2.2 x⟩
theorem lg_h1 {a b c : St} (h : combM 1 a b = (c, 0)) : VB c = true ∧ ∀ x, hasS c x = (hasS a x && hasS b x) := ⟨(comb_has h).2.2.1, fun x => (comb_has h).2.2.2 x⟩
theorem lg_h2 {a b c : St} (h : combM 2 a b = (c, 0)) : VB c = true ∧ ∀ x, hasS c x = (hasS a x && !hasS b x) := ⟨(comb_has h).2.2.1, fun x => (comb_has h).2.2.2 x⟩
theorem lg_hn {a c : St} (h : setNot a = (c, 0)) : VB c = true ∧ ∀ x, hasS c x = !hasS a x := ⟨not_VB h, (not_has h).2.2⟩
theorem lg_va {k : Int} {a b c : St} (h : combM k a b = (c, 0)) : VB a = true := (comb_has h).1

theorem lg_eq1 {a b x y : St} (hx : ∃ T1, (∃ A B, A = a ∧ B = b ∧ combM 0 A B = (T1, 0)) ∧ setNot T1 = (x, 0))
    (hy : ∃ T1 T2, (∃ A, A = a ∧ setNot A = (T1, 0)) ∧ (∃ B, B = b ∧ setNot B = (T2, 0)) ∧ combM 1 T1 T2 = (y, 0)) : eqTB x y = true := by
  obtain ⟨p, ⟨_, _, rfl, rfl, h1⟩, h2⟩ := hx
  obtain ⟨q, r, ⟨_, rfl, h3⟩, ⟨_, rfl, h4⟩, h5⟩ := hy
  have g1 := lg_h0 h1
  have g2 := lg_hn h2
  have g3 := lg_hn h3
  have g4 := lg_hn h4
  have g5 := lg_h1 h5
  exact lg_ext g2.1 g5.1 fun z => by rw [g2.2, g1.2, g5.2, g3.2, g4.2, Bool.not_or]
theorem lg_eq2 {a b c x y : St} (hx : ∃ T1 T2, T1 = a ∧ (∃ A B, A = b ∧ B = c ∧ combM 0 A B = (T2, 0)) ∧ combM 1 T1 T2 = (x, 0))
    (hy : ∃ T1 T2, (∃ A B, A = a ∧ B = b ∧ combM 1 A B = (T1, 0)) ∧ (∃ A B, A = a ∧ B = c ∧ combM 1 A B = (T2, 0)) ∧ combM 0 T1 T2 = (y, 0)) : eqTB x y = true := by
  obtain ⟨_, p, rfl, ⟨_, _, rfl, rfl, h1⟩, h2⟩ := hx
  obtain ⟨q, r, ⟨_, _, rfl, rfl, h3⟩, ⟨_, _, rfl, rfl, h4⟩, h5⟩ := hy
  have g1 := lg_h0 h1
  have g2 := lg_h1 h2
  have g3 := lg_h1 h3
  have g4 := lg_h1 h4
  have g5 := lg_h0 h5
  exact lg_ext g2.1 g5.1 fun z => by rw [g2.2, g1.2, g5.2, g3.2, g4.2, Bool.and_or_distrib_left]
theorem lg_eq3 {a b x y : St} (hx : combM 2 a b = (x, 0)) (hy : ∃ T1 T2, T1 = a ∧ (∃ B, B = b ∧ setNot B = (T2, 0)) ∧ combM 1 T1 T2 = (y, 0)) : eqTB x y = true := by
  obtain ⟨_, r, rfl, ⟨_, rfl, h4⟩, h5⟩ := hy
  have g2 := lg_h2 hx
  have g4 := lg_hn h4
  have g5 := lg_h1 h5
  exact lg_ext g2.1 g5.1 fun z => by rw [g2.2, g5.2, g4.2]
theorem lg_eq4 {a x : St} (hx : ∃ T1, (∃ A, A = a ∧ setNot A = (T1, 0)) ∧ setNot T1 = (x, 0)) : eqTB x a = true := by
  obtain ⟨r, ⟨_, rfl, h4⟩, h5⟩ := hx
  have g4 := lg_hn h4
  have g5 := lg_hn h5
  exact lg_ext g5.1 (not_has h4).1 fun z => by rw [g5.2, g4.2, Bool.not_not]
theorem lg_eq5 {a b x y : St} (hx : ∃ A B, A = a ∧ B = b ∧ combM 0 A B = (x, 0)) (hy : ∃ A B, A = b ∧ B = a ∧ combM 0 A B = (y, 0)) : eqTB x y = true := by
  obtain ⟨_, _, rfl, rfl, h1⟩ := hx
  obtain ⟨_, _, rfl, rfl, h2⟩ := hy
  have g1 := lg_h0 h1
  have g2 := lg_h0 h2
  exact lg_ext g1.1 g2.1 fun z => by rw [g1.2, g2.2, Bool.or_comm]
theorem lg_b (p q : Bool) : (p && q || p && !q) = p := by cases p <;> cases q <;> rfl
theorem lg_eq6 {a b x : St} (hx : ∃ T1 T2, (∃ A B, A = a ∧ B = b ∧ combM 1 A B = (T1, 0)) ∧ combM 2 a b = (T2, 0) ∧ combM 0 T1 T2 = (x, 0)) : eqTB x a = true := by
  obtain ⟨q, r, ⟨_, _, rfl, rfl, h3⟩, h4, h5⟩ := hx
  have g3 := lg_h1 h3
  have g4 := lg_h2 h4
  have g5 := lg_h0 h5
  exact lg_ext g5.1 (lg_va h3) fun z => by
    rw [g5.2, g3.2, g4.2]
    exact lg_b _ _
end Go.Proofs.YtnjpceocnldlfaaGreat
