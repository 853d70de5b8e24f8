import Derived.Test.YtnjpceocnldlfaaGreatWkLgB
import Derived.Test.YtnjpceocnldlfaaGreatWkInv
/- SetLogic: what a slot of a drawn region holds, and what keeps it. -/
namespace Go.Proofs.YtnjpceocnldlfaaGreat
open Go.RowKit Wk

def okw (k : Nat) (w : World) : Prop := w.cell? ⟨k, 0, none⟩ = some (.bool true)
def SetV (k : Nat) (S : St → Prop) (u : Value) (w : World) : Prop :=
  ∃ T a1 m1 a2 m2 a3 m3, u = .agg #[.int .i64 T.lf.1, .slice a1 T.lf.2.length m1, .int .i64 T.rt.1, .slice a2 T.rt.2.length m2, .int .i64 T.fr, .int .i64 T.to, .slice a3 T.l.length m3] ∧
    RdSt w T (.slice a1 T.lf.2.length m1) (.slice a2 T.rt.2.length m2) (.slice a3 T.l.length m3) ∧ PosSt T ∧ (okw k w → S T)
def BoxV (k n0 : Nat) (u : Value) (w : World) : Prop := ∃ b, u = .pointer (some ⟨b, 0, none⟩) ∧ n0 ≤ b ∧ b ≠ k ∧ ZB w b
def StoV (k n0 : Nat) (S : St → Prop) (u : Value) (w : World) : Prop :=
  ∃ b T a1 m1 a2 m2 a3 m3, u = .pointer (some ⟨b, 0, none⟩) ∧ n0 ≤ b ∧ b ≠ k ∧
    Set7 w b (.int .i64 T.lf.1) (.slice a1 T.lf.2.length m1) (.int .i64 T.rt.1) (.slice a2 T.rt.2.length m2) (.int .i64 T.fr) (.int .i64 T.to) (.slice a3 T.l.length m3) ∧
    RdSt w T (.slice a1 T.lf.2.length m1) (.slice a2 T.rt.2.length m2) (.slice a3 T.l.length m3) ∧ PosSt T ∧ (okw k w → S T)
def OkDown (k : Nat) (w w' : World) : Prop := okw k w' → okw k w
theorem SetV.stp {k : Nat} {S : St → Prop} {u : Value} {w w' : World} {c : Bool} (h : SetV k S u w) (ho : OneB w k c) (hs : Stp k w w') (hd : OkDown k w w') : SetV k S u w' := by
  obtain ⟨T, a1, m1, a2, m2, a3, m3, e, hr, hp, hS⟩ := h
  exact ⟨T, a1, m1, a2, m2, a3, m3, e, hs.st ho hr, hp, fun hk => hS (hd hk)⟩
theorem BoxV.stp {k n0 : Nat} {u : Value} {w w' : World} (h : BoxV k n0 u w) (hs : Stp k w w') : BoxV k n0 u w' := by
  obtain ⟨b, e, h1, h2, h3⟩ := h
  exact ⟨b, e, h1, h2, hs.zb h2 h3⟩
theorem StoV.stp {k n0 : Nat} {S : St → Prop} {u : Value} {w w' : World} {c : Bool} (h : StoV k n0 S u w) (ho : OneB w k c) (hs : Stp k w w') (hd : OkDown k w w') : StoV k n0 S u w' := by
  obtain ⟨b, T, a1, m1, a2, m2, a3, m3, e, h1, h2, h3, hr, hp, hS⟩ := h
  exact ⟨b, T, a1, m1, a2, m2, a3, m3, e, h1, h2, hs.set7 h2 h3, hs.st ho hr, hp, fun hk => hS (hd hk)⟩
structure Sto (w w' : World) (b : Nat) : Prop where
  zb : ZB w b
  ex : ∃ u0 u1 u2 u3 u4 u5 u6, w' = put7 w b u0 u1 u2 u3 u4 u5 u6
theorem Sto.cell {w w' : World} {b : Nat} (h : Sto w w' b) {c o : Nat} (hc : c ≠ b) : w'.cell? ⟨c, o, none⟩ = w.cell? ⟨c, o, none⟩ := by
  obtain ⟨u0, u1, u2, u3, u4, u5, u6, rfl⟩ := h.ex
  have _ := hc
  simp [put7, go_sem]
theorem Sto.frozen {w w' : World} {b : Nat} (h : Sto w w' b) {c o : Nat} (hc : c ≠ b) : w'.frozen? ⟨c, o, none⟩ = w.frozen? ⟨c, o, none⟩ := by
  obtain ⟨u0, u1, u2, u3, u4, u5, u6, rfl⟩ := h.ex
  have _ := hc
  simp [put7, go_sem]
theorem Sto.set7 {w w' : World} {b c : Nat} {x0 x1 x2 x3 x4 x5 x6 : Value} (h : Sto w w' b) (hc : c ≠ b) (hs : Set7 w c x0 x1 x2 x3 x4 x5 x6) : Set7 w' c x0 x1 x2 x3 x4 x5 x6 := by
  obtain ⟨⟨c0, c1, c2, c3, c4, c5, c6⟩, f0, f1, f2, f3, f4, f5, f6⟩ := hs
  exact ⟨⟨(h.cell hc).trans c0, (h.cell hc).trans c1, (h.cell hc).trans c2, (h.cell hc).trans c3, (h.cell hc).trans c4, (h.cell hc).trans c5, (h.cell hc).trans c6⟩,
    (h.frozen hc).trans f0, (h.frozen hc).trans f1, (h.frozen hc).trans f2, (h.frozen hc).trans f3, (h.frozen hc).trans f4, (h.frozen hc).trans f5, (h.frozen hc).trans f6⟩
theorem Sto.zb' {w w' : World} {b c : Nat} (h : Sto w w' b) (hc : c ≠ b) (hs : ZB w c) : ZB w' c :=
  ⟨h.set7 hc hs.1, fun o x y h1 h2 => by rw [h.cell hc] at h1 h2; exact hs.2 o x y h1 h2⟩
theorem Sto.rd {w w' : World} {b : Nat} {v : Value} {l : List Sp} (h : Sto w w' b) (hr : RdS w v l) (hp : ∀ s ∈ l, s.1 < s.2) : RdS w' v l := by
  obtain ⟨u0, u1, u2, u3, u4, u5, u6, rfl⟩ := h.ex
  exact ((RdX.zero hr hp h.zb.2).put7 _ _ _ _ _ _ _).1
theorem Sto.okw {w w' : World} {b k : Nat} (h : Sto w w' b) (hk : k ≠ b) : okw k w' → okw k w := fun hh => by
  unfold Go.Proofs.YtnjpceocnldlfaaGreat.okw at *
  rwa [h.cell hk] at hh
theorem Sto.st {w w' : World} {b : Nat} {s : St} {vl vr vv : Value} (h : Sto w w' b) (hr : RdSt w s vl vr vv) (hp : PosSt s) : RdSt w' s vl vr vv := ⟨h.rd hr.1 hp.1, h.rd hr.2.1 hp.2.1, h.rd hr.2.2 hp.2.2⟩
theorem SetV.sto {k b : Nat} {S : St → Prop} {u : Value} {w w' : World} (h : SetV k S u w) (hs : Sto w w' b) (hk : k ≠ b) : SetV k S u w' := by
  obtain ⟨T, a1, m1, a2, m2, a3, m3, e, hr, hp, hS⟩ := h
  exact ⟨T, a1, m1, a2, m2, a3, m3, e, hs.st hr hp, hp, fun ho => hS (hs.okw hk ho)⟩
theorem BoxV.sto {k n0 b : Nat} {u : Value} {w w' : World} (h : BoxV k n0 u w) (hs : Sto w w' b) (hu : u ≠ .pointer (some ⟨b, 0, none⟩)) : BoxV k n0 u w' := by
  obtain ⟨d, e, h1, h2, h3⟩ := h
  have hd : d ≠ b := fun q => hu (by rw [e, q])
  exact ⟨d, e, h1, h2, hs.zb' hd h3⟩
theorem StoV.sto {k n0 b : Nat} {S : St → Prop} {u : Value} {w w' : World} (h : StoV k n0 S u w) (hs : Sto w w' b) (hk : k ≠ b) (hu : u ≠ .pointer (some ⟨b, 0, none⟩)) : StoV k n0 S u w' := by
  obtain ⟨d, T, a1, m1, a2, m2, a3, m3, e, h1, h2, h3, hr, hp, hS⟩ := h
  have hd : d ≠ b := fun q => hu (by rw [e, q])
  exact ⟨d, T, a1, m1, a2, m2, a3, m3, e, h1, h2, hs.set7 hd h3, hs.st hr hp, hp, fun ho => hS (hs.okw hk ho)⟩
theorem BoxV.put {k n0 : Nat} {S : St → Prop} {u v : Value} {w : World} (h : BoxV k n0 u w) (hv : SetV k S v w) :
    ∃ (b : Nat) (T : St) (a1 : Option Addr) (m1 : Nat) (a2 : Option Addr) (m2 : Nat) (a3 : Option Addr) (m3 : Nat), u = .pointer (some ⟨b, 0, none⟩) ∧ n0 ≤ b ∧ b ≠ k ∧ v = .agg #[.int .i64 T.lf.1, .slice a1 T.lf.2.length m1, .int .i64 T.rt.1, .slice a2 T.rt.2.length m2, .int .i64 T.fr, .int .i64 T.to, .slice a3 T.l.length m3] ∧ ZB w b ∧
      Sto w (put7 w b (.int .i64 T.lf.1) (.slice a1 T.lf.2.length m1) (.int .i64 T.rt.1) (.slice a2 T.rt.2.length m2) (.int .i64 T.fr) (.int .i64 T.to) (.slice a3 T.l.length m3)) b ∧
      StoV k n0 S u (put7 w b (.int .i64 T.lf.1) (.slice a1 T.lf.2.length m1) (.int .i64 T.rt.1) (.slice a2 T.rt.2.length m2) (.int .i64 T.fr) (.int .i64 T.to) (.slice a3 T.l.length m3)) := by
  obtain ⟨b, e, h1, h2, h3⟩ := h
  obtain ⟨T, a1, m1, a2, m2, a3, m3, e', hr, hp, hS⟩ := hv
  have hs : Sto w (put7 w b (.int .i64 T.lf.1) (.slice a1 T.lf.2.length m1) (.int .i64 T.rt.1) (.slice a2 T.rt.2.length m2) (.int .i64 T.fr) (.int .i64 T.to) (.slice a3 T.l.length m3)) b := ⟨h3, _, _, _, _, _, _, _, rfl⟩
  exact ⟨b, T, a1, m1, a2, m2, a3, m3, e, h1, h2, e', h3, hs, b, T, a1, m1, a2, m2, a3, m3, e, h1, h2, set7_put h3.1 _ _ _ _ _ _ _, hs.st hr hp, hp, fun ho => hS (hs.okw (fun q => h2 q.symm) ho)⟩
theorem down_call {k : Nat} {w w' : World} {c : Bool} {E : Int} (hO : OneB w k c) (h9 : OneB w' k (c && (E == 0))) (hk : okw k w') : okw k w ∧ E = 0 := by
  unfold okw at *
  rw [h9.1] at hk
  injection hk with hk
  injection hk with hk
  rw [Bool.and_eq_true, beq_iff_eq] at hk
  exact ⟨by rw [hO.1, hk.1], hk.2⟩
def ordB (ops : Array Oper) : Bool := (List.range ops.size).all fun j => match ops[j]? with | some o => o.after.all (fun e => decide (e.on < j)) | none => true
theorem all_listed {md : Region.Mode} {ops : Array Oper} {listed : Array Bool} (hsz : listed.size = ops.size) (hord : ordB ops = true) (hr : Region.ready md ops listed = []) : ∀ j, j < ops.size → listed.getD j false = true := by
  intro j
  induction j using Nat.strongRecOn with
  | _ j ih =>
    intro hj
    cases hl : listed.getD j false with
    | true => rfl
    | false =>
      exfalso
      have hlj : listed[j]? = some false := by
        rw [Array.getD_eq_getD_getElem?, Array.getElem?_eq_getElem (by omega)] at hl
        rw [Array.getElem?_eq_getElem (by omega)]
        simp at hl
        rw [hl]
      have hm : j ∈ Region.ready md ops listed := by
        refine mem_ready.2 ⟨by rw [Array.getD_eq_getD_getElem?, hlj]; rfl, ops[j], Array.getElem?_eq_getElem hj, fun e he _ => ?_⟩
        have ho := List.all_eq_true.1 hord j (List.mem_range.2 hj)
        rw [Array.getElem?_eq_getElem hj] at ho
        simp only [Array.all_eq_true_iff_forall_mem] at ho
        have hlt : e.on < j := of_decide_eq_true (ho e he)
        exact ih e.on hlt (by omega)
      rw [hr] at hm
      cases hm
theorem getD_self {l : Array Bool} {i : Nat} (h : i < l.size) : (l.setIfInBounds i true).getD i false = true := by
  rw [Array.getD_eq_getD_getElem?, Array.getElem?_setIfInBounds_self_of_lt h]; rfl
theorem getD_ne {l : Array Bool} {i j : Nat} (h : i ≠ j) : (l.setIfInBounds i true).getD j false = l.getD j false := by
  rw [Array.getD_eq_getD_getElem?, Array.getD_eq_getD_getElem?, Array.getElem?_setIfInBounds_ne h]
end Go.Proofs.YtnjpceocnldlfaaGreat
