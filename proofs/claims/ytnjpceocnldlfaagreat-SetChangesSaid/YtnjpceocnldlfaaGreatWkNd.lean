import Derived.Test.YtnjpceocnldlfaaGreatWkPu
import Derived.Test.YtnjpceocnldlfaaGreatWkBf
import Derived.Test.YtnjpceocnldlfaaGreatWkNc
import Derived.Test.YtnjpceocnldlfaaGreatWkNb
import Derived.Test.YtnjpceocnldlfaaGreatWkNa
import Derived.Test.YtnjpceocnldlfaaGreatWkRfC
import Derived.Test.YtnjpceocnldlfaaGreatWkRfX
/- What Not and Move of sets share. -/
namespace Go.Proofs.YtnjpceocnldlfaaGreat
open Go.RowKit Wk

/-- a world without the blocks from n on -/
def cutAt (W : World) (n : Nat) : World := { W with heap := W.heap.extract 0 n }
theorem cutAt_size {W : World} {n : Nat} (h : n ≤ W.heap.size) : (cutAt W n).heap.size = n := by
  show (W.heap.extract 0 n).size = n
  simp; omega
theorem cutAt_below {W : World} {n : Nat} (h : n ≤ W.heap.size) : Below n (cutAt W n) W :=
  ⟨rfl, rfl, rfl, by rw [cutAt_size h]; exact h, fun k hk => by
    show W.heap[k]? = (W.heap.extract 0 n)[k]?
    rw [Array.getElem?_extract]
    simp; omega⟩
theorem cutAt_back {W X : World} {n : Nat} (h : n ≤ W.heap.size) (hb : Below n (cutAt W n) X) (hs : W.heap.size ≤ X.heap.size) : Below n W X :=
  ⟨hb.os, hb.tape, hb.output, hs, fun k hk => (hb.block k hk).trans ((cutAt_below h).block k hk).symm⟩
/-- an append to a list of the call's own, past block n -/
theorem wpList_app_in {ops : Array Oper} {rest : List Oper} {o : Oper} {a : Act} {Q : Exit → Act → World → Prop} {W : World} {v : Value} {L : List Sp} {z1 z2 : Int} {m : Nat} (hgd : o.guard = none) (s x : Operand)
    (ho : o.op = .call { callee := .builtin .append, args := #[s, x], argTypes := #[22, 22] }) (hs : a.eval s = v) (hown : OwnS W m v L) (hm : m ≤ W.heap.size)
    {n : Nat} (hx : a.eval x = .slice (some ⟨n, 0, none⟩) 1 1) (hn : n = W.heap.size) (hlen : L.length < 1000000000000)
    (h : ∀ v' w', OwnS w' m v' (L ++ [(z1, z2)]) → Below m W w' → wpList Tryz.prog ops Q rest (a.put o.dst v') w') :
    wpList Tryz.prog ops Q (o :: rest) a (W.alloc (.cells #[.int .i64 z1, .int .i64 z2] 40)) := by
  have hz := cutAt_size hm
  refine wpList_app_span (w0 := cutAt W m) hgd s x ho hs (by rw [hz]; exact hown) (by rw [hz]; exact cutAt_below hm) hx hn hlen ?_
  intro v' w' o1 b1 _ z1
  rw [hz] at o1 b1
  exact h v' w' o1 (cutAt_back hm b1 z1)
theorem set7_keep {W X : World} {b n : Nat} {u0 u1 u2 u3 u4 u5 u6 : Value} (h : Set7 W b u0 u1 u2 u3 u4 u5 u6) (hb : b < n) (hX : Below n W X) : Set7 X b u0 u1 u2 u3 u4 u5 u6 := by
  obtain ⟨⟨c0, c1, c2, c3, c4, c5, c6⟩, f0, f1, f2, f3, f4, f5, f6⟩ := h
  have hc : ∀ o, X.cell? ⟨b, o, none⟩ = W.cell? ⟨b, o, none⟩ := fun o => hX.cell (p := ⟨b, o, none⟩) hb
  have hf : ∀ o, X.frozen? ⟨b, o, none⟩ = W.frozen? ⟨b, o, none⟩ := fun o => hX.frozen (p := ⟨b, o, none⟩) hb
  unfold Set7
  rw [hc, hc, hc, hc, hc, hc, hc, hf, hf, hf, hf, hf, hf, hf]
  exact ⟨⟨c0, c1, c2, c3, c4, c5, c6⟩, f0, f1, f2, f3, f4, f5, f6⟩
theorem set7_last {W : World} {b : Nat} {u0 u1 u2 u3 u4 u5 u6 : Value} (h : Set7 W b u0 u1 u2 u3 u4 u5 u6) (u : Value) : Set7 (W.setCell ⟨b, 6, none⟩ u) b u0 u1 u2 u3 u4 u5 u := by
  obtain ⟨⟨c0, c1, c2, c3, c4, c5, c6⟩, f0, f1, f2, f3, f4, f5, f6⟩ := h
  refine ⟨⟨?_, ?_, ?_, ?_, ?_, ?_, ?_⟩, ?_, ?_, ?_, ?_, ?_, ?_, ?_⟩ <;> simp [go_sem, *]

/-- what stands in memory while Not or Move runs -/
structure NtIn (w : World) (a : St) (al ar av : Value) (X : World) : Prop where
  xa : Set7 X w.heap.size (.int .i64 a.lf.1) al (.int .i64 a.rt.1) ar (.int .i64 a.fr) (.int .i64 a.to) av
  xz : Set7 X (w.heap.size + 1) (.int .i64 0) (.slice none 0 0) (.int .i64 0) (.slice none 0 0) (.int .i64 0) (.int .i64 0) (.slice none 0 0)
  zz : Zero7 X (w.heap.size + 1)
  ra : RdSt X a al ar av
  be : Below w.heap.size w X
theorem NtIn.below {w X Y : World} {a : St} {al ar av : Value} (h : NtIn w a al ar av X) (hb : Below X.heap.size X Y) : NtIn w a al ar av Y :=
  ⟨h.xa.below hb, h.xz.below hb, h.zz.below (World.block_lt_of_cell? X ⟨w.heap.size + 1, 0, none⟩ h.xz.1.1) hb, keepSt hb h.ra, keepBelow h.be hb⟩
theorem PrPost.pq {r : Per × Int} {w w' : World} {e : Ending} (hl : r.1.2.length ≤ 2000) (h : PrPost r w e w') : PqPost r w e w' := by
  obtain ⟨v, rfl, o, b⟩ := h
  exact ⟨v, rfl, o.rd (by omega), b⟩
theorem tNotPer (P : Int) (v : Value) (l : List Sp) (w : World) (h : RdS w v l) : Calls Tryz.prog 99 #[.agg #[.int .i64 P, v]] w (PqPost (perNot (P, l)) w) := (pnot_any P v l w h).mono fun _ _ h => h.pq perNot_len
theorem tMovePer (P k : Int) (v : Value) (l : List Sp) (w : World) (h : RdS w v l) : Calls Tryz.prog 107 #[.agg #[.int .i64 P, v], .int .i64 k] w (PqPost (perMove k (P, l)) w) := (pmove_any P k v l w h).mono fun _ _ h => h.pq perMove_len
theorem rNotPer (P : Int) (v : Value) (l : List Sp) (w : World) (h : RdS w v l) : Calls Tryz.prog 105 #[.agg #[.int .i64 P, v]] w (PqPost (perNot (P, l)) w) := (not13_any P v l w h).mono fun _ _ h => h.pq perNot_len
theorem rMovePer (P k : Int) (v : Value) (l : List Sp) (w : World) (h : RdS w v l) : Calls Tryz.prog 109 #[.agg #[.int .i64 P, v], .int .i64 k] w (PqPost (perMove k (P, l)) w) := move13_any P k v l w h
end Go.Proofs.YtnjpceocnldlfaaGreat
/- The reference's pure. -/
namespace Go.Proofs.YtnjpceocnldlfaaGreat
open Go.RowKit Wk

theorem step_app_in {ops : Array Oper} {o : Oper} {a : Act} {K : Act → World → Prop} {Q : Exit → Act → World → Prop} {E : Prop} {W : World} {v : Value} {L : List Sp} {z1 z2 : Int} {m : Nat} (hgd : o.guard = none) (s x : Operand)
    (ho : o.op = .call { callee := .builtin .append, args := #[s, x], argTypes := #[22, 22] }) (hs : a.eval s = v) (hown : OwnS W m v L) (hm : m ≤ W.heap.size)
    {n : Nat} (hx : a.eval x = .slice (some ⟨n, 0, none⟩) 1 1) (hn : n = W.heap.size) (hlen : L.length < 1000000000000)
    (h : ∀ v' w', OwnS w' m v' (L ++ [(z1, z2)]) → Below m (cutAt W m) w' → K (a.put o.dst v') w') :
    if Region.wanted o (yielded ops a.tmps) = true then Oper.wp Tryz.prog o a (W.alloc (.cells #[.int .i64 z1, .int .i64 z2] 40)) K Q else E := by
  have hz := cutAt_size hm
  refine step_app_span (w0 := cutAt W m) hgd s x ho hs (by rw [hz]; exact hown) (by rw [hz]; exact cutAt_below hm) hx hn hlen ?_
  intro v' w' o1 b1
  rw [hz] at o1 b1
  exact h v' w' o1 b1
/-- what is left of Below when a world was cut -/
theorem cut_set7 {W X : World} {b n : Nat} {u0 u1 u2 u3 u4 u5 u6 : Value} (h : Set7 W b u0 u1 u2 u3 u4 u5 u6) (hb : b < n) (hn : n ≤ W.heap.size) (hX : Below n (cutAt W n) X) : Set7 X b u0 u1 u2 u3 u4 u5 u6 := by
  obtain ⟨⟨c0, c1, c2, c3, c4, c5, c6⟩, f0, f1, f2, f3, f4, f5, f6⟩ := h
  have hc : ∀ o, X.cell? ⟨b, o, none⟩ = W.cell? ⟨b, o, none⟩ := fun o => (hX.cell (p := ⟨b, o, none⟩) hb).trans ((cutAt_below hn).cell (p := ⟨b, o, none⟩) hb).symm
  have hf : ∀ o, X.frozen? ⟨b, o, none⟩ = W.frozen? ⟨b, o, none⟩ := fun o => (hX.frozen (p := ⟨b, o, none⟩) hb).trans ((cutAt_below hn).frozen (p := ⟨b, o, none⟩) hb).symm
  unfold Set7
  rw [hc, hc, hc, hc, hc, hc, hc, hf, hf, hf, hf, hf, hf, hf]
  exact ⟨⟨c0, c1, c2, c3, c4, c5, c6⟩, f0, f1, f2, f3, f4, f5, f6⟩
theorem cut_below {w W X : World} {k n : Nat} (h : Below k w W) (hk : k ≤ n) (hn : n ≤ W.heap.size) (hw : w.heap.size ≤ n) (hX : Below n (cutAt W n) X) : Below k w X :=
  ⟨hX.os.trans h.os, hX.tape.trans h.tape, hX.output.trans h.output, by have := hX.size; rw [cutAt_size hn] at this; omega, fun j hj => ((hX.block j (by omega)).trans ((cutAt_below hn).block j (by omega)).symm).trans (h.block j hj)⟩

set_option maxRecDepth 100000 in
set_option maxHeartbeats 1000000 in
theorem rpure14_any (s : St) (vl vr vv : Value) (w : World) (h : RdSt w s vl vr vv) (hp1 : pvB s.lf.1 s.lf.2 = true) (hp2 : pvB s.rt.1 s.rt.2 = true) :
    Calls Tryz.prog 110 #[.agg #[.int .i64 s.lf.1, vl, .int .i64 s.rt.1, vr, .int .i64 s.fr, .int .i64 s.to, vv]] w fun e w' => e = .returned (.bool (pureB s)) ∧ Below w.heap.size w w' := by
  obtain ⟨⟨P, l⟩, ⟨Q, m⟩, f, t, k⟩ := s
  simp only at h hp1 hp2 ⊢
  have HPP : Hid (∀ W, RdS W vl l → RdS W vr m → Calls Tryz.prog 68 #[.agg #[.int .i64 P, vl], .agg #[.int .i64 Q, vr]] W fun e w' => e = .returned (.bool (peB P l Q m)) ∧ Below W.heap.size W w') := fun W h h' => by
    have := equal13_any P Q vl vr l m W h h'
    have e : ((P == Q) && decide (l = m)) = peB P l Q m := by unfold peB; rw [hp1, hp2]; rfl
    rwa [e] at this
  have HP := HPP
  clear HPP hp1 hp2
  have HR0 := Lib.hid h
  have HPU : Hid (pureB ⟨(P, l), (Q, m), f, t, k⟩ = ((decide (f = 0) && decide (t = 0)) && peB P l Q m)) := rfl
  generalize pureB ⟨(P, l), (Q, m), f, t, k⟩ = pb at *
  obtain ⟨pe, hpe⟩ : ∃ pe, peB P l Q m = pe := ⟨_, rfl⟩
  rw [hpe] at HP HPU
  clear hpe
  obtain ⟨a1, n1, rfl⟩ := h.1.form
  obtain ⟨a2, n2, rfl⟩ := h.2.1.form
  obtain ⟨a3, n3, rfl⟩ := h.2.2.form
  simp only at HR0 ⊢
  clear h
  obtain ⟨W, hWe⟩ : ∃ W, w.alloc (.cells #[.int .i64 P, .slice a1 l.length n1, .int .i64 Q, .slice a2 m.length n2, .int .i64 f, .int .i64 t, .slice a3 k.length n3] 26) = W := ⟨_, rfl⟩
  have hW : Below w.heap.size w W := by rw [← hWe]; exact (Below.refl _ w).alloc (Nat.le_refl _) _
  have HX : Hid (Set7 W w.heap.size (.int .i64 P) (.slice a1 l.length n1) (.int .i64 Q) (.slice a2 m.length n2) (.int .i64 f) (.int .i64 t) (.slice a3 k.length n3)) := by
    rw [← hWe]
    refine ⟨⟨?_, ?_, ?_, ?_, ?_, ?_, ?_⟩, ?_, ?_, ?_, ?_, ?_, ?_, ?_⟩ <;> simp [go_sem]
  have HR := Lib.hid (keepSt hW HR0.out)
  have HE := Lib.hid hWe
  clear hWe
  obtain ⟨⟨B0, B1, B2, B3, B4, B5, B6⟩, _⟩ := HX.out
  by_cases h1 : f = 0
  · subst h1
    by_cases h2 : t = 0
    · subst h2
      go_enter Tryz.func110, Tryz.ntmps110
      go_wp2_with fail
      rw [HE.out]
      go_wp2_with fail
      refine (HP.out _ HR.out.1 HR.out.2.1).mono ?_
      rintro e w1 ⟨rfl, hb1⟩
      go_wp2
      go_ret
      exact ⟨ret_bool (by rw [HPU.out]; simp), keepBelow hW hb1⟩
    · have t1 : (t == 0) = false := by simpa using h2
      have HQ : Hid (pb = false) := by unfold Hid; rw [HPU.out, decide_eq_false h2]; simp
      clear h2
      go_enter Tryz.func110, Tryz.ntmps110
      go_wp2_with fail
      rw [HE.out]
      go_wp2
      go_ret
      exact ⟨ret_bool HQ.out.symm, hW⟩
  · have t1 : (f == 0) = false := by simpa using h1
    have HQ : Hid (pb = false) := by unfold Hid; rw [HPU.out, decide_eq_false h1]; simp
    clear h1
    go_enter Tryz.func110, Tryz.ntmps110
    go_wp2_with fail
    rw [HE.out]
    go_wp2
    go_ret
    exact ⟨ret_bool HQ.out.symm, hW⟩
end Go.Proofs.YtnjpceocnldlfaaGreat
