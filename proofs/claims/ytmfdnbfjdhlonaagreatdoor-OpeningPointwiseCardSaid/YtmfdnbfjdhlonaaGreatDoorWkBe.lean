import Derived.Test.YtmfdnbfjdhlonaaGreatDoorWkBd
import Derived.Deep.RegionWith
/- timeset: pure. -/
namespace Go.Proofs.YtmfdnbfjdhlonaaGreatDoor
open Go.RowKit Wk

def PuPost (P : Int) (v : Value) (l : List Sp) (w : World) (e : Ending) (w' : World) : Prop :=
 ∃ vr, e = .returned (.agg #[.int .i64 P, v, .int .i64 P, vr, .int .i64 0, .int .i64 0, .slice none 0 0]) ∧ OwnS w' w.heap.size vr l ∧ Below w.heap.size w w'

def put7 (W : World) (b : Nat) (u0 u1 u2 u3 u4 u5 u6 : Value) : World := (((((((W.setCell ⟨b, 0, none⟩ u0).setCell ⟨b, 1, none⟩ u1).setCell ⟨b, 2, none⟩ u2).setCell ⟨b, 3, none⟩ u3).setCell ⟨b, 4, none⟩ u4).setCell ⟨b, 5, none⟩ u5).setCell ⟨b, 6, none⟩ u6)
theorem put7_at {W : World} {b : Nat} (u0 u1 u2 u3 u4 u5 u6 : Value) {x0 x1 x2 x3 x4 x5 x6 : Value} (h0 : W.cell? ⟨b, 0, none⟩ = some x0) (h1 : W.cell? ⟨b, 1, none⟩ = some x1) (h2 : W.cell? ⟨b, 2, none⟩ = some x2) (h3 : W.cell? ⟨b, 3, none⟩ = some x3) (h4 : W.cell? ⟨b, 4, none⟩ = some x4) (h5 : W.cell? ⟨b, 5, none⟩ = some x5) (h6 : W.cell? ⟨b, 6, none⟩ = some x6) :
  (put7 W b u0 u1 u2 u3 u4 u5 u6).cell? ⟨b, 0, none⟩ = some u0 ∧ (put7 W b u0 u1 u2 u3 u4 u5 u6).cell? ⟨b, 1, none⟩ = some u1 ∧ (put7 W b u0 u1 u2 u3 u4 u5 u6).cell? ⟨b, 2, none⟩ = some u2 ∧ (put7 W b u0 u1 u2 u3 u4 u5 u6).cell? ⟨b, 3, none⟩ = some u3 ∧ (put7 W b u0 u1 u2 u3 u4 u5 u6).cell? ⟨b, 4, none⟩ = some u4 ∧ (put7 W b u0 u1 u2 u3 u4 u5 u6).cell? ⟨b, 5, none⟩ = some u5 ∧ (put7 W b u0 u1 u2 u3 u4 u5 u6).cell? ⟨b, 6, none⟩ = some u6 := by
 refine ⟨?_, ?_, ?_, ?_, ?_, ?_, ?_⟩ <;> simp [put7, go_sem, h0, h1, h2, h3, h4, h5, h6]
theorem put7_below {B : Nat} {w W : World} {b : Nat} (u0 u1 u2 u3 u4 u5 u6 : Value) (h : Below B w W) (hb : B ≤ b) : Below B w (put7 W b u0 u1 u2 u3 u4 u5 u6) := by
 unfold put7
 exact ((((((h.setCell (p := ⟨b, 0, none⟩) hb _).setCell (p := ⟨b, 1, none⟩) hb _).setCell (p := ⟨b, 2, none⟩) hb _).setCell (p := ⟨b, 3, none⟩) hb _).setCell (p := ⟨b, 4, none⟩) hb _).setCell (p := ⟨b, 5, none⟩) hb _).setCell (p := ⟨b, 6, none⟩) hb _
theorem put7_own {B : Nat} {W : World} {b : Nat} {v : Value} {l : List Sp} (u0 u1 u2 u3 u4 u5 u6 : Value) (h : OwnS W B v l) (hb : b < B) : OwnS (put7 W b u0 u1 u2 u3 u4 u5 u6) B v l := by
 unfold put7
 exact ((((((h.setCell hb _).setCell hb _).setCell hb _).setCell hb _).setCell hb _).setCell hb _).setCell hb _

set_option maxHeartbeats 1000000 in
theorem pure_any (P : Int) (v : Value) (l : List Sp) (w : World) (h : RdS w v l) :
  Calls Tryz.prog 125 #[.agg #[.int .i64 P, v]] w (PuPost P v l w) := by
 have HD := Lib.hid h
 obtain ⟨a, c, rfl⟩ := h.form
 have hlen : l.length ≤ 8796093022208 := by obtain ⟨_, _, _, h1, _⟩ := h; exact h1
 obtain ⟨W, hWe⟩ : ∃ W, (w.alloc (.cells #[.int .i64 P, .slice a l.length c] 29)).alloc (.cells #[.int .i64 0, .slice none 0 0, .int .i64 0, .slice none 0 0, .int .i64 0, .int .i64 0, .slice none 0 0] 31) = W := ⟨_, rfl⟩
 have hB0 : Below w.heap.size w W := by rw [← hWe]; exact ((Below.refl _ w).alloc (Nat.le_refl _) _).alloc (by simp) _
 have hsz : W.heap.size = w.heap.size + 1 + 1 := by rw [← hWe]; simp
 have HA : Hid (∀ X, Below W.heap.size W X → X.cell? ⟨w.heap.size, 0, none⟩ = some (.int .i64 P) ∧ X.cell? ⟨w.heap.size, 1, none⟩ = some (.slice a l.length c) ∧
   X.cell? ⟨w.heap.size + 1, 0, none⟩ = some (.int .i64 0) ∧ X.frozen? ⟨w.heap.size + 1, 0, none⟩ = false ∧
   X.cell? ⟨w.heap.size + 1, 1, none⟩ = some (.slice none 0 0) ∧ X.frozen? ⟨w.heap.size + 1, 1, none⟩ = false ∧
   X.cell? ⟨w.heap.size + 1, 2, none⟩ = some (.int .i64 0) ∧ X.frozen? ⟨w.heap.size + 1, 2, none⟩ = false ∧
   X.cell? ⟨w.heap.size + 1, 3, none⟩ = some (.slice none 0 0) ∧ X.frozen? ⟨w.heap.size + 1, 3, none⟩ = false ∧
   X.cell? ⟨w.heap.size + 1, 4, none⟩ = some (.int .i64 0) ∧ X.frozen? ⟨w.heap.size + 1, 4, none⟩ = false ∧
   X.cell? ⟨w.heap.size + 1, 5, none⟩ = some (.int .i64 0) ∧ X.frozen? ⟨w.heap.size + 1, 5, none⟩ = false ∧
   X.cell? ⟨w.heap.size + 1, 6, none⟩ = some (.slice none 0 0) ∧ X.frozen? ⟨w.heap.size + 1, 6, none⟩ = false) := by
  intro X hX
  have hx : ∀ o, X.cell? ⟨w.heap.size + 1, o, none⟩ = W.cell? ⟨w.heap.size + 1, o, none⟩ := fun o => hX.cell (p := ⟨w.heap.size + 1, o, none⟩) (by show w.heap.size + 1 < W.heap.size; omega)
  have hf : ∀ o, X.frozen? ⟨w.heap.size + 1, o, none⟩ = W.frozen? ⟨w.heap.size + 1, o, none⟩ := fun o => hX.frozen (p := ⟨w.heap.size + 1, o, none⟩) (by show w.heap.size + 1 < W.heap.size; omega)
  have hy : ∀ o, X.cell? ⟨w.heap.size, o, none⟩ = W.cell? ⟨w.heap.size, o, none⟩ := fun o => hX.cell (p := ⟨w.heap.size, o, none⟩) (by show w.heap.size < W.heap.size; omega)
  simp only [hx, hf, hy]
  rw [← hWe]
  refine ⟨?_, ?_, ?_, ?_, ?_, ?_, ?_, ?_, ?_, ?_, ?_, ?_, ?_, ?_, ?_, ?_⟩ <;> simp [go_sem]
 have H1 := Lib.hid (fun W h => copy_any P (.slice a l.length c) l W h)
 have HR1 := Lib.hid (keepRd hB0 h)
 have HE := Lib.hid hWe
 clear hWe h
 go_enter Tryz.func125, Tryz.ntmps125
 go_wp2_with fail
 rw [HE.out]
 go_wp2_with fail
 have hbd : Below W.heap.size W W.drew := (Below.refl _ _).drew
 obtain ⟨A0, A1, _⟩ := HA.out W (Below.refl _ _)
 go_region_with (first
   | (go_at_call 126; refine (H1.out _ (keepRd hbd HR1.out)).mono ?_; rintro e w1 ⟨v1, rfl, ho, hb1⟩; have hbX := keepBelow hbd hb1; obtain ⟨B0, B1, C0, K0, C1, K1, C2, K2, C3, K3, C4, K4, C5, K5, C6, K6⟩ := HA.out _ hbX; obtain ⟨a1, cc1, rfl, _⟩ := ho.form; have HO := Lib.hid ho; clear ho))
 all_goals go_wp2
 all_goals
  have hsd : W.drew.heap.size = W.heap.size := rfl
  change bodyPost _ _ _ _ _ (put7 w1 (w.heap.size + 1) (.int .i64 P) (.slice a l.length c) (.int .i64 P) (.slice a1 l.length cc1) (.int .i64 0) (.int .i64 0) (.slice none 0 0))
  obtain ⟨r0, r1, r2, r3, r4, r5, r6⟩ := put7_at (.int .i64 P) (.slice a l.length c) (.int .i64 P) (.slice a1 l.length cc1) (.int .i64 0) (.int .i64 0) (.slice none 0 0) C0 C1 C2 C3 C4 C5 C6
  have hBZ := put7_below (.int .i64 P) (.slice a l.length c) (.int .i64 P) (.slice a1 l.length cc1) (.int .i64 0) (.int .i64 0) (.slice none 0 0) (keepBelow hB0 hbX) (b := w.heap.size + 1) (by omega)
  have hOZ := put7_own (.int .i64 P) (.slice a l.length c) (.int .i64 P) (.slice a1 l.length cc1) (.int .i64 0) (.int .i64 0) (.slice none 0 0) HO.out (b := w.heap.size + 1) (by omega)
  generalize put7 w1 (w.heap.size + 1) (.int .i64 P) (.slice a l.length c) (.int .i64 P) (.slice a1 l.length cc1) (.int .i64 0) (.int .i64 0) (.slice none 0 0) = Z at *
  refine bodyPost_ret (v := .agg #[.int .i64 P, .slice a l.length c, .int .i64 P, .slice a1 l.length cc1, .int .i64 0, .int .i64 0, .slice none 0 0]) (by simp [results, Tryz.results125, go_sem, r0, r1, r2, r3, r4, r5, r6]) rfl ?_
  exact ⟨_, rfl, hOZ.mono (by omega), hBZ⟩
end Go.Proofs.YtmfdnbfjdhlonaaGreatDoor
namespace Go.Proofs.YtmfdnbfjdhlonaaGreatDoor
open Go.RowKit Wk

def MePost (h : Int → Bool) (f t : Int) (w : World) (e : Ending) (w' : World) : Prop :=
 ∃ v, e = .returned (.tuple #[v, .bool (decide ((memF h f (t - f).toNat).length ≤ 2000))]) ∧ OwnS w' w.heap.size v (memL h f t) ∧ Below w.heap.size w w'

def yOf (t : Int) (r : Option Int) : Int := match r with | none => t | some y => if t < y then t else y
theorem yOf_none (t : Int) : yOf t none = t := rfl
theorem yOf_some (t y : Int) : yOf t (some y) = if t < y then t else y := rfl
theorem yOf_bd {h : Int → Bool} {x t : Int} {r : Option Int} (hn : NextC h x r) (hx : x < t) : x < yOf t r ∧ yOf t r ≤ t := by
 cases r with
 | none => exact ⟨hx, Int.le_refl _⟩
 | some y =>
  have := hn.1
  rw [yOf_some]
  by_cases h1 : t < y
  ·rw [if_pos h1]; omega
  ·rw [if_neg h1]; omega
theorem yOf_edge {h : Int → Bool} {x t : Int} {r : Option Int} (hn : NextC h x r) (hx : yOf t r < t) : h (yOf t r - 1) ≠ h (yOf t r) := by
 cases r with
 | none => rw [yOf_none] at hx; omega
 | some y =>
  rw [yOf_some] at hx ⊢
  by_cases h1 : t < y
  ·rw [if_pos h1] at hx; omega
  ·rw [if_neg h1]; exact hn.2.1
theorem yOf_const {h : Int → Bool} {x t z : Int} {r : Option Int} (hn : NextC h x r) (h1 : x ≤ z) (h2 : z < yOf t r) : h z = h x := by
 refine const_next hn h1 (fun k hk => ?_)
 subst hk
 rw [yOf_some] at h2
 by_cases h3 : t < k
 ·rw [if_pos h3] at h2; omega
 ·rw [if_neg h3] at h2; exact h2

theorem mem_no_last {h : Int → Bool} {f x : Int} (hfx : f ≤ x) (he : x = f ∨ h (x - 1) ≠ h x) (hx : h x = true) : ∀ s, (memF h f (x - f).toNat).getLast? = some s → s.2 ≠ f + ((x - f).toNat : Int) := by
 intro s hs
 rcases he with rfl | he
 ·rw [show (x - x).toNat = 0 by omega] at hs
  simp [memF] at hs
 ·intro e
  have := (memF_last h f _ s hs).2 e
  rw [show f + ((x - f).toNat : Int) - 1 = x - 1 by omega] at this
  rw [this, hx] at he
  exact he rfl
theorem mem_app {h : Int → Bool} {f x y : Int} (hfx : f ≤ x) (hxy : x < y) (he : x = f ∨ h (x - 1) ≠ h x) (hc : ∀ z, x ≤ z → z < y → h z = h x) (hx : h x = true) :
  memF h f (y - f).toNat = memF h f (x - f).toNat ++ [(x, y)] := by
 have := memF_on h f (x - f).toNat (mem_no_last hfx he hx) (y - x - 1).toNat (fun z h1 h2 => by rw [hc z (by omega) (by omega)]; exact hx)
 rw [show (x - f).toNat + ((y - x - 1).toNat + 1) = (y - f).toNat by omega] at this
 rw [this]
 congr 2
 rw [Prod.mk.injEq]
 constructor <;> omega
theorem mem_skip {h : Int → Bool} {f x y : Int} (hfx : f ≤ x) (hxy : x < y) (hc : ∀ z, x ≤ z → z < y → h z = h x) (hx : h x = false) :
  memF h f (y - f).toNat = memF h f (x - f).toNat := by
 have := memF_off h f (x - f).toNat (y - x).toNat (fun z h1 h2 => by rw [hc z (by omega) (by omega)]; exact hx)
 rwa [show (x - f).toNat + (y - x).toNat = (y - f).toNat by omega] at this
theorem mem_len_le {h : Int → Bool} {f x t : Int} (hfx : f ≤ x) (hxt : x ≤ t) : (memF h f (x - f).toNat).length ≤ (memF h f (t - f).toNat).length := by
 have := memF_mono h f (x - f).toNat (t - x).toNat
 rwa [show (x - f).toNat + (t - x).toNat = (t - f).toNat by omega] at this

set_option maxRecDepth 100000 in
set_option maxHeartbeats 4000000 in
theorem members_any (T : TypeId) (v : Value) (h : Int → Bool) (kh ka : FuncId) (f t : Int) (w : World) (hA : SrcA T v w h kh ka) (hft : f ≤ t)
  (h1 : -1152921504606846976 ≤ f) (h2 : t ≤ 1152921504606846976) :
  Calls Tryz.prog 127 #[.iface T v, .int .i64 f, .int .i64 t] w (MePost h f t w) := by
 have q1 := hA.hm
 have q2 := hA.am
 have q5 := hA.hf
 have q6 := hA.af
 have H1 := Lib.hid hA.hc
 have H2 := Lib.hid hA.ac
 clear hA
 go_enter Tryz.func127, Tryz.ntmps127
 go_wp2_with fail
 go_loopw [8, 9] (fun u x wr => ∃ (y : Int), x = .int .i64 y ∧ f ≤ y ∧ y ≤ t ∧ Hid (y = f ∨ y = t ∨ h (y - 1) ≠ h y) ∧ (memF h f (y - f).toNat).length ≤ 2000 ∧ OwnS wr w.heap.size u (memF h f (y - f).toNat) ∧ Below w.heap.size w wr) (fun _ x _ => (t - intOf x).toNat)
 case atStart => exact ⟨f, rfl, by omega, hft, .inl rfl, by simp [memF], by rw [show (f - f).toNat = 0 by omega]; exact OwnS.nil _ _, Below.refl _ _⟩
 case round =>
  obtain ⟨y, rfl, hy1, hy2, HE, hln, ho, hW⟩ := hrel
  by_cases hlt : y < t
  ·have HE' : Hid (y = f ∨ h (y - 1) ≠ h y) := by
    rcases HE.out with e | e | e
    ·exact .inl e
    ·omega
    ·exact .inr e
   go_wp2_with fail
   refine (H2.out _ y hW (by omega) (by omega)).mono ?_
   rintro e w1 ⟨r, hr, rfl, hb1⟩
   have hW1 := keepBelow hW hb1
   have ho1 := ho.below hb1
   have HR := Lib.hid hr
   obtain ⟨L, hL⟩ : ∃ L, memF h f (y - f).toNat = L := ⟨_, rfl⟩
   rw [hL] at ho1 hln
   obtain ⟨y1, hy1e⟩ : ∃ y1, yOf t r = y1 := ⟨_, rfl⟩
   have hyb := yOf_bd hr hlt
   rw [hy1e] at hyb
   have HL := Lib.hid hL
   have HY := Lib.hid hy1e
   have HC : Hid (∀ z, y ≤ z → z < y1 → h z = h y) := fun z z1 z2 => yOf_const HR.out z1 (by rw [HY.out]; exact z2)
   have HN : Hid (y1 = f ∨ y1 = t ∨ h (y1 - 1) ≠ h y1) := by
    rcases Int.lt_or_eq_of_le hyb.2 with e | e
    ·have := yOf_edge HR.out (by rw [HY.out]; exact e)
     rw [HY.out] at this
     exact .inr (.inr this)
    ·exact .inr (.inl e)
   obtain ⟨a, c, rfl, _⟩ := ho1.form
   clear hb1 ho hr hL hy1e
   have H1h : Hid (∀ W, Below w.heap.size w W → Calls Tryz.prog kh #[v, .int .i64 y] W fun e w' => e = .returned (.bool (h y)) ∧ Below W.heap.size W w') := fun W hb => H1.out W y hb (by omega) (by omega)
   cases hh : h y with
   | false =>
    have HS : Hid (memF h f (y1 - f).toNat = L) := by unfold Hid; rw [mem_skip hy1 hyb.1 HC.out hh, HL.out]
    rw [hh] at H1h
    cases r with
    | none =>
     have hyt : y1 = t := by rw [← HY.out, yOf_none]
     subst hyt
     go_wp2_with fail
     refine (H1h.out _ hW1).mono ?_
     rintro e w2 ⟨rfl, hb2⟩
     have hW2 := keepBelow hW1 hb2
     have ho2 := ho1.below hb2
     have hsz2 := hW2.size
     clear hb2 ho1
     go_wp2
     go_roundw
     case rel => exact ⟨_, rfl, by omega, by omega, (by first | exact HN | exact .inr (.inl rfl)), by rw [HS.out]; exact hln, by rw [HS.out]; exact ho2, hW2⟩
     case measure => simp [intOf]; omega
    | some k =>
     by_cases hk : t < k
     ·have hyt : y1 = t := by rw [← HY.out, yOf_some, if_pos hk]
      have g2 : decide (t < k) = true := by simpa using hk
      subst hyt
      go_wp2_with fail
      refine (H1h.out _ hW1).mono ?_
      rintro e w2 ⟨rfl, hb2⟩
      have hW2 := keepBelow hW1 hb2
      have ho2 := ho1.below hb2
      have hsz2 := hW2.size
      clear hb2 ho1
      go_wp2
      go_roundw
      case rel => exact ⟨_, rfl, by omega, by omega, (by first | exact HN | exact .inr (.inl rfl)), by rw [HS.out]; exact hln, by rw [HS.out]; exact ho2, hW2⟩
      case measure => simp [intOf]; omega
     ·have hyt : y1 = k := by rw [← HY.out, yOf_some, if_neg hk]
      have g2 : decide (t < k) = false := by simpa using hk
      subst hyt
      go_wp2_with fail
      refine (H1h.out _ hW1).mono ?_
      rintro e w2 ⟨rfl, hb2⟩
      have hW2 := keepBelow hW1 hb2
      have ho2 := ho1.below hb2
      have hsz2 := hW2.size
      clear hb2 ho1
      go_wp2
      go_roundw
      case rel => exact ⟨_, rfl, by omega, by omega, (by first | exact HN | exact .inr (.inl rfl)), by rw [HS.out]; exact hln, by rw [HS.out]; exact ho2, hW2⟩
      case measure => simp [intOf]; omega
   | true =>
    have HS : Hid (memF h f (y1 - f).toNat = L ++ [(y, y1)]) := by unfold Hid; rw [mem_app hy1 hyb.1 HE'.out HC.out hh, HL.out]
    rw [hh] at H1h
    by_cases hfull : L.length = 2000
    ·have g1 : ((L.length : Int) == 2000) = true := by simp; omega
     have HD : Hid (¬ (memF h f (t - f).toNat).length ≤ 2000) := by
      unfold Hid
      have := mem_len_le (h := h) (f := f) (x := y1) (t := t) (by omega) hyb.2
      rw [HS.out] at this
      simp at this
      omega
     cases r with
     | none =>
      have hyt : y1 = t := by rw [← HY.out, yOf_none]
      subst hyt
      go_wp2_with fail
      refine (H1h.out _ hW1).mono ?_
      rintro e w2 ⟨rfl, hb2⟩
      have hW2 := keepBelow hW1 hb2
      have ho2 := ho1.below hb2
      have hsz2 := hW2.size
      clear hb2 ho1
      go_wp2
      go_ret2
      exact ⟨.slice none 0 0, by rw [decide_eq_false HD.out]; rfl, by unfold memL; rw [if_neg HD.out]; exact OwnS.nil _ _, hW2⟩
     | some k =>
      by_cases hk : t < k
      ·have hyt : y1 = t := by rw [← HY.out, yOf_some, if_pos hk]
       have g2 : decide (t < k) = true := by simpa using hk
       subst hyt
       go_wp2_with fail
       refine (H1h.out _ hW1).mono ?_
       rintro e w2 ⟨rfl, hb2⟩
       have hW2 := keepBelow hW1 hb2
       have ho2 := ho1.below hb2
       have hsz2 := hW2.size
       clear hb2 ho1
       go_wp2
       go_ret2
       exact ⟨.slice none 0 0, by rw [decide_eq_false HD.out]; rfl, by unfold memL; rw [if_neg HD.out]; exact OwnS.nil _ _, hW2⟩
      ·have hyt : y1 = k := by rw [← HY.out, yOf_some, if_neg hk]
       have g2 : decide (t < k) = false := by simpa using hk
       subst hyt
       go_wp2_with fail
       refine (H1h.out _ hW1).mono ?_
       rintro e w2 ⟨rfl, hb2⟩
       have hW2 := keepBelow hW1 hb2
       have ho2 := ho1.below hb2
       have hsz2 := hW2.size
       clear hb2 ho1
       go_wp2
       go_ret2
       exact ⟨.slice none 0 0, by rw [decide_eq_false HD.out]; rfl, by unfold memL; rw [if_neg HD.out]; exact OwnS.nil _ _, hW2⟩
    ·have g1 : ((L.length : Int) == 2000) = false := by simp; omega
     cases r with
     | none =>
      have hyt : y1 = t := by rw [← HY.out, yOf_none]
      subst hyt
      go_wp2_with fail
      refine (H1h.out _ hW1).mono ?_
      rintro e w2 ⟨rfl, hb2⟩
      have hW2 := keepBelow hW1 hb2
      have ho2 := ho1.below hb2
      have hsz2 := hW2.size
      clear hb2 ho1
      go_wp2_with (at_builtin; refine wpList_app_span rfl (.tmp 36) (.tmp 40) rfl rfl ho2 hW2 rfl rfl (by omega) ?_; intro v1 w3 o1 b1 k1 z1; clear k1)
      go_roundw
      case rel => exact ⟨_, rfl, by omega, by omega, (by first | exact HN | exact .inr (.inl rfl)), by rw [HS.out]; simp; omega, by rw [HS.out]; exact o1, b1⟩
      case measure => simp [intOf]; omega
     | some k =>
      by_cases hk : t < k
      ·have hyt : y1 = t := by rw [← HY.out, yOf_some, if_pos hk]
       have g2 : decide (t < k) = true := by simpa using hk
       subst hyt
       go_wp2_with fail
       refine (H1h.out _ hW1).mono ?_
       rintro e w2 ⟨rfl, hb2⟩
       have hW2 := keepBelow hW1 hb2
       have ho2 := ho1.below hb2
       have hsz2 := hW2.size
       clear hb2 ho1
       go_wp2_with (at_builtin; refine wpList_app_span rfl (.tmp 36) (.tmp 40) rfl rfl ho2 hW2 rfl rfl (by omega) ?_; intro v1 w3 o1 b1 k1 z1; clear k1)
       go_roundw
       case rel => exact ⟨_, rfl, by omega, by omega, (by first | exact HN | exact .inr (.inl rfl)), by rw [HS.out]; simp; omega, by rw [HS.out]; exact o1, b1⟩
       case measure => simp [intOf]; omega
      ·have hyt : y1 = k := by rw [← HY.out, yOf_some, if_neg hk]
       have g2 : decide (t < k) = false := by simpa using hk
       subst hyt
       go_wp2_with fail
       refine (H1h.out _ hW1).mono ?_
       rintro e w2 ⟨rfl, hb2⟩
       have hW2 := keepBelow hW1 hb2
       have ho2 := ho1.below hb2
       have hsz2 := hW2.size
       clear hb2 ho1
       go_wp2_with (at_builtin; refine wpList_app_span rfl (.tmp 36) (.tmp 40) rfl rfl ho2 hW2 rfl rfl (by omega) ?_; intro v1 w3 o1 b1 k1 z1; clear k1)
       go_roundw
       case rel => exact ⟨_, rfl, by omega, by omega, (by first | exact HN | exact .inr (.inl rfl)), by rw [HS.out]; simp; omega, by rw [HS.out]; exact o1, b1⟩
       case measure => simp [intOf]; omega
  ·obtain rfl : y = t := by omega
   have hd : decide ((memF h f (y - f).toNat).length ≤ 2000) = true := by simpa using hln
   obtain ⟨a, c, rfl, _⟩ := ho.form
   go_wp2
   go_ret2
   exact ⟨.slice a (memF h f (y - f).toNat).length c, by rw [hd]; rfl, by unfold memL; rw [if_pos hln]; exact ho, hW⟩
end Go.Proofs.YtmfdnbfjdhlonaaGreatDoor
namespace Go.Proofs.YtmfdnbfjdhlonaaGreatDoor
open Go.RowKit Wk

theorem tline_any (x : Int) (w : World) :
  Calls Tryz.prog 120 #[.int .i64 x] w fun e w' => e = .returned (.bool (lineB x)) ∧ w = w' := by
 go_enter Tryz.func120, Tryz.ntmps120
 go_wp2
 all_goals go_ret
 all_goals exact ⟨ret_bool (by unfold lineB; simp_all; try omega), rfl⟩

set_option maxHeartbeats 2000000 in
theorem given_any (s : St) (vl vr vv : Value) (w : World) (h : RdSt w s vl vr vv) :
  Calls Tryz.prog 83 #[.agg #[.int .i64 s.lf.1, vl], .agg #[.int .i64 s.rt.1, vr], .int .i64 s.fr, .int .i64 s.to, vv] w fun e w' => e = .returned (.bool (givenB s)) ∧ Below w.heap.size w w' := by
 obtain ⟨⟨P, l⟩, ⟨Q, m⟩, f, t, k⟩ := s
 obtain ⟨h1, h2, h3⟩ := h
 simp only at h1 h2 h3 ⊢
 have HG : Hid (givenB ⟨(P, l), (Q, m), f, t, k⟩ = (pvB P l && pvB Q m && decide (f ≤ t) && lineB f && lineB t && rvB k && (decide (k = []) || (decide (f ≤ (k.getD 0 (0, 0)).1) && decide ((k.getD (k.length - 1) (0, 0)).2 ≤ t))))) := rfl
 have H1 := Lib.hid (fun W h => pvalid_any P vl l W h)
 have H2 := Lib.hid (fun W h => pvalid_any Q vr m W h)
 have H3 := Lib.hid (fun W => tline_any f W)
 have H4 := Lib.hid (fun W => tline_any t W)
 have H5 := Lib.hid (fun W h => rvalid_any vv k W h)
 generalize pvB P l = p1 at *
 generalize pvB Q m = p2 at *
 generalize lineB f = q1 at *
 generalize lineB t = q2 at *
 generalize rvB k = r at *
 obtain ⟨a1, n1, rfl⟩ := h1.form
 obtain ⟨a2, n2, rfl⟩ := h2.form
 obtain ⟨W, hWe⟩ : ∃ W, (w.alloc (.cells #[.int .i64 P, .slice a1 l.length n1] 29)).alloc (.cells #[.int .i64 Q, .slice a2 m.length n2] 29) = W := ⟨_, rfl⟩
 have hW : Below w.heap.size w W := by rw [← hWe]; exact ((Below.refl _ w).alloc (Nat.le_refl _) _).alloc (by simp) _
 have c0 : W.cell? ⟨w.heap.size, 0, none⟩ = some (.int .i64 P) := by rw [← hWe]; simp [go_sem]
 have c1 : W.cell? ⟨w.heap.size, 1, none⟩ = some (.slice a1 l.length n1) := by rw [← hWe]; simp [go_sem]
 have c2 : W.cell? ⟨w.heap.size + 1, 0, none⟩ = some (.int .i64 Q) := by rw [← hWe]; simp [go_sem]
 have c3 : W.cell? ⟨w.heap.size + 1, 1, none⟩ = some (.slice a2 m.length n2) := by rw [← hWe]; simp [go_sem]
 have R1 := Lib.hid (keepRd hW h1)
 have R2 := Lib.hid (keepRd hW h2)
 have R3 := Lib.hid (keepRd hW h3)
 have HE := Lib.hid hWe
 clear hWe h1 h2
 obtain ⟨a3, n3, rfl, hl3, hc3⟩ := h3
 have HC := Lib.hid hc3
 clear hc3
 go_enter Tryz.func83, Tryz.ntmps83
 go_wp2_with fail
 rw [HE.out]
 refine (H1.out _ R1.out).mono ?_
 rintro e w1 ⟨rfl, hb1⟩
 have d2 := keepCell hb1 c2
 have d3 := keepCell hb1 c3
 have hB1 := keepBelow hW hb1
 have S2 := Lib.hid (keepRd hb1 R2.out)
 have S3 := Lib.hid (keepRd hb1 R3.out)
 clear hb1
 cases p1 with
 | false =>
  go_wp2
  go_ret
  exact ⟨ret_bool (by rw [HG.out]; rfl), hB1⟩
 | true =>
 go_wp2_with fail
 refine (H2.out _ S2.out).mono ?_
 rintro e w2 ⟨rfl, hb2⟩
 have hB2 := keepBelow hB1 hb2
 have T3 := Lib.hid (keepRd hb2 S3.out)
 clear hb2 d2 d3 c0 c1 c2 c3
 cases p2 with
 | false =>
  go_wp2
  go_ret
  exact ⟨ret_bool (by rw [HG.out]; rfl), hB2⟩
 | true =>
 cases hft : decide (f ≤ t) with
 | false =>
  have HF := Lib.hid hft
  go_wp2
  go_ret
  exact ⟨ret_bool (by rw [HG.out, HF.out]; rfl), hB2⟩
 | true =>
 have HF := Lib.hid hft
 go_wp2_with fail
 refine (H3.out _).mono ?_
 rintro e w3 ⟨rfl, rfl⟩
 cases q1 with
 | false =>
  go_wp2
  go_ret
  exact ⟨ret_bool (by rw [HG.out, HF.out]; rfl), hB2⟩
 | true =>
 go_wp2_with fail
 refine (H4.out _).mono ?_
 rintro e w3 ⟨rfl, rfl⟩
 cases q2 with
 | false =>
  go_wp2
  go_ret
  exact ⟨ret_bool (by rw [HG.out, HF.out]; rfl), hB2⟩
 | true =>
 go_wp2_with fail
 refine (H5.out _ T3.out).mono ?_
 rintro e w3 ⟨rfl, hb3⟩
 have hB3 := keepBelow hB2 hb3
 clear hb3
 cases r with
 | false =>
  go_wp2
  go_ret
  exact ⟨ret_bool (by rw [HG.out, HF.out]; rfl), hB3⟩
 | true =>
 by_cases h0 : 0 < k.length
 ·obtain ⟨b, o, rfl, hbw, e1, e2, e3⟩ := rd_ends HC.out h0
  have f1 := (hB3.cell (p := ⟨b, o, none⟩) hbw).trans e1
  have f3 := (hB3.cell (p := ⟨b, o + (k.length - 1) * 2 + 1, none⟩) hbw).trans e3
  have g0 : (((k.length : Int)) == 0) = false := by simp; intro e; simp [e] at h0
  have gx : IntKind.i64.wrap ((k.length : Int) - 1) = (k.length : Int) - 1 := by rw [IntKind.wrap_i64]; omega
  have gn : ((k.length : Int) - 1).toNat = k.length - 1 := by omega
  have HK : Hid (decide (k = []) = false) := by
   unfold Hid
   rw [decide_eq_false_iff_not]
   intro e
   rw [e] at h0
   simp at h0
  have HX : Hid ((k.getD 0 (0, 0)).1 = firstFr k ∧ (k.getD (k.length - 1) (0, 0)).2 = lastTo k) := ⟨rfl, rfl⟩
  clear e1 e2 e3
  cases hu : decide (f ≤ firstFr k) with
  | false =>
   have HU := Lib.hid hu
   go_wp2
   go_ret
   exact ⟨ret_bool (by rw [HG.out, HF.out, HK.out, HX.out.1, HU.out]; rfl), hB3⟩
  | true =>
   have HU := Lib.hid hu
   cases hv : decide (lastTo k ≤ t) with
   | false =>
    have HV := Lib.hid hv
    go_wp2
    go_ret
    exact ⟨ret_bool (by rw [HG.out, HF.out, HK.out, HX.out.1, HX.out.2, HU.out, HV.out]; rfl), hB3⟩
   | true =>
    have HV := Lib.hid hv
    go_wp2
    go_ret
    exact ⟨ret_bool (by rw [HG.out, HF.out, HK.out, HX.out.1, HX.out.2, HU.out, HV.out]; rfl), hB3⟩
 ·obtain rfl : k = [] := List.eq_nil_of_length_eq_zero (by omega)
  go_wp2
  go_ret
  exact ⟨ret_bool (by rw [HG.out, HF.out]; rfl), hB3⟩
end Go.Proofs.YtmfdnbfjdhlonaaGreatDoor
