import Derived.Test.YtkfonfheakpcbaaGreatWkPure
/- timeset.members. -/
namespace Go.Proofs.YtkfonfheakpcbaaGreat
open Go.RowKit Wk

def MePost (h : Int → Bool) (f t : Int) (w : World) (e : Ending) (w' : World) : Prop :=
  ∃ v, e = .returned (.tuple #[v, .bool (decide ((memF h f (t - f).toNat).length ≤ 2000))]) ∧ OwnS w' w.heap.size v (memL h f t) ∧ Below w.heap.size w w'

/-- where a stretch ends that begins at x -/
def yOf (t : Int) (r : Option Int) : Int := match r with | none => t | some y => if t < y then t else y
theorem yOf_none (t : Int) : yOf t none = t := rfl
theorem yOf_some (t y : Int) : yOf t (some y) = if t < y then t else y := rfl
theorem yOf_bd {h : Int → Bool} {x t : Int} {r : Option Int} (hn : NextC h x r) (hx : x < t) : x < yOf t r ∧ yOf t r ≤ t := by
  cases r with
  | none => exact ⟨hx, Int.le_refl _⟩
  | some y =>
    have := hn.1
    rw [yOf_some]
    by_cases h1 : t < y
    · rw [if_pos h1]; omega
    · rw [if_neg h1]; omega
theorem yOf_edge {h : Int → Bool} {x t : Int} {r : Option Int} (hn : NextC h x r) (hx : yOf t r < t) : h (yOf t r - 1) ≠ h (yOf t r) := by
  cases r with
  | none => rw [yOf_none] at hx; omega
  | some y =>
    rw [yOf_some] at hx ⊢
    by_cases h1 : t < y
    · rw [if_pos h1] at hx; omega
    · rw [if_neg h1]; exact hn.2.1
theorem yOf_const {h : Int → Bool} {x t z : Int} {r : Option Int} (hn : NextC h x r) (h1 : x ≤ z) (h2 : z < yOf t r) : h z = h x := by
  refine const_next hn h1 (fun k hk => ?_)
  subst hk
  rw [yOf_some] at h2
  by_cases h3 : t < k
  · rw [if_pos h3] at h2; omega
  · rw [if_neg h3] at h2; exact h2

theorem mem_no_last {h : Int → Bool} {f x : Int} (hfx : f ≤ x) (he : x = f ∨ h (x - 1) ≠ h x) (hx : h x = true) : ∀ s, (memF h f (x - f).toNat).getLast? = some s → s.2 ≠ f + ((x - f).toNat : Int) := by
  intro s hs
  rcases he with rfl | he
  · rw [show (x - x).toNat = 0 by omega] at hs
    simp [memF] at hs
  · intro e
    have := (memF_last h f _ s hs).2 e
    rw [show f + ((x - f).toNat : Int) - 1 = x - 1 by omega] at this
    rw [this, hx] at he
    exact he rfl
theorem mem_app {h : Int → Bool} {f x y : Int} (hfx : f ≤ x) (hxy : x < y) (he : x = f ∨ h (x - 1) ≠ h x) (hc : ∀ z, x ≤ z → z < y → h z = h x) (hx : h x = true) :
    memF h f (y - f).toNat = memF h f (x - f).toNat ++ [(x, y)] := by
  have := memF_on h f (x - f).toNat (mem_no_last hfx he hx) (y - x - 1).toNat (fun z h1 h2 => by rw [hc z (by omega) (by omega)]; exact hx)
  rw [show (x - f).toNat + ((y - x - 1).toNat + 1) = (y - f).toNat by omega] at this
  rw [this]
  congr 2
  rw [Prod.mk.injEq]
  constructor <;> omega
theorem mem_skip {h : Int → Bool} {f x y : Int} (hfx : f ≤ x) (hxy : x < y) (hc : ∀ z, x ≤ z → z < y → h z = h x) (hx : h x = false) :
    memF h f (y - f).toNat = memF h f (x - f).toNat := by
  have := memF_off h f (x - f).toNat (y - x).toNat (fun z h1 h2 => by rw [hc z (by omega) (by omega)]; exact hx)
  rwa [show (x - f).toNat + (y - x).toNat = (y - f).toNat by omega] at this
theorem mem_len_le {h : Int → Bool} {f x t : Int} (hfx : f ≤ x) (hxt : x ≤ t) : (memF h f (x - f).toNat).length ≤ (memF h f (t - f).toNat).length := by
  have := memF_mono h f (x - f).toNat (t - x).toNat
  rwa [show (x - f).toNat + (t - x).toNat = (t - f).toNat by omega] at this

set_option maxRecDepth 100000 in
set_option maxHeartbeats 4000000 in
theorem members_any (T : TypeId) (v : Value) (h : Int → Bool) (kh ka : FuncId) (f t : Int) (w : World) (hA : SrcA T v w h kh ka) (hft : f ≤ t)
    (h1 : -1152921504606846976 ≤ f) (h2 : t ≤ 1152921504606846976) :
    Calls Tryz.prog 90 #[.iface T v, .int .i64 f, .int .i64 t] w (MePost h f t w) := by
  have q1 := hA.hm
  have q2 := hA.am
  have q5 := hA.hf
  have q6 := hA.af
  have H1 := Lib.hid hA.hc
  have H2 := Lib.hid hA.ac
  clear hA
  go_enter Tryz.func90, Tryz.ntmps90
  go_wp2_with fail
  go_loopw [8, 9] (fun u x wr => ∃ (y : Int), x = .int .i64 y ∧ f ≤ y ∧ y ≤ t ∧ Hid (y = f ∨ y = t ∨ h (y - 1) ≠ h y) ∧ (memF h f (y - f).toNat).length ≤ 2000 ∧ OwnS wr w.heap.size u (memF h f (y - f).toNat) ∧ Below w.heap.size w wr) (fun _ x _ => (t - intOf x).toNat)
  case atStart => exact ⟨f, rfl, by omega, hft, .inl rfl, by simp [memF], by rw [show (f - f).toNat = 0 by omega]; exact OwnS.nil _ _, Below.refl _ _⟩
  case round =>
    obtain ⟨y, rfl, hy1, hy2, HE, hln, ho, hW⟩ := hrel
    by_cases hlt : y < t
    · have HE' : Hid (y = f ∨ h (y - 1) ≠ h y) := by
        rcases HE.out with e | e | e
        · exact .inl e
        · omega
        · exact .inr e
      go_wp2_with fail
      refine (H2.out _ y hW (by omega) (by omega)).mono ?_
      rintro e w1 ⟨r, hr, rfl, hb1⟩
      have hW1 := keepBelow hW hb1
      have ho1 := ho.below hb1
      have HR := Lib.hid hr
      obtain ⟨L, hL⟩ : ∃ L, memF h f (y - f).toNat = L := ⟨_, rfl⟩
      rw [hL] at ho1 hln
      obtain ⟨y1, hy1e⟩ : ∃ y1, yOf t r = y1 := ⟨_, rfl⟩
      have hyb := yOf_bd hr hlt
      rw [hy1e] at hyb
      have HL := Lib.hid hL
      have HY := Lib.hid hy1e
      have HC : Hid (∀ z, y ≤ z → z < y1 → h z = h y) := fun z z1 z2 => yOf_const HR.out z1 (by rw [HY.out]; exact z2)
      have HN : Hid (y1 = f ∨ y1 = t ∨ h (y1 - 1) ≠ h y1) := by
        rcases Int.lt_or_eq_of_le hyb.2 with e | e
        · have := yOf_edge HR.out (by rw [HY.out]; exact e)
          rw [HY.out] at this
          exact .inr (.inr this)
        · exact .inr (.inl e)
      obtain ⟨a, c, rfl, _⟩ := ho1.form
      clear hb1 ho hr hL hy1e
      have H1h : Hid (∀ W, Below w.heap.size w W → Calls Tryz.prog kh #[v, .int .i64 y] W fun e w' => e = .returned (.bool (h y)) ∧ Below W.heap.size W w') := fun W hb => H1.out W y hb (by omega) (by omega)
      cases hh : h y with
      | false =>
        have HS : Hid (memF h f (y1 - f).toNat = L) := by unfold Hid; rw [mem_skip hy1 hyb.1 HC.out hh, HL.out]
        rw [hh] at H1h
        cases r with
        | none =>
          have hyt : y1 = t := by rw [← HY.out, yOf_none]
          subst hyt
          go_wp2_with fail
          refine (H1h.out _ hW1).mono ?_
          rintro e w2 ⟨rfl, hb2⟩
          have hW2 := keepBelow hW1 hb2
          have ho2 := ho1.below hb2
          have hsz2 := hW2.size
          clear hb2 ho1
          go_wp2
          go_roundw
          case rel => exact ⟨_, rfl, by omega, by omega, (by first | exact HN | exact .inr (.inl rfl)), by rw [HS.out]; exact hln, by rw [HS.out]; exact ho2, hW2⟩
          case measure => simp [intOf]; omega
        | some k =>
          by_cases hk : t < k
          · have hyt : y1 = t := by rw [← HY.out, yOf_some, if_pos hk]
            have g2 : decide (t < k) = true := by simpa using hk
            subst hyt
            go_wp2_with fail
            refine (H1h.out _ hW1).mono ?_
            rintro e w2 ⟨rfl, hb2⟩
            have hW2 := keepBelow hW1 hb2
            have ho2 := ho1.below hb2
            have hsz2 := hW2.size
            clear hb2 ho1
            go_wp2
            go_roundw
            case rel => exact ⟨_, rfl, by omega, by omega, (by first | exact HN | exact .inr (.inl rfl)), by rw [HS.out]; exact hln, by rw [HS.out]; exact ho2, hW2⟩
            case measure => simp [intOf]; omega
          · have hyt : y1 = k := by rw [← HY.out, yOf_some, if_neg hk]
            have g2 : decide (t < k) = false := by simpa using hk
            subst hyt
            go_wp2_with fail
            refine (H1h.out _ hW1).mono ?_
            rintro e w2 ⟨rfl, hb2⟩
            have hW2 := keepBelow hW1 hb2
            have ho2 := ho1.below hb2
            have hsz2 := hW2.size
            clear hb2 ho1
            go_wp2
            go_roundw
            case rel => exact ⟨_, rfl, by omega, by omega, (by first | exact HN | exact .inr (.inl rfl)), by rw [HS.out]; exact hln, by rw [HS.out]; exact ho2, hW2⟩
            case measure => simp [intOf]; omega
      | true =>
        have HS : Hid (memF h f (y1 - f).toNat = L ++ [(y, y1)]) := by unfold Hid; rw [mem_app hy1 hyb.1 HE'.out HC.out hh, HL.out]
        rw [hh] at H1h
        by_cases hfull : L.length = 2000
        · have g1 : ((L.length : Int) == 2000) = true := by simp; omega
          have HD : Hid (¬ (memF h f (t - f).toNat).length ≤ 2000) := by
            unfold Hid
            have := mem_len_le (h := h) (f := f) (x := y1) (t := t) (by omega) hyb.2
            rw [HS.out] at this
            simp at this
            omega
          cases r with
          | none =>
            have hyt : y1 = t := by rw [← HY.out, yOf_none]
            subst hyt
            go_wp2_with fail
            refine (H1h.out _ hW1).mono ?_
            rintro e w2 ⟨rfl, hb2⟩
            have hW2 := keepBelow hW1 hb2
            have ho2 := ho1.below hb2
            have hsz2 := hW2.size
            clear hb2 ho1
            go_wp2
            go_ret2
            exact ⟨.slice none 0 0, by rw [decide_eq_false HD.out]; rfl, by unfold memL; rw [if_neg HD.out]; exact OwnS.nil _ _, hW2⟩
          | some k =>
            by_cases hk : t < k
            · have hyt : y1 = t := by rw [← HY.out, yOf_some, if_pos hk]
              have g2 : decide (t < k) = true := by simpa using hk
              subst hyt
              go_wp2_with fail
              refine (H1h.out _ hW1).mono ?_
              rintro e w2 ⟨rfl, hb2⟩
              have hW2 := keepBelow hW1 hb2
              have ho2 := ho1.below hb2
              have hsz2 := hW2.size
              clear hb2 ho1
              go_wp2
              go_ret2
              exact ⟨.slice none 0 0, by rw [decide_eq_false HD.out]; rfl, by unfold memL; rw [if_neg HD.out]; exact OwnS.nil _ _, hW2⟩
            · have hyt : y1 = k := by rw [← HY.out, yOf_some, if_neg hk]
              have g2 : decide (t < k) = false := by simpa using hk
              subst hyt
              go_wp2_with fail
              refine (H1h.out _ hW1).mono ?_
              rintro e w2 ⟨rfl, hb2⟩
              have hW2 := keepBelow hW1 hb2
              have ho2 := ho1.below hb2
              have hsz2 := hW2.size
              clear hb2 ho1
              go_wp2
              go_ret2
              exact ⟨.slice none 0 0, by rw [decide_eq_false HD.out]; rfl, by unfold memL; rw [if_neg HD.out]; exact OwnS.nil _ _, hW2⟩
        · have g1 : ((L.length : Int) == 2000) = false := by simp; omega
          cases r with
          | none =>
            have hyt : y1 = t := by rw [← HY.out, yOf_none]
            subst hyt
            go_wp2_with fail
            refine (H1h.out _ hW1).mono ?_
            rintro e w2 ⟨rfl, hb2⟩
            have hW2 := keepBelow hW1 hb2
            have ho2 := ho1.below hb2
            have hsz2 := hW2.size
            clear hb2 ho1
            go_wp2_with (at_builtin; refine wpList_app_span rfl (.tmp 36) (.tmp 40) rfl rfl ho2 hW2 rfl rfl (by omega) ?_; intro v1 w3 o1 b1 k1 z1; clear k1)
            go_roundw
            case rel => exact ⟨_, rfl, by omega, by omega, (by first | exact HN | exact .inr (.inl rfl)), by rw [HS.out]; simp; omega, by rw [HS.out]; exact o1, b1⟩
            case measure => simp [intOf]; omega
          | some k =>
            by_cases hk : t < k
            · have hyt : y1 = t := by rw [← HY.out, yOf_some, if_pos hk]
              have g2 : decide (t < k) = true := by simpa using hk
              subst hyt
              go_wp2_with fail
              refine (H1h.out _ hW1).mono ?_
              rintro e w2 ⟨rfl, hb2⟩
              have hW2 := keepBelow hW1 hb2
              have ho2 := ho1.below hb2
              have hsz2 := hW2.size
              clear hb2 ho1
              go_wp2_with (at_builtin; refine wpList_app_span rfl (.tmp 36) (.tmp 40) rfl rfl ho2 hW2 rfl rfl (by omega) ?_; intro v1 w3 o1 b1 k1 z1; clear k1)
              go_roundw
              case rel => exact ⟨_, rfl, by omega, by omega, (by first | exact HN | exact .inr (.inl rfl)), by rw [HS.out]; simp; omega, by rw [HS.out]; exact o1, b1⟩
              case measure => simp [intOf]; omega
            · have hyt : y1 = k := by rw [← HY.out, yOf_some, if_neg hk]
              have g2 : decide (t < k) = false := by simpa using hk
              subst hyt
              go_wp2_with fail
              refine (H1h.out _ hW1).mono ?_
              rintro e w2 ⟨rfl, hb2⟩
              have hW2 := keepBelow hW1 hb2
              have ho2 := ho1.below hb2
              have hsz2 := hW2.size
              clear hb2 ho1
              go_wp2_with (at_builtin; refine wpList_app_span rfl (.tmp 36) (.tmp 40) rfl rfl ho2 hW2 rfl rfl (by omega) ?_; intro v1 w3 o1 b1 k1 z1; clear k1)
              go_roundw
              case rel => exact ⟨_, rfl, by omega, by omega, (by first | exact HN | exact .inr (.inl rfl)), by rw [HS.out]; simp; omega, by rw [HS.out]; exact o1, b1⟩
              case measure => simp [intOf]; omega
    · obtain rfl : y = t := by omega
      have hd : decide ((memF h f (y - f).toNat).length ≤ 2000) = true := by simpa using hln
      obtain ⟨a, c, rfl, _⟩ := ho.form
      go_wp2
      go_ret2
      exact ⟨.slice a (memF h f (y - f).toNat).length c, by rw [hd]; rfl, by unfold memL; rw [if_pos hln]; exact ho, hW⟩
end Go.Proofs.YtkfonfheakpcbaaGreat
