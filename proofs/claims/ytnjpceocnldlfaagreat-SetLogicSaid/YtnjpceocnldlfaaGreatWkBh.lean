import Derived.Test.YtnjpceocnldlfaaGreatWkBd
import Derived.Test.YtnjpceocnldlfaaGreatWkPr
import Derived.Test.YtnjpceocnldlfaaGreatWkBg
/- periodic.limited. -/
namespace Go.Proofs.YtnjpceocnldlfaaGreat
open Go.RowKit Wk

def put2 (W : World) (b : Nat) (u0 u1 : Value) : World := (W.setCell ⟨b, 0, none⟩ u0).setCell ⟨b, 1, none⟩ u1
def Box2 (W : World) (b : Nat) (x0 x1 : Value) : Prop := (W.cell? ⟨b, 0, none⟩ = some x0 ∧ W.cell? ⟨b, 1, none⟩ = some x1) ∧ W.frozen? ⟨b, 0, none⟩ = false ∧ W.frozen? ⟨b, 1, none⟩ = false
theorem Box2.below {W X : World} {b : Nat} {x0 x1 : Value} (h : Box2 W b x0 x1) (hX : Below W.heap.size W X) : Box2 X b x0 x1 :=
  ⟨⟨keepCell hX h.1.1, keepCell hX h.1.2⟩, keepFrozen hX h.1.1 h.2.1, keepFrozen hX h.1.2 h.2.2⟩
theorem Box2.put {W : World} {b : Nat} {x0 x1 : Value} (h : Box2 W b x0 x1) (u0 u1 : Value) : (put2 W b u0 u1).cell? ⟨b, 0, none⟩ = some u0 ∧ (put2 W b u0 u1).cell? ⟨b, 1, none⟩ = some u1 := by
  refine ⟨?_, ?_⟩ <;> simp [put2, go_sem, h.1.1, h.1.2]
theorem put2_below {B : Nat} {w W : World} {b : Nat} (u0 u1 : Value) (h : Below B w W) (hb : B ≤ b) : Below B w (put2 W b u0 u1) :=
  (h.setCell (p := ⟨b, 0, none⟩) hb _).setCell (p := ⟨b, 1, none⟩) hb _
theorem put2_own {B : Nat} {W : World} {b : Nat} {v : Value} {l : List Sp} (u0 u1 : Value) (h : OwnS W B v l) (hb : b < B) : OwnS (put2 W b u0 u1) B v l :=
  (h.setCell hb _).setCell hb _
theorem box2_new (W : World) (x0 x1 : Value) (t : TypeId) : Box2 (W.alloc (.cells #[x0, x1] t)) W.heap.size x0 x1 := by
  refine ⟨⟨?_, ?_⟩, ?_, ?_⟩ <;> simp [go_sem]

def limM (m : Int) (L : List Sp) : Per × Int := if 2000 < (cutM L (leastM L m)).length then ((0, []), 5) else ((leastM L m, cutM L (leastM L m)), 0)
def PrPost (r : Per × Int) (w : World) (e : Ending) (w' : World) : Prop := ∃ v', e = .returned (.tuple #[.agg #[.int .i64 r.1.1, v'], .int .i64 r.2]) ∧ OwnS w' w.heap.size v' r.1.2 ∧ Below w.heap.size w w'

set_option maxRecDepth 100000 in
set_option maxHeartbeats 1000000 in
theorem limited_any (m : Int) (v : Value) (L : List Sp) (w : World) (h : RdS w v L) (hv : Canon L ∧ Bnd L ∧ L.length ≤ 4096) (h1 : 1 ≤ m) (h2 : m ≤ 12622780800) (hin : inside m L) :
    Calls Tryz.prog 145 #[.int .i64 m, v] w (PrPost (limM m L) w) := by
  have H1 := Lib.hid (fun W h => least_any v L m W h hv h1 h2 hin)
  obtain ⟨a, c, rfl⟩ := h.form
  obtain ⟨W, hWe⟩ : ∃ W, w.alloc (.cells #[.int .i64 0, .slice none 0 0] 24) = W := ⟨_, rfl⟩
  have hB0 : Below w.heap.size w W := by rw [← hWe]; exact (Below.refl _ w).alloc (Nat.le_refl _) _
  have hBX : Box2 W w.heap.size (.int .i64 0) (.slice none 0 0) := by rw [← hWe]; exact box2_new _ _ _ _
  have hsz : W.heap.size = w.heap.size + 1 := by rw [← hWe]; simp
  have HR := Lib.hid (keepRd hB0 h)
  have HE := Lib.hid hWe
  have hlL := hv.2.2
  clear hWe h hv hin
  have hcl : (cutM L (leastM L m)).length ≤ L.length := cutT_len L (leastM L m) L.length |> fun h => by rwa [cutT_full L (leastM L m) L.length (Nat.le_refl _)] at h
  go_enter Tryz.func145, Tryz.ntmps145
  go_wp2_with fail
  rw [HE.out]
  go_wp2_with fail
  refine (H1.out _ HR.out).mono ?_
  rintro e w1 ⟨v1, rfl, ho, hb1⟩
  have HLI : Hid (limM m L = if 2000 < (cutM L (leastM L m)).length then ((0, []), 5) else ((leastM L m, cutM L (leastM L m)), 0)) := rfl
  obtain ⟨C, hC⟩ : ∃ C, cutM L (leastM L m) = C := ⟨_, rfl⟩
  obtain ⟨P, hP⟩ : ∃ P, leastM L m = P := ⟨_, rfl⟩
  rw [hC] at ho HLI hcl
  rw [hP] at HLI ⊢
  clear hC hP
  obtain ⟨a1, n1, rfl, _⟩ := ho.form
  have hb2 : Below w1.heap.size w1 (w1.alloc (.cells #[.int .i64 P, .slice a1 C.length n1] 24)) := (Below.refl _ w1).alloc (Nat.le_refl _) _
  have hB2 := keepBelow (keepBelow hB0 hb1) hb2
  have hBX2 := (hBX.below hb1).below hb2
  have hO2 := ho.below hb2
  have hBY : Box2 (w1.alloc (.cells #[.int .i64 P, .slice a1 C.length n1] 24)) w1.heap.size (.int .i64 P) (.slice a1 C.length n1) := box2_new _ _ _ _
  clear hb2
  obtain ⟨⟨c0, c1⟩, f0, f1⟩ := hBX2
  obtain ⟨⟨d0, d1⟩, _, _⟩ := hBY
  have HBX2 : Hid (Box2 (w1.alloc (.cells #[.int .i64 P, .slice a1 C.length n1] 24)) w.heap.size (.int .i64 0) (.slice none 0 0)) := ⟨⟨c0, c1⟩, f0, f1⟩
  by_cases h5 : 2000 < C.length
  · have HL2 : Hid (limM m L = ((0, []), 5)) := by have := HLI.out; rwa [if_pos h5] at this
    go_wp2
    change bodyPost _ _ _ _ _ (put2 (w1.alloc (.cells #[.int .i64 P, .slice a1 C.length n1] 24)) w.heap.size (.int .i64 0) (.slice none 0 0))
    obtain ⟨r0, r1⟩ := HBX2.out.put (.int .i64 0) (.slice none 0 0)
    have hBZ := put2_below (.int .i64 0) (.slice none 0 0) hB2 (b := w.heap.size) (Nat.le_refl _)
    generalize put2 (w1.alloc (.cells #[.int .i64 P, .slice a1 C.length n1] 24)) w.heap.size (.int .i64 0) (.slice none 0 0) = Z at *
    refine bodyPost_ret (v := .tuple #[.agg #[.int .i64 0, .slice none 0 0], .int .i64 5]) (by simp [results, Tryz.results145, go_sem, r0, r1]) rfl ?_
    show PrPost (limM m L) w _ _
    rw [HL2.out]
    exact ⟨_, rfl, OwnS.nil _ _, hBZ⟩
  · have HL2 : Hid (limM m L = ((P, C), 0)) := by have := HLI.out; rwa [if_neg h5] at this
    go_wp2
    change bodyPost _ _ _ _ _ (put2 (w1.alloc (.cells #[.int .i64 P, .slice a1 C.length n1] 24)) w.heap.size (.int .i64 P) (.slice a1 C.length n1))
    obtain ⟨r0, r1⟩ := HBX2.out.put (.int .i64 P) (.slice a1 C.length n1)
    have hBZ := put2_below (.int .i64 P) (.slice a1 C.length n1) hB2 (b := w.heap.size) (Nat.le_refl _)
    have hOZ := put2_own (.int .i64 P) (.slice a1 C.length n1) hO2 (B := W.heap.size) (b := w.heap.size) (by omega)
    generalize put2 (w1.alloc (.cells #[.int .i64 P, .slice a1 C.length n1] 24)) w.heap.size (.int .i64 P) (.slice a1 C.length n1) = Z at *
    refine bodyPost_ret (v := .tuple #[.agg #[.int .i64 P, .slice a1 C.length n1], .int .i64 0]) (by simp [results, Tryz.results145, go_sem, r0, r1]) rfl ?_
    show PrPost (limM m L) w _ _
    rw [HL2.out]
    exact ⟨_, rfl, hOZ.mono (by omega), hBZ⟩
end Go.Proofs.YtnjpceocnldlfaaGreat
namespace Go.Proofs.YtnjpceocnldlfaaGreat
open Go.RowKit Wk

theorem inL_perm {a b : List Sp} (h : a.Perm b) (x : Int) : inL a x = inL b x := by
  induction h with
  | nil => rfl
  | cons s _ ih => simp only [inL, ih]
  | swap s t l => simp only [inL]; rw [← Bool.or_assoc, ← Bool.or_assoc, Bool.or_comm (_ && _) (_ && _)]
  | trans _ _ h1 h2 => exact h1.trans h2
theorem join_perm {L L' : List Sp} (hp : L'.Perm L) (hs : L'.Pairwise (fun a b => a.1 ≤ b.1)) (hpos : ∀ s ∈ L, s.1 < s.2) : Canon (joinL L') ∧ (∀ x, inL (joinL L') x = inL L x) ∧ (joinL L').length ≤ L.length := by
  obtain ⟨h1, h2⟩ := joinL_ok (fun s hs => hpos s (hp.mem_iff.1 hs)) hs
  refine ⟨h1, fun x => by rw [h2, inL_perm hp], ?_⟩
  have := joinL_len L' L'.length (Nat.le_refl _)
  rw [List.take_length, hp.length_eq] at this
  exact this
theorem per_lt {t c : Nat} {P A m : Int} (hP : 1 ≤ P) (hA : A = (t : Int) * P) (hm : m = (c : Int) * P) (h : A < m) : t < c ∧ A + P ≤ m := by
  have h1 : t < c := by
    rcases Nat.lt_or_ge t c with h1 | h1
    · exact h1
    · have : (c : Int) * P ≤ (t : Int) * P := Int.mul_le_mul_of_nonneg_right (by omega) (by omega)
      omega
  refine ⟨h1, ?_⟩
  have h2 : ((t : Int) + 1) * P ≤ (c : Int) * P := Int.mul_le_mul_of_nonneg_right (by omega) (by omega)
  rw [Int.add_mul] at h2
  omega
theorem per_ge {t c : Nat} {P A m : Int} (hP : 1 ≤ P) (hA : A = (t : Int) * P) (hm : m = (c : Int) * P) (h : A ≤ m) (h2 : ¬ A < m) : t = c := by
  have e : (t : Int) * P = (c : Int) * P := by omega
  have := Int.eq_of_mul_eq_mul_right (by omega) e
  omega
theorem own_one (W : World) {B : Nat} (hB : B ≤ W.heap.size) (x y : Int) : OwnS (W.alloc (.cells #[.int .i64 x, .int .i64 y] 40)) B (.slice (some ⟨W.heap.size, 0, none⟩) 1 1) [(x, y)] :=
  ⟨rfl, .inr ⟨W.heap.size, 1, #[.int .i64 x, .int .i64 y], rfl, hB, by show (W.heap.push _)[W.heap.size]? = _; simp, by simp, by decide, rfl, rfl⟩⟩
def SdPost (P : Int) (l : List Sp) (m : Int) (c : Nat) (w : World) (e : Ending) (w' : World) : Prop := ∃ v X, e = .returned v ∧ OwnS w' w.heap.size v X ∧ SprP P l m X ∧ X.length ≤ c * l.length ∧ Below w.heap.size w w'
theorem map_take_succ {l : List Sp} {i : Nat} {x y d : Int} (h : l.getD i (0, 0) = (x, y)) (hi : i < l.length) : (l.take (i + 1)).map (shf d) = (l.take i).map (shf d) ++ [(x + d, y + d)] := by
  rw [getD_take_succ h hi, List.map_append]
  rfl

set_option maxRecDepth 100000 in
set_option maxHeartbeats 4000000 in
theorem pspread_any (P m : Int) (c : Nat) (v : Value) (l : List Sp) (w : World) (h : RdS w v l) (hg : GoodP (P, l)) (hP2 : P ≤ 12622780800) (hmc : m = (c : Int) * P) (hm1 : 1 ≤ m) (hm2 : m ≤ 12622780800) (hcl : c * l.length ≤ 2000) :
    Calls Tryz.prog 164 #[.agg #[.int .i64 P, v], .int .i64 m] w (SdPost P l m c w) := by
  have hP1 : 1 ≤ P := hg.pos
  obtain ⟨a, ca, rfl, hl, hc⟩ := h
  obtain ⟨W, hWe⟩ : ∃ W, w.alloc (.cells #[.int .i64 P, .slice a l.length ca] 24) = W := ⟨_, rfl⟩
  have hB0 : Below w.heap.size w W := by rw [← hWe]; exact (Below.refl _ _).alloc (Nat.le_refl _) _
  have c0 : W.cell? ⟨w.heap.size, 0, none⟩ = some (.int .i64 P) := by rw [← hWe]; simp [go_sem]
  have c1 : W.cell? ⟨w.heap.size, 1, none⟩ = some (.slice a l.length ca) := by rw [← hWe]; simp [go_sem]
  have HE := Lib.hid hWe
  have HC := Lib.hid hc
  have HG := Lib.hid hg
  have HM := Lib.hid hmc
  have HCL := Lib.hid hcl
  have hsz : W.heap.size = w.heap.size + 1 := by rw [← hWe]; simp
  have HSZ := Lib.hid hsz
  have hc1 : 1 ≤ c := by
    rcases Nat.eq_zero_or_pos c with h0 | h0
    · rw [h0] at hmc; simp at hmc; omega
    · exact h0
  have HC1 := Lib.hid hc1
  clear hWe hc hg hmc hcl hsz hc1
  by_cases hp : P = 1
  · subst hp
    by_cases hl0 : l.length = 0
    · have e : l = [] := List.length_eq_zero_iff.1 hl0
      subst e
      simp only [List.length_nil] at c1
      go_enter Tryz.func164, Tryz.ntmps164
      go_wp2_with fail
      rw [List.length_nil] at HE
      rw [HE.out]
      go_wp2
      go_ret
      exact ⟨_, [], rfl, OwnS.nil _ _, spread_none m, by simp, hB0⟩
    · have t0 : ((l.length : Int) == 0) = false := by simpa using hl0
      have hl1 : 0 < l.length := by omega
      clear hl0
      have HN := Lib.hid (own_one W (B := w.heap.size) (by have := HSZ.out; omega) 0 m)
      have HL1 := Lib.hid hl1
      go_enter Tryz.func164, Tryz.ntmps164
      go_wp2_with fail
      rw [HE.out]
      go_wp2
      go_ret
      exact ⟨.slice (some ⟨w.heap.size + 1, 0, none⟩) 1 1, [(0, m)], rfl, by rw [← HSZ.out]; exact HN.out, spread_one HG.out hl1 hm1, by simp; have := Nat.mul_le_mul HC1.out HL1.out; omega, hB0.alloc hB0.size _⟩
  · have t1 : (P == 1) = false := by simpa using hp
    clear hp
    go_enter Tryz.func164, Tryz.ntmps164
    go_wp2_with fail
    rw [HE.out]
    go_wp2_with fail
    go_loopw [5, 6] (fun u at' wr => ∃ (t : Nat) (A : Int), at' = .int .i64 A ∧ Hid (A = (t : Int) * P) ∧ 0 ≤ A ∧ A ≤ m ∧ OwnS wr W.heap.size u (sprL P l t) ∧ Below W.heap.size W wr) (fun _ at' _ => (m - intOf at').toNat)
    case atStart => exact ⟨0, 0, rfl, by unfold Hid; simp, Int.le_refl _, by omega, OwnS.nil _ _, Below.refl _ _⟩
    case round =>
      obtain ⟨t, A, rfl, HA, hA0, hA1, ho, hB⟩ := hrel
      have k0 := keepCell hB c0
      have k1 := keepCell hB c1
      by_cases hgo : A < m ∧ 0 < l.length
      · obtain ⟨hlt, hl0⟩ := hgo
        obtain ⟨htc, hAP⟩ := per_lt hP1 HA.out HM.out hlt
        have HTC : Hid (t * l.length + l.length ≤ 2000) := by
          unfold Hid
          have h1 : (t + 1) * l.length ≤ c * l.length := Nat.mul_le_mul_right _ (by omega)
          rw [Nat.add_mul] at h1
          have := HCL.out
          omega
        have HNA : Hid (A + P = ((t + 1 : Nat) : Int) * P) := by
          unfold Hid
          rw [HA.out, Int.natCast_add, Int.add_mul]
          simp
        have s0 : IntKind.i64.wrap (A + P) = A + P := by rw [IntKind.wrap_i64]; omega
        clear htc
        go_wp2_with fail
        go_loopw [5, 35] (fun u vi w3 => ∃ i : Nat, vi = .int .i64 i ∧ i ≤ l.length ∧ OwnS w3 W.heap.size u (sprL P l t ++ (l.take i).map (shf A)) ∧ Below W.heap.size W w3) (fun _ vi _ => l.length - (intOf vi).toNat)
        case atStart => exact ⟨0, rfl, Nat.zero_le _, by simpa using ho, hB⟩
        case round =>
          obtain ⟨i, rfl, hi, ho, hB⟩ := hrel
          have k0 := keepCell hB c0
          have k1 := keepCell hB c1
          have hBw := keepBelow hB0 hB
          by_cases hlt : i < l.length
          · obtain ⟨bb, o, x, y, rfl, hbw, HXY, d1, d2⟩ := rd_at HC.out hBw hlt
            have hin := HG.out.ins _ (mem_of_getD HXY.out hlt)
            have hxy := canon_pos HG.out.canon _ (mem_of_getD HXY.out hlt)
            simp only at hin hxy
            have hll : (sprL P l t ++ (l.take i).map (shf A)).length < 1000000000000 := by
              rw [List.length_append, sprL_len, List.length_map, List.length_take]
              have := HTC.out
              omega
            have HNX : Hid (sprL P l t ++ (l.take (i + 1)).map (shf A) = (sprL P l t ++ (l.take i).map (shf A)) ++ [(x + A, y + A)]) := by
              unfold Hid
              rw [map_take_succ HXY.out hlt, List.append_assoc]
            obtain ⟨X, hX⟩ : ∃ X, sprL P l t ++ (l.take i).map (shf A) = X := ⟨_, rfl⟩
            rw [hX] at ho hll HNX
            clear hX
            have hba : Below wr.heap.size wr (wr.alloc (.cells #[.int .i64 x, .int .i64 y] 40)) := (Below.refl _ _).alloc (Nat.le_refl _) _
            have hBa := keepBelow hB hba
            have hoa := ho.below hba
            have s1 : IntKind.i64.wrap (x + A) = x + A := by rw [IntKind.wrap_i64]; omega
            have s2 : IntKind.i64.wrap (y + A) = y + A := by rw [IntKind.wrap_i64]; omega
            clear hba
            go_wp2_with (at_builtin; refine wpList_app_span rfl (.tmp 39) (.tmp 49) rfl rfl hoa hBa rfl (by simp) hll ?_; intro v1 w9 o1 b1 k1 z1; clear k1)
            go_roundw
            case rel => exact ⟨i + 1, by go_num, by omega, by rw [HNX.out]; exact o1, b1⟩
            case measure => simp [intOf]; omega
          · have hil : i = l.length := by omega
            have HN2 : Hid (sprL P l t ++ (l.take i).map (shf A) = sprL P l (t + 1)) := by
              unfold Hid
              rw [hil, List.take_length, HA.out]
              rfl
            rw [HN2.out] at ho
            go_wp2
            go_roundw
            case rel => exact ⟨t + 1, A + P, by go_num, HNA.out, by omega, hAP, ho, hB⟩
            case measure => simp [intOf]; omega
      · have HX : Hid (t = c ∨ l = []) := by
          by_cases hl0 : 0 < l.length
          · exact .inl (per_ge hP1 HA.out HM.out hA1 fun h => hgo ⟨h, hl0⟩)
          · exact .inr (List.length_eq_zero_iff.1 (by omega))
        have HBW := Lib.hid (keepBelow hB0 hB)
        have HOW : Hid (OwnS wr w.heap.size u5 (sprL P l t)) := ho.mono (by have := HSZ.out; omega)
        have hsl : (sprL P l t).length ≤ c * l.length := by
          rw [sprL_len]
          rcases HX.out with h | h
          · rw [h]; exact Nat.le_refl _
          · rw [h]; simp
        have HJ := Lib.hid (joined_own u5 (sprL P l t) w wr HOW.out HBW.out (fun s hs => by
          have h1 := sprL_mem hP1 HG.out.ins t s hs
          have h2 := sprL_pos HG.out.canon t s hs
          have := HA.out
          omega) (by have := HCL.out; omega))
        have HSL := Lib.hid hsl
        clear hsl
        have HT : Hid (decide (A < m) = false ∨ (decide (A < m) = true ∧ l.length = 0)) := by
          unfold Hid
          by_cases h1 : A < m
          · exact .inr ⟨by simpa using h1, by omega⟩
          · exact .inl (by simpa using h1)
        clear hgo hA1 hA0
        have HFIN : Hid (∀ w', JnPost (sprL P l t) w (.returned (.tuple #[])) w' → True) := fun _ _ => trivial
        clear HFIN
        rcases HT.out with h1 | ⟨h1, h2⟩
        · go_wp2_with fail
          refine HJ.out.mono ?_
          rintro e w2 ⟨v2, L', rfl, o2, p2, s2, b2⟩
          have HR := Lib.hid (And.intro o2 (And.intro p2 (And.intro s2 b2)))
          clear o2 p2 s2 b2
          go_wp2
          go_ret
          obtain ⟨o2, p2, s2, b2⟩ := HR.out
          obtain ⟨j1, j2, j3⟩ := join_perm p2 s2 (sprL_pos HG.out.canon t)
          refine ⟨_, _, rfl, o2, ⟨j1, fun x => ?_⟩, Nat.le_trans j3 HSL.out, b2⟩
          rw [j2]
          rcases HX.out with h | h
          · rw [h, sprL_in HG.out, ← HM.out]
          · subst h
            rw [sprL_in HG.out]
            simp [hasP, inL]
        · have t2 : ((l.length : Int) == 0) = true := by simp [h2]
          have t3 : decide ((0 : Int) < (l.length : Int)) = false := by simp [h2]
          go_wp2_with fail
          refine HJ.out.mono ?_
          rintro e w2 ⟨v2, L', rfl, o2, p2, s2, b2⟩
          have HR := Lib.hid (And.intro o2 (And.intro p2 (And.intro s2 b2)))
          clear o2 p2 s2 b2
          go_wp2
          go_ret
          obtain ⟨o2, p2, s2, b2⟩ := HR.out
          obtain ⟨j1, j2, j3⟩ := join_perm p2 s2 (sprL_pos HG.out.canon t)
          refine ⟨_, _, rfl, o2, ⟨j1, fun x => ?_⟩, Nat.le_trans j3 HSL.out, b2⟩
          rw [j2]
          rcases HX.out with h | h
          · rw [h, sprL_in HG.out, ← HM.out]
          · subst h
            rw [sprL_in HG.out]
            simp [hasP, inL]
end Go.Proofs.YtnjpceocnldlfaaGreat
