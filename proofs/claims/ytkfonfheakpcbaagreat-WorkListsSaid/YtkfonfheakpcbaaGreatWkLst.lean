import Derived.Test.YtkfonfheakpcbaaGreatWkBefC
/- timeset.last: the greatest difference of two sources. -/
namespace Go.Proofs.YtkfonfheakpcbaaGreat
open Go.RowKit Wk

theorem hasP_shift (p : Per) (hP : 1 ≤ p.1) (x : Int) : hasP p (x + p.1) = hasP p x := by
  have e : (x + p.1) / p.1 = x / p.1 + 1 := by
    have := Int.add_mul_ediv_right x 1 (show p.1 ≠ 0 by omega)
    rwa [Int.one_mul] at this
  unfold hasP
  rw [e]
  have e2 : x + p.1 - (x / p.1 + 1) * p.1 = x - x / p.1 * p.1 := by rw [Int.add_mul, Int.one_mul]; omega
  rw [e2]
theorem prev_cyc_lo {p : Per} (hP : 1 ≤ p.1) {x k : Int} (h : PrevC (hasP p) x (some k)) : x - p.1 ≤ k := by
  obtain ⟨h1, h2, h3⟩ := h
  rcases Int.lt_or_le k (x - p.1) with hk | hk
  · exfalso
    have := h3 (k + p.1) (by omega) (by omega)
    rw [show k + p.1 - 1 = (k - 1) + p.1 by omega, hasP_shift p hP, hasP_shift p hP] at this
    exact h2 this
  · exact hk
theorem prev_bnd_lo {l : List Sp} (hv : rvB l = true) {x k : Int} (h : PrevC (inL l) x (some k)) : -4398046511104 ≤ k := by
  obtain ⟨h1, h2, h3⟩ := h
  obtain ⟨s, hs, e⟩ := (edge_iff k (canon_of_rvB hv).1).1 h2
  have := (canon_of_rvB hv).2.1 s hs
  have := canon_pos (canon_of_rvB hv).1 s hs
  omega

theorem m_cbefore (W : World) (p : Int) (a : Option Addr) (n c : Nat) : (method 277 110 (.agg #[.int .i64 p, .slice a n c]) "civiltime/timeset.before").run Tryz.prog W = .ok (169, .agg #[.int .i64 p, .slice a n c]) W := by kernel_rfl
theorem m_bbefore (W : World) (a : Option Addr) (n c : Nat) : (method 277 111 (.slice a n c) "civiltime/timeset.before").run Tryz.prog W = .ok (170, .slice a n c) W := by kernel_rfl

def PbPost (h : Int → Bool) (x : Int) (w : World) (e : Ending) (w' : World) : Prop := ∃ r : Option Int, PrevC h x r ∧ (∀ k, r = some k → -2305843009213693952 ≤ k) ∧ e = .returned (.tuple #[.int .i64 (r.getD 0), .bool r.isSome]) ∧ Below w.heap.size w w'

/-- an interface value that is a source -/
structure SrcB (T : TypeId) (v : Value) (w0 : World) (h : Int → Bool) (kh ka : FuncId) : Prop where
  hm : ∀ W, (method 277 T v "civiltime/timeset.has").run Tryz.prog W = .ok (kh, v) W
  am : ∀ W, (method 277 T v "civiltime/timeset.before").run Tryz.prog W = .ok (ka, v) W
  hf : ∀ args W, (callFunc kh args).run Tryz.prog W = .ok (.enter kh args) W
  af : ∀ args W, (callFunc ka args).run Tryz.prog W = .ok (.enter ka args) W
  hc : ∀ W x, Below w0.heap.size w0 W → -1152921504606846976 ≤ x → x ≤ 1152921504606846976 → Calls Tryz.prog kh #[v, .int .i64 x] W fun e w' => e = .returned (.bool (h x)) ∧ Below W.heap.size W w'
  ac : ∀ W x, Below w0.heap.size w0 W → -1152921504606846976 ≤ x → x ≤ 1152921504606846976 → Calls Tryz.prog ka #[v, .int .i64 x] W (PbPost h x W)

def LaPost (d : Int → Bool) (low high : Int) (w : World) (e : Ending) (w' : World) : Prop := ∃ r : Option Int, LastD d low high r ∧ e = .returned (.tuple #[.int .i64 (r.getD 0), .bool r.isSome]) ∧ Below w.heap.size w w'

set_option maxRecDepth 100000 in
set_option maxHeartbeats 4000000 in
theorem last_any (Ta Tb : TypeId) (va vb : Value) (ha hb : Int → Bool) (kha kaa khb kab : FuncId) (low high : Int) (w : World) (hA : SrcB Ta va w ha kha kaa) (hB : SrcB Tb vb w hb khb kab)
    (h1 : -1152921504606846976 ≤ low) (h2 : high ≤ 1152921504606846976) (h3 : -1152921504606846976 ≤ high) :
    Calls Tryz.prog 106 #[.iface Ta va, .iface Tb vb, .int .i64 low, .int .i64 high] w (LaPost (fun x => ha x != hb x) low high w) := by
  have q1 := hA.hm
  have q2 := hA.am
  have q3 := hB.hm
  have q4 := hB.am
  have q5 := hA.hf
  have q6 := hA.af
  have q7 := hB.hf
  have q8 := hB.af
  have H1 := Lib.hid hA.hc
  have H2 := Lib.hid hA.ac
  have H3 := Lib.hid hB.hc
  have H4 := Lib.hid hB.ac
  clear hA hB
  go_enter Tryz.func106, Tryz.ntmps106
  go_wp2_with fail
  go_loopw [10] (fun u wr => ∃ y : Int, u = .int .i64 y ∧ y < high ∧ -2305843009213693953 ≤ y ∧ Hid (∀ z, y < z → z < high → (ha z != hb z) = false) ∧ Below w.heap.size w wr) (fun u _ => (intOf u - low + 1).toNat)
  case atStart => exact ⟨high - 1, rfl, by omega, by omega, (fun z z1 z2 => by omega), Below.refl _ _⟩
  case round =>
    obtain ⟨y, rfl, hy1, hy2, HZ, hW⟩ := hrel
    by_cases hlt : low ≤ y
    · go_wp2_with fail
      refine (H1.out _ y hW (by omega) (by omega)).mono ?_
      rintro e w1 ⟨rfl, hb1⟩
      have hW1 := keepBelow hW hb1
      clear hb1
      go_wp2_with fail
      refine (H3.out _ y hW1 (by omega) (by omega)).mono ?_
      rintro e w2 ⟨rfl, hb2⟩
      have hW2 := keepBelow hW1 hb2
      clear hb2
      cases hd : (ha y != hb y) with
      | true =>
        have HD := Lib.hid hd
        have hg : (ha y == hb y) = false := by cases u1 : ha y <;> cases u2 : hb y <;> simp_all
        go_wp2
        go_ret2
        exact ⟨some y, ⟨hlt, hy1, HD.out, HZ.out⟩, rfl, hW2⟩
      | false =>
        have HD := Lib.hid hd
        have hg : (ha y == hb y) = true := by cases u1 : ha y <;> cases u2 : hb y <;> simp_all
        go_wp2_with fail
        refine (H2.out _ y hW2 (by omega) (by omega)).mono ?_
        rintro e w3 ⟨r1, hr1, hlo1, rfl, hb3⟩
        have hW3 := keepBelow hW2 hb3
        have HR1 := Lib.hid hr1
        clear hb3 hr1
        go_wp2_with fail
        refine (H4.out _ y hW3 (by omega) (by omega)).mono ?_
        rintro e w4 ⟨r2, hr2, hlo2, rfl, hb4⟩
        have hW4 := keepBelow hW3 hb4
        have HR2 := Lib.hid hr2
        clear hb4 hr2
        have HN : Hid (∀ u, (∀ k, r1 = some k → k ≤ u) → (∀ k, r2 = some k → k ≤ u) → ∀ z, u ≤ z → z < high → (ha z != hb z) = false) := by
          intro u hu1 hu2 z z1 z2
          by_cases hz : y < z
          · exact HZ.out z hz z2
          · rw [const_prev HR1.out (by omega) (fun k hk => by have := hu1 k hk; omega), const_prev HR2.out (by omega) (fun k hk => by have := hu2 k hk; omega)]
            exact HD.out
        clear hd
        cases r1 with
        | none =>
          cases r2 with
          | none =>
            go_wp2
            go_ret2
            exact ⟨none, (fun z z1 z2 => HN.out z (fun k e => by cases e) (fun k e => by cases e) z (by omega) z2), rfl, hW4⟩
          | some k2 =>
            have hk2 : k2 ≤ y := HR2.out.1
            have hl2 := hlo2 k2 rfl
            go_wp2
            go_roundw
            case rel => exact ⟨k2 - 1, rfl, by omega, by omega, (fun z z1 z2 => HN.out k2 (fun k e => by cases e) (fun k e => by cases e; omega) z (by omega) z2), hW4⟩
            case measure => simp [intOf]; omega
        | some k1 =>
          have hk1 : k1 ≤ y := HR1.out.1
          have hl1 := hlo1 k1 rfl
          cases r2 with
          | none =>
            go_wp2
            go_roundw
            case rel => exact ⟨k1 - 1, rfl, by omega, by omega, (fun z z1 z2 => HN.out k1 (fun k e => by cases e; omega) (fun k e => by cases e) z (by omega) z2), hW4⟩
            case measure => simp [intOf]; omega
          | some k2 =>
            have hk2 : k2 ≤ y := HR2.out.1
            have hl2 := hlo2 k2 rfl
            go_wp2
            go_roundw
            case rel => exact ⟨max k1 k2 - 1, rfl, by omega, by omega, (fun z z1 z2 => HN.out (max k1 k2) (fun k e => by cases e; omega) (fun k e => by cases e; omega) z (by omega) z2), hW4⟩
            case measure => simp [intOf]; omega
    · go_wp2
      go_ret2
      exact ⟨none, (fun z z1 z2 => HZ.out z (by omega) z2), rfl, hW⟩

theorem srcB_cycle (P : Int) (v : Value) (l : List Sp) (w : World) (h : RdS w v l) (hv : pvB P l = true) :
    SrcB 110 (.agg #[.int .i64 P, v]) w (hasP (P, l)) 184 169 := by
  obtain ⟨a, c, rfl⟩ := h.form
  exact ⟨fun W => m_chas W _ _ _ _, fun W => m_cbefore W _ _ _ _, fun args W => by go_simp, fun args W => by go_simp, fun W x hb h1 h2 => chas_any P x _ l W (keepRd hb h) hv h1 h2, fun W x hb h1 h2 => (cbefore_any P x _ l W (keepRd hb h) hv h1 h2).mono (fun _ _ ⟨r, hr, e, hb⟩ => ⟨r, hr, (fun k ek => by subst ek; have := prev_cyc_lo (rvB_of_pvB hv).2.1 hr; have := (rvB_of_pvB hv).2.2.1; omega), e, hb⟩)⟩
theorem srcB_bounded (v : Value) (l : List Sp) (w : World) (h : RdS w v l) (hv : rvB l = true) :
    SrcB 111 v w (inL l) 192 170 := by
  obtain ⟨a, c, rfl⟩ := h.form
  exact ⟨fun W => m_bhas W _ _ _, fun W => m_bbefore W _ _ _, fun args W => by go_simp, fun args W => by go_simp, fun W x hb _ _ => bhas_any x _ l W (keepRd hb h) hv, fun W x hb _ _ => (bbefore_any x _ l W (keepRd hb h) (canon_of_rvB hv).1).mono (fun _ _ ⟨r, hr, e, hb⟩ => ⟨r, hr, (fun k ek => by subst ek; have := prev_bnd_lo hv hr; omega), e, hb⟩)⟩
end Go.Proofs.YtkfonfheakpcbaaGreat
