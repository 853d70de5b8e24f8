import Derived.Test.YtkfonfheakpcbaaGreatWkWhoB
/- timeset.first: the least difference of two sources. -/
namespace Go.Proofs.YtkfonfheakpcbaaGreat
open Go.RowKit Wk

/-- an interface value that is a source -/
structure SrcA (T : TypeId) (v : Value) (w0 : World) (h : Int → Bool) (kh ka : FuncId) : Prop where
  hm : ∀ W, (method 277 T v "civiltime/timeset.has").run Tryz.prog W = .ok (kh, v) W
  am : ∀ W, (method 277 T v "civiltime/timeset.after").run Tryz.prog W = .ok (ka, v) W
  hf : ∀ args W, (callFunc kh args).run Tryz.prog W = .ok (.enter kh args) W
  af : ∀ args W, (callFunc ka args).run Tryz.prog W = .ok (.enter ka args) W
  hc : ∀ W x, Below w0.heap.size w0 W → -1152921504606846976 ≤ x → x ≤ 1152921504606846976 → Calls Tryz.prog kh #[v, .int .i64 x] W fun e w' => e = .returned (.bool (h x)) ∧ Below W.heap.size W w'
  ac : ∀ W x, Below w0.heap.size w0 W → -1152921504606846976 ≤ x → x ≤ 1152921504606846976 → Calls Tryz.prog ka #[v, .int .i64 x] W (NxPost h x W)

def FiPost (d : Int → Bool) (low high : Int) (w : World) (e : Ending) (w' : World) : Prop := ∃ r : Option Int, FirstD d low high r ∧ e = .returned (.tuple #[.int .i64 (r.getD 0), .bool r.isSome]) ∧ Below w.heap.size w w'

set_option maxRecDepth 100000 in
set_option maxHeartbeats 4000000 in
theorem first_any (Ta Tb : TypeId) (va vb : Value) (ha hb : Int → Bool) (kha kaa khb kab : FuncId) (low high : Int) (w : World) (hA : SrcA Ta va w ha kha kaa) (hB : SrcA Tb vb w hb khb kab)
    (h1 : -1152921504606846976 ≤ low) (h2 : high ≤ 1152921504606846976) :
    Calls Tryz.prog 107 #[.iface Ta va, .iface Tb vb, .int .i64 low, .int .i64 high] w (FiPost (fun x => ha x != hb x) low high w) := by
  have q1 := hA.hm
  have q2 := hA.am
  have q3 := hB.hm
  have q4 := hB.am
  have q5 := hA.hf
  have q6 := hA.af
  have q7 := hB.hf
  have q8 := hB.af
  have H1 := Lib.hid hA.hc
  have H2 := Lib.hid hA.ac
  have H3 := Lib.hid hB.hc
  have H4 := Lib.hid hB.ac
  clear hA hB
  go_enter Tryz.func107, Tryz.ntmps107
  go_wp2_with fail
  go_loopw [10] (fun u wr => ∃ y : Int, u = .int .i64 y ∧ low ≤ y ∧ Hid (∀ z, low ≤ z → z < y → (ha z != hb z) = false) ∧ Below w.heap.size w wr) (fun u _ => (high - intOf u).toNat)
  case atStart => exact ⟨low, rfl, by omega, (fun z z1 z2 => by omega), Below.refl _ _⟩
  case round =>
    obtain ⟨y, rfl, hy1, HZ, hW⟩ := hrel
    by_cases hlt : y < high
    · go_wp2_with fail
      refine (H1.out _ y hW (by omega) (by omega)).mono ?_
      rintro e w1 ⟨rfl, hb1⟩
      have hW1 := keepBelow hW hb1
      clear hb1
      go_wp2_with fail
      refine (H3.out _ y hW1 (by omega) (by omega)).mono ?_
      rintro e w2 ⟨rfl, hb2⟩
      have hW2 := keepBelow hW1 hb2
      clear hb2
      cases hd : (ha y != hb y) with
      | true =>
        have HD := Lib.hid hd
        have hg : (ha y == hb y) = false := by cases u1 : ha y <;> cases u2 : hb y <;> simp_all
        go_wp2
        go_ret2
        exact ⟨some y, ⟨hy1, hlt, HD.out, HZ.out⟩, rfl, hW2⟩
      | false =>
        have HD := Lib.hid hd
        have hg : (ha y == hb y) = true := by cases u1 : ha y <;> cases u2 : hb y <;> simp_all
        go_wp2_with fail
        refine (H2.out _ y hW2 (by omega) (by omega)).mono ?_
        rintro e w3 ⟨r1, hr1, rfl, hb3⟩
        have hW3 := keepBelow hW2 hb3
        have HR1 := Lib.hid hr1
        clear hb3 hr1
        go_wp2_with fail
        refine (H4.out _ y hW3 (by omega) (by omega)).mono ?_
        rintro e w4 ⟨r2, hr2, rfl, hb4⟩
        have hW4 := keepBelow hW3 hb4
        have HR2 := Lib.hid hr2
        clear hb4 hr2
        have HN : Hid (∀ u, (∀ k, r1 = some k → u ≤ k) → (∀ k, r2 = some k → u ≤ k) → ∀ z, low ≤ z → z < u → (ha z != hb z) = false) := by
          intro u hu1 hu2 z z1 z2
          by_cases hz : z < y
          · exact HZ.out z z1 hz
          · rw [const_next HR1.out (by omega) (fun k hk => by have := hu1 k hk; omega), const_next HR2.out (by omega) (fun k hk => by have := hu2 k hk; omega)]
            exact HD.out
        clear hd
        cases r1 with
        | none =>
          cases r2 with
          | none =>
            go_wp2
            go_ret2
            exact ⟨none, (fun z z1 z2 => HN.out high (fun k e => by cases e) (fun k e => by cases e) z z1 z2), rfl, hW4⟩
          | some k2 =>
            have hk2 : y < k2 := HR2.out.1
            go_wp2
            go_roundw
            case rel => exact ⟨k2, rfl, by omega, HN.out k2 (fun k e => by cases e) (fun k e => by cases e; omega), hW4⟩
            case measure => simp [intOf]; omega
        | some k1 =>
          have hk1 : y < k1 := HR1.out.1
          cases r2 with
          | none =>
            go_wp2
            go_roundw
            case rel => exact ⟨k1, rfl, by omega, HN.out k1 (fun k e => by cases e; omega) (fun k e => by cases e), hW4⟩
            case measure => simp [intOf]; omega
          | some k2 =>
            have hk2 : y < k2 := HR2.out.1
            go_wp2
            go_roundw
            case rel => exact ⟨min k1 k2, rfl, by omega, HN.out _ (fun k e => by cases e; omega) (fun k e => by cases e; omega), hW4⟩
            case measure => simp [intOf]; omega
    · go_wp2
      go_ret2
      exact ⟨none, (fun z z1 z2 => HZ.out z z1 (by omega)), rfl, hW⟩

theorem srcA_cycle (P : Int) (v : Value) (l : List Sp) (w : World) (h : RdS w v l) (hv : pvB P l = true) :
    SrcA 110 (.agg #[.int .i64 P, v]) w (hasP (P, l)) 184 183 := by
  obtain ⟨a, c, rfl⟩ := h.form
  exact ⟨fun W => m_chas W _ _ _ _, fun W => m_cafter W _ _ _ _, fun args W => by go_simp, fun args W => by go_simp, fun W x hb h1 h2 => chas_any P x _ l W (keepRd hb h) hv h1 h2, fun W x hb h1 h2 => cafter_any P x _ l W (keepRd hb h) hv h1 h2⟩
theorem srcA_bounded (v : Value) (l : List Sp) (w : World) (h : RdS w v l) (hv : rvB l = true) :
    SrcA 111 v w (inL l) 192 191 := by
  obtain ⟨a, c, rfl⟩ := h.form
  exact ⟨fun W => m_bhas W _ _ _, fun W => m_bafter W _ _ _, fun args W => by go_simp, fun args W => by go_simp, fun W x hb _ _ => bhas_any x _ l W (keepRd hb h) hv, fun W x hb _ _ => bafter_any x _ l W (keepRd hb h) (canon_of_rvB hv).1⟩
end Go.Proofs.YtkfonfheakpcbaaGreat
