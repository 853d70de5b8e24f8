import Derived.Test.YtnjpceocnldlfaaGreatWkLgD
import Derived.Test.YtnjpceocnldlfaaGreatWkLq
import Derived.Laws.EntriesVeiled
/- The law SetLogic. -/
namespace Go.Proofs.YtnjpceocnldlfaaGreat
open Go.RowKit Wk

theorem of_nil {P : Program} {Q : Exit → Act → World → Prop} {a : Act} {w : World} (h : wpList P #[] Q [] a w) : Q .normal a w := h
theorem rdT_three {W : World} {a b c : St} {a1 a2 a3 b1 b2 b3 c1 c2 c3 : Value} (h : RdSt W a a1 a2 a3) (h' : RdSt W b b1 b2 b3) (h'' : RdSt W c c1 c2 c3) :
    RdT (W.alloc (.cells #[.int .i64 a.lf.1, a1, .int .i64 a.rt.1, a2, .int .i64 a.fr, .int .i64 a.to, a3, .int .i64 b.lf.1, b1, .int .i64 b.rt.1, b2, .int .i64 b.fr, .int .i64 b.to, b3, .int .i64 c.lf.1, c1, .int .i64 c.rt.1, c2, .int .i64 c.fr, .int .i64 c.to, c3] 26)) (.slice (some ⟨W.heap.size, 0, none⟩) 3 3) [(a, a1, a2, a3), (b, b1, b2, b3), (c, c1, c2, c3)] := by
  have hb := (Below.refl W.heap.size W).alloc (Nat.le_refl _) (.cells #[.int .i64 a.lf.1, a1, .int .i64 a.rt.1, a2, .int .i64 a.fr, .int .i64 a.to, a3, .int .i64 b.lf.1, b1, .int .i64 b.rt.1, b2, .int .i64 b.fr, .int .i64 b.to, b3, .int .i64 c.lf.1, c1, .int .i64 c.rt.1, c2, .int .i64 c.fr, .int .i64 c.to, c3] 26)
  refine ⟨by simp, _, _, rfl, fun i x hx => ?_⟩
  rcases i with _ | _ | _ | i
  · simp at hx
    subst hx
    refine ⟨keepSt hb h, ?_, ?_, ?_, ?_, ?_, ?_, ?_⟩ <;> simp [go_sem]
  · simp at hx
    subst hx
    refine ⟨keepSt hb h', ?_, ?_, ?_, ?_, ?_, ?_, ?_⟩ <;> simp [go_sem]
  · simp at hx
    subst hx
    refine ⟨keepSt hb h'', ?_, ?_, ?_, ?_, ?_, ?_, ?_⟩ <;> simp [go_sem]
  · simp at hx

set_option maxRecDepth 100000 in
set_option maxHeartbeats 16000000 in
theorem law_SetLogic (a b c : St) (al ar av bl br bv cl cr cv : Value) (w : World) (ha : RdSt w a al ar av) (hb : RdSt w b bl br bv) (hc : RdSt w c cl cr cv) :
    Calls Tryz.prog 11 #[.agg #[.int .i64 a.lf.1, al, .int .i64 a.rt.1, ar, .int .i64 a.fr, .int .i64 a.to, av], .agg #[.int .i64 b.lf.1, bl, .int .i64 b.rt.1, br, .int .i64 b.fr, .int .i64 b.to, bv], .agg #[.int .i64 c.lf.1, cl, .int .i64 c.rt.1, cr, .int .i64 c.fr, .int .i64 c.to, cv]] w fun e w' => e = .returned (.bool true) ∧ Below w.heap.size w w' := by
  have HAW := Lib.hid (fun W => awake14_any W)
  have HLA := Lib.hid (fun v L W h => large14_any v L W h)
  have HRA := Lib.hid ha
  have HRB := Lib.hid hb
  have HRC := Lib.hid hc
  obtain ⟨a1, an1, e1⟩ := ha.1.form
  obtain ⟨a2, an2, e2⟩ := ha.2.1.form
  obtain ⟨a3, an3, e3⟩ := ha.2.2.form
  subst e1 e2 e3
  obtain ⟨b1, bn1, e4⟩ := hb.1.form
  obtain ⟨b2, bn2, e5⟩ := hb.2.1.form
  obtain ⟨b3, bn3, e6⟩ := hb.2.2.form
  subst e4 e5 e6
  obtain ⟨c1, cn1, e7⟩ := hc.1.form
  obtain ⟨c2, cn2, e8⟩ := hc.2.1.form
  obtain ⟨c3, cn3, e9⟩ := hc.2.2.form
  subst e7 e8 e9
  clear ha hb hc
  obtain ⟨W, hWe⟩ : ∃ W, ((w.alloc (.cells #[.int .i64 a.lf.1, (.slice a1 a.lf.2.length an1), .int .i64 a.rt.1, (.slice a2 a.rt.2.length an2), .int .i64 a.fr, .int .i64 a.to, (.slice a3 a.l.length an3)] 26)).alloc (.cells #[.int .i64 b.lf.1, (.slice b1 b.lf.2.length bn1), .int .i64 b.rt.1, (.slice b2 b.rt.2.length bn2), .int .i64 b.fr, .int .i64 b.to, (.slice b3 b.l.length bn3)] 26)).alloc (.cells #[.int .i64 c.lf.1, (.slice c1 c.lf.2.length cn1), .int .i64 c.rt.1, (.slice c2 c.rt.2.length cn2), .int .i64 c.fr, .int .i64 c.to, (.slice c3 c.l.length cn3)] 26) = W := ⟨_, rfl⟩
  have hW : Below w.heap.size w W := by rw [← hWe]; exact (((Below.refl _ w).alloc (Nat.le_refl _) _).alloc (by simp) _).alloc (by simp; omega) _
  have HX : Hid (Set7 W w.heap.size (.int .i64 a.lf.1) (.slice a1 a.lf.2.length an1) (.int .i64 a.rt.1) (.slice a2 a.rt.2.length an2) (.int .i64 a.fr) (.int .i64 a.to) (.slice a3 a.l.length an3) ∧ Set7 W (w.heap.size + 1) (.int .i64 b.lf.1) (.slice b1 b.lf.2.length bn1) (.int .i64 b.rt.1) (.slice b2 b.rt.2.length bn2) (.int .i64 b.fr) (.int .i64 b.to) (.slice b3 b.l.length bn3) ∧ Set7 W (w.heap.size + 1 + 1) (.int .i64 c.lf.1) (.slice c1 c.lf.2.length cn1) (.int .i64 c.rt.1) (.slice c2 c.rt.2.length cn2) (.int .i64 c.fr) (.int .i64 c.to) (.slice c3 c.l.length cn3) ∧ RdSt W a (.slice a1 a.lf.2.length an1) (.slice a2 a.rt.2.length an2) (.slice a3 a.l.length an3) ∧ RdSt W b (.slice b1 b.lf.2.length bn1) (.slice b2 b.rt.2.length bn2) (.slice b3 b.l.length bn3) ∧ RdSt W c (.slice c1 c.lf.2.length cn1) (.slice c2 c.rt.2.length cn2) (.slice c3 c.l.length cn3) ∧ Below w.heap.size w W) := by
    refine ⟨?_, ?_, ?_, keepSt hW HRA.out, keepSt hW HRB.out, keepSt hW HRC.out, hW⟩
    · rw [← hWe]
      refine ⟨⟨?_, ?_, ?_, ?_, ?_, ?_, ?_⟩, ?_, ?_, ?_, ?_, ?_, ?_, ?_⟩ <;> simp [go_sem]
    · rw [← hWe]
      refine ⟨⟨?_, ?_, ?_, ?_, ?_, ?_, ?_⟩, ?_, ?_, ?_, ?_, ?_, ?_, ?_⟩ <;> simp [go_sem]
    · rw [← hWe]
      refine ⟨⟨?_, ?_, ?_, ?_, ?_, ?_, ?_⟩, ?_, ?_, ?_, ?_, ?_, ?_, ?_⟩ <;> simp [go_sem]
  have HE := Lib.hid hWe
  clear hWe hW HRA HRB HRC
  obtain ⟨⟨⟨A0, A1, A2, A3, A4, A5, A6⟩, -⟩, ⟨⟨B0, B1, B2, B3, B4, B5, B6⟩, -⟩, ⟨⟨C0, C1, C2, C3, C4, C5, C6⟩, -⟩, -, -, -, hbe⟩ := HX.out
  go_enter Tryz.func11, Tryz.ntmps11
  go_wp2_with fail
  rw [HE.out]
  go_wp2_with fail
  refine (HAW.out _).mono ?_
  rintro e w1 ⟨rfl, hb⟩
  have HX1 := Lib.hid (And.intro (HX.out.1.below hb) (And.intro (HX.out.2.1.below hb) (And.intro (HX.out.2.2.1.below hb) (And.intro (keepSt hb HX.out.2.2.2.1) (And.intro (keepSt hb HX.out.2.2.2.2.1) (And.intro (keepSt hb HX.out.2.2.2.2.2.1) (keepBelow HX.out.2.2.2.2.2.2 hb)))))))
  clear A0 A1 A2 A3 A4 A5 A6 B0 B1 B2 B3 B4 B5 B6 C0 C1 C2 C3 C4 C5 C6 hbe
  obtain ⟨⟨⟨A0, A1, A2, A3, A4, A5, A6⟩, -⟩, ⟨⟨B0, B1, B2, B3, B4, B5, B6⟩, -⟩, ⟨⟨C0, C1, C2, C3, C4, C5, C6⟩, -⟩, -, -, -, hbe⟩ := HX1.out
  clear hb
  have HT1 := Lib.hid (rdT_three HX1.out.2.2.2.1 HX1.out.2.2.2.2.1 HX1.out.2.2.2.2.2.1)
  have hb := (Below.refl w1.heap.size w1).alloc (Nat.le_refl _) (.cells #[.int .i64 a.lf.1, (.slice a1 a.lf.2.length an1), .int .i64 a.rt.1, (.slice a2 a.rt.2.length an2), .int .i64 a.fr, .int .i64 a.to, (.slice a3 a.l.length an3), .int .i64 b.lf.1, (.slice b1 b.lf.2.length bn1), .int .i64 b.rt.1, (.slice b2 b.rt.2.length bn2), .int .i64 b.fr, .int .i64 b.to, (.slice b3 b.l.length bn3), .int .i64 c.lf.1, (.slice c1 c.lf.2.length cn1), .int .i64 c.rt.1, (.slice c2 c.rt.2.length cn2), .int .i64 c.fr, .int .i64 c.to, (.slice c3 c.l.length cn3)] 26)
  have HX1' := Lib.hid (And.intro (HX1.out.1.below hb) (And.intro (HX1.out.2.1.below hb) (And.intro (HX1.out.2.2.1.below hb) (And.intro (keepSt hb HX1.out.2.2.2.1) (And.intro (keepSt hb HX1.out.2.2.2.2.1) (And.intro (keepSt hb HX1.out.2.2.2.2.2.1) (keepBelow HX1.out.2.2.2.2.2.2 hb)))))))
  go_wp2_with fail
  refine (HLA.out _ _ _ HT1.out).mono ?_
  rintro e w2 ⟨rfl, hb⟩
  have HX2 := Lib.hid (And.intro (HX1'.out.1.below hb) (And.intro (HX1'.out.2.1.below hb) (And.intro (HX1'.out.2.2.1.below hb) (And.intro (keepSt hb HX1'.out.2.2.2.1) (And.intro (keepSt hb HX1'.out.2.2.2.2.1) (And.intro (keepSt hb HX1'.out.2.2.2.2.2.1) (keepBelow HX1'.out.2.2.2.2.2.2 hb)))))))
  clear A0 A1 A2 A3 A4 A5 A6 B0 B1 B2 B3 B4 B5 B6 C0 C1 C2 C3 C4 C5 C6 hbe
  obtain ⟨⟨⟨A0, A1, A2, A3, A4, A5, A6⟩, -⟩, ⟨⟨B0, B1, B2, B3, B4, B5, B6⟩, -⟩, ⟨⟨C0, C1, C2, C3, C4, C5, C6⟩, -⟩, -, -, -, hbe⟩ := HX2.out
  clear hb HT1 HX HX1 HX1'
  obtain ⟨lg, hlg⟩ : ∃ g, anyL [(a, .slice a1 a.lf.2.length an1, .slice a2 a.rt.2.length an2, .slice a3 a.l.length an3), (b, .slice b1 b.lf.2.length bn1, .slice b2 b.rt.2.length bn2, .slice b3 b.l.length bn3), (c, .slice c1 c.lf.2.length cn1, .slice c2 c.rt.2.length cn2, .slice c3 c.l.length cn3)] = g := ⟨_, rfl⟩
  rw [hlg]
  clear hlg
  cases lg with
  | true =>
    go_wp2
    go_ret
    exact ⟨rfl, hbe⟩
  | false =>
  obtain ⟨W3, hW3⟩ : ∃ W3, (w2.alloc (.cells #[.bool true] 4)).alloc (.cells #[.func (.func 48) #[] #[.pointer (some ⟨w2.heap.size, 0, none⟩)]] 68) = W3 := ⟨_, rfl⟩
  have hb : Below w2.heap.size w2 W3 := by rw [← hW3]; exact ((Below.refl _ _).alloc (Nat.le_refl _) _).alloc (by simp) _
  have hsz3 : W3.heap.size = w2.heap.size + 1 + 1 := by rw [← hW3]; simp
  have HX3 := Lib.hid (And.intro (HX2.out.1.below hb) (And.intro (HX2.out.2.1.below hb) (And.intro (HX2.out.2.2.1.below hb) (And.intro (keepSt hb HX2.out.2.2.2.1) (And.intro (keepSt hb HX2.out.2.2.2.2.1) (And.intro (keepSt hb HX2.out.2.2.2.2.2.1) (keepBelow HX2.out.2.2.2.2.2.2 hb)))))))
  clear A0 A1 A2 A3 A4 A5 A6 B0 B1 B2 B3 B4 B5 B6 C0 C1 C2 C3 C4 C5 C6 hbe
  have hA := World.block_lt_of_cell? w2 ⟨w.heap.size + 1 + 1, 0, none⟩ HX2.out.2.2.1.1.1
  have hA : w.heap.size + 1 + 1 < w2.heap.size := hA
  have hd : Below W3.heap.size W3 W3.drew := (Below.refl _ _).drew
  have HOne : Hid (OneB W3.drew w2.heap.size true) := by
    refine OneB.below (W := W3) ?_ hd
    rw [← hW3]
    exact ⟨by simp [go_sem], by simp [go_sem], fun o ho => by simp [go_sem]; omega⟩
  have HK2 : Hid (W3.drew.cell? ⟨w2.heap.size + 1, 0, none⟩ = some (.func (.func 48) #[] #[.pointer (some ⟨w2.heap.size, 0, none⟩)])) := by
    refine keepCell hd ?_
    rw [← hW3]
    simp [go_sem]
  have HNE : Hid ((w.heap.size ≠ w2.heap.size ∧ w.heap.size + 1 ≠ w2.heap.size ∧ w.heap.size + 1 + 1 ≠ w2.heap.size) ∧ w2.heap.size + 1 ≠ w2.heap.size ∧ w2.heap.size ≤ W3.drew.heap.size) := ⟨⟨by omega, by omega, by omega⟩, by omega, by show w2.heap.size ≤ W3.heap.size; omega⟩
  have HLE : Hid (w.heap.size ≤ w2.heap.size) := by show w.heap.size ≤ w2.heap.size; omega
  clear hb
  have hb := hd
  have HX3d := Lib.hid (And.intro (HX3.out.1.below hb) (And.intro (HX3.out.2.1.below hb) (And.intro (HX3.out.2.2.1.below hb) (And.intro (keepSt hb HX3.out.2.2.2.1) (And.intro (keepSt hb HX3.out.2.2.2.2.1) (And.intro (keepSt hb HX3.out.2.2.2.2.2.1) (keepBelow HX3.out.2.2.2.2.2.2 hb)))))))
  clear hb hA hd hsz3
  go_upto_region 10 with fail
  try rw [hW3]
  clear hW3
  go_cut [12, 13] from 33 to 46 (fun p q wx => StoV w2.heap.size (W3.drew.heap.size) (fun T => ∃ T1, (fun T => ∃ T1 T2, (fun T => T = a) T1 ∧ (fun T => T = b) T2 ∧ combM 0 T1 T2 = (T, 0)) T1 ∧ setNot T1 = (T, 0)) p wx ∧ StoV w2.heap.size (W3.drew.heap.size) (fun T => ∃ T1 T2, (fun T => ∃ T1, (fun T => T = a) T1 ∧ setNot T1 = (T, 0)) T1 ∧ (fun T => ∃ T1, (fun T => T = b) T1 ∧ setNot T1 = (T, 0)) T2 ∧ combM 1 T1 T2 = (T, 0)) q wx ∧ (∃ d, OneB wx w2.heap.size d) ∧ Stp w2.heap.size W3.drew wx ∧ OkDown w2.heap.size W3.drew wx)
  case first =>
    refine wp_region_any (by kernel_rfl) ?_
    change wpAny _ _ _ _ _ _ _ W3.drew
    obtain ⟨I, HIe⟩ : ∃ I : Array Bool → Act → World → Prop, I = fun (ls : Array Bool) (a9 : Act) (w9 : World) => ∃ u12 u13 u33 u34 u35 u36 u37 u38 u39 u40 u41 u42 u43 u44 u45 u46 : Value, ls.size = 18 ∧ a9 = ⟨#[.agg #[.int .i64 a.lf.1, (.slice a1 a.lf.2.length an1), .int .i64 a.rt.1, (.slice a2 a.rt.2.length an2), .int .i64 a.fr, .int .i64 a.to, (.slice a3 a.l.length an3)], .agg #[.int .i64 b.lf.1, (.slice b1 b.lf.2.length bn1), .int .i64 b.rt.1, (.slice b2 b.rt.2.length bn2), .int .i64 b.fr, .int .i64 b.to, (.slice b3 b.l.length bn3)], .agg #[.int .i64 c.lf.1, (.slice c1 c.lf.2.length cn1), .int .i64 c.rt.1, (.slice c2 c.rt.2.length cn2), .int .i64 c.fr, .int .i64 c.to, (.slice c3 c.l.length cn3)], .pointer (some ⟨w.heap.size, 0, none⟩), .pointer (some ⟨w.heap.size + 1, 0, none⟩), .pointer (some ⟨w.heap.size + 1 + 1, 0, none⟩), .bool false, .pointer (some ⟨w2.heap.size, 0, none⟩), .pointer (some ⟨w2.heap.size + 1, 0, none⟩), .func (.func 49) #[] #[.pointer (some ⟨w2.heap.size + 1, 0, none⟩)], .func (.func 51) #[] #[.pointer (some ⟨w2.heap.size + 1, 0, none⟩)], .func (.func 52) #[] #[.pointer (some ⟨w2.heap.size + 1, 0, none⟩)], u12, u13, undef, undef, undef, undef, undef, undef, undef, undef, .bool true, .bool false, .agg #[.int .i64 a.lf.1, (.slice a1 a.lf.2.length an1), .int .i64 a.rt.1, (.slice a2 a.rt.2.length an2), .int .i64 a.fr, .int .i64 a.to, (.slice a3 a.l.length an3)], .agg #[.int .i64 b.lf.1, (.slice b1 b.lf.2.length bn1), .int .i64 b.rt.1, (.slice b2 b.rt.2.length bn2), .int .i64 b.fr, .int .i64 b.to, (.slice b3 b.l.length bn3)], .agg #[.int .i64 c.lf.1, (.slice c1 c.lf.2.length cn1), .int .i64 c.rt.1, (.slice c2 c.rt.2.length cn2), .int .i64 c.fr, .int .i64 c.to, (.slice c3 c.l.length cn3)], .slice (some ⟨w1.heap.size, 0, none⟩) 3 3, .bool false, .func (.func 48) #[] #[.pointer (some ⟨w2.heap.size, 0, none⟩)], .func (.func 49) #[] #[.pointer (some ⟨w2.heap.size + 1, 0, none⟩)], .func (.func 51) #[] #[.pointer (some ⟨w2.heap.size + 1, 0, none⟩)], .func (.func 52) #[] #[.pointer (some ⟨w2.heap.size + 1, 0, none⟩)], u33, u34, u35, u36, u37, u38, u39, u40, u41, u42, u43, u44, u45, u46, undef, undef, undef, undef, undef, undef, undef, undef, undef, undef, undef, undef, undef, undef, undef, undef, undef, undef, undef, undef, undef, undef, undef, undef, undef, undef, undef, undef, undef, undef, undef, undef, undef, undef, undef, undef, undef, undef, undef, undef, undef, undef, undef, undef, undef, undef, undef, undef, undef, undef, undef, undef, undef, undef, undef, undef, undef, undef, undef, undef, undef, undef, undef, undef, undef, undef, undef, undef, undef, undef, undef, undef, undef, undef, undef, undef, undef, undef, undef, undef], []⟩ ∧ (∃ c, OneB w9 w2.heap.size c) ∧ Stp w2.heap.size W3.drew w9 ∧ OkDown w2.heap.size W3.drew w9 ∧ Hid (ls.getD 0 false = true → u33 = .func (.func 49) #[] #[.pointer (some ⟨w2.heap.size + 1, 0, none⟩)]) ∧ Hid (ls.getD 1 false = true → u34 = .func (.func 51) #[] #[.pointer (some ⟨w2.heap.size + 1, 0, none⟩)]) ∧ Hid (ls.getD 2 false = true → u35 = .agg #[.int .i64 a.lf.1, (.slice a1 a.lf.2.length an1), .int .i64 a.rt.1, (.slice a2 a.rt.2.length an2), .int .i64 a.fr, .int .i64 a.to, (.slice a3 a.l.length an3)]) ∧ Hid (ls.getD 3 false = true → u36 = .agg #[.int .i64 b.lf.1, (.slice b1 b.lf.2.length bn1), .int .i64 b.rt.1, (.slice b2 b.rt.2.length bn2), .int .i64 b.fr, .int .i64 b.to, (.slice b3 b.l.length bn3)]) ∧ Hid (ls.getD 4 false = true → SetV w2.heap.size (fun T => ∃ T1 T2, (fun T => T = a) T1 ∧ (fun T => T = b) T2 ∧ combM 0 T1 T2 = (T, 0)) u37 w9) ∧ Hid (ls.getD 5 false = true → SetV w2.heap.size (fun T => ∃ T1, (fun T => ∃ T1 T2, (fun T => T = a) T1 ∧ (fun T => T = b) T2 ∧ combM 0 T1 T2 = (T, 0)) T1 ∧ setNot T1 = (T, 0)) u38 w9) ∧ Hid (ls.getD 6 false = true → u39 = .func (.func 52) #[] #[.pointer (some ⟨w2.heap.size + 1, 0, none⟩)]) ∧ Hid (ls.getD 7 false = true → u40 = .func (.func 49) #[] #[.pointer (some ⟨w2.heap.size + 1, 0, none⟩)]) ∧ Hid (ls.getD 8 false = true → u41 = .agg #[.int .i64 a.lf.1, (.slice a1 a.lf.2.length an1), .int .i64 a.rt.1, (.slice a2 a.rt.2.length an2), .int .i64 a.fr, .int .i64 a.to, (.slice a3 a.l.length an3)]) ∧ Hid (ls.getD 9 false = true → SetV w2.heap.size (fun T => ∃ T1, (fun T => T = a) T1 ∧ setNot T1 = (T, 0)) u42 w9) ∧ Hid (ls.getD 10 false = true → u43 = .func (.func 49) #[] #[.pointer (some ⟨w2.heap.size + 1, 0, none⟩)]) ∧ Hid (ls.getD 11 false = true → u44 = .agg #[.int .i64 b.lf.1, (.slice b1 b.lf.2.length bn1), .int .i64 b.rt.1, (.slice b2 b.rt.2.length bn2), .int .i64 b.fr, .int .i64 b.to, (.slice b3 b.l.length bn3)]) ∧ Hid (ls.getD 12 false = true → SetV w2.heap.size (fun T => ∃ T1, (fun T => T = b) T1 ∧ setNot T1 = (T, 0)) u45 w9) ∧ Hid (ls.getD 13 false = true → SetV w2.heap.size (fun T => ∃ T1 T2, (fun T => ∃ T1, (fun T => T = a) T1 ∧ setNot T1 = (T, 0)) T1 ∧ (fun T => ∃ T1, (fun T => T = b) T1 ∧ setNot T1 = (T, 0)) T2 ∧ combM 1 T1 T2 = (T, 0)) u46 w9) ∧ Hid (ls.getD 14 false = true → (ls.getD 16 false = false → BoxV w2.heap.size (W3.drew.heap.size) u12 w9)) ∧ Hid (ls.getD 15 false = true → (ls.getD 17 false = false → BoxV w2.heap.size (W3.drew.heap.size) u13 w9)) ∧ Hid (ls.getD 16 false = true → StoV w2.heap.size (W3.drew.heap.size) (fun T => ∃ T1, (fun T => ∃ T1 T2, (fun T => T = a) T1 ∧ (fun T => T = b) T2 ∧ combM 0 T1 T2 = (T, 0)) T1 ∧ setNot T1 = (T, 0)) u12 w9) ∧ Hid (ls.getD 17 false = true → StoV w2.heap.size (W3.drew.heap.size) (fun T => ∃ T1 T2, (fun T => ∃ T1, (fun T => T = a) T1 ∧ setNot T1 = (T, 0)) T1 ∧ (fun T => ∃ T1, (fun T => T = b) T1 ∧ setNot T1 = (T, 0)) T2 ∧ combM 1 T1 T2 = (T, 0)) u13 w9) ∧ Hid (ls.getD 14 false = true → ls.getD 15 false = true → u12 ≠ u13) ∧ Hid (ls.getD 16 false = true → ls.getD 14 false = true) ∧ Hid (ls.getD 17 false = true → ls.getD 15 false = true) := ⟨_, rfl⟩
    have HIH := Lib.hid HIe
    clear HIe
    refine wpAny_inv I ?_ ?_ _ _ _ _ ?_ ?_
    case refine_3 =>
      rw [HIH.out]
      exact ⟨undef, undef, undef, undef, undef, undef, undef, undef, undef, undef, undef, undef, undef, undef, undef, undef, rfl, rfl, ⟨_, HOne.out⟩, Stp.refl _ _, (fun h => h), (fun h => by cases h), (fun h => by cases h), (fun h => by cases h), (fun h => by cases h), (fun h => by cases h), (fun h => by cases h), (fun h => by cases h), (fun h => by cases h), (fun h => by cases h), (fun h => by cases h), (fun h => by cases h), (fun h => by cases h), (fun h => by cases h), (fun h => by cases h), (fun h => by cases h), (fun h => by cases h), (fun h => by cases h), (fun h => by cases h), (fun h => by cases h), (fun h => by cases h), (fun h => by cases h)⟩
    case refine_4 => decide
    case refine_2 =>
      intro ls a9 w9 hI hr
      rw [HIH.out] at hI
      obtain ⟨u12, u13, u33, u34, u35, u36, u37, u38, u39, u40, u41, u42, u43, u44, u45, u46, hsz, rfl, ⟨c9, hO⟩, hS, hD, f0, f1, f2, f3, f4, f5, f6, f7, f8, f9, f10, f11, f12, f13, f14, f15, f16, f17, d12_13, i12, i13⟩ := hI
      have hall := all_listed hsz (by kernel_rfl) hr
      have g16 := f16.out (hall 16 (by decide))
      have g17 := f17.out (hall 17 (by decide))
      refine of_nil (P := Tryz.prog) ?_
      go_wp2_with fail
      go_meet
      case rel => exact ⟨g16, g17, ⟨_, hO⟩, hS, hD⟩

    case refine_1 =>
      intro ls a9 w9 i hI hi
      rw [HIH.out] at hI
      obtain ⟨u12, u13, u33, u34, u35, u36, u37, u38, u39, u40, u41, u42, u43, u44, u45, u46, hsz, rfl, ⟨c9, hO⟩, hS, hD, f0, f1, f2, f3, f4, f5, f6, f7, f8, f9, f10, f11, f12, f13, f14, f15, f16, f17, d12_13, i12, i13⟩ := hI
      obtain ⟨hj, op, hop, hall⟩ := mem_ready.1 hi
      have hlt := (Array.getElem?_eq_some_iff.1 hop).1
      have hlt : i < 18 := hlt
      have hsz' : (ls.setIfInBounds i true).size = 18 := by rw [Array.size_setIfInBounds]; exact hsz
      rcases (show i = 0 ∨ i = 1 ∨ i = 2 ∨ i = 3 ∨ i = 4 ∨ i = 5 ∨ i = 6 ∨ i = 7 ∨ i = 8 ∨ i = 9 ∨ i = 10 ∨ i = 11 ∨ i = 12 ∨ i = 13 ∨ i = 14 ∨ i = 15 ∨ i = 16 ∨ i = 17 by omega) with rfl | rfl | rfl | rfl | rfl | rfl | rfl | rfl | rfl | rfl | rfl | rfl | rfl | rfl | rfl | rfl | rfl | rfl
      · simp at hop
        subst hop
        refine wpOp_of_list (i := 0) rfl ?_
        go_wp2
        show I _ _ _
        rw [HIH.out]
        exact ⟨_, _, _, _, _, _, _, _, _, _, _, _, _, _, _, _, hsz', rfl, ⟨_, hO⟩, hS, hD, (fun _ => rfl), (gx f1), (gx f2), (gx f3), (gx f4), (gx f5), (gx f6), (gx f7), (gx f8), (gx f9), (gx f10), (gx f11), (gx f12), (gx f13), (gx2 f14), (gx2 f15), (gx f16), (gx f17), (gx2 d12_13), (gi i12), (gi i13)⟩
      · simp at hop
        subst hop
        refine wpOp_of_list (i := 1) rfl ?_
        go_wp2
        show I _ _ _
        rw [HIH.out]
        exact ⟨_, _, _, _, _, _, _, _, _, _, _, _, _, _, _, _, hsz', rfl, ⟨_, hO⟩, hS, hD, (gx f0), (fun _ => rfl), (gx f2), (gx f3), (gx f4), (gx f5), (gx f6), (gx f7), (gx f8), (gx f9), (gx f10), (gx f11), (gx f12), (gx f13), (gx2 f14), (gx2 f15), (gx f16), (gx f17), (gx2 d12_13), (gi i12), (gi i13)⟩
      · simp at hop
        subst hop
        refine wpOp_of_list (i := 2) rfl ?_
        obtain ⟨⟨A0, A1, A2, A3, A4, A5, A6⟩, -⟩ := hS.set7 HNE.out.1.1 HX3d.out.1
        go_wp2
        show I _ _ _
        rw [HIH.out]
        exact ⟨_, _, _, _, _, _, _, _, _, _, _, _, _, _, _, _, hsz', rfl, ⟨_, hO⟩, hS, hD, (gx f0), (gx f1), (fun _ => rfl), (gx f3), (gx f4), (gx f5), (gx f6), (gx f7), (gx f8), (gx f9), (gx f10), (gx f11), (gx f12), (gx f13), (gx2 f14), (gx2 f15), (gx f16), (gx f17), (gx2 d12_13), (gi i12), (gi i13)⟩
      · simp at hop
        subst hop
        refine wpOp_of_list (i := 3) rfl ?_
        obtain ⟨⟨A0, A1, A2, A3, A4, A5, A6⟩, -⟩ := hS.set7 HNE.out.1.2.1 HX3d.out.2.1
        go_wp2
        show I _ _ _
        rw [HIH.out]
        exact ⟨_, _, _, _, _, _, _, _, _, _, _, _, _, _, _, _, hsz', rfl, ⟨_, hO⟩, hS, hD, (gx f0), (gx f1), (gx f2), (fun _ => rfl), (gx f4), (gx f5), (gx f6), (gx f7), (gx f8), (gx f9), (gx f10), (gx f11), (gx f12), (gx f13), (gx2 f14), (gx2 f15), (gx f16), (gx f17), (gx2 d12_13), (gi i12), (gi i13)⟩
      · simp at hop
        subst hop
        refine wpOp_of_list (i := 4) rfl ?_
        have e1 := f1.out (hall ⟨1, .data⟩ (by simp) rfl)
        subst e1
        have e1 := f2.out (hall ⟨2, .data⟩ (by simp) rfl)
        have hr1 := hS.st HOne.out HX3d.out.2.2.2.1
        have e2 := f3.out (hall ⟨3, .data⟩ (by simp) rfl)
        have hr2 := hS.st HOne.out HX3d.out.2.2.2.2.1
        subst e1
        subst e2
        have hk9 := hS.cell HNE.out.2.1 HK2.out
        have hcall := lg_or a b (w2.heap.size) (w2.heap.size + 1) c9 _ _ _ _ _ _ w9 hO hk9 HNE.out.2.1 hr1 hr2
        go_wp2_with (go_at_call 51; refine hcall.mono ?_; rintro e' w8 ⟨vl, vr, vv, rfl, hr8, ho8, hs9⟩; obtain ⟨y1, ym1, rfl⟩ := hr8.1.form; obtain ⟨y2, ym2, rfl⟩ := hr8.2.1.form; obtain ⟨y3, ym3, rfl⟩ := hr8.2.2.form)
        have hd9 : OkDown w2.heap.size w9 w8 := fun hk => (down_call hO ho8 hk).1
        show I _ _ _
        rw [HIH.out]
        exact ⟨_, _, _, _, _, _, _, _, _, _, _, _, _, _, _, _, hsz', rfl, ⟨_, ho8⟩, hS.trans hs9, (fun h => hD (hd9 h)), (gx f0), (fun _ => rfl), (fun _ => rfl), (fun _ => rfl), (fun _ => ⟨(combM 0 a b).1, _, _, _, _, _, _, rfl, hr8, pos_comb, fun hk => ⟨a, b, rfl, rfl, Prod.ext rfl (down_call hO ho8 hk).2⟩⟩), (gs f5 hO hs9 hd9), (gx f6), (gx f7), (gx f8), (gs f9 hO hs9 hd9), (gx f10), (gx f11), (gs f12 hO hs9 hd9), (gs f13 hO hs9 hd9), (gp f14 hs9), (gp f15 hs9), (gy f16 hO hs9 hd9), (gy f17 hO hs9 hd9), (gx2 d12_13), (gi i12), (gi i13)⟩
      · simp at hop
        subst hop
        refine wpOp_of_list (i := 5) rfl ?_
        have e1 := f0.out (hall ⟨0, .data⟩ (by simp) rfl)
        subst e1
        obtain ⟨T1, x11, xm11, x12, xm12, x13, xm13, e1, hr1, hp1, hS1⟩ := f4.out (hall ⟨4, .data⟩ (by simp) rfl)
        subst e1
        have hk9 := hS.cell HNE.out.2.1 HK2.out
        have hcall := lg_not T1 (w2.heap.size) (w2.heap.size + 1) c9 _ _ _ w9 hO hk9 HNE.out.2.1 hr1
        go_wp2_with (go_at_call 49; refine hcall.mono ?_; rintro e' w8 ⟨vl, vr, vv, rfl, hr8, ho8, hs9⟩; obtain ⟨y1, ym1, rfl⟩ := hr8.1.form; obtain ⟨y2, ym2, rfl⟩ := hr8.2.1.form; obtain ⟨y3, ym3, rfl⟩ := hr8.2.2.form)
        have hd9 : OkDown w2.heap.size w9 w8 := fun hk => (down_call hO ho8 hk).1
        show I _ _ _
        rw [HIH.out]
        exact ⟨_, _, _, _, _, _, _, _, _, _, _, _, _, _, _, _, hsz', rfl, ⟨_, ho8⟩, hS.trans hs9, (fun h => hD (hd9 h)), (fun _ => rfl), (gx f1), (gx f2), (gx f3), (gs f4 hO hs9 hd9), (fun _ => ⟨(setNot T1).1, _, _, _, _, _, _, rfl, hr8, pos_not, fun hk => ⟨T1, hS1 (down_call hO ho8 hk).1, Prod.ext rfl (down_call hO ho8 hk).2⟩⟩), (gx f6), (gx f7), (gx f8), (gs f9 hO hs9 hd9), (gx f10), (gx f11), (gs f12 hO hs9 hd9), (gs f13 hO hs9 hd9), (gp f14 hs9), (gp f15 hs9), (gy f16 hO hs9 hd9), (gy f17 hO hs9 hd9), (gx2 d12_13), (gi i12), (gi i13)⟩
      · simp at hop
        subst hop
        refine wpOp_of_list (i := 6) rfl ?_
        go_wp2
        show I _ _ _
        rw [HIH.out]
        exact ⟨_, _, _, _, _, _, _, _, _, _, _, _, _, _, _, _, hsz', rfl, ⟨_, hO⟩, hS, hD, (gx f0), (gx f1), (gx f2), (gx f3), (gx f4), (gx f5), (fun _ => rfl), (gx f7), (gx f8), (gx f9), (gx f10), (gx f11), (gx f12), (gx f13), (gx2 f14), (gx2 f15), (gx f16), (gx f17), (gx2 d12_13), (gi i12), (gi i13)⟩
      · simp at hop
        subst hop
        refine wpOp_of_list (i := 7) rfl ?_
        go_wp2
        show I _ _ _
        rw [HIH.out]
        exact ⟨_, _, _, _, _, _, _, _, _, _, _, _, _, _, _, _, hsz', rfl, ⟨_, hO⟩, hS, hD, (gx f0), (gx f1), (gx f2), (gx f3), (gx f4), (gx f5), (gx f6), (fun _ => rfl), (gx f8), (gx f9), (gx f10), (gx f11), (gx f12), (gx f13), (gx2 f14), (gx2 f15), (gx f16), (gx f17), (gx2 d12_13), (gi i12), (gi i13)⟩
      · simp at hop
        subst hop
        refine wpOp_of_list (i := 8) rfl ?_
        obtain ⟨⟨A0, A1, A2, A3, A4, A5, A6⟩, -⟩ := hS.set7 HNE.out.1.1 HX3d.out.1
        go_wp2
        show I _ _ _
        rw [HIH.out]
        exact ⟨_, _, _, _, _, _, _, _, _, _, _, _, _, _, _, _, hsz', rfl, ⟨_, hO⟩, hS, hD, (gx f0), (gx f1), (gx f2), (gx f3), (gx f4), (gx f5), (gx f6), (gx f7), (fun _ => rfl), (gx f9), (gx f10), (gx f11), (gx f12), (gx f13), (gx2 f14), (gx2 f15), (gx f16), (gx f17), (gx2 d12_13), (gi i12), (gi i13)⟩
      · simp at hop
        subst hop
        refine wpOp_of_list (i := 9) rfl ?_
        have e1 := f7.out (hall ⟨7, .data⟩ (by simp) rfl)
        subst e1
        have e1 := f8.out (hall ⟨8, .data⟩ (by simp) rfl)
        have hr1 := hS.st HOne.out HX3d.out.2.2.2.1
        subst e1
        have hk9 := hS.cell HNE.out.2.1 HK2.out
        have hcall := lg_not a (w2.heap.size) (w2.heap.size + 1) c9 _ _ _ w9 hO hk9 HNE.out.2.1 hr1
        go_wp2_with (go_at_call 49; refine hcall.mono ?_; rintro e' w8 ⟨vl, vr, vv, rfl, hr8, ho8, hs9⟩; obtain ⟨y1, ym1, rfl⟩ := hr8.1.form; obtain ⟨y2, ym2, rfl⟩ := hr8.2.1.form; obtain ⟨y3, ym3, rfl⟩ := hr8.2.2.form)
        have hd9 : OkDown w2.heap.size w9 w8 := fun hk => (down_call hO ho8 hk).1
        show I _ _ _
        rw [HIH.out]
        exact ⟨_, _, _, _, _, _, _, _, _, _, _, _, _, _, _, _, hsz', rfl, ⟨_, ho8⟩, hS.trans hs9, (fun h => hD (hd9 h)), (gx f0), (gx f1), (gx f2), (gx f3), (gs f4 hO hs9 hd9), (gs f5 hO hs9 hd9), (gx f6), (fun _ => rfl), (fun _ => rfl), (fun _ => ⟨(setNot a).1, _, _, _, _, _, _, rfl, hr8, pos_not, fun hk => ⟨a, rfl, Prod.ext rfl (down_call hO ho8 hk).2⟩⟩), (gx f10), (gx f11), (gs f12 hO hs9 hd9), (gs f13 hO hs9 hd9), (gp f14 hs9), (gp f15 hs9), (gy f16 hO hs9 hd9), (gy f17 hO hs9 hd9), (gx2 d12_13), (gi i12), (gi i13)⟩
      · simp at hop
        subst hop
        refine wpOp_of_list (i := 10) rfl ?_
        go_wp2
        show I _ _ _
        rw [HIH.out]
        exact ⟨_, _, _, _, _, _, _, _, _, _, _, _, _, _, _, _, hsz', rfl, ⟨_, hO⟩, hS, hD, (gx f0), (gx f1), (gx f2), (gx f3), (gx f4), (gx f5), (gx f6), (gx f7), (gx f8), (gx f9), (fun _ => rfl), (gx f11), (gx f12), (gx f13), (gx2 f14), (gx2 f15), (gx f16), (gx f17), (gx2 d12_13), (gi i12), (gi i13)⟩
      · simp at hop
        subst hop
        refine wpOp_of_list (i := 11) rfl ?_
        obtain ⟨⟨A0, A1, A2, A3, A4, A5, A6⟩, -⟩ := hS.set7 HNE.out.1.2.1 HX3d.out.2.1
        go_wp2
        show I _ _ _
        rw [HIH.out]
        exact ⟨_, _, _, _, _, _, _, _, _, _, _, _, _, _, _, _, hsz', rfl, ⟨_, hO⟩, hS, hD, (gx f0), (gx f1), (gx f2), (gx f3), (gx f4), (gx f5), (gx f6), (gx f7), (gx f8), (gx f9), (gx f10), (fun _ => rfl), (gx f12), (gx f13), (gx2 f14), (gx2 f15), (gx f16), (gx f17), (gx2 d12_13), (gi i12), (gi i13)⟩
      · simp at hop
        subst hop
        refine wpOp_of_list (i := 12) rfl ?_
        have e1 := f10.out (hall ⟨10, .data⟩ (by simp) rfl)
        subst e1
        have e1 := f11.out (hall ⟨11, .data⟩ (by simp) rfl)
        have hr1 := hS.st HOne.out HX3d.out.2.2.2.2.1
        subst e1
        have hk9 := hS.cell HNE.out.2.1 HK2.out
        have hcall := lg_not b (w2.heap.size) (w2.heap.size + 1) c9 _ _ _ w9 hO hk9 HNE.out.2.1 hr1
        go_wp2_with (go_at_call 49; refine hcall.mono ?_; rintro e' w8 ⟨vl, vr, vv, rfl, hr8, ho8, hs9⟩; obtain ⟨y1, ym1, rfl⟩ := hr8.1.form; obtain ⟨y2, ym2, rfl⟩ := hr8.2.1.form; obtain ⟨y3, ym3, rfl⟩ := hr8.2.2.form)
        have hd9 : OkDown w2.heap.size w9 w8 := fun hk => (down_call hO ho8 hk).1
        show I _ _ _
        rw [HIH.out]
        exact ⟨_, _, _, _, _, _, _, _, _, _, _, _, _, _, _, _, hsz', rfl, ⟨_, ho8⟩, hS.trans hs9, (fun h => hD (hd9 h)), (gx f0), (gx f1), (gx f2), (gx f3), (gs f4 hO hs9 hd9), (gs f5 hO hs9 hd9), (gx f6), (gx f7), (gx f8), (gs f9 hO hs9 hd9), (fun _ => rfl), (fun _ => rfl), (fun _ => ⟨(setNot b).1, _, _, _, _, _, _, rfl, hr8, pos_not, fun hk => ⟨b, rfl, Prod.ext rfl (down_call hO ho8 hk).2⟩⟩), (gs f13 hO hs9 hd9), (gp f14 hs9), (gp f15 hs9), (gy f16 hO hs9 hd9), (gy f17 hO hs9 hd9), (gx2 d12_13), (gi i12), (gi i13)⟩
      · simp at hop
        subst hop
        refine wpOp_of_list (i := 13) rfl ?_
        have e1 := f6.out (hall ⟨6, .data⟩ (by simp) rfl)
        subst e1
        obtain ⟨T1, x11, xm11, x12, xm12, x13, xm13, e1, hr1, hp1, hS1⟩ := f9.out (hall ⟨9, .data⟩ (by simp) rfl)
        obtain ⟨T2, x21, xm21, x22, xm22, x23, xm23, e2, hr2, hp2, hS2⟩ := f12.out (hall ⟨12, .data⟩ (by simp) rfl)
        subst e1
        subst e2
        have hk9 := hS.cell HNE.out.2.1 HK2.out
        have hcall := lg_and T1 T2 (w2.heap.size) (w2.heap.size + 1) c9 _ _ _ _ _ _ w9 hO hk9 HNE.out.2.1 hr1 hr2
        go_wp2_with (go_at_call 52; refine hcall.mono ?_; rintro e' w8 ⟨vl, vr, vv, rfl, hr8, ho8, hs9⟩; obtain ⟨y1, ym1, rfl⟩ := hr8.1.form; obtain ⟨y2, ym2, rfl⟩ := hr8.2.1.form; obtain ⟨y3, ym3, rfl⟩ := hr8.2.2.form)
        have hd9 : OkDown w2.heap.size w9 w8 := fun hk => (down_call hO ho8 hk).1
        show I _ _ _
        rw [HIH.out]
        exact ⟨_, _, _, _, _, _, _, _, _, _, _, _, _, _, _, _, hsz', rfl, ⟨_, ho8⟩, hS.trans hs9, (fun h => hD (hd9 h)), (gx f0), (gx f1), (gx f2), (gx f3), (gs f4 hO hs9 hd9), (gs f5 hO hs9 hd9), (fun _ => rfl), (gx f7), (gx f8), (gs f9 hO hs9 hd9), (gx f10), (gx f11), (gs f12 hO hs9 hd9), (fun _ => ⟨(combM 1 T1 T2).1, _, _, _, _, _, _, rfl, hr8, pos_comb, fun hk => ⟨T1, T2, hS1 (down_call hO ho8 hk).1, hS2 (down_call hO ho8 hk).1, Prod.ext rfl (down_call hO ho8 hk).2⟩⟩), (gp f14 hs9), (gp f15 hs9), (gy f16 hO hs9 hd9), (gy f17 hO hs9 hd9), (gx2 d12_13), (gi i12), (gi i13)⟩
      · simp at hop
        subst hop
        refine wpOp_of_list (i := 14) rfl ?_
        have hna : ls.getD 14 false = false := by
          cases hq : ls.getD 14 false with
          | false => rfl
          | true =>
            have hq2 := getD_false hj
            rw [Array.getD_eq_getD_getElem?, hq2] at hq
            cases hq
        have hb9 : Below w9.heap.size w9 (w9.alloc (.cells #[.int .i64 0, .slice none 0 0, .int .i64 0, .slice none 0 0, .int .i64 0, .int .i64 0, .slice none 0 0] 26)) := (Below.refl _ _).alloc (Nat.le_refl _) _
        have hkl := hO.lt
        have hs9 : Stp w2.heap.size w9 _ := Stp.of (Nat.le_of_lt hkl) hb9
        have ho9 := hO.below hb9
        have hd9 : OkDown w2.heap.size w9 (w9.alloc (.cells #[.int .i64 0, .slice none 0 0, .int .i64 0, .slice none 0 0, .int .i64 0, .int .i64 0, .slice none 0 0] 26)) := fun hk => by
          unfold okw at *
          rw [ho9.1] at hk
          rw [hO.1, hk]
        have hzb := ZB.new w9
        have hn0 : W3.drew.heap.size ≤ w9.heap.size := hS.1.size
        have newne12_13 : ∀ (_ : (ls.setIfInBounds 14 true).getD 14 false = true) (h : ls.getD 15 false = true), (.pointer (some ⟨w9.heap.size, 0, none⟩) : Value) ≠ u13 := by
          intro h h'
          have hx : ls.getD 15 false = true := by first | exact h | exact h'
          cases hst : ls.getD 17 false with
          | true =>
            obtain ⟨b, T, q1, q2, q3, q4, q5, q6, eb, _, _, h7, _⟩ := f17.out hst
            have hbl := World.block_lt_of_cell? w9 ⟨b, 0, none⟩ h7.1.1
            have hbl : b < w9.heap.size := hbl
            rw [eb]
            intro hh
            injection hh with hh
            injection hh with hh
            injection hh with hh
            omega
          | false =>
            obtain ⟨b, eb, _, _, h7⟩ := f15.out hx hst
            have hbl := World.block_lt_of_cell? w9 ⟨b, 0, none⟩ h7.1.1.1
            have hbl : b < w9.heap.size := hbl
            rw [eb]
            intro hh
            injection hh with hh
            injection hh with hh
            injection hh with hh
            omega
        go_wp2
        show I _ _ _
        rw [HIH.out]
        exact ⟨_, _, _, _, _, _, _, _, _, _, _, _, _, _, _, _, hsz', rfl, ⟨_, ho9⟩, hS.trans hs9, (fun h => hD (hd9 h)), (gx f0), (gx f1), (gx f2), (gx f3), (gs f4 hO hs9 hd9), (gs f5 hO hs9 hd9), (gx f6), (gx f7), (gx f8), (gs f9 hO hs9 hd9), (gx f10), (gx f11), (gs f12 hO hs9 hd9), (gs f13 hO hs9 hd9), (fun _ _ => ⟨w9.heap.size, rfl, hn0, by omega, hzb⟩), (gp f15 hs9), (gn i12 hna), (gy f17 hO hs9 hd9), (fun h h' => newne12_13 (by first | exact h | exact gd h) (by first | exact h' | exact gd h')), (fun _ => getD_self (by omega)), (gi i13)⟩
      · simp at hop
        subst hop
        refine wpOp_of_list (i := 15) rfl ?_
        have hna : ls.getD 15 false = false := by
          cases hq : ls.getD 15 false with
          | false => rfl
          | true =>
            have hq2 := getD_false hj
            rw [Array.getD_eq_getD_getElem?, hq2] at hq
            cases hq
        have hb9 : Below w9.heap.size w9 (w9.alloc (.cells #[.int .i64 0, .slice none 0 0, .int .i64 0, .slice none 0 0, .int .i64 0, .int .i64 0, .slice none 0 0] 26)) := (Below.refl _ _).alloc (Nat.le_refl _) _
        have hkl := hO.lt
        have hs9 : Stp w2.heap.size w9 _ := Stp.of (Nat.le_of_lt hkl) hb9
        have ho9 := hO.below hb9
        have hd9 : OkDown w2.heap.size w9 (w9.alloc (.cells #[.int .i64 0, .slice none 0 0, .int .i64 0, .slice none 0 0, .int .i64 0, .int .i64 0, .slice none 0 0] 26)) := fun hk => by
          unfold okw at *
          rw [ho9.1] at hk
          rw [hO.1, hk]
        have hzb := ZB.new w9
        have hn0 : W3.drew.heap.size ≤ w9.heap.size := hS.1.size
        have newne12_13 : ∀ (h : ls.getD 14 false = true) (_ : (ls.setIfInBounds 15 true).getD 15 false = true), u12 ≠ (.pointer (some ⟨w9.heap.size, 0, none⟩) : Value) := by
          intro h h'
          have hx : ls.getD 14 false = true := by first | exact h | exact h'
          cases hst : ls.getD 16 false with
          | true =>
            obtain ⟨b, T, q1, q2, q3, q4, q5, q6, eb, _, _, h7, _⟩ := f16.out hst
            have hbl := World.block_lt_of_cell? w9 ⟨b, 0, none⟩ h7.1.1
            have hbl : b < w9.heap.size := hbl
            rw [eb]
            intro hh
            injection hh with hh
            injection hh with hh
            injection hh with hh
            omega
          | false =>
            obtain ⟨b, eb, _, _, h7⟩ := f14.out hx hst
            have hbl := World.block_lt_of_cell? w9 ⟨b, 0, none⟩ h7.1.1.1
            have hbl : b < w9.heap.size := hbl
            rw [eb]
            intro hh
            injection hh with hh
            injection hh with hh
            injection hh with hh
            omega
        go_wp2
        show I _ _ _
        rw [HIH.out]
        exact ⟨_, _, _, _, _, _, _, _, _, _, _, _, _, _, _, _, hsz', rfl, ⟨_, ho9⟩, hS.trans hs9, (fun h => hD (hd9 h)), (gx f0), (gx f1), (gx f2), (gx f3), (gs f4 hO hs9 hd9), (gs f5 hO hs9 hd9), (gx f6), (gx f7), (gx f8), (gs f9 hO hs9 hd9), (gx f10), (gx f11), (gs f12 hO hs9 hd9), (gs f13 hO hs9 hd9), (gp f14 hs9), (fun _ _ => ⟨w9.heap.size, rfl, hn0, by omega, hzb⟩), (gy f16 hO hs9 hd9), (gn i13 hna), (fun h h' => newne12_13 (by first | exact h | exact gd h) (by first | exact h' | exact gd h')), (gi i12), (fun _ => getD_self (by omega))⟩
      · simp at hop
        subst hop
        refine wpOp_of_list (i := 16) rfl ?_
        have hns : ls.getD 16 false = false := by
          cases hq : ls.getD 16 false with
          | false => rfl
          | true =>
            have hq2 := getD_false hj
            rw [Array.getD_eq_getD_getElem?, hq2] at hq
            cases hq
        have hla := hall ⟨14, .data⟩ (by simp) rfl
        obtain ⟨b, T, q1, q2, q3, q4, q5, q6, e1, hb1, hbk, e2, hzb, hs9, hst⟩ := (f14.out hla hns).put (f5.out (hall ⟨5, .data⟩ (by simp) rfl))
        have hkb : w2.heap.size ≠ b := fun q => hbk q.symm
        have hkl := hO.lt
        have ho9 : OneB (put7 w9 b (.int .i64 T.lf.1) (.slice q1 T.lf.2.length q2) (.int .i64 T.rt.1) (.slice q3 T.rt.2.length q4) (.int .i64 T.fr) (.int .i64 T.to) (.slice q5 T.l.length q6)) w2.heap.size c9 := hO.put7 hbk _ _ _ _ _ _ _
        have hS9 := hS.put7 (b := b) hb1 (by have := hS.1.size; have := HNE.out.2.2; omega) (.int .i64 T.lf.1) (.slice q1 T.lf.2.length q2) (.int .i64 T.rt.1) (.slice q3 T.rt.2.length q4) (.int .i64 T.fr) (.int .i64 T.to) (.slice q5 T.l.length q6)
        have hne13 : ls.getD 15 false = true → u13 ≠ .pointer (some ⟨b, 0, none⟩) := fun h => by rw [← e1]; exact fun q => d12_13.out hla h q.symm
        obtain ⟨⟨⟨Z0, Z1, Z2, Z3, Z4, Z5, Z6⟩, K0, K1, K2, K3, K4, K5, K6⟩, -⟩ := hzb
        subst e1 e2
        go_wp2
        show I _ _ _
        rw [HIH.out]
        exact ⟨_, _, _, _, _, _, _, _, _, _, _, _, _, _, _, _, hsz', rfl, ⟨_, ho9⟩, hS9, (fun h => hD (hs9.okw hkb h)), (gx f0), (gx f1), (gx f2), (gx f3), (gt f4 hs9 hkb), (gt f5 hs9 hkb), (gx f6), (gx f7), (gx f8), (gt f9 hs9 hkb), (gx f10), (gx f11), (gt f12 hs9 hkb), (gt f13 hs9 hkb), (go1 (by omega)), (gq f15 hs9 hne13), (fun _ => hst), (gz f17 hs9 hkb hne13 i13), (gx2 d12_13), (fun _ => by rw [getD_ne (by decide)]; exact hla), (gi i13)⟩
      · simp at hop
        subst hop
        refine wpOp_of_list (i := 17) rfl ?_
        have hns : ls.getD 17 false = false := by
          cases hq : ls.getD 17 false with
          | false => rfl
          | true =>
            have hq2 := getD_false hj
            rw [Array.getD_eq_getD_getElem?, hq2] at hq
            cases hq
        have hla := hall ⟨15, .data⟩ (by simp) rfl
        obtain ⟨b, T, q1, q2, q3, q4, q5, q6, e1, hb1, hbk, e2, hzb, hs9, hst⟩ := (f15.out hla hns).put (f13.out (hall ⟨13, .data⟩ (by simp) rfl))
        have hkb : w2.heap.size ≠ b := fun q => hbk q.symm
        have hkl := hO.lt
        have ho9 : OneB (put7 w9 b (.int .i64 T.lf.1) (.slice q1 T.lf.2.length q2) (.int .i64 T.rt.1) (.slice q3 T.rt.2.length q4) (.int .i64 T.fr) (.int .i64 T.to) (.slice q5 T.l.length q6)) w2.heap.size c9 := hO.put7 hbk _ _ _ _ _ _ _
        have hS9 := hS.put7 (b := b) hb1 (by have := hS.1.size; have := HNE.out.2.2; omega) (.int .i64 T.lf.1) (.slice q1 T.lf.2.length q2) (.int .i64 T.rt.1) (.slice q3 T.rt.2.length q4) (.int .i64 T.fr) (.int .i64 T.to) (.slice q5 T.l.length q6)
        have hne12 : ls.getD 14 false = true → u12 ≠ .pointer (some ⟨b, 0, none⟩) := fun h => by rw [← e1]; exact d12_13.out h hla
        obtain ⟨⟨⟨Z0, Z1, Z2, Z3, Z4, Z5, Z6⟩, K0, K1, K2, K3, K4, K5, K6⟩, -⟩ := hzb
        subst e1 e2
        go_wp2
        show I _ _ _
        rw [HIH.out]
        exact ⟨_, _, _, _, _, _, _, _, _, _, _, _, _, _, _, _, hsz', rfl, ⟨_, ho9⟩, hS9, (fun h => hD (hs9.okw hkb h)), (gx f0), (gx f1), (gx f2), (gx f3), (gt f4 hs9 hkb), (gt f5 hs9 hkb), (gx f6), (gx f7), (gx f8), (gt f9 hs9 hkb), (gx f10), (gx f11), (gt f12 hs9 hkb), (gt f13 hs9 hkb), (gq f14 hs9 hne12), (go1 (by omega)), (gz f16 hs9 hkb hne12 i12), (fun _ => hst), (gx2 d12_13), (gi i12), (fun _ => by rw [getD_ne (by decide)]; exact hla)⟩
  case rest =>
  generalize wc = W4 at *
  obtain ⟨hxu12, hxu13, ⟨dd4, hO⟩, hS, hD⟩ := hcut
  have hd : Below W4.heap.size W4 W4.drew := (Below.refl _ _).drew
  have hkl := hO.lt
  have hSd := hS.trans (Stp.of (Nat.le_of_lt hkl) hd)
  have HOne4 : Hid (OneB W4.drew w2.heap.size dd4) := hO.below hd
  have HX4 : Hid (Set7 W4.drew w.heap.size (.int .i64 a.lf.1) (.slice a1 a.lf.2.length an1) (.int .i64 a.rt.1) (.slice a2 a.rt.2.length an2) (.int .i64 a.fr) (.int .i64 a.to) (.slice a3 a.l.length an3) ∧ Set7 W4.drew (w.heap.size + 1) (.int .i64 b.lf.1) (.slice b1 b.lf.2.length bn1) (.int .i64 b.rt.1) (.slice b2 b.rt.2.length bn2) (.int .i64 b.fr) (.int .i64 b.to) (.slice b3 b.l.length bn3) ∧ Set7 W4.drew (w.heap.size + 1 + 1) (.int .i64 c.lf.1) (.slice c1 c.lf.2.length cn1) (.int .i64 c.rt.1) (.slice c2 c.rt.2.length cn2) (.int .i64 c.fr) (.int .i64 c.to) (.slice c3 c.l.length cn3) ∧ RdSt W4.drew a (.slice a1 a.lf.2.length an1) (.slice a2 a.rt.2.length an2) (.slice a3 a.l.length an3) ∧ RdSt W4.drew b (.slice b1 b.lf.2.length bn1) (.slice b2 b.rt.2.length bn2) (.slice b3 b.l.length bn3) ∧ RdSt W4.drew c (.slice c1 c.lf.2.length cn1) (.slice c2 c.rt.2.length cn2) (.slice c3 c.l.length cn3)) := ⟨hSd.set7 HNE.out.1.1 HX3d.out.1, hSd.set7 HNE.out.1.2.1 HX3d.out.2.1, hSd.set7 HNE.out.1.2.2 HX3d.out.2.2.1, hSd.st HOne.out HX3d.out.2.2.2.1, hSd.st HOne.out HX3d.out.2.2.2.2.1, hSd.st HOne.out HX3d.out.2.2.2.2.2.1⟩
  have HK4 := Lib.hid (hSd.cell HNE.out.2.1 HK2.out)
  have HW4 : Hid (w2.heap.size ≤ W4.drew.heap.size) := Nat.le_of_lt hkl
  have HD4 : Hid (OkDown w2.heap.size W3.drew W4.drew) := hD
  have HTu12 : Hid (StoV w2.heap.size (W3.drew.heap.size) (fun T => ∃ T1, (fun T => ∃ T1 T2, (fun T => T = a) T1 ∧ (fun T => T = b) T2 ∧ combM 0 T1 T2 = (T, 0)) T1 ∧ setNot T1 = (T, 0)) u12 W4.drew) := hxu12.stp hO (Stp.of (Nat.le_of_lt hkl) hd) (fun h => h)
  have HTu13 : Hid (StoV w2.heap.size (W3.drew.heap.size) (fun T => ∃ T1 T2, (fun T => ∃ T1, (fun T => T = a) T1 ∧ setNot T1 = (T, 0)) T1 ∧ (fun T => ∃ T1, (fun T => T = b) T1 ∧ setNot T1 = (T, 0)) T2 ∧ combM 1 T1 T2 = (T, 0)) u13 W4.drew) := hxu13.stp hO (Stp.of (Nat.le_of_lt hkl) hd) (fun h => h)
  have HSd4 := Lib.hid hSd
  clear hO hS hD hd hkl hSd hxu12 hxu13
  go_upto_region 11 with fail
  go_cut [14, 15] from 47 to 63 (fun p2 q2 wx => StoV w2.heap.size (W4.drew.heap.size) (fun T => ∃ T1 T2, (fun T => T = a) T1 ∧ (fun T => ∃ T1 T2, (fun T => T = b) T1 ∧ (fun T => T = c) T2 ∧ combM 0 T1 T2 = (T, 0)) T2 ∧ combM 1 T1 T2 = (T, 0)) p2 wx ∧ StoV w2.heap.size (W4.drew.heap.size) (fun T => ∃ T1 T2, (fun T => ∃ T1 T2, (fun T => T = a) T1 ∧ (fun T => T = b) T2 ∧ combM 1 T1 T2 = (T, 0)) T1 ∧ (fun T => ∃ T1 T2, (fun T => T = a) T1 ∧ (fun T => T = c) T2 ∧ combM 1 T1 T2 = (T, 0)) T2 ∧ combM 0 T1 T2 = (T, 0)) q2 wx ∧ (∃ d, OneB wx w2.heap.size d) ∧ Stp w2.heap.size W4.drew wx ∧ OkDown w2.heap.size W4.drew wx)
  case first =>
    refine wp_region_any (by kernel_rfl) ?_
    change wpAny _ _ _ _ _ _ _ W4.drew
    obtain ⟨I, HIe⟩ : ∃ I : Array Bool → Act → World → Prop, I = fun (ls : Array Bool) (a9 : Act) (w9 : World) => ∃ u14 u15 u47 u48 u49 u50 u51 u52 u53 u54 u55 u56 u57 u58 u59 u60 u61 u62 u63 : Value, ls.size = 21 ∧ a9 = ⟨#[.agg #[.int .i64 a.lf.1, (.slice a1 a.lf.2.length an1), .int .i64 a.rt.1, (.slice a2 a.rt.2.length an2), .int .i64 a.fr, .int .i64 a.to, (.slice a3 a.l.length an3)], .agg #[.int .i64 b.lf.1, (.slice b1 b.lf.2.length bn1), .int .i64 b.rt.1, (.slice b2 b.rt.2.length bn2), .int .i64 b.fr, .int .i64 b.to, (.slice b3 b.l.length bn3)], .agg #[.int .i64 c.lf.1, (.slice c1 c.lf.2.length cn1), .int .i64 c.rt.1, (.slice c2 c.rt.2.length cn2), .int .i64 c.fr, .int .i64 c.to, (.slice c3 c.l.length cn3)], .pointer (some ⟨w.heap.size, 0, none⟩), .pointer (some ⟨w.heap.size + 1, 0, none⟩), .pointer (some ⟨w.heap.size + 1 + 1, 0, none⟩), .bool false, .pointer (some ⟨w2.heap.size, 0, none⟩), .pointer (some ⟨w2.heap.size + 1, 0, none⟩), .func (.func 49) #[] #[.pointer (some ⟨w2.heap.size + 1, 0, none⟩)], .func (.func 51) #[] #[.pointer (some ⟨w2.heap.size + 1, 0, none⟩)], .func (.func 52) #[] #[.pointer (some ⟨w2.heap.size + 1, 0, none⟩)], u12, u13, u14, u15, undef, undef, undef, undef, undef, undef, .bool true, .bool false, .agg #[.int .i64 a.lf.1, (.slice a1 a.lf.2.length an1), .int .i64 a.rt.1, (.slice a2 a.rt.2.length an2), .int .i64 a.fr, .int .i64 a.to, (.slice a3 a.l.length an3)], .agg #[.int .i64 b.lf.1, (.slice b1 b.lf.2.length bn1), .int .i64 b.rt.1, (.slice b2 b.rt.2.length bn2), .int .i64 b.fr, .int .i64 b.to, (.slice b3 b.l.length bn3)], .agg #[.int .i64 c.lf.1, (.slice c1 c.lf.2.length cn1), .int .i64 c.rt.1, (.slice c2 c.rt.2.length cn2), .int .i64 c.fr, .int .i64 c.to, (.slice c3 c.l.length cn3)], .slice (some ⟨w1.heap.size, 0, none⟩) 3 3, .bool false, .func (.func 48) #[] #[.pointer (some ⟨w2.heap.size, 0, none⟩)], .func (.func 49) #[] #[.pointer (some ⟨w2.heap.size + 1, 0, none⟩)], .func (.func 51) #[] #[.pointer (some ⟨w2.heap.size + 1, 0, none⟩)], .func (.func 52) #[] #[.pointer (some ⟨w2.heap.size + 1, 0, none⟩)], u33, u34, u35, u36, u37, u38, u39, u40, u41, u42, u43, u44, u45, u46, u47, u48, u49, u50, u51, u52, u53, u54, u55, u56, u57, u58, u59, u60, u61, u62, u63, undef, undef, undef, undef, undef, undef, undef, undef, undef, undef, undef, undef, undef, undef, undef, undef, undef, undef, undef, undef, undef, undef, undef, undef, undef, undef, undef, undef, undef, undef, undef, undef, undef, undef, undef, undef, undef, undef, undef, undef, undef, undef, undef, undef, undef, undef, undef, undef, undef, undef, undef, undef, undef, undef, undef, undef, undef, undef, undef, undef, undef, undef, undef], []⟩ ∧ (∃ c, OneB w9 w2.heap.size c) ∧ Stp w2.heap.size W4.drew w9 ∧ OkDown w2.heap.size W4.drew w9 ∧ Hid (ls.getD 0 false = true → u47 = .func (.func 52) #[] #[.pointer (some ⟨w2.heap.size + 1, 0, none⟩)]) ∧ Hid (ls.getD 1 false = true → u48 = .agg #[.int .i64 a.lf.1, (.slice a1 a.lf.2.length an1), .int .i64 a.rt.1, (.slice a2 a.rt.2.length an2), .int .i64 a.fr, .int .i64 a.to, (.slice a3 a.l.length an3)]) ∧ Hid (ls.getD 2 false = true → u49 = .func (.func 51) #[] #[.pointer (some ⟨w2.heap.size + 1, 0, none⟩)]) ∧ Hid (ls.getD 3 false = true → u50 = .agg #[.int .i64 b.lf.1, (.slice b1 b.lf.2.length bn1), .int .i64 b.rt.1, (.slice b2 b.rt.2.length bn2), .int .i64 b.fr, .int .i64 b.to, (.slice b3 b.l.length bn3)]) ∧ Hid (ls.getD 4 false = true → u51 = .agg #[.int .i64 c.lf.1, (.slice c1 c.lf.2.length cn1), .int .i64 c.rt.1, (.slice c2 c.rt.2.length cn2), .int .i64 c.fr, .int .i64 c.to, (.slice c3 c.l.length cn3)]) ∧ Hid (ls.getD 5 false = true → SetV w2.heap.size (fun T => ∃ T1 T2, (fun T => T = b) T1 ∧ (fun T => T = c) T2 ∧ combM 0 T1 T2 = (T, 0)) u52 w9) ∧ Hid (ls.getD 6 false = true → SetV w2.heap.size (fun T => ∃ T1 T2, (fun T => T = a) T1 ∧ (fun T => ∃ T1 T2, (fun T => T = b) T1 ∧ (fun T => T = c) T2 ∧ combM 0 T1 T2 = (T, 0)) T2 ∧ combM 1 T1 T2 = (T, 0)) u53 w9) ∧ Hid (ls.getD 7 false = true → u54 = .func (.func 51) #[] #[.pointer (some ⟨w2.heap.size + 1, 0, none⟩)]) ∧ Hid (ls.getD 8 false = true → u55 = .func (.func 52) #[] #[.pointer (some ⟨w2.heap.size + 1, 0, none⟩)]) ∧ Hid (ls.getD 9 false = true → u56 = .agg #[.int .i64 a.lf.1, (.slice a1 a.lf.2.length an1), .int .i64 a.rt.1, (.slice a2 a.rt.2.length an2), .int .i64 a.fr, .int .i64 a.to, (.slice a3 a.l.length an3)]) ∧ Hid (ls.getD 10 false = true → u57 = .agg #[.int .i64 b.lf.1, (.slice b1 b.lf.2.length bn1), .int .i64 b.rt.1, (.slice b2 b.rt.2.length bn2), .int .i64 b.fr, .int .i64 b.to, (.slice b3 b.l.length bn3)]) ∧ Hid (ls.getD 11 false = true → SetV w2.heap.size (fun T => ∃ T1 T2, (fun T => T = a) T1 ∧ (fun T => T = b) T2 ∧ combM 1 T1 T2 = (T, 0)) u58 w9) ∧ Hid (ls.getD 12 false = true → u59 = .func (.func 52) #[] #[.pointer (some ⟨w2.heap.size + 1, 0, none⟩)]) ∧ Hid (ls.getD 13 false = true → u60 = .agg #[.int .i64 a.lf.1, (.slice a1 a.lf.2.length an1), .int .i64 a.rt.1, (.slice a2 a.rt.2.length an2), .int .i64 a.fr, .int .i64 a.to, (.slice a3 a.l.length an3)]) ∧ Hid (ls.getD 14 false = true → u61 = .agg #[.int .i64 c.lf.1, (.slice c1 c.lf.2.length cn1), .int .i64 c.rt.1, (.slice c2 c.rt.2.length cn2), .int .i64 c.fr, .int .i64 c.to, (.slice c3 c.l.length cn3)]) ∧ Hid (ls.getD 15 false = true → SetV w2.heap.size (fun T => ∃ T1 T2, (fun T => T = a) T1 ∧ (fun T => T = c) T2 ∧ combM 1 T1 T2 = (T, 0)) u62 w9) ∧ Hid (ls.getD 16 false = true → SetV w2.heap.size (fun T => ∃ T1 T2, (fun T => ∃ T1 T2, (fun T => T = a) T1 ∧ (fun T => T = b) T2 ∧ combM 1 T1 T2 = (T, 0)) T1 ∧ (fun T => ∃ T1 T2, (fun T => T = a) T1 ∧ (fun T => T = c) T2 ∧ combM 1 T1 T2 = (T, 0)) T2 ∧ combM 0 T1 T2 = (T, 0)) u63 w9) ∧ Hid (ls.getD 17 false = true → (ls.getD 19 false = false → BoxV w2.heap.size (W4.drew.heap.size) u14 w9)) ∧ Hid (ls.getD 18 false = true → (ls.getD 20 false = false → BoxV w2.heap.size (W4.drew.heap.size) u15 w9)) ∧ Hid (ls.getD 19 false = true → StoV w2.heap.size (W4.drew.heap.size) (fun T => ∃ T1 T2, (fun T => T = a) T1 ∧ (fun T => ∃ T1 T2, (fun T => T = b) T1 ∧ (fun T => T = c) T2 ∧ combM 0 T1 T2 = (T, 0)) T2 ∧ combM 1 T1 T2 = (T, 0)) u14 w9) ∧ Hid (ls.getD 20 false = true → StoV w2.heap.size (W4.drew.heap.size) (fun T => ∃ T1 T2, (fun T => ∃ T1 T2, (fun T => T = a) T1 ∧ (fun T => T = b) T2 ∧ combM 1 T1 T2 = (T, 0)) T1 ∧ (fun T => ∃ T1 T2, (fun T => T = a) T1 ∧ (fun T => T = c) T2 ∧ combM 1 T1 T2 = (T, 0)) T2 ∧ combM 0 T1 T2 = (T, 0)) u15 w9) ∧ Hid (ls.getD 17 false = true → ls.getD 18 false = true → u14 ≠ u15) ∧ Hid (ls.getD 19 false = true → ls.getD 17 false = true) ∧ Hid (ls.getD 20 false = true → ls.getD 18 false = true) := ⟨_, rfl⟩
    have HIH := Lib.hid HIe
    clear HIe
    refine wpAny_inv I ?_ ?_ _ _ _ _ ?_ ?_
    case refine_3 =>
      rw [HIH.out]
      exact ⟨undef, undef, undef, undef, undef, undef, undef, undef, undef, undef, undef, undef, undef, undef, undef, undef, undef, undef, undef, rfl, rfl, ⟨_, HOne4.out⟩, Stp.refl _ _, (fun h => h), (fun h => by cases h), (fun h => by cases h), (fun h => by cases h), (fun h => by cases h), (fun h => by cases h), (fun h => by cases h), (fun h => by cases h), (fun h => by cases h), (fun h => by cases h), (fun h => by cases h), (fun h => by cases h), (fun h => by cases h), (fun h => by cases h), (fun h => by cases h), (fun h => by cases h), (fun h => by cases h), (fun h => by cases h), (fun h => by cases h), (fun h => by cases h), (fun h => by cases h), (fun h => by cases h), (fun h => by cases h), (fun h => by cases h), (fun h => by cases h)⟩
    case refine_4 => decide
    case refine_2 =>
      intro ls a9 w9 hI hr
      rw [HIH.out] at hI
      obtain ⟨u14, u15, u47, u48, u49, u50, u51, u52, u53, u54, u55, u56, u57, u58, u59, u60, u61, u62, u63, hsz, rfl, ⟨c9, hO⟩, hS, hD, f0, f1, f2, f3, f4, f5, f6, f7, f8, f9, f10, f11, f12, f13, f14, f15, f16, f17, f18, f19, f20, d14_15, i14, i15⟩ := hI
      have hall := all_listed hsz (by kernel_rfl) hr
      have g19 := f19.out (hall 19 (by decide))
      have g20 := f20.out (hall 20 (by decide))
      refine of_nil (P := Tryz.prog) ?_
      go_wp2_with fail
      go_meet
      case rel => exact ⟨g19, g20, ⟨_, hO⟩, hS, hD⟩

    case refine_1 =>
      intro ls a9 w9 i hI hi
      rw [HIH.out] at hI
      obtain ⟨u14, u15, u47, u48, u49, u50, u51, u52, u53, u54, u55, u56, u57, u58, u59, u60, u61, u62, u63, hsz, rfl, ⟨c9, hO⟩, hS, hD, f0, f1, f2, f3, f4, f5, f6, f7, f8, f9, f10, f11, f12, f13, f14, f15, f16, f17, f18, f19, f20, d14_15, i14, i15⟩ := hI
      obtain ⟨hj, op, hop, hall⟩ := mem_ready.1 hi
      have hlt := (Array.getElem?_eq_some_iff.1 hop).1
      have hlt : i < 21 := hlt
      have hsz' : (ls.setIfInBounds i true).size = 21 := by rw [Array.size_setIfInBounds]; exact hsz
      rcases (show i = 0 ∨ i = 1 ∨ i = 2 ∨ i = 3 ∨ i = 4 ∨ i = 5 ∨ i = 6 ∨ i = 7 ∨ i = 8 ∨ i = 9 ∨ i = 10 ∨ i = 11 ∨ i = 12 ∨ i = 13 ∨ i = 14 ∨ i = 15 ∨ i = 16 ∨ i = 17 ∨ i = 18 ∨ i = 19 ∨ i = 20 by omega) with rfl | rfl | rfl | rfl | rfl | rfl | rfl | rfl | rfl | rfl | rfl | rfl | rfl | rfl | rfl | rfl | rfl | rfl | rfl | rfl | rfl
      · simp at hop
        subst hop
        refine wpOp_of_list (i := 0) rfl ?_
        go_wp2
        show I _ _ _
        rw [HIH.out]
        exact ⟨_, _, _, _, _, _, _, _, _, _, _, _, _, _, _, _, _, _, _, hsz', rfl, ⟨_, hO⟩, hS, hD, (fun _ => rfl), (gx f1), (gx f2), (gx f3), (gx f4), (gx f5), (gx f6), (gx f7), (gx f8), (gx f9), (gx f10), (gx f11), (gx f12), (gx f13), (gx f14), (gx f15), (gx f16), (gx2 f17), (gx2 f18), (gx f19), (gx f20), (gx2 d14_15), (gi i14), (gi i15)⟩
      · simp at hop
        subst hop
        refine wpOp_of_list (i := 1) rfl ?_
        obtain ⟨⟨A0, A1, A2, A3, A4, A5, A6⟩, -⟩ := hS.set7 HNE.out.1.1 HX4.out.1
        go_wp2
        show I _ _ _
        rw [HIH.out]
        exact ⟨_, _, _, _, _, _, _, _, _, _, _, _, _, _, _, _, _, _, _, hsz', rfl, ⟨_, hO⟩, hS, hD, (gx f0), (fun _ => rfl), (gx f2), (gx f3), (gx f4), (gx f5), (gx f6), (gx f7), (gx f8), (gx f9), (gx f10), (gx f11), (gx f12), (gx f13), (gx f14), (gx f15), (gx f16), (gx2 f17), (gx2 f18), (gx f19), (gx f20), (gx2 d14_15), (gi i14), (gi i15)⟩
      · simp at hop
        subst hop
        refine wpOp_of_list (i := 2) rfl ?_
        go_wp2
        show I _ _ _
        rw [HIH.out]
        exact ⟨_, _, _, _, _, _, _, _, _, _, _, _, _, _, _, _, _, _, _, hsz', rfl, ⟨_, hO⟩, hS, hD, (gx f0), (gx f1), (fun _ => rfl), (gx f3), (gx f4), (gx f5), (gx f6), (gx f7), (gx f8), (gx f9), (gx f10), (gx f11), (gx f12), (gx f13), (gx f14), (gx f15), (gx f16), (gx2 f17), (gx2 f18), (gx f19), (gx f20), (gx2 d14_15), (gi i14), (gi i15)⟩
      · simp at hop
        subst hop
        refine wpOp_of_list (i := 3) rfl ?_
        obtain ⟨⟨A0, A1, A2, A3, A4, A5, A6⟩, -⟩ := hS.set7 HNE.out.1.2.1 HX4.out.2.1
        go_wp2
        show I _ _ _
        rw [HIH.out]
        exact ⟨_, _, _, _, _, _, _, _, _, _, _, _, _, _, _, _, _, _, _, hsz', rfl, ⟨_, hO⟩, hS, hD, (gx f0), (gx f1), (gx f2), (fun _ => rfl), (gx f4), (gx f5), (gx f6), (gx f7), (gx f8), (gx f9), (gx f10), (gx f11), (gx f12), (gx f13), (gx f14), (gx f15), (gx f16), (gx2 f17), (gx2 f18), (gx f19), (gx f20), (gx2 d14_15), (gi i14), (gi i15)⟩
      · simp at hop
        subst hop
        refine wpOp_of_list (i := 4) rfl ?_
        obtain ⟨⟨A0, A1, A2, A3, A4, A5, A6⟩, -⟩ := hS.set7 HNE.out.1.2.2 HX4.out.2.2.1
        go_wp2
        show I _ _ _
        rw [HIH.out]
        exact ⟨_, _, _, _, _, _, _, _, _, _, _, _, _, _, _, _, _, _, _, hsz', rfl, ⟨_, hO⟩, hS, hD, (gx f0), (gx f1), (gx f2), (gx f3), (fun _ => rfl), (gx f5), (gx f6), (gx f7), (gx f8), (gx f9), (gx f10), (gx f11), (gx f12), (gx f13), (gx f14), (gx f15), (gx f16), (gx2 f17), (gx2 f18), (gx f19), (gx f20), (gx2 d14_15), (gi i14), (gi i15)⟩
      · simp at hop
        subst hop
        refine wpOp_of_list (i := 5) rfl ?_
        have e1 := f2.out (hall ⟨2, .data⟩ (by simp) rfl)
        subst e1
        have e1 := f3.out (hall ⟨3, .data⟩ (by simp) rfl)
        have hr1 := hS.st HOne4.out HX4.out.2.2.2.2.1
        have e2 := f4.out (hall ⟨4, .data⟩ (by simp) rfl)
        have hr2 := hS.st HOne4.out HX4.out.2.2.2.2.2
        subst e1
        subst e2
        have hk9 := hS.cell HNE.out.2.1 HK4.out
        have hcall := lg_or b c (w2.heap.size) (w2.heap.size + 1) c9 _ _ _ _ _ _ w9 hO hk9 HNE.out.2.1 hr1 hr2
        go_wp2_with (go_at_call 51; refine hcall.mono ?_; rintro e' w8 ⟨vl, vr, vv, rfl, hr8, ho8, hs9⟩; obtain ⟨y1, ym1, rfl⟩ := hr8.1.form; obtain ⟨y2, ym2, rfl⟩ := hr8.2.1.form; obtain ⟨y3, ym3, rfl⟩ := hr8.2.2.form)
        have hd9 : OkDown w2.heap.size w9 w8 := fun hk => (down_call hO ho8 hk).1
        show I _ _ _
        rw [HIH.out]
        exact ⟨_, _, _, _, _, _, _, _, _, _, _, _, _, _, _, _, _, _, _, hsz', rfl, ⟨_, ho8⟩, hS.trans hs9, (fun h => hD (hd9 h)), (gx f0), (gx f1), (fun _ => rfl), (fun _ => rfl), (fun _ => rfl), (fun _ => ⟨(combM 0 b c).1, _, _, _, _, _, _, rfl, hr8, pos_comb, fun hk => ⟨b, c, rfl, rfl, Prod.ext rfl (down_call hO ho8 hk).2⟩⟩), (gs f6 hO hs9 hd9), (gx f7), (gx f8), (gx f9), (gx f10), (gs f11 hO hs9 hd9), (gx f12), (gx f13), (gx f14), (gs f15 hO hs9 hd9), (gs f16 hO hs9 hd9), (gp f17 hs9), (gp f18 hs9), (gy f19 hO hs9 hd9), (gy f20 hO hs9 hd9), (gx2 d14_15), (gi i14), (gi i15)⟩
      · simp at hop
        subst hop
        refine wpOp_of_list (i := 6) rfl ?_
        have e1 := f0.out (hall ⟨0, .data⟩ (by simp) rfl)
        subst e1
        have e1 := f1.out (hall ⟨1, .data⟩ (by simp) rfl)
        have hr1 := hS.st HOne4.out HX4.out.2.2.2.1
        obtain ⟨T2, x21, xm21, x22, xm22, x23, xm23, e2, hr2, hp2, hS2⟩ := f5.out (hall ⟨5, .data⟩ (by simp) rfl)
        subst e1
        subst e2
        have hk9 := hS.cell HNE.out.2.1 HK4.out
        have hcall := lg_and a T2 (w2.heap.size) (w2.heap.size + 1) c9 _ _ _ _ _ _ w9 hO hk9 HNE.out.2.1 hr1 hr2
        go_wp2_with (go_at_call 52; refine hcall.mono ?_; rintro e' w8 ⟨vl, vr, vv, rfl, hr8, ho8, hs9⟩; obtain ⟨y1, ym1, rfl⟩ := hr8.1.form; obtain ⟨y2, ym2, rfl⟩ := hr8.2.1.form; obtain ⟨y3, ym3, rfl⟩ := hr8.2.2.form)
        have hd9 : OkDown w2.heap.size w9 w8 := fun hk => (down_call hO ho8 hk).1
        show I _ _ _
        rw [HIH.out]
        exact ⟨_, _, _, _, _, _, _, _, _, _, _, _, _, _, _, _, _, _, _, hsz', rfl, ⟨_, ho8⟩, hS.trans hs9, (fun h => hD (hd9 h)), (fun _ => rfl), (fun _ => rfl), (gx f2), (gx f3), (gx f4), (gs f5 hO hs9 hd9), (fun _ => ⟨(combM 1 a T2).1, _, _, _, _, _, _, rfl, hr8, pos_comb, fun hk => ⟨a, T2, rfl, hS2 (down_call hO ho8 hk).1, Prod.ext rfl (down_call hO ho8 hk).2⟩⟩), (gx f7), (gx f8), (gx f9), (gx f10), (gs f11 hO hs9 hd9), (gx f12), (gx f13), (gx f14), (gs f15 hO hs9 hd9), (gs f16 hO hs9 hd9), (gp f17 hs9), (gp f18 hs9), (gy f19 hO hs9 hd9), (gy f20 hO hs9 hd9), (gx2 d14_15), (gi i14), (gi i15)⟩
      · simp at hop
        subst hop
        refine wpOp_of_list (i := 7) rfl ?_
        go_wp2
        show I _ _ _
        rw [HIH.out]
        exact ⟨_, _, _, _, _, _, _, _, _, _, _, _, _, _, _, _, _, _, _, hsz', rfl, ⟨_, hO⟩, hS, hD, (gx f0), (gx f1), (gx f2), (gx f3), (gx f4), (gx f5), (gx f6), (fun _ => rfl), (gx f8), (gx f9), (gx f10), (gx f11), (gx f12), (gx f13), (gx f14), (gx f15), (gx f16), (gx2 f17), (gx2 f18), (gx f19), (gx f20), (gx2 d14_15), (gi i14), (gi i15)⟩
      · simp at hop
        subst hop
        refine wpOp_of_list (i := 8) rfl ?_
        go_wp2
        show I _ _ _
        rw [HIH.out]
        exact ⟨_, _, _, _, _, _, _, _, _, _, _, _, _, _, _, _, _, _, _, hsz', rfl, ⟨_, hO⟩, hS, hD, (gx f0), (gx f1), (gx f2), (gx f3), (gx f4), (gx f5), (gx f6), (gx f7), (fun _ => rfl), (gx f9), (gx f10), (gx f11), (gx f12), (gx f13), (gx f14), (gx f15), (gx f16), (gx2 f17), (gx2 f18), (gx f19), (gx f20), (gx2 d14_15), (gi i14), (gi i15)⟩
      · simp at hop
        subst hop
        refine wpOp_of_list (i := 9) rfl ?_
        obtain ⟨⟨A0, A1, A2, A3, A4, A5, A6⟩, -⟩ := hS.set7 HNE.out.1.1 HX4.out.1
        go_wp2
        show I _ _ _
        rw [HIH.out]
        exact ⟨_, _, _, _, _, _, _, _, _, _, _, _, _, _, _, _, _, _, _, hsz', rfl, ⟨_, hO⟩, hS, hD, (gx f0), (gx f1), (gx f2), (gx f3), (gx f4), (gx f5), (gx f6), (gx f7), (gx f8), (fun _ => rfl), (gx f10), (gx f11), (gx f12), (gx f13), (gx f14), (gx f15), (gx f16), (gx2 f17), (gx2 f18), (gx f19), (gx f20), (gx2 d14_15), (gi i14), (gi i15)⟩
      · simp at hop
        subst hop
        refine wpOp_of_list (i := 10) rfl ?_
        obtain ⟨⟨A0, A1, A2, A3, A4, A5, A6⟩, -⟩ := hS.set7 HNE.out.1.2.1 HX4.out.2.1
        go_wp2
        show I _ _ _
        rw [HIH.out]
        exact ⟨_, _, _, _, _, _, _, _, _, _, _, _, _, _, _, _, _, _, _, hsz', rfl, ⟨_, hO⟩, hS, hD, (gx f0), (gx f1), (gx f2), (gx f3), (gx f4), (gx f5), (gx f6), (gx f7), (gx f8), (gx f9), (fun _ => rfl), (gx f11), (gx f12), (gx f13), (gx f14), (gx f15), (gx f16), (gx2 f17), (gx2 f18), (gx f19), (gx f20), (gx2 d14_15), (gi i14), (gi i15)⟩
      · simp at hop
        subst hop
        refine wpOp_of_list (i := 11) rfl ?_
        have e1 := f8.out (hall ⟨8, .data⟩ (by simp) rfl)
        subst e1
        have e1 := f9.out (hall ⟨9, .data⟩ (by simp) rfl)
        have hr1 := hS.st HOne4.out HX4.out.2.2.2.1
        have e2 := f10.out (hall ⟨10, .data⟩ (by simp) rfl)
        have hr2 := hS.st HOne4.out HX4.out.2.2.2.2.1
        subst e1
        subst e2
        have hk9 := hS.cell HNE.out.2.1 HK4.out
        have hcall := lg_and a b (w2.heap.size) (w2.heap.size + 1) c9 _ _ _ _ _ _ w9 hO hk9 HNE.out.2.1 hr1 hr2
        go_wp2_with (go_at_call 52; refine hcall.mono ?_; rintro e' w8 ⟨vl, vr, vv, rfl, hr8, ho8, hs9⟩; obtain ⟨y1, ym1, rfl⟩ := hr8.1.form; obtain ⟨y2, ym2, rfl⟩ := hr8.2.1.form; obtain ⟨y3, ym3, rfl⟩ := hr8.2.2.form)
        have hd9 : OkDown w2.heap.size w9 w8 := fun hk => (down_call hO ho8 hk).1
        show I _ _ _
        rw [HIH.out]
        exact ⟨_, _, _, _, _, _, _, _, _, _, _, _, _, _, _, _, _, _, _, hsz', rfl, ⟨_, ho8⟩, hS.trans hs9, (fun h => hD (hd9 h)), (gx f0), (gx f1), (gx f2), (gx f3), (gx f4), (gs f5 hO hs9 hd9), (gs f6 hO hs9 hd9), (gx f7), (fun _ => rfl), (fun _ => rfl), (fun _ => rfl), (fun _ => ⟨(combM 1 a b).1, _, _, _, _, _, _, rfl, hr8, pos_comb, fun hk => ⟨a, b, rfl, rfl, Prod.ext rfl (down_call hO ho8 hk).2⟩⟩), (gx f12), (gx f13), (gx f14), (gs f15 hO hs9 hd9), (gs f16 hO hs9 hd9), (gp f17 hs9), (gp f18 hs9), (gy f19 hO hs9 hd9), (gy f20 hO hs9 hd9), (gx2 d14_15), (gi i14), (gi i15)⟩
      · simp at hop
        subst hop
        refine wpOp_of_list (i := 12) rfl ?_
        go_wp2
        show I _ _ _
        rw [HIH.out]
        exact ⟨_, _, _, _, _, _, _, _, _, _, _, _, _, _, _, _, _, _, _, hsz', rfl, ⟨_, hO⟩, hS, hD, (gx f0), (gx f1), (gx f2), (gx f3), (gx f4), (gx f5), (gx f6), (gx f7), (gx f8), (gx f9), (gx f10), (gx f11), (fun _ => rfl), (gx f13), (gx f14), (gx f15), (gx f16), (gx2 f17), (gx2 f18), (gx f19), (gx f20), (gx2 d14_15), (gi i14), (gi i15)⟩
      · simp at hop
        subst hop
        refine wpOp_of_list (i := 13) rfl ?_
        obtain ⟨⟨A0, A1, A2, A3, A4, A5, A6⟩, -⟩ := hS.set7 HNE.out.1.1 HX4.out.1
        go_wp2
        show I _ _ _
        rw [HIH.out]
        exact ⟨_, _, _, _, _, _, _, _, _, _, _, _, _, _, _, _, _, _, _, hsz', rfl, ⟨_, hO⟩, hS, hD, (gx f0), (gx f1), (gx f2), (gx f3), (gx f4), (gx f5), (gx f6), (gx f7), (gx f8), (gx f9), (gx f10), (gx f11), (gx f12), (fun _ => rfl), (gx f14), (gx f15), (gx f16), (gx2 f17), (gx2 f18), (gx f19), (gx f20), (gx2 d14_15), (gi i14), (gi i15)⟩
      · simp at hop
        subst hop
        refine wpOp_of_list (i := 14) rfl ?_
        obtain ⟨⟨A0, A1, A2, A3, A4, A5, A6⟩, -⟩ := hS.set7 HNE.out.1.2.2 HX4.out.2.2.1
        go_wp2
        show I _ _ _
        rw [HIH.out]
        exact ⟨_, _, _, _, _, _, _, _, _, _, _, _, _, _, _, _, _, _, _, hsz', rfl, ⟨_, hO⟩, hS, hD, (gx f0), (gx f1), (gx f2), (gx f3), (gx f4), (gx f5), (gx f6), (gx f7), (gx f8), (gx f9), (gx f10), (gx f11), (gx f12), (gx f13), (fun _ => rfl), (gx f15), (gx f16), (gx2 f17), (gx2 f18), (gx f19), (gx f20), (gx2 d14_15), (gi i14), (gi i15)⟩
      · simp at hop
        subst hop
        refine wpOp_of_list (i := 15) rfl ?_
        have e1 := f12.out (hall ⟨12, .data⟩ (by simp) rfl)
        subst e1
        have e1 := f13.out (hall ⟨13, .data⟩ (by simp) rfl)
        have hr1 := hS.st HOne4.out HX4.out.2.2.2.1
        have e2 := f14.out (hall ⟨14, .data⟩ (by simp) rfl)
        have hr2 := hS.st HOne4.out HX4.out.2.2.2.2.2
        subst e1
        subst e2
        have hk9 := hS.cell HNE.out.2.1 HK4.out
        have hcall := lg_and a c (w2.heap.size) (w2.heap.size + 1) c9 _ _ _ _ _ _ w9 hO hk9 HNE.out.2.1 hr1 hr2
        go_wp2_with (go_at_call 52; refine hcall.mono ?_; rintro e' w8 ⟨vl, vr, vv, rfl, hr8, ho8, hs9⟩; obtain ⟨y1, ym1, rfl⟩ := hr8.1.form; obtain ⟨y2, ym2, rfl⟩ := hr8.2.1.form; obtain ⟨y3, ym3, rfl⟩ := hr8.2.2.form)
        have hd9 : OkDown w2.heap.size w9 w8 := fun hk => (down_call hO ho8 hk).1
        show I _ _ _
        rw [HIH.out]
        exact ⟨_, _, _, _, _, _, _, _, _, _, _, _, _, _, _, _, _, _, _, hsz', rfl, ⟨_, ho8⟩, hS.trans hs9, (fun h => hD (hd9 h)), (gx f0), (gx f1), (gx f2), (gx f3), (gx f4), (gs f5 hO hs9 hd9), (gs f6 hO hs9 hd9), (gx f7), (gx f8), (gx f9), (gx f10), (gs f11 hO hs9 hd9), (fun _ => rfl), (fun _ => rfl), (fun _ => rfl), (fun _ => ⟨(combM 1 a c).1, _, _, _, _, _, _, rfl, hr8, pos_comb, fun hk => ⟨a, c, rfl, rfl, Prod.ext rfl (down_call hO ho8 hk).2⟩⟩), (gs f16 hO hs9 hd9), (gp f17 hs9), (gp f18 hs9), (gy f19 hO hs9 hd9), (gy f20 hO hs9 hd9), (gx2 d14_15), (gi i14), (gi i15)⟩
      · simp at hop
        subst hop
        refine wpOp_of_list (i := 16) rfl ?_
        have e1 := f7.out (hall ⟨7, .data⟩ (by simp) rfl)
        subst e1
        obtain ⟨T1, x11, xm11, x12, xm12, x13, xm13, e1, hr1, hp1, hS1⟩ := f11.out (hall ⟨11, .data⟩ (by simp) rfl)
        obtain ⟨T2, x21, xm21, x22, xm22, x23, xm23, e2, hr2, hp2, hS2⟩ := f15.out (hall ⟨15, .data⟩ (by simp) rfl)
        subst e1
        subst e2
        have hk9 := hS.cell HNE.out.2.1 HK4.out
        have hcall := lg_or T1 T2 (w2.heap.size) (w2.heap.size + 1) c9 _ _ _ _ _ _ w9 hO hk9 HNE.out.2.1 hr1 hr2
        go_wp2_with (go_at_call 51; refine hcall.mono ?_; rintro e' w8 ⟨vl, vr, vv, rfl, hr8, ho8, hs9⟩; obtain ⟨y1, ym1, rfl⟩ := hr8.1.form; obtain ⟨y2, ym2, rfl⟩ := hr8.2.1.form; obtain ⟨y3, ym3, rfl⟩ := hr8.2.2.form)
        have hd9 : OkDown w2.heap.size w9 w8 := fun hk => (down_call hO ho8 hk).1
        show I _ _ _
        rw [HIH.out]
        exact ⟨_, _, _, _, _, _, _, _, _, _, _, _, _, _, _, _, _, _, _, hsz', rfl, ⟨_, ho8⟩, hS.trans hs9, (fun h => hD (hd9 h)), (gx f0), (gx f1), (gx f2), (gx f3), (gx f4), (gs f5 hO hs9 hd9), (gs f6 hO hs9 hd9), (fun _ => rfl), (gx f8), (gx f9), (gx f10), (gs f11 hO hs9 hd9), (gx f12), (gx f13), (gx f14), (gs f15 hO hs9 hd9), (fun _ => ⟨(combM 0 T1 T2).1, _, _, _, _, _, _, rfl, hr8, pos_comb, fun hk => ⟨T1, T2, hS1 (down_call hO ho8 hk).1, hS2 (down_call hO ho8 hk).1, Prod.ext rfl (down_call hO ho8 hk).2⟩⟩), (gp f17 hs9), (gp f18 hs9), (gy f19 hO hs9 hd9), (gy f20 hO hs9 hd9), (gx2 d14_15), (gi i14), (gi i15)⟩
      · simp at hop
        subst hop
        refine wpOp_of_list (i := 17) rfl ?_
        have hna : ls.getD 17 false = false := by
          cases hq : ls.getD 17 false with
          | false => rfl
          | true =>
            have hq2 := getD_false hj
            rw [Array.getD_eq_getD_getElem?, hq2] at hq
            cases hq
        have hb9 : Below w9.heap.size w9 (w9.alloc (.cells #[.int .i64 0, .slice none 0 0, .int .i64 0, .slice none 0 0, .int .i64 0, .int .i64 0, .slice none 0 0] 26)) := (Below.refl _ _).alloc (Nat.le_refl _) _
        have hkl := hO.lt
        have hs9 : Stp w2.heap.size w9 _ := Stp.of (Nat.le_of_lt hkl) hb9
        have ho9 := hO.below hb9
        have hd9 : OkDown w2.heap.size w9 (w9.alloc (.cells #[.int .i64 0, .slice none 0 0, .int .i64 0, .slice none 0 0, .int .i64 0, .int .i64 0, .slice none 0 0] 26)) := fun hk => by
          unfold okw at *
          rw [ho9.1] at hk
          rw [hO.1, hk]
        have hzb := ZB.new w9
        have hn0 : W4.drew.heap.size ≤ w9.heap.size := hS.1.size
        have newne14_15 : ∀ (_ : (ls.setIfInBounds 17 true).getD 17 false = true) (h : ls.getD 18 false = true), (.pointer (some ⟨w9.heap.size, 0, none⟩) : Value) ≠ u15 := by
          intro h h'
          have hx : ls.getD 18 false = true := by first | exact h | exact h'
          cases hst : ls.getD 20 false with
          | true =>
            obtain ⟨b, T, q1, q2, q3, q4, q5, q6, eb, _, _, h7, _⟩ := f20.out hst
            have hbl := World.block_lt_of_cell? w9 ⟨b, 0, none⟩ h7.1.1
            have hbl : b < w9.heap.size := hbl
            rw [eb]
            intro hh
            injection hh with hh
            injection hh with hh
            injection hh with hh
            omega
          | false =>
            obtain ⟨b, eb, _, _, h7⟩ := f18.out hx hst
            have hbl := World.block_lt_of_cell? w9 ⟨b, 0, none⟩ h7.1.1.1
            have hbl : b < w9.heap.size := hbl
            rw [eb]
            intro hh
            injection hh with hh
            injection hh with hh
            injection hh with hh
            omega
        go_wp2
        show I _ _ _
        rw [HIH.out]
        exact ⟨_, _, _, _, _, _, _, _, _, _, _, _, _, _, _, _, _, _, _, hsz', rfl, ⟨_, ho9⟩, hS.trans hs9, (fun h => hD (hd9 h)), (gx f0), (gx f1), (gx f2), (gx f3), (gx f4), (gs f5 hO hs9 hd9), (gs f6 hO hs9 hd9), (gx f7), (gx f8), (gx f9), (gx f10), (gs f11 hO hs9 hd9), (gx f12), (gx f13), (gx f14), (gs f15 hO hs9 hd9), (gs f16 hO hs9 hd9), (fun _ _ => ⟨w9.heap.size, rfl, hn0, by omega, hzb⟩), (gp f18 hs9), (gn i14 hna), (gy f20 hO hs9 hd9), (fun h h' => newne14_15 (by first | exact h | exact gd h) (by first | exact h' | exact gd h')), (fun _ => getD_self (by omega)), (gi i15)⟩
      · simp at hop
        subst hop
        refine wpOp_of_list (i := 18) rfl ?_
        have hna : ls.getD 18 false = false := by
          cases hq : ls.getD 18 false with
          | false => rfl
          | true =>
            have hq2 := getD_false hj
            rw [Array.getD_eq_getD_getElem?, hq2] at hq
            cases hq
        have hb9 : Below w9.heap.size w9 (w9.alloc (.cells #[.int .i64 0, .slice none 0 0, .int .i64 0, .slice none 0 0, .int .i64 0, .int .i64 0, .slice none 0 0] 26)) := (Below.refl _ _).alloc (Nat.le_refl _) _
        have hkl := hO.lt
        have hs9 : Stp w2.heap.size w9 _ := Stp.of (Nat.le_of_lt hkl) hb9
        have ho9 := hO.below hb9
        have hd9 : OkDown w2.heap.size w9 (w9.alloc (.cells #[.int .i64 0, .slice none 0 0, .int .i64 0, .slice none 0 0, .int .i64 0, .int .i64 0, .slice none 0 0] 26)) := fun hk => by
          unfold okw at *
          rw [ho9.1] at hk
          rw [hO.1, hk]
        have hzb := ZB.new w9
        have hn0 : W4.drew.heap.size ≤ w9.heap.size := hS.1.size
        have newne14_15 : ∀ (h : ls.getD 17 false = true) (_ : (ls.setIfInBounds 18 true).getD 18 false = true), u14 ≠ (.pointer (some ⟨w9.heap.size, 0, none⟩) : Value) := by
          intro h h'
          have hx : ls.getD 17 false = true := by first | exact h | exact h'
          cases hst : ls.getD 19 false with
          | true =>
            obtain ⟨b, T, q1, q2, q3, q4, q5, q6, eb, _, _, h7, _⟩ := f19.out hst
            have hbl := World.block_lt_of_cell? w9 ⟨b, 0, none⟩ h7.1.1
            have hbl : b < w9.heap.size := hbl
            rw [eb]
            intro hh
            injection hh with hh
            injection hh with hh
            injection hh with hh
            omega
          | false =>
            obtain ⟨b, eb, _, _, h7⟩ := f17.out hx hst
            have hbl := World.block_lt_of_cell? w9 ⟨b, 0, none⟩ h7.1.1.1
            have hbl : b < w9.heap.size := hbl
            rw [eb]
            intro hh
            injection hh with hh
            injection hh with hh
            injection hh with hh
            omega
        go_wp2
        show I _ _ _
        rw [HIH.out]
        exact ⟨_, _, _, _, _, _, _, _, _, _, _, _, _, _, _, _, _, _, _, hsz', rfl, ⟨_, ho9⟩, hS.trans hs9, (fun h => hD (hd9 h)), (gx f0), (gx f1), (gx f2), (gx f3), (gx f4), (gs f5 hO hs9 hd9), (gs f6 hO hs9 hd9), (gx f7), (gx f8), (gx f9), (gx f10), (gs f11 hO hs9 hd9), (gx f12), (gx f13), (gx f14), (gs f15 hO hs9 hd9), (gs f16 hO hs9 hd9), (gp f17 hs9), (fun _ _ => ⟨w9.heap.size, rfl, hn0, by omega, hzb⟩), (gy f19 hO hs9 hd9), (gn i15 hna), (fun h h' => newne14_15 (by first | exact h | exact gd h) (by first | exact h' | exact gd h')), (gi i14), (fun _ => getD_self (by omega))⟩
      · simp at hop
        subst hop
        refine wpOp_of_list (i := 19) rfl ?_
        have hns : ls.getD 19 false = false := by
          cases hq : ls.getD 19 false with
          | false => rfl
          | true =>
            have hq2 := getD_false hj
            rw [Array.getD_eq_getD_getElem?, hq2] at hq
            cases hq
        have hla := hall ⟨17, .data⟩ (by simp) rfl
        obtain ⟨b, T, q1, q2, q3, q4, q5, q6, e1, hb1, hbk, e2, hzb, hs9, hst⟩ := (f17.out hla hns).put (f6.out (hall ⟨6, .data⟩ (by simp) rfl))
        have hkb : w2.heap.size ≠ b := fun q => hbk q.symm
        have hkl := hO.lt
        have ho9 : OneB (put7 w9 b (.int .i64 T.lf.1) (.slice q1 T.lf.2.length q2) (.int .i64 T.rt.1) (.slice q3 T.rt.2.length q4) (.int .i64 T.fr) (.int .i64 T.to) (.slice q5 T.l.length q6)) w2.heap.size c9 := hO.put7 hbk _ _ _ _ _ _ _
        have hS9 := hS.put7 (b := b) hb1 (by have := hS.1.size; have := HW4.out; omega) (.int .i64 T.lf.1) (.slice q1 T.lf.2.length q2) (.int .i64 T.rt.1) (.slice q3 T.rt.2.length q4) (.int .i64 T.fr) (.int .i64 T.to) (.slice q5 T.l.length q6)
        have hne15 : ls.getD 18 false = true → u15 ≠ .pointer (some ⟨b, 0, none⟩) := fun h => by rw [← e1]; exact fun q => d14_15.out hla h q.symm
        obtain ⟨⟨⟨Z0, Z1, Z2, Z3, Z4, Z5, Z6⟩, K0, K1, K2, K3, K4, K5, K6⟩, -⟩ := hzb
        subst e1 e2
        go_wp2
        show I _ _ _
        rw [HIH.out]
        exact ⟨_, _, _, _, _, _, _, _, _, _, _, _, _, _, _, _, _, _, _, hsz', rfl, ⟨_, ho9⟩, hS9, (fun h => hD (hs9.okw hkb h)), (gx f0), (gx f1), (gx f2), (gx f3), (gx f4), (gt f5 hs9 hkb), (gt f6 hs9 hkb), (gx f7), (gx f8), (gx f9), (gx f10), (gt f11 hs9 hkb), (gx f12), (gx f13), (gx f14), (gt f15 hs9 hkb), (gt f16 hs9 hkb), (go1 (by omega)), (gq f18 hs9 hne15), (fun _ => hst), (gz f20 hs9 hkb hne15 i15), (gx2 d14_15), (fun _ => by rw [getD_ne (by decide)]; exact hla), (gi i15)⟩
      · simp at hop
        subst hop
        refine wpOp_of_list (i := 20) rfl ?_
        have hns : ls.getD 20 false = false := by
          cases hq : ls.getD 20 false with
          | false => rfl
          | true =>
            have hq2 := getD_false hj
            rw [Array.getD_eq_getD_getElem?, hq2] at hq
            cases hq
        have hla := hall ⟨18, .data⟩ (by simp) rfl
        obtain ⟨b, T, q1, q2, q3, q4, q5, q6, e1, hb1, hbk, e2, hzb, hs9, hst⟩ := (f18.out hla hns).put (f16.out (hall ⟨16, .data⟩ (by simp) rfl))
        have hkb : w2.heap.size ≠ b := fun q => hbk q.symm
        have hkl := hO.lt
        have ho9 : OneB (put7 w9 b (.int .i64 T.lf.1) (.slice q1 T.lf.2.length q2) (.int .i64 T.rt.1) (.slice q3 T.rt.2.length q4) (.int .i64 T.fr) (.int .i64 T.to) (.slice q5 T.l.length q6)) w2.heap.size c9 := hO.put7 hbk _ _ _ _ _ _ _
        have hS9 := hS.put7 (b := b) hb1 (by have := hS.1.size; have := HW4.out; omega) (.int .i64 T.lf.1) (.slice q1 T.lf.2.length q2) (.int .i64 T.rt.1) (.slice q3 T.rt.2.length q4) (.int .i64 T.fr) (.int .i64 T.to) (.slice q5 T.l.length q6)
        have hne14 : ls.getD 17 false = true → u14 ≠ .pointer (some ⟨b, 0, none⟩) := fun h => by rw [← e1]; exact d14_15.out h hla
        obtain ⟨⟨⟨Z0, Z1, Z2, Z3, Z4, Z5, Z6⟩, K0, K1, K2, K3, K4, K5, K6⟩, -⟩ := hzb
        subst e1 e2
        go_wp2
        show I _ _ _
        rw [HIH.out]
        exact ⟨_, _, _, _, _, _, _, _, _, _, _, _, _, _, _, _, _, _, _, hsz', rfl, ⟨_, ho9⟩, hS9, (fun h => hD (hs9.okw hkb h)), (gx f0), (gx f1), (gx f2), (gx f3), (gx f4), (gt f5 hs9 hkb), (gt f6 hs9 hkb), (gx f7), (gx f8), (gx f9), (gx f10), (gt f11 hs9 hkb), (gx f12), (gx f13), (gx f14), (gt f15 hs9 hkb), (gt f16 hs9 hkb), (gq f17 hs9 hne14), (go1 (by omega)), (gz f19 hs9 hkb hne14 i14), (fun _ => hst), (gx2 d14_15), (gi i14), (fun _ => by rw [getD_ne (by decide)]; exact hla)⟩
  case rest =>
  generalize wc = W5 at *
  obtain ⟨hxu14, hxu15, ⟨dd5, hO⟩, hS, hD⟩ := hcut
  have hd : Below W5.heap.size W5 W5.drew := (Below.refl _ _).drew
  have hkl := hO.lt
  have hSd := hS.trans (Stp.of (Nat.le_of_lt hkl) hd)
  have HOne5 : Hid (OneB W5.drew w2.heap.size dd5) := hO.below hd
  have HX5 : Hid (Set7 W5.drew w.heap.size (.int .i64 a.lf.1) (.slice a1 a.lf.2.length an1) (.int .i64 a.rt.1) (.slice a2 a.rt.2.length an2) (.int .i64 a.fr) (.int .i64 a.to) (.slice a3 a.l.length an3) ∧ Set7 W5.drew (w.heap.size + 1) (.int .i64 b.lf.1) (.slice b1 b.lf.2.length bn1) (.int .i64 b.rt.1) (.slice b2 b.rt.2.length bn2) (.int .i64 b.fr) (.int .i64 b.to) (.slice b3 b.l.length bn3) ∧ Set7 W5.drew (w.heap.size + 1 + 1) (.int .i64 c.lf.1) (.slice c1 c.lf.2.length cn1) (.int .i64 c.rt.1) (.slice c2 c.rt.2.length cn2) (.int .i64 c.fr) (.int .i64 c.to) (.slice c3 c.l.length cn3) ∧ RdSt W5.drew a (.slice a1 a.lf.2.length an1) (.slice a2 a.rt.2.length an2) (.slice a3 a.l.length an3) ∧ RdSt W5.drew b (.slice b1 b.lf.2.length bn1) (.slice b2 b.rt.2.length bn2) (.slice b3 b.l.length bn3) ∧ RdSt W5.drew c (.slice c1 c.lf.2.length cn1) (.slice c2 c.rt.2.length cn2) (.slice c3 c.l.length cn3)) := ⟨hSd.set7 HNE.out.1.1 HX4.out.1, hSd.set7 HNE.out.1.2.1 HX4.out.2.1, hSd.set7 HNE.out.1.2.2 HX4.out.2.2.1, hSd.st HOne4.out HX4.out.2.2.2.1, hSd.st HOne4.out HX4.out.2.2.2.2.1, hSd.st HOne4.out HX4.out.2.2.2.2.2⟩
  have HK5 := Lib.hid (hSd.cell HNE.out.2.1 HK4.out)
  have HW5 : Hid (w2.heap.size ≤ W5.drew.heap.size) := Nat.le_of_lt hkl
  have HD5 : Hid (OkDown w2.heap.size W4.drew W5.drew) := hD
  have HTu14 : Hid (StoV w2.heap.size (W4.drew.heap.size) (fun T => ∃ T1 T2, (fun T => T = a) T1 ∧ (fun T => ∃ T1 T2, (fun T => T = b) T1 ∧ (fun T => T = c) T2 ∧ combM 0 T1 T2 = (T, 0)) T2 ∧ combM 1 T1 T2 = (T, 0)) u14 W5.drew) := hxu14.stp hO (Stp.of (Nat.le_of_lt hkl) hd) (fun h => h)
  have HTu15 : Hid (StoV w2.heap.size (W4.drew.heap.size) (fun T => ∃ T1 T2, (fun T => ∃ T1 T2, (fun T => T = a) T1 ∧ (fun T => T = b) T2 ∧ combM 1 T1 T2 = (T, 0)) T1 ∧ (fun T => ∃ T1 T2, (fun T => T = a) T1 ∧ (fun T => T = c) T2 ∧ combM 1 T1 T2 = (T, 0)) T2 ∧ combM 0 T1 T2 = (T, 0)) u15 W5.drew) := hxu15.stp hO (Stp.of (Nat.le_of_lt hkl) hd) (fun h => h)
  have HSd5 := Lib.hid hSd
  clear hO hS hD hd hkl hSd hxu14 hxu15
  have HTu12_5 : Hid (StoV w2.heap.size (W3.drew.heap.size) (fun T => ∃ T1, (fun T => ∃ T1 T2, (fun T => T = a) T1 ∧ (fun T => T = b) T2 ∧ combM 0 T1 T2 = (T, 0)) T1 ∧ setNot T1 = (T, 0)) u12 W5.drew) := HTu12.out.stp HOne4.out HSd5.out HD5.out
  have HTu13_5 : Hid (StoV w2.heap.size (W3.drew.heap.size) (fun T => ∃ T1 T2, (fun T => ∃ T1, (fun T => T = a) T1 ∧ setNot T1 = (T, 0)) T1 ∧ (fun T => ∃ T1, (fun T => T = b) T1 ∧ setNot T1 = (T, 0)) T2 ∧ combM 1 T1 T2 = (T, 0)) u13 W5.drew) := HTu13.out.stp HOne4.out HSd5.out HD5.out
  go_upto_region 12 with fail
  go_cut [16, 17] from 64 to 76 (fun p3 q3 wx => StoV w2.heap.size (W5.drew.heap.size) (fun T => combM 2 a b = (T, 0)) p3 wx ∧ StoV w2.heap.size (W5.drew.heap.size) (fun T => ∃ T1 T2, (fun T => T = a) T1 ∧ (fun T => ∃ T1, (fun T => T = b) T1 ∧ setNot T1 = (T, 0)) T2 ∧ combM 1 T1 T2 = (T, 0)) q3 wx ∧ (∃ d, OneB wx w2.heap.size d) ∧ Stp w2.heap.size W5.drew wx ∧ OkDown w2.heap.size W5.drew wx)
  case first =>
    refine wp_region_any (by kernel_rfl) ?_
    change wpAny _ _ _ _ _ _ _ W5.drew
    obtain ⟨I, HIe⟩ : ∃ I : Array Bool → Act → World → Prop, I = fun (ls : Array Bool) (a9 : Act) (w9 : World) => ∃ u16 u17 u64 u65 u66 u67 u68 u69 u70 u71 u72 u73 u74 u75 u76 : Value, ls.size = 17 ∧ a9 = ⟨#[.agg #[.int .i64 a.lf.1, (.slice a1 a.lf.2.length an1), .int .i64 a.rt.1, (.slice a2 a.rt.2.length an2), .int .i64 a.fr, .int .i64 a.to, (.slice a3 a.l.length an3)], .agg #[.int .i64 b.lf.1, (.slice b1 b.lf.2.length bn1), .int .i64 b.rt.1, (.slice b2 b.rt.2.length bn2), .int .i64 b.fr, .int .i64 b.to, (.slice b3 b.l.length bn3)], .agg #[.int .i64 c.lf.1, (.slice c1 c.lf.2.length cn1), .int .i64 c.rt.1, (.slice c2 c.rt.2.length cn2), .int .i64 c.fr, .int .i64 c.to, (.slice c3 c.l.length cn3)], .pointer (some ⟨w.heap.size, 0, none⟩), .pointer (some ⟨w.heap.size + 1, 0, none⟩), .pointer (some ⟨w.heap.size + 1 + 1, 0, none⟩), .bool false, .pointer (some ⟨w2.heap.size, 0, none⟩), .pointer (some ⟨w2.heap.size + 1, 0, none⟩), .func (.func 49) #[] #[.pointer (some ⟨w2.heap.size + 1, 0, none⟩)], .func (.func 51) #[] #[.pointer (some ⟨w2.heap.size + 1, 0, none⟩)], .func (.func 52) #[] #[.pointer (some ⟨w2.heap.size + 1, 0, none⟩)], u12, u13, u14, u15, u16, u17, undef, undef, undef, undef, .bool true, .bool false, .agg #[.int .i64 a.lf.1, (.slice a1 a.lf.2.length an1), .int .i64 a.rt.1, (.slice a2 a.rt.2.length an2), .int .i64 a.fr, .int .i64 a.to, (.slice a3 a.l.length an3)], .agg #[.int .i64 b.lf.1, (.slice b1 b.lf.2.length bn1), .int .i64 b.rt.1, (.slice b2 b.rt.2.length bn2), .int .i64 b.fr, .int .i64 b.to, (.slice b3 b.l.length bn3)], .agg #[.int .i64 c.lf.1, (.slice c1 c.lf.2.length cn1), .int .i64 c.rt.1, (.slice c2 c.rt.2.length cn2), .int .i64 c.fr, .int .i64 c.to, (.slice c3 c.l.length cn3)], .slice (some ⟨w1.heap.size, 0, none⟩) 3 3, .bool false, .func (.func 48) #[] #[.pointer (some ⟨w2.heap.size, 0, none⟩)], .func (.func 49) #[] #[.pointer (some ⟨w2.heap.size + 1, 0, none⟩)], .func (.func 51) #[] #[.pointer (some ⟨w2.heap.size + 1, 0, none⟩)], .func (.func 52) #[] #[.pointer (some ⟨w2.heap.size + 1, 0, none⟩)], u33, u34, u35, u36, u37, u38, u39, u40, u41, u42, u43, u44, u45, u46, u47, u48, u49, u50, u51, u52, u53, u54, u55, u56, u57, u58, u59, u60, u61, u62, u63, u64, u65, u66, u67, u68, u69, u70, u71, u72, u73, u74, u75, u76, undef, undef, undef, undef, undef, undef, undef, undef, undef, undef, undef, undef, undef, undef, undef, undef, undef, undef, undef, undef, undef, undef, undef, undef, undef, undef, undef, undef, undef, undef, undef, undef, undef, undef, undef, undef, undef, undef, undef, undef, undef, undef, undef, undef, undef, undef, undef, undef, undef, undef], []⟩ ∧ (∃ c, OneB w9 w2.heap.size c) ∧ Stp w2.heap.size W5.drew w9 ∧ OkDown w2.heap.size W5.drew w9 ∧ Hid (ls.getD 0 false = true → u64 = .func (.func 48) #[] #[.pointer (some ⟨w2.heap.size, 0, none⟩)]) ∧ Hid (ls.getD 1 false = true → u65 = .agg #[.int .i64 a.lf.1, (.slice a1 a.lf.2.length an1), .int .i64 a.rt.1, (.slice a2 a.rt.2.length an2), .int .i64 a.fr, .int .i64 a.to, (.slice a3 a.l.length an3)]) ∧ Hid (ls.getD 2 false = true → u66 = .agg #[.int .i64 b.lf.1, (.slice b1 b.lf.2.length bn1), .int .i64 b.rt.1, (.slice b2 b.rt.2.length bn2), .int .i64 b.fr, .int .i64 b.to, (.slice b3 b.l.length bn3)]) ∧ Hid (ls.getD 3 false = true → TupV (combM 2 a b) u67 w9) ∧ Hid (ls.getD 4 false = true → SetV w2.heap.size (fun T => T = (combM 2 a b).1) u68 w9) ∧ Hid (ls.getD 5 false = true → u69 = .int .i64 (combM 2 a b).2) ∧ Hid (ls.getD 6 false = true → SetV w2.heap.size (fun T => combM 2 a b = (T, 0)) u70 w9) ∧ Hid (ls.getD 7 false = true → u71 = .func (.func 52) #[] #[.pointer (some ⟨w2.heap.size + 1, 0, none⟩)]) ∧ Hid (ls.getD 8 false = true → u72 = .agg #[.int .i64 a.lf.1, (.slice a1 a.lf.2.length an1), .int .i64 a.rt.1, (.slice a2 a.rt.2.length an2), .int .i64 a.fr, .int .i64 a.to, (.slice a3 a.l.length an3)]) ∧ Hid (ls.getD 9 false = true → u73 = .func (.func 49) #[] #[.pointer (some ⟨w2.heap.size + 1, 0, none⟩)]) ∧ Hid (ls.getD 10 false = true → u74 = .agg #[.int .i64 b.lf.1, (.slice b1 b.lf.2.length bn1), .int .i64 b.rt.1, (.slice b2 b.rt.2.length bn2), .int .i64 b.fr, .int .i64 b.to, (.slice b3 b.l.length bn3)]) ∧ Hid (ls.getD 11 false = true → SetV w2.heap.size (fun T => ∃ T1, (fun T => T = b) T1 ∧ setNot T1 = (T, 0)) u75 w9) ∧ Hid (ls.getD 12 false = true → SetV w2.heap.size (fun T => ∃ T1 T2, (fun T => T = a) T1 ∧ (fun T => ∃ T1, (fun T => T = b) T1 ∧ setNot T1 = (T, 0)) T2 ∧ combM 1 T1 T2 = (T, 0)) u76 w9) ∧ Hid (ls.getD 13 false = true → (ls.getD 15 false = false → BoxV w2.heap.size (W5.drew.heap.size) u16 w9)) ∧ Hid (ls.getD 14 false = true → (ls.getD 16 false = false → BoxV w2.heap.size (W5.drew.heap.size) u17 w9)) ∧ Hid (ls.getD 15 false = true → StoV w2.heap.size (W5.drew.heap.size) (fun T => combM 2 a b = (T, 0)) u16 w9) ∧ Hid (ls.getD 16 false = true → StoV w2.heap.size (W5.drew.heap.size) (fun T => ∃ T1 T2, (fun T => T = a) T1 ∧ (fun T => ∃ T1, (fun T => T = b) T1 ∧ setNot T1 = (T, 0)) T2 ∧ combM 1 T1 T2 = (T, 0)) u17 w9) ∧ Hid (ls.getD 13 false = true → ls.getD 14 false = true → u16 ≠ u17) ∧ Hid (ls.getD 15 false = true → ls.getD 13 false = true) ∧ Hid (ls.getD 16 false = true → ls.getD 14 false = true) := ⟨_, rfl⟩
    have HIH := Lib.hid HIe
    clear HIe
    refine wpAny_inv I ?_ ?_ _ _ _ _ ?_ ?_
    case refine_3 =>
      rw [HIH.out]
      exact ⟨undef, undef, undef, undef, undef, undef, undef, undef, undef, undef, undef, undef, undef, undef, undef, rfl, rfl, ⟨_, HOne5.out⟩, Stp.refl _ _, (fun h => h), (fun h => by cases h), (fun h => by cases h), (fun h => by cases h), (fun h => by cases h), (fun h => by cases h), (fun h => by cases h), (fun h => by cases h), (fun h => by cases h), (fun h => by cases h), (fun h => by cases h), (fun h => by cases h), (fun h => by cases h), (fun h => by cases h), (fun h => by cases h), (fun h => by cases h), (fun h => by cases h), (fun h => by cases h), (fun h => by cases h), (fun h => by cases h), (fun h => by cases h)⟩
    case refine_4 => decide
    case refine_2 =>
      intro ls a9 w9 hI hr
      rw [HIH.out] at hI
      obtain ⟨u16, u17, u64, u65, u66, u67, u68, u69, u70, u71, u72, u73, u74, u75, u76, hsz, rfl, ⟨c9, hO⟩, hS, hD, f0, f1, f2, f3, f4, f5, f6, f7, f8, f9, f10, f11, f12, f13, f14, f15, f16, d16_17, i16, i17⟩ := hI
      have hall := all_listed hsz (by kernel_rfl) hr
      have g15 := f15.out (hall 15 (by decide))
      have g16 := f16.out (hall 16 (by decide))
      refine of_nil (P := Tryz.prog) ?_
      go_wp2_with fail
      go_meet
      case rel => exact ⟨g15, g16, ⟨_, hO⟩, hS, hD⟩

    case refine_1 =>
      intro ls a9 w9 i hI hi
      rw [HIH.out] at hI
      obtain ⟨u16, u17, u64, u65, u66, u67, u68, u69, u70, u71, u72, u73, u74, u75, u76, hsz, rfl, ⟨c9, hO⟩, hS, hD, f0, f1, f2, f3, f4, f5, f6, f7, f8, f9, f10, f11, f12, f13, f14, f15, f16, d16_17, i16, i17⟩ := hI
      obtain ⟨hj, op, hop, hall⟩ := mem_ready.1 hi
      have hlt := (Array.getElem?_eq_some_iff.1 hop).1
      have hlt : i < 17 := hlt
      have hsz' : (ls.setIfInBounds i true).size = 17 := by rw [Array.size_setIfInBounds]; exact hsz
      rcases (show i = 0 ∨ i = 1 ∨ i = 2 ∨ i = 3 ∨ i = 4 ∨ i = 5 ∨ i = 6 ∨ i = 7 ∨ i = 8 ∨ i = 9 ∨ i = 10 ∨ i = 11 ∨ i = 12 ∨ i = 13 ∨ i = 14 ∨ i = 15 ∨ i = 16 by omega) with rfl | rfl | rfl | rfl | rfl | rfl | rfl | rfl | rfl | rfl | rfl | rfl | rfl | rfl | rfl | rfl | rfl
      · simp at hop
        subst hop
        refine wpOp_of_list (i := 0) rfl ?_
        have hk9 := hS.cell HNE.out.2.1 HK5.out
        go_wp2
        show I _ _ _
        rw [HIH.out]
        exact ⟨_, _, _, _, _, _, _, _, _, _, _, _, _, _, _, hsz', rfl, ⟨_, hO⟩, hS, hD, (fun _ => rfl), (gx f1), (gx f2), (gx f3), (gx f4), (gx f5), (gx f6), (gx f7), (gx f8), (gx f9), (gx f10), (gx f11), (gx f12), (gx2 f13), (gx2 f14), (gx f15), (gx f16), (gx2 d16_17), (gi i16), (gi i17)⟩
      · simp at hop
        subst hop
        refine wpOp_of_list (i := 1) rfl ?_
        obtain ⟨⟨A0, A1, A2, A3, A4, A5, A6⟩, -⟩ := hS.set7 HNE.out.1.1 HX5.out.1
        go_wp2
        show I _ _ _
        rw [HIH.out]
        exact ⟨_, _, _, _, _, _, _, _, _, _, _, _, _, _, _, hsz', rfl, ⟨_, hO⟩, hS, hD, (gx f0), (fun _ => rfl), (gx f2), (gx f3), (gx f4), (gx f5), (gx f6), (gx f7), (gx f8), (gx f9), (gx f10), (gx f11), (gx f12), (gx2 f13), (gx2 f14), (gx f15), (gx f16), (gx2 d16_17), (gi i16), (gi i17)⟩
      · simp at hop
        subst hop
        refine wpOp_of_list (i := 2) rfl ?_
        obtain ⟨⟨A0, A1, A2, A3, A4, A5, A6⟩, -⟩ := hS.set7 HNE.out.1.2.1 HX5.out.2.1
        go_wp2
        show I _ _ _
        rw [HIH.out]
        exact ⟨_, _, _, _, _, _, _, _, _, _, _, _, _, _, _, hsz', rfl, ⟨_, hO⟩, hS, hD, (gx f0), (gx f1), (fun _ => rfl), (gx f3), (gx f4), (gx f5), (gx f6), (gx f7), (gx f8), (gx f9), (gx f10), (gx f11), (gx f12), (gx2 f13), (gx2 f14), (gx f15), (gx f16), (gx2 d16_17), (gi i16), (gi i17)⟩
      · simp at hop
        subst hop
        refine wpOp_of_list (i := 3) rfl ?_
        have e1 := f1.out (hall ⟨1, .data⟩ (by simp) rfl)
        have hr1 := hS.st HOne5.out HX5.out.2.2.2.1
        have e2 := f2.out (hall ⟨2, .data⟩ (by simp) rfl)
        have hr2 := hS.st HOne5.out HX5.out.2.2.2.2.1
        subst e1
        subst e2
        have hcall := tMinus_any a b _ _ _ _ _ _ w9 hr1 hr2
        have hkl := hO.lt
        go_wp2_with (go_at_call 54; refine hcall.mono ?_; rintro e' w8 hpost; obtain ⟨vl, vr, vv, rfl, hr8, b8⟩ : ∃ vl vr vv, e' = .returned (.tuple #[.agg #[.int .i64 (combM 2 a b).1.lf.1, vl, .int .i64 (combM 2 a b).1.rt.1, vr, .int .i64 (combM 2 a b).1.fr, .int .i64 (combM 2 a b).1.to, vv], .int .i64 (combM 2 a b).2]) ∧ RdSt w8 (combM 2 a b).1 vl vr vv ∧ Below w9.heap.size w9 w8 := hpost; obtain ⟨y1, ym1, rfl⟩ := hr8.1.form; obtain ⟨y2, ym2, rfl⟩ := hr8.2.1.form; obtain ⟨y3, ym3, rfl⟩ := hr8.2.2.form)
        have hs9 : Stp w2.heap.size w9 w8 := Stp.of (Nat.le_of_lt hkl) b8
        have ho8 := hO.below b8
        have hd9 : OkDown w2.heap.size w9 w8 := fun hk => by
          unfold okw at *
          rw [ho8.1] at hk
          rw [hO.1, hk]
        show I _ _ _
        rw [HIH.out]
        exact ⟨_, _, _, _, _, _, _, _, _, _, _, _, _, _, _, hsz', rfl, ⟨_, ho8⟩, hS.trans hs9, (fun h => hD (hd9 h)), (gx f0), (fun _ => rfl), (fun _ => rfl), (fun _ => ⟨_, _, _, _, _, _, rfl, hr8⟩), (gs f4 hO hs9 hd9), (gx f5), (gs f6 hO hs9 hd9), (gx f7), (gx f8), (gx f9), (gx f10), (gs f11 hO hs9 hd9), (gs f12 hO hs9 hd9), (gp f13 hs9), (gp f14 hs9), (gy f15 hO hs9 hd9), (gy f16 hO hs9 hd9), (gx2 d16_17), (gi i16), (gi i17)⟩
      · simp at hop
        subst hop
        refine wpOp_of_list (i := 4) rfl ?_
        obtain ⟨x11, xm11, x12, xm12, x13, xm13, e1, hr1⟩ := f3.out (hall ⟨3, .data⟩ (by simp) rfl)
        subst e1
        go_wp2
        show I _ _ _
        rw [HIH.out]
        exact ⟨_, _, _, _, _, _, _, _, _, _, _, _, _, _, _, hsz', rfl, ⟨_, hO⟩, hS, hD, (gx f0), (gx f1), (gx f2), (gx f3), (fun _ => ⟨_, _, _, _, _, _, _, rfl, hr1, pos_comb, fun _ => rfl⟩), (gx f5), (gx f6), (gx f7), (gx f8), (gx f9), (gx f10), (gx f11), (gx f12), (gx2 f13), (gx2 f14), (gx f15), (gx f16), (gx2 d16_17), (gi i16), (gi i17)⟩
      · simp at hop
        subst hop
        refine wpOp_of_list (i := 5) rfl ?_
        obtain ⟨x11, xm11, x12, xm12, x13, xm13, e1, hr1⟩ := f3.out (hall ⟨3, .data⟩ (by simp) rfl)
        subst e1
        go_wp2
        show I _ _ _
        rw [HIH.out]
        exact ⟨_, _, _, _, _, _, _, _, _, _, _, _, _, _, _, hsz', rfl, ⟨_, hO⟩, hS, hD, (gx f0), (gx f1), (gx f2), (gx f3), (gx f4), (fun _ => rfl), (gx f6), (gx f7), (gx f8), (gx f9), (gx f10), (gx f11), (gx f12), (gx2 f13), (gx2 f14), (gx f15), (gx f16), (gx2 d16_17), (gi i16), (gi i17)⟩
      · simp at hop
        subst hop
        refine wpOp_of_list (i := 6) rfl ?_
        have e0 := f0.out (hall ⟨0, .data⟩ (by simp) rfl)
        obtain ⟨T1, x11, xm11, x12, xm12, x13, xm13, e1, hr1, hp1, hS1⟩ := f4.out (hall ⟨4, .data⟩ (by simp) rfl)
        have e2 := f5.out (hall ⟨5, .data⟩ (by simp) rfl)
        subst e0
        subst e1
        subst e2
        have hcall := lg_of T1 (combM 2 a b).2 (w2.heap.size) c9 _ _ _ w9 hO hr1 hp1
        go_wp2_with (go_at_call 48; refine hcall.mono ?_; rintro e' w8 ⟨rfl, hr8, ho8, hs9⟩)
        have hd9 : OkDown w2.heap.size w9 w8 := fun hk => (down_call hO ho8 hk).1
        show I _ _ _
        rw [HIH.out]
        exact ⟨_, _, _, _, _, _, _, _, _, _, _, _, _, _, _, hsz', rfl, ⟨_, ho8⟩, hS.trans hs9, (fun h => hD (hd9 h)), (fun _ => rfl), (gx f1), (gx f2), (gu f3 hO hs9), (gs f4 hO hs9 hd9), (fun _ => rfl), (fun _ => ⟨T1, _, _, _, _, _, _, rfl, hr8, hp1, fun hk => Prod.ext (hS1 (down_call hO ho8 hk).1).symm (down_call hO ho8 hk).2⟩), (gx f7), (gx f8), (gx f9), (gx f10), (gs f11 hO hs9 hd9), (gs f12 hO hs9 hd9), (gp f13 hs9), (gp f14 hs9), (gy f15 hO hs9 hd9), (gy f16 hO hs9 hd9), (gx2 d16_17), (gi i16), (gi i17)⟩
      · simp at hop
        subst hop
        refine wpOp_of_list (i := 7) rfl ?_
        go_wp2
        show I _ _ _
        rw [HIH.out]
        exact ⟨_, _, _, _, _, _, _, _, _, _, _, _, _, _, _, hsz', rfl, ⟨_, hO⟩, hS, hD, (gx f0), (gx f1), (gx f2), (gx f3), (gx f4), (gx f5), (gx f6), (fun _ => rfl), (gx f8), (gx f9), (gx f10), (gx f11), (gx f12), (gx2 f13), (gx2 f14), (gx f15), (gx f16), (gx2 d16_17), (gi i16), (gi i17)⟩
      · simp at hop
        subst hop
        refine wpOp_of_list (i := 8) rfl ?_
        obtain ⟨⟨A0, A1, A2, A3, A4, A5, A6⟩, -⟩ := hS.set7 HNE.out.1.1 HX5.out.1
        go_wp2
        show I _ _ _
        rw [HIH.out]
        exact ⟨_, _, _, _, _, _, _, _, _, _, _, _, _, _, _, hsz', rfl, ⟨_, hO⟩, hS, hD, (gx f0), (gx f1), (gx f2), (gx f3), (gx f4), (gx f5), (gx f6), (gx f7), (fun _ => rfl), (gx f9), (gx f10), (gx f11), (gx f12), (gx2 f13), (gx2 f14), (gx f15), (gx f16), (gx2 d16_17), (gi i16), (gi i17)⟩
      · simp at hop
        subst hop
        refine wpOp_of_list (i := 9) rfl ?_
        go_wp2
        show I _ _ _
        rw [HIH.out]
        exact ⟨_, _, _, _, _, _, _, _, _, _, _, _, _, _, _, hsz', rfl, ⟨_, hO⟩, hS, hD, (gx f0), (gx f1), (gx f2), (gx f3), (gx f4), (gx f5), (gx f6), (gx f7), (gx f8), (fun _ => rfl), (gx f10), (gx f11), (gx f12), (gx2 f13), (gx2 f14), (gx f15), (gx f16), (gx2 d16_17), (gi i16), (gi i17)⟩
      · simp at hop
        subst hop
        refine wpOp_of_list (i := 10) rfl ?_
        obtain ⟨⟨A0, A1, A2, A3, A4, A5, A6⟩, -⟩ := hS.set7 HNE.out.1.2.1 HX5.out.2.1
        go_wp2
        show I _ _ _
        rw [HIH.out]
        exact ⟨_, _, _, _, _, _, _, _, _, _, _, _, _, _, _, hsz', rfl, ⟨_, hO⟩, hS, hD, (gx f0), (gx f1), (gx f2), (gx f3), (gx f4), (gx f5), (gx f6), (gx f7), (gx f8), (gx f9), (fun _ => rfl), (gx f11), (gx f12), (gx2 f13), (gx2 f14), (gx f15), (gx f16), (gx2 d16_17), (gi i16), (gi i17)⟩
      · simp at hop
        subst hop
        refine wpOp_of_list (i := 11) rfl ?_
        have e1 := f9.out (hall ⟨9, .data⟩ (by simp) rfl)
        subst e1
        have e1 := f10.out (hall ⟨10, .data⟩ (by simp) rfl)
        have hr1 := hS.st HOne5.out HX5.out.2.2.2.2.1
        subst e1
        have hk9 := hS.cell HNE.out.2.1 HK5.out
        have hcall := lg_not b (w2.heap.size) (w2.heap.size + 1) c9 _ _ _ w9 hO hk9 HNE.out.2.1 hr1
        go_wp2_with (go_at_call 49; refine hcall.mono ?_; rintro e' w8 ⟨vl, vr, vv, rfl, hr8, ho8, hs9⟩; obtain ⟨y1, ym1, rfl⟩ := hr8.1.form; obtain ⟨y2, ym2, rfl⟩ := hr8.2.1.form; obtain ⟨y3, ym3, rfl⟩ := hr8.2.2.form)
        have hd9 : OkDown w2.heap.size w9 w8 := fun hk => (down_call hO ho8 hk).1
        show I _ _ _
        rw [HIH.out]
        exact ⟨_, _, _, _, _, _, _, _, _, _, _, _, _, _, _, hsz', rfl, ⟨_, ho8⟩, hS.trans hs9, (fun h => hD (hd9 h)), (gx f0), (gx f1), (gx f2), (gu f3 hO hs9), (gs f4 hO hs9 hd9), (gx f5), (gs f6 hO hs9 hd9), (gx f7), (gx f8), (fun _ => rfl), (fun _ => rfl), (fun _ => ⟨(setNot b).1, _, _, _, _, _, _, rfl, hr8, pos_not, fun hk => ⟨b, rfl, Prod.ext rfl (down_call hO ho8 hk).2⟩⟩), (gs f12 hO hs9 hd9), (gp f13 hs9), (gp f14 hs9), (gy f15 hO hs9 hd9), (gy f16 hO hs9 hd9), (gx2 d16_17), (gi i16), (gi i17)⟩
      · simp at hop
        subst hop
        refine wpOp_of_list (i := 12) rfl ?_
        have e1 := f7.out (hall ⟨7, .data⟩ (by simp) rfl)
        subst e1
        have e1 := f8.out (hall ⟨8, .data⟩ (by simp) rfl)
        have hr1 := hS.st HOne5.out HX5.out.2.2.2.1
        obtain ⟨T2, x21, xm21, x22, xm22, x23, xm23, e2, hr2, hp2, hS2⟩ := f11.out (hall ⟨11, .data⟩ (by simp) rfl)
        subst e1
        subst e2
        have hk9 := hS.cell HNE.out.2.1 HK5.out
        have hcall := lg_and a T2 (w2.heap.size) (w2.heap.size + 1) c9 _ _ _ _ _ _ w9 hO hk9 HNE.out.2.1 hr1 hr2
        go_wp2_with (go_at_call 52; refine hcall.mono ?_; rintro e' w8 ⟨vl, vr, vv, rfl, hr8, ho8, hs9⟩; obtain ⟨y1, ym1, rfl⟩ := hr8.1.form; obtain ⟨y2, ym2, rfl⟩ := hr8.2.1.form; obtain ⟨y3, ym3, rfl⟩ := hr8.2.2.form)
        have hd9 : OkDown w2.heap.size w9 w8 := fun hk => (down_call hO ho8 hk).1
        show I _ _ _
        rw [HIH.out]
        exact ⟨_, _, _, _, _, _, _, _, _, _, _, _, _, _, _, hsz', rfl, ⟨_, ho8⟩, hS.trans hs9, (fun h => hD (hd9 h)), (gx f0), (gx f1), (gx f2), (gu f3 hO hs9), (gs f4 hO hs9 hd9), (gx f5), (gs f6 hO hs9 hd9), (fun _ => rfl), (fun _ => rfl), (gx f9), (gx f10), (gs f11 hO hs9 hd9), (fun _ => ⟨(combM 1 a T2).1, _, _, _, _, _, _, rfl, hr8, pos_comb, fun hk => ⟨a, T2, rfl, hS2 (down_call hO ho8 hk).1, Prod.ext rfl (down_call hO ho8 hk).2⟩⟩), (gp f13 hs9), (gp f14 hs9), (gy f15 hO hs9 hd9), (gy f16 hO hs9 hd9), (gx2 d16_17), (gi i16), (gi i17)⟩
      · simp at hop
        subst hop
        refine wpOp_of_list (i := 13) rfl ?_
        have hna : ls.getD 13 false = false := by
          cases hq : ls.getD 13 false with
          | false => rfl
          | true =>
            have hq2 := getD_false hj
            rw [Array.getD_eq_getD_getElem?, hq2] at hq
            cases hq
        have hb9 : Below w9.heap.size w9 (w9.alloc (.cells #[.int .i64 0, .slice none 0 0, .int .i64 0, .slice none 0 0, .int .i64 0, .int .i64 0, .slice none 0 0] 26)) := (Below.refl _ _).alloc (Nat.le_refl _) _
        have hkl := hO.lt
        have hs9 : Stp w2.heap.size w9 _ := Stp.of (Nat.le_of_lt hkl) hb9
        have ho9 := hO.below hb9
        have hd9 : OkDown w2.heap.size w9 (w9.alloc (.cells #[.int .i64 0, .slice none 0 0, .int .i64 0, .slice none 0 0, .int .i64 0, .int .i64 0, .slice none 0 0] 26)) := fun hk => by
          unfold okw at *
          rw [ho9.1] at hk
          rw [hO.1, hk]
        have hzb := ZB.new w9
        have hn0 : W5.drew.heap.size ≤ w9.heap.size := hS.1.size
        have newne16_17 : ∀ (_ : (ls.setIfInBounds 13 true).getD 13 false = true) (h : ls.getD 14 false = true), (.pointer (some ⟨w9.heap.size, 0, none⟩) : Value) ≠ u17 := by
          intro h h'
          have hx : ls.getD 14 false = true := by first | exact h | exact h'
          cases hst : ls.getD 16 false with
          | true =>
            obtain ⟨b, T, q1, q2, q3, q4, q5, q6, eb, _, _, h7, _⟩ := f16.out hst
            have hbl := World.block_lt_of_cell? w9 ⟨b, 0, none⟩ h7.1.1
            have hbl : b < w9.heap.size := hbl
            rw [eb]
            intro hh
            injection hh with hh
            injection hh with hh
            injection hh with hh
            omega
          | false =>
            obtain ⟨b, eb, _, _, h7⟩ := f14.out hx hst
            have hbl := World.block_lt_of_cell? w9 ⟨b, 0, none⟩ h7.1.1.1
            have hbl : b < w9.heap.size := hbl
            rw [eb]
            intro hh
            injection hh with hh
            injection hh with hh
            injection hh with hh
            omega
        go_wp2
        show I _ _ _
        rw [HIH.out]
        exact ⟨_, _, _, _, _, _, _, _, _, _, _, _, _, _, _, hsz', rfl, ⟨_, ho9⟩, hS.trans hs9, (fun h => hD (hd9 h)), (gx f0), (gx f1), (gx f2), (gu f3 hO hs9), (gs f4 hO hs9 hd9), (gx f5), (gs f6 hO hs9 hd9), (gx f7), (gx f8), (gx f9), (gx f10), (gs f11 hO hs9 hd9), (gs f12 hO hs9 hd9), (fun _ _ => ⟨w9.heap.size, rfl, hn0, by omega, hzb⟩), (gp f14 hs9), (gn i16 hna), (gy f16 hO hs9 hd9), (fun h h' => newne16_17 (by first | exact h | exact gd h) (by first | exact h' | exact gd h')), (fun _ => getD_self (by omega)), (gi i17)⟩
      · simp at hop
        subst hop
        refine wpOp_of_list (i := 14) rfl ?_
        have hna : ls.getD 14 false = false := by
          cases hq : ls.getD 14 false with
          | false => rfl
          | true =>
            have hq2 := getD_false hj
            rw [Array.getD_eq_getD_getElem?, hq2] at hq
            cases hq
        have hb9 : Below w9.heap.size w9 (w9.alloc (.cells #[.int .i64 0, .slice none 0 0, .int .i64 0, .slice none 0 0, .int .i64 0, .int .i64 0, .slice none 0 0] 26)) := (Below.refl _ _).alloc (Nat.le_refl _) _
        have hkl := hO.lt
        have hs9 : Stp w2.heap.size w9 _ := Stp.of (Nat.le_of_lt hkl) hb9
        have ho9 := hO.below hb9
        have hd9 : OkDown w2.heap.size w9 (w9.alloc (.cells #[.int .i64 0, .slice none 0 0, .int .i64 0, .slice none 0 0, .int .i64 0, .int .i64 0, .slice none 0 0] 26)) := fun hk => by
          unfold okw at *
          rw [ho9.1] at hk
          rw [hO.1, hk]
        have hzb := ZB.new w9
        have hn0 : W5.drew.heap.size ≤ w9.heap.size := hS.1.size
        have newne16_17 : ∀ (h : ls.getD 13 false = true) (_ : (ls.setIfInBounds 14 true).getD 14 false = true), u16 ≠ (.pointer (some ⟨w9.heap.size, 0, none⟩) : Value) := by
          intro h h'
          have hx : ls.getD 13 false = true := by first | exact h | exact h'
          cases hst : ls.getD 15 false with
          | true =>
            obtain ⟨b, T, q1, q2, q3, q4, q5, q6, eb, _, _, h7, _⟩ := f15.out hst
            have hbl := World.block_lt_of_cell? w9 ⟨b, 0, none⟩ h7.1.1
            have hbl : b < w9.heap.size := hbl
            rw [eb]
            intro hh
            injection hh with hh
            injection hh with hh
            injection hh with hh
            omega
          | false =>
            obtain ⟨b, eb, _, _, h7⟩ := f13.out hx hst
            have hbl := World.block_lt_of_cell? w9 ⟨b, 0, none⟩ h7.1.1.1
            have hbl : b < w9.heap.size := hbl
            rw [eb]
            intro hh
            injection hh with hh
            injection hh with hh
            injection hh with hh
            omega
        go_wp2
        show I _ _ _
        rw [HIH.out]
        exact ⟨_, _, _, _, _, _, _, _, _, _, _, _, _, _, _, hsz', rfl, ⟨_, ho9⟩, hS.trans hs9, (fun h => hD (hd9 h)), (gx f0), (gx f1), (gx f2), (gu f3 hO hs9), (gs f4 hO hs9 hd9), (gx f5), (gs f6 hO hs9 hd9), (gx f7), (gx f8), (gx f9), (gx f10), (gs f11 hO hs9 hd9), (gs f12 hO hs9 hd9), (gp f13 hs9), (fun _ _ => ⟨w9.heap.size, rfl, hn0, by omega, hzb⟩), (gy f15 hO hs9 hd9), (gn i17 hna), (fun h h' => newne16_17 (by first | exact h | exact gd h) (by first | exact h' | exact gd h')), (gi i16), (fun _ => getD_self (by omega))⟩
      · simp at hop
        subst hop
        refine wpOp_of_list (i := 15) rfl ?_
        have hns : ls.getD 15 false = false := by
          cases hq : ls.getD 15 false with
          | false => rfl
          | true =>
            have hq2 := getD_false hj
            rw [Array.getD_eq_getD_getElem?, hq2] at hq
            cases hq
        have hla := hall ⟨13, .data⟩ (by simp) rfl
        obtain ⟨b, T, q1, q2, q3, q4, q5, q6, e1, hb1, hbk, e2, hzb, hs9, hst⟩ := (f13.out hla hns).put (f6.out (hall ⟨6, .data⟩ (by simp) rfl))
        have hkb : w2.heap.size ≠ b := fun q => hbk q.symm
        have hkl := hO.lt
        have ho9 : OneB (put7 w9 b (.int .i64 T.lf.1) (.slice q1 T.lf.2.length q2) (.int .i64 T.rt.1) (.slice q3 T.rt.2.length q4) (.int .i64 T.fr) (.int .i64 T.to) (.slice q5 T.l.length q6)) w2.heap.size c9 := hO.put7 hbk _ _ _ _ _ _ _
        have hS9 := hS.put7 (b := b) hb1 (by have := hS.1.size; have := HW5.out; omega) (.int .i64 T.lf.1) (.slice q1 T.lf.2.length q2) (.int .i64 T.rt.1) (.slice q3 T.rt.2.length q4) (.int .i64 T.fr) (.int .i64 T.to) (.slice q5 T.l.length q6)
        have hne17 : ls.getD 14 false = true → u17 ≠ .pointer (some ⟨b, 0, none⟩) := fun h => by rw [← e1]; exact fun q => d16_17.out hla h q.symm
        obtain ⟨⟨⟨Z0, Z1, Z2, Z3, Z4, Z5, Z6⟩, K0, K1, K2, K3, K4, K5, K6⟩, -⟩ := hzb
        subst e1 e2
        go_wp2
        show I _ _ _
        rw [HIH.out]
        exact ⟨_, _, _, _, _, _, _, _, _, _, _, _, _, _, _, hsz', rfl, ⟨_, ho9⟩, hS9, (fun h => hD (hs9.okw hkb h)), (gx f0), (gx f1), (gx f2), (gv f3 hs9 pos_comb), (gt f4 hs9 hkb), (gx f5), (gt f6 hs9 hkb), (gx f7), (gx f8), (gx f9), (gx f10), (gt f11 hs9 hkb), (gt f12 hs9 hkb), (go1 (by omega)), (gq f14 hs9 hne17), (fun _ => hst), (gz f16 hs9 hkb hne17 i17), (gx2 d16_17), (fun _ => by rw [getD_ne (by decide)]; exact hla), (gi i17)⟩
      · simp at hop
        subst hop
        refine wpOp_of_list (i := 16) rfl ?_
        have hns : ls.getD 16 false = false := by
          cases hq : ls.getD 16 false with
          | false => rfl
          | true =>
            have hq2 := getD_false hj
            rw [Array.getD_eq_getD_getElem?, hq2] at hq
            cases hq
        have hla := hall ⟨14, .data⟩ (by simp) rfl
        obtain ⟨b, T, q1, q2, q3, q4, q5, q6, e1, hb1, hbk, e2, hzb, hs9, hst⟩ := (f14.out hla hns).put (f12.out (hall ⟨12, .data⟩ (by simp) rfl))
        have hkb : w2.heap.size ≠ b := fun q => hbk q.symm
        have hkl := hO.lt
        have ho9 : OneB (put7 w9 b (.int .i64 T.lf.1) (.slice q1 T.lf.2.length q2) (.int .i64 T.rt.1) (.slice q3 T.rt.2.length q4) (.int .i64 T.fr) (.int .i64 T.to) (.slice q5 T.l.length q6)) w2.heap.size c9 := hO.put7 hbk _ _ _ _ _ _ _
        have hS9 := hS.put7 (b := b) hb1 (by have := hS.1.size; have := HW5.out; omega) (.int .i64 T.lf.1) (.slice q1 T.lf.2.length q2) (.int .i64 T.rt.1) (.slice q3 T.rt.2.length q4) (.int .i64 T.fr) (.int .i64 T.to) (.slice q5 T.l.length q6)
        have hne16 : ls.getD 13 false = true → u16 ≠ .pointer (some ⟨b, 0, none⟩) := fun h => by rw [← e1]; exact d16_17.out h hla
        obtain ⟨⟨⟨Z0, Z1, Z2, Z3, Z4, Z5, Z6⟩, K0, K1, K2, K3, K4, K5, K6⟩, -⟩ := hzb
        subst e1 e2
        go_wp2
        show I _ _ _
        rw [HIH.out]
        exact ⟨_, _, _, _, _, _, _, _, _, _, _, _, _, _, _, hsz', rfl, ⟨_, ho9⟩, hS9, (fun h => hD (hs9.okw hkb h)), (gx f0), (gx f1), (gx f2), (gv f3 hs9 pos_comb), (gt f4 hs9 hkb), (gx f5), (gt f6 hs9 hkb), (gx f7), (gx f8), (gx f9), (gx f10), (gt f11 hs9 hkb), (gt f12 hs9 hkb), (gq f13 hs9 hne16), (go1 (by omega)), (gz f15 hs9 hkb hne16 i16), (fun _ => hst), (gx2 d16_17), (gi i16), (fun _ => by rw [getD_ne (by decide)]; exact hla)⟩
  case rest =>
  generalize wc = W6 at *
  obtain ⟨hxu16, hxu17, ⟨dd6, hO⟩, hS, hD⟩ := hcut
  have hd : Below W6.heap.size W6 W6.drew := (Below.refl _ _).drew
  have hkl := hO.lt
  have hSd := hS.trans (Stp.of (Nat.le_of_lt hkl) hd)
  have HOne6 : Hid (OneB W6.drew w2.heap.size dd6) := hO.below hd
  have HX6 : Hid (Set7 W6.drew w.heap.size (.int .i64 a.lf.1) (.slice a1 a.lf.2.length an1) (.int .i64 a.rt.1) (.slice a2 a.rt.2.length an2) (.int .i64 a.fr) (.int .i64 a.to) (.slice a3 a.l.length an3) ∧ Set7 W6.drew (w.heap.size + 1) (.int .i64 b.lf.1) (.slice b1 b.lf.2.length bn1) (.int .i64 b.rt.1) (.slice b2 b.rt.2.length bn2) (.int .i64 b.fr) (.int .i64 b.to) (.slice b3 b.l.length bn3) ∧ Set7 W6.drew (w.heap.size + 1 + 1) (.int .i64 c.lf.1) (.slice c1 c.lf.2.length cn1) (.int .i64 c.rt.1) (.slice c2 c.rt.2.length cn2) (.int .i64 c.fr) (.int .i64 c.to) (.slice c3 c.l.length cn3) ∧ RdSt W6.drew a (.slice a1 a.lf.2.length an1) (.slice a2 a.rt.2.length an2) (.slice a3 a.l.length an3) ∧ RdSt W6.drew b (.slice b1 b.lf.2.length bn1) (.slice b2 b.rt.2.length bn2) (.slice b3 b.l.length bn3) ∧ RdSt W6.drew c (.slice c1 c.lf.2.length cn1) (.slice c2 c.rt.2.length cn2) (.slice c3 c.l.length cn3)) := ⟨hSd.set7 HNE.out.1.1 HX5.out.1, hSd.set7 HNE.out.1.2.1 HX5.out.2.1, hSd.set7 HNE.out.1.2.2 HX5.out.2.2.1, hSd.st HOne5.out HX5.out.2.2.2.1, hSd.st HOne5.out HX5.out.2.2.2.2.1, hSd.st HOne5.out HX5.out.2.2.2.2.2⟩
  have HK6 := Lib.hid (hSd.cell HNE.out.2.1 HK5.out)
  have HW6 : Hid (w2.heap.size ≤ W6.drew.heap.size) := Nat.le_of_lt hkl
  have HD6 : Hid (OkDown w2.heap.size W5.drew W6.drew) := hD
  have HTu16 : Hid (StoV w2.heap.size (W5.drew.heap.size) (fun T => combM 2 a b = (T, 0)) u16 W6.drew) := hxu16.stp hO (Stp.of (Nat.le_of_lt hkl) hd) (fun h => h)
  have HTu17 : Hid (StoV w2.heap.size (W5.drew.heap.size) (fun T => ∃ T1 T2, (fun T => T = a) T1 ∧ (fun T => ∃ T1, (fun T => T = b) T1 ∧ setNot T1 = (T, 0)) T2 ∧ combM 1 T1 T2 = (T, 0)) u17 W6.drew) := hxu17.stp hO (Stp.of (Nat.le_of_lt hkl) hd) (fun h => h)
  have HSd6 := Lib.hid hSd
  clear hO hS hD hd hkl hSd hxu16 hxu17
  have HTu12_6 : Hid (StoV w2.heap.size (W3.drew.heap.size) (fun T => ∃ T1, (fun T => ∃ T1 T2, (fun T => T = a) T1 ∧ (fun T => T = b) T2 ∧ combM 0 T1 T2 = (T, 0)) T1 ∧ setNot T1 = (T, 0)) u12 W6.drew) := HTu12_5.out.stp HOne5.out HSd6.out HD6.out
  have HTu13_6 : Hid (StoV w2.heap.size (W3.drew.heap.size) (fun T => ∃ T1 T2, (fun T => ∃ T1, (fun T => T = a) T1 ∧ setNot T1 = (T, 0)) T1 ∧ (fun T => ∃ T1, (fun T => T = b) T1 ∧ setNot T1 = (T, 0)) T2 ∧ combM 1 T1 T2 = (T, 0)) u13 W6.drew) := HTu13_5.out.stp HOne5.out HSd6.out HD6.out
  have HTu14_6 : Hid (StoV w2.heap.size (W4.drew.heap.size) (fun T => ∃ T1 T2, (fun T => T = a) T1 ∧ (fun T => ∃ T1 T2, (fun T => T = b) T1 ∧ (fun T => T = c) T2 ∧ combM 0 T1 T2 = (T, 0)) T2 ∧ combM 1 T1 T2 = (T, 0)) u14 W6.drew) := HTu14.out.stp HOne5.out HSd6.out HD6.out
  have HTu15_6 : Hid (StoV w2.heap.size (W4.drew.heap.size) (fun T => ∃ T1 T2, (fun T => ∃ T1 T2, (fun T => T = a) T1 ∧ (fun T => T = b) T2 ∧ combM 1 T1 T2 = (T, 0)) T1 ∧ (fun T => ∃ T1 T2, (fun T => T = a) T1 ∧ (fun T => T = c) T2 ∧ combM 1 T1 T2 = (T, 0)) T2 ∧ combM 0 T1 T2 = (T, 0)) u15 W6.drew) := HTu15.out.stp HOne5.out HSd6.out HD6.out
  go_upto_region 13 with fail
  go_cut [18, 19, 20, 21] from 77 to 96 (fun p4 q4 r4 s4 wx => StoV w2.heap.size (W6.drew.heap.size) (fun T => ∃ T1, (fun T => ∃ T1, (fun T => T = a) T1 ∧ setNot T1 = (T, 0)) T1 ∧ setNot T1 = (T, 0)) p4 wx ∧ StoV w2.heap.size (W6.drew.heap.size) (fun T => ∃ T1 T2, (fun T => T = a) T1 ∧ (fun T => T = b) T2 ∧ combM 0 T1 T2 = (T, 0)) q4 wx ∧ StoV w2.heap.size (W6.drew.heap.size) (fun T => ∃ T1 T2, (fun T => T = b) T1 ∧ (fun T => T = a) T2 ∧ combM 0 T1 T2 = (T, 0)) r4 wx ∧ StoV w2.heap.size (W6.drew.heap.size) (fun T => ∃ T1 T2, (fun T => ∃ T1 T2, (fun T => T = a) T1 ∧ (fun T => T = b) T2 ∧ combM 1 T1 T2 = (T, 0)) T1 ∧ (fun T => combM 2 a b = (T, 0)) T2 ∧ combM 0 T1 T2 = (T, 0)) s4 wx ∧ (∃ d, OneB wx w2.heap.size d) ∧ Stp w2.heap.size W6.drew wx ∧ OkDown w2.heap.size W6.drew wx)
  case first =>
    refine wp_region_any (by kernel_rfl) ?_
    change wpAny _ _ _ _ _ _ _ W6.drew
    obtain ⟨I, HIe⟩ : ∃ I : Array Bool → Act → World → Prop, I = fun (ls : Array Bool) (a9 : Act) (w9 : World) => ∃ u18 u19 u20 u21 u77 u78 u79 u80 u81 u82 u83 u84 u85 u86 u87 u88 u89 u90 u91 u92 u93 u94 u95 u96 : Value, ls.size = 28 ∧ a9 = ⟨#[.agg #[.int .i64 a.lf.1, (.slice a1 a.lf.2.length an1), .int .i64 a.rt.1, (.slice a2 a.rt.2.length an2), .int .i64 a.fr, .int .i64 a.to, (.slice a3 a.l.length an3)], .agg #[.int .i64 b.lf.1, (.slice b1 b.lf.2.length bn1), .int .i64 b.rt.1, (.slice b2 b.rt.2.length bn2), .int .i64 b.fr, .int .i64 b.to, (.slice b3 b.l.length bn3)], .agg #[.int .i64 c.lf.1, (.slice c1 c.lf.2.length cn1), .int .i64 c.rt.1, (.slice c2 c.rt.2.length cn2), .int .i64 c.fr, .int .i64 c.to, (.slice c3 c.l.length cn3)], .pointer (some ⟨w.heap.size, 0, none⟩), .pointer (some ⟨w.heap.size + 1, 0, none⟩), .pointer (some ⟨w.heap.size + 1 + 1, 0, none⟩), .bool false, .pointer (some ⟨w2.heap.size, 0, none⟩), .pointer (some ⟨w2.heap.size + 1, 0, none⟩), .func (.func 49) #[] #[.pointer (some ⟨w2.heap.size + 1, 0, none⟩)], .func (.func 51) #[] #[.pointer (some ⟨w2.heap.size + 1, 0, none⟩)], .func (.func 52) #[] #[.pointer (some ⟨w2.heap.size + 1, 0, none⟩)], u12, u13, u14, u15, u16, u17, u18, u19, u20, u21, .bool true, .bool false, .agg #[.int .i64 a.lf.1, (.slice a1 a.lf.2.length an1), .int .i64 a.rt.1, (.slice a2 a.rt.2.length an2), .int .i64 a.fr, .int .i64 a.to, (.slice a3 a.l.length an3)], .agg #[.int .i64 b.lf.1, (.slice b1 b.lf.2.length bn1), .int .i64 b.rt.1, (.slice b2 b.rt.2.length bn2), .int .i64 b.fr, .int .i64 b.to, (.slice b3 b.l.length bn3)], .agg #[.int .i64 c.lf.1, (.slice c1 c.lf.2.length cn1), .int .i64 c.rt.1, (.slice c2 c.rt.2.length cn2), .int .i64 c.fr, .int .i64 c.to, (.slice c3 c.l.length cn3)], .slice (some ⟨w1.heap.size, 0, none⟩) 3 3, .bool false, .func (.func 48) #[] #[.pointer (some ⟨w2.heap.size, 0, none⟩)], .func (.func 49) #[] #[.pointer (some ⟨w2.heap.size + 1, 0, none⟩)], .func (.func 51) #[] #[.pointer (some ⟨w2.heap.size + 1, 0, none⟩)], .func (.func 52) #[] #[.pointer (some ⟨w2.heap.size + 1, 0, none⟩)], u33, u34, u35, u36, u37, u38, u39, u40, u41, u42, u43, u44, u45, u46, u47, u48, u49, u50, u51, u52, u53, u54, u55, u56, u57, u58, u59, u60, u61, u62, u63, u64, u65, u66, u67, u68, u69, u70, u71, u72, u73, u74, u75, u76, u77, u78, u79, u80, u81, u82, u83, u84, u85, u86, u87, u88, u89, u90, u91, u92, u93, u94, u95, u96, undef, undef, undef, undef, undef, undef, undef, undef, undef, undef, undef, undef, undef, undef, undef, undef, undef, undef, undef, undef, undef, undef, undef, undef, undef, undef, undef, undef, undef, undef], []⟩ ∧ (∃ c, OneB w9 w2.heap.size c) ∧ Stp w2.heap.size W6.drew w9 ∧ OkDown w2.heap.size W6.drew w9 ∧ Hid (ls.getD 0 false = true → u77 = .func (.func 49) #[] #[.pointer (some ⟨w2.heap.size + 1, 0, none⟩)]) ∧ Hid (ls.getD 1 false = true → u78 = .func (.func 49) #[] #[.pointer (some ⟨w2.heap.size + 1, 0, none⟩)]) ∧ Hid (ls.getD 2 false = true → u79 = .agg #[.int .i64 a.lf.1, (.slice a1 a.lf.2.length an1), .int .i64 a.rt.1, (.slice a2 a.rt.2.length an2), .int .i64 a.fr, .int .i64 a.to, (.slice a3 a.l.length an3)]) ∧ Hid (ls.getD 3 false = true → SetV w2.heap.size (fun T => ∃ T1, (fun T => T = a) T1 ∧ setNot T1 = (T, 0)) u80 w9) ∧ Hid (ls.getD 4 false = true → SetV w2.heap.size (fun T => ∃ T1, (fun T => ∃ T1, (fun T => T = a) T1 ∧ setNot T1 = (T, 0)) T1 ∧ setNot T1 = (T, 0)) u81 w9) ∧ Hid (ls.getD 5 false = true → u82 = .func (.func 51) #[] #[.pointer (some ⟨w2.heap.size + 1, 0, none⟩)]) ∧ Hid (ls.getD 6 false = true → u83 = .agg #[.int .i64 a.lf.1, (.slice a1 a.lf.2.length an1), .int .i64 a.rt.1, (.slice a2 a.rt.2.length an2), .int .i64 a.fr, .int .i64 a.to, (.slice a3 a.l.length an3)]) ∧ Hid (ls.getD 7 false = true → u84 = .agg #[.int .i64 b.lf.1, (.slice b1 b.lf.2.length bn1), .int .i64 b.rt.1, (.slice b2 b.rt.2.length bn2), .int .i64 b.fr, .int .i64 b.to, (.slice b3 b.l.length bn3)]) ∧ Hid (ls.getD 8 false = true → SetV w2.heap.size (fun T => ∃ T1 T2, (fun T => T = a) T1 ∧ (fun T => T = b) T2 ∧ combM 0 T1 T2 = (T, 0)) u85 w9) ∧ Hid (ls.getD 9 false = true → u86 = .func (.func 51) #[] #[.pointer (some ⟨w2.heap.size + 1, 0, none⟩)]) ∧ Hid (ls.getD 10 false = true → u87 = .agg #[.int .i64 b.lf.1, (.slice b1 b.lf.2.length bn1), .int .i64 b.rt.1, (.slice b2 b.rt.2.length bn2), .int .i64 b.fr, .int .i64 b.to, (.slice b3 b.l.length bn3)]) ∧ Hid (ls.getD 11 false = true → u88 = .agg #[.int .i64 a.lf.1, (.slice a1 a.lf.2.length an1), .int .i64 a.rt.1, (.slice a2 a.rt.2.length an2), .int .i64 a.fr, .int .i64 a.to, (.slice a3 a.l.length an3)]) ∧ Hid (ls.getD 12 false = true → SetV w2.heap.size (fun T => ∃ T1 T2, (fun T => T = b) T1 ∧ (fun T => T = a) T2 ∧ combM 0 T1 T2 = (T, 0)) u89 w9) ∧ Hid (ls.getD 13 false = true → u90 = .func (.func 51) #[] #[.pointer (some ⟨w2.heap.size + 1, 0, none⟩)]) ∧ Hid (ls.getD 14 false = true → u91 = .func (.func 52) #[] #[.pointer (some ⟨w2.heap.size + 1, 0, none⟩)]) ∧ Hid (ls.getD 15 false = true → u92 = .agg #[.int .i64 a.lf.1, (.slice a1 a.lf.2.length an1), .int .i64 a.rt.1, (.slice a2 a.rt.2.length an2), .int .i64 a.fr, .int .i64 a.to, (.slice a3 a.l.length an3)]) ∧ Hid (ls.getD 16 false = true → u93 = .agg #[.int .i64 b.lf.1, (.slice b1 b.lf.2.length bn1), .int .i64 b.rt.1, (.slice b2 b.rt.2.length bn2), .int .i64 b.fr, .int .i64 b.to, (.slice b3 b.l.length bn3)]) ∧ Hid (ls.getD 17 false = true → SetV w2.heap.size (fun T => ∃ T1 T2, (fun T => T = a) T1 ∧ (fun T => T = b) T2 ∧ combM 1 T1 T2 = (T, 0)) u94 w9) ∧ Hid (ls.getD 18 false = true → SetV w2.heap.size (fun T => combM 2 a b = (T, 0)) u95 w9) ∧ Hid (ls.getD 19 false = true → SetV w2.heap.size (fun T => ∃ T1 T2, (fun T => ∃ T1 T2, (fun T => T = a) T1 ∧ (fun T => T = b) T2 ∧ combM 1 T1 T2 = (T, 0)) T1 ∧ (fun T => combM 2 a b = (T, 0)) T2 ∧ combM 0 T1 T2 = (T, 0)) u96 w9) ∧ Hid (ls.getD 20 false = true → (ls.getD 24 false = false → BoxV w2.heap.size (W6.drew.heap.size) u18 w9)) ∧ Hid (ls.getD 21 false = true → (ls.getD 25 false = false → BoxV w2.heap.size (W6.drew.heap.size) u19 w9)) ∧ Hid (ls.getD 22 false = true → (ls.getD 26 false = false → BoxV w2.heap.size (W6.drew.heap.size) u20 w9)) ∧ Hid (ls.getD 23 false = true → (ls.getD 27 false = false → BoxV w2.heap.size (W6.drew.heap.size) u21 w9)) ∧ Hid (ls.getD 24 false = true → StoV w2.heap.size (W6.drew.heap.size) (fun T => ∃ T1, (fun T => ∃ T1, (fun T => T = a) T1 ∧ setNot T1 = (T, 0)) T1 ∧ setNot T1 = (T, 0)) u18 w9) ∧ Hid (ls.getD 25 false = true → StoV w2.heap.size (W6.drew.heap.size) (fun T => ∃ T1 T2, (fun T => T = a) T1 ∧ (fun T => T = b) T2 ∧ combM 0 T1 T2 = (T, 0)) u19 w9) ∧ Hid (ls.getD 26 false = true → StoV w2.heap.size (W6.drew.heap.size) (fun T => ∃ T1 T2, (fun T => T = b) T1 ∧ (fun T => T = a) T2 ∧ combM 0 T1 T2 = (T, 0)) u20 w9) ∧ Hid (ls.getD 27 false = true → StoV w2.heap.size (W6.drew.heap.size) (fun T => ∃ T1 T2, (fun T => ∃ T1 T2, (fun T => T = a) T1 ∧ (fun T => T = b) T2 ∧ combM 1 T1 T2 = (T, 0)) T1 ∧ (fun T => combM 2 a b = (T, 0)) T2 ∧ combM 0 T1 T2 = (T, 0)) u21 w9) ∧ Hid (ls.getD 20 false = true → ls.getD 21 false = true → u18 ≠ u19) ∧ Hid (ls.getD 20 false = true → ls.getD 22 false = true → u18 ≠ u20) ∧ Hid (ls.getD 20 false = true → ls.getD 23 false = true → u18 ≠ u21) ∧ Hid (ls.getD 21 false = true → ls.getD 22 false = true → u19 ≠ u20) ∧ Hid (ls.getD 21 false = true → ls.getD 23 false = true → u19 ≠ u21) ∧ Hid (ls.getD 22 false = true → ls.getD 23 false = true → u20 ≠ u21) ∧ Hid (ls.getD 24 false = true → ls.getD 20 false = true) ∧ Hid (ls.getD 25 false = true → ls.getD 21 false = true) ∧ Hid (ls.getD 26 false = true → ls.getD 22 false = true) ∧ Hid (ls.getD 27 false = true → ls.getD 23 false = true) := ⟨_, rfl⟩
    have HIH := Lib.hid HIe
    clear HIe
    refine wpAny_inv I ?_ ?_ _ _ _ _ ?_ ?_
    case refine_3 =>
      rw [HIH.out]
      exact ⟨undef, undef, undef, undef, undef, undef, undef, undef, undef, undef, undef, undef, undef, undef, undef, undef, undef, undef, undef, undef, undef, undef, undef, undef, rfl, rfl, ⟨_, HOne6.out⟩, Stp.refl _ _, (fun h => h), (fun h => by cases h), (fun h => by cases h), (fun h => by cases h), (fun h => by cases h), (fun h => by cases h), (fun h => by cases h), (fun h => by cases h), (fun h => by cases h), (fun h => by cases h), (fun h => by cases h), (fun h => by cases h), (fun h => by cases h), (fun h => by cases h), (fun h => by cases h), (fun h => by cases h), (fun h => by cases h), (fun h => by cases h), (fun h => by cases h), (fun h => by cases h), (fun h => by cases h), (fun h => by cases h), (fun h => by cases h), (fun h => by cases h), (fun h => by cases h), (fun h => by cases h), (fun h => by cases h), (fun h => by cases h), (fun h => by cases h), (fun h => by cases h), (fun h => by cases h), (fun h => by cases h), (fun h => by cases h), (fun h => by cases h), (fun h => by cases h), (fun h => by cases h), (fun h => by cases h), (fun h => by cases h), (fun h => by cases h)⟩
    case refine_4 => decide
    case refine_2 =>
      intro ls a9 w9 hI hr
      rw [HIH.out] at hI
      obtain ⟨u18, u19, u20, u21, u77, u78, u79, u80, u81, u82, u83, u84, u85, u86, u87, u88, u89, u90, u91, u92, u93, u94, u95, u96, hsz, rfl, ⟨c9, hO⟩, hS, hD, f0, f1, f2, f3, f4, f5, f6, f7, f8, f9, f10, f11, f12, f13, f14, f15, f16, f17, f18, f19, f20, f21, f22, f23, f24, f25, f26, f27, d18_19, d18_20, d18_21, d19_20, d19_21, d20_21, i18, i19, i20, i21⟩ := hI
      have hall := all_listed hsz (by kernel_rfl) hr
      have g24 := f24.out (hall 24 (by decide))
      have g25 := f25.out (hall 25 (by decide))
      have g26 := f26.out (hall 26 (by decide))
      have g27 := f27.out (hall 27 (by decide))
      refine of_nil (P := Tryz.prog) ?_
      go_wp2_with fail
      go_meet
      case rel => exact ⟨g24, g25, g26, g27, ⟨_, hO⟩, hS, hD⟩

    case refine_1 =>
      intro ls a9 w9 i hI hi
      rw [HIH.out] at hI
      obtain ⟨u18, u19, u20, u21, u77, u78, u79, u80, u81, u82, u83, u84, u85, u86, u87, u88, u89, u90, u91, u92, u93, u94, u95, u96, hsz, rfl, ⟨c9, hO⟩, hS, hD, f0, f1, f2, f3, f4, f5, f6, f7, f8, f9, f10, f11, f12, f13, f14, f15, f16, f17, f18, f19, f20, f21, f22, f23, f24, f25, f26, f27, d18_19, d18_20, d18_21, d19_20, d19_21, d20_21, i18, i19, i20, i21⟩ := hI
      obtain ⟨hj, op, hop, hall⟩ := mem_ready.1 hi
      have hlt := (Array.getElem?_eq_some_iff.1 hop).1
      have hlt : i < 28 := hlt
      have hsz' : (ls.setIfInBounds i true).size = 28 := by rw [Array.size_setIfInBounds]; exact hsz
      rcases (show i = 0 ∨ i = 1 ∨ i = 2 ∨ i = 3 ∨ i = 4 ∨ i = 5 ∨ i = 6 ∨ i = 7 ∨ i = 8 ∨ i = 9 ∨ i = 10 ∨ i = 11 ∨ i = 12 ∨ i = 13 ∨ i = 14 ∨ i = 15 ∨ i = 16 ∨ i = 17 ∨ i = 18 ∨ i = 19 ∨ i = 20 ∨ i = 21 ∨ i = 22 ∨ i = 23 ∨ i = 24 ∨ i = 25 ∨ i = 26 ∨ i = 27 by omega) with rfl | rfl | rfl | rfl | rfl | rfl | rfl | rfl | rfl | rfl | rfl | rfl | rfl | rfl | rfl | rfl | rfl | rfl | rfl | rfl | rfl | rfl | rfl | rfl | rfl | rfl | rfl | rfl
      · simp at hop
        subst hop
        refine wpOp_of_list (i := 0) rfl ?_
        go_wp2
        show I _ _ _
        rw [HIH.out]
        exact ⟨_, _, _, _, _, _, _, _, _, _, _, _, _, _, _, _, _, _, _, _, _, _, _, _, hsz', rfl, ⟨_, hO⟩, hS, hD, (fun _ => rfl), (gx f1), (gx f2), (gx f3), (gx f4), (gx f5), (gx f6), (gx f7), (gx f8), (gx f9), (gx f10), (gx f11), (gx f12), (gx f13), (gx f14), (gx f15), (gx f16), (gx f17), (gx f18), (gx f19), (gx2 f20), (gx2 f21), (gx2 f22), (gx2 f23), (gx f24), (gx f25), (gx f26), (gx f27), (gx2 d18_19), (gx2 d18_20), (gx2 d18_21), (gx2 d19_20), (gx2 d19_21), (gx2 d20_21), (gi i18), (gi i19), (gi i20), (gi i21)⟩
      · simp at hop
        subst hop
        refine wpOp_of_list (i := 1) rfl ?_
        go_wp2
        show I _ _ _
        rw [HIH.out]
        exact ⟨_, _, _, _, _, _, _, _, _, _, _, _, _, _, _, _, _, _, _, _, _, _, _, _, hsz', rfl, ⟨_, hO⟩, hS, hD, (gx f0), (fun _ => rfl), (gx f2), (gx f3), (gx f4), (gx f5), (gx f6), (gx f7), (gx f8), (gx f9), (gx f10), (gx f11), (gx f12), (gx f13), (gx f14), (gx f15), (gx f16), (gx f17), (gx f18), (gx f19), (gx2 f20), (gx2 f21), (gx2 f22), (gx2 f23), (gx f24), (gx f25), (gx f26), (gx f27), (gx2 d18_19), (gx2 d18_20), (gx2 d18_21), (gx2 d19_20), (gx2 d19_21), (gx2 d20_21), (gi i18), (gi i19), (gi i20), (gi i21)⟩
      · simp at hop
        subst hop
        refine wpOp_of_list (i := 2) rfl ?_
        obtain ⟨⟨A0, A1, A2, A3, A4, A5, A6⟩, -⟩ := hS.set7 HNE.out.1.1 HX6.out.1
        go_wp2
        show I _ _ _
        rw [HIH.out]
        exact ⟨_, _, _, _, _, _, _, _, _, _, _, _, _, _, _, _, _, _, _, _, _, _, _, _, hsz', rfl, ⟨_, hO⟩, hS, hD, (gx f0), (gx f1), (fun _ => rfl), (gx f3), (gx f4), (gx f5), (gx f6), (gx f7), (gx f8), (gx f9), (gx f10), (gx f11), (gx f12), (gx f13), (gx f14), (gx f15), (gx f16), (gx f17), (gx f18), (gx f19), (gx2 f20), (gx2 f21), (gx2 f22), (gx2 f23), (gx f24), (gx f25), (gx f26), (gx f27), (gx2 d18_19), (gx2 d18_20), (gx2 d18_21), (gx2 d19_20), (gx2 d19_21), (gx2 d20_21), (gi i18), (gi i19), (gi i20), (gi i21)⟩
      · simp at hop
        subst hop
        refine wpOp_of_list (i := 3) rfl ?_
        have e1 := f1.out (hall ⟨1, .data⟩ (by simp) rfl)
        subst e1
        have e1 := f2.out (hall ⟨2, .data⟩ (by simp) rfl)
        have hr1 := hS.st HOne6.out HX6.out.2.2.2.1
        subst e1
        have hk9 := hS.cell HNE.out.2.1 HK6.out
        have hcall := lg_not a (w2.heap.size) (w2.heap.size + 1) c9 _ _ _ w9 hO hk9 HNE.out.2.1 hr1
        go_wp2_with (go_at_call 49; refine hcall.mono ?_; rintro e' w8 ⟨vl, vr, vv, rfl, hr8, ho8, hs9⟩; obtain ⟨y1, ym1, rfl⟩ := hr8.1.form; obtain ⟨y2, ym2, rfl⟩ := hr8.2.1.form; obtain ⟨y3, ym3, rfl⟩ := hr8.2.2.form)
        have hd9 : OkDown w2.heap.size w9 w8 := fun hk => (down_call hO ho8 hk).1
        show I _ _ _
        rw [HIH.out]
        exact ⟨_, _, _, _, _, _, _, _, _, _, _, _, _, _, _, _, _, _, _, _, _, _, _, _, hsz', rfl, ⟨_, ho8⟩, hS.trans hs9, (fun h => hD (hd9 h)), (gx f0), (fun _ => rfl), (fun _ => rfl), (fun _ => ⟨(setNot a).1, _, _, _, _, _, _, rfl, hr8, pos_not, fun hk => ⟨a, rfl, Prod.ext rfl (down_call hO ho8 hk).2⟩⟩), (gs f4 hO hs9 hd9), (gx f5), (gx f6), (gx f7), (gs f8 hO hs9 hd9), (gx f9), (gx f10), (gx f11), (gs f12 hO hs9 hd9), (gx f13), (gx f14), (gx f15), (gx f16), (gs f17 hO hs9 hd9), (gs f18 hO hs9 hd9), (gs f19 hO hs9 hd9), (gp f20 hs9), (gp f21 hs9), (gp f22 hs9), (gp f23 hs9), (gy f24 hO hs9 hd9), (gy f25 hO hs9 hd9), (gy f26 hO hs9 hd9), (gy f27 hO hs9 hd9), (gx2 d18_19), (gx2 d18_20), (gx2 d18_21), (gx2 d19_20), (gx2 d19_21), (gx2 d20_21), (gi i18), (gi i19), (gi i20), (gi i21)⟩
      · simp at hop
        subst hop
        refine wpOp_of_list (i := 4) rfl ?_
        have e1 := f0.out (hall ⟨0, .data⟩ (by simp) rfl)
        subst e1
        obtain ⟨T1, x11, xm11, x12, xm12, x13, xm13, e1, hr1, hp1, hS1⟩ := f3.out (hall ⟨3, .data⟩ (by simp) rfl)
        subst e1
        have hk9 := hS.cell HNE.out.2.1 HK6.out
        have hcall := lg_not T1 (w2.heap.size) (w2.heap.size + 1) c9 _ _ _ w9 hO hk9 HNE.out.2.1 hr1
        go_wp2_with (go_at_call 49; refine hcall.mono ?_; rintro e' w8 ⟨vl, vr, vv, rfl, hr8, ho8, hs9⟩; obtain ⟨y1, ym1, rfl⟩ := hr8.1.form; obtain ⟨y2, ym2, rfl⟩ := hr8.2.1.form; obtain ⟨y3, ym3, rfl⟩ := hr8.2.2.form)
        have hd9 : OkDown w2.heap.size w9 w8 := fun hk => (down_call hO ho8 hk).1
        show I _ _ _
        rw [HIH.out]
        exact ⟨_, _, _, _, _, _, _, _, _, _, _, _, _, _, _, _, _, _, _, _, _, _, _, _, hsz', rfl, ⟨_, ho8⟩, hS.trans hs9, (fun h => hD (hd9 h)), (fun _ => rfl), (gx f1), (gx f2), (gs f3 hO hs9 hd9), (fun _ => ⟨(setNot T1).1, _, _, _, _, _, _, rfl, hr8, pos_not, fun hk => ⟨T1, hS1 (down_call hO ho8 hk).1, Prod.ext rfl (down_call hO ho8 hk).2⟩⟩), (gx f5), (gx f6), (gx f7), (gs f8 hO hs9 hd9), (gx f9), (gx f10), (gx f11), (gs f12 hO hs9 hd9), (gx f13), (gx f14), (gx f15), (gx f16), (gs f17 hO hs9 hd9), (gs f18 hO hs9 hd9), (gs f19 hO hs9 hd9), (gp f20 hs9), (gp f21 hs9), (gp f22 hs9), (gp f23 hs9), (gy f24 hO hs9 hd9), (gy f25 hO hs9 hd9), (gy f26 hO hs9 hd9), (gy f27 hO hs9 hd9), (gx2 d18_19), (gx2 d18_20), (gx2 d18_21), (gx2 d19_20), (gx2 d19_21), (gx2 d20_21), (gi i18), (gi i19), (gi i20), (gi i21)⟩
      · simp at hop
        subst hop
        refine wpOp_of_list (i := 5) rfl ?_
        go_wp2
        show I _ _ _
        rw [HIH.out]
        exact ⟨_, _, _, _, _, _, _, _, _, _, _, _, _, _, _, _, _, _, _, _, _, _, _, _, hsz', rfl, ⟨_, hO⟩, hS, hD, (gx f0), (gx f1), (gx f2), (gx f3), (gx f4), (fun _ => rfl), (gx f6), (gx f7), (gx f8), (gx f9), (gx f10), (gx f11), (gx f12), (gx f13), (gx f14), (gx f15), (gx f16), (gx f17), (gx f18), (gx f19), (gx2 f20), (gx2 f21), (gx2 f22), (gx2 f23), (gx f24), (gx f25), (gx f26), (gx f27), (gx2 d18_19), (gx2 d18_20), (gx2 d18_21), (gx2 d19_20), (gx2 d19_21), (gx2 d20_21), (gi i18), (gi i19), (gi i20), (gi i21)⟩
      · simp at hop
        subst hop
        refine wpOp_of_list (i := 6) rfl ?_
        obtain ⟨⟨A0, A1, A2, A3, A4, A5, A6⟩, -⟩ := hS.set7 HNE.out.1.1 HX6.out.1
        go_wp2
        show I _ _ _
        rw [HIH.out]
        exact ⟨_, _, _, _, _, _, _, _, _, _, _, _, _, _, _, _, _, _, _, _, _, _, _, _, hsz', rfl, ⟨_, hO⟩, hS, hD, (gx f0), (gx f1), (gx f2), (gx f3), (gx f4), (gx f5), (fun _ => rfl), (gx f7), (gx f8), (gx f9), (gx f10), (gx f11), (gx f12), (gx f13), (gx f14), (gx f15), (gx f16), (gx f17), (gx f18), (gx f19), (gx2 f20), (gx2 f21), (gx2 f22), (gx2 f23), (gx f24), (gx f25), (gx f26), (gx f27), (gx2 d18_19), (gx2 d18_20), (gx2 d18_21), (gx2 d19_20), (gx2 d19_21), (gx2 d20_21), (gi i18), (gi i19), (gi i20), (gi i21)⟩
      · simp at hop
        subst hop
        refine wpOp_of_list (i := 7) rfl ?_
        obtain ⟨⟨A0, A1, A2, A3, A4, A5, A6⟩, -⟩ := hS.set7 HNE.out.1.2.1 HX6.out.2.1
        go_wp2
        show I _ _ _
        rw [HIH.out]
        exact ⟨_, _, _, _, _, _, _, _, _, _, _, _, _, _, _, _, _, _, _, _, _, _, _, _, hsz', rfl, ⟨_, hO⟩, hS, hD, (gx f0), (gx f1), (gx f2), (gx f3), (gx f4), (gx f5), (gx f6), (fun _ => rfl), (gx f8), (gx f9), (gx f10), (gx f11), (gx f12), (gx f13), (gx f14), (gx f15), (gx f16), (gx f17), (gx f18), (gx f19), (gx2 f20), (gx2 f21), (gx2 f22), (gx2 f23), (gx f24), (gx f25), (gx f26), (gx f27), (gx2 d18_19), (gx2 d18_20), (gx2 d18_21), (gx2 d19_20), (gx2 d19_21), (gx2 d20_21), (gi i18), (gi i19), (gi i20), (gi i21)⟩
      · simp at hop
        subst hop
        refine wpOp_of_list (i := 8) rfl ?_
        have e1 := f5.out (hall ⟨5, .data⟩ (by simp) rfl)
        subst e1
        have e1 := f6.out (hall ⟨6, .data⟩ (by simp) rfl)
        have hr1 := hS.st HOne6.out HX6.out.2.2.2.1
        have e2 := f7.out (hall ⟨7, .data⟩ (by simp) rfl)
        have hr2 := hS.st HOne6.out HX6.out.2.2.2.2.1
        subst e1
        subst e2
        have hk9 := hS.cell HNE.out.2.1 HK6.out
        have hcall := lg_or a b (w2.heap.size) (w2.heap.size + 1) c9 _ _ _ _ _ _ w9 hO hk9 HNE.out.2.1 hr1 hr2
        go_wp2_with (go_at_call 51; refine hcall.mono ?_; rintro e' w8 ⟨vl, vr, vv, rfl, hr8, ho8, hs9⟩; obtain ⟨y1, ym1, rfl⟩ := hr8.1.form; obtain ⟨y2, ym2, rfl⟩ := hr8.2.1.form; obtain ⟨y3, ym3, rfl⟩ := hr8.2.2.form)
        have hd9 : OkDown w2.heap.size w9 w8 := fun hk => (down_call hO ho8 hk).1
        show I _ _ _
        rw [HIH.out]
        exact ⟨_, _, _, _, _, _, _, _, _, _, _, _, _, _, _, _, _, _, _, _, _, _, _, _, hsz', rfl, ⟨_, ho8⟩, hS.trans hs9, (fun h => hD (hd9 h)), (gx f0), (gx f1), (gx f2), (gs f3 hO hs9 hd9), (gs f4 hO hs9 hd9), (fun _ => rfl), (fun _ => rfl), (fun _ => rfl), (fun _ => ⟨(combM 0 a b).1, _, _, _, _, _, _, rfl, hr8, pos_comb, fun hk => ⟨a, b, rfl, rfl, Prod.ext rfl (down_call hO ho8 hk).2⟩⟩), (gx f9), (gx f10), (gx f11), (gs f12 hO hs9 hd9), (gx f13), (gx f14), (gx f15), (gx f16), (gs f17 hO hs9 hd9), (gs f18 hO hs9 hd9), (gs f19 hO hs9 hd9), (gp f20 hs9), (gp f21 hs9), (gp f22 hs9), (gp f23 hs9), (gy f24 hO hs9 hd9), (gy f25 hO hs9 hd9), (gy f26 hO hs9 hd9), (gy f27 hO hs9 hd9), (gx2 d18_19), (gx2 d18_20), (gx2 d18_21), (gx2 d19_20), (gx2 d19_21), (gx2 d20_21), (gi i18), (gi i19), (gi i20), (gi i21)⟩
      · simp at hop
        subst hop
        refine wpOp_of_list (i := 9) rfl ?_
        go_wp2
        show I _ _ _
        rw [HIH.out]
        exact ⟨_, _, _, _, _, _, _, _, _, _, _, _, _, _, _, _, _, _, _, _, _, _, _, _, hsz', rfl, ⟨_, hO⟩, hS, hD, (gx f0), (gx f1), (gx f2), (gx f3), (gx f4), (gx f5), (gx f6), (gx f7), (gx f8), (fun _ => rfl), (gx f10), (gx f11), (gx f12), (gx f13), (gx f14), (gx f15), (gx f16), (gx f17), (gx f18), (gx f19), (gx2 f20), (gx2 f21), (gx2 f22), (gx2 f23), (gx f24), (gx f25), (gx f26), (gx f27), (gx2 d18_19), (gx2 d18_20), (gx2 d18_21), (gx2 d19_20), (gx2 d19_21), (gx2 d20_21), (gi i18), (gi i19), (gi i20), (gi i21)⟩
      · simp at hop
        subst hop
        refine wpOp_of_list (i := 10) rfl ?_
        obtain ⟨⟨A0, A1, A2, A3, A4, A5, A6⟩, -⟩ := hS.set7 HNE.out.1.2.1 HX6.out.2.1
        go_wp2
        show I _ _ _
        rw [HIH.out]
        exact ⟨_, _, _, _, _, _, _, _, _, _, _, _, _, _, _, _, _, _, _, _, _, _, _, _, hsz', rfl, ⟨_, hO⟩, hS, hD, (gx f0), (gx f1), (gx f2), (gx f3), (gx f4), (gx f5), (gx f6), (gx f7), (gx f8), (gx f9), (fun _ => rfl), (gx f11), (gx f12), (gx f13), (gx f14), (gx f15), (gx f16), (gx f17), (gx f18), (gx f19), (gx2 f20), (gx2 f21), (gx2 f22), (gx2 f23), (gx f24), (gx f25), (gx f26), (gx f27), (gx2 d18_19), (gx2 d18_20), (gx2 d18_21), (gx2 d19_20), (gx2 d19_21), (gx2 d20_21), (gi i18), (gi i19), (gi i20), (gi i21)⟩
      · simp at hop
        subst hop
        refine wpOp_of_list (i := 11) rfl ?_
        obtain ⟨⟨A0, A1, A2, A3, A4, A5, A6⟩, -⟩ := hS.set7 HNE.out.1.1 HX6.out.1
        go_wp2
        show I _ _ _
        rw [HIH.out]
        exact ⟨_, _, _, _, _, _, _, _, _, _, _, _, _, _, _, _, _, _, _, _, _, _, _, _, hsz', rfl, ⟨_, hO⟩, hS, hD, (gx f0), (gx f1), (gx f2), (gx f3), (gx f4), (gx f5), (gx f6), (gx f7), (gx f8), (gx f9), (gx f10), (fun _ => rfl), (gx f12), (gx f13), (gx f14), (gx f15), (gx f16), (gx f17), (gx f18), (gx f19), (gx2 f20), (gx2 f21), (gx2 f22), (gx2 f23), (gx f24), (gx f25), (gx f26), (gx f27), (gx2 d18_19), (gx2 d18_20), (gx2 d18_21), (gx2 d19_20), (gx2 d19_21), (gx2 d20_21), (gi i18), (gi i19), (gi i20), (gi i21)⟩
      · simp at hop
        subst hop
        refine wpOp_of_list (i := 12) rfl ?_
        have e1 := f9.out (hall ⟨9, .data⟩ (by simp) rfl)
        subst e1
        have e1 := f10.out (hall ⟨10, .data⟩ (by simp) rfl)
        have hr1 := hS.st HOne6.out HX6.out.2.2.2.2.1
        have e2 := f11.out (hall ⟨11, .data⟩ (by simp) rfl)
        have hr2 := hS.st HOne6.out HX6.out.2.2.2.1
        subst e1
        subst e2
        have hk9 := hS.cell HNE.out.2.1 HK6.out
        have hcall := lg_or b a (w2.heap.size) (w2.heap.size + 1) c9 _ _ _ _ _ _ w9 hO hk9 HNE.out.2.1 hr1 hr2
        go_wp2_with (go_at_call 51; refine hcall.mono ?_; rintro e' w8 ⟨vl, vr, vv, rfl, hr8, ho8, hs9⟩; obtain ⟨y1, ym1, rfl⟩ := hr8.1.form; obtain ⟨y2, ym2, rfl⟩ := hr8.2.1.form; obtain ⟨y3, ym3, rfl⟩ := hr8.2.2.form)
        have hd9 : OkDown w2.heap.size w9 w8 := fun hk => (down_call hO ho8 hk).1
        show I _ _ _
        rw [HIH.out]
        exact ⟨_, _, _, _, _, _, _, _, _, _, _, _, _, _, _, _, _, _, _, _, _, _, _, _, hsz', rfl, ⟨_, ho8⟩, hS.trans hs9, (fun h => hD (hd9 h)), (gx f0), (gx f1), (gx f2), (gs f3 hO hs9 hd9), (gs f4 hO hs9 hd9), (gx f5), (gx f6), (gx f7), (gs f8 hO hs9 hd9), (fun _ => rfl), (fun _ => rfl), (fun _ => rfl), (fun _ => ⟨(combM 0 b a).1, _, _, _, _, _, _, rfl, hr8, pos_comb, fun hk => ⟨b, a, rfl, rfl, Prod.ext rfl (down_call hO ho8 hk).2⟩⟩), (gx f13), (gx f14), (gx f15), (gx f16), (gs f17 hO hs9 hd9), (gs f18 hO hs9 hd9), (gs f19 hO hs9 hd9), (gp f20 hs9), (gp f21 hs9), (gp f22 hs9), (gp f23 hs9), (gy f24 hO hs9 hd9), (gy f25 hO hs9 hd9), (gy f26 hO hs9 hd9), (gy f27 hO hs9 hd9), (gx2 d18_19), (gx2 d18_20), (gx2 d18_21), (gx2 d19_20), (gx2 d19_21), (gx2 d20_21), (gi i18), (gi i19), (gi i20), (gi i21)⟩
      · simp at hop
        subst hop
        refine wpOp_of_list (i := 13) rfl ?_
        go_wp2
        show I _ _ _
        rw [HIH.out]
        exact ⟨_, _, _, _, _, _, _, _, _, _, _, _, _, _, _, _, _, _, _, _, _, _, _, _, hsz', rfl, ⟨_, hO⟩, hS, hD, (gx f0), (gx f1), (gx f2), (gx f3), (gx f4), (gx f5), (gx f6), (gx f7), (gx f8), (gx f9), (gx f10), (gx f11), (gx f12), (fun _ => rfl), (gx f14), (gx f15), (gx f16), (gx f17), (gx f18), (gx f19), (gx2 f20), (gx2 f21), (gx2 f22), (gx2 f23), (gx f24), (gx f25), (gx f26), (gx f27), (gx2 d18_19), (gx2 d18_20), (gx2 d18_21), (gx2 d19_20), (gx2 d19_21), (gx2 d20_21), (gi i18), (gi i19), (gi i20), (gi i21)⟩
      · simp at hop
        subst hop
        refine wpOp_of_list (i := 14) rfl ?_
        go_wp2
        show I _ _ _
        rw [HIH.out]
        exact ⟨_, _, _, _, _, _, _, _, _, _, _, _, _, _, _, _, _, _, _, _, _, _, _, _, hsz', rfl, ⟨_, hO⟩, hS, hD, (gx f0), (gx f1), (gx f2), (gx f3), (gx f4), (gx f5), (gx f6), (gx f7), (gx f8), (gx f9), (gx f10), (gx f11), (gx f12), (gx f13), (fun _ => rfl), (gx f15), (gx f16), (gx f17), (gx f18), (gx f19), (gx2 f20), (gx2 f21), (gx2 f22), (gx2 f23), (gx f24), (gx f25), (gx f26), (gx f27), (gx2 d18_19), (gx2 d18_20), (gx2 d18_21), (gx2 d19_20), (gx2 d19_21), (gx2 d20_21), (gi i18), (gi i19), (gi i20), (gi i21)⟩
      · simp at hop
        subst hop
        refine wpOp_of_list (i := 15) rfl ?_
        obtain ⟨⟨A0, A1, A2, A3, A4, A5, A6⟩, -⟩ := hS.set7 HNE.out.1.1 HX6.out.1
        go_wp2
        show I _ _ _
        rw [HIH.out]
        exact ⟨_, _, _, _, _, _, _, _, _, _, _, _, _, _, _, _, _, _, _, _, _, _, _, _, hsz', rfl, ⟨_, hO⟩, hS, hD, (gx f0), (gx f1), (gx f2), (gx f3), (gx f4), (gx f5), (gx f6), (gx f7), (gx f8), (gx f9), (gx f10), (gx f11), (gx f12), (gx f13), (gx f14), (fun _ => rfl), (gx f16), (gx f17), (gx f18), (gx f19), (gx2 f20), (gx2 f21), (gx2 f22), (gx2 f23), (gx f24), (gx f25), (gx f26), (gx f27), (gx2 d18_19), (gx2 d18_20), (gx2 d18_21), (gx2 d19_20), (gx2 d19_21), (gx2 d20_21), (gi i18), (gi i19), (gi i20), (gi i21)⟩
      · simp at hop
        subst hop
        refine wpOp_of_list (i := 16) rfl ?_
        obtain ⟨⟨A0, A1, A2, A3, A4, A5, A6⟩, -⟩ := hS.set7 HNE.out.1.2.1 HX6.out.2.1
        go_wp2
        show I _ _ _
        rw [HIH.out]
        exact ⟨_, _, _, _, _, _, _, _, _, _, _, _, _, _, _, _, _, _, _, _, _, _, _, _, hsz', rfl, ⟨_, hO⟩, hS, hD, (gx f0), (gx f1), (gx f2), (gx f3), (gx f4), (gx f5), (gx f6), (gx f7), (gx f8), (gx f9), (gx f10), (gx f11), (gx f12), (gx f13), (gx f14), (gx f15), (fun _ => rfl), (gx f17), (gx f18), (gx f19), (gx2 f20), (gx2 f21), (gx2 f22), (gx2 f23), (gx f24), (gx f25), (gx f26), (gx f27), (gx2 d18_19), (gx2 d18_20), (gx2 d18_21), (gx2 d19_20), (gx2 d19_21), (gx2 d20_21), (gi i18), (gi i19), (gi i20), (gi i21)⟩
      · simp at hop
        subst hop
        refine wpOp_of_list (i := 17) rfl ?_
        have e1 := f14.out (hall ⟨14, .data⟩ (by simp) rfl)
        subst e1
        have e1 := f15.out (hall ⟨15, .data⟩ (by simp) rfl)
        have hr1 := hS.st HOne6.out HX6.out.2.2.2.1
        have e2 := f16.out (hall ⟨16, .data⟩ (by simp) rfl)
        have hr2 := hS.st HOne6.out HX6.out.2.2.2.2.1
        subst e1
        subst e2
        have hk9 := hS.cell HNE.out.2.1 HK6.out
        have hcall := lg_and a b (w2.heap.size) (w2.heap.size + 1) c9 _ _ _ _ _ _ w9 hO hk9 HNE.out.2.1 hr1 hr2
        go_wp2_with (go_at_call 52; refine hcall.mono ?_; rintro e' w8 ⟨vl, vr, vv, rfl, hr8, ho8, hs9⟩; obtain ⟨y1, ym1, rfl⟩ := hr8.1.form; obtain ⟨y2, ym2, rfl⟩ := hr8.2.1.form; obtain ⟨y3, ym3, rfl⟩ := hr8.2.2.form)
        have hd9 : OkDown w2.heap.size w9 w8 := fun hk => (down_call hO ho8 hk).1
        show I _ _ _
        rw [HIH.out]
        exact ⟨_, _, _, _, _, _, _, _, _, _, _, _, _, _, _, _, _, _, _, _, _, _, _, _, hsz', rfl, ⟨_, ho8⟩, hS.trans hs9, (fun h => hD (hd9 h)), (gx f0), (gx f1), (gx f2), (gs f3 hO hs9 hd9), (gs f4 hO hs9 hd9), (gx f5), (gx f6), (gx f7), (gs f8 hO hs9 hd9), (gx f9), (gx f10), (gx f11), (gs f12 hO hs9 hd9), (gx f13), (fun _ => rfl), (fun _ => rfl), (fun _ => rfl), (fun _ => ⟨(combM 1 a b).1, _, _, _, _, _, _, rfl, hr8, pos_comb, fun hk => ⟨a, b, rfl, rfl, Prod.ext rfl (down_call hO ho8 hk).2⟩⟩), (gs f18 hO hs9 hd9), (gs f19 hO hs9 hd9), (gp f20 hs9), (gp f21 hs9), (gp f22 hs9), (gp f23 hs9), (gy f24 hO hs9 hd9), (gy f25 hO hs9 hd9), (gy f26 hO hs9 hd9), (gy f27 hO hs9 hd9), (gx2 d18_19), (gx2 d18_20), (gx2 d18_21), (gx2 d19_20), (gx2 d19_21), (gx2 d20_21), (gi i18), (gi i19), (gi i20), (gi i21)⟩
      · simp at hop
        subst hop
        refine wpOp_of_list (i := 18) rfl ?_
        obtain ⟨bb, T1, x11, xm11, x12, xm12, x13, xm13, eb, hb1, hbk, hb7, hr1, hp1, hS1⟩ := (HTu16.out).stp HOne6.out hS hD
        subst eb
        obtain ⟨⟨A0, A1, A2, A3, A4, A5, A6⟩, -⟩ := hb7
        go_wp2
        show I _ _ _
        rw [HIH.out]
        exact ⟨_, _, _, _, _, _, _, _, _, _, _, _, _, _, _, _, _, _, _, _, _, _, _, _, hsz', rfl, ⟨_, hO⟩, hS, hD, (gx f0), (gx f1), (gx f2), (gx f3), (gx f4), (gx f5), (gx f6), (gx f7), (gx f8), (gx f9), (gx f10), (gx f11), (gx f12), (gx f13), (gx f14), (gx f15), (gx f16), (gx f17), (fun _ => ⟨T1, _, _, _, _, _, _, rfl, hr1, hp1, hS1⟩), (gx f19), (gx2 f20), (gx2 f21), (gx2 f22), (gx2 f23), (gx f24), (gx f25), (gx f26), (gx f27), (gx2 d18_19), (gx2 d18_20), (gx2 d18_21), (gx2 d19_20), (gx2 d19_21), (gx2 d20_21), (gi i18), (gi i19), (gi i20), (gi i21)⟩
      · simp at hop
        subst hop
        refine wpOp_of_list (i := 19) rfl ?_
        have e1 := f13.out (hall ⟨13, .data⟩ (by simp) rfl)
        subst e1
        obtain ⟨T1, x11, xm11, x12, xm12, x13, xm13, e1, hr1, hp1, hS1⟩ := f17.out (hall ⟨17, .data⟩ (by simp) rfl)
        obtain ⟨T2, x21, xm21, x22, xm22, x23, xm23, e2, hr2, hp2, hS2⟩ := f18.out (hall ⟨18, .data⟩ (by simp) rfl)
        subst e1
        subst e2
        have hk9 := hS.cell HNE.out.2.1 HK6.out
        have hcall := lg_or T1 T2 (w2.heap.size) (w2.heap.size + 1) c9 _ _ _ _ _ _ w9 hO hk9 HNE.out.2.1 hr1 hr2
        go_wp2_with (go_at_call 51; refine hcall.mono ?_; rintro e' w8 ⟨vl, vr, vv, rfl, hr8, ho8, hs9⟩; obtain ⟨y1, ym1, rfl⟩ := hr8.1.form; obtain ⟨y2, ym2, rfl⟩ := hr8.2.1.form; obtain ⟨y3, ym3, rfl⟩ := hr8.2.2.form)
        have hd9 : OkDown w2.heap.size w9 w8 := fun hk => (down_call hO ho8 hk).1
        show I _ _ _
        rw [HIH.out]
        exact ⟨_, _, _, _, _, _, _, _, _, _, _, _, _, _, _, _, _, _, _, _, _, _, _, _, hsz', rfl, ⟨_, ho8⟩, hS.trans hs9, (fun h => hD (hd9 h)), (gx f0), (gx f1), (gx f2), (gs f3 hO hs9 hd9), (gs f4 hO hs9 hd9), (gx f5), (gx f6), (gx f7), (gs f8 hO hs9 hd9), (gx f9), (gx f10), (gx f11), (gs f12 hO hs9 hd9), (fun _ => rfl), (gx f14), (gx f15), (gx f16), (gs f17 hO hs9 hd9), (gs f18 hO hs9 hd9), (fun _ => ⟨(combM 0 T1 T2).1, _, _, _, _, _, _, rfl, hr8, pos_comb, fun hk => ⟨T1, T2, hS1 (down_call hO ho8 hk).1, hS2 (down_call hO ho8 hk).1, Prod.ext rfl (down_call hO ho8 hk).2⟩⟩), (gp f20 hs9), (gp f21 hs9), (gp f22 hs9), (gp f23 hs9), (gy f24 hO hs9 hd9), (gy f25 hO hs9 hd9), (gy f26 hO hs9 hd9), (gy f27 hO hs9 hd9), (gx2 d18_19), (gx2 d18_20), (gx2 d18_21), (gx2 d19_20), (gx2 d19_21), (gx2 d20_21), (gi i18), (gi i19), (gi i20), (gi i21)⟩
      · simp at hop
        subst hop
        refine wpOp_of_list (i := 20) rfl ?_
        have hna : ls.getD 20 false = false := by
          cases hq : ls.getD 20 false with
          | false => rfl
          | true =>
            have hq2 := getD_false hj
            rw [Array.getD_eq_getD_getElem?, hq2] at hq
            cases hq
        have hb9 : Below w9.heap.size w9 (w9.alloc (.cells #[.int .i64 0, .slice none 0 0, .int .i64 0, .slice none 0 0, .int .i64 0, .int .i64 0, .slice none 0 0] 26)) := (Below.refl _ _).alloc (Nat.le_refl _) _
        have hkl := hO.lt
        have hs9 : Stp w2.heap.size w9 _ := Stp.of (Nat.le_of_lt hkl) hb9
        have ho9 := hO.below hb9
        have hd9 : OkDown w2.heap.size w9 (w9.alloc (.cells #[.int .i64 0, .slice none 0 0, .int .i64 0, .slice none 0 0, .int .i64 0, .int .i64 0, .slice none 0 0] 26)) := fun hk => by
          unfold okw at *
          rw [ho9.1] at hk
          rw [hO.1, hk]
        have hzb := ZB.new w9
        have hn0 : W6.drew.heap.size ≤ w9.heap.size := hS.1.size
        have newne18_19 : ∀ (_ : (ls.setIfInBounds 20 true).getD 20 false = true) (h : ls.getD 21 false = true), (.pointer (some ⟨w9.heap.size, 0, none⟩) : Value) ≠ u19 := by
          intro h h'
          have hx : ls.getD 21 false = true := by first | exact h | exact h'
          cases hst : ls.getD 25 false with
          | true =>
            obtain ⟨b, T, q1, q2, q3, q4, q5, q6, eb, _, _, h7, _⟩ := f25.out hst
            have hbl := World.block_lt_of_cell? w9 ⟨b, 0, none⟩ h7.1.1
            have hbl : b < w9.heap.size := hbl
            rw [eb]
            intro hh
            injection hh with hh
            injection hh with hh
            injection hh with hh
            omega
          | false =>
            obtain ⟨b, eb, _, _, h7⟩ := f21.out hx hst
            have hbl := World.block_lt_of_cell? w9 ⟨b, 0, none⟩ h7.1.1.1
            have hbl : b < w9.heap.size := hbl
            rw [eb]
            intro hh
            injection hh with hh
            injection hh with hh
            injection hh with hh
            omega
        have newne18_20 : ∀ (_ : (ls.setIfInBounds 20 true).getD 20 false = true) (h : ls.getD 22 false = true), (.pointer (some ⟨w9.heap.size, 0, none⟩) : Value) ≠ u20 := by
          intro h h'
          have hx : ls.getD 22 false = true := by first | exact h | exact h'
          cases hst : ls.getD 26 false with
          | true =>
            obtain ⟨b, T, q1, q2, q3, q4, q5, q6, eb, _, _, h7, _⟩ := f26.out hst
            have hbl := World.block_lt_of_cell? w9 ⟨b, 0, none⟩ h7.1.1
            have hbl : b < w9.heap.size := hbl
            rw [eb]
            intro hh
            injection hh with hh
            injection hh with hh
            injection hh with hh
            omega
          | false =>
            obtain ⟨b, eb, _, _, h7⟩ := f22.out hx hst
            have hbl := World.block_lt_of_cell? w9 ⟨b, 0, none⟩ h7.1.1.1
            have hbl : b < w9.heap.size := hbl
            rw [eb]
            intro hh
            injection hh with hh
            injection hh with hh
            injection hh with hh
            omega
        have newne18_21 : ∀ (_ : (ls.setIfInBounds 20 true).getD 20 false = true) (h : ls.getD 23 false = true), (.pointer (some ⟨w9.heap.size, 0, none⟩) : Value) ≠ u21 := by
          intro h h'
          have hx : ls.getD 23 false = true := by first | exact h | exact h'
          cases hst : ls.getD 27 false with
          | true =>
            obtain ⟨b, T, q1, q2, q3, q4, q5, q6, eb, _, _, h7, _⟩ := f27.out hst
            have hbl := World.block_lt_of_cell? w9 ⟨b, 0, none⟩ h7.1.1
            have hbl : b < w9.heap.size := hbl
            rw [eb]
            intro hh
            injection hh with hh
            injection hh with hh
            injection hh with hh
            omega
          | false =>
            obtain ⟨b, eb, _, _, h7⟩ := f23.out hx hst
            have hbl := World.block_lt_of_cell? w9 ⟨b, 0, none⟩ h7.1.1.1
            have hbl : b < w9.heap.size := hbl
            rw [eb]
            intro hh
            injection hh with hh
            injection hh with hh
            injection hh with hh
            omega
        go_wp2
        show I _ _ _
        rw [HIH.out]
        exact ⟨_, _, _, _, _, _, _, _, _, _, _, _, _, _, _, _, _, _, _, _, _, _, _, _, hsz', rfl, ⟨_, ho9⟩, hS.trans hs9, (fun h => hD (hd9 h)), (gx f0), (gx f1), (gx f2), (gs f3 hO hs9 hd9), (gs f4 hO hs9 hd9), (gx f5), (gx f6), (gx f7), (gs f8 hO hs9 hd9), (gx f9), (gx f10), (gx f11), (gs f12 hO hs9 hd9), (gx f13), (gx f14), (gx f15), (gx f16), (gs f17 hO hs9 hd9), (gs f18 hO hs9 hd9), (gs f19 hO hs9 hd9), (fun _ _ => ⟨w9.heap.size, rfl, hn0, by omega, hzb⟩), (gp f21 hs9), (gp f22 hs9), (gp f23 hs9), (gn i18 hna), (gy f25 hO hs9 hd9), (gy f26 hO hs9 hd9), (gy f27 hO hs9 hd9), (fun h h' => newne18_19 (by first | exact h | exact gd h) (by first | exact h' | exact gd h')), (fun h h' => newne18_20 (by first | exact h | exact gd h) (by first | exact h' | exact gd h')), (fun h h' => newne18_21 (by first | exact h | exact gd h) (by first | exact h' | exact gd h')), (gx2 d19_20), (gx2 d19_21), (gx2 d20_21), (fun _ => getD_self (by omega)), (gi i19), (gi i20), (gi i21)⟩
      · simp at hop
        subst hop
        refine wpOp_of_list (i := 21) rfl ?_
        have hna : ls.getD 21 false = false := by
          cases hq : ls.getD 21 false with
          | false => rfl
          | true =>
            have hq2 := getD_false hj
            rw [Array.getD_eq_getD_getElem?, hq2] at hq
            cases hq
        have hb9 : Below w9.heap.size w9 (w9.alloc (.cells #[.int .i64 0, .slice none 0 0, .int .i64 0, .slice none 0 0, .int .i64 0, .int .i64 0, .slice none 0 0] 26)) := (Below.refl _ _).alloc (Nat.le_refl _) _
        have hkl := hO.lt
        have hs9 : Stp w2.heap.size w9 _ := Stp.of (Nat.le_of_lt hkl) hb9
        have ho9 := hO.below hb9
        have hd9 : OkDown w2.heap.size w9 (w9.alloc (.cells #[.int .i64 0, .slice none 0 0, .int .i64 0, .slice none 0 0, .int .i64 0, .int .i64 0, .slice none 0 0] 26)) := fun hk => by
          unfold okw at *
          rw [ho9.1] at hk
          rw [hO.1, hk]
        have hzb := ZB.new w9
        have hn0 : W6.drew.heap.size ≤ w9.heap.size := hS.1.size
        have newne18_19 : ∀ (h : ls.getD 20 false = true) (_ : (ls.setIfInBounds 21 true).getD 21 false = true), u18 ≠ (.pointer (some ⟨w9.heap.size, 0, none⟩) : Value) := by
          intro h h'
          have hx : ls.getD 20 false = true := by first | exact h | exact h'
          cases hst : ls.getD 24 false with
          | true =>
            obtain ⟨b, T, q1, q2, q3, q4, q5, q6, eb, _, _, h7, _⟩ := f24.out hst
            have hbl := World.block_lt_of_cell? w9 ⟨b, 0, none⟩ h7.1.1
            have hbl : b < w9.heap.size := hbl
            rw [eb]
            intro hh
            injection hh with hh
            injection hh with hh
            injection hh with hh
            omega
          | false =>
            obtain ⟨b, eb, _, _, h7⟩ := f20.out hx hst
            have hbl := World.block_lt_of_cell? w9 ⟨b, 0, none⟩ h7.1.1.1
            have hbl : b < w9.heap.size := hbl
            rw [eb]
            intro hh
            injection hh with hh
            injection hh with hh
            injection hh with hh
            omega
        have newne19_20 : ∀ (_ : (ls.setIfInBounds 21 true).getD 21 false = true) (h : ls.getD 22 false = true), (.pointer (some ⟨w9.heap.size, 0, none⟩) : Value) ≠ u20 := by
          intro h h'
          have hx : ls.getD 22 false = true := by first | exact h | exact h'
          cases hst : ls.getD 26 false with
          | true =>
            obtain ⟨b, T, q1, q2, q3, q4, q5, q6, eb, _, _, h7, _⟩ := f26.out hst
            have hbl := World.block_lt_of_cell? w9 ⟨b, 0, none⟩ h7.1.1
            have hbl : b < w9.heap.size := hbl
            rw [eb]
            intro hh
            injection hh with hh
            injection hh with hh
            injection hh with hh
            omega
          | false =>
            obtain ⟨b, eb, _, _, h7⟩ := f22.out hx hst
            have hbl := World.block_lt_of_cell? w9 ⟨b, 0, none⟩ h7.1.1.1
            have hbl : b < w9.heap.size := hbl
            rw [eb]
            intro hh
            injection hh with hh
            injection hh with hh
            injection hh with hh
            omega
        have newne19_21 : ∀ (_ : (ls.setIfInBounds 21 true).getD 21 false = true) (h : ls.getD 23 false = true), (.pointer (some ⟨w9.heap.size, 0, none⟩) : Value) ≠ u21 := by
          intro h h'
          have hx : ls.getD 23 false = true := by first | exact h | exact h'
          cases hst : ls.getD 27 false with
          | true =>
            obtain ⟨b, T, q1, q2, q3, q4, q5, q6, eb, _, _, h7, _⟩ := f27.out hst
            have hbl := World.block_lt_of_cell? w9 ⟨b, 0, none⟩ h7.1.1
            have hbl : b < w9.heap.size := hbl
            rw [eb]
            intro hh
            injection hh with hh
            injection hh with hh
            injection hh with hh
            omega
          | false =>
            obtain ⟨b, eb, _, _, h7⟩ := f23.out hx hst
            have hbl := World.block_lt_of_cell? w9 ⟨b, 0, none⟩ h7.1.1.1
            have hbl : b < w9.heap.size := hbl
            rw [eb]
            intro hh
            injection hh with hh
            injection hh with hh
            injection hh with hh
            omega
        go_wp2
        show I _ _ _
        rw [HIH.out]
        exact ⟨_, _, _, _, _, _, _, _, _, _, _, _, _, _, _, _, _, _, _, _, _, _, _, _, hsz', rfl, ⟨_, ho9⟩, hS.trans hs9, (fun h => hD (hd9 h)), (gx f0), (gx f1), (gx f2), (gs f3 hO hs9 hd9), (gs f4 hO hs9 hd9), (gx f5), (gx f6), (gx f7), (gs f8 hO hs9 hd9), (gx f9), (gx f10), (gx f11), (gs f12 hO hs9 hd9), (gx f13), (gx f14), (gx f15), (gx f16), (gs f17 hO hs9 hd9), (gs f18 hO hs9 hd9), (gs f19 hO hs9 hd9), (gp f20 hs9), (fun _ _ => ⟨w9.heap.size, rfl, hn0, by omega, hzb⟩), (gp f22 hs9), (gp f23 hs9), (gy f24 hO hs9 hd9), (gn i19 hna), (gy f26 hO hs9 hd9), (gy f27 hO hs9 hd9), (fun h h' => newne18_19 (by first | exact h | exact gd h) (by first | exact h' | exact gd h')), (gx2 d18_20), (gx2 d18_21), (fun h h' => newne19_20 (by first | exact h | exact gd h) (by first | exact h' | exact gd h')), (fun h h' => newne19_21 (by first | exact h | exact gd h) (by first | exact h' | exact gd h')), (gx2 d20_21), (gi i18), (fun _ => getD_self (by omega)), (gi i20), (gi i21)⟩
      · simp at hop
        subst hop
        refine wpOp_of_list (i := 22) rfl ?_
        have hna : ls.getD 22 false = false := by
          cases hq : ls.getD 22 false with
          | false => rfl
          | true =>
            have hq2 := getD_false hj
            rw [Array.getD_eq_getD_getElem?, hq2] at hq
            cases hq
        have hb9 : Below w9.heap.size w9 (w9.alloc (.cells #[.int .i64 0, .slice none 0 0, .int .i64 0, .slice none 0 0, .int .i64 0, .int .i64 0, .slice none 0 0] 26)) := (Below.refl _ _).alloc (Nat.le_refl _) _
        have hkl := hO.lt
        have hs9 : Stp w2.heap.size w9 _ := Stp.of (Nat.le_of_lt hkl) hb9
        have ho9 := hO.below hb9
        have hd9 : OkDown w2.heap.size w9 (w9.alloc (.cells #[.int .i64 0, .slice none 0 0, .int .i64 0, .slice none 0 0, .int .i64 0, .int .i64 0, .slice none 0 0] 26)) := fun hk => by
          unfold okw at *
          rw [ho9.1] at hk
          rw [hO.1, hk]
        have hzb := ZB.new w9
        have hn0 : W6.drew.heap.size ≤ w9.heap.size := hS.1.size
        have newne18_20 : ∀ (h : ls.getD 20 false = true) (_ : (ls.setIfInBounds 22 true).getD 22 false = true), u18 ≠ (.pointer (some ⟨w9.heap.size, 0, none⟩) : Value) := by
          intro h h'
          have hx : ls.getD 20 false = true := by first | exact h | exact h'
          cases hst : ls.getD 24 false with
          | true =>
            obtain ⟨b, T, q1, q2, q3, q4, q5, q6, eb, _, _, h7, _⟩ := f24.out hst
            have hbl := World.block_lt_of_cell? w9 ⟨b, 0, none⟩ h7.1.1
            have hbl : b < w9.heap.size := hbl
            rw [eb]
            intro hh
            injection hh with hh
            injection hh with hh
            injection hh with hh
            omega
          | false =>
            obtain ⟨b, eb, _, _, h7⟩ := f20.out hx hst
            have hbl := World.block_lt_of_cell? w9 ⟨b, 0, none⟩ h7.1.1.1
            have hbl : b < w9.heap.size := hbl
            rw [eb]
            intro hh
            injection hh with hh
            injection hh with hh
            injection hh with hh
            omega
        have newne19_20 : ∀ (h : ls.getD 21 false = true) (_ : (ls.setIfInBounds 22 true).getD 22 false = true), u19 ≠ (.pointer (some ⟨w9.heap.size, 0, none⟩) : Value) := by
          intro h h'
          have hx : ls.getD 21 false = true := by first | exact h | exact h'
          cases hst : ls.getD 25 false with
          | true =>
            obtain ⟨b, T, q1, q2, q3, q4, q5, q6, eb, _, _, h7, _⟩ := f25.out hst
            have hbl := World.block_lt_of_cell? w9 ⟨b, 0, none⟩ h7.1.1
            have hbl : b < w9.heap.size := hbl
            rw [eb]
            intro hh
            injection hh with hh
            injection hh with hh
            injection hh with hh
            omega
          | false =>
            obtain ⟨b, eb, _, _, h7⟩ := f21.out hx hst
            have hbl := World.block_lt_of_cell? w9 ⟨b, 0, none⟩ h7.1.1.1
            have hbl : b < w9.heap.size := hbl
            rw [eb]
            intro hh
            injection hh with hh
            injection hh with hh
            injection hh with hh
            omega
        have newne20_21 : ∀ (_ : (ls.setIfInBounds 22 true).getD 22 false = true) (h : ls.getD 23 false = true), (.pointer (some ⟨w9.heap.size, 0, none⟩) : Value) ≠ u21 := by
          intro h h'
          have hx : ls.getD 23 false = true := by first | exact h | exact h'
          cases hst : ls.getD 27 false with
          | true =>
            obtain ⟨b, T, q1, q2, q3, q4, q5, q6, eb, _, _, h7, _⟩ := f27.out hst
            have hbl := World.block_lt_of_cell? w9 ⟨b, 0, none⟩ h7.1.1
            have hbl : b < w9.heap.size := hbl
            rw [eb]
            intro hh
            injection hh with hh
            injection hh with hh
            injection hh with hh
            omega
          | false =>
            obtain ⟨b, eb, _, _, h7⟩ := f23.out hx hst
            have hbl := World.block_lt_of_cell? w9 ⟨b, 0, none⟩ h7.1.1.1
            have hbl : b < w9.heap.size := hbl
            rw [eb]
            intro hh
            injection hh with hh
            injection hh with hh
            injection hh with hh
            omega
        go_wp2
        show I _ _ _
        rw [HIH.out]
        exact ⟨_, _, _, _, _, _, _, _, _, _, _, _, _, _, _, _, _, _, _, _, _, _, _, _, hsz', rfl, ⟨_, ho9⟩, hS.trans hs9, (fun h => hD (hd9 h)), (gx f0), (gx f1), (gx f2), (gs f3 hO hs9 hd9), (gs f4 hO hs9 hd9), (gx f5), (gx f6), (gx f7), (gs f8 hO hs9 hd9), (gx f9), (gx f10), (gx f11), (gs f12 hO hs9 hd9), (gx f13), (gx f14), (gx f15), (gx f16), (gs f17 hO hs9 hd9), (gs f18 hO hs9 hd9), (gs f19 hO hs9 hd9), (gp f20 hs9), (gp f21 hs9), (fun _ _ => ⟨w9.heap.size, rfl, hn0, by omega, hzb⟩), (gp f23 hs9), (gy f24 hO hs9 hd9), (gy f25 hO hs9 hd9), (gn i20 hna), (gy f27 hO hs9 hd9), (gx2 d18_19), (fun h h' => newne18_20 (by first | exact h | exact gd h) (by first | exact h' | exact gd h')), (gx2 d18_21), (fun h h' => newne19_20 (by first | exact h | exact gd h) (by first | exact h' | exact gd h')), (gx2 d19_21), (fun h h' => newne20_21 (by first | exact h | exact gd h) (by first | exact h' | exact gd h')), (gi i18), (gi i19), (fun _ => getD_self (by omega)), (gi i21)⟩
      · simp at hop
        subst hop
        refine wpOp_of_list (i := 23) rfl ?_
        have hna : ls.getD 23 false = false := by
          cases hq : ls.getD 23 false with
          | false => rfl
          | true =>
            have hq2 := getD_false hj
            rw [Array.getD_eq_getD_getElem?, hq2] at hq
            cases hq
        have hb9 : Below w9.heap.size w9 (w9.alloc (.cells #[.int .i64 0, .slice none 0 0, .int .i64 0, .slice none 0 0, .int .i64 0, .int .i64 0, .slice none 0 0] 26)) := (Below.refl _ _).alloc (Nat.le_refl _) _
        have hkl := hO.lt
        have hs9 : Stp w2.heap.size w9 _ := Stp.of (Nat.le_of_lt hkl) hb9
        have ho9 := hO.below hb9
        have hd9 : OkDown w2.heap.size w9 (w9.alloc (.cells #[.int .i64 0, .slice none 0 0, .int .i64 0, .slice none 0 0, .int .i64 0, .int .i64 0, .slice none 0 0] 26)) := fun hk => by
          unfold okw at *
          rw [ho9.1] at hk
          rw [hO.1, hk]
        have hzb := ZB.new w9
        have hn0 : W6.drew.heap.size ≤ w9.heap.size := hS.1.size
        have newne18_21 : ∀ (h : ls.getD 20 false = true) (_ : (ls.setIfInBounds 23 true).getD 23 false = true), u18 ≠ (.pointer (some ⟨w9.heap.size, 0, none⟩) : Value) := by
          intro h h'
          have hx : ls.getD 20 false = true := by first | exact h | exact h'
          cases hst : ls.getD 24 false with
          | true =>
            obtain ⟨b, T, q1, q2, q3, q4, q5, q6, eb, _, _, h7, _⟩ := f24.out hst
            have hbl := World.block_lt_of_cell? w9 ⟨b, 0, none⟩ h7.1.1
            have hbl : b < w9.heap.size := hbl
            rw [eb]
            intro hh
            injection hh with hh
            injection hh with hh
            injection hh with hh
            omega
          | false =>
            obtain ⟨b, eb, _, _, h7⟩ := f20.out hx hst
            have hbl := World.block_lt_of_cell? w9 ⟨b, 0, none⟩ h7.1.1.1
            have hbl : b < w9.heap.size := hbl
            rw [eb]
            intro hh
            injection hh with hh
            injection hh with hh
            injection hh with hh
            omega
        have newne19_21 : ∀ (h : ls.getD 21 false = true) (_ : (ls.setIfInBounds 23 true).getD 23 false = true), u19 ≠ (.pointer (some ⟨w9.heap.size, 0, none⟩) : Value) := by
          intro h h'
          have hx : ls.getD 21 false = true := by first | exact h | exact h'
          cases hst : ls.getD 25 false with
          | true =>
            obtain ⟨b, T, q1, q2, q3, q4, q5, q6, eb, _, _, h7, _⟩ := f25.out hst
            have hbl := World.block_lt_of_cell? w9 ⟨b, 0, none⟩ h7.1.1
            have hbl : b < w9.heap.size := hbl
            rw [eb]
            intro hh
            injection hh with hh
            injection hh with hh
            injection hh with hh
            omega
          | false =>
            obtain ⟨b, eb, _, _, h7⟩ := f21.out hx hst
            have hbl := World.block_lt_of_cell? w9 ⟨b, 0, none⟩ h7.1.1.1
            have hbl : b < w9.heap.size := hbl
            rw [eb]
            intro hh
            injection hh with hh
            injection hh with hh
            injection hh with hh
            omega
        have newne20_21 : ∀ (h : ls.getD 22 false = true) (_ : (ls.setIfInBounds 23 true).getD 23 false = true), u20 ≠ (.pointer (some ⟨w9.heap.size, 0, none⟩) : Value) := by
          intro h h'
          have hx : ls.getD 22 false = true := by first | exact h | exact h'
          cases hst : ls.getD 26 false with
          | true =>
            obtain ⟨b, T, q1, q2, q3, q4, q5, q6, eb, _, _, h7, _⟩ := f26.out hst
            have hbl := World.block_lt_of_cell? w9 ⟨b, 0, none⟩ h7.1.1
            have hbl : b < w9.heap.size := hbl
            rw [eb]
            intro hh
            injection hh with hh
            injection hh with hh
            injection hh with hh
            omega
          | false =>
            obtain ⟨b, eb, _, _, h7⟩ := f22.out hx hst
            have hbl := World.block_lt_of_cell? w9 ⟨b, 0, none⟩ h7.1.1.1
            have hbl : b < w9.heap.size := hbl
            rw [eb]
            intro hh
            injection hh with hh
            injection hh with hh
            injection hh with hh
            omega
        go_wp2
        show I _ _ _
        rw [HIH.out]
        exact ⟨_, _, _, _, _, _, _, _, _, _, _, _, _, _, _, _, _, _, _, _, _, _, _, _, hsz', rfl, ⟨_, ho9⟩, hS.trans hs9, (fun h => hD (hd9 h)), (gx f0), (gx f1), (gx f2), (gs f3 hO hs9 hd9), (gs f4 hO hs9 hd9), (gx f5), (gx f6), (gx f7), (gs f8 hO hs9 hd9), (gx f9), (gx f10), (gx f11), (gs f12 hO hs9 hd9), (gx f13), (gx f14), (gx f15), (gx f16), (gs f17 hO hs9 hd9), (gs f18 hO hs9 hd9), (gs f19 hO hs9 hd9), (gp f20 hs9), (gp f21 hs9), (gp f22 hs9), (fun _ _ => ⟨w9.heap.size, rfl, hn0, by omega, hzb⟩), (gy f24 hO hs9 hd9), (gy f25 hO hs9 hd9), (gy f26 hO hs9 hd9), (gn i21 hna), (gx2 d18_19), (gx2 d18_20), (fun h h' => newne18_21 (by first | exact h | exact gd h) (by first | exact h' | exact gd h')), (gx2 d19_20), (fun h h' => newne19_21 (by first | exact h | exact gd h) (by first | exact h' | exact gd h')), (fun h h' => newne20_21 (by first | exact h | exact gd h) (by first | exact h' | exact gd h')), (gi i18), (gi i19), (gi i20), (fun _ => getD_self (by omega))⟩
      · simp at hop
        subst hop
        refine wpOp_of_list (i := 24) rfl ?_
        have hns : ls.getD 24 false = false := by
          cases hq : ls.getD 24 false with
          | false => rfl
          | true =>
            have hq2 := getD_false hj
            rw [Array.getD_eq_getD_getElem?, hq2] at hq
            cases hq
        have hla := hall ⟨20, .data⟩ (by simp) rfl
        obtain ⟨b, T, q1, q2, q3, q4, q5, q6, e1, hb1, hbk, e2, hzb, hs9, hst⟩ := (f20.out hla hns).put (f4.out (hall ⟨4, .data⟩ (by simp) rfl))
        have hkb : w2.heap.size ≠ b := fun q => hbk q.symm
        have hkl := hO.lt
        have ho9 : OneB (put7 w9 b (.int .i64 T.lf.1) (.slice q1 T.lf.2.length q2) (.int .i64 T.rt.1) (.slice q3 T.rt.2.length q4) (.int .i64 T.fr) (.int .i64 T.to) (.slice q5 T.l.length q6)) w2.heap.size c9 := hO.put7 hbk _ _ _ _ _ _ _
        have hS9 := hS.put7 (b := b) hb1 (by have := hS.1.size; have := HW6.out; omega) (.int .i64 T.lf.1) (.slice q1 T.lf.2.length q2) (.int .i64 T.rt.1) (.slice q3 T.rt.2.length q4) (.int .i64 T.fr) (.int .i64 T.to) (.slice q5 T.l.length q6)
        have hne19 : ls.getD 21 false = true → u19 ≠ .pointer (some ⟨b, 0, none⟩) := fun h => by rw [← e1]; exact fun q => d18_19.out hla h q.symm
        have hne20 : ls.getD 22 false = true → u20 ≠ .pointer (some ⟨b, 0, none⟩) := fun h => by rw [← e1]; exact fun q => d18_20.out hla h q.symm
        have hne21 : ls.getD 23 false = true → u21 ≠ .pointer (some ⟨b, 0, none⟩) := fun h => by rw [← e1]; exact fun q => d18_21.out hla h q.symm
        obtain ⟨⟨⟨Z0, Z1, Z2, Z3, Z4, Z5, Z6⟩, K0, K1, K2, K3, K4, K5, K6⟩, -⟩ := hzb
        subst e1 e2
        go_wp2
        show I _ _ _
        rw [HIH.out]
        exact ⟨_, _, _, _, _, _, _, _, _, _, _, _, _, _, _, _, _, _, _, _, _, _, _, _, hsz', rfl, ⟨_, ho9⟩, hS9, (fun h => hD (hs9.okw hkb h)), (gx f0), (gx f1), (gx f2), (gt f3 hs9 hkb), (gt f4 hs9 hkb), (gx f5), (gx f6), (gx f7), (gt f8 hs9 hkb), (gx f9), (gx f10), (gx f11), (gt f12 hs9 hkb), (gx f13), (gx f14), (gx f15), (gx f16), (gt f17 hs9 hkb), (gt f18 hs9 hkb), (gt f19 hs9 hkb), (go1 (by omega)), (gq f21 hs9 hne19), (gq f22 hs9 hne20), (gq f23 hs9 hne21), (fun _ => hst), (gz f25 hs9 hkb hne19 i19), (gz f26 hs9 hkb hne20 i20), (gz f27 hs9 hkb hne21 i21), (gx2 d18_19), (gx2 d18_20), (gx2 d18_21), (gx2 d19_20), (gx2 d19_21), (gx2 d20_21), (fun _ => by rw [getD_ne (by decide)]; exact hla), (gi i19), (gi i20), (gi i21)⟩
      · simp at hop
        subst hop
        refine wpOp_of_list (i := 25) rfl ?_
        have hns : ls.getD 25 false = false := by
          cases hq : ls.getD 25 false with
          | false => rfl
          | true =>
            have hq2 := getD_false hj
            rw [Array.getD_eq_getD_getElem?, hq2] at hq
            cases hq
        have hla := hall ⟨21, .data⟩ (by simp) rfl
        obtain ⟨b, T, q1, q2, q3, q4, q5, q6, e1, hb1, hbk, e2, hzb, hs9, hst⟩ := (f21.out hla hns).put (f8.out (hall ⟨8, .data⟩ (by simp) rfl))
        have hkb : w2.heap.size ≠ b := fun q => hbk q.symm
        have hkl := hO.lt
        have ho9 : OneB (put7 w9 b (.int .i64 T.lf.1) (.slice q1 T.lf.2.length q2) (.int .i64 T.rt.1) (.slice q3 T.rt.2.length q4) (.int .i64 T.fr) (.int .i64 T.to) (.slice q5 T.l.length q6)) w2.heap.size c9 := hO.put7 hbk _ _ _ _ _ _ _
        have hS9 := hS.put7 (b := b) hb1 (by have := hS.1.size; have := HW6.out; omega) (.int .i64 T.lf.1) (.slice q1 T.lf.2.length q2) (.int .i64 T.rt.1) (.slice q3 T.rt.2.length q4) (.int .i64 T.fr) (.int .i64 T.to) (.slice q5 T.l.length q6)
        have hne18 : ls.getD 20 false = true → u18 ≠ .pointer (some ⟨b, 0, none⟩) := fun h => by rw [← e1]; exact d18_19.out h hla
        have hne20 : ls.getD 22 false = true → u20 ≠ .pointer (some ⟨b, 0, none⟩) := fun h => by rw [← e1]; exact fun q => d19_20.out hla h q.symm
        have hne21 : ls.getD 23 false = true → u21 ≠ .pointer (some ⟨b, 0, none⟩) := fun h => by rw [← e1]; exact fun q => d19_21.out hla h q.symm
        obtain ⟨⟨⟨Z0, Z1, Z2, Z3, Z4, Z5, Z6⟩, K0, K1, K2, K3, K4, K5, K6⟩, -⟩ := hzb
        subst e1 e2
        go_wp2
        show I _ _ _
        rw [HIH.out]
        exact ⟨_, _, _, _, _, _, _, _, _, _, _, _, _, _, _, _, _, _, _, _, _, _, _, _, hsz', rfl, ⟨_, ho9⟩, hS9, (fun h => hD (hs9.okw hkb h)), (gx f0), (gx f1), (gx f2), (gt f3 hs9 hkb), (gt f4 hs9 hkb), (gx f5), (gx f6), (gx f7), (gt f8 hs9 hkb), (gx f9), (gx f10), (gx f11), (gt f12 hs9 hkb), (gx f13), (gx f14), (gx f15), (gx f16), (gt f17 hs9 hkb), (gt f18 hs9 hkb), (gt f19 hs9 hkb), (gq f20 hs9 hne18), (go1 (by omega)), (gq f22 hs9 hne20), (gq f23 hs9 hne21), (gz f24 hs9 hkb hne18 i18), (fun _ => hst), (gz f26 hs9 hkb hne20 i20), (gz f27 hs9 hkb hne21 i21), (gx2 d18_19), (gx2 d18_20), (gx2 d18_21), (gx2 d19_20), (gx2 d19_21), (gx2 d20_21), (gi i18), (fun _ => by rw [getD_ne (by decide)]; exact hla), (gi i20), (gi i21)⟩
      · simp at hop
        subst hop
        refine wpOp_of_list (i := 26) rfl ?_
        have hns : ls.getD 26 false = false := by
          cases hq : ls.getD 26 false with
          | false => rfl
          | true =>
            have hq2 := getD_false hj
            rw [Array.getD_eq_getD_getElem?, hq2] at hq
            cases hq
        have hla := hall ⟨22, .data⟩ (by simp) rfl
        obtain ⟨b, T, q1, q2, q3, q4, q5, q6, e1, hb1, hbk, e2, hzb, hs9, hst⟩ := (f22.out hla hns).put (f12.out (hall ⟨12, .data⟩ (by simp) rfl))
        have hkb : w2.heap.size ≠ b := fun q => hbk q.symm
        have hkl := hO.lt
        have ho9 : OneB (put7 w9 b (.int .i64 T.lf.1) (.slice q1 T.lf.2.length q2) (.int .i64 T.rt.1) (.slice q3 T.rt.2.length q4) (.int .i64 T.fr) (.int .i64 T.to) (.slice q5 T.l.length q6)) w2.heap.size c9 := hO.put7 hbk _ _ _ _ _ _ _
        have hS9 := hS.put7 (b := b) hb1 (by have := hS.1.size; have := HW6.out; omega) (.int .i64 T.lf.1) (.slice q1 T.lf.2.length q2) (.int .i64 T.rt.1) (.slice q3 T.rt.2.length q4) (.int .i64 T.fr) (.int .i64 T.to) (.slice q5 T.l.length q6)
        have hne18 : ls.getD 20 false = true → u18 ≠ .pointer (some ⟨b, 0, none⟩) := fun h => by rw [← e1]; exact d18_20.out h hla
        have hne19 : ls.getD 21 false = true → u19 ≠ .pointer (some ⟨b, 0, none⟩) := fun h => by rw [← e1]; exact d19_20.out h hla
        have hne21 : ls.getD 23 false = true → u21 ≠ .pointer (some ⟨b, 0, none⟩) := fun h => by rw [← e1]; exact fun q => d20_21.out hla h q.symm
        obtain ⟨⟨⟨Z0, Z1, Z2, Z3, Z4, Z5, Z6⟩, K0, K1, K2, K3, K4, K5, K6⟩, -⟩ := hzb
        subst e1 e2
        go_wp2
        show I _ _ _
        rw [HIH.out]
        exact ⟨_, _, _, _, _, _, _, _, _, _, _, _, _, _, _, _, _, _, _, _, _, _, _, _, hsz', rfl, ⟨_, ho9⟩, hS9, (fun h => hD (hs9.okw hkb h)), (gx f0), (gx f1), (gx f2), (gt f3 hs9 hkb), (gt f4 hs9 hkb), (gx f5), (gx f6), (gx f7), (gt f8 hs9 hkb), (gx f9), (gx f10), (gx f11), (gt f12 hs9 hkb), (gx f13), (gx f14), (gx f15), (gx f16), (gt f17 hs9 hkb), (gt f18 hs9 hkb), (gt f19 hs9 hkb), (gq f20 hs9 hne18), (gq f21 hs9 hne19), (go1 (by omega)), (gq f23 hs9 hne21), (gz f24 hs9 hkb hne18 i18), (gz f25 hs9 hkb hne19 i19), (fun _ => hst), (gz f27 hs9 hkb hne21 i21), (gx2 d18_19), (gx2 d18_20), (gx2 d18_21), (gx2 d19_20), (gx2 d19_21), (gx2 d20_21), (gi i18), (gi i19), (fun _ => by rw [getD_ne (by decide)]; exact hla), (gi i21)⟩
      · simp at hop
        subst hop
        refine wpOp_of_list (i := 27) rfl ?_
        have hns : ls.getD 27 false = false := by
          cases hq : ls.getD 27 false with
          | false => rfl
          | true =>
            have hq2 := getD_false hj
            rw [Array.getD_eq_getD_getElem?, hq2] at hq
            cases hq
        have hla := hall ⟨23, .data⟩ (by simp) rfl
        obtain ⟨b, T, q1, q2, q3, q4, q5, q6, e1, hb1, hbk, e2, hzb, hs9, hst⟩ := (f23.out hla hns).put (f19.out (hall ⟨19, .data⟩ (by simp) rfl))
        have hkb : w2.heap.size ≠ b := fun q => hbk q.symm
        have hkl := hO.lt
        have ho9 : OneB (put7 w9 b (.int .i64 T.lf.1) (.slice q1 T.lf.2.length q2) (.int .i64 T.rt.1) (.slice q3 T.rt.2.length q4) (.int .i64 T.fr) (.int .i64 T.to) (.slice q5 T.l.length q6)) w2.heap.size c9 := hO.put7 hbk _ _ _ _ _ _ _
        have hS9 := hS.put7 (b := b) hb1 (by have := hS.1.size; have := HW6.out; omega) (.int .i64 T.lf.1) (.slice q1 T.lf.2.length q2) (.int .i64 T.rt.1) (.slice q3 T.rt.2.length q4) (.int .i64 T.fr) (.int .i64 T.to) (.slice q5 T.l.length q6)
        have hne18 : ls.getD 20 false = true → u18 ≠ .pointer (some ⟨b, 0, none⟩) := fun h => by rw [← e1]; exact d18_21.out h hla
        have hne19 : ls.getD 21 false = true → u19 ≠ .pointer (some ⟨b, 0, none⟩) := fun h => by rw [← e1]; exact d19_21.out h hla
        have hne20 : ls.getD 22 false = true → u20 ≠ .pointer (some ⟨b, 0, none⟩) := fun h => by rw [← e1]; exact d20_21.out h hla
        obtain ⟨⟨⟨Z0, Z1, Z2, Z3, Z4, Z5, Z6⟩, K0, K1, K2, K3, K4, K5, K6⟩, -⟩ := hzb
        subst e1 e2
        go_wp2
        show I _ _ _
        rw [HIH.out]
        exact ⟨_, _, _, _, _, _, _, _, _, _, _, _, _, _, _, _, _, _, _, _, _, _, _, _, hsz', rfl, ⟨_, ho9⟩, hS9, (fun h => hD (hs9.okw hkb h)), (gx f0), (gx f1), (gx f2), (gt f3 hs9 hkb), (gt f4 hs9 hkb), (gx f5), (gx f6), (gx f7), (gt f8 hs9 hkb), (gx f9), (gx f10), (gx f11), (gt f12 hs9 hkb), (gx f13), (gx f14), (gx f15), (gx f16), (gt f17 hs9 hkb), (gt f18 hs9 hkb), (gt f19 hs9 hkb), (gq f20 hs9 hne18), (gq f21 hs9 hne19), (gq f22 hs9 hne20), (go1 (by omega)), (gz f24 hs9 hkb hne18 i18), (gz f25 hs9 hkb hne19 i19), (gz f26 hs9 hkb hne20 i20), (fun _ => hst), (gx2 d18_19), (gx2 d18_20), (gx2 d18_21), (gx2 d19_20), (gx2 d19_21), (gx2 d20_21), (gi i18), (gi i19), (gi i20), (fun _ => by rw [getD_ne (by decide)]; exact hla)⟩
  case rest =>
  generalize wc = W7 at *
  obtain ⟨hxu18, hxu19, hxu20, hxu21, ⟨dd7, hO⟩, hS, hD⟩ := hcut
  have hd : Below W7.heap.size W7 W7 := (Below.refl _ _)
  have hkl := hO.lt
  have hSd := hS.trans (Stp.of (Nat.le_of_lt hkl) hd)
  have HOne7 : Hid (OneB W7 w2.heap.size dd7) := hO.below hd
  have HX7 : Hid (Set7 W7 w.heap.size (.int .i64 a.lf.1) (.slice a1 a.lf.2.length an1) (.int .i64 a.rt.1) (.slice a2 a.rt.2.length an2) (.int .i64 a.fr) (.int .i64 a.to) (.slice a3 a.l.length an3) ∧ Set7 W7 (w.heap.size + 1) (.int .i64 b.lf.1) (.slice b1 b.lf.2.length bn1) (.int .i64 b.rt.1) (.slice b2 b.rt.2.length bn2) (.int .i64 b.fr) (.int .i64 b.to) (.slice b3 b.l.length bn3) ∧ Set7 W7 (w.heap.size + 1 + 1) (.int .i64 c.lf.1) (.slice c1 c.lf.2.length cn1) (.int .i64 c.rt.1) (.slice c2 c.rt.2.length cn2) (.int .i64 c.fr) (.int .i64 c.to) (.slice c3 c.l.length cn3) ∧ RdSt W7 a (.slice a1 a.lf.2.length an1) (.slice a2 a.rt.2.length an2) (.slice a3 a.l.length an3) ∧ RdSt W7 b (.slice b1 b.lf.2.length bn1) (.slice b2 b.rt.2.length bn2) (.slice b3 b.l.length bn3) ∧ RdSt W7 c (.slice c1 c.lf.2.length cn1) (.slice c2 c.rt.2.length cn2) (.slice c3 c.l.length cn3)) := ⟨hSd.set7 HNE.out.1.1 HX6.out.1, hSd.set7 HNE.out.1.2.1 HX6.out.2.1, hSd.set7 HNE.out.1.2.2 HX6.out.2.2.1, hSd.st HOne6.out HX6.out.2.2.2.1, hSd.st HOne6.out HX6.out.2.2.2.2.1, hSd.st HOne6.out HX6.out.2.2.2.2.2⟩
  have HK7 := Lib.hid (hSd.cell HNE.out.2.1 HK6.out)
  have HW7 : Hid (w2.heap.size ≤ W7.heap.size) := Nat.le_of_lt hkl
  have HD7 : Hid (OkDown w2.heap.size W6.drew W7) := hD
  have HTu18 : Hid (StoV w2.heap.size (W6.drew.heap.size) (fun T => ∃ T1, (fun T => ∃ T1, (fun T => T = a) T1 ∧ setNot T1 = (T, 0)) T1 ∧ setNot T1 = (T, 0)) u18 W7) := hxu18.stp hO (Stp.of (Nat.le_of_lt hkl) hd) (fun h => h)
  have HTu19 : Hid (StoV w2.heap.size (W6.drew.heap.size) (fun T => ∃ T1 T2, (fun T => T = a) T1 ∧ (fun T => T = b) T2 ∧ combM 0 T1 T2 = (T, 0)) u19 W7) := hxu19.stp hO (Stp.of (Nat.le_of_lt hkl) hd) (fun h => h)
  have HTu20 : Hid (StoV w2.heap.size (W6.drew.heap.size) (fun T => ∃ T1 T2, (fun T => T = b) T1 ∧ (fun T => T = a) T2 ∧ combM 0 T1 T2 = (T, 0)) u20 W7) := hxu20.stp hO (Stp.of (Nat.le_of_lt hkl) hd) (fun h => h)
  have HTu21 : Hid (StoV w2.heap.size (W6.drew.heap.size) (fun T => ∃ T1 T2, (fun T => ∃ T1 T2, (fun T => T = a) T1 ∧ (fun T => T = b) T2 ∧ combM 1 T1 T2 = (T, 0)) T1 ∧ (fun T => combM 2 a b = (T, 0)) T2 ∧ combM 0 T1 T2 = (T, 0)) u21 W7) := hxu21.stp hO (Stp.of (Nat.le_of_lt hkl) hd) (fun h => h)
  have HSd7 := Lib.hid hSd
  clear hO hS hD hd hkl hSd hxu18 hxu19 hxu20 hxu21
  have HTu12_7 : Hid (StoV w2.heap.size (W3.drew.heap.size) (fun T => ∃ T1, (fun T => ∃ T1 T2, (fun T => T = a) T1 ∧ (fun T => T = b) T2 ∧ combM 0 T1 T2 = (T, 0)) T1 ∧ setNot T1 = (T, 0)) u12 W7) := HTu12_6.out.stp HOne6.out HSd7.out HD7.out
  have HTu13_7 : Hid (StoV w2.heap.size (W3.drew.heap.size) (fun T => ∃ T1 T2, (fun T => ∃ T1, (fun T => T = a) T1 ∧ setNot T1 = (T, 0)) T1 ∧ (fun T => ∃ T1, (fun T => T = b) T1 ∧ setNot T1 = (T, 0)) T2 ∧ combM 1 T1 T2 = (T, 0)) u13 W7) := HTu13_6.out.stp HOne6.out HSd7.out HD7.out
  have HTu14_7 : Hid (StoV w2.heap.size (W4.drew.heap.size) (fun T => ∃ T1 T2, (fun T => T = a) T1 ∧ (fun T => ∃ T1 T2, (fun T => T = b) T1 ∧ (fun T => T = c) T2 ∧ combM 0 T1 T2 = (T, 0)) T2 ∧ combM 1 T1 T2 = (T, 0)) u14 W7) := HTu14_6.out.stp HOne6.out HSd7.out HD7.out
  have HTu15_7 : Hid (StoV w2.heap.size (W4.drew.heap.size) (fun T => ∃ T1 T2, (fun T => ∃ T1 T2, (fun T => T = a) T1 ∧ (fun T => T = b) T2 ∧ combM 1 T1 T2 = (T, 0)) T1 ∧ (fun T => ∃ T1 T2, (fun T => T = a) T1 ∧ (fun T => T = c) T2 ∧ combM 1 T1 T2 = (T, 0)) T2 ∧ combM 0 T1 T2 = (T, 0)) u15 W7) := HTu15_6.out.stp HOne6.out HSd7.out HD7.out
  have HTu16_7 : Hid (StoV w2.heap.size (W5.drew.heap.size) (fun T => combM 2 a b = (T, 0)) u16 W7) := HTu16.out.stp HOne6.out HSd7.out HD7.out
  have HTu17_7 : Hid (StoV w2.heap.size (W5.drew.heap.size) (fun T => ∃ T1 T2, (fun T => T = a) T1 ∧ (fun T => ∃ T1, (fun T => T = b) T1 ∧ setNot T1 = (T, 0)) T2 ∧ combM 1 T1 T2 = (T, 0)) u17 W7) := HTu17.out.stp HOne6.out HSd7.out HD7.out
  have HBF : Hid (Below w.heap.size w W7) := (((HX3d.out.2.2.2.2.2.2.trans (HSd4.out.1.mono HLE.out)).trans (HSd5.out.1.mono HLE.out)).trans (HSd6.out.1.mono HLE.out)).trans (HSd7.out.1.mono HLE.out)
  cases dd7 with
  | false =>
    obtain ⟨o1, -⟩ := HOne7.out
    go_wp2
    go_ret
    exact ⟨rfl, HBF.out⟩
  | true =>
    have hok : okw w2.heap.size W7 := HOne7.out.1
    obtain ⟨b12, T12, p121, q121, p122, q122, p123, q123, eu12, -, -, S12, R12, -, sp12⟩ := HTu12_7.out
    obtain ⟨b13, T13, p131, q131, p132, q132, p133, q133, eu13, -, -, S13, R13, -, sp13⟩ := HTu13_7.out
    obtain ⟨b14, T14, p141, q141, p142, q142, p143, q143, eu14, -, -, S14, R14, -, sp14⟩ := HTu14_7.out
    obtain ⟨b15, T15, p151, q151, p152, q152, p153, q153, eu15, -, -, S15, R15, -, sp15⟩ := HTu15_7.out
    obtain ⟨b16, T16, p161, q161, p162, q162, p163, q163, eu16, -, -, S16, R16, -, sp16⟩ := HTu16_7.out
    obtain ⟨b17, T17, p171, q171, p172, q172, p173, q173, eu17, -, -, S17, R17, -, sp17⟩ := HTu17_7.out
    obtain ⟨b18, T18, p181, q181, p182, q182, p183, q183, eu18, -, -, S18, R18, -, sp18⟩ := HTu18.out
    obtain ⟨b19, T19, p191, q191, p192, q192, p193, q193, eu19, -, -, S19, R19, -, sp19⟩ := HTu19.out
    obtain ⟨b20, T20, p201, q201, p202, q202, p203, q203, eu20, -, -, S20, R20, -, sp20⟩ := HTu20.out
    obtain ⟨b21, T21, p211, q211, p212, q212, p213, q213, eu21, -, -, S21, R21, -, sp21⟩ := HTu21.out
    have E1 := Lib.hid (lg_eq1 (sp12 hok) (sp13 hok))
    have E2 := Lib.hid (lg_eq2 (sp14 hok) (sp15 hok))
    have E3 := Lib.hid (lg_eq3 (sp16 hok) (sp17 hok))
    have E4 := Lib.hid (lg_eq4 (sp18 hok))
    have E5 := Lib.hid (lg_eq5 (sp19 hok) (sp20 hok))
    have E6 := Lib.hid (lg_eq6 (sp21 hok))
    have HY0 : Hid (Set7 W7 b12 (.int .i64 T12.lf.1) (.slice p121 T12.lf.2.length q121) (.int .i64 T12.rt.1) (.slice p122 T12.rt.2.length q122) (.int .i64 T12.fr) (.int .i64 T12.to) (.slice p123 T12.l.length q123) ∧ Set7 W7 b13 (.int .i64 T13.lf.1) (.slice p131 T13.lf.2.length q131) (.int .i64 T13.rt.1) (.slice p132 T13.rt.2.length q132) (.int .i64 T13.fr) (.int .i64 T13.to) (.slice p133 T13.l.length q133) ∧ Set7 W7 b14 (.int .i64 T14.lf.1) (.slice p141 T14.lf.2.length q141) (.int .i64 T14.rt.1) (.slice p142 T14.rt.2.length q142) (.int .i64 T14.fr) (.int .i64 T14.to) (.slice p143 T14.l.length q143) ∧ Set7 W7 b15 (.int .i64 T15.lf.1) (.slice p151 T15.lf.2.length q151) (.int .i64 T15.rt.1) (.slice p152 T15.rt.2.length q152) (.int .i64 T15.fr) (.int .i64 T15.to) (.slice p153 T15.l.length q153) ∧ Set7 W7 b16 (.int .i64 T16.lf.1) (.slice p161 T16.lf.2.length q161) (.int .i64 T16.rt.1) (.slice p162 T16.rt.2.length q162) (.int .i64 T16.fr) (.int .i64 T16.to) (.slice p163 T16.l.length q163) ∧ Set7 W7 b17 (.int .i64 T17.lf.1) (.slice p171 T17.lf.2.length q171) (.int .i64 T17.rt.1) (.slice p172 T17.rt.2.length q172) (.int .i64 T17.fr) (.int .i64 T17.to) (.slice p173 T17.l.length q173) ∧ Set7 W7 b18 (.int .i64 T18.lf.1) (.slice p181 T18.lf.2.length q181) (.int .i64 T18.rt.1) (.slice p182 T18.rt.2.length q182) (.int .i64 T18.fr) (.int .i64 T18.to) (.slice p183 T18.l.length q183) ∧ Set7 W7 b19 (.int .i64 T19.lf.1) (.slice p191 T19.lf.2.length q191) (.int .i64 T19.rt.1) (.slice p192 T19.rt.2.length q192) (.int .i64 T19.fr) (.int .i64 T19.to) (.slice p193 T19.l.length q193) ∧ Set7 W7 b20 (.int .i64 T20.lf.1) (.slice p201 T20.lf.2.length q201) (.int .i64 T20.rt.1) (.slice p202 T20.rt.2.length q202) (.int .i64 T20.fr) (.int .i64 T20.to) (.slice p203 T20.l.length q203) ∧ Set7 W7 b21 (.int .i64 T21.lf.1) (.slice p211 T21.lf.2.length q211) (.int .i64 T21.rt.1) (.slice p212 T21.rt.2.length q212) (.int .i64 T21.fr) (.int .i64 T21.to) (.slice p213 T21.l.length q213) ∧ Set7 W7 w.heap.size (.int .i64 a.lf.1) (.slice a1 a.lf.2.length an1) (.int .i64 a.rt.1) (.slice a2 a.rt.2.length an2) (.int .i64 a.fr) (.int .i64 a.to) (.slice a3 a.l.length an3) ∧ RdSt W7 T12 (.slice p121 T12.lf.2.length q121) (.slice p122 T12.rt.2.length q122) (.slice p123 T12.l.length q123) ∧ RdSt W7 T13 (.slice p131 T13.lf.2.length q131) (.slice p132 T13.rt.2.length q132) (.slice p133 T13.l.length q133) ∧ RdSt W7 T14 (.slice p141 T14.lf.2.length q141) (.slice p142 T14.rt.2.length q142) (.slice p143 T14.l.length q143) ∧ RdSt W7 T15 (.slice p151 T15.lf.2.length q151) (.slice p152 T15.rt.2.length q152) (.slice p153 T15.l.length q153) ∧ RdSt W7 T16 (.slice p161 T16.lf.2.length q161) (.slice p162 T16.rt.2.length q162) (.slice p163 T16.l.length q163) ∧ RdSt W7 T17 (.slice p171 T17.lf.2.length q171) (.slice p172 T17.rt.2.length q172) (.slice p173 T17.l.length q173) ∧ RdSt W7 T18 (.slice p181 T18.lf.2.length q181) (.slice p182 T18.rt.2.length q182) (.slice p183 T18.l.length q183) ∧ RdSt W7 T19 (.slice p191 T19.lf.2.length q191) (.slice p192 T19.rt.2.length q192) (.slice p193 T19.l.length q193) ∧ RdSt W7 T20 (.slice p201 T20.lf.2.length q201) (.slice p202 T20.rt.2.length q202) (.slice p203 T20.l.length q203) ∧ RdSt W7 T21 (.slice p211 T21.lf.2.length q211) (.slice p212 T21.rt.2.length q212) (.slice p213 T21.l.length q213) ∧ RdSt W7 a (.slice a1 a.lf.2.length an1) (.slice a2 a.rt.2.length an2) (.slice a3 a.l.length an3) ∧ Below w.heap.size w W7) := ⟨S12, S13, S14, S15, S16, S17, S18, S19, S20, S21, HX7.out.1, R12, R13, R14, R15, R16, R17, R18, R19, R20, R21, HX7.out.2.2.2.1, HBF.out⟩
    clear hok S12 R12 sp12 S13 R13 sp13 S14 R14 sp14 S15 R15 sp15 S16 R16 sp16 S17 R17 sp17 S18 R18 sp18 S19 R19 sp19 S20 R20 sp20 S21 R21 sp21 HTu12_7 HTu13_7 HTu14_7 HTu15_7 HTu16_7 HTu17_7 HTu18 HTu19 HTu20 HTu21 HBF HX7 HSd4 HSd5 HSd6 HSd7 HD4 HD5 HD6 HD7 HTu12 HTu13 HTu14 HTu15 HTu16 HTu17 HTu12_5 HTu13_5 HTu12_6 HTu13_6 HTu14_6 HTu15_6
    subst eu12
    subst eu13
    subst eu14
    subst eu15
    subst eu16
    subst eu17
    subst eu18
    subst eu19
    subst eu20
    subst eu21
    obtain ⟨o1, -⟩ := HOne7.out
    obtain ⟨⟨A0, A1, A2, A3, A4, A5, A6⟩, -⟩ := HY0.out.1
    obtain ⟨⟨B0, B1, B2, B3, B4, B5, B6⟩, -⟩ := HY0.out.2.1
    go_wp2_with fail
    refine (tequal_any T12 T13 _ _ _ _ _ _ _ HY0.out.2.2.2.2.2.2.2.2.2.2.2.1 HY0.out.2.2.2.2.2.2.2.2.2.2.2.2.1).mono ?_
    rintro e v1 ⟨rfl, hb⟩
    rw [E1.out]
    have HY1 := Lib.hid (And.intro (HY0.out.1.below hb) (And.intro (HY0.out.2.1.below hb) (And.intro (HY0.out.2.2.1.below hb) (And.intro (HY0.out.2.2.2.1.below hb) (And.intro (HY0.out.2.2.2.2.1.below hb) (And.intro (HY0.out.2.2.2.2.2.1.below hb) (And.intro (HY0.out.2.2.2.2.2.2.1.below hb) (And.intro (HY0.out.2.2.2.2.2.2.2.1.below hb) (And.intro (HY0.out.2.2.2.2.2.2.2.2.1.below hb) (And.intro (HY0.out.2.2.2.2.2.2.2.2.2.1.below hb) (And.intro (HY0.out.2.2.2.2.2.2.2.2.2.2.1.below hb) (And.intro (keepSt hb HY0.out.2.2.2.2.2.2.2.2.2.2.2.1) (And.intro (keepSt hb HY0.out.2.2.2.2.2.2.2.2.2.2.2.2.1) (And.intro (keepSt hb HY0.out.2.2.2.2.2.2.2.2.2.2.2.2.2.1) (And.intro (keepSt hb HY0.out.2.2.2.2.2.2.2.2.2.2.2.2.2.2.1) (And.intro (keepSt hb HY0.out.2.2.2.2.2.2.2.2.2.2.2.2.2.2.2.1) (And.intro (keepSt hb HY0.out.2.2.2.2.2.2.2.2.2.2.2.2.2.2.2.2.1) (And.intro (keepSt hb HY0.out.2.2.2.2.2.2.2.2.2.2.2.2.2.2.2.2.2.1) (And.intro (keepSt hb HY0.out.2.2.2.2.2.2.2.2.2.2.2.2.2.2.2.2.2.2.1) (And.intro (keepSt hb HY0.out.2.2.2.2.2.2.2.2.2.2.2.2.2.2.2.2.2.2.2.1) (And.intro (keepSt hb HY0.out.2.2.2.2.2.2.2.2.2.2.2.2.2.2.2.2.2.2.2.2.1) (And.intro (keepSt hb HY0.out.2.2.2.2.2.2.2.2.2.2.2.2.2.2.2.2.2.2.2.2.2.1) (keepBelow HY0.out.2.2.2.2.2.2.2.2.2.2.2.2.2.2.2.2.2.2.2.2.2.2 hb)))))))))))))))))))))))
    clear hb A0 A1 A2 A3 A4 A5 A6 B0 B1 B2 B3 B4 B5 B6 o1
    obtain ⟨⟨A0, A1, A2, A3, A4, A5, A6⟩, -⟩ := HY1.out.2.2.1
    obtain ⟨⟨B0, B1, B2, B3, B4, B5, B6⟩, -⟩ := HY1.out.2.2.2.1
    go_wp2_with fail
    refine (tequal_any T14 T15 _ _ _ _ _ _ _ HY1.out.2.2.2.2.2.2.2.2.2.2.2.2.2.1 HY1.out.2.2.2.2.2.2.2.2.2.2.2.2.2.2.1).mono ?_
    rintro e v2 ⟨rfl, hb⟩
    rw [E2.out]
    have HY2 := Lib.hid (And.intro (HY1.out.1.below hb) (And.intro (HY1.out.2.1.below hb) (And.intro (HY1.out.2.2.1.below hb) (And.intro (HY1.out.2.2.2.1.below hb) (And.intro (HY1.out.2.2.2.2.1.below hb) (And.intro (HY1.out.2.2.2.2.2.1.below hb) (And.intro (HY1.out.2.2.2.2.2.2.1.below hb) (And.intro (HY1.out.2.2.2.2.2.2.2.1.below hb) (And.intro (HY1.out.2.2.2.2.2.2.2.2.1.below hb) (And.intro (HY1.out.2.2.2.2.2.2.2.2.2.1.below hb) (And.intro (HY1.out.2.2.2.2.2.2.2.2.2.2.1.below hb) (And.intro (keepSt hb HY1.out.2.2.2.2.2.2.2.2.2.2.2.1) (And.intro (keepSt hb HY1.out.2.2.2.2.2.2.2.2.2.2.2.2.1) (And.intro (keepSt hb HY1.out.2.2.2.2.2.2.2.2.2.2.2.2.2.1) (And.intro (keepSt hb HY1.out.2.2.2.2.2.2.2.2.2.2.2.2.2.2.1) (And.intro (keepSt hb HY1.out.2.2.2.2.2.2.2.2.2.2.2.2.2.2.2.1) (And.intro (keepSt hb HY1.out.2.2.2.2.2.2.2.2.2.2.2.2.2.2.2.2.1) (And.intro (keepSt hb HY1.out.2.2.2.2.2.2.2.2.2.2.2.2.2.2.2.2.2.1) (And.intro (keepSt hb HY1.out.2.2.2.2.2.2.2.2.2.2.2.2.2.2.2.2.2.2.1) (And.intro (keepSt hb HY1.out.2.2.2.2.2.2.2.2.2.2.2.2.2.2.2.2.2.2.2.1) (And.intro (keepSt hb HY1.out.2.2.2.2.2.2.2.2.2.2.2.2.2.2.2.2.2.2.2.2.1) (And.intro (keepSt hb HY1.out.2.2.2.2.2.2.2.2.2.2.2.2.2.2.2.2.2.2.2.2.2.1) (keepBelow HY1.out.2.2.2.2.2.2.2.2.2.2.2.2.2.2.2.2.2.2.2.2.2.2 hb)))))))))))))))))))))))
    clear hb A0 A1 A2 A3 A4 A5 A6 B0 B1 B2 B3 B4 B5 B6
    obtain ⟨⟨A0, A1, A2, A3, A4, A5, A6⟩, -⟩ := HY2.out.2.2.2.2.1
    obtain ⟨⟨B0, B1, B2, B3, B4, B5, B6⟩, -⟩ := HY2.out.2.2.2.2.2.1
    go_wp2_with fail
    refine (tequal_any T16 T17 _ _ _ _ _ _ _ HY2.out.2.2.2.2.2.2.2.2.2.2.2.2.2.2.2.1 HY2.out.2.2.2.2.2.2.2.2.2.2.2.2.2.2.2.2.1).mono ?_
    rintro e v3 ⟨rfl, hb⟩
    rw [E3.out]
    have HY3 := Lib.hid (And.intro (HY2.out.1.below hb) (And.intro (HY2.out.2.1.below hb) (And.intro (HY2.out.2.2.1.below hb) (And.intro (HY2.out.2.2.2.1.below hb) (And.intro (HY2.out.2.2.2.2.1.below hb) (And.intro (HY2.out.2.2.2.2.2.1.below hb) (And.intro (HY2.out.2.2.2.2.2.2.1.below hb) (And.intro (HY2.out.2.2.2.2.2.2.2.1.below hb) (And.intro (HY2.out.2.2.2.2.2.2.2.2.1.below hb) (And.intro (HY2.out.2.2.2.2.2.2.2.2.2.1.below hb) (And.intro (HY2.out.2.2.2.2.2.2.2.2.2.2.1.below hb) (And.intro (keepSt hb HY2.out.2.2.2.2.2.2.2.2.2.2.2.1) (And.intro (keepSt hb HY2.out.2.2.2.2.2.2.2.2.2.2.2.2.1) (And.intro (keepSt hb HY2.out.2.2.2.2.2.2.2.2.2.2.2.2.2.1) (And.intro (keepSt hb HY2.out.2.2.2.2.2.2.2.2.2.2.2.2.2.2.1) (And.intro (keepSt hb HY2.out.2.2.2.2.2.2.2.2.2.2.2.2.2.2.2.1) (And.intro (keepSt hb HY2.out.2.2.2.2.2.2.2.2.2.2.2.2.2.2.2.2.1) (And.intro (keepSt hb HY2.out.2.2.2.2.2.2.2.2.2.2.2.2.2.2.2.2.2.1) (And.intro (keepSt hb HY2.out.2.2.2.2.2.2.2.2.2.2.2.2.2.2.2.2.2.2.1) (And.intro (keepSt hb HY2.out.2.2.2.2.2.2.2.2.2.2.2.2.2.2.2.2.2.2.2.1) (And.intro (keepSt hb HY2.out.2.2.2.2.2.2.2.2.2.2.2.2.2.2.2.2.2.2.2.2.1) (And.intro (keepSt hb HY2.out.2.2.2.2.2.2.2.2.2.2.2.2.2.2.2.2.2.2.2.2.2.1) (keepBelow HY2.out.2.2.2.2.2.2.2.2.2.2.2.2.2.2.2.2.2.2.2.2.2.2 hb)))))))))))))))))))))))
    clear hb A0 A1 A2 A3 A4 A5 A6 B0 B1 B2 B3 B4 B5 B6
    obtain ⟨⟨A0, A1, A2, A3, A4, A5, A6⟩, -⟩ := HY3.out.2.2.2.2.2.2.1
    obtain ⟨⟨B0, B1, B2, B3, B4, B5, B6⟩, -⟩ := HY3.out.2.2.2.2.2.2.2.2.2.2.1
    go_wp2_with fail
    refine (tequal_any T18 a _ _ _ _ _ _ _ HY3.out.2.2.2.2.2.2.2.2.2.2.2.2.2.2.2.2.2.1 HY3.out.2.2.2.2.2.2.2.2.2.2.2.2.2.2.2.2.2.2.2.2.2.1).mono ?_
    rintro e v4 ⟨rfl, hb⟩
    rw [E4.out]
    have HY4 := Lib.hid (And.intro (HY3.out.1.below hb) (And.intro (HY3.out.2.1.below hb) (And.intro (HY3.out.2.2.1.below hb) (And.intro (HY3.out.2.2.2.1.below hb) (And.intro (HY3.out.2.2.2.2.1.below hb) (And.intro (HY3.out.2.2.2.2.2.1.below hb) (And.intro (HY3.out.2.2.2.2.2.2.1.below hb) (And.intro (HY3.out.2.2.2.2.2.2.2.1.below hb) (And.intro (HY3.out.2.2.2.2.2.2.2.2.1.below hb) (And.intro (HY3.out.2.2.2.2.2.2.2.2.2.1.below hb) (And.intro (HY3.out.2.2.2.2.2.2.2.2.2.2.1.below hb) (And.intro (keepSt hb HY3.out.2.2.2.2.2.2.2.2.2.2.2.1) (And.intro (keepSt hb HY3.out.2.2.2.2.2.2.2.2.2.2.2.2.1) (And.intro (keepSt hb HY3.out.2.2.2.2.2.2.2.2.2.2.2.2.2.1) (And.intro (keepSt hb HY3.out.2.2.2.2.2.2.2.2.2.2.2.2.2.2.1) (And.intro (keepSt hb HY3.out.2.2.2.2.2.2.2.2.2.2.2.2.2.2.2.1) (And.intro (keepSt hb HY3.out.2.2.2.2.2.2.2.2.2.2.2.2.2.2.2.2.1) (And.intro (keepSt hb HY3.out.2.2.2.2.2.2.2.2.2.2.2.2.2.2.2.2.2.1) (And.intro (keepSt hb HY3.out.2.2.2.2.2.2.2.2.2.2.2.2.2.2.2.2.2.2.1) (And.intro (keepSt hb HY3.out.2.2.2.2.2.2.2.2.2.2.2.2.2.2.2.2.2.2.2.1) (And.intro (keepSt hb HY3.out.2.2.2.2.2.2.2.2.2.2.2.2.2.2.2.2.2.2.2.2.1) (And.intro (keepSt hb HY3.out.2.2.2.2.2.2.2.2.2.2.2.2.2.2.2.2.2.2.2.2.2.1) (keepBelow HY3.out.2.2.2.2.2.2.2.2.2.2.2.2.2.2.2.2.2.2.2.2.2.2 hb)))))))))))))))))))))))
    clear hb A0 A1 A2 A3 A4 A5 A6 B0 B1 B2 B3 B4 B5 B6
    obtain ⟨⟨A0, A1, A2, A3, A4, A5, A6⟩, -⟩ := HY4.out.2.2.2.2.2.2.2.1
    obtain ⟨⟨B0, B1, B2, B3, B4, B5, B6⟩, -⟩ := HY4.out.2.2.2.2.2.2.2.2.1
    go_wp2_with fail
    refine (tequal_any T19 T20 _ _ _ _ _ _ _ HY4.out.2.2.2.2.2.2.2.2.2.2.2.2.2.2.2.2.2.2.1 HY4.out.2.2.2.2.2.2.2.2.2.2.2.2.2.2.2.2.2.2.2.1).mono ?_
    rintro e v5 ⟨rfl, hb⟩
    rw [E5.out]
    have HY5 := Lib.hid (And.intro (HY4.out.1.below hb) (And.intro (HY4.out.2.1.below hb) (And.intro (HY4.out.2.2.1.below hb) (And.intro (HY4.out.2.2.2.1.below hb) (And.intro (HY4.out.2.2.2.2.1.below hb) (And.intro (HY4.out.2.2.2.2.2.1.below hb) (And.intro (HY4.out.2.2.2.2.2.2.1.below hb) (And.intro (HY4.out.2.2.2.2.2.2.2.1.below hb) (And.intro (HY4.out.2.2.2.2.2.2.2.2.1.below hb) (And.intro (HY4.out.2.2.2.2.2.2.2.2.2.1.below hb) (And.intro (HY4.out.2.2.2.2.2.2.2.2.2.2.1.below hb) (And.intro (keepSt hb HY4.out.2.2.2.2.2.2.2.2.2.2.2.1) (And.intro (keepSt hb HY4.out.2.2.2.2.2.2.2.2.2.2.2.2.1) (And.intro (keepSt hb HY4.out.2.2.2.2.2.2.2.2.2.2.2.2.2.1) (And.intro (keepSt hb HY4.out.2.2.2.2.2.2.2.2.2.2.2.2.2.2.1) (And.intro (keepSt hb HY4.out.2.2.2.2.2.2.2.2.2.2.2.2.2.2.2.1) (And.intro (keepSt hb HY4.out.2.2.2.2.2.2.2.2.2.2.2.2.2.2.2.2.1) (And.intro (keepSt hb HY4.out.2.2.2.2.2.2.2.2.2.2.2.2.2.2.2.2.2.1) (And.intro (keepSt hb HY4.out.2.2.2.2.2.2.2.2.2.2.2.2.2.2.2.2.2.2.1) (And.intro (keepSt hb HY4.out.2.2.2.2.2.2.2.2.2.2.2.2.2.2.2.2.2.2.2.1) (And.intro (keepSt hb HY4.out.2.2.2.2.2.2.2.2.2.2.2.2.2.2.2.2.2.2.2.2.1) (And.intro (keepSt hb HY4.out.2.2.2.2.2.2.2.2.2.2.2.2.2.2.2.2.2.2.2.2.2.1) (keepBelow HY4.out.2.2.2.2.2.2.2.2.2.2.2.2.2.2.2.2.2.2.2.2.2.2 hb)))))))))))))))))))))))
    clear hb A0 A1 A2 A3 A4 A5 A6 B0 B1 B2 B3 B4 B5 B6
    obtain ⟨⟨A0, A1, A2, A3, A4, A5, A6⟩, -⟩ := HY5.out.2.2.2.2.2.2.2.2.2.1
    obtain ⟨⟨B0, B1, B2, B3, B4, B5, B6⟩, -⟩ := HY5.out.2.2.2.2.2.2.2.2.2.2.1
    go_wp2_with fail
    refine (tequal_any T21 a _ _ _ _ _ _ _ HY5.out.2.2.2.2.2.2.2.2.2.2.2.2.2.2.2.2.2.2.2.2.1 HY5.out.2.2.2.2.2.2.2.2.2.2.2.2.2.2.2.2.2.2.2.2.2.1).mono ?_
    rintro e v6 ⟨rfl, hb⟩
    rw [E6.out]
    have HY6 := Lib.hid (And.intro (HY5.out.1.below hb) (And.intro (HY5.out.2.1.below hb) (And.intro (HY5.out.2.2.1.below hb) (And.intro (HY5.out.2.2.2.1.below hb) (And.intro (HY5.out.2.2.2.2.1.below hb) (And.intro (HY5.out.2.2.2.2.2.1.below hb) (And.intro (HY5.out.2.2.2.2.2.2.1.below hb) (And.intro (HY5.out.2.2.2.2.2.2.2.1.below hb) (And.intro (HY5.out.2.2.2.2.2.2.2.2.1.below hb) (And.intro (HY5.out.2.2.2.2.2.2.2.2.2.1.below hb) (And.intro (HY5.out.2.2.2.2.2.2.2.2.2.2.1.below hb) (And.intro (keepSt hb HY5.out.2.2.2.2.2.2.2.2.2.2.2.1) (And.intro (keepSt hb HY5.out.2.2.2.2.2.2.2.2.2.2.2.2.1) (And.intro (keepSt hb HY5.out.2.2.2.2.2.2.2.2.2.2.2.2.2.1) (And.intro (keepSt hb HY5.out.2.2.2.2.2.2.2.2.2.2.2.2.2.2.1) (And.intro (keepSt hb HY5.out.2.2.2.2.2.2.2.2.2.2.2.2.2.2.2.1) (And.intro (keepSt hb HY5.out.2.2.2.2.2.2.2.2.2.2.2.2.2.2.2.2.1) (And.intro (keepSt hb HY5.out.2.2.2.2.2.2.2.2.2.2.2.2.2.2.2.2.2.1) (And.intro (keepSt hb HY5.out.2.2.2.2.2.2.2.2.2.2.2.2.2.2.2.2.2.2.1) (And.intro (keepSt hb HY5.out.2.2.2.2.2.2.2.2.2.2.2.2.2.2.2.2.2.2.2.1) (And.intro (keepSt hb HY5.out.2.2.2.2.2.2.2.2.2.2.2.2.2.2.2.2.2.2.2.2.1) (And.intro (keepSt hb HY5.out.2.2.2.2.2.2.2.2.2.2.2.2.2.2.2.2.2.2.2.2.2.1) (keepBelow HY5.out.2.2.2.2.2.2.2.2.2.2.2.2.2.2.2.2.2.2.2.2.2.2 hb)))))))))))))))))))))))
    clear hb A0 A1 A2 A3 A4 A5 A6 B0 B1 B2 B3 B4 B5 B6
    go_wp2
    go_ret
    exact ⟨rfl, HY6.out.2.2.2.2.2.2.2.2.2.2.2.2.2.2.2.2.2.2.2.2.2.2⟩
end Go.Proofs.YtnjpceocnldlfaaGreat
