import Derived.Test.YtnjpceocnldlfaaGreatWkBth
import Derived.Test.YtnjpceocnldlfaaGreatWkPcc
/- periodic.Minus. -/
namespace Go.Proofs.YtnjpceocnldlfaaGreat
open Go.RowKit Wk

set_option maxRecDepth 100000 in
set_option maxHeartbeats 1000000 in
theorem perop_Minus (P Q : Int) (v k : Value) (l m : List Sp) (w : World) (h1 : RdS w v l) (h2 : RdS w k m) :
    Calls Tryz.prog 103 #[.agg #[.int .i64 P, v], .agg #[.int .i64 Q, k]] w (PrPost (bothM 2 (P, l) (Q, m)) w) := by
  have HB := Lib.hid (fun W h h' => both_any 2 (.func (.func 155) #[] #[]) (fun va vb a b W h1 h2 c1 c2 b1 b2 l1 l2 => pcomb_Minus va vb a b W h1 h2 c1 c2 b1 b2 l1 l2) P Q v k l m W h h')
  have hr1 := h1
  have hr2 := h2
  obtain ⟨a1, d1, rfl⟩ := h1.form
  obtain ⟨a2, d2, rfl⟩ := h2.form
  obtain ⟨W, hWe⟩ : ∃ W, ((w.alloc (.cells #[.int .i64 P, .slice a1 l.length d1] 24)).alloc (.cells #[.int .i64 Q, .slice a2 m.length d2] 24)).alloc (.cells #[.int .i64 0, .slice none 0 0] 24) = W := ⟨_, rfl⟩
  have hW : Below w.heap.size w W := by rw [← hWe]; exact (((Below.refl _ _).alloc (Nat.le_refl _) _).alloc (by simp) _).alloc (by simp; omega) _
  have hWs : W.heap.size = w.heap.size + 1 + 1 + 1 := by rw [← hWe]; simp
  have c0 : W.cell? ⟨w.heap.size, 0, none⟩ = some (.int .i64 P) := by rw [← hWe]; simp [go_sem]
  have c1 : W.cell? ⟨w.heap.size, 1, none⟩ = some (.slice a1 l.length d1) := by rw [← hWe]; simp [go_sem]
  have c2 : W.cell? ⟨w.heap.size + 1, 0, none⟩ = some (.int .i64 Q) := by rw [← hWe]; simp [go_sem]
  have c3 : W.cell? ⟨w.heap.size + 1, 1, none⟩ = some (.slice a2 m.length d2) := by rw [← hWe]; simp [go_sem]
  have hBX : Box2 W (w.heap.size + 1 + 1) (.int .i64 0) (.slice none 0 0) := by
    rw [← hWe]
    refine ⟨⟨?_, ?_⟩, ?_, ?_⟩ <;> simp [go_sem]
  have HE := Lib.hid hWe
  have HR1 := Lib.hid (keepRd hW hr1)
  have HR2 := Lib.hid (keepRd hW hr2)
  have HWS := Lib.hid hWs
  clear hWe h1 h2 hr1 hr2 hWs
  obtain ⟨r, hr⟩ : ∃ r, bothM 2 (P, l) (Q, m) = r := ⟨_, rfl⟩
  rw [hr] at HB ⊢
  clear hr
  go_enter Tryz.func103, Tryz.ntmps103
  go_wp2_with fail
  rw [HE.out]
  go_wp2_with fail
  refine (HB.out _ HR1.out HR2.out).mono ?_
  rintro e w1 ⟨vD, rfl, oD, bD⟩
  obtain ⟨pD, nD, rfl, _⟩ := oD.form
  have hB1 := keepBelow hW bD
  have HBX := Lib.hid (hBX.below bD)
  obtain ⟨⟨z0, z1⟩, f0, f1⟩ := HBX.out
  have OD := Lib.hid oD
  clear bD oD hBX c0 c1 c2 c3
  go_wp2
  change bodyPost _ _ _ _ _ (put2 w1 (w.heap.size + 1 + 1) (.int .i64 r.1.1) (.slice pD r.1.2.length nD))
  obtain ⟨r0, r1⟩ := HBX.out.put (.int .i64 r.1.1) (.slice pD r.1.2.length nD)
  have hBZ := put2_below (.int .i64 r.1.1) (.slice pD r.1.2.length nD) hB1 (b := w.heap.size + 1 + 1) (by omega)
  have hOZ := put2_own (.int .i64 r.1.1) (.slice pD r.1.2.length nD) OD.out (b := w.heap.size + 1 + 1) (by have := HWS.out; omega)
  generalize put2 w1 (w.heap.size + 1 + 1) (.int .i64 r.1.1) (.slice pD r.1.2.length nD) = Z at *
  refine bodyPost_ret (v := .tuple #[.agg #[.int .i64 r.1.1, .slice pD r.1.2.length nD], .int .i64 r.2]) (by simp [results, Tryz.results103, go_sem, r0, r1]) rfl ?_
  exact ⟨_, rfl, hOZ.mono (by have := HWS.out; omega), hBZ⟩
end Go.Proofs.YtnjpceocnldlfaaGreat
namespace Go.Proofs.YtnjpceocnldlfaaGreat
open Go.RowKit Wk

set_option maxRecDepth 100000 in
set_option maxHeartbeats 1000000 in
theorem perop_Union (P Q : Int) (v k : Value) (l m : List Sp) (w : World) (h1 : RdS w v l) (h2 : RdS w k m) :
    Calls Tryz.prog 82 #[.agg #[.int .i64 P, v], .agg #[.int .i64 Q, k]] w (PrPost (bothM 0 (P, l) (Q, m)) w) := by
  have HB := Lib.hid (fun W h h' => both_any 0 (.func (.func 135) #[] #[]) (fun va vb a b W h1 h2 c1 c2 b1 b2 l1 l2 => pcomb_Union va vb a b W h1 h2 c1 c2 b1 b2 l1 l2) P Q v k l m W h h')
  have hr1 := h1
  have hr2 := h2
  obtain ⟨a1, d1, rfl⟩ := h1.form
  obtain ⟨a2, d2, rfl⟩ := h2.form
  obtain ⟨W, hWe⟩ : ∃ W, ((w.alloc (.cells #[.int .i64 P, .slice a1 l.length d1] 24)).alloc (.cells #[.int .i64 Q, .slice a2 m.length d2] 24)).alloc (.cells #[.int .i64 0, .slice none 0 0] 24) = W := ⟨_, rfl⟩
  have hW : Below w.heap.size w W := by rw [← hWe]; exact (((Below.refl _ _).alloc (Nat.le_refl _) _).alloc (by simp) _).alloc (by simp; omega) _
  have hWs : W.heap.size = w.heap.size + 1 + 1 + 1 := by rw [← hWe]; simp
  have c0 : W.cell? ⟨w.heap.size, 0, none⟩ = some (.int .i64 P) := by rw [← hWe]; simp [go_sem]
  have c1 : W.cell? ⟨w.heap.size, 1, none⟩ = some (.slice a1 l.length d1) := by rw [← hWe]; simp [go_sem]
  have c2 : W.cell? ⟨w.heap.size + 1, 0, none⟩ = some (.int .i64 Q) := by rw [← hWe]; simp [go_sem]
  have c3 : W.cell? ⟨w.heap.size + 1, 1, none⟩ = some (.slice a2 m.length d2) := by rw [← hWe]; simp [go_sem]
  have hBX : Box2 W (w.heap.size + 1 + 1) (.int .i64 0) (.slice none 0 0) := by
    rw [← hWe]
    refine ⟨⟨?_, ?_⟩, ?_, ?_⟩ <;> simp [go_sem]
  have HE := Lib.hid hWe
  have HR1 := Lib.hid (keepRd hW hr1)
  have HR2 := Lib.hid (keepRd hW hr2)
  have HWS := Lib.hid hWs
  clear hWe h1 h2 hr1 hr2 hWs
  obtain ⟨r, hr⟩ : ∃ r, bothM 0 (P, l) (Q, m) = r := ⟨_, rfl⟩
  rw [hr] at HB ⊢
  clear hr
  go_enter Tryz.func82, Tryz.ntmps82
  go_wp2_with fail
  rw [HE.out]
  go_wp2_with fail
  refine (HB.out _ HR1.out HR2.out).mono ?_
  rintro e w1 ⟨vD, rfl, oD, bD⟩
  obtain ⟨pD, nD, rfl, _⟩ := oD.form
  have hB1 := keepBelow hW bD
  have HBX := Lib.hid (hBX.below bD)
  obtain ⟨⟨z0, z1⟩, f0, f1⟩ := HBX.out
  have OD := Lib.hid oD
  clear bD oD hBX c0 c1 c2 c3
  go_wp2
  change bodyPost _ _ _ _ _ (put2 w1 (w.heap.size + 1 + 1) (.int .i64 r.1.1) (.slice pD r.1.2.length nD))
  obtain ⟨r0, r1⟩ := HBX.out.put (.int .i64 r.1.1) (.slice pD r.1.2.length nD)
  have hBZ := put2_below (.int .i64 r.1.1) (.slice pD r.1.2.length nD) hB1 (b := w.heap.size + 1 + 1) (by omega)
  have hOZ := put2_own (.int .i64 r.1.1) (.slice pD r.1.2.length nD) OD.out (b := w.heap.size + 1 + 1) (by have := HWS.out; omega)
  generalize put2 w1 (w.heap.size + 1 + 1) (.int .i64 r.1.1) (.slice pD r.1.2.length nD) = Z at *
  refine bodyPost_ret (v := .tuple #[.agg #[.int .i64 r.1.1, .slice pD r.1.2.length nD], .int .i64 r.2]) (by simp [results, Tryz.results82, go_sem, r0, r1]) rfl ?_
  exact ⟨_, rfl, hOZ.mono (by have := HWS.out; omega), hBZ⟩
end Go.Proofs.YtnjpceocnldlfaaGreat
namespace Go.Proofs.YtnjpceocnldlfaaGreat
open Go.RowKit Wk

set_option maxRecDepth 100000 in
set_option maxHeartbeats 1000000 in
theorem perop_Meet (P Q : Int) (v k : Value) (l m : List Sp) (w : World) (h1 : RdS w v l) (h2 : RdS w k m) :
    Calls Tryz.prog 101 #[.agg #[.int .i64 P, v], .agg #[.int .i64 Q, k]] w (PrPost (bothM 1 (P, l) (Q, m)) w) := by
  have HB := Lib.hid (fun W h h' => both_any 1 (.func (.func 153) #[] #[]) (fun va vb a b W h1 h2 c1 c2 b1 b2 l1 l2 => pcomb_Meet va vb a b W h1 h2 c1 c2 b1 b2 l1 l2) P Q v k l m W h h')
  have hr1 := h1
  have hr2 := h2
  obtain ⟨a1, d1, rfl⟩ := h1.form
  obtain ⟨a2, d2, rfl⟩ := h2.form
  obtain ⟨W, hWe⟩ : ∃ W, ((w.alloc (.cells #[.int .i64 P, .slice a1 l.length d1] 24)).alloc (.cells #[.int .i64 Q, .slice a2 m.length d2] 24)).alloc (.cells #[.int .i64 0, .slice none 0 0] 24) = W := ⟨_, rfl⟩
  have hW : Below w.heap.size w W := by rw [← hWe]; exact (((Below.refl _ _).alloc (Nat.le_refl _) _).alloc (by simp) _).alloc (by simp; omega) _
  have hWs : W.heap.size = w.heap.size + 1 + 1 + 1 := by rw [← hWe]; simp
  have c0 : W.cell? ⟨w.heap.size, 0, none⟩ = some (.int .i64 P) := by rw [← hWe]; simp [go_sem]
  have c1 : W.cell? ⟨w.heap.size, 1, none⟩ = some (.slice a1 l.length d1) := by rw [← hWe]; simp [go_sem]
  have c2 : W.cell? ⟨w.heap.size + 1, 0, none⟩ = some (.int .i64 Q) := by rw [← hWe]; simp [go_sem]
  have c3 : W.cell? ⟨w.heap.size + 1, 1, none⟩ = some (.slice a2 m.length d2) := by rw [← hWe]; simp [go_sem]
  have hBX : Box2 W (w.heap.size + 1 + 1) (.int .i64 0) (.slice none 0 0) := by
    rw [← hWe]
    refine ⟨⟨?_, ?_⟩, ?_, ?_⟩ <;> simp [go_sem]
  have HE := Lib.hid hWe
  have HR1 := Lib.hid (keepRd hW hr1)
  have HR2 := Lib.hid (keepRd hW hr2)
  have HWS := Lib.hid hWs
  clear hWe h1 h2 hr1 hr2 hWs
  obtain ⟨r, hr⟩ : ∃ r, bothM 1 (P, l) (Q, m) = r := ⟨_, rfl⟩
  rw [hr] at HB ⊢
  clear hr
  go_enter Tryz.func101, Tryz.ntmps101
  go_wp2_with fail
  rw [HE.out]
  go_wp2_with fail
  refine (HB.out _ HR1.out HR2.out).mono ?_
  rintro e w1 ⟨vD, rfl, oD, bD⟩
  obtain ⟨pD, nD, rfl, _⟩ := oD.form
  have hB1 := keepBelow hW bD
  have HBX := Lib.hid (hBX.below bD)
  obtain ⟨⟨z0, z1⟩, f0, f1⟩ := HBX.out
  have OD := Lib.hid oD
  clear bD oD hBX c0 c1 c2 c3
  go_wp2
  change bodyPost _ _ _ _ _ (put2 w1 (w.heap.size + 1 + 1) (.int .i64 r.1.1) (.slice pD r.1.2.length nD))
  obtain ⟨r0, r1⟩ := HBX.out.put (.int .i64 r.1.1) (.slice pD r.1.2.length nD)
  have hBZ := put2_below (.int .i64 r.1.1) (.slice pD r.1.2.length nD) hB1 (b := w.heap.size + 1 + 1) (by omega)
  have hOZ := put2_own (.int .i64 r.1.1) (.slice pD r.1.2.length nD) OD.out (b := w.heap.size + 1 + 1) (by have := HWS.out; omega)
  generalize put2 w1 (w.heap.size + 1 + 1) (.int .i64 r.1.1) (.slice pD r.1.2.length nD) = Z at *
  refine bodyPost_ret (v := .tuple #[.agg #[.int .i64 r.1.1, .slice pD r.1.2.length nD], .int .i64 r.2]) (by simp [results, Tryz.results101, go_sem, r0, r1]) rfl ?_
  exact ⟨_, rfl, hOZ.mono (by have := HWS.out; omega), hBZ⟩
end Go.Proofs.YtnjpceocnldlfaaGreat
