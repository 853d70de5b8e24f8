import Derived.Test.YtlbglinpgjlbkaaGreatDoorWkFd
/- Zone texts: slices.DeleteFunc at rules, the walk; the program's Rules. Printed by gen_fe.py. No conditions. -/
namespace Go.Proofs.YtlbglinpgjlbkaaGreatDoor
open Go.RowKit Wk

theorem fIx_neg {α : Type} {p : α → Bool} {l : List α} (h : fIx p l < 0) : fIx p l = -1 ∧ ∀ x ∈ l, p x = false := by
 unfold fIx at h ⊢
 cases q : l.findIdx? p with
 | none => exact ⟨rfl, List.findIdx?_eq_none_iff.1 q⟩
 | some i => rw [q] at h; exact absurd (show ((i : Nat) : Int) < 0 from h) (by omega)
theorem fIx_spec {α : Type} {p : α → Bool} {l : List α} {i : Nat} (d : α) (h : fIx p l = i) : i < l.length ∧ (∀ j, j < i → p (l.getD j d) = false) ∧ p (l.getD i d) = true := by
 unfold fIx at h
 cases q : l.findIdx? p with
 | none => rw [q] at h; exact absurd (show (-1 : Int) = i from h) (by omega)
 | some k =>
  rw [q] at h
  have hk : k = i := by have : ((k : Nat) : Int) = i := h; omega
  subst hk
  obtain ⟨hi, hp, hb⟩ := List.findIdx?_eq_some_iff_getElem.1 q
  refine ⟨hi, fun j hj => ?_, ?_⟩
  ·have := hb j hj
   rw [List.getD_eq_getElem?_getD, List.getElem?_eq_getElem (by omega)]
   simpa using this
  ·rw [List.getD_eq_getElem?_getD, List.getElem?_eq_getElem hi]
   exact hp
theorem below_setRow {w0 w : World} {g : Nat} (hg : w0.heap.size ≤ g) (h : Below w0.heap.size w0 w) (cs : Array Value) : Below w0.heap.size w0 (w.setRow g cs) := h.trans ⟨rfl, rfl, rfl, by simp [World.setRow], fun k hk => by unfold World.setRow; rw [Array.getElem?_modify, if_neg (by omega)]⟩
theorem zeroCells_ru (n : Nat) : (Builtin.zeroCells (Value.cells (.agg #[.string ⟨#[]⟩, .int .i64 0, .int .i64 0, .int .i64 0, .int .i64 0, .int .i64 0, .int .i64 0, .int .i64 0, .int .i64 0, .int .i64 0, .string ⟨#[]⟩])) n).toList.length = n * 11 ∧ ∀ v ∈ (Builtin.zeroCells (Value.cells (.agg #[.string ⟨#[]⟩, .int .i64 0, .int .i64 0, .int .i64 0, .int .i64 0, .int .i64 0, .int .i64 0, .int .i64 0, .int .i64 0, .int .i64 0, .string ⟨#[]⟩])) n).toList, v.oneCell' = true := by
 refine ⟨by simp [Builtin.zeroCells, Value.cells], fun v hv => ?_⟩
 unfold Builtin.zeroCells at hv
 rw [Array.toList_map] at hv
 obtain ⟨i, _, rfl⟩ := List.mem_map.1 hv
 have hs : (Value.cells (.agg #[.string ⟨#[]⟩, .int .i64 0, .int .i64 0, .int .i64 0, .int .i64 0, .int .i64 0, .int .i64 0, .int .i64 0, .int .i64 0, .int .i64 0, .string ⟨#[]⟩])).size = 11 := rfl
 rw [hs]
 have hm : i % 11 < 11 := Nat.mod_lt _ (by decide)
 generalize i % 11 = m at hm
 rcases (by omega : m = 0 ∨ m = 1 ∨ m = 2 ∨ m = 3 ∨ m = 4 ∨ m = 5 ∨ m = 6 ∨ m = 7 ∨ m = 8 ∨ m = 9 ∨ m = 10) with rfl | rfl | rfl | rfl | rfl | rfl | rfl | rfl | rfl | rfl | rfl <;> rfl
set_option maxRecDepth 100000 in
set_option maxHeartbeats 8000000 in
theorem del_any (v : Value) (L : List RuT) (pb : Nat) (N : ByteArray) (w0 w : World) (ho : OwnG 41 11 flRu w w0.heap.size v L) (hbw : Below w0.heap.size w0 w) (hnb : Blk w pb #[.string N] 9) (hl : L.length ≤ 1000000) :
  Calls Tryz.prog 84 #[v, .func (.func 86) #[] #[.pointer (some ⟨pb, 0, none⟩)]] w fun e w' => ∃ v', e = .returned v' ∧ OwnG 41 11 flRu w' w0.heap.size v' (L.filter fun r => r.nm == bsO N) ∧ Below w0.heap.size w0 w' := by
 have HO := Lib.hid ho
 have HN := Lib.hid hnb
 have HBW := Lib.hid hbw
 have HL := Lib.hid hl
 have HRD := Lib.hid (ho.rd flRu_len (d := ru0) hl)
 have hl2 : (L.length : Int) ≤ 1000000 := by omega
 obtain ⟨k, hk⟩ : ∃ k, fIx (fun x : RuT => !(x.nm == bsO N)) L = k := ⟨_, rfl⟩
 have HIX := Lib.hid (idx_ruleN pb (fun x : RuT => !(x.nm == bsO N)) v L w HRD.out (Lib.hid fun x _ W hW => delClo_any pb N x W (keepCell hW (HN.out.cell (j := 0) rfl))))
 rw [hk] at HIX
 have HK := Lib.hid hk
 clear hk ho hnb hbw hl
 obtain ⟨a, c, rfl⟩ := HO.out.form
 go_enter Tryz.func84, Tryz.ntmps84
 go_upto_region 2 with (first | (go_at_call 147; refine HIX.out.mono ?_; rintro e w1 ⟨rfl, hb1⟩; obtain ⟨W1, hW1⟩ : ∃ W, w1 = W := ⟨_, rfl⟩; rw [hW1] at hb1 ⊢; clear hW1; have HB1 := Lib.hid hb1; clear hb1) | fail)
 by_cases hk0 : k < 0
 ·obtain ⟨hk1, hal⟩ := fIx_neg (by rw [HK.out]; exact hk0)
  rw [HK.out] at hk1
  have HF : Hid (L.filter (fun r => r.nm == bsO N) = L) := Lib.hid (List.filter_eq_self.2 fun x hx => by simpa using hal x hx)
  subst hk1
  clear hk0 hal
  go_wp2_with fail
  go_ret
  exact ⟨_, rfl, by rw [HF.out]; exact HO.out.below HB1.out, keepBelow HBW.out HB1.out⟩
 obtain ⟨i0, hi0, hil⟩ := fIx_nat (by rw [HK.out]; exact hk0)
 rw [HK.out] at hi0
 subst hi0
 obtain ⟨-, hp1, hp2⟩ := fIx_spec ru0 HK.out
 obtain ⟨g, c', e, hgB, hgl⟩ := HO.out.pos (by omega)
 cases e
 have HGB := Lib.hid hgB
 have HFS : Hid (FilI (fun r => r.nm == bsO N) L L i0 (i0 + 1)) := Lib.hid (FilI.start hil (fun j hj => by simpa using hp1 j hj) (by simpa using hp2))
 have HLC : Hid (L.length ≤ c) := Lib.hid (by
  rcases HO.out.2 with ⟨e, _⟩ | ⟨g', cap, cur', e, _, _, hlc, _⟩
  ·cases e
  ·cases e; exact hlc)
 have hne : ((i0 : Int) == -1) = false := by simp
 have hi2 : (i0 : Int) < (L.length : Int) := by omega
 have HO1 := Lib.hid (HO.out.below HB1.out)
 have HN1 := Lib.hid (HN.out.below HB1.out)
 have HBW1 := Lib.hid (keepBelow HBW.out HB1.out)
 clear hk0 hp1 hp2 hgl hgB hil HIX HK HRD HO HN HB1 HBW
 go_wp2_with fail
 go_loopw [5, 6, 7] (fun u5 u6 _ wr => ∃ (i j : Nat) (M : List RuT), u5 = .int .i64 i ∧ u6 = .int .i64 j ∧ Hid (FilI (fun r => r.nm == bsO N) L M i j) ∧ Hid (OwnG 41 11 flRu wr w0.heap.size (.slice (some ⟨g, 0, none⟩) L.length c) M) ∧ Hid (Blk wr pb #[.string N] 9) ∧ Hid (Below w0.heap.size w0 wr)) (fun _ u6 _ _ => L.length - (intOf u6).toNat)
 case atStart => exact ⟨i0, i0 + 1, L, rfl, by simp, HFS, HO1, HN1, HBW1⟩
 case round =>
  clear HFS HO1 HN1 HBW1 hne hi2
  obtain ⟨i, j, M, rfl, rfl, HFI, HOW, HNB, HBR⟩ := hrel
  have hij : i < j ∧ j ≤ L.length := ⟨HFI.out.lt, HFI.out.le⟩
  have hpg : Hid (pb ≠ g) := Lib.hid fun e => HOW.out.apart HNB.out (by decide) (g := g) rfl e.symm
  by_cases hjl : j < L.length
  ·have hjl2 : (j : Int) < (L.length : Int) := by omega
   have hj0 : (0 : Int) ≤ (j : Int) := Int.natCast_nonneg _
   have hMl : M.length = L.length := HFI.out.len
   have HOW' : Hid (OwnG 41 11 flRu wr w0.heap.size (.slice (some ⟨g, 0, none⟩) M.length c) M) := Lib.hid (by rw [hMl]; exact HOW.out)
   obtain ⟨x, hx⟩ : ∃ x, L.getD j ru0 = x := ⟨_, rfl⟩
   have hxM : M.getD j ru0 = x := (HFI.out.rest j (Nat.le_refl _)).trans hx
   have hcx := fun k u (hk : k < 11) hu => (HOW'.out.cell flRu_len ru0 (i := j) (j := k) (u := u) (by omega) hk hu).1
   rw [hxM] at hcx
   have HX := Lib.hid hx
   obtain ⟨q, hq⟩ : ∃ q, (x.nm == bsO N) = q := ⟨_, rfl⟩
   have HDC := Lib.hid (fun W hW => delClo_any pb N x W hW)
   rw [hq] at HDC
   have HQ := Lib.hid hq
   clear hq hx hxM
   obtain ⟨fx, hfx⟩ : ∃ f, flRu x = f := ⟨_, rfl⟩
   have HFX := Lib.hid hfx
   clear hfx
   obtain ⟨nm, fr, to_, mo, ⟨ko, vo, dw⟩, at_, ck, sv, le⟩ := x
   obtain ⟨NM, rfl⟩ := bs_of nm
   obtain ⟨LE, rfl⟩ := bs_of le
   have HDC2 : Hid (∀ W, W.cell? ⟨pb, 0, none⟩ = some (.string N) → Calls Tryz.prog 86 #[.agg #[.string NM, .int .i64 fr, .int .i64 to_, .int .i64 mo, .int .i64 ko, .int .i64 vo, .int .i64 dw, .int .i64 at_, .int .i64 ck, .int .i64 sv, .string LE], .pointer (some ⟨pb, 0, none⟩)] W fun e w' => e = .returned (.bool (!q)) ∧ Below W.heap.size W w') := HDC
   clear HDC
   have e0 : wr.cell? ⟨g, j * 11, none⟩ = some (.string NM) := hcx 0 _ (by decide) rfl
   have e1 : wr.cell? ⟨g, j * 11 + 1, none⟩ = some (.int .i64 fr) := hcx 1 _ (by decide) rfl
   have e2 : wr.cell? ⟨g, j * 11 + 2, none⟩ = some (.int .i64 to_) := hcx 2 _ (by decide) rfl
   have e3 : wr.cell? ⟨g, j * 11 + 3, none⟩ = some (.int .i64 mo) := hcx 3 _ (by decide) rfl
   have e4 : wr.cell? ⟨g, j * 11 + 4, none⟩ = some (.int .i64 ko) := hcx 4 _ (by decide) rfl
   have e5 : wr.cell? ⟨g, j * 11 + 5, none⟩ = some (.int .i64 vo) := hcx 5 _ (by decide) rfl
   have e6 : wr.cell? ⟨g, j * 11 + 6, none⟩ = some (.int .i64 dw) := hcx 6 _ (by decide) rfl
   have e7 : wr.cell? ⟨g, j * 11 + 7, none⟩ = some (.int .i64 at_) := hcx 7 _ (by decide) rfl
   have e8 : wr.cell? ⟨g, j * 11 + 8, none⟩ = some (.int .i64 ck) := hcx 8 _ (by decide) rfl
   have e9 : wr.cell? ⟨g, j * 11 + 9, none⟩ = some (.int .i64 sv) := hcx 9 _ (by decide) rfl
   have e10 : wr.cell? ⟨g, j * 11 + 10, none⟩ = some (.string LE) := hcx 10 _ (by decide) rfl
   clear hcx
   go_upto_region 8 with fail
   obtain ⟨bz, hbz⟩ : ∃ b, wr.heap.size = b := ⟨_, rfl⟩
   obtain ⟨V, hV⟩ : ∃ V, wr.alloc (.cells #[.string NM, .int .i64 fr, .int .i64 to_, .int .i64 mo, .int .i64 ko, .int .i64 vo, .int .i64 dw, .int .i64 at_, .int .i64 ck, .int .i64 sv, .string LE] 41) = V := ⟨_, rfl⟩
   have HVZ : Hid (Blk V bz #[.string NM, .int .i64 fr, .int .i64 to_, .int .i64 mo, .int .i64 ko, .int .i64 vo, .int .i64 dw, .int .i64 at_, .int .i64 ck, .int .i64 sv, .string LE] 41) := Lib.hid (by rw [← hV, ← hbz]; exact Blk.new _ _ _)
   have HBV : Hid (Below wr.heap.size wr V) := Lib.hid (by rw [← hV]; exact (Below.refl _ _).alloc (Nat.le_refl _) _)
   try rw [hV]
   try rw [hbz]
   clear hV hbz e0 e1 e2 e3 e4 e5 e6 e7 e8 e9 e10
   have e0 := HVZ.out.cell (j := 0) rfl
   have e1 := HVZ.out.cell (j := 1) rfl
   have e2 := HVZ.out.cell (j := 2) rfl
   have e3 := HVZ.out.cell (j := 3) rfl
   have e4 := HVZ.out.cell (j := 4) rfl
   have e5 := HVZ.out.cell (j := 5) rfl
   have e6 := HVZ.out.cell (j := 6) rfl
   have e7 := HVZ.out.cell (j := 7) rfl
   have e8 := HVZ.out.cell (j := 8) rfl
   have e9 := HVZ.out.cell (j := 9) rfl
   have e10 := HVZ.out.cell (j := 10) rfl
   go_wp2_with fail
   refine (HDC2.out _ ((HNB.out.below HBV.out).cell (j := 0) rfl)).mono ?_
   rintro e w8 ⟨rfl, hb8⟩
   obtain ⟨W8, hW8⟩ : ∃ W, w8 = W := ⟨_, rfl⟩
   rw [hW8] at hb8 ⊢
   clear hW8 e0 e1 e2 e3 e4 e5 e6 e7 e8 e9 e10
   have HB8 := Lib.hid hb8
   have HB8r := Lib.hid (keepBelow HBV.out hb8)
   clear hb8
   have HO8 := Lib.hid (HOW'.out.below HB8r.out)
   have HN8 := Lib.hid (HNB.out.below HB8r.out)
   have HBR8 := Lib.hid (keepBelow HBR.out HB8r.out)
   cases q with
   | false =>
    go_wp2_with fail
    go_roundw
    case rel => exact ⟨i, j + 1, M, rfl, by go_num, Lib.hid (HFI.out.drop hjl (by rw [HX.out]; exact HQ.out)), Lib.hid (by have := HO8.out; rw [hMl] at this; exact this), HN8, HBR8⟩
    case measure => simp [intOf]; omega
   | true =>
    obtain ⟨y, hy⟩ : ∃ y, M.getD i ru0 = y := ⟨_, rfl⟩
    have hcy := fun k u (hk : k < 11) hu => HO8.out.cell flRu_len ru0 (i := i) (j := k) (u := u) (by omega) hk hu
    rw [hy] at hcy
    clear hy
    obtain ⟨ynm, yfr, yto, ymo, ⟨yko, yvo, ydw⟩, yat, yck, ysv, yle⟩ := y
    obtain ⟨YN, rfl⟩ := bs_of ynm
    obtain ⟨YL, rfl⟩ := bs_of yle
    obtain ⟨y0, z0⟩ : W8.cell? ⟨g, i * 11, none⟩ = some (.string YN) ∧ W8.frozen? ⟨g, i * 11, none⟩ = false := hcy 0 _ (by decide) rfl
    obtain ⟨y1, z1⟩ : W8.cell? ⟨g, i * 11 + 1, none⟩ = some (.int .i64 yfr) ∧ W8.frozen? ⟨g, i * 11 + 1, none⟩ = false := hcy 1 _ (by decide) rfl
    obtain ⟨y2, z2⟩ : W8.cell? ⟨g, i * 11 + 2, none⟩ = some (.int .i64 yto) ∧ W8.frozen? ⟨g, i * 11 + 2, none⟩ = false := hcy 2 _ (by decide) rfl
    obtain ⟨y3, z3⟩ : W8.cell? ⟨g, i * 11 + 3, none⟩ = some (.int .i64 ymo) ∧ W8.frozen? ⟨g, i * 11 + 3, none⟩ = false := hcy 3 _ (by decide) rfl
    obtain ⟨y4, z4⟩ : W8.cell? ⟨g, i * 11 + 4, none⟩ = some (.int .i64 yko) ∧ W8.frozen? ⟨g, i * 11 + 4, none⟩ = false := hcy 4 _ (by decide) rfl
    obtain ⟨y5, z5⟩ : W8.cell? ⟨g, i * 11 + 5, none⟩ = some (.int .i64 yvo) ∧ W8.frozen? ⟨g, i * 11 + 5, none⟩ = false := hcy 5 _ (by decide) rfl
    obtain ⟨y6, z6⟩ : W8.cell? ⟨g, i * 11 + 6, none⟩ = some (.int .i64 ydw) ∧ W8.frozen? ⟨g, i * 11 + 6, none⟩ = false := hcy 6 _ (by decide) rfl
    obtain ⟨y7, z7⟩ : W8.cell? ⟨g, i * 11 + 7, none⟩ = some (.int .i64 yat) ∧ W8.frozen? ⟨g, i * 11 + 7, none⟩ = false := hcy 7 _ (by decide) rfl
    obtain ⟨y8, z8⟩ : W8.cell? ⟨g, i * 11 + 8, none⟩ = some (.int .i64 yck) ∧ W8.frozen? ⟨g, i * 11 + 8, none⟩ = false := hcy 8 _ (by decide) rfl
    obtain ⟨y9, z9⟩ : W8.cell? ⟨g, i * 11 + 9, none⟩ = some (.int .i64 ysv) ∧ W8.frozen? ⟨g, i * 11 + 9, none⟩ = false := hcy 9 _ (by decide) rfl
    obtain ⟨y10, z10⟩ : W8.cell? ⟨g, i * 11 + 10, none⟩ = some (.string YL) ∧ W8.frozen? ⟨g, i * 11 + 10, none⟩ = false := hcy 10 _ (by decide) rfl
    have e0 := (HVZ.out.below HB8.out).cell (j := 0) rfl
    have e1 := (HVZ.out.below HB8.out).cell (j := 1) rfl
    have e2 := (HVZ.out.below HB8.out).cell (j := 2) rfl
    have e3 := (HVZ.out.below HB8.out).cell (j := 3) rfl
    have e4 := (HVZ.out.below HB8.out).cell (j := 4) rfl
    have e5 := (HVZ.out.below HB8.out).cell (j := 5) rfl
    have e6 := (HVZ.out.below HB8.out).cell (j := 6) rfl
    have e7 := (HVZ.out.below HB8.out).cell (j := 7) rfl
    have e8 := (HVZ.out.below HB8.out).cell (j := 8) rfl
    have e9 := (HVZ.out.below HB8.out).cell (j := 9) rfl
    have e10 := (HVZ.out.below HB8.out).cell (j := 10) rfl
    clear hcy
    have hil2 : (i : Int) < (L.length : Int) := by omega
    have hi0' : (0 : Int) ≤ (i : Int) := Int.natCast_nonneg _
    have HXE : Hid (L.getD j ru0 = _) := HX
    go_upto_region 10 with fail
    obtain ⟨V9, hV9⟩ : ∃ V, setsC W8 g (i * 11) (flRu (L.getD j ru0)) = V := ⟨_, rfl⟩
    have HO9 : Hid (OwnG 41 11 flRu V9 w0.heap.size (.slice (some ⟨g, 0, none⟩) L.length c) (M.set i (L.getD j ru0))) := Lib.hid (by rw [← hV9]; have q := HO8.out.setEl flRu_len (by decide) rfl ru0 (i := i) (by omega) (L.getD j ru0); rw [hMl] at q; exact q)
    have HN9 : Hid (Blk V9 pb #[.string N] 9) := Lib.hid (HN8.out.same (by rw [← hV9]; exact sets_far hpg.out _ _ _))
    have HB9 : Hid (Below w0.heap.size w0 V9) := Lib.hid (by rw [← hV9]; exact sets_below HGB.out _ _ _ HBR8.out)
    rw [HXE.out] at hV9
    have hV9' : (((((((((((W8.setCell ⟨g, i * 11, none⟩ (.string NM)).setCell ⟨g, i * 11 + 1, none⟩ (.int .i64 fr)).setCell ⟨g, i * 11 + 2, none⟩ (.int .i64 to_)).setCell ⟨g, i * 11 + 3, none⟩ (.int .i64 mo)).setCell ⟨g, i * 11 + 4, none⟩ (.int .i64 ko)).setCell ⟨g, i * 11 + 5, none⟩ (.int .i64 vo)).setCell ⟨g, i * 11 + 6, none⟩ (.int .i64 dw)).setCell ⟨g, i * 11 + 7, none⟩ (.int .i64 at_)).setCell ⟨g, i * 11 + 8, none⟩ (.int .i64 ck)).setCell ⟨g, i * 11 + 9, none⟩ (.int .i64 sv)).setCell ⟨g, i * 11 + 10, none⟩ (.string LE)) = V9 := hV9
    rw [hV9']
    clear hV9 hV9' e0 y0 z0 e1 y1 z1 e2 y2 z2 e3 y3 z3 e4 y4 z4 e5 y5 z5 e6 y6 z6 e7 y7 z7 e8 y8 z8 e9 y9 z9 e10 y10 z10
    go_wp2_with fail
    go_roundw
    case rel => exact ⟨i + 1, j + 1, _, by go_num, by go_num, Lib.hid (HFI.out.keep hjl (by rw [HX.out]; exact HQ.out)), HO9, HN9, HB9⟩
    case measure => simp [intOf]; omega
  ·obtain ⟨hfin, hfl⟩ := HFI.out.fin (by omega)
   have hjn : ¬(j : Int) < (L.length : Int) := by omega
   have hil : (i : Int) ≤ (L.length : Int) := by omega
   have hic : (i : Int) ≤ (c : Int) := by have := HLC.out; omega
   have hlc : (L.length : Int) ≤ (c : Int) := by have := HLC.out; omega
   have HFIN := Lib.hid hfin
   have HFL := Lib.hid hfl
   clear hfin hfl
   obtain ⟨cur, hcur, hcs⟩ : ∃ cur : Array Value, wr.heap[g]? = some (.cells cur 41 (0, 0)) ∧ cur.size = c * 11 := by
    have hh : OwnG 41 11 flRu wr w0.heap.size (.slice (some ⟨g, 0, none⟩) M.length c) M := by rw [HFI.out.len]; exact HOW.out
    rcases hh.2 with ⟨e, _⟩ | ⟨g', cap, cur, e, _, hg, _, _, hcs, _⟩
    ·cases e
    ·cases e; exact ⟨cur, hg, hcs⟩
   obtain ⟨hz1, hz2⟩ := zeroCells_ru (L.length - i)
   obtain ⟨V, hV⟩ : ∃ V, wr.setRow g (cur.toList.take (i * 11) ++ (Builtin.zeroCells (Value.cells (.agg #[.string ⟨#[]⟩, .int .i64 0, .int .i64 0, .int .i64 0, .int .i64 0, .int .i64 0, .int .i64 0, .int .i64 0, .int .i64 0, .int .i64 0, .string ⟨#[]⟩])) (L.length - i)).toList ++ cur.toList.drop (i * 11 + (Builtin.zeroCells (Value.cells (.agg #[.string ⟨#[]⟩, .int .i64 0, .int .i64 0, .int .i64 0, .int .i64 0, .int .i64 0, .int .i64 0, .int .i64 0, .int .i64 0, .int .i64 0, .string ⟨#[]⟩])) (L.length - i)).toList.length)).toArray = V := ⟨_, rfl⟩
   have HCLR : Hid (∀ ty, (Builtin.clear_ #[23] ty #[.slice (some ⟨g, i * 11, none⟩) (L.length - i) (c - i)]).run Tryz.prog wr = .ok (.tuple #[]) V) := Lib.hid fun ty => by
    rw [← hV]
    exact run_clear_row wr 23 41 ty 41 _ Tryz.underlying23 Tryz.zeroValue41 g (i * 11) (L.length - i) (c - i) cur hcur hz2 (by rw [hz1, hcs]; omega) (by have := HFL.out; omega)
   have HFR : Hid (OwnG 41 11 flRu V w0.heap.size (.slice (some ⟨g, 0, none⟩) i c) (M.take i)) := Lib.hid (HOW.out.front flRu_len HFI.out.len (i := i) (by omega) hcur (ys := (Builtin.zeroCells (Value.cells (.agg #[.string ⟨#[]⟩, .int .i64 0, .int .i64 0, .int .i64 0, .int .i64 0, .int .i64 0, .int .i64 0, .int .i64 0, .int .i64 0, .int .i64 0, .string ⟨#[]⟩])) (L.length - i)).toList) (by rw [hz1, Nat.sub_mul]) (by rw [← hV]; exact setRow_heap _ _ _ _ _ _ hcur))
   have HBV : Hid (Below w0.heap.size w0 V) := Lib.hid (by rw [← hV]; exact below_setRow HGB.out HBR.out _)
   clear hV hcur hcs hz1 hz2
   go_wp2_with fail
   rw [HCLR.out]
   go_wp2_with fail
   go_ret
   exact ⟨_, rfl, by rw [← HFIN.out]; exact HFR.out, HBV.out⟩
end Go.Proofs.YtlbglinpgjlbkaaGreatDoor
