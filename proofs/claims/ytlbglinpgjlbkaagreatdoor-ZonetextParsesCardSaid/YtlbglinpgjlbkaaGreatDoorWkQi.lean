import Derived.Test.YtlbglinpgjlbkaaGreatDoorWkQh
import Derived.Deep.AppendLies
import Derived.Deep.RegionLaw
/- Zone texts: the reference's Lines. Printed by gen_x3.py. -/
namespace Go.Proofs.YtlbglinpgjlbkaaGreatDoor
open Go.RowKit Wk

theorem wp_app_G {α : Type} {P : Program} {o : Oper} {a : Act} {K : Act → World → Prop} {Q : Exit → Act → World → Prop} {B : Nat} {w0 W : World} {T TS : TypeId} {sz : Nat} {fl : α → List Value} (hf : ∀ x, (fl x).length = sz) (h0 : 0 < sz)
  (hTS : P.underlying TS = some (.slice T)) {zv : Value} {by_ : Nat} (hinfo : (P.info? T).map (fun i => (i.zero, i.size, i.bytes)) = some (some zv, sz, by_)) (hzv : zv.cells.size = sz) (hby : by_ ≤ 1000)
  {v : Value} {L : List α} {z : α} (s x : Operand)
  (ho : o.op = .call { callee := .builtin .append, args := #[s, x], argTypes := #[TS, TS] }) (hs : a.eval s = v) (hown : OwnG T sz fl W B v L) (hbB : w0.heap.size ≤ B) (hBW : B ≤ W.heap.size) (hbw : Below w0.heap.size w0 W) (hone : ∀ u ∈ fl z, u.oneCell' = true)
  {n : Nat} (hx : a.eval x = .slice (some ⟨n, 0, none⟩) 1 1) (hn : n = W.heap.size) (hlen : L.length < 1000000) {cs : Array Value} (hcs : cs = (fl z).toArray)
  (h : ∀ v' w', OwnG T sz fl w' B v' (L ++ [z]) → Below w0.heap.size w0 w' → (∀ b, b < W.heap.size → v.ownBlock ≠ some b → w'.heap[b]? = W.heap[b]?) → W.heap.size ≤ w'.heap.size → K (a.put o.dst v') w') : o.wp P a (W.alloc (.cells cs T)) K Q := by
 subst hn
 subst hcs
 obtain ⟨i0, hi, hz0, hz1, hz2⟩ := info_parts hinfo
 have hl := hf z
 refine wp_append_lies _ s x TS ho B T i0 zv sz by_ hTS hi hz0 hz1 hz2 hzv h0 v L.length (flatG fl L) hs (World.ownsRow.alloc hown _) ⟨W.heap.size, 0, none⟩ 1 1 (fl z) hx (by rw [hl, Nat.one_mul]) ?_ hone (by decide) (by unfold maxLen; omega) ?_ (by simp; omega) _ rfl ?_
 ·intro j u hu
  rw [WideShapes.add_plain]
  simp only [Nat.zero_add]
  rw [World.cell?_alloc_new]
  simpa using hu
 ·have : (L.length + 1) * by_ ≤ 1000001 * 1000 := Nat.mul_le_mul (by omega) hby
  omega
 ·intro g cap w' hown' hg _ _
  have hkeep : ∀ b, b < W.heap.size → v.ownBlock ≠ some b → w'.heap[b]? = W.heap[b]? := fun b hb hne => by
   rw [hg.block b (by simp; omega) (fun e => hne e.symm)]
   exact heap_alloc_old W _ hb
  have hbw' : Below w0.heap.size w0 w' := (hbw.alloc (by omega) _).grown hg (by simp; omega) (fun k hk => by have := (World.ownsRow.lt hown k hk).1; omega)
  refine h _ w' ?_ hbw' hkeep ?_
  ·unfold OwnG
   rw [flatG_append]
   simpa [flatG] using hown'
  ·have := hg.size
   simp at this
   omega
theorem step_app_G {α : Type} {P : Program} {ops : Array Oper} {o : Oper} {a : Act} {K : Act → World → Prop} {Q : Exit → Act → World → Prop} {E : Prop} {B : Nat} {w0 W : World} {T TS : TypeId} {sz : Nat} {fl : α → List Value} (hf : ∀ x, (fl x).length = sz) (h0 : 0 < sz)
  (hTS : P.underlying TS = some (.slice T)) {zv : Value} {by_ : Nat} (hinfo : (P.info? T).map (fun i => (i.zero, i.size, i.bytes)) = some (some zv, sz, by_)) (hzv : zv.cells.size = sz) (hby : by_ ≤ 1000)
  {v : Value} {L : List α} {z : α} (hgd : o.guard = none) (s x : Operand)
  (ho : o.op = .call { callee := .builtin .append, args := #[s, x], argTypes := #[TS, TS] }) (hs : a.eval s = v) (hown : OwnG T sz fl W B v L) (hbB : w0.heap.size ≤ B) (hBW : B ≤ W.heap.size) (hbw : Below w0.heap.size w0 W) (hone : ∀ u ∈ fl z, u.oneCell' = true)
  {n : Nat} (hx : a.eval x = .slice (some ⟨n, 0, none⟩) 1 1) (hn : n = W.heap.size) (hlen : L.length < 1000000) {cs : Array Value} (hcs : cs = (fl z).toArray)
  (h : ∀ v' w', OwnG T sz fl w' B v' (L ++ [z]) → Below w0.heap.size w0 w' → (∀ b, b < W.heap.size → v.ownBlock ≠ some b → w'.heap[b]? = W.heap[b]?) → W.heap.size ≤ w'.heap.size → K (a.put o.dst v') w') :
  if Region.wanted o (yielded ops a.tmps) = true then Oper.wp P o a (W.alloc (.cells cs T)) K Q else E := by
 have hw : Region.wanted o (yielded ops a.tmps) = true := by simp [Region.wanted, hgd]
 rw [if_pos hw]
 exact wp_app_G hf h0 hTS hinfo hzv hby s x ho hs hown hbB hBW hbw hone hx hn hlen hcs h

def Blk (w : World) (b : Nat) (cs : Array Value) (T : TypeId) : Prop := w.heap[b]? = some (.cells cs T (0, 0))
theorem Blk.cell {w : World} {b j : Nat} {cs : Array Value} {T : TypeId} {u : Value} (h : Blk w b cs T) (hu : cs[j]? = some u) : w.cell? ⟨b, j, none⟩ = some u := by
 rw [cell_of_row w b j cs T (0, 0) h]; exact hu
theorem Blk.frz {w : World} {b : Nat} {cs : Array Value} {T : TypeId} (h : Blk w b cs T) (j : Nat) : w.frozen? ⟨b, j, none⟩ = false := frozen_of_row w b j cs T h
theorem Blk.lt {w : World} {b : Nat} {cs : Array Value} {T : TypeId} (h : Blk w b cs T) : b < w.heap.size := (Array.getElem?_eq_some_iff.1 h).1
theorem Blk.below {w w' : World} {b : Nat} {cs : Array Value} {T : TypeId} (h : Blk w b cs T) (hb : Below w.heap.size w w') : Blk w' b cs T := (hb.block b h.lt).trans h
theorem Blk.same {w w' : World} {b : Nat} {cs : Array Value} {T : TypeId} (h : Blk w b cs T) (hb : w'.heap[b]? = w.heap[b]?) : Blk w' b cs T := hb.trans h
theorem Blk.set {w : World} {b j : Nat} {cs : Array Value} {T : TypeId} (h : Blk w b cs T) (u : Value) : Blk (w.setCell ⟨b, j, none⟩ u) b (cs.setIfInBounds j u) T := heap_setCell_same w b j cs T u h
theorem Blk.far {w : World} {b j b' : Nat} {cs : Array Value} {T : TypeId} (h : Blk w b cs T) (hn : b ≠ b') (u : Value) : Blk (w.setCell ⟨b', j, none⟩ u) b cs T := (Below.heap_setCell _ _ _ _ hn).trans h
theorem Blk.new (w : World) (cs : Array Value) (T : TypeId) : Blk (w.alloc (.cells cs T)) w.heap.size cs T := heap_alloc_new w _
theorem set_far {w : World} {b j g : Nat} {u : Value} (h : g ≠ b) : (w.setCell ⟨b, j, none⟩ u).heap[g]? = w.heap[g]? := Below.heap_setCell _ _ _ _ h

structure RlI (s : Bs) (i ln col : Nat) (st : LxS) (out : List (List Tok)) : Prop where
 eq : rlS s 1 1 ⟨false, false, []⟩ [] = rlS (s.drop i) ln col st out
 ol : out.length ≤ i
 len : st.ws.length ≤ i
 tx : ∀ t ∈ st.ws, t.tx.length ≤ i
 op : st.op = true → st.ws ≠ []
 ln' : ln ≤ i + 1
 col' : col ≤ i + 1
theorem RlI.start (s : Bs) : RlI s 0 1 1 ⟨false, false, []⟩ [] := ⟨rfl, Nat.le_refl _, Nat.le_refl _, fun t h => by simp at h, fun h => (by cases h), by decide, by decide⟩
theorem RlI.nl {s : Bs} {i ln col : Nat} {st : LxS} {out : List (List Tok)} (h : RlI s i ln col st out) {hi : i < s.length} (hc : s[i] = 10) : RlI s (i + 1) (ln + 1) 1 ⟨false, false, []⟩ (outC st.ws out) := by
 refine ⟨?_, ?_, by simp, fun t h => by simp at h, fun h => (by cases h), by have := h.ln'; omega, by omega⟩
 ·rw [h.eq, List.drop_eq_getElem_cons hi, rlS, if_pos (by rw [hc]; rfl)]
 ·have := h.ol
  unfold outC
  split <;> (try simp only [List.length_append, List.length_singleton]) <;> omega
theorem RlI.step {s : Bs} {i ln col : Nat} {st : LxS} {out : List (List Tok)} (h : RlI s i ln col st out) {hi : i < s.length} (hc : ¬s[i] = 10) (hb : badC s[i] = false) : rlS s 1 1 ⟨false, false, []⟩ [] = rlS (s.drop (i + 1)) ln (col + 1) (lxStep ln col st s[i]) out := by
 rw [h.eq, List.drop_eq_getElem_cons hi, rlS, if_neg (by simpa using hc), if_neg (by rw [hb]; simp)]
theorem RlI.bad {s : Bs} {i ln col : Nat} {st : LxS} {out : List (List Tok)} (h : RlI s i ln col st out) {hi : i < s.length} (hc : ¬s[i] = 10) (hb : badC s[i] = true) : rlS s 1 1 ⟨false, false, []⟩ [] = .inr (ln, col) := by
 rw [h.eq, List.drop_eq_getElem_cons hi, rlS, if_neg (by simpa using hc), if_pos hb]
theorem RlI.fin {s : Bs} {i ln col : Nat} {st : LxS} {out : List (List Tok)} (h : RlI s i ln col st out) (hi : i = s.length) : rlS s 1 1 ⟨false, false, []⟩ [] = .inl (outC st.ws out) := by
 rw [h.eq, hi, List.drop_length, rlS]
theorem RlI.skip {s : Bs} {i ln col : Nat} {st : LxS} {out : List (List Tok)} {cm' : Bool} (h : RlI s i ln col st out) {hi : i < s.length} (hc : ¬s[i] = 10) (hb : badC s[i] = false) (hcm : (st.cm || s[i] == 35) = cm') (hs : (cm' || blkC s[i]) = true) : RlI s (i + 1) ln (col + 1) ⟨cm', false, st.ws⟩ out := by
 subst hcm
 refine ⟨?_, Nat.le_succ_of_le h.ol, Nat.le_succ_of_le h.len, fun t ht => Nat.le_succ_of_le (h.tx t ht), fun q => (by cases q), by have := h.ln'; omega, by have := h.col'; omega⟩
 rw [h.step hc hb]
 unfold lxStep
 rw [if_pos hs]
theorem RlI.more {s : Bs} {i ln col : Nat} {st : LxS} {out : List (List Tok)} (h : RlI s i ln col st out) {hi : i < s.length} (hc : ¬s[i] = 10) (hb : badC s[i] = false) (hs : (st.cm || s[i] == 35 || blkC s[i]) = false) (ho : st.op = true) {t : Tok} (ht : st.ws.getD (st.ws.length - 1) tok0 = t) : RlI s (i + 1) ln (col + 1) ⟨false, true, st.ws.set (st.ws.length - 1) { t with tx := t.tx ++ [s[i]] }⟩ out := by
 have hne := h.op ho
 have hpos : 0 < st.ws.length := List.length_pos_iff.2 hne
 have hmem : t ∈ st.ws := by
  rw [← ht, List.getD_eq_getElem?_getD, List.getElem?_eq_getElem (by omega)]
  exact List.getElem_mem _
 refine ⟨?_, Nat.le_succ_of_le h.ol, by rw [List.length_set]; exact Nat.le_succ_of_le h.len, fun u hu => ?_, fun _ => by intro q; exact hne (by simpa using q), by have := h.ln'; omega, by have := h.col'; omega⟩
 ·rw [h.step hc hb]
  unfold lxStep
  rw [if_neg (by rw [hs]; simp), if_pos ho, moreT_set _ _ hne, ht]
 ·rcases List.mem_or_eq_of_mem_set hu with q | rfl
  ·exact Nat.le_succ_of_le (h.tx u q)
  ·have := h.tx t hmem
   simp
   omega
theorem RlI.new {s : Bs} {i ln col : Nat} {st : LxS} {out : List (List Tok)} (h : RlI s i ln col st out) {hi : i < s.length} (hc : ¬s[i] = 10) (hb : badC s[i] = false) (hs : (st.cm || s[i] == 35 || blkC s[i]) = false) (ho : st.op = false) : RlI s (i + 1) ln (col + 1) ⟨false, true, st.ws ++ [⟨[s[i]], ln, col⟩]⟩ out := by
 refine ⟨?_, Nat.le_succ_of_le h.ol, by simp; exact h.len, fun u hu => ?_, fun _ => by simp, by have := h.ln'; omega, by have := h.col'; omega⟩
 ·rw [h.step hc hb]
  unfold lxStep
  rw [if_neg (by rw [hs]; simp), if_neg (by rw [ho]; simp)]
 ·rcases List.mem_append.1 hu with q | q
  ·exact Nat.le_succ_of_le (h.tx u q)
  ·rw [List.mem_singleton] at q
   rw [q]
   simp
theorem linesR_in {s : Bs} {out : List (List Tok)} (hs : ¬65536 < s.length) (h : rlS s 1 1 ⟨false, false, []⟩ [] = .inl out) : linesM s = (out, (0, 0), 0) := by
 rw [rl_lines, if_neg hs, h]
theorem linesR_out {s : Bs} {p : Nat × Nat} (hs : ¬65536 < s.length) (h : rlS s 1 1 ⟨false, false, []⟩ [] = .inr p) : linesM s = ([], p, 3) := by
 rw [rl_lines, if_neg hs, h]

set_option maxRecDepth 100000 in
set_option maxHeartbeats 8000000 in
theorem lines18_any (s : ByteArray) (w : World) :
  Calls Tryz.prog 52 #[.string s] w (LinP (bsO s) w) := by
 go_enter Tryz.func52, Tryz.ntmps52
 by_cases h1 : (65536 : Int) < s.size
 ·have hm : linesM (bsO s) = ([], (0, 0), 5) := by
   unfold linesM
   rw [if_pos (by rw [bs_len]; omega)]
  have HM := Lib.hid hm
  clear hm
  have r0 : (w.alloc (.cells #[.int .i64 0, .int .i64 0] 29)).cell? ⟨w.heap.size, 0, none⟩ = some (.int .i64 0) := by simp [go_sem]
  have r1 : (w.alloc (.cells #[.int .i64 0, .int .i64 0] 29)).cell? ⟨w.heap.size, 1, none⟩ = some (.int .i64 0) := by simp [go_sem]
  go_wp2_with fail
  refine bodyPost_ret (v := .tuple #[.slice none 0 0, .agg #[.int .i64 0, .int .i64 0], .int .i64 5]) (by simp [results, Tryz.results52, go_sem, r0, r1]) rfl ?_
  exact lin_done HM.out (OwnGG.nil _ _) ((Below.refl _ w).alloc (Nat.le_refl _) _) rfl rfl rfl
 have hL : ¬65536 < (bsO s).length := by rw [bs_len]; omega
 have HL := Lib.hid hL
 have hsz : (s.size : Int) ≤ 65536 := by omega
 clear hL
 obtain ⟨b3, hb3⟩ : ∃ b3, w.heap.size = b3 := ⟨_, rfl⟩
 go_upto_region 6 with fail
 obtain ⟨X, hX⟩ : ∃ X, (w.alloc (Obj.cells #[Value.int IntKind.i64 0, Value.int IntKind.i64 0] 29)).alloc (Obj.cells #[Value.int IntKind.i64 1, Value.int IntKind.i64 1] 29) = X := ⟨_, rfl⟩
 rw [hX]
 have HBX : Hid (Below w.heap.size w X) := by unfold Hid; rw [← hX]; exact ((Below.refl _ w).alloc (Nat.le_refl _) _).alloc (by simp) _
 have HXS : Hid (X.heap.size = b3 + 2) := by unfold Hid; rw [← hX, ← hb3]; simp
 have HC3 : Hid (Blk X b3 #[.int .i64 0, .int .i64 0] 29 ∧ Blk X (b3 + 1) #[.int .i64 1, .int .i64 1] 29) := by
  unfold Hid
  rw [← hX]
  constructor
  ·have := Blk.new w #[.int .i64 0, .int .i64 0] 29
   rw [hb3] at this
   exact (heap_alloc_old _ _ (by simp; omega)).trans this
  ·have := Blk.new (w.alloc (Obj.cells #[Value.int IntKind.i64 0, Value.int IntKind.i64 0] 29)) #[.int .i64 1, .int .i64 1] 29
   simp only [World.size_alloc] at this
   rw [hb3] at this
   exact this
 obtain ⟨b7, hb7⟩ : ∃ b7, b3 + 1 = b7 := ⟨_, rfl⟩
 rw [hb7] at HC3 ⊢
 have HBB : Hid (w.heap.size ≤ b3 ∧ b3 < b7 ∧ b7 < b3 + 2) := Lib.hid (by omega)
 have hb37 : b3 ≠ b7 := by omega
 have hb73 : b7 ≠ b3 := by omega
 clear hX hb7 hb3
 go_wp2_with fail
 go_loopw [5, 6, 8, 9, 10, 11] (fun u5 u6 u8 u9 u10 _ wr => ∃ (i ln col : Nat) (st : LxS) (out : List (List Tok)) (W0 : World), u10 = .int .i64 i ∧ i ≤ s.size ∧ u8 = .bool st.cm ∧ u9 = .bool st.op ∧ OwnLn W0 (b3 + 2) u5 out ∧ Hid (∀ g, b3 + 2 ≤ g → g < W0.heap.size → wr.heap[g]? = W0.heap[g]?) ∧ OwnTk wr W0.heap.size u6 st.ws ∧ Hid (b3 + 2 ≤ W0.heap.size ∧ W0.heap.size ≤ wr.heap.size) ∧ Hid (Blk wr b3 #[.int .i64 0, .int .i64 0] 29) ∧ Hid (Blk wr b7 #[.int .i64 ln, .int .i64 col] 29) ∧ Hid (RlI (bsO s) i ln col st out) ∧ Hid (Below w.heap.size w wr)) (fun _ _ _ _ u _ _ => s.size - (intOf u).toNat)
 case atStart => exact ⟨0, 1, 1, ⟨false, false, []⟩, [], X, rfl, Nat.zero_le _, rfl, rfl, OwnGG.nil _ _, fun g _ _ => rfl, OwnG.nil _ _, ⟨by rw [HXS.out]; exact Nat.le_refl _, Nat.le_refl _⟩, HC3.out.1, HC3.out.2, RlI.start _, HBX.out⟩
 case round =>
  obtain ⟨i, ln, col, st, out, W0, rfl, hi, rfl, rfl, ho, HK, htk, HSZ, HB3, HB7, HI, HBW⟩ := hrel
  obtain ⟨cm, op, ws⟩ := st
  simp only at htk HI ⊢
  have HO := Lib.hid ho
  have HTK := Lib.hid htk
  obtain ⟨a5, c5, rfl⟩ := ho.form
  obtain ⟨a6, c6, rfl⟩ := htk.form
  have p0 : wr.cell? ⟨b7, 0, none⟩ = some (.int .i64 ln) := HB7.out.cell rfl
  have p1 : wr.cell? ⟨b7, 1, none⟩ = some (.int .i64 col) := HB7.out.cell rfl
  have q0 := HB7.out.frz 0
  have q1 := HB7.out.frz 1
  clear ho htk
  by_cases hlt : i < s.size
  ·have hkl : i < (bsO s).length := by rw [bs_len]; exact hlt
   have HXK : Hid ((bsO s)[i] = s[i]) := bs_at s i hlt
   have hib : (i : Int) ≤ 65536 := by omega
   have hlb : (ln : Int) ≤ 65537 := by have := HI.out.ln'; omega
   have hcb : (col : Int) ≤ 65537 := by have := HI.out.col'; omega
   have hn : ∀ n : Nat, n < 256 → ((s[i].toNat : Int) = (n : Int) ↔ s[i] = UInt8.ofNat n) := fun n h => toNat_ne h
   by_cases e10 : (s[i].toNat : Int) = 10
   ·have x10 : (bsO s)[i] = 10 := by rw [HXK.out]; exact (hn 10 (by omega)).1 e10
    have HN := Lib.hid (HI.out.nl x10)
    have g10 : ((s[i].toNat : Int) == 10) = true := by rw [e10]; rfl
    have HOw : Hid (OwnLn wr (b3 + 2) (.slice a5 out.length c5) out) := Lib.hid (HO.out.mid fun g h1 h2 => HK.out g h1 h2)
    clear hn e10 x10
    by_cases hz : ws = []
    ·have hz0 : ¬0 < ws.length := by rw [hz]; simp
     rw [show outC (LxS.mk cm op ws).ws out = out from if_pos hz] at HN
     clear hz
     go_wp2_with fail
     go_roundw
     case rel =>
      refine ⟨i + 1, ln + 1, 1, ⟨false, false, []⟩, out, (wr.setCell ⟨b7, 0, none⟩ (.int .i64 ((ln : Int) + 1))).setCell ⟨b7, 1, none⟩ (.int .i64 1), by go_num, by omega, rfl, rfl, ?_, fun g _ _ => rfl, OwnG.nil _ _, ?_, ?_, ?_, HN, ?_⟩
      ·exact HOw.out.high fun g hg => (set_far (by have := HBB.out; omega)).trans (set_far (by have := HBB.out; omega))
      ·exact ⟨by have := HSZ.out; simp; omega, Nat.le_refl _⟩
      ·exact (HB3.out.far hb37 _).far hb37 _
      ·exact (HB7.out.set _).set _
      ·exact (HBW.out.setCell (p := ⟨b7, 0, none⟩) (by have := HBB.out; show w.heap.size ≤ b7; omega) _).setCell (p := ⟨b7, 1, none⟩) (by have := HBB.out; show w.heap.size ≤ b7; omega) _
     case measure => simp [intOf]; omega
    ·have hz0 : 0 < ws.length := List.length_pos_iff.2 hz
     rw [show outC (LxS.mk cm op ws).ws out = out ++ [ws] from if_neg hz] at HN
     have HLL : Hid (out.length < 1000000) := Lib.hid (by have := HI.out.ol; omega)
     have HBS : Hid (b3 + 2 ≤ wr.heap.size) := Lib.hid (by have := HSZ.out; omega)
     clear hz
     go_upto_region 14 with fail
     go_wp2_with (at_builtin; refine wpList_app_GG (L := ws) (xv := .slice a6 ws.length c6) (w0 := w) (B := b3 + 2) (by decide) Tryz.underlying74 Tryz.infoToks rfl (.tmp 31) (.tmp 33) rfl rfl HOw.out (HTK.out.mono HSZ.out.1) (by have := HBB.out; omega) HBS.out HBW.out rfl rfl HLL.out rfl ?_; intro v2 V2 o2 b2 k2 z2; have j7 := Blk.same HB7.out (k2 b7 HB7.out.lt (fun e => by have := (OwnGG.lt HOw.out b7 e).1; have := HBB.out; omega)); have j3 := Lib.hid (Blk.same HB3.out (k2 b3 HB3.out.lt (fun e => by have := (OwnGG.lt HOw.out b3 e).1; have := HBB.out; omega))); have p0 := Blk.cell (j := 0) j7 rfl; have p1 := Blk.cell (j := 1) j7 rfl; have q0 := Blk.frz j7 0; have q1 := Blk.frz j7 1; have o2 := Lib.hid o2; have b2 := Lib.hid b2; have j7 := Lib.hid j7; have z2 := Lib.hid z2; clear k2)
     go_roundw
     case rel =>
      refine ⟨i + 1, ln + 1, 1, ⟨false, false, []⟩, out ++ [ws], (V2.setCell ⟨b7, 0, none⟩ (.int .i64 ((ln : Int) + 1))).setCell ⟨b7, 1, none⟩ (.int .i64 1), by go_num, by omega, rfl, rfl, ?_, fun g _ _ => rfl, OwnG.nil _ _, ?_, ?_, ?_, HN, ?_⟩
      ·exact o2.out.high fun g hg => (set_far (by have := HBB.out; omega)).trans (set_far (by have := HBB.out; omega))
      ·exact ⟨by have := HBS.out; have := z2.out; simp; omega, Nat.le_refl _⟩
      ·exact (j3.out.far hb37 _).far hb37 _
      ·exact (j7.out.set _).set _
      ·exact (b2.out.setCell (p := ⟨b7, 0, none⟩) (by have := HBB.out; show w.heap.size ≤ b7; omega) _).setCell (p := ⟨b7, 1, none⟩) (by have := HBB.out; show w.heap.size ≤ b7; omega) _
     case measure => simp [intOf]; omega
   ·have x10 : ¬(bsO s)[i] = 10 := by rw [HXK.out]; exact fun q => e10 ((hn 10 (by omega)).2 q)
    have HX10 := Lib.hid x10
    have g10 : ((s[i].toNat : Int) == 10) = false := by simpa using e10
    clear e10 x10
    cases hb : badC s[i] with
    | true =>
     have HBAD : Hid (linesM (bsO s) = ([], (ln, col), 3)) := Lib.hid (linesR_out HL.out (HI.out.bad HX10.out (by rw [HXK.out]; exact hb)))
     have hbr := bad_ref s[i]
     rw [hb, Bool.and_eq_true, Bool.and_eq_true, Bool.or_eq_true, decide_eq_true_eq, decide_eq_true_eq] at hbr
     obtain ⟨⟨y32, y9⟩, yr⟩ := hbr
     have g32 : ((s[i].toNat : Int) != 32) = true := by
      have y : s[i] ≠ 32 := by simpa using y32
      have : ¬(s[i].toNat : Int) = 32 := fun q => y ((hn 32 (by omega)).1 q)
      simpa using this
     have g9 : ((s[i].toNat : Int) != 9) = true := by
      have y : s[i] ≠ 9 := by simpa using y9
      have : ¬(s[i].toNat : Int) = 9 := fun q => y ((hn 9 (by omega)).1 q)
      simpa using this
     have HG : Hid (s[i].toNat < 33 ∨ 126 < s[i].toNat) := Lib.hid yr
     have c0 : wr.cell? ⟨b3, 0, none⟩ = some (.int .i64 0) := HB3.out.cell rfl
     have c1 : wr.cell? ⟨b3, 1, none⟩ = some (.int .i64 0) := HB3.out.cell rfl
     have f0 := HB3.out.frz 0
     have f1 := HB3.out.frz 1
     clear hb hn y32 y9 yr
     obtain ⟨Z, hZ⟩ : ∃ Z, (wr.setCell ⟨b3, 0, none⟩ (.int .i64 (ln : Int))).setCell ⟨b3, 1, none⟩ (.int .i64 (col : Int)) = Z := ⟨_, rfl⟩
     have r0 : Z.drew.cell? ⟨b3, 0, none⟩ = some (.int .i64 (ln : Int)) := by rw [← hZ]; simp [go_sem, c0]
     have r1 : Z.drew.cell? ⟨b3, 1, none⟩ = some (.int .i64 (col : Int)) := by rw [← hZ]; simp [go_sem, c1]
     have HBZ : Hid (Below w.heap.size w Z.drew) := by
      unfold Hid
      rw [← hZ]
      exact ((HBW.out.setCell (p := ⟨b3, 0, none⟩) HBB.out.1 _).setCell (p := ⟨b3, 1, none⟩) HBB.out.1 _).drew
     by_cases g33 : (s[i].toNat : Int) < 33
     ·go_upto_region 20 with fail
      go_region
      all_goals go_wp2_with fail
      all_goals refine bodyPost_ret (v := .tuple #[.slice none 0 0, .agg #[.int .i64 (ln : Int), .int .i64 (col : Int)], .int .i64 3]) (by simp [results, Tryz.results52, go_sem, r0, r1]) rfl ?_
      all_goals exact lin_done HBAD.out (OwnGG.nil _ _) HBZ.out rfl rfl rfl
     ·have g126 : 126 < (s[i].toNat : Int) := by have := HG.out; omega
      go_upto_region 20 with fail
      go_region
      all_goals go_wp2_with fail
      all_goals refine bodyPost_ret (v := .tuple #[.slice none 0 0, .agg #[.int .i64 (ln : Int), .int .i64 (col : Int)], .int .i64 3]) (by simp [results, Tryz.results52, go_sem, r0, r1]) rfl ?_
      all_goals exact lin_done HBAD.out (OwnGG.nil _ _) HBZ.out rfl rfl rfl
    | false =>
     have HBF : Hid (badC (bsO s)[i] = false) := Lib.hid (by rw [HXK.out]; exact hb)
     have HSTEP : Hid (∀ (V : World), V = wr.setCell ⟨b7, 1, none⟩ (.int .i64 ((col : Int) + 1)) → Hid (∀ g, b3 + 2 ≤ g → g < W0.heap.size → V.heap[g]? = W0.heap[g]?) ∧ OwnTk V W0.heap.size (.slice a6 ws.length c6) ws ∧ Hid (b3 + 2 ≤ W0.heap.size ∧ W0.heap.size ≤ V.heap.size) ∧ Hid (Blk V b3 #[.int .i64 0, .int .i64 0] 29) ∧ Hid (Blk V b7 #[.int .i64 ln, .int .i64 ((col + 1 : Nat) : Int)] 29) ∧ Hid (Below w.heap.size w V)) := by
      refine Lib.hid ?_
      rintro V rfl
      refine ⟨fun g h1 h2 => (set_far (by have := HBB.out; omega)).trans (HK.out g h1 h2), HTK.out.high fun g hg => set_far (by have := HBB.out; have := HSZ.out; omega), ⟨HSZ.out.1, by have := HSZ.out.2; simpa using this⟩, HB3.out.far hb37 _, HB7.out.set _, HBW.out.setCell (p := ⟨b7, 1, none⟩) (by have := HBB.out; show w.heap.size ≤ b7; omega) _⟩
     by_cases e9 : (s[i].toNat : Int) = 9
     ·have x9 : s[i] = 9 := (hn 9 (by omega)).1 e9
      have HSK : Hid (RlI (bsO s) (i + 1) ln (col + 1) ⟨cm, false, ws⟩ out) := Lib.hid (HI.out.skip HX10.out HBF.out (by rw [HXK.out, x9]; cases cm <;> rfl) (by rw [HXK.out, x9]; cases cm <;> rfl))
      have g32 : ((s[i].toNat : Int) != 32) = true := by rw [e9]; rfl
      have h32 : ((s[i].toNat : Int) == 32) = false := by rw [e9]; rfl
      have g9 : ((s[i].toNat : Int) != 9) = false := by rw [e9]; rfl
      have h9 : ((s[i].toNat : Int) == 9) = true := by rw [e9]; rfl
      have h35 : ((s[i].toNat : Int) == 35) = false := by rw [e9]; rfl
      clear hn hb x9 e9
      cases cm with
      | true =>
       go_wp2_with fail
       go_roundw
       case rel =>
        obtain ⟨k1, k2, k3, k4, k5, k6⟩ := HSTEP.out _ rfl
        exact ⟨i + 1, ln, col + 1, ⟨true, false, ws⟩, out, W0, by go_num, by omega, rfl, rfl, HO.out, k1, k2, k3, k4, k5, HSK, k6⟩
       case measure => simp [intOf]; omega
      | false =>
       go_wp2_with fail
       go_roundw
       case rel =>
        obtain ⟨k1, k2, k3, k4, k5, k6⟩ := HSTEP.out _ rfl
        exact ⟨i + 1, ln, col + 1, ⟨false, false, ws⟩, out, W0, by go_num, by omega, rfl, rfl, HO.out, k1, k2, k3, k4, k5, HSK, k6⟩
       case measure => simp [intOf]; omega
     ·have x9 : s[i] ≠ 9 := fun q => e9 ((hn 9 (by omega)).2 q)
      have g9 : ((s[i].toNat : Int) != 9) = true := by simpa using e9
      have h9 : ((s[i].toNat : Int) == 9) = false := by simpa using e9
      have hr : 32 ≤ s[i].toNat ∧ s[i].toNat ≤ 126 := by
       have h2 : (s[i] == 9) = false := by simpa using x9
       unfold badC at hb
       rw [h2, Bool.not_false, Bool.true_and, Bool.or_eq_false_iff, decide_eq_false_iff_not, decide_eq_false_iff_not] at hb
       omega
      by_cases e32 : (s[i].toNat : Int) = 32
      ·have x32 : s[i] = 32 := (hn 32 (by omega)).1 e32
       have HSK : Hid (RlI (bsO s) (i + 1) ln (col + 1) ⟨cm, false, ws⟩ out) := Lib.hid (HI.out.skip HX10.out HBF.out (by rw [HXK.out, x32]; cases cm <;> rfl) (by rw [HXK.out, x32]; cases cm <;> rfl))
       have g32 : ((s[i].toNat : Int) != 32) = false := by rw [e32]; rfl
       have h32 : ((s[i].toNat : Int) == 32) = true := by rw [e32]; rfl
       have h35 : ((s[i].toNat : Int) == 35) = false := by rw [e32]; rfl
       clear hn hb x9 e9 x32 e32 hr
       cases cm with
       | true =>
        go_wp2_with fail
        go_roundw
        case rel =>
         obtain ⟨k1, k2, k3, k4, k5, k6⟩ := HSTEP.out _ rfl
         exact ⟨i + 1, ln, col + 1, ⟨true, false, ws⟩, out, W0, by go_num, by omega, rfl, rfl, HO.out, k1, k2, k3, k4, k5, HSK, k6⟩
        case measure => simp [intOf]; omega
       | false =>
        go_wp2_with fail
        go_roundw
        case rel =>
         obtain ⟨k1, k2, k3, k4, k5, k6⟩ := HSTEP.out _ rfl
         exact ⟨i + 1, ln, col + 1, ⟨false, false, ws⟩, out, W0, by go_num, by omega, rfl, rfl, HO.out, k1, k2, k3, k4, k5, HSK, k6⟩
        case measure => simp [intOf]; omega
      ·have x32 : s[i] ≠ 32 := fun q => e32 ((hn 32 (by omega)).2 q)
       have g32 : ((s[i].toNat : Int) != 32) = true := by simpa using e32
       have h32 : ((s[i].toNat : Int) == 32) = false := by simpa using e32
       have g33 : ¬(s[i].toNat : Int) < 33 := by omega
       have g126 : ¬126 < (s[i].toNat : Int) := by omega
       by_cases e35 : (s[i].toNat : Int) = 35
       ·have x35 : s[i] = 35 := (hn 35 (by omega)).1 e35
        have HSK : Hid (RlI (bsO s) (i + 1) ln (col + 1) ⟨true, false, ws⟩ out) := Lib.hid (HI.out.skip HX10.out HBF.out (by rw [HXK.out, x35]; cases cm <;> rfl) rfl)
        have h35 : ((s[i].toNat : Int) == 35) = true := by rw [e35]; rfl
        clear hn hb x9 e9 x32 e32 hr x35 e35
        go_wp2_with fail
        go_roundw
        case rel =>
         obtain ⟨k1, k2, k3, k4, k5, k6⟩ := HSTEP.out _ rfl
         exact ⟨i + 1, ln, col + 1, ⟨true, false, ws⟩, out, W0, by go_num, by omega, rfl, rfl, HO.out, k1, k2, k3, k4, k5, HSK, k6⟩
        case measure => simp [intOf]; omega
       ·have x35 : s[i] ≠ 35 := fun q => e35 ((hn 35 (by omega)).2 q)
        have x35b : (s[i] == 35) = false := by simpa using x35
        have h35 : ((s[i].toNat : Int) == 35) = false := by simpa using e35
        cases cm with
        | true =>
         have HSK : Hid (RlI (bsO s) (i + 1) ln (col + 1) ⟨true, false, ws⟩ out) := Lib.hid (HI.out.skip HX10.out HBF.out rfl rfl)
         clear hn hb x9 e9 x32 e32 hr x35 e35 x35b
         go_wp2_with fail
         go_roundw
         case rel =>
          obtain ⟨k1, k2, k3, k4, k5, k6⟩ := HSTEP.out _ rfl
          exact ⟨i + 1, ln, col + 1, ⟨true, false, ws⟩, out, W0, by go_num, by omega, rfl, rfl, HO.out, k1, k2, k3, k4, k5, HSK, k6⟩
         case measure => simp [intOf]; omega
        | false =>
         have HNC : Hid ((false || s[i] == 35 || blkC s[i]) = false) := Lib.hid (by
          unfold blkC
          rw [x35b, show (s[i] == 32) = false by simpa using x32, show (s[i] == 9) = false by simpa using x9]
          rfl)
         clear hn hb x9 e9 x32 e32 hr x35 e35 x35b
         cases op with
         | true =>
          have hne := HI.out.op rfl
          have hpos : 0 < ws.length := List.length_pos_iff.2 hne
          obtain ⟨m, hm⟩ : ∃ m, ws.length = m + 1 := ⟨ws.length - 1, by omega⟩
          have HRL : Hid ((ws.getD m tok0).tx.length ≤ i ∧ m ≤ i ∧ RlI (bsO s) (i + 1) ln (col + 1) ⟨false, true, ws.set m { (ws.getD m tok0) with tx := (ws.getD m tok0).tx ++ [s[i]] }⟩ out) := by
           refine Lib.hid ⟨HI.out.tx _ ?_, by have := HI.out.len; simp only at this; omega, ?_⟩
           ·rw [List.getD_eq_getElem?_getD, List.getElem?_eq_getElem (show m < ws.length by omega)]
            exact List.getElem_mem _
           ·have := HI.out.more HX10.out HBF.out (by rw [HXK.out]; exact HNC.out) rfl rfl
            rw [HXK.out] at this
            simp only [hm, Nat.add_sub_cancel] at this
            exact this
          obtain ⟨g8, c9, e8, hg1, hg2⟩ := HTK.out.pos hpos
          injection e8 with e81 e82 e83
          subst e81 e83
          have ⟨t0, f0⟩ := HTK.out.cell flT_len tok0 (i := m) (j := 0) (u := .string ⟨(ws.getD m tok0).tx.toArray⟩) (by omega) (by decide) rfl
          obtain ⟨A, hA⟩ : ∃ A : ByteArray, ⟨(ws.getD m tok0).tx.toArray⟩ = A := ⟨_, rfl⟩
          rw [hA] at t0
          have has : (A.size : Int) ≤ 65536 := by
           have h2 := HRL.out.1
           have : A.size = (ws.getD m tok0).tx.length := by rw [← hA]; simp [ByteArray.size]
           omega
          have hmk : (m : Int) ≤ 65536 := by have := HRL.out.2.1; omega
          rw [Nat.add_zero] at t0 f0
          have HG8 : Hid (b7 < g8 ∧ W0.heap.size ≤ g8) := Lib.hid (by have := HSZ.out; have := HBB.out; omega)
          have hg87 : g8 ≠ b7 := by have := HG8.out; omega
          have hg78 : b7 ≠ g8 := by have := HG8.out; omega
          have HM := Lib.hid hm
          obtain ⟨Z, hZ⟩ : ∃ Z, wr.setCell ⟨g8, m * 3, none⟩ (.string (A ++ s.extract i (i + 1))) = Z := ⟨_, rfl⟩
          have HOZ : Hid (OwnTk Z.drew W0.heap.size (.slice (some ⟨g8, 0, none⟩) (m + 1) c6) (ws.set m { (ws.getD m tok0) with tx := (ws.getD m tok0).tx ++ [s[i]] })) := by
           have := HTK.out.setAt flT_len tok0 (i := m) (j := 0) (by omega) (by decide) (.string (A ++ s.extract i (i + 1))) { (ws.getD m tok0) with tx := (ws.getD m tok0).tx ++ [s[i]] } (by
            have e : (⟨((ws.getD m tok0).tx ++ [s[i]]).toArray⟩ : ByteArray) = A ++ s.extract i (i + 1) := by
             apply bs_inj
             rw [bs_app, bs_ext, ← hA]
             show (ws.getD m tok0).tx ++ [s[i]] = (ws.getD m tok0).tx ++ ((bsO s).take (i + 1)).drop i
             rw [List.drop_take, show i + 1 - i = 1 by omega, List.drop_eq_getElem_cons hkl, HXK.out]
             rfl
            show [Value.string _, _, _] = [Value.string _, _, _]
            rw [e])
           rw [hm, Nat.add_zero, hZ] at this
           exact Lib.hid (World.ownsRow.drew this)
          have HZK : Hid (∀ g, g ≠ g8 → Z.drew.heap[g]? = wr.heap[g]?) := Lib.hid fun g hg => by rw [← hZ]; exact set_far hg
          have HZ7 := Lib.hid (Blk.same HB7.out (HZK.out b7 hg78))
          have HZ3 := Lib.hid (Blk.same HB3.out (HZK.out b3 (by have := HG8.out; have := HBB.out; omega)))
          have HBZ : Hid (Below w.heap.size w Z.drew ∧ Z.drew.heap.size = wr.heap.size) := by
           refine Lib.hid ⟨?_, by rw [← hZ]; simp⟩
           rw [← hZ]
           exact (HBW.out.setCell (p := ⟨g8, m * 3, none⟩) (by have := HG8.out; have := HBB.out; show w.heap.size ≤ g8; omega) _).drew
          have z0 : Z.drew.cell? ⟨b7, 1, none⟩ = some (.int .i64 col) := HZ7.out.cell rfl
          have z1 := HZ7.out.frz 1
          rw [hm]
          clear hne hpos hA hg1 hg2 hm
          go_upto_region 26 with fail
          go_region
          all_goals go_wp2_with fail
          go_roundw
          case rel =>
           refine ⟨i + 1, ln, col + 1, ⟨false, true, ws.set m { (ws.getD m tok0) with tx := (ws.getD m tok0).tx ++ [s[i]] }⟩, out, W0, by go_num, by omega, rfl, rfl, HO.out, fun g h1 h2 => ?_, ?_, ?_, HZ3.out.far hb37 _, HZ7.out.set _, HRL.out.2.2, HBZ.out.1.setCell (p := ⟨b7, 1, none⟩) (by have := HBB.out; show w.heap.size ≤ b7; omega) _⟩
           ·exact ((set_far (by have := HBB.out; omega)).trans (HZK.out g (by have := HG8.out; omega))).trans (HK.out g h1 h2)
           ·have := HOZ.out.high (w' := (Z.setCell ⟨b7, 1, none⟩ (.int .i64 ((col : Int) + 1))).drew) fun g hg => (show (Z.setCell ⟨b7, 1, none⟩ (.int .i64 ((col : Int) + 1))).heap[g]? = Z.heap[g]? from set_far (by have := HBB.out; have := HSZ.out; omega))
            simpa [HM.out] using this
           ·exact ⟨HSZ.out.1, by have := HSZ.out.2; have := HBZ.out.2; simp at this ⊢; omega⟩
          case measure => simp [intOf]; omega
         | false =>
          have HRL : Hid (RlI (bsO s) (i + 1) ln (col + 1) ⟨false, true, ws ++ [⟨[s[i]], ln, col⟩]⟩ out) := Lib.hid (by
           have := HI.out.new HX10.out HBF.out (by rw [HXK.out]; exact HNC.out) rfl
           rw [HXK.out] at this
           exact this)
          have hwl : ws.length < 1000000 := by have := HI.out.len; simp only at this; omega
          have hod : OwnTk wr.drew W0.heap.size (.slice a6 ws.length c6) ws := World.ownsRow.drew HTK.out
          have HEX : Hid (s.extract i (i + 1) = ⟨#[s[i]]⟩) := Lib.hid (by
           apply bs_inj
           rw [bs_ext, List.drop_take, show i + 1 - i = 1 by omega, List.drop_eq_getElem_cons hkl, HXK.out]
           rfl)
          have h7d : Blk wr.drew b7 #[.int .i64 ln, .int .i64 col] 29 := HB7.out
          have h3d : Blk wr.drew b3 #[.int .i64 0, .int .i64 0] 29 := HB3.out
          have hbd : Below w.heap.size w wr.drew := HBW.out.drew
          go_upto_region 28 with fail
          go_cut [6] from 17 to 98 (fun u6 wx => OwnTk wx W0.heap.size u6 (ws ++ [⟨[s[i]], ln, col⟩]) ∧ Hid (∀ g, g < W0.heap.size → wx.heap[g]? = wr.heap[g]?) ∧ Hid (W0.heap.size ≤ wx.heap.size) ∧ Hid (Below w.heap.size w wx))
          case first =>
           have hone : ∀ u ∈ flT ⟨[s[i]], ln, col⟩, u.oneCell' = true := by
            intro u hu
            simp [flT] at hu
            rcases hu with rfl | rfl | rfl <;> rfl
           have HCS : Hid (#[Value.string (s.extract i (i + 1)), .int .i64 (ln : Int), .int .i64 (col : Int)] = (flT ⟨[s[i]], ln, col⟩).toArray) := Lib.hid (by rw [HEX.out]; rfl)
           have hw0 : w.heap.size ≤ W0.heap.size := by have := HSZ.out; have := HBB.out; omega
           have hws : W0.heap.size ≤ wr.drew.heap.size := HSZ.out.2
           have p0d : wr.drew.cell? ⟨b7, 0, none⟩ = some (.int .i64 ln) := h7d.cell rfl
           have p1d : wr.drew.cell? ⟨b7, 1, none⟩ = some (.int .i64 col) := h7d.cell rfl
           have hwr : IntKind.i64.wrap ((i : Int) + 1) = (i : Int) + 1 := by rw [IntKind.wrap_i64]; omega
           have hsl : ∀ W : World, (Instr.slice 9 (.string s) (some (.int .i64 (i : Int))) (some (.int .i64 ((i : Int) + 1))) none).run Tryz.prog W = .ok (.string (s.extract i (i + 1))) W := fun W => by
            have := run_slice_string (P := Tryz.prog) W 9 s .i64 .i64 (i : Int) ((i : Int) + 1) Tryz.underlying9 (by omega) (by omega) (by omega)
            rw [show ((i : Int) + 1).toNat = i + 1 by omega, Int.toNat_natCast] at this
            exact this
           go_region_law (refine step_app_G (z := (⟨[s[i]], ln, col⟩ : Tok)) (w0 := w) (B := W0.heap.size) flT_len (by decide) Tryz.underlying77 Tryz.infoTok rfl (by decide) rfl (.tmp 85) (.tmp 93) rfl rfl hod hw0 hws hbd hone rfl (by simp) hwl HCS.out ?_; intro v1 w3 o1 b1 k1 z1)
           all_goals go_wp2_with fail
           all_goals go_meet
           all_goals exact ⟨o1, fun g hg => (k1 g (by have := HSZ.out.2; simp; omega) (fun e => by have := (World.ownsRow.lt hod g e).1; omega)), Nat.le_trans HSZ.out.2 (by simpa using z1), b1⟩
          case rest =>
          obtain ⟨ho6, HKV, HVS, HBV⟩ := hcut
          generalize wc = V at *
          have HO6 := Lib.hid ho6
          obtain ⟨a9, c9, rfl⟩ := ho6.form
          have HV7 := Lib.hid (Blk.same HB7.out (HKV.out b7 (by have := HSZ.out; have := HBB.out; omega)))
          have HV3 := Lib.hid (Blk.same HB3.out (HKV.out b3 (by have := HSZ.out; have := HBB.out; omega)))
          have z0 : V.cell? ⟨b7, 1, none⟩ = some (.int .i64 col) := HV7.out.cell rfl
          have z1 := HV7.out.frz 1
          clear ho6 hod h7d h3d hbd
          go_wp2_with fail
          go_roundw
          case rel =>
           refine ⟨i + 1, ln, col + 1, ⟨false, true, ws ++ [⟨[s[i]], ln, col⟩]⟩, out, W0, by go_num, by omega, rfl, rfl, HO.out, fun g h1 h2 => ?_, ?_, ?_, HV3.out.far hb37 _, HV7.out.set _, HRL, HBV.out.setCell (p := ⟨b7, 1, none⟩) (by have := HBB.out; show w.heap.size ≤ b7; omega) _⟩
           ·exact ((set_far (by have := HBB.out; omega)).trans (HKV.out g h2)).trans (HK.out g h1 h2)
           ·exact HO6.out.high fun g hg => set_far (by have := HBB.out; have := HSZ.out; omega)
           ·exact ⟨HSZ.out.1, by have := HVS.out; simpa using this⟩
          case measure => simp [intOf]; omega
  ·have hie : i = s.size := by omega
   have HF : Hid (linesM (bsO s) = (outC ws out, (0, 0), 0)) := Lib.hid (linesR_in HL.out (HI.out.fin (by rw [bs_len]; exact hie)))
   have HOw : Hid (OwnLn wr (b3 + 2) (.slice a5 out.length c5) out) := Lib.hid (HO.out.mid fun g h1 h2 => HK.out g h1 h2)
   by_cases hz : ws = []
   ·have hz0 : ¬0 < ws.length := by rw [hz]; simp
    rw [show outC ws out = out from if_pos hz] at HF
    have c0 : wr.cell? ⟨b3, 0, none⟩ = some (.int .i64 0) := HB3.out.cell rfl
    have c1 : wr.cell? ⟨b3, 1, none⟩ = some (.int .i64 0) := HB3.out.cell rfl
    have f0 := HB3.out.frz 0
    have f1 := HB3.out.frz 1
    obtain ⟨Z, hZ⟩ : ∃ Z, (wr.setCell ⟨b3, 0, none⟩ (.int .i64 0)).setCell ⟨b3, 1, none⟩ (.int .i64 0) = Z := ⟨_, rfl⟩
    have r0 : Z.cell? ⟨b3, 0, none⟩ = some (.int .i64 0) := by rw [← hZ]; simp [go_sem, c0]
    have r1 : Z.cell? ⟨b3, 1, none⟩ = some (.int .i64 0) := by rw [← hZ]; simp [go_sem, c1]
    have HBZ : Hid (Below w.heap.size w Z) := by
     unfold Hid
     rw [← hZ]
     exact (HBW.out.setCell (p := ⟨b3, 0, none⟩) HBB.out.1 _).setCell (p := ⟨b3, 1, none⟩) HBB.out.1 _
    have HOZ : Hid (OwnLn Z w.heap.size (.slice a5 out.length c5) out) := by
     refine Lib.hid (OwnGG.mono (OwnGG.high HOw.out fun g hg => ?_) (show w.heap.size ≤ b3 + 2 by have := HBB.out; omega))
     rw [← hZ, Below.heap_setCell _ _ _ _ (show g ≠ b3 by omega), Below.heap_setCell _ _ _ _ (show g ≠ b3 by omega)]
    clear hz
    go_wp2_with fail
    refine bodyPost_ret (v := .tuple #[.slice a5 out.length c5, .agg #[.int .i64 0, .int .i64 0], .int .i64 0]) (by simp [results, Tryz.results52, go_sem, r0, r1]) rfl ?_
    exact lin_done HF.out HOZ.out HBZ.out rfl rfl rfl
   ·have hz0 : 0 < ws.length := List.length_pos_iff.2 hz
    rw [show outC ws out = out ++ [ws] from if_neg hz] at HF
    have HLL : Hid (out.length < 1000000) := Lib.hid (by have := HI.out.ol; omega)
    have HBS : Hid (b3 + 2 ≤ wr.heap.size) := Lib.hid (by have := HSZ.out; omega)
    clear hz
    go_upto_region 31 with fail
    go_wp2_with (at_builtin; refine wpList_app_GG (L := ws) (xv := .slice a6 ws.length c6) (w0 := w) (B := b3 + 2) (by decide) Tryz.underlying74 Tryz.infoToks rfl (.tmp 102) (.tmp 104) rfl rfl HOw.out (HTK.out.mono HSZ.out.1) (by have := HBB.out; omega) HBS.out HBW.out rfl rfl HLL.out rfl ?_; intro v2 V2 o2 b2 k2 z2; have j3 := Lib.hid (Blk.same HB3.out (k2 b3 HB3.out.lt (fun e => by have := (OwnGG.lt HOw.out b3 e).1; have := HBB.out; omega))); have c0 := Blk.cell (j := 0) j3.out rfl; have c1 := Blk.cell (j := 1) j3.out rfl; have f0 := Blk.frz j3.out 0; have f1 := Blk.frz j3.out 1; obtain ⟨a9, c9, e9⟩ := o2.form; rw [e9] at o2; subst e9; have o2 := Lib.hid o2; have b2 := Lib.hid b2; clear k2 z2)
    obtain ⟨Z, hZ⟩ : ∃ Z, (V2.setCell ⟨b3, 0, none⟩ (.int .i64 0)).setCell ⟨b3, 1, none⟩ (.int .i64 0) = Z := ⟨_, rfl⟩
    have r0 : Z.cell? ⟨b3, 0, none⟩ = some (.int .i64 0) := by rw [← hZ]; simp [go_sem, c0]
    have r1 : Z.cell? ⟨b3, 1, none⟩ = some (.int .i64 0) := by rw [← hZ]; simp [go_sem, c1]
    have HBZ : Hid (Below w.heap.size w Z) := by
     unfold Hid
     rw [← hZ]
     exact (b2.out.setCell (p := ⟨b3, 0, none⟩) HBB.out.1 _).setCell (p := ⟨b3, 1, none⟩) HBB.out.1 _
    have HOZ : Hid (OwnLn Z w.heap.size (.slice a9 (out ++ [ws]).length c9) (out ++ [ws])) := by
     refine Lib.hid (OwnGG.mono (OwnGG.high o2.out fun g hg => ?_) (show w.heap.size ≤ b3 + 2 by have := HBB.out; omega))
     rw [← hZ, Below.heap_setCell _ _ _ _ (show g ≠ b3 by omega), Below.heap_setCell _ _ _ _ (show g ≠ b3 by omega)]
    try rw [hZ]
    refine bodyPost_ret (v := .tuple #[.slice a9 (out ++ [ws]).length c9, .agg #[.int .i64 0, .int .i64 0], .int .i64 0]) (by simp [results, Tryz.results52, go_sem, r0, r1]) rfl ?_
    exact lin_done HF.out HOZ.out HBZ.out rfl rfl rfl
end Go.Proofs.YtlbglinpgjlbkaaGreatDoor
namespace Go.Proofs.YtlbglinpgjlbkaaGreatDoor
open Go.RowKit Wk

theorem count_c (c : UInt8) : ∀ (n : Nat) (s : Bs), s.length ≤ n → (splitC c s).length = Lib.countFrom [c] (n + 1) s + 1
 | n, s, hn => by
  obtain ⟨g1, g2⟩ := take_while s c
  rw [Lib.countFrom, index_one, splitC_take]
  by_cases h : s.contains c = true
  ·have hl := drop_lessC c h
   rw [if_pos h, if_pos h, if_neg (by simp)]
   simp only [Int.toNat_natCast, List.length_cons, List.length_nil]
   rw [g2]
   cases n with
   | zero => omega
   | succ n =>
    rw [count_c c n _ (by omega)]
    omega
  ·rw [if_neg h, if_neg h, if_pos (by simp)]
   rfl
theorem parts_any (c : UInt8) (s : ByteArray) (hs : s.size < 4294967281) (w : World) (hg : Glob w) :
  Calls Tryz.prog 116 #[.string s, .string ⟨#[c]⟩] w fun e w' => (∃ a k, e = .returned (.slice (some ⟨a, 0, none⟩) (splitC c (bsO s)).length k) ∧ ∀ i, i < (splitC c (bsO s)).length → w'.cell? ⟨a, i, none⟩ = some (.string ⟨((splitC c (bsO s)).getD i []).toArray⟩)) ∧ Below w.heap.size w w' := by
 obtain ⟨m, hm⟩ := hg
 refine (Tryz.strings_Split s ⟨#[c]⟩ m w hs hm (show 1 ≤ 1 from Nat.le_refl _)).mono ?_
 rintro e w' ⟨rfl, rfl⟩
 have hl : (Lib.splitB ⟨#[c]⟩ 0 (Lib.countB s ⟨#[c]⟩) s).map (fun b => bsO b) = splitC c (bsO s) := by
  have h := Lib.splitB_data ⟨#[c]⟩ 0 (Lib.countB s ⟨#[c]⟩) s
  have e : Lib.splitK [c] 0 (Lib.count (bsO s) [c]) (bsO s) = splitC c (bsO s) := split_c c (bsO s)
  have hc : Lib.countB s ⟨#[c]⟩ = Lib.count (bsO s) [c] := rfl
  rw [hc] at h ⊢
  exact h.trans e
 have hlen : (Lib.splitB ⟨#[c]⟩ 0 (Lib.countB s ⟨#[c]⟩) s).length = (splitC c (bsO s)).length := by rw [← hl, List.length_map]
 have hn : (splitC c (bsO s)).length = Lib.countB s ⟨#[c]⟩ + 1 := count_c c _ _ (Nat.le_refl _)
 refine ⟨⟨w.heap.size, Lib.countB s ⟨#[c]⟩ + 1, by rw [hn], fun i hi => ?_⟩, (Below.refl _ w).alloc (Nat.le_refl _) _⟩
 rw [World.cell?_alloc_new, List.getElem?_toArray, List.getElem?_map]
 have hi2 : i < (Lib.splitB ⟨#[c]⟩ 0 (Lib.countB s ⟨#[c]⟩) s).length := by rw [hlen]; exact hi
 rw [List.getElem?_eq_getElem hi2]
 have hx : (splitC c (bsO s)).getD i [] = bsO (Lib.splitB ⟨#[c]⟩ 0 (Lib.countB s ⟨#[c]⟩) s)[i] := by
  rw [← hl, List.getD_eq_getElem?_getD, List.getElem?_map, List.getElem?_eq_getElem hi2]
  rfl
 rw [hx]
 rfl
theorem part_size (c : UInt8) : ∀ (s : Bs), ∀ l ∈ splitC c s, l.length ≤ s.length
 | [], l, h => by simp [splitC] at h; rw [h]; simp
 | d :: r, l, h => by
  have ih := part_size c r
  unfold splitC at h
  by_cases hc : (d == c) = true
  ·rw [if_pos hc] at h
   rcases List.mem_cons.1 h with rfl | h
   ·simp
   ·have := ih l h
    simp
    omega
  ·rw [if_neg hc] at h
   cases hs : splitC c r with
   | nil => exact absurd hs (splitC_ne c r)
   | cons a b =>
    rw [hs] at h ih
    rcases List.mem_cons.1 h with rfl | h
    ·have := ih a (by simp)
     simp
     omega
    ·have := ih l (by simp [h])
     simp
     omega
def wtP : Nat → Int
 | 0 => 3600
 | 1 => 60
 | _ => 1
def okP (i : Nat) (p : Bs) : Bool := if i = 0 then hourB p else partB p
def totP (LS : List Bs) : Nat → Int
 | 0 => 0
 | i + 1 => totP LS i + (decV (LS.getD i []) : Int) * wtP i
theorem spanL_bad {LS : List Bs} {i : Nat} (hi : i < LS.length) (h : okP i (LS.getD i []) = false) : spanL LS = none := by
 unfold okP at h
 match LS, hi with
 | [a], hi =>
  obtain rfl : i = 0 := by simp at hi; omega
  simp at h
  simp [spanL, h]
 | [a, b], hi =>
  simp at hi
  rcases (by omega : i = 0 ∨ i = 1) with rfl | rfl <;> (simp at h; simp [spanL, h])
 | [a, b, c], hi =>
  simp at hi
  rcases (by omega : i = 0 ∨ i = 1 ∨ i = 2) with rfl | rfl | rfl <;> (simp at h; simp [spanL, h])
 | a :: b :: c :: d :: r, _ => rfl
theorem spanL_long {LS : List Bs} (h : 3 < LS.length) : spanL LS = none := by
 match LS, h with
 | a :: b :: c :: d :: r, _ => rfl
theorem spanL_ok {LS : List Bs} (h1 : 1 ≤ LS.length) (h3 : LS.length ≤ 3) (h : ∀ j, j < LS.length → okP j (LS.getD j []) = true) : ∃ n : Nat, spanL LS = some n ∧ totP LS LS.length = n := by
 match LS, h1, h3 with
 | [a], _, _ =>
  have q0 : hourB a = true := h 0 (by simp)
  refine ⟨3600 * decV a, by simp [spanL, q0], ?_⟩
  simp [totP, wtP]
  omega
 | [a, b], _, _ =>
  have q0 : hourB a = true := h 0 (by simp)
  have q1 : partB b = true := h 1 (by simp)
  refine ⟨3600 * decV a + 60 * decV b, by simp [spanL, q0, q1], ?_⟩
  simp [totP, wtP]
  omega
 | [a, b, c], _, _ =>
  have q0 : hourB a = true := h 0 (by simp)
  have q1 : partB b = true := h 1 (by simp)
  have q2 : partB c = true := h 2 (by simp)
  refine ⟨3600 * decV a + 60 * decV b + decV c, by simp [spanL, q0, q1, q2], ?_⟩
  simp [totP, wtP]
  omega
 | a :: b :: c :: d :: r, _, h3 => simp at h3
theorem spanP_none {s : Bs} (h : spanL (splitC 58 s) = none) : spanP s = (0, false) := by
 unfold spanP
 rw [span_parts, h]
theorem spanP_some {s : Bs} {n : Nat} (h : spanL (splitC 58 s) = some n) : spanP s = ((n : Int), true) := by
 unfold spanP
 rw [span_parts, h]
theorem hour_iff (p : ByteArray) : hourB (bsO p) = true ↔ (1 ≤ p.size ∧ p.size ≤ 2) ∧ (bsO p).all digC = true ∧ ∀ h : 0 < p.size, p.size = 2 → (p[0].toNat : Int) ≠ 48 := by
 unfold hourB
 rw [Bool.and_eq_true, decide_eq_true_eq, whole_ix, bs_len, List.all_eq_true]
 constructor
 ·rintro ⟨⟨h1, h2, h3⟩, h4⟩
  refine ⟨⟨h1, h4⟩, fun x hx => ?_, fun h5 h6 => h3 h5 (by omega)⟩
  obtain ⟨k, hk, rfl⟩ := List.mem_iff_getElem.1 hx
  rw [bs_len] at hk
  rw [bs_at p k hk]
  exact h2 k hk
 ·rintro ⟨⟨h1, h4⟩, h2, h3⟩
  exact ⟨⟨h1, fun k hk => by rw [← bs_at p k hk]; exact h2 _ (List.getElem_mem _), fun h5 h6 => h3 h5 (by omega)⟩, h4⟩
theorem part_iff (p : ByteArray) : partB (bsO p) = true ↔ p.size = 2 ∧ (bsO p).all digC = true ∧ decV (bsO p) ≤ 59 := by
 unfold partB
 rw [Bool.and_eq_true, Bool.and_eq_true, decide_eq_true_eq, decide_eq_true_eq, bs_len, and_assoc]
theorem okP_no {i : Nat} {p : ByteArray} (h : ¬((i = 0 → (1 ≤ p.size ∧ p.size ≤ 2) ∧ (bsO p).all digC = true ∧ ∀ h : 0 < p.size, p.size = 2 → (p[0].toNat : Int) ≠ 48) ∧ (i ≠ 0 → p.size = 2 ∧ (bsO p).all digC = true ∧ decV (bsO p) ≤ 59))) : okP i (bsO p) = false := by
 rw [← Bool.not_eq_true]
 intro q
 apply h
 unfold okP at q
 by_cases hi : i = 0
 ·rw [if_pos hi] at q
  exact ⟨fun _ => (hour_iff p).1 q, fun h => absurd hi h⟩
 ·rw [if_neg hi] at q
  exact ⟨fun h => absurd h hi, fun _ => (part_iff p).1 q⟩

set_option maxRecDepth 100000 in
set_option maxHeartbeats 4000000 in
theorem span_any (s : ByteArray) (hs : s.size < 4294967281) (w : World) (hg : Glob w) :
  Calls Tryz.prog 185 #[.string s] w fun e w' => e = .returned (.tuple #[.int .i64 (spanP (bsO s)).1, .bool (spanP (bsO s)).2]) ∧ Below w.heap.size w w' := by
 obtain ⟨pr, hpr⟩ : ∃ pr, spanP (bsO s) = pr := ⟨_, rfl⟩
 rw [hpr]
 have HP := Lib.hid hpr
 have HSP := Lib.hid (parts_any 58 s hs w hg)
 clear hpr
 go_enter Tryz.func185, Tryz.ntmps185
 obtain ⟨LS, hLS⟩ : ∃ LS, splitC 58 (bsO s) = LS := ⟨_, rfl⟩
 have HPL : Hid (∀ l ∈ LS, l.length ≤ 4294967280) := Lib.hid fun l hl => by
  have := part_size 58 (bsO s) l (by rw [hLS]; exact hl)
  rw [bs_len] at this
  omega
 have hne : 1 ≤ LS.length := by
  have := splitC_ne 58 (bsO s)
  rw [hLS] at this
  exact List.length_pos_iff.2 this
 rw [hLS] at HSP
 have HLS := Lib.hid hLS
 clear hLS
 by_cases h3 : 3 < LS.length
 ·have HN : Hid (spanP (bsO s) = (0, false)) := Lib.hid (spanP_none (by rw [HLS.out]; exact spanL_long h3))
  have g3 : (3 : Int) < LS.length := by omega
  go_wp2_with (first | (go_at_call 116; refine HSP.out.mono ?_; rintro e w1 ⟨⟨ga, gc, rfl, hc⟩, hb⟩; clear hc) | fail)
  go_ret2
  exact ⟨span_ret HP.out HN.out, hb⟩
 have g3 : ¬(3 : Int) < LS.length := by omega
 have g3b : (LS.length : Int) ≤ 3 := by omega
 go_wp2_with (first | (go_at_call 116; refine HSP.out.mono ?_; rintro e w1 ⟨⟨ga, gc, rfl, hc⟩, hb⟩) | fail)
 have HC := Lib.hid hc
 have HB1 := Lib.hid hb
 have HNE := Lib.hid hne
 clear hc hb HSP hne
 go_loopw [5, 6, 7, 8, 9, 17] (fun u5 _ _ _ _ u17 wr => ∃ (i : Nat), u17 = .int .i64 i ∧ i ≤ LS.length ∧ u5 = .int .i64 (totP LS i) ∧ Hid (∀ j, j < i → okP j (LS.getD j []) = true) ∧ Hid (0 ≤ totP LS i ∧ totP LS i ≤ 360000 * i) ∧ Hid (Below w1.heap.size w1 wr)) (fun _ _ _ _ _ u _ => LS.length - (intOf u).toNat)
 case atStart => exact ⟨0, rfl, Nat.zero_le _, rfl, fun j h => absurd h (by omega), ⟨Int.le_refl _, Int.le_refl _⟩, Below.refl _ _⟩
 case round =>
  obtain ⟨i, rfl, hi, rfl, HOK, HT, HBr⟩ := hrel
  by_cases hlt : i < LS.length
  ·obtain ⟨P, hP⟩ : ∃ P : ByteArray, ⟨(LS.getD i []).toArray⟩ = P := ⟨_, rfl⟩
   have hq := keepCell HBr.out (HC.out i hlt)
   rw [hP] at hq
   have HPP : Hid (bsO P = LS.getD i []) := Lib.hid (by rw [← hP])
   have HBAD : Hid (okP i (bsO P) = false → spanP (bsO s) = (0, false)) := Lib.hid fun h => spanP_none (by rw [HLS.out]; exact spanL_bad hlt (by rw [← HPP.out]; exact h))
   have HNX : Hid (okP i (bsO P) = true → (decV (bsO P) : Int) ≤ 99 ∧ totP LS (i + 1) = totP LS i + (decV (bsO P) : Int) * wtP i ∧ ∀ j, j < i + 1 → okP j (LS.getD j []) = true) := Lib.hid fun h => by
    refine ⟨?_, by rw [HPP.out]; rfl, fun j hj => ?_⟩
    ·have : (bsO P).length ≤ 2 ∧ (bsO P).all digC = true := by
      unfold okP at h
      split at h
      ·have := (hour_iff P).1 h
       rw [bs_len]
       exact ⟨this.1.2, this.2.1⟩
      ·have := (part_iff P).1 h
       rw [bs_len]
       exact ⟨by omega, this.2.1⟩
     have := (decV_dig _ this.1 this.2).1
     omega
    ·rcases Nat.lt_or_ge j i with q | q
     ·exact HOK.out j q
     ·obtain rfl : j = i := by omega
      rw [← HPP.out]
      exact h
   have HDB : Hid ((bsO P).length ≤ 2 → ∀ k, ((bsO P).take k).all digC = true → decV ((bsO P).take k) ≤ 99) := Lib.hid fun h k hk => (decV_dig _ (by rw [List.length_take]; omega) hk).1
   have HPS : Hid (P.size ≤ 4294967280) := Lib.hid (by
    have := HPL.out (LS.getD i []) (by rw [List.getD_eq_getElem?_getD, List.getElem?_eq_getElem hlt]; exact List.getElem_mem _)
    rw [← HPP.out, bs_len] at this
    exact this)
   have hps : (P.size : Int) ≤ 4294967280 := by have := HPS.out; omega
   have hib : (i : Int) ≤ 2 := by omega
   clear hP
   obtain ⟨tot, htot⟩ : ∃ t, totP LS i = t := ⟨_, rfl⟩
   rw [htot] at HT HNX ⊢
   have ht0 := HT.out.1
   have ht1 : tot ≤ 720000 := by have := HT.out.2; omega
   clear htot
   by_cases hs1 : P.size < 1
   ·have HNO := Lib.hid (HBAD.out (okP_no fun q => by
     by_cases h0 : i = 0
     ·have := (q.1 h0).1; omega
     ·have := (q.2 h0).1; omega))
    have gs1 : (P.size : Int) < 1 := by omega
    clear hs1
    go_wp2_with fail
    go_ret2
    exact ⟨span_ret HP.out HNO.out, keepBelow HB1.out HBr.out⟩
   have gs1 : ¬(P.size : Int) < 1 := by omega
   by_cases hs2 : 2 < P.size
   ·have HNO := Lib.hid (HBAD.out (okP_no fun q => by
     by_cases h0 : i = 0
     ·have := (q.1 h0).1; omega
     ·have := (q.2 h0).1; omega))
    have gs2 : (2 : Int) < P.size := by omega
    clear hs1 hs2
    go_wp2_with fail
    go_ret2
    exact ⟨span_ret HP.out HNO.out, keepBelow HB1.out HBr.out⟩
   have gs2 : ¬(2 : Int) < P.size := by omega
   by_cases h0 : i = 0
   ·subst h0
    have HS2 : Hid (P.size ≤ 2) := Lib.hid (by omega)
    have HBW := Lib.hid (keepBelow HB1.out HBr.out)
    have hwt : ∀ X : World, (X.alloc (.cells #[.int .i64 3600, .int .i64 60, .int .i64 1] 3)).cell? ⟨X.heap.size, 0, none⟩ = some (.int .i64 3600) := fun X => by simp [go_sem]
    clear hs1 hs2
    go_wp2_with fail
    go_loopw [8, 9, 41] (fun u8 _ u41 wx => ∃ (k n : Nat), u41 = .int .i64 k ∧ u8 = .int .i64 n ∧ k ≤ P.size ∧ Hid (((bsO P).take k).all digC = true) ∧ Hid (n = decV ((bsO P).take k)) ∧ wx = wr) (fun _ _ u _ => P.size - (intOf u).toNat)
    case atStart => exact ⟨0, 0, rfl, rfl, Nat.zero_le _, Lib.hid rfl, Lib.hid rfl, rfl⟩
    case round =>
     obtain ⟨k, n, rfl, rfl, hk, HD, HV, hw⟩ := hrel
     rw [hw]
     clear hw
     have hn9 := HDB.out (by rw [bs_len]; exact HS2.out) k HD.out
     rw [← HV.out] at hn9
     have hnb : (n : Int) ≤ 99 := by omega
     have hkb : (k : Int) ≤ 2 := by have := HS2.out; omega
     by_cases hkt : k < P.size
     ·cases hd : digC P[k] with
      | false =>
       have HNO := Lib.hid (HBAD.out (okP_no fun q => not_dig hd ((q.1 rfl).2.1)))
       go_wp2_with (first | (go_at_call 143; refine (digit_any _ _).mono ?_; rintro e w' ⟨rfl, rfl⟩) | (fail))
       go_ret2
       exact ⟨span_ret HP.out HNO.out, HBW.out⟩
      | true =>
       have hd1 : 48 ≤ (P[k].toNat : Int) := by have := dig_of hd; omega
       have hd2 : (P[k].toNat : Int) ≤ 57 := by have := dig_of hd; omega
       have HT2 : Hid (((10 * n + (P[k].toNat - 48) : Nat)) = decV ((bsO P).take (k + 1))) := by
        rw [take_dig hkt, ← HV.out]
        exact Lib.hid rfl
       have HD2 : Hid (((bsO P).take (k + 1)).all digC = true) := by
        rw [List.take_add_one, List.getElem?_eq_getElem (by rw [bs_len]; exact hkt), bs_at P k hkt, List.all_append, HD.out]
        exact Lib.hid (by simp [hd])
       clear hn9
       go_wp2_with (first | (go_at_call 143; refine (digit_any _ _).mono ?_; rintro e w' ⟨rfl, rfl⟩) | (fail))
       go_roundw
       case rel => exact ⟨k + 1, 10 * n + (P[k].toNat - 48), by go_num, by congr 1; omega, by omega, HD2, HT2, by first | trivial | rfl⟩
       case measure => simp [intOf]; omega
     ·have hke : k = P.size := by omega
      have e : (bsO P).take k = bsO P := List.take_of_length_le (by rw [bs_len]; omega)
      rw [e] at HD HV
      clear e hn9
      by_cases hz : P.size = 2 ∧ ∃ h : 0 < P.size, (P[0].toNat : Int) = 48
      ·obtain ⟨hz2, hz0, hz48⟩ := hz
       have HNO := Lib.hid (HBAD.out (okP_no fun q => (q.1 rfl).2.2 hz0 hz2 hz48))
       have gz : ((P.size : Int) == 2) = true := by rw [hz2]; rfl
       have gz2 : ((P[0].toNat : Int) == 48) = true := by rw [hz48]; rfl
       clear hz48 hz2
       go_wp2_with fail
       go_ret2
       exact ⟨span_ret HP.out HNO.out, HBW.out⟩
      ·have HY := HNX.out (by
        show hourB (bsO P) = true
        exact (hour_iff P).2 ⟨⟨by omega, HS2.out⟩, HD.out, fun h1 h2 h3 => hz ⟨h2, h1, h3⟩⟩)
       rw [← HV.out] at HY
       have HYY := Lib.hid HY
       clear HY
       by_cases hz2 : P.size = 2
       ·have gz : ((P.size : Int) == 2) = true := by rw [hz2]; rfl
        have hp0 : 0 < P.size := by omega
        have gz2 : ((P[0].toNat : Int) == 48) = false := by
         have : ¬(P[0].toNat : Int) = 48 := fun q => hz ⟨hz2, hp0, q⟩
         simpa using this
        clear hz hz2
        go_wp2_with fail
        go_roundw
        case rel => exact ⟨1, by go_num, by omega, by rw [HYY.out.2.1]; rfl, HYY.out.2.2, by rw [HYY.out.2.1]; have := HYY.out.1; have := HT.out; rw [show wtP 0 = 3600 from rfl]; exact ⟨by omega, by omega⟩, keepBelow HBr.out ((Below.refl _ _).alloc (Nat.le_refl _) _)⟩
        case measure => simp [intOf]; omega
       ·have gz : ((P.size : Int) == 2) = false := by simp; omega
        clear hz
        go_wp2_with fail
        go_roundw
        case rel => exact ⟨1, by go_num, by omega, by rw [HYY.out.2.1]; rfl, HYY.out.2.2, by rw [HYY.out.2.1]; have := HYY.out.1; have := HT.out; rw [show wtP 0 = 3600 from rfl]; exact ⟨by omega, by omega⟩, keepBelow HBr.out ((Below.refl _ _).alloc (Nat.le_refl _) _)⟩
        case measure => simp [intOf]; omega
   ·have HI0 := Lib.hid h0
    have gi : (0 : Int) < i := by omega
    have gi2 : ((i : Int) == 0) = false := by simp; omega
    have HBW := Lib.hid (keepBelow HB1.out HBr.out)
    by_cases hs3 : P.size = 2
    ·have HS2 : Hid (P.size ≤ 2) := Lib.hid (by omega)
     have HS3 := Lib.hid hs3
     have gs3 : ((P.size : Int) != 2) = false := by rw [hs3]; rfl
     have hwt : ∀ X : World, (X.alloc (.cells #[.int .i64 3600, .int .i64 60, .int .i64 1] 3)).cell? ⟨X.heap.size, i, none⟩ = some (.int .i64 (wtP i)) := fun X => by
      rcases (by omega : i = 1 ∨ i = 2) with rfl | rfl <;> simp [go_sem, wtP]
     have hw1 : 0 ≤ wtP i := by unfold wtP; split <;> decide
     have hw2 : wtP i ≤ 60 := by rcases (by omega : i = 1 ∨ i = 2) with rfl | rfl <;> decide
     clear hs1 hs2 hs3 h0
     go_wp2_with fail
     go_loopw [8, 9, 41] (fun u8 _ u41 wx => ∃ (k n : Nat), u41 = .int .i64 k ∧ u8 = .int .i64 n ∧ k ≤ P.size ∧ Hid (((bsO P).take k).all digC = true) ∧ Hid (n = decV ((bsO P).take k)) ∧ wx = wr) (fun _ _ u _ => P.size - (intOf u).toNat)
     case atStart => exact ⟨0, 0, rfl, rfl, Nat.zero_le _, Lib.hid rfl, Lib.hid rfl, rfl⟩
     case round =>
      obtain ⟨k, n, rfl, rfl, hk, HD, HV, hw⟩ := hrel
      rw [hw]
      clear hw
      have hn9 := HDB.out (by rw [bs_len]; exact HS2.out) k HD.out
      rw [← HV.out] at hn9
      have hnb : (n : Int) ≤ 99 := by omega
      have hkb : (k : Int) ≤ 2 := by have := HS2.out; omega
      by_cases hkt : k < P.size
      ·cases hd : digC P[k] with
       | false =>
        have HNO := Lib.hid (HBAD.out (okP_no fun q => not_dig hd ((q.2 HI0.out).2.1)))
        go_wp2_with (first | (go_at_call 143; refine (digit_any _ _).mono ?_; rintro e w' ⟨rfl, rfl⟩) | (fail))
        go_ret2
        exact ⟨span_ret HP.out HNO.out, HBW.out⟩
       | true =>
        have hd1 : 48 ≤ (P[k].toNat : Int) := by have := dig_of hd; omega
        have hd2 : (P[k].toNat : Int) ≤ 57 := by have := dig_of hd; omega
        have HT2 : Hid (((10 * n + (P[k].toNat - 48) : Nat)) = decV ((bsO P).take (k + 1))) := by
         rw [take_dig hkt, ← HV.out]
         exact Lib.hid rfl
        have HD2 : Hid (((bsO P).take (k + 1)).all digC = true) := by
         rw [List.take_add_one, List.getElem?_eq_getElem (by rw [bs_len]; exact hkt), bs_at P k hkt, List.all_append, HD.out]
         exact Lib.hid (by simp [hd])
        clear hn9
        go_wp2_with (first | (go_at_call 143; refine (digit_any _ _).mono ?_; rintro e w' ⟨rfl, rfl⟩) | (fail))
        go_roundw
        case rel => exact ⟨k + 1, 10 * n + (P[k].toNat - 48), by go_num, by congr 1; omega, by omega, HD2, HT2, by first | trivial | rfl⟩
        case measure => simp [intOf]; omega
      ·have hke : k = P.size := by omega
       have e : (bsO P).take k = bsO P := List.take_of_length_le (by rw [bs_len]; omega)
       rw [e] at HD HV
       clear e hn9
       by_cases hz : 59 < n
       ·have HNO := Lib.hid (HBAD.out (okP_no fun q => by have := (q.2 HI0.out).2.2; rw [← HV.out] at this; omega))
        have gz : (59 : Int) < n := by omega
        clear hz
        go_wp2_with fail
        go_ret2
        exact ⟨span_ret HP.out HNO.out, HBW.out⟩
       ·have HY := HNX.out (by
         unfold okP
         rw [if_neg HI0.out]
         exact (part_iff P).2 ⟨HS3.out, HD.out, by rw [← HV.out]; omega⟩)
        rw [← HV.out] at HY
        have HYY := Lib.hid HY
        have gz : ¬(59 : Int) < n := by omega
        have hmul : 0 ≤ (n : Int) * wtP i ∧ (n : Int) * wtP i ≤ 5940 := by
         refine ⟨Int.mul_nonneg (by omega) hw1, ?_⟩
         have := Int.mul_le_mul (show (n : Int) ≤ 99 by omega) hw2 hw1 (by omega)
         omega
        have hm1 := hmul.1
        have hm2 := hmul.2
        have HMU := Lib.hid hmul
        clear HY hz hmul
        go_wp2_with fail
        go_roundw
        case rel => exact ⟨i + 1, by go_num, by omega, by rw [HYY.out.2.1], HYY.out.2.2, by rw [HYY.out.2.1]; have := HMU.out; have := HT.out; exact ⟨by omega, by omega⟩, keepBelow HBr.out ((Below.refl _ _).alloc (Nat.le_refl _) _)⟩
        case measure => simp [intOf]; omega
    ·have HNO := Lib.hid (HBAD.out (okP_no fun q => hs3 (q.2 HI0.out).1))
     have gs3 : ((P.size : Int) != 2) = true := by simp; omega
     clear hs1 hs2 hs3
     go_wp2_with fail
     go_ret2
     exact ⟨span_ret HP.out HNO.out, HBW.out⟩
  ·have hie : i = LS.length := by omega
   obtain ⟨n, h1, h2⟩ := spanL_ok (LS := LS) HNE.out (by omega) (by rw [← hie]; exact HOK.out)
   rw [← hie] at h2
   have HNO : Hid (spanP (bsO s) = ((n : Int), true)) := Lib.hid (spanP_some (by rw [HLS.out]; exact h1))
   rw [h2]
   clear h1 h2
   go_wp2_with fail
   go_ret2
   exact ⟨span_ret HP.out HNO.out, keepBelow HB1.out HBr.out⟩
end Go.Proofs.YtlbglinpgjlbkaaGreatDoor
