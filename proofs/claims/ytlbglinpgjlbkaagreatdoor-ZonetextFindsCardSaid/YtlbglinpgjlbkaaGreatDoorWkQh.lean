import Derived.Test.YtlbglinpgjlbkaaGreatDoorWkQg
/- Zone texts: lines of a text (strings.Split at a newline); words as cells. -/
namespace Go.Proofs.YtlbglinpgjlbkaaGreatDoor
open Go.RowKit Wk

theorem keepFr {W w' : World} {a : Addr} {v : Value} {b : Bool} (hb : Below W.heap.size W w') (h : W.cell? a = some v) (hf : W.frozen? a = b) : w'.frozen? a = b :=
 (hb.frozen (p := a) (World.block_lt_of_cell? W a h)).trans hf
def Glob (w : World) : Prop := ∃ m, w.cell? ⟨0, 0, none⟩ = some (.int .i64 m)
theorem Glob.below {w w' : World} (h : Glob w) (hb : Below w.heap.size w w') : Glob w' := let ⟨m, hm⟩ := h; ⟨m, keepCell hb hm⟩
theorem count_lines (s : ByteArray) : (Lib.splitB ⟨#[10]⟩ 0 (Lib.countB s ⟨#[10]⟩) s).map (fun b => bsO b) = splitNl (bsO s) := by
 have h := Lib.splitB_data ⟨#[10]⟩ 0 (Lib.countB s ⟨#[10]⟩) s
 have e : Lib.splitK [10] 0 (Lib.count (bsO s) [10]) (bsO s) = splitNl (bsO s) := split_nl (bsO s)
 have hc : Lib.countB s ⟨#[10]⟩ = Lib.count (bsO s) [10] := rfl
 rw [hc] at h ⊢
 exact h.trans e
theorem count_nl : ∀ (n : Nat) (s : Bs), s.length ≤ n → (splitNl s).length = Lib.countFrom [10] (n + 1) s + 1
 | n, s, hn => by
  obtain ⟨g1, g2⟩ := take_while s 10
  rw [Lib.countFrom, index_one, split_take]
  by_cases h : s.contains 10 = true
  ·have hl := drop_less h
   rw [if_pos h, if_pos h, if_neg (by simp)]
   simp only [Int.toNat_natCast, List.length_cons, List.length_nil]
   rw [g2]
   cases n with
   | zero => omega
   | succ n =>
    rw [count_nl n _ (by omega)]
    omega
  ·rw [if_neg h, if_neg h, if_pos (by simp)]
   rfl
theorem lines_len (s : Bs) : (splitNl s).length ≤ s.length + 1 := by
 have := split_len s
 have h2 : ∀ l : List Bs, l.length ≤ (l.map fun x => x.length + 1).sum := by
  intro l
  induction l with
  | nil => simp
  | cons a r ih => simp only [List.length_cons, List.map_cons, List.sum_cons]; omega
 have := h2 (splitNl s)
 omega
theorem line_len (s : Bs) {l : Bs} (h : l ∈ splitNl s) : l.length ≤ s.length := by
 have := split_len s
 have h2 : ∀ L : List Bs, l ∈ L → l.length + 1 ≤ (L.map fun x => x.length + 1).sum := by
  intro L
  induction L with
  | nil => simp
  | cons a r ih =>
   intro hm
   simp only [List.map_cons, List.sum_cons]
   rcases List.mem_cons.1 hm with rfl | hm
   ·omega
   ·have := ih hm; omega
 have := h2 _ h
 omega
theorem split_any (s : ByteArray) (hs : s.size < 4294967281) (w : World) (hg : Glob w) :
  Calls Tryz.prog 116 #[.string s, .string ⟨#[10]⟩] w fun e w' => (∃ a c, e = .returned (.slice (some ⟨a, 0, none⟩) (splitNl (bsO s)).length c) ∧ ∀ i, i < (splitNl (bsO s)).length → w'.cell? ⟨a, i, none⟩ = some (.string ⟨((splitNl (bsO s)).getD i []).toArray⟩)) ∧ Below w.heap.size w w' := by
 obtain ⟨m, hm⟩ := hg
 refine (Tryz.strings_Split s ⟨#[10]⟩ m w hs hm (by decide)).mono ?_
 rintro e w' ⟨rfl, rfl⟩
 have hl := count_lines s
 have hlen : (Lib.splitB ⟨#[10]⟩ 0 (Lib.countB s ⟨#[10]⟩) s).length = (splitNl (bsO s)).length := by rw [← hl, List.length_map]
 have hn : (splitNl (bsO s)).length = Lib.countB s ⟨#[10]⟩ + 1 := count_nl _ _ (Nat.le_refl _)
 refine ⟨⟨w.heap.size, Lib.countB s ⟨#[10]⟩ + 1, by rw [hn], fun i hi => ?_⟩, (Below.refl _ w).alloc (Nat.le_refl _) _⟩
 rw [World.cell?_alloc_new, List.getElem?_toArray, List.getElem?_map]
 have hi2 : i < (Lib.splitB ⟨#[10]⟩ 0 (Lib.countB s ⟨#[10]⟩) s).length := by rw [hlen]; exact hi
 rw [List.getElem?_eq_getElem hi2]
 have hx : (splitNl (bsO s)).getD i [] = bsO (Lib.splitB ⟨#[10]⟩ 0 (Lib.countB s ⟨#[10]⟩) s)[i] := by
  rw [← hl, List.getD_eq_getElem?_getD, List.getElem?_map, List.getElem?_eq_getElem hi2]
  rfl
 rw [hx]
 rfl
def flT (t : Tok) : List Value := [.string ⟨t.tx.toArray⟩, .int .i64 t.ln, .int .i64 t.co]
theorem flT_len (t : Tok) : (flT t).length = 3 := rfl
end Go.Proofs.YtlbglinpgjlbkaaGreatDoor
namespace Go.Proofs.YtlbglinpgjlbkaaGreatDoor
open Go.RowKit Wk

theorem lex_go {ln : Nat} {l : Bs} {k : Nat} {st : LxS} (hk : k < l.length) (hb : badC l[k] = false) : lexS ln (l.drop k) (k + 1) st = lexS ln (l.drop (k + 1)) (k + 1 + 1) (lxStep ln (k + 1) st l[k]) := by
 rw [List.drop_eq_getElem_cons hk, lexS, if_neg (by rw [hb]; simp)]
theorem lex_bad {ln : Nat} {l : Bs} {k : Nat} {st : LxS} (hk : k < l.length) (hb : badC l[k] = true) : lexS ln (l.drop k) (k + 1) st = .inr (k + 1) := by
 rw [List.drop_eq_getElem_cons hk, lexS, if_pos hb]
theorem lex_end {ln : Nat} {l : Bs} {k : Nat} {st : LxS} (hk : k = l.length) : lexS ln (l.drop k) (k + 1) st = .inl st.ws := by
 rw [hk, List.drop_length, lexS]
def consL (out : List (List Tok)) : List (List Tok) ⊕ (Nat × Nat) → List (List Tok) ⊕ (Nat × Nat)
 | .inr p => .inr p
 | .inl o => .inl (out ++ o)
def LinI (LS : List Bs) (i : Nat) (out : List (List Tok)) : Prop := linesS 1 LS = consL out (linesS (i + 1) (LS.drop i)) ∧ out.length ≤ i
theorem LinI.start (LS : List Bs) : LinI LS 0 [] := by
 refine ⟨?_, Nat.le_refl _⟩
 show linesS 1 LS = consL [] (linesS 1 LS)
 cases linesS 1 LS <;> rfl
theorem lin_drop {LS : List Bs} {i : Nat} (h : i < LS.length) : LS.drop i = LS.getD i [] :: LS.drop (i + 1) := by
 rw [List.drop_eq_getElem_cons h, List.getD_eq_getElem?_getD, List.getElem?_eq_getElem h]
 rfl
theorem LinI.next {LS : List Bs} {i : Nat} {out : List (List Tok)} {ws : List Tok} (h : LinI LS i out) (hi : i < LS.length) (hl : lexL (i + 1) (LS.getD i []) = .inl ws) : LinI LS (i + 1) (if ws = [] then out else out ++ [ws]) := by
 obtain ⟨h, h2⟩ := h
 refine ⟨?_, by split <;> (try simp only [List.length_append, List.length_singleton]) <;> omega⟩
 rw [h, lin_drop hi, linesS, hl]
 simp only
 cases linesS (i + 1 + 1) (LS.drop (i + 1)) with
 | inr p => rfl
 | inl o =>
  unfold consL
  by_cases e : ws = []
  ·simp only [e, if_true]
  ·simp only [e, if_false, List.append_assoc]
   rfl
theorem LinI.bad {LS : List Bs} {i k : Nat} {out : List (List Tok)} (h : LinI LS i out) (hi : i < LS.length) (hl : lexL (i + 1) (LS.getD i []) = .inr k) : linesS 1 LS = .inr (i + 1, k) := by
 rw [h.1, lin_drop hi, linesS, hl]
 rfl
theorem LinI.fin {LS : List Bs} {i : Nat} {out : List (List Tok)} (h : LinI LS i out) (hi : i = LS.length) : linesS 1 LS = .inl out := by
 rw [h.1, hi, List.drop_length, linesS, consL, List.append_nil]
theorem linesM_in {s : Bs} {out : List (List Tok)} (hs : ¬65536 < s.length) (h : linesS 1 (splitNl s) = .inl out) : linesM s = (out, (0, 0), 0) := by
 unfold linesM
 rw [if_neg hs, h]
theorem linesM_out {s : Bs} {p : Nat × Nat} (hs : ¬65536 < s.length) (h : linesS 1 (splitNl s) = .inr p) : linesM s = ([], p, 3) := by
 unfold linesM
 rw [if_neg hs, h]
structure LexI (ln : Nat) (l : Bs) (k : Nat) (st : LxS) : Prop where
 eq : lexL ln l = lexS ln (l.drop k) (k + 1) st
 len : st.ws.length ≤ k
 tx : ∀ t ∈ st.ws, t.tx.length ≤ k
 op : st.op = true → st.ws ≠ []
theorem LexI.start (ln : Nat) (l : Bs) : LexI ln l 0 ⟨false, false, []⟩ := ⟨rfl, Nat.le_refl _, fun t h => by simp at h, fun h => by cases h⟩
theorem LexI.skip {ln : Nat} {l : Bs} {k : Nat} {st : LxS} {cm' : Bool} (h : LexI ln l k st) {hk : k < l.length} (hb : badC l[k] = false) (hcm : (st.cm || l[k] == 35) = cm') (hc : (cm' || blkC l[k]) = true) : LexI ln l (k + 1) ⟨cm', false, st.ws⟩ := by
 subst hcm
 refine ⟨?_, Nat.le_succ_of_le h.len, fun t ht => Nat.le_succ_of_le (h.tx t ht), fun q => by cases q⟩
 rw [h.eq, lex_go hk hb]
 unfold lxStep
 rw [if_pos hc]
theorem moreT_set (ws : List Tok) (c : UInt8) (h : ws ≠ []) : moreT ws c = ws.set (ws.length - 1) { (ws.getD (ws.length - 1) tok0) with tx := (ws.getD (ws.length - 1) tok0).tx ++ [c] } := by
 obtain ⟨a, t, rfl⟩ : ∃ a t, ws = a ++ [t] := ⟨ws.dropLast, ws.getLast h, (List.dropLast_concat_getLast h).symm⟩
 unfold moreT
 rw [List.dropLast_concat]
 simp [List.getD_eq_getElem?_getD]
theorem LexI.more {ln : Nat} {l : Bs} {k : Nat} {st : LxS} (h : LexI ln l k st) {hk : k < l.length} (hb : badC l[k] = false) (hc : (st.cm || l[k] == 35 || blkC l[k]) = false) (ho : st.op = true) {t : Tok} (ht : st.ws.getD (st.ws.length - 1) tok0 = t) : LexI ln l (k + 1) ⟨false, true, st.ws.set (st.ws.length - 1) { t with tx := t.tx ++ [l[k]] }⟩ := by
 have hne := h.op ho
 have hpos : 0 < st.ws.length := List.length_pos_iff.2 hne
 have hmem : t ∈ st.ws := by
  rw [← ht, List.getD_eq_getElem?_getD, List.getElem?_eq_getElem (by omega)]
  exact List.getElem_mem _
 refine ⟨?_, by rw [List.length_set]; exact Nat.le_succ_of_le h.len, fun u hu => ?_, fun _ => by intro q; exact hne (by simpa using q)⟩
 ·rw [h.eq, lex_go hk hb]
  unfold lxStep
  rw [if_neg (by rw [hc]; simp), if_pos ho, moreT_set _ _ hne, ht]
 ·rcases List.mem_or_eq_of_mem_set hu with q | rfl
  ·exact Nat.le_succ_of_le (h.tx u q)
  ·have := h.tx t hmem
   simp
   omega
theorem LexI.new {ln : Nat} {l : Bs} {k : Nat} {st : LxS} (h : LexI ln l k st) {hk : k < l.length} (hb : badC l[k] = false) (hc : (st.cm || l[k] == 35 || blkC l[k]) = false) (ho : st.op = false) : LexI ln l (k + 1) ⟨false, true, st.ws ++ [⟨[l[k]], ln, k + 1⟩]⟩ := by
 refine ⟨?_, by simp; exact h.len, fun u hu => ?_, fun _ => by simp⟩
 ·rw [h.eq, lex_go hk hb]
  unfold lxStep
  rw [if_neg (by rw [hc]; simp), if_neg (by rw [ho]; simp)]
 ·rcases List.mem_append.1 hu with q | q
  ·exact Nat.le_succ_of_le (h.tx u q)
  ·rw [List.mem_singleton] at q
   rw [q]
   simp
theorem Tryz.infoTok : (Tryz.prog.info? 88).map (fun i => (i.zero, i.size, i.bytes)) = some (some (.agg #[.string ⟨#[]⟩, .int .i64 0, .int .i64 0]), 3, 32) := by kernel_rfl
theorem Tryz.infoToks : (Tryz.prog.info? 77).map (fun i => (i.zero, i.size, i.bytes)) = some (some (.slice none 0 0), 1, 24) := by kernel_rfl
abbrev OwnLn (w : World) (B : Nat) (v : Value) (L : List (List Tok)) : Prop := OwnGG 77 88 3 flT w B v L
abbrev OwnTk (w : World) (B : Nat) (v : Value) (L : List Tok) : Prop := OwnG 88 3 flT w B v L
def posV (p : Nat × Nat) : Value := .agg #[.int .i64 p.1, .int .i64 p.2]
def LinP (s : Bs) (w : World) (e : Ending) (w' : World) : Prop := ∃ v, e = .returned (.tuple #[v, posV (linesM s).2.1, .int .i64 (linesM s).2.2]) ∧ OwnLn w' w.heap.size v (linesM s).1 ∧ Below w.heap.size w w'
theorem lin_done {s : Bs} {w w' : World} {v : Value} {r : List (List Tok) × (Nat × Nat) × Int} {a b c : Int} (h : linesM s = r) (ho : OwnLn w' w.heap.size v r.1) (hb : Below w.heap.size w w') (h1 : a = r.2.1.1) (h2 : b = r.2.1.2) (h3 : c = r.2.2) : LinP s w (.returned (.tuple #[v, .agg #[.int .i64 a, .int .i64 b], .int .i64 c])) w' := by
 subst h1 h2 h3
 exact ⟨v, by rw [h]; rfl, by rw [h]; exact ho, hb⟩

set_option maxRecDepth 100000 in
set_option maxHeartbeats 4000000 in
theorem lines_any (s : ByteArray) (hs : s.size < 4294967281) (w : World) (hg : Glob w) :
  Calls Tryz.prog 42 #[.string s] w (LinP (bsO s) w) := by
 go_enter Tryz.func42, Tryz.ntmps42
 by_cases h1 : (65536 : Int) < s.size
 ·have hm : linesM (bsO s) = ([], (0, 0), 5) := by
   unfold linesM
   rw [if_pos (by rw [bs_len]; omega)]
  have HM := Lib.hid hm
  clear hm
  have r0 : (w.alloc (.cells #[.int .i64 0, .int .i64 0] 29)).cell? ⟨w.heap.size, 0, none⟩ = some (.int .i64 0) := by simp [go_sem]
  have r1 : (w.alloc (.cells #[.int .i64 0, .int .i64 0] 29)).cell? ⟨w.heap.size, 1, none⟩ = some (.int .i64 0) := by simp [go_sem]
  go_wp2_with fail
  refine bodyPost_ret (v := .tuple #[.slice none 0 0, .agg #[.int .i64 0, .int .i64 0], .int .i64 5]) (by simp [results, Tryz.results42, go_sem, r0, r1]) rfl ?_
  exact lin_done HM.out (OwnGG.nil _ _) ((Below.refl _ w).alloc (Nat.le_refl _) _) rfl rfl rfl
 have hL : ¬65536 < (bsO s).length := by rw [bs_len]; omega
 have HL := Lib.hid hL
 have HSP : Hid (∀ w', Below w.heap.size w w' → Calls Tryz.prog 116 #[.string s, .string ⟨#[10]⟩] w' fun e w'' => (∃ a c, e = .returned (.slice (some ⟨a, 0, none⟩) (splitNl (bsO s)).length c) ∧ ∀ i, i < (splitNl (bsO s)).length → w''.cell? ⟨a, i, none⟩ = some (.string ⟨((splitNl (bsO s)).getD i []).toArray⟩)) ∧ Below w'.heap.size w' w'') := Lib.hid fun w' hb => split_any s hs w' (hg.below hb)
 clear hL
 obtain ⟨LS, hLS⟩ : ∃ LS, splitNl (bsO s) = LS := ⟨_, rfl⟩
 have HLN : Hid (LS.length ≤ 65537 ∧ ∀ l ∈ LS, l.length ≤ 65536) := Lib.hid (by
  have h1 := lines_len (bsO s)
  have h2 := HL.out
  rw [hLS] at h1
  exact ⟨by omega, fun l hl => by have := line_len (bsO s) (l := l) (by rw [hLS]; exact hl); omega⟩)
 rw [hLS] at HSP
 have HLS := Lib.hid hLS
 clear hLS
 obtain ⟨O, hO⟩ : ∃ O : Obj, (.cells #[.int .i64 0, .int .i64 0] 29) = O := ⟨_, rfl⟩
 obtain ⟨b3, hb3⟩ : ∃ b3, w.heap.size = b3 := ⟨_, rfl⟩
 go_upto_region 4 with fail
 try rw [hO]
 try rw [hb3]
 obtain ⟨X, hX⟩ : ∃ X, w.alloc O = X := ⟨_, rfl⟩
 rw [hX]
 have HBX : Hid (Below w.heap.size w X) := by unfold Hid; rw [← hX]; exact (Below.refl _ w).alloc (Nat.le_refl _) _
 have HXS : Hid (X.heap.size = b3 + 1) := by unfold Hid; rw [← hX, ← hb3]; simp
 have HC3 : Hid ((X.cell? ⟨b3, 0, none⟩ = some (.int .i64 0) ∧ X.frozen? ⟨b3, 0, none⟩ = false) ∧ X.cell? ⟨b3, 1, none⟩ = some (.int .i64 0) ∧ X.frozen? ⟨b3, 1, none⟩ = false) := by
  unfold Hid
  rw [← hX, ← hO, ← hb3]
  refine ⟨⟨?_, ?_⟩, ?_, ?_⟩ <;> simp [go_sem]
 clear hX hO
 go_wp2_with (first | (go_at_call 116; refine (HSP.out _ HBX.out).mono ?_; rintro e w1 ⟨⟨ga, gc, rfl, hc⟩, hb⟩) | fail)
 have HC := Lib.hid hc
 have HB1 := Lib.hid hb
 have hls : (LS.length : Int) ≤ 65537 := by have := HLN.out.1; omega
 clear hc hb HSP
 go_loopw [5, 6, 7, 8, 9, 10, 11, 12, 13, 21] (fun u5 _ _ _ _ _ _ _ _ u21 wr => ∃ (i : Nat) (L : List (List Tok)), u21 = .int .i64 i ∧ i ≤ LS.length ∧ OwnLn wr w1.heap.size u5 L ∧ Hid (LinI LS i L) ∧ Hid (Below w1.heap.size w1 wr)) (fun _ _ _ _ _ _ _ _ _ u _ => LS.length - (intOf u).toNat)
 case atStart => exact ⟨0, [], rfl, Nat.zero_le _, OwnGG.nil _ _, LinI.start LS, Below.refl _ _⟩
 case round =>
  obtain ⟨i, L, rfl, hi, ho, HI, HBr⟩ := hrel
  by_cases hlt : i < LS.length
  ·obtain ⟨T, hT⟩ : ∃ T : ByteArray, ⟨(LS.getD i []).toArray⟩ = T := ⟨_, rfl⟩
   have hq := keepCell HBr.out (HC.out i hlt)
   rw [hT] at hq
   have HT : Hid (bsO T = LS.getD i []) := Lib.hid (by rw [← hT])
   have hts : (T.size : Int) ≤ 65536 := by
    have h2 := HLN.out.2 (LS.getD i []) (by rw [List.getD_eq_getElem?_getD, List.getElem?_eq_getElem hlt]; exact List.getElem_mem _)
    rw [← HT.out, bs_len] at h2
    omega
   have HO := Lib.hid ho
   obtain ⟨a5, c5, rfl⟩ := ho.form
   clear hT ho
   go_wp2_with fail
   generalize wr = W2 at *
   go_loopw [8, 9, 10, 11, 12, 13, 28] (fun u8 u9 u10 _ _ _ u28 wx => ∃ (k : Nat) (st : LxS), u28 = .int .i64 k ∧ k ≤ T.size ∧ u9 = .bool st.cm ∧ u10 = .bool st.op ∧ OwnTk wx W2.heap.size u8 st.ws ∧ Hid (LexI (i + 1) (bsO T) k st) ∧ Hid (Below W2.heap.size W2 wx)) (fun _ _ _ _ _ _ u _ => T.size - (intOf u).toNat)
   case atStart => exact ⟨0, ⟨false, false, []⟩, rfl, Nat.zero_le _, rfl, rfl, OwnG.nil _ _, LexI.start _ _, Below.refl _ _⟩
   case round =>
    obtain ⟨k, st, rfl, hk, rfl, rfl, ho, HX, HBx⟩ := hrel
    by_cases hkt : k < T.size
    ·have hkl : k < (bsO T).length := by rw [bs_len]; exact hkt
     have HXK : Hid ((bsO T)[k] = T[k]) := bs_at T k hkt
     have HHO := Lib.hid ho
     obtain ⟨a8, c8, rfl⟩ := ho.form
     obtain ⟨PO, hPO⟩ : ∃ PO : Obj, (.cells #[.int .i64 ((i : Int) + 1), .int .i64 ((k : Int) + 1)] 29) = PO := ⟨_, rfl⟩
     obtain ⟨bp, hbp⟩ : ∃ bp, wr.heap.size = bp := ⟨_, rfl⟩
     clear ho
     have hkb : (k : Int) ≤ 65536 := by omega
     have hib : (i : Int) ≤ 65536 := by omega
     go_upto_region 14 with fail
     try rw [hPO]
     obtain ⟨Y, hY⟩ : ∃ Y, wr.alloc PO = Y := ⟨_, rfl⟩
     rw [hY]
     have p0 : Y.cell? ⟨bp, 0, none⟩ = some (.int .i64 ((i : Int) + 1)) := by rw [← hY, ← hPO, ← hbp]; simp [go_sem]
     have p1 : Y.cell? ⟨bp, 1, none⟩ = some (.int .i64 ((k : Int) + 1)) := by rw [← hY, ← hPO, ← hbp]; simp [go_sem]
     have hBY : Below wr.heap.size wr Y := by rw [← hY]; exact (Below.refl _ _).alloc (Nat.le_refl _) _
     have HOY := Lib.hid (HHO.out.below hBY)
     have HB2Y := Lib.hid (keepBelow HBx.out hBY)
     have HXY := Lib.hid (keepBelow (keepBelow (keepBelow HB1.out HBr.out) HBx.out) hBY)
     have HBP : Hid (bp < Y.heap.size ∧ b3 < bp) := by
      refine Lib.hid ⟨World.block_lt_of_cell? Y ⟨bp, 0, none⟩ p0, ?_⟩
      have h1 := HB1.out.size
      have h2 := HBr.out.size
      have h3 := HBx.out.size
      have h4 := HXS.out
      omega
     clear hY hPO hBY hbp
     cases hb : badC T[k] with
     | true =>
      have HBAD : Hid (linesM (bsO s) = ([], (i + 1, k + 1), 3)) := by
       refine Lib.hid (linesM_out HL.out ?_)
       rw [HLS.out]
       refine HI.out.bad hlt ?_
       rw [← HT.out, HX.out.eq]
       exact lex_bad hkl (by rw [HXK.out]; exact hb)
      have hne : bp ≠ b3 := by have := HBP.out.2; omega
      have hne2 : b3 ≠ bp := by have := HBP.out.2; omega
      have c0 := keepCell HXY.out HC3.out.1.1
      have c1 := keepCell HXY.out HC3.out.2.1
      have f0 := keepFr HXY.out HC3.out.1.1 HC3.out.1.2
      have f1 := keepFr HXY.out HC3.out.2.1 HC3.out.2.2
      have g9 : ((T[k].toNat : Int) != 9) = true := by
       unfold badC at hb
       rw [Bool.and_eq_true] at hb
       have h9 : T[k] ≠ 9 := by simpa using hb.1
       have := toNat_ne (x := T[k]) (n := 9) (by omega)
       have h92 : ¬(T[k].toNat : Int) = 9 := fun q => h9 (this.1 q)
       simpa using h92
      have HG : Hid ((T[k].toNat : Int) < 32 ∨ 126 < (T[k].toNat : Int)) := by
       unfold badC at hb
       rw [Bool.and_eq_true, Bool.or_eq_true, decide_eq_true_eq, decide_eq_true_eq] at hb
       exact Lib.hid (by omega)
      clear hb
      obtain ⟨Z, hZ⟩ : ∃ Z, (Y.setCell ⟨b3, 0, none⟩ (.int .i64 ((i : Int) + 1))).setCell ⟨b3, 1, none⟩ (.int .i64 ((k : Int) + 1)) = Z := ⟨_, rfl⟩
      have r0 : Z.drew.cell? ⟨b3, 0, none⟩ = some (.int .i64 ((i : Int) + 1)) := by rw [← hZ]; simp [go_sem, c0]
      have r1 : Z.drew.cell? ⟨b3, 1, none⟩ = some (.int .i64 ((k : Int) + 1)) := by rw [← hZ]; simp [go_sem, c1]
      have HBZ : Hid (Below w.heap.size w Z.drew) := by
       unfold Hid
       rw [← hZ]
       exact (((keepBelow HBX.out HXY.out).setCell (p := ⟨b3, 0, none⟩) (by rw [hb3]; exact Nat.le_refl _) _).setCell (p := ⟨b3, 1, none⟩) (by rw [hb3]; exact Nat.le_refl _) _).drew
      by_cases g32 : (T[k].toNat : Int) < 32
      ·go_upto_region 15 with fail
       go_region
       all_goals go_wp2_with fail
       all_goals refine bodyPost_ret (v := .tuple #[.slice none 0 0, .agg #[.int .i64 ((i : Int) + 1), .int .i64 ((k : Int) + 1)], .int .i64 3]) (by simp [results, Tryz.results42, go_sem, r0, r1]) rfl ?_
       all_goals exact lin_done HBAD.out (OwnGG.nil _ _) HBZ.out rfl rfl rfl
      ·have g126 : 126 < (T[k].toNat : Int) := by have := HG.out; omega
       go_upto_region 15 with fail
       go_region
       all_goals go_wp2_with fail
       all_goals refine bodyPost_ret (v := .tuple #[.slice none 0 0, .agg #[.int .i64 ((i : Int) + 1), .int .i64 ((k : Int) + 1)], .int .i64 3]) (by simp [results, Tryz.results42, go_sem, r0, r1]) rfl ?_
       all_goals exact lin_done HBAD.out (OwnGG.nil _ _) HBZ.out rfl rfl rfl
     | false =>
      obtain ⟨cm, op, ws⟩ := st
      simp only at HX HHO HOY ⊢
      have HBF : Hid (badC (bsO T)[k] = false) := Lib.hid (by rw [HXK.out]; exact hb)
      have hn : ∀ n : Nat, n < 256 → ((T[k].toNat : Int) = (n : Int) ↔ T[k] = UInt8.ofNat n) := fun n h => toNat_ne h
      by_cases e9 : (T[k].toNat : Int) = 9
      ·have x9 : T[k] = 9 := (hn 9 (by omega)).1 e9
       have HSK : Hid (LexI (i + 1) (bsO T) (k + 1) ⟨cm, false, ws⟩) := Lib.hid (HX.out.skip HBF.out (by rw [HXK.out, x9]; cases cm <;> rfl) (by rw [HXK.out, x9]; cases cm <;> rfl))
       have g9 : ((T[k].toNat : Int) != 9) = false := by rw [e9]; rfl
       have g35 : ((T[k].toNat : Int) == 35) = false := by rw [e9]; rfl
       have g32 : ((T[k].toNat : Int) == 32) = false := by rw [e9]; rfl
       have h9 : ((T[k].toNat : Int) == 9) = true := by rw [e9]; rfl
       clear hn hb x9 e9
       cases cm with
       | true =>
        go_wp2_with fail
        go_roundw
        case rel => exact ⟨k + 1, _, by go_num, by omega, rfl, rfl, HOY.out, HSK, HB2Y⟩
        case measure => simp [intOf]; omega
       | false =>
        go_wp2_with fail
        go_roundw
        case rel => exact ⟨k + 1, _, by go_num, by omega, rfl, rfl, HOY.out, HSK, HB2Y⟩
        case measure => simp [intOf]; omega
      ·have x9 : T[k] ≠ 9 := fun q => e9 ((hn 9 (by omega)).2 q)
       have g9 : ((T[k].toNat : Int) != 9) = true := by simpa using e9
       have h9 : ((T[k].toNat : Int) == 9) = false := by simpa using e9
       have hr : 32 ≤ T[k].toNat ∧ T[k].toNat ≤ 126 := by
        have h2 : (T[k] == 9) = false := by simpa using x9
        unfold badC at hb
        rw [h2, Bool.not_false, Bool.true_and, Bool.or_eq_false_iff, decide_eq_false_iff_not, decide_eq_false_iff_not] at hb
        omega
       have g32 : ¬(T[k].toNat : Int) < 32 := by omega
       have g126 : ¬126 < (T[k].toNat : Int) := by omega
       cases cm with
       | true =>
        have HSK : Hid (LexI (i + 1) (bsO T) (k + 1) ⟨true, false, ws⟩) := Lib.hid (HX.out.skip HBF.out rfl rfl)
        clear hn hb hr e9
        go_wp2_with fail
        go_roundw
        case rel => exact ⟨k + 1, _, by go_num, by omega, rfl, rfl, HOY.out, HSK, HB2Y⟩
        case measure => simp [intOf]; omega
       | false =>
        by_cases e35 : (T[k].toNat : Int) = 35
        ·have x35 : T[k] = 35 := (hn 35 (by omega)).1 e35
         have HSK : Hid (LexI (i + 1) (bsO T) (k + 1) ⟨true, false, ws⟩) := Lib.hid (HX.out.skip HBF.out (by rw [HXK.out, x35]; rfl) rfl)
         have g35 : ((T[k].toNat : Int) == 35) = true := by rw [e35]; rfl
         clear hn hb hr e9 x35 e35
         go_wp2_with fail
         go_roundw
         case rel => exact ⟨k + 1, _, by go_num, by omega, rfl, rfl, HOY.out, HSK, HB2Y⟩
         case measure => simp [intOf]; omega
        ·have x35 : T[k] ≠ 35 := fun q => e35 ((hn 35 (by omega)).2 q)
         have x35b : (T[k] == 35) = false := by simpa using x35
         have g35 : ((T[k].toNat : Int) == 35) = false := by simpa using e35
         by_cases e32 : (T[k].toNat : Int) = 32
         ·have x32 : T[k] = 32 := (hn 32 (by omega)).1 e32
          have HSK : Hid (LexI (i + 1) (bsO T) (k + 1) ⟨false, false, ws⟩) := Lib.hid (HX.out.skip HBF.out (by rw [HXK.out, x32]; rfl) (by rw [HXK.out, x32]; rfl))
          have h32 : ((T[k].toNat : Int) == 32) = true := by rw [e32]; rfl
          clear hn hb hr e9 x32 e32 e35 x35
          go_wp2_with fail
          go_roundw
          case rel => exact ⟨k + 1, _, by go_num, by omega, rfl, rfl, HOY.out, HSK, HB2Y⟩
          case measure => simp [intOf]; omega
         ·have x32 : T[k] ≠ 32 := fun q => e32 ((hn 32 (by omega)).2 q)
          have h32 : ((T[k].toNat : Int) == 32) = false := by simpa using e32
          have HNC : Hid ((false || T[k] == 35 || blkC T[k]) = false) := Lib.hid (by
           unfold blkC
           rw [x35b, show (T[k] == 32) = false by simpa using x32, show (T[k] == 9) = false by simpa using x9]
           rfl)
          clear hn hb hr e9 x32 e32 e35 x35 x9 x35b
          go_upto_if 65 with fail
          go_cut [8, 10, 28] from 28 to 86 (fun u8 u10 u28 wx => u10 = .bool true ∧ u28 = .int .i64 k ∧ ∃ (N : List Tok) (m : Nat), N.length = m + 1 ∧ OwnTk wx W2.heap.size u8 N ∧ Hid ((N.getD m tok0).tx.length ≤ k ∧ m ≤ k ∧ LexI (i + 1) (bsO T) (k + 1) ⟨false, true, N.set m { (N.getD m tok0) with tx := (N.getD m tok0).tx ++ [T[k]] }⟩) ∧ Hid (Below W2.heap.size W2 wx))
          case first =>
           cases op with
           | true =>
            have hne := HX.out.op rfl
            have hpos : 0 < ws.length := List.length_pos_iff.2 hne
            have HRL : Hid (∃ m, ws.length = m + 1 ∧ (ws.getD m tok0).tx.length ≤ k ∧ m ≤ k ∧ LexI (i + 1) (bsO T) (k + 1) ⟨false, true, ws.set m { (ws.getD m tok0) with tx := (ws.getD m tok0).tx ++ [T[k]] }⟩) := by
             refine Lib.hid ⟨ws.length - 1, by omega, HX.out.tx _ ?_, by have := HX.out.len; simp only at this; omega, ?_⟩
             ·rw [List.getD_eq_getElem?_getD, List.getElem?_eq_getElem (show ws.length - 1 < ws.length by omega)]
              exact List.getElem_mem _
             ·have := HX.out.more HBF.out (by rw [HXK.out]; exact HNC.out) rfl rfl
              rw [HXK.out] at this
              exact this
            clear hne hpos
            go_wp2_with fail
            go_meet
            case rel =>
             obtain ⟨m, q1, q2, q3, q4⟩ := HRL.out
             exact ⟨rfl, rfl, ws, m, q1, HOY.out, ⟨q2, q3, q4⟩, HB2Y⟩
           | false =>
            have HRL : Hid (LexI (i + 1) (bsO T) (k + 1) ⟨false, true, ws ++ [⟨[T[k]], i + 1, k + 1⟩]⟩) := Lib.hid (by
             have := HX.out.new HBF.out (by rw [HXK.out]; exact HNC.out) rfl
             rw [HXK.out] at this
             exact this)
            have HWL : Hid (ws.length ≤ 65536 ∧ ws.length ≤ k) := Lib.hid (by have := HX.out.len; simp only at this; omega)
            go_wp2_with (at_builtin; refine wpList_app_G (z := (⟨[], i + 1, k + 1⟩ : Tok)) (w0 := W2) (B := W2.heap.size) flT_len (by decide) Tryz.underlying77 Tryz.infoTok rfl (by decide) rfl (.tmp 66) (.tmp 69) rfl rfl HOY.out (Nat.le_refl _) HB2Y.out.size HB2Y.out (by intro u hu; simp [flT] at hu; rcases hu with rfl | rfl | rfl <;> rfl) rfl rfl (by have := HWL.out; omega) (by simp [flT]) ?_; intro v2 V2 o2 b2 k2 g2 z2; clear k2 g2 z2)
            go_meet
            case rel =>
             refine ⟨rfl, rfl, ws ++ [⟨[], i + 1, k + 1⟩], ws.length, by simp, o2, ⟨?_, HWL.out.2, ?_⟩, b2⟩
             ·simp [List.getD_eq_getElem?_getD]
             ·have := HRL.out
              simp [List.getD_eq_getElem?_getD]
              exact this
          case rest =>
          obtain ⟨rfl, rfl, N, m, hN, hoN, HLX, HBN⟩ := hcut
          generalize wc = V at *
          obtain ⟨g8, c9, rfl, hg1, hg2⟩ := hoN.pos (by omega)
          have ⟨q0, f0⟩ := hoN.cell flT_len tok0 (i := m) (j := 0) (u := .string ⟨(N.getD m tok0).tx.toArray⟩) (by omega) (by decide) rfl
          obtain ⟨A, hA⟩ : ∃ A : ByteArray, ⟨(N.getD m tok0).tx.toArray⟩ = A := ⟨_, rfl⟩
          rw [hA] at q0
          have has : (A.size : Int) ≤ 65536 := by
           have h2 := HLX.out.1
           have : A.size = (N.getD m tok0).tx.length := by rw [← hA]; simp [ByteArray.size]
           omega
          have hmk : (m : Int) ≤ 65536 := by have := HLX.out.2.1; omega
          rw [Nat.add_zero] at q0 f0
          have HA := Lib.hid hA
          have HG8 := Lib.hid (And.intro hg1 hg2)
          have HON := Lib.hid hoN
          have HN := Lib.hid hN
          rw [hN]
          clear hA hoN hg1 hg2 hN
          obtain ⟨Z, hZ⟩ : ∃ Z, V.setCell ⟨g8, m * 3, none⟩ (.string (A ++ T.extract k (k + 1))) = Z := ⟨_, rfl⟩
          have HOZ : Hid (OwnTk Z.drew W2.heap.size (.slice (some ⟨g8, 0, none⟩) (m + 1) c9) (N.set m { (N.getD m tok0) with tx := (N.getD m tok0).tx ++ [T[k]] })) := by
           have := HON.out.setAt flT_len tok0 (i := m) (j := 0) (by have := HN.out; omega) (by decide) (.string (A ++ T.extract k (k + 1))) { (N.getD m tok0) with tx := (N.getD m tok0).tx ++ [T[k]] } (by
            have e : (⟨((N.getD m tok0).tx ++ [T[k]]).toArray⟩ : ByteArray) = A ++ T.extract k (k + 1) := by
             apply bs_inj
             rw [bs_app, bs_ext, ← HA.out]
             show (N.getD m tok0).tx ++ [T[k]] = (N.getD m tok0).tx ++ ((bsO T).take (k + 1)).drop k
             rw [List.drop_take, show k + 1 - k = 1 by omega, List.drop_eq_getElem_cons hkl, HXK.out]
             rfl
            show [Value.string _, _, _] = [Value.string _, _, _]
            rw [e])
           rw [HN.out, Nat.add_zero, hZ] at this
           exact Lib.hid (World.ownsRow.drew this)
          have HBZ : Hid (Below W2.heap.size W2 Z.drew) := by
           unfold Hid
           rw [← hZ]
           exact (HBN.out.setCell (p := ⟨g8, m * 3, none⟩) HG8.out.1 _).drew
          go_upto_region 22 with fail
          go_region
          all_goals go_wp2_with fail
          all_goals go_roundw
          case rel => first | exact ⟨k + 1, ⟨false, true, N.set m { (N.getD m tok0) with tx := (N.getD m tok0).tx ++ [T[k]] }⟩, by go_num, by omega, rfl, rfl, by simpa [HN.out] using HOZ.out, HLX.out.2.2, HBZ⟩ | exact ⟨k + 1, ⟨false, true, N.set m { (N.getD m tok0) with tx := (N.getD m tok0).tx ++ [T[k]] }⟩, by go_num, by omega, rfl, rfl, by rw [List.length_set, HN.out]; exact HOZ.out, HLX.out.2.2, HBZ⟩
          case measure => simp [intOf]; omega
    ·obtain rfl : k = T.size := by omega
     have HLE : Hid (lexL (i + 1) (LS.getD i []) = .inl st.ws) := Lib.hid (by rw [← HT.out, HX.out.eq]; exact lex_end (bs_len T).symm)
     have HIN := Lib.hid (HI.out.next hlt HLE.out)
     have HTO := Lib.hid ho
     obtain ⟨a8, c8, rfl⟩ := ho.form
     have HBW := Lib.hid (keepBelow HBr.out HBx.out)
     have HLo := Lib.hid (HO.out.below HBx.out)
     clear ho
     by_cases hz : st.ws = []
     ·rw [if_pos hz] at HIN
      have hz0 : ¬0 < st.ws.length := by rw [hz]; simp
      clear hz
      go_wp2_with fail
      go_roundw
      case rel => exact ⟨i + 1, L, by go_num, by omega, HLo.out, HIN, HBW⟩
      case measure => simp [intOf]; omega
     ·rw [if_neg hz] at HIN
      have hz0 : 0 < st.ws.length := List.length_pos_iff.2 hz
      have HLL : Hid (L.length < 1000000) := Lib.hid (by have := HI.out.2; have := HLN.out.1; omega)
      clear hz
      go_wp2_with (at_builtin; refine wpList_app_GG (L := st.ws) (xv := .slice a8 st.ws.length c8) (w0 := w1) (B := w1.heap.size) (by decide) Tryz.underlying74 Tryz.infoToks rfl (.tmp 90) (.tmp 92) rfl rfl HLo.out (HTO.out.mono HBr.out.size) (Nat.le_refl _) HBW.out.size HBW.out rfl rfl HLL.out rfl ?_; intro v2 V2 o2 b2 k2 z2; clear k2 z2)
      go_roundw
      case rel => exact ⟨i + 1, L ++ [st.ws], by go_num, by omega, o2, HIN, b2⟩
      case measure => simp [intOf]; omega
  ·obtain rfl : i = LS.length := by omega
   have HF := Lib.hid (HI.out.fin rfl)
   have HO := Lib.hid ho
   obtain ⟨a5, c5, rfl⟩ := ho.form
   have HXW := Lib.hid (keepBelow HB1.out HBr.out)
   have c0 := keepCell HXW.out HC3.out.1.1
   have c1 := keepCell HXW.out HC3.out.2.1
   have f0 := keepFr HXW.out HC3.out.1.1 HC3.out.1.2
   have f1 := keepFr HXW.out HC3.out.2.1 HC3.out.2.2
   have HM : Hid (linesM (bsO s) = (L, (0, 0), 0)) := Lib.hid (linesM_in HL.out (by rw [HLS.out]; exact HF.out))
   clear ho
   obtain ⟨Z, hZ⟩ : ∃ Z, (wr.setCell ⟨b3, 0, none⟩ (.int .i64 0)).setCell ⟨b3, 1, none⟩ (.int .i64 0) = Z := ⟨_, rfl⟩
   have r0 : Z.cell? ⟨b3, 0, none⟩ = some (.int .i64 0) := by rw [← hZ]; simp [go_sem, c0]
   have r1 : Z.cell? ⟨b3, 1, none⟩ = some (.int .i64 0) := by rw [← hZ]; simp [go_sem, c1]
   have HBZ : Hid (Below w.heap.size w Z) := by
    unfold Hid
    rw [← hZ]
    exact ((keepBelow HBX.out HXW.out).setCell (p := ⟨b3, 0, none⟩) (by rw [hb3]; exact Nat.le_refl _) _).setCell (p := ⟨b3, 1, none⟩) (by rw [hb3]; exact Nat.le_refl _) _
   have HOZ : Hid (OwnLn Z w.heap.size (.slice a5 L.length c5) L) := by
    have h1 := HB1.out.size
    have h2 := HXS.out
    refine Lib.hid (OwnGG.mono (OwnGG.high HO.out fun g hg => ?_) (show w.heap.size ≤ w1.heap.size by omega))
    rw [← hZ, Below.heap_setCell _ _ _ _ (show g ≠ b3 by omega), Below.heap_setCell _ _ _ _ (show g ≠ b3 by omega)]
   go_wp2_with fail
   refine bodyPost_ret (v := .tuple #[.slice a5 L.length c5, .agg #[.int .i64 0, .int .i64 0], .int .i64 0]) (by simp [results, Tryz.results42, go_sem, r0, r1]) rfl ?_
   exact lin_done HM.out HOZ.out HBZ.out rfl rfl rfl
end Go.Proofs.YtlbglinpgjlbkaaGreatDoor
