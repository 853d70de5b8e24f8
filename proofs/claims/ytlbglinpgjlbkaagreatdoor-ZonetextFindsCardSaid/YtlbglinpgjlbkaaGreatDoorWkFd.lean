import Derived.Test.YtlbglinpgjlbkaaGreatDoorWkFz
/- Zone texts: slices.DeleteFunc at rules; the program's Rules. Printed by gen_fd.py. No conditions. -/
namespace Go.Proofs.YtlbglinpgjlbkaaGreatDoor
open Go.RowKit Wk

def setsC (w : World) (g p : Nat) : List Value → World
 | [] => w
 | v :: r => setsC (w.setCell ⟨g, p, none⟩ v) g (p + 1) r
def setsL (xs : List Value) (p : Nat) : List Value → List Value
 | [] => xs
 | v :: r => setsL (xs.set p v) (p + 1) r
theorem setsL_get (k : Nat) : ∀ (vs xs : List Value) (p : Nat), (setsL xs p vs)[k]? = if p ≤ k ∧ k < p + vs.length ∧ k < xs.length then vs[k - p]? else xs[k]?
 | [], xs, p => by
  rw [if_neg (by simp only [List.length_nil]; omega)]
  rfl
 | v :: r, xs, p => by
  show (setsL (xs.set p v) (p + 1) r)[k]? = _
  rw [setsL_get k r (xs.set p v) (p + 1), List.length_set, List.length_cons]
  by_cases h1 : p + 1 ≤ k ∧ k < p + 1 + r.length ∧ k < xs.length
  ·rw [if_pos h1, if_pos (by omega), show k - p = (k - (p + 1)) + 1 by omega]
   rfl
  ·rw [if_neg h1]
   by_cases h2 : k = p
   ·subst h2
    by_cases h3 : k < xs.length
    ·rw [if_pos (by omega), List.getElem?_set_self h3, Nat.sub_self]
     rfl
    ·rw [if_neg (by omega), List.getElem?_eq_none (by rw [List.length_set]; omega), List.getElem?_eq_none (by omega)]
   ·rw [if_neg (by omega), List.getElem?_set_ne (Ne.symm h2)]
theorem flatG_setEl {α : Type} {sz : Nat} {fl : α → List Value} (hf : ∀ x, (fl x).length = sz) (h0 : 0 < sz) (d : α) (L : List α) (i : Nat) (x : α) (hi : i < L.length) : flatG fl (L.set i x) = setsL (flatG fl L) (i * sz) (fl x) := by
 refine List.ext_getElem? fun k => ?_
 rw [setsL_get, flatG_length hf, hf]
 by_cases hk : k < L.length * sz
 ·have hq : k / sz < L.length := Nat.div_lt_of_lt_mul (by rw [Nat.mul_comm]; exact hk)
  have hr : k % sz < sz := Nat.mod_lt _ h0
  have hkk : k = k / sz * sz + k % sz := by rw [Nat.mul_comm]; exact (Nat.div_add_mod k sz).symm
  have e1 : (flatG fl (L.set i x))[k]? = (fl ((L.set i x).getD (k / sz) d))[k % sz]? := by
   rw [← flatG_get hf d (L.set i x) _ _ (by rw [List.length_set]; exact hq) hr, ← hkk]
  have e2 : (flatG fl L)[k]? = (fl (L.getD (k / sz) d))[k % sz]? := by
   rw [← flatG_get hf d L _ _ hq hr, ← hkk]
  rw [e1, e2]
  by_cases h : k / sz = i
  ·subst h
   rw [if_pos (by omega), List.getD_eq_getElem?_getD, List.getElem?_set_self hi, show k - k / sz * sz = k % sz by omega]
   rfl
  ·have hne : ¬(i * sz ≤ k ∧ k < i * sz + sz ∧ k < L.length * sz) := by
    rintro ⟨p1, p2, -⟩
    refine h ?_
    rw [Nat.div_eq_iff h0]
    omega
   rw [if_neg hne, List.getD_eq_getElem?_getD, List.getElem?_set_ne (Ne.symm h), ← List.getD_eq_getElem?_getD]
 ·rw [if_neg (by omega), List.getElem?_eq_none (by rw [flatG_length hf, List.length_set]; omega), List.getElem?_eq_none (by rw [flatG_length hf]; omega)]
theorem owns_sets {B : Nat} {T : TypeId} {sz n g c : Nat} : ∀ (vs : List Value) (w : World) (xs : List Value) (p : Nat), w.ownsRow B T sz (.slice (some ⟨g, 0, none⟩) n c) n xs → (setsC w g p vs).ownsRow B T sz (.slice (some ⟨g, 0, none⟩) n c) n (setsL xs p vs)
 | [], _, _, _, h => h
 | v :: r, _, _, p, h => owns_sets r _ _ (p + 1) (World.ownsRow.stored h p v).1
theorem OwnG.setEl {α : Type} {T : TypeId} {sz : Nat} {fl : α → List Value} (hf : ∀ x, (fl x).length = sz) (h0 : 0 < sz) {w : World} {B g c n : Nat} {L : List α} (hn : L.length = n) (h : OwnG T sz fl w B (.slice (some ⟨g, 0, none⟩) n c) L) (d : α) {i : Nat} (hi : i < L.length) (x : α) :
  OwnG T sz fl (setsC w g (i * sz) (fl x)) B (.slice (some ⟨g, 0, none⟩) n c) (L.set i x) := by
 subst hn
 unfold OwnG
 rw [List.length_set, flatG_setEl hf h0 d L i x hi]
 exact owns_sets (fl x) w _ _ h
theorem sets_far {g b : Nat} (h : b ≠ g) : ∀ (vs : List Value) (w : World) (p : Nat), (setsC w g p vs).heap[b]? = w.heap[b]?
 | [], _, _ => rfl
 | v :: r, w, p => (sets_far h r (w.setCell ⟨g, p, none⟩ v) (p + 1)).trans (set_far h)
theorem sets_below {w0 : World} {g : Nat} (hg : w0.heap.size ≤ g) : ∀ (vs : List Value) (w : World) (p : Nat), Below w0.heap.size w0 w → Below w0.heap.size w0 (setsC w g p vs)
 | [], _, _, h => h
 | v :: r, _, p, h => sets_below hg r _ (p + 1) (h.setCell (p := ⟨g, p, none⟩) hg v)
theorem OwnG.front {α : Type} {T : TypeId} {sz : Nat} {fl : α → List Value} (hf : ∀ x, (fl x).length = sz) {w w' : World} {B g c n : Nat} {L : List α} (h : OwnG T sz fl w B (.slice (some ⟨g, 0, none⟩) n c) L) (hn : L.length = n) {i : Nat} (hi : i ≤ n) {cur : Array Value} (hc : w.heap[g]? = some (.cells cur T (0, 0))) {ys : List Value} (hl : ys.length = n * sz - i * sz)
  (hw : w'.heap[g]? = some (.cells (cur.toList.take (i * sz) ++ ys ++ cur.toList.drop (i * sz + ys.length)).toArray T (0, 0))) : OwnG T sz fl w' B (.slice (some ⟨g, 0, none⟩) i c) (L.take i) := by
 subst hn
 rcases h.2 with ⟨e, _⟩ | ⟨g', cap, cur', e, hb, hg, hlc, hm, hcs, hx⟩
 ·cases e
 ·cases e
  rw [hc] at hg
  cases hg
  have hli : (L.take i).length = i := by rw [List.length_take]; omega
  have h1 : i * sz ≤ L.length * sz := Nat.mul_le_mul_right _ hi
  have h2 : L.length * sz ≤ c * sz := Nat.mul_le_mul_right _ hlc
  refine ⟨by rw [flatG_length hf], .inr ⟨g, c, _, by rw [hli], hb, hw, by omega, hm, ?_, ?_⟩⟩
  ·rw [List.size_toArray, List.length_append, List.length_append, List.length_take, List.length_drop, Array.length_toList, hcs]
   omega
  ·rw [hli]
   show ((cur.toList.take (i * sz) ++ ys ++ cur.toList.drop (i * sz + ys.length))).take (i * sz) = _
   have hlt : (cur.toList.take (i * sz)).length = i * sz := by rw [List.length_take, Array.length_toList, hcs]; omega
   rw [List.append_assoc, List.take_append_of_le_length (by rw [hlt]; exact Nat.le_refl _), List.take_of_length_le (by rw [hlt]; exact Nat.le_refl _)]
   have : flatG fl (L.take i) = (flatG fl L).take (i * sz) := by
    have q := flatG_append fl (L.take i) (L.drop i)
    rw [List.take_append_drop] at q
    rw [q, List.take_append_of_le_length (by rw [flatG_length hf, hli]; exact Nat.le_refl _)]
    exact (List.take_of_length_le (by rw [flatG_length hf, hli]; exact Nat.le_refl _)).symm
   rw [this, ← hx, List.take_take, Nat.min_eq_left h1]
theorem run_clear_row {P : Program} (w : World) (t e ty T : TypeId) (z : Value) (ht : P.underlying t = some (.slice e)) (hv : ∀ w, (zeroValue e).run P w = .ok z w) (g o n c : Nat) (cur : Array Value) (hg : w.heap[g]? = some (.cells cur T (0, 0)))
  (h1 : ∀ v ∈ (Builtin.zeroCells z.cells n).toList, v.oneCell' = true) (hfit : o + (Builtin.zeroCells z.cells n).toList.length ≤ cur.size) (hn : 0 < n) :
  (Builtin.clear_ #[t] ty #[.slice (some ⟨g, o, none⟩) n c]).run P w = .ok (.tuple #[]) (w.setRow g (cur.toList.take o ++ (Builtin.zeroCells z.cells n).toList ++ cur.toList.drop (o + (Builtin.zeroCells z.cells n).toList.length)).toArray) := by
 have hst := run_storeCells_at P g o T (Builtin.zeroCells z.cells n).toList 0 cur w hg (by simpa using hfit) h1
 simp only [Nat.add_zero] at hst
 obtain ⟨m, rfl⟩ : ∃ m, n = m + 1 := ⟨n - 1, by omega⟩
 simp [Builtin.clear_, run_underlying ht, hv, hst]
structure FilI (p : RuT → Bool) (L M : List RuT) (i j : Nat) : Prop where
 lt : i < j
 le : j ≤ L.length
 len : M.length = L.length
 top : M.take i = (L.take j).filter p
 cnt : ((L.take j).filter p).length = i
 rest : ∀ k, j ≤ k → M.getD k ru0 = L.getD k ru0
theorem FilI.start {p : RuT → Bool} {L : List RuT} {i : Nat} (hi : i < L.length) (h : ∀ j, j < i → p (L.getD j ru0) = true) (hp : p (L.getD i ru0) = false) : FilI p L L i (i + 1) := by
 have e : (L.take (i + 1)).filter p = L.take i := by
  rw [filter_go (d := ru0) hi, if_neg (by rw [hp]; simp), List.append_nil, List.filter_eq_self.2 fun x hx => by
   obtain ⟨k, hk, rfl⟩ := List.mem_iff_getElem.1 hx
   have hk2 : k < i := by rw [List.length_take] at hk; omega
   have q := h k hk2
   rw [List.getD_eq_getElem?_getD, List.getElem?_eq_getElem (by omega)] at q
   rw [List.getElem_take]
   exact q]
 exact ⟨by omega, by omega, rfl, e.symm, by rw [e, List.length_take]; omega, fun k _ => rfl⟩
theorem FilI.keep {p : RuT → Bool} {L M : List RuT} {i j : Nat} (h : FilI p L M i j) (hj : j < L.length) (hp : p (L.getD j ru0) = true) : FilI p L (M.set i (L.getD j ru0)) (i + 1) (j + 1) := by
 have hi := h.lt
 have e := filter_go (p := p) (d := ru0) hj
 rw [if_pos hp] at e
 refine ⟨by omega, hj, by rw [List.length_set]; exact h.len, ?_, by rw [e, List.length_append, h.cnt]; rfl, fun k hk => ?_⟩
 ·rw [e, ← h.top, List.take_add_one, List.take_set_of_le (Nat.le_refl _), List.getElem?_set_self (by rw [h.len]; omega)]
  rfl
 ·rw [List.getD_eq_getElem?_getD, List.getElem?_set_ne (by omega), ← List.getD_eq_getElem?_getD]
  exact h.rest k (by omega)
theorem FilI.drop {p : RuT → Bool} {L M : List RuT} {i j : Nat} (h : FilI p L M i j) (hj : j < L.length) (hp : p (L.getD j ru0) = false) : FilI p L M i (j + 1) := by
 have hi := h.lt
 have e := filter_go (p := p) (d := ru0) hj
 rw [if_neg (by rw [hp]; simp), List.append_nil] at e
 exact ⟨by omega, hj, h.len, by rw [e]; exact h.top, by rw [e]; exact h.cnt, fun k hk => h.rest k (by omega)⟩
theorem FilI.fin {p : RuT → Bool} {L M : List RuT} {i j : Nat} (h : FilI p L M i j) (hj : j = L.length) : M.take i = L.filter p ∧ i < L.length := by
 subst hj
 have := h.top
 rw [List.take_length] at this
 exact ⟨this, h.lt⟩
set_option maxRecDepth 100000 in
set_option maxHeartbeats 2000000 in
theorem idx_ruleN (pb : Nat) (f : RuT → Bool) (v : Value) (L : List RuT) (w : World) (h : RdRu w v L) (HF : Hid (∀ x, x ∈ L → ∀ W, Below w.heap.size w W → Calls Tryz.prog 86 #[(.agg (flRu x).toArray), .pointer (some ⟨pb, 0, none⟩)] W fun e w' => e = .returned (.bool (f x)) ∧ Below W.heap.size W w')) :
  Calls Tryz.prog 147 #[v, .func (.func 86) #[] #[.pointer (some ⟨pb, 0, none⟩)]] w fun e w' => e = .returned (.int .i64 (fIx f L)) ∧ Below w.heap.size w w' := by
 obtain ⟨a, c, rfl, hl, hc⟩ := h
 have HC := Lib.hid hc
 clear hc
 go_enter Tryz.func147, Tryz.ntmps147
 go_wp2_with fail
 go_loopw [8] (fun u wr => ∃ k : Nat, u = .int .i64 k ∧ k ≤ L.length ∧ Hid (∀ i, i < k → f (L.getD i ru0) = false) ∧ Below w.heap.size w wr) (fun u _ => L.length - (intOf u).toNat)
 case atStart => exact ⟨0, rfl, Nat.zero_le _, fun i hi => by omega, Below.refl _ _⟩
 case round =>
  obtain ⟨k, rfl, hk, HZ, hB⟩ := hrel
  by_cases hlt : k < L.length
  ·obtain ⟨b, o, rfl, hcc⟩ := HC.out k hlt
   obtain ⟨x, hx⟩ : ∃ x, L.getD k ru0 = x := ⟨_, rfl⟩
   have HX := HF.out x (by rw [← hx]; exact getD_mem hlt) wr hB
   have HXE := Lib.hid hx
   rw [hx] at hcc
   obtain ⟨g, hg⟩ : ∃ g, f x = g := ⟨_, rfl⟩
   rw [hg] at HX
   have HG : Hid (f (L.getD k ru0) = g) := Lib.hid (by rw [hx]; exact hg)
   clear hg hx HXE
   obtain ⟨nm, fr, to_, mo, ⟨ko, vo, dw⟩, at_, ck, sv, le⟩ := x
   obtain ⟨NM, rfl⟩ := bs_of nm
   obtain ⟨LE, rfl⟩ := bs_of le
   have HH : Hid (Calls Tryz.prog 86 #[.agg #[.string NM, .int .i64 fr, .int .i64 to_, .int .i64 mo, .int .i64 ko, .int .i64 vo, .int .i64 dw, .int .i64 at_, .int .i64 ck, .int .i64 sv, .string LE], .pointer (some ⟨pb, 0, none⟩)] wr fun e w' => e = .returned (.bool g) ∧ Below wr.heap.size wr w') := Lib.hid HX
   clear HX
   have e0 : wr.cell? ⟨b, o + k * 11, none⟩ = some (.string NM) := keepCell hB (hcc 0 _ (by decide) rfl)
   have e1 : wr.cell? ⟨b, o + k * 11 + 1, none⟩ = some (.int .i64 fr) := keepCell hB (hcc 1 _ (by decide) rfl)
   have e2 : wr.cell? ⟨b, o + k * 11 + 2, none⟩ = some (.int .i64 to_) := keepCell hB (hcc 2 _ (by decide) rfl)
   have e3 : wr.cell? ⟨b, o + k * 11 + 3, none⟩ = some (.int .i64 mo) := keepCell hB (hcc 3 _ (by decide) rfl)
   have e4 : wr.cell? ⟨b, o + k * 11 + 4, none⟩ = some (.int .i64 ko) := keepCell hB (hcc 4 _ (by decide) rfl)
   have e5 : wr.cell? ⟨b, o + k * 11 + 5, none⟩ = some (.int .i64 vo) := keepCell hB (hcc 5 _ (by decide) rfl)
   have e6 : wr.cell? ⟨b, o + k * 11 + 6, none⟩ = some (.int .i64 dw) := keepCell hB (hcc 6 _ (by decide) rfl)
   have e7 : wr.cell? ⟨b, o + k * 11 + 7, none⟩ = some (.int .i64 at_) := keepCell hB (hcc 7 _ (by decide) rfl)
   have e8 : wr.cell? ⟨b, o + k * 11 + 8, none⟩ = some (.int .i64 ck) := keepCell hB (hcc 8 _ (by decide) rfl)
   have e9 : wr.cell? ⟨b, o + k * 11 + 9, none⟩ = some (.int .i64 sv) := keepCell hB (hcc 9 _ (by decide) rfl)
   have e10 : wr.cell? ⟨b, o + k * 11 + 10, none⟩ = some (.string LE) := keepCell hB (hcc 10 _ (by decide) rfl)
   clear hcc
   go_wp2_with fail
   refine HH.out.mono ?_
   rintro e w1 ⟨rfl, hb1⟩
   have hB1 := keepBelow hB hb1
   clear e0 e1 e2 e3 e4 e5 e6 e7 e8 e9 e10 hb1
   cases g with
   | false =>
    go_wp2
    go_roundw
    case rel =>
     refine ⟨k + 1, by go_num, by omega, fun i hi => ?_, hB1⟩
     rcases Nat.lt_succ_iff_lt_or_eq.1 hi with h | rfl
     ·exact HZ.out i h
     ·exact HG.out
    case measure => simp [intOf]; omega
   | true =>
    have hA : fIx f L = k := fIx_at hlt HZ.out HG.out
    go_wp2
    go_ret
    rw [hA]
    exact ⟨rfl, hB1⟩
  ·have hA : fIx f L = -1 := fIx_none (d := ru0) fun i hi => HZ.out i (by omega)
   go_wp2
   go_ret
   rw [hA]
   exact ⟨rfl, hB⟩
set_option maxRecDepth 100000 in
theorem delClo_any (pb : Nat) (N : ByteArray) (x : RuT) (w : World) (h : w.cell? ⟨pb, 0, none⟩ = some (.string N)) :
  Calls Tryz.prog 86 #[.agg (flRu x).toArray, .pointer (some ⟨pb, 0, none⟩)] w fun e w' => e = .returned (.bool (!(x.nm == bsO N))) ∧ Below w.heap.size w w' := by
 obtain ⟨nm, fr, to_, mo, ⟨ko, vo, dw⟩, at_, ck, sv, le⟩ := x
 obtain ⟨NM, rfl⟩ := bs_of nm
 obtain ⟨LE, rfl⟩ := bs_of le
 show Calls _ _ #[.agg #[.string NM, .int .i64 fr, .int .i64 to_, .int .i64 mo, .int .i64 ko, .int .i64 vo, .int .i64 dw, .int .i64 at_, .int .i64 ck, .int .i64 sv, .string LE], .pointer (some ⟨pb, 0, none⟩)] _ _
 have hEQ := eqB_iff NM N
 obtain ⟨g, hg⟩ : ∃ g, (bsO NM == bsO N) = g := ⟨_, rfl⟩
 rw [hg] at hEQ
 have HG : Hid ((bsO NM == bsO N) = g) := Lib.hid hg
 clear hg
 have hk : (w.alloc (.cells #[.string NM, .int .i64 fr, .int .i64 to_, .int .i64 mo, .int .i64 ko, .int .i64 vo, .int .i64 dw, .int .i64 at_, .int .i64 ck, .int .i64 sv, .string LE] 41)).cell? ⟨pb, 0, none⟩ = some (.string N) := keepCell ((Below.refl _ w).alloc (Nat.le_refl _) _) h
 go_enter Tryz.func86, Tryz.ntmps86
 cases g with
 | false =>
  have hne : (NM.toList != N.toList) = true := by simpa [bne] using hEQ
  go_wp2
  go_ret
  exact ⟨ret_bool (by show _ = !(bsO NM == bsO N); rw [HG.out]; simp_all), (Below.refl _ w).alloc (Nat.le_refl _) _⟩
 | true =>
  have hne : (NM.toList != N.toList) = false := by simpa [bne] using hEQ
  go_wp2
  go_ret
  exact ⟨ret_bool (by show _ = !(bsO NM == bsO N); rw [HG.out]; simp_all), (Below.refl _ w).alloc (Nat.le_refl _) _⟩
end Go.Proofs.YtlbglinpgjlbkaaGreatDoor
