import Derived.Test.YtlbglinpgjlbkaaGreatDoorWkQd
import Derived.OrdersHeld
/- A region that draws its order: its first operations yield the same in every order and in every world that holds what is held; all the rest waits for them. -/
namespace Go.Proofs.YtlbglinpgjlbkaaGreatDoor
open Go.RowKit

section
variable {P : Program} {md : Region.Mode} {ops pre : Array Oper} {C : World → Prop} {Q : Exit → Act → World → Prop} {t s r : Nat}

theorem any_more : ∀ (fuel : Nat) (listed : Array Bool) (a : Act) (w : World), wpAny P md ops Q fuel listed a w → wpAny P md ops Q (fuel + 1) listed a w
 | 0, _, _, _, h => ⟨fun _ => h.2, fun i hi => by rw [h.1] at hi; cases hi⟩
 | fuel + 1, _, _, _, h => ⟨h.1, fun i hi => wpOp_mono (fun a' w' h' => any_more fuel _ a' w' h') (h.2 i hi)⟩
theorem any_more_n (k : Nat) {fuel : Nat} {listed : Array Bool} {a : Act} {w : World} (h : wpAny P md ops Q fuel listed a w) : wpAny P md ops Q (k + fuel) listed a w := by
 induction k with
 | zero => rw [Nat.zero_add]; exact h
 | succ k ih => rw [show k + 1 + fuel = k + fuel + 1 by omega]; exact any_more _ _ _ _ ih

def PreB (md : Region.Mode) (ops : Array Oper) (t s : Nat) : Bool :=
 ((List.range s).all fun k => (((ops[k]?).map fun o => o.guard.isNone && o.after.all fun e => !Region.binds md e || decide (e.on < k)).getD false) &&
  (decide (k < t) || (List.range (s + 1)).any fun m => decide (k < m) && ((ops[m]?).map fun o => o.after.any fun e => Region.binds md e && e.on == k).getD false)) &&
 ((List.range ops.size).all fun j => decide (j ≤ s) || ((ops[j]?).map fun o => o.after.any fun e => Region.binds md e && decide (s ≤ e.on)).getD false)

structure PreP (md : Region.Mode) (ops : Array Oper) (t s : Nat) : Prop where
 g : ∀ k o, k < s → ops[k]? = some o → o.guard = none
 lo : ∀ k o, k < s → ops[k]? = some o → ∀ e ∈ o.after, Region.binds md e = true → e.on < k
 up : ∀ k, t ≤ k → k < s → ∃ m o, k < m ∧ m ≤ s ∧ ops[m]? = some o ∧ ∃ e ∈ o.after, Region.binds md e = true ∧ e.on = k
 hi : ∀ j o, s < j → ops[j]? = some o → ∃ e ∈ o.after, Region.binds md e = true ∧ s ≤ e.on
theorem PreB.out (h : PreB md ops t s = true) : PreP md ops t s := by
 unfold PreB at h
 rw [Bool.and_eq_true] at h
 obtain ⟨h1, h2⟩ := h
 rw [List.all_eq_true] at h1 h2
 refine ⟨fun k o hk ho => ?_, fun k o hk ho e he hb => ?_, fun k htk hk => ?_, fun j o hj ho => ?_⟩
 ·have q := h1 k (List.mem_range.2 hk)
  rw [Bool.and_eq_true] at q
  have q := q.1
  rw [ho] at q
  simp only [Option.map_some, Option.getD_some, Bool.and_eq_true] at q
  simpa using q.1
 ·have q := h1 k (List.mem_range.2 hk)
  rw [Bool.and_eq_true] at q
  have q := q.1
  rw [ho] at q
  simp only [Option.map_some, Option.getD_some, Bool.and_eq_true] at q
  have := (Array.all_eq_true_iff_forall_mem.1 q.2) e he
  rw [hb] at this
  simpa using this
 ·have q := h1 k (List.mem_range.2 hk)
  rw [Bool.and_eq_true] at q
  have q2 := q.2
  rw [Bool.or_eq_true, decide_eq_true_eq] at q2
  obtain ⟨m, hm, q⟩ := List.any_eq_true.1 (q2.resolve_left (by omega))
  rw [Bool.and_eq_true] at q
  cases ho : ops[m]? with
  | none => rw [ho] at q; simp at q
  | some o =>
   rw [ho] at q
   simp only [Option.map_some, Option.getD_some, decide_eq_true_eq] at q
   obtain ⟨q1, q2⟩ := q
   obtain ⟨e, he, q3⟩ := Array.any_eq_true'.1 q2
   rw [Bool.and_eq_true, beq_iff_eq] at q3
   exact ⟨m, o, q1, by have := List.mem_range.1 hm; omega, ho, e, he, q3.1, q3.2⟩
 ·have hlt : j < ops.size := (Array.getElem?_eq_some_iff.1 ho).1
  have q := h2 j (List.mem_range.2 hlt)
  rw [ho] at q
  simp only [Option.map_some, Option.getD_some, Bool.or_eq_true, decide_eq_true_eq] at q
  rcases q with q | q
  ·omega
  ·obtain ⟨e, he, q3⟩ := Array.any_eq_true'.1 q
   rw [Bool.and_eq_true, decide_eq_true_eq] at q3
   exact ⟨e, he, q3.1, q3.2⟩

structure RelP (ops pre : Array Oper) (md : Region.Mode) (t s : Nat) (lp L : Array Bool) : Prop where
 fst : ∀ k, k < t → k < s → lp[k]? = some true
 sz : lp.size = s
 szL : L.size = ops.size
 low : ∀ k, k < s → L[k]? = lp[k]?
 high : ∀ k, s ≤ k → k < ops.size → L[k]? = some false
 closed : ∀ k o, k < s → pre[k]? = some o → lp[k]? = some true → ∀ e ∈ o.after, Region.binds md e = true → lp[e.on]? = some true

theorem RelP.all {lp L : Array Bool} (hp : PreP md ops t s) (hpre : ∀ k, k < s → pre[k]? = ops[k]?) (hs : s ≤ ops.size) (h : RelP ops pre md t s lp L) (h0 : Region.ready md pre lp = []) : ∀ k, k < s → lp[k]? = some true := by
 intro k
 induction k using Nat.strongRecOn with
 | _ k ih =>
  intro hk
  obtain ⟨b, hb⟩ : ∃ b, lp[k]? = some b := ⟨lp[k]'(by rw [h.sz]; exact hk), Array.getElem?_eq_getElem (by rw [h.sz]; exact hk)⟩
  cases b with
  | true => exact hb
  | false =>
   exfalso
   obtain ⟨o, ho⟩ : ∃ o, ops[k]? = some o := ⟨ops[k]'(by omega), Array.getElem?_eq_getElem (by omega)⟩
   have : k ∈ Region.ready md pre lp := mem_ready.2 ⟨by rw [Array.getD_eq_getD_getElem?, hb]; rfl, o, (hpre k hk).trans ho, fun e he hbn => by
    have h1 := hp.lo k o hk ho e he hbn
    rw [Array.getD_eq_getD_getElem?, ih e.on h1 (by omega)]
    rfl⟩
   rw [h0] at this
   cases this
theorem RelP.chain {lp L : Array Bool} (hp : PreP md ops t s) (hpre : ∀ k, k < s → pre[k]? = ops[k]?) (h : RelP ops pre md t s lp L) {o : Oper} (ho : ops[s]? = some o) (hd : ∀ e ∈ o.after, Region.binds md e = true → L[e.on]? = some true) : ∀ d k, k + d = s → 1 ≤ d → lp[k]? = some true := by
 intro d
 induction d using Nat.strongRecOn with
 | _ d ih =>
  intro k hk hd1
  rcases Nat.lt_or_ge k t with hkt | hkt
  ·exact h.fst k hkt (by omega)
  obtain ⟨m, o', hm1, hm2, ho', e, he, hb, hek⟩ := hp.up k hkt (by omega)
  rcases Nat.lt_or_ge m s with hms | hms
  ·have := ih (s - m) (by omega) m (by omega) (by omega)
   have := h.closed m o' hms ((hpre m hms).trans ho') this e he hb
   rwa [hek] at this
  ·have hms : m = s := by omega
   subst hms
   rw [ho] at ho'
   injection ho' with ho'
   subst ho'
   have := hd e he hb
   rw [hek, h.low k (by omega)] at this
   exact this
theorem getD_some {L : Array Bool} {k : Nat} {b c : Bool} (h : L[k]? = some b) : L.getD k c = b := by rw [Array.getD_eq_getD_getElem?, h]; rfl
theorem some_getD {L : Array Bool} {k : Nat} (h : L.getD k false = true) : L[k]? = some true := by
 rw [Array.getD_eq_getD_getElem?] at h
 cases hk : L[k]? with
 | none => rw [hk] at h; cases h
 | some b => rw [hk] at h; rw [show b = true from h]
theorem some_getD' {L : Array Bool} {k : Nat} (h : L.getD k true = false) : L[k]? = some false := by
 rw [Array.getD_eq_getD_getElem?] at h
 cases hk : L[k]? with
 | none => rw [hk] at h; cases h
 | some b => rw [hk] at h; rw [show b = false from h]
theorem RelP.set {lp L : Array Bool} (hpre : ∀ k, k < s → pre[k]? = ops[k]?) (h : RelP ops pre md t s lp L) {i : Nat} (hi : i < s) {o : Oper} (ho : pre[i]? = some o) (hd : ∀ e ∈ o.after, Region.binds md e = true → lp[e.on]? = some true) :
  RelP ops pre md t s (lp.setIfInBounds i true) (L.setIfInBounds i true) := by
 have hset : ∀ k, lp[k]? = some true → (lp.setIfInBounds i true)[k]? = some true := fun k hk => by
  rw [Array.getElem?_setIfInBounds]
  split
  ·rename_i e; subst e; rw [if_pos (Array.getElem?_eq_some_iff.1 hk).1]
  ·exact hk
 refine ⟨fun k hk hk2 => hset _ (h.fst k hk hk2), by rw [Array.size_setIfInBounds]; exact h.sz, by rw [Array.size_setIfInBounds]; exact h.szL, fun k hk => ?_, fun k hk hk2 => ?_, fun k o' hk ho' hl e he hb => ?_⟩
 ·rw [Array.getElem?_setIfInBounds, Array.getElem?_setIfInBounds, h.low k hk, h.sz, h.szL]
  split
  ·rename_i e
   have hlt : i < ops.size := by
    have := hpre i hi
    rw [ho] at this
    exact (Array.getElem?_eq_some_iff.1 this.symm).1
   rw [if_pos hlt]
  ·rfl
 ·rw [Array.getElem?_setIfInBounds, if_neg (by omega)]
  exact h.high k hk hk2
 ·rw [Array.getElem?_setIfInBounds] at hl
  split at hl
  ·rename_i e'
   subst e'
   rw [ho] at ho'
   injection ho' with ho'
   subst ho'
   exact hset _ (hd e he hb)
  ·exact hset _ (h.closed k o' hk ho' hl e he hb)

theorem qOp_pre {i : Nat} {a : Act} {K : Act → Prop} {o : Oper} (h1 : pre[i]? = some o) (h2 : ops[i]? = some o) (hg : o.guard = none) (h : qOp P pre C i K a) : qOp P ops C i K a := by
 unfold qOp at h ⊢
 simp only [h1, h2] at h ⊢
 have e : Region.wanted o (yielded pre a.tmps) = Region.wanted o (yielded ops a.tmps) := by
  unfold Region.wanted
  rw [hg]
 rw [e] at h
 exact h

theorem any_pre (hp : PreP md ops t s) (hpre : ∀ k, k < s → pre[k]? = ops[k]?) (hps : pre.size = s) (hs : s ≤ ops.size) {Ls : Array Bool} (hLs : Ls.size = ops.size ∧ (∀ k, k < s → Ls[k]? = some true) ∧ ∀ k, s ≤ k → k < ops.size → Ls[k]? = some false) :
  ∀ (fuel : Nat) (lp L : Array Bool) (a : Act) (w : World), RelP ops pre md t s lp L → C w →
   wpAnyQ P md pre C (fun a' => ∀ w', C w' → wpAny P md ops Q r Ls a' w') fuel lp a → wpAny P md ops Q (fuel + r) L a w := by
 have hfull : ∀ {lp L : Array Bool}, RelP ops pre md t s lp L → (∀ k, k < s → lp[k]? = some true) → L = Ls := by
  intro lp L h hall
  refine Array.ext_getElem? fun k => ?_
  rcases Nat.lt_or_ge k s with hk | hk
  ·rw [h.low k hk, hall k hk, hLs.2.1 k hk]
  ·rcases Nat.lt_or_ge k ops.size with hk2 | hk2
   ·rw [h.high k hk hk2, hLs.2.2 k hk hk2]
   ·rw [Array.getElem?_eq_none (by rw [h.szL]; exact hk2), Array.getElem?_eq_none (by rw [hLs.1]; exact hk2)]
 intro fuel
 induction fuel with
 | zero =>
  intro lp L a w hR hC h
  have := hfull hR (hR.all hp hpre hs h.1)
  rw [Nat.zero_add, this]
  exact h.2 w hC
 | succ fuel ih =>
  intro lp L a w hR hC h
  by_cases hall : ∀ k, k < s → lp[k]? = some true
  ·have hr0 : Region.ready md pre lp = [] := List.eq_nil_iff_forall_not_mem.2 fun i hi => by
    obtain ⟨h0, o, ho, -⟩ := mem_ready.1 hi
    have hlt : i < s := by rw [← hps]; exact (Array.getElem?_eq_some_iff.1 ho).1
    rw [getD_some (hall i hlt)] at h0
    cases h0
   rw [hfull hR hall]
   exact any_more_n _ (h.1 hr0 w hC)
  ·rw [show fuel + 1 + r = fuel + r + 1 by omega]
   have hsub : ∀ i, i ∈ Region.ready md pre lp → i ∈ Region.ready md ops L := fun i hi => by
    obtain ⟨h0, o, ho, hd⟩ := mem_ready.1 hi
    have hlt : i < s := by rw [← hps]; exact (Array.getElem?_eq_some_iff.1 ho).1
    refine mem_ready.2 ⟨getD_some ((hR.low i hlt).trans (some_getD' h0)), o, (hpre i hlt).symm.trans ho, fun e he hb => ?_⟩
    have h1 := hp.lo i o hlt ((hpre i hlt).symm.trans ho) e he hb
    exact getD_some ((hR.low e.on (by omega)).trans (some_getD (hd e he hb)))
   refine ⟨fun h0 => ?_, fun i hi => ?_⟩
   ·exfalso
    refine hall (hR.all hp hpre hs (List.eq_nil_iff_forall_not_mem.2 fun i hi => ?_))
    have := hsub i hi
    rw [h0] at this
    cases this
   ·obtain ⟨h0, o, ho, hd⟩ := mem_ready.1 hi
    rcases Nat.lt_trichotomy i s with hlt | heq | hgt
    ·have hd' : ∀ e ∈ o.after, Region.binds md e = true → lp[e.on]? = some true := fun e he hb => by
      have h1 := hp.lo i o hlt ho e he hb
      rw [← hR.low e.on (by omega)]
      exact some_getD (hd e he hb)
     have hip : i ∈ Region.ready md pre lp := mem_ready.2 ⟨getD_some ((hR.low i hlt).symm.trans (some_getD' h0)), o, (hpre i hlt).trans ho, fun e he hb => getD_some (hd' e he hb)⟩
     have h3 := qOp_pre ((hpre i hlt).trans ho) ho (hp.g i o hlt ho) (h.2 i hip)
     exact wpOp_of_qOp hC (fun a' w' hC' hK => ih _ _ a' w' (hR.set hpre hlt ((hpre i hlt).trans ho) hd') hC' hK) h3
    ·exfalso
     subst heq
     exact hall fun k hk => hR.chain hp hpre ho (fun e he hb => some_getD (hd e he hb)) (i - k) k (by omega) (by omega)
    ·exfalso
     obtain ⟨e, he, hb, hse⟩ := hp.hi i o hgt ho
     have h1 := some_getD (hd e he hb)
     have h2 : e.on < ops.size := by rw [← hR.szL]; exact (Array.getElem?_eq_some_iff.1 h1).1
     rw [hR.high e.on hse h2] at h1
     cases h1

theorem getElem_ls (t n k : Nat) (hk : k < t + n) : (Array.replicate t true ++ Array.replicate n false)[k]? = some (decide (k < t)) := by
 rcases Nat.lt_or_ge k t with h | h
 ·rw [Array.getElem?_append_left (by simpa using h), Array.getElem?_replicate, if_pos h, decide_eq_true h]
 ·rw [Array.getElem?_append_right (by simpa using h), Array.getElem?_replicate, if_pos (by simp; omega), decide_eq_false (by omega)]
theorem any_pre_go {a : Act} {W w0 : World} {l : List Oper} (t s : Nat) (hB : PreB .any l.toArray t s = true) (ht : t ≤ s) (hs : s ≤ l.length) (hN : Region.noSelect (l.take s).toArray = true) (hL : Region.lexFrom .any (l.take s).toArray (s - t) t (Array.replicate t true ++ Array.replicate (s - t) false) = true) (h0 : Below W.heap.size W w0)
  (h : wpQuiet P (l.take s).toArray (fun w' => ∃ x : Ext W, w' = extOf W x) (fun a' => ∀ w', (∃ x : Ext W, w' = extOf W x) → wpAny P .any l.toArray Q (l.length - s) (Array.replicate s true ++ Array.replicate (l.length - s) false) a' w') ((l.take s).drop t) a) :
  wpAny P .any l.toArray Q (l.length - t) (Array.replicate t true ++ Array.replicate (l.length - t) false) a w0 := by
 have hlen : (l.take s).length = s := by rw [List.length_take]; omega
 have hlen2 : ((l.take s).drop t).length = s - t := by rw [List.length_drop, hlen]
 have hq := wpAnyQ_lex (C := fun w' => ∃ x : Ext W, w' = extOf W x) (md := .any) hN ((l.take s).drop t) t (Array.replicate t true ++ Array.replicate (s - t) false) a (by simp) (by rw [hlen2]; exact hL) h
 rw [hlen2] at hq
 have hP := PreB.out hB
 have hsz : l.toArray.size = l.length := by simp
 have hfin := any_pre (Q := Q) (r := l.length - s) (pre := (l.take s).toArray) hP (fun k hk => by simp [hk]) (by simp [hlen]) (by simpa using hs) (Ls := Array.replicate s true ++ Array.replicate (l.length - s) false)
  ⟨by simp; omega, fun k hk => by rw [getElem_ls _ _ _ (by omega), decide_eq_true hk], fun k hk hk2 => by
   rw [hsz] at hk2
   rw [getElem_ls _ _ _ (by omega), decide_eq_false (by omega)]⟩
  (s - t) (Array.replicate t true ++ Array.replicate (s - t) false) (Array.replicate t true ++ Array.replicate (l.length - t) false) a w0
  ⟨fun k hk _ => by rw [getElem_ls _ _ _ (by omega), decide_eq_true hk], by simp; omega, by simp; omega, fun k hk => by
   rw [getElem_ls _ _ _ (by omega), getElem_ls _ _ _ (by omega)], fun k hk hk2 => by
   rw [hsz] at hk2
   rw [getElem_ls _ _ _ (by omega), decide_eq_false (by omega)], fun k o hk ho hl e he hb => by
   rw [getElem_ls _ _ _ (by omega)] at hl
   have hkt : k < t := by simpa using hl
   have h1 := hP.lo k o hk (by rw [← ho]; simp [hk]) e he hb
   rw [getElem_ls _ _ _ (by omega), decide_eq_true (by omega)]⟩ ⟨⟨_, h0⟩, rfl⟩ hq
 rw [show s - t + (l.length - s) = l.length - t by omega] at hfin
 exact hfin
theorem any_pre_at {fuel : Nat} {listed : Array Bool} {a : Act} {W w0 : World} {l : List Oper} (t s : Nat) (hf : fuel = l.length - t) (hl : listed = Array.replicate t true ++ Array.replicate (l.length - t) false) (hB : PreB .any l.toArray t s = true) (ht : t ≤ s) (hs : s ≤ l.length) (hN : Region.noSelect (l.take s).toArray = true) (hL : Region.lexFrom .any (l.take s).toArray (s - t) t (Array.replicate t true ++ Array.replicate (s - t) false) = true) (h0 : Below W.heap.size W w0)
  (h : wpQuiet P (l.take s).toArray (fun w' => ∃ x : Ext W, w' = extOf W x) (fun a' => ∀ w', (∃ x : Ext W, w' = extOf W x) → wpAny P .any l.toArray Q (l.length - s) (Array.replicate s true ++ Array.replicate (l.length - s) false) a' w') ((l.take s).drop t) a) :
  wpAny P .any l.toArray Q fuel listed a w0 := by
 subst hf
 subst hl
 exact any_pre_go t s hB ht hs hN hL h0 h
theorem wp_region_pre {id : Nat} {a : Act} {W : World} {l : List Oper} (s : Nat) (hm : P.follows .mixedOrders = true) (hB : PreB .any l.toArray 0 s = true) (hs : s ≤ l.length) (hL : Region.lexB .any (l.take s).toArray = true)
  (h : wpQuiet P (l.take s).toArray (fun w' => ∃ x : Ext W, w' = extOf W x) (fun a' => ∀ w', (∃ x : Ext W, w' = extOf W x) → wpAny P .any l.toArray Q (l.length - s) (Array.replicate s true ++ Array.replicate (l.length - s) false) a' w') (l.take s) a) : (Code.region id l.toArray true).wp P Q a W := by
 have hlen : (l.take s).length = s := by rw [List.length_take]; omega
 simp only [Region.lexB, Bool.and_eq_true] at hL
 refine wp_region_any hm ?_
 have q := any_pre_go (P := P) (Q := Q) (W := W) (w0 := { W with drawn := W.drawn + 1 }) (a := a) 0 s hB (Nat.zero_le _) hs hL.1 (by simpa [hlen] using hL.2) (Below.refl _ W).drew (by simpa using h)
 simpa using q
end
end Go.Proofs.YtlbglinpgjlbkaaGreatDoor
