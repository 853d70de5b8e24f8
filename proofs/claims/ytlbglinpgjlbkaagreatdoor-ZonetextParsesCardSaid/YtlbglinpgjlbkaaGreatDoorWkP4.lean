import Derived.Test.YtlbglinpgjlbkaaGreatDoorWkP3
import Derived.Test.YtlbglinpgjlbkaaGreatDoorWkT5
import Derived.Test.YtlbglinpgjlbkaaGreatDoorWkT6
/- Zone texts: what the reference's Parse needs. -/
namespace Go.Proofs.YtlbglinpgjlbkaaGreatDoor
open Go.RowKit Wk

def stepT (ws : List Tok) (s : SrT) : SrT × RSt :=
 if (ws.getD 0 tok0).tx = [114, 117, 108, 101] then ({ s with ru := s.ru ++ [(ruleT ws (st0 1)).1] }, (ruleT ws (st0 1)).2)
 else if (ws.getD 0 tok0).tx = [122, 111, 110, 101] then ({ s with zo := s.zo ++ [(zoneT ws (st0 1)).1] }, (zoneT ws (st0 1)).2)
 else if (ws.getD 0 tok0).tx = [108, 105, 110, 101] then (if (s.zo == [] || doneB (s.zo.getLastD ⟨[], []⟩)) = true then (s, ⟨1, plT ws 0, 6⟩) else (addLine s (lineT ws (st0 1)).1, (lineT ws (st0 1)).2))
 else if (ws.getD 0 tok0).tx = [108, 105, 110, 107] then ({ s with lk := s.lk ++ [(linkT ws (st0 1)).1] }, (linkT ws (st0 1)).2)
 else (s, ⟨1, plT ws 0, 3⟩)
theorem step_ref (ws : List Tok) (s : SrT) (hw : 1 ≤ ws.length) (hn : ∀ t ∈ ws, t.tx ≠ []) : lineStep ws s = if (stepT ws s).2.e = 0 then .inl (stepT ws s).1 else .inr ((stepT ws s).2.p, (stepT ws s).2.e) := by
 unfold lineStep stepT
 by_cases h1 : (ws.getD 0 tok0).tx = [114, 117, 108, 101]
 ·rw [if_pos h1, if_pos h1]
  exact step_simT (g := fun r => { s with ru := s.ru ++ [r] }) (simT_rule hn) hw (fun a k hm => by rw [hm]) (fun e hm => by rw [hm])
 rw [if_neg h1, if_neg h1]
 by_cases h2 : (ws.getD 0 tok0).tx = [122, 111, 110, 101]
 ·rw [if_pos h2, if_pos h2]
  exact step_simT (g := fun r => { s with zo := s.zo ++ [r] }) (simT_zone ws) hw (fun a k hm => by rw [hm]) (fun e hm => by rw [hm])
 rw [if_neg h2, if_neg h2]
 by_cases h3 : (ws.getD 0 tok0).tx = [108, 105, 110, 101]
 ·rw [if_pos h3, if_pos h3]
  by_cases h5 : (s.zo == [] || doneB (s.zo.getLastD ⟨[], []⟩)) = true
  ·rw [if_pos h5, if_pos h5]
   simp only
   rw [if_neg (show ¬(6 : Int) = 0 by decide)]
  ·rw [if_neg h5, if_neg h5]
   exact step_simT (g := fun l => addLine s l) (simT_line hn) hw (fun a k hm => by rw [hm]) (fun e hm => by rw [hm])
 rw [if_neg h3, if_neg h3]
 by_cases h4 : (ws.getD 0 tok0).tx = [108, 105, 110, 107]
 ·rw [if_pos h4, if_pos h4]
  exact step_simT (g := fun r => { s with lk := s.lk ++ [r] }) (simT_link ws) hw (fun a k hm => by rw [hm]) (fun e hm => by rw [hm])
 rw [if_neg h4, if_neg h4]
 simp
theorem step_same {ws : List Tok} {s : SrT} (hw : 1 ≤ ws.length) (hn : ∀ t ∈ ws, t.tx ≠ []) (he : (stepT ws s).2.e = 0) : (stepT ws s).1 = (stepS ws s).1 := by
 have h1 := step_ref ws s hw hn
 have h2 := step_prog ws s hw
 rw [if_pos he] at h1
 rw [h1] at h2
 by_cases hq : (stepS ws s).2.e = 0
 ·rw [if_pos hq] at h2
  injection h2
 ·rw [if_neg hq] at h2
  exact absurd h2 (by simp)
theorem next_first {ws : List Tok} (h : 1 ≤ ws.length) : nextT ws (st0 0) = (ws.getD 0 tok0, st0 1) := by
 unfold nextT
 rw [if_neg (show ¬(st0 0).e ≠ 0 by simp [st0]), if_neg (show ¬ws.length ≤ (st0 0).n from by show ¬ws.length ≤ 0; omega)]
 rfl
theorem RTat.turn {w0 : World} {rb sb j : Nat} {wv : Value} {ws : List Tok} {s : RSt} {w w3 : World} {v0 v1 : Value} (h : RTat w0 rb wv ws s w) (hb3 : Below w0.heap.size w0 w3) (k1 : ∀ b, b < w.heap.size → v0.ownBlock ≠ some b → w3.heap[b]? = w.heap[b]?) (hn : v0.ownBlock ≠ some rb) (hs : sb ≠ rb) (hl : w0.heap.size ≤ sb) :
  RTat w0 rb wv ws s (w3.setCell ⟨sb, j, none⟩ v1) :=
 ⟨h.blk.same ((set_far_heap _ _ _ _ (Ne.symm hs)).trans (k1 rb h.blk.lt hn)), hb3.setCell (p := ⟨sb, j, none⟩) hl _, h.hi⟩
theorem sb_ne {w0 : World} {rb sb : Nat} {wv : Value} {ws : List Tok} {s : RSt} {sr : SrT} {rv zv lv : Value} {Z : List ZkT} {w : World} (h : RTat w0 rb wv ws s w) (hm : SrcM w0.heap.size sb sr rv zv lv Z w) : sb ≠ rb := by
 rintro rfl
 have h1 := h.blk
 have h2 := hm.blk
 unfold Blk at h1 h2
 rw [h2] at h1
 injection h1 with h1
 injection h1 with _ h1 _
 exact absurd h1 (by decide)
theorem lin_finT {w0 : World} {rb : Nat} {wv : Value} {ws : List Tok} {sb : Nat} {sr : SrT} {rv lv : Value} {Z : List ZkT} {s : RSt} {w w3 : World} {g1 zc m n2 qv : Nat} {a2 pv : Option Addr} {NM : ByteArray} {li : List LiT} {x : LiT} (hm : Z.length = m + 1) (hz : Z.getD m zk0 = (⟨bsO NM, li⟩, .slice a2 li.length n2))
  (hs : RTat w0 rb wv ws s w) (hM : SrcM w0.heap.size sb sr rv (.slice (some ⟨g1, 0, none⟩) (m + 1) zc) lv Z w) (hlo : OwnG 102 12 flLi w w0.heap.size (.slice a2 li.length n2) li)
  (o1 : OwnG 102 12 flLi w3 (topB (.slice a2 li.length n2) w) (.slice pv (li.length + 1) qv) (li ++ [x])) (b1 : Below w0.heap.size w0 w3) (k1 : ∀ b, b < w.heap.size → (Value.slice a2 li.length n2).ownBlock ≠ some b → w3.heap[b]? = w.heap[b]?) (hB : w0.heap.size ≤ topB (.slice a2 li.length n2) w) :
  SrcM w0.heap.size sb (addLine sr x) rv (.slice (some ⟨g1, 0, none⟩) (m + 1) zc) lv (Z.set m (⟨bsO NM, li ++ [x]⟩, .slice pv (li.length + 1) qv)) (w3.setCell ⟨g1, m * 2 + 1, none⟩ (.slice pv (li.length + 1) qv)) ∧
  RTat w0 rb wv ws s (w3.setCell ⟨g1, m * 2 + 1, none⟩ (.slice pv (li.length + 1) qv)) ∧ w3.cell? ⟨g1, m * 2 + 1, none⟩ = some (.slice a2 li.length n2) ∧ w3.frozen? ⟨g1, m * 2 + 1, none⟩ = false := by
 have hz3 : OwnG 45 2 flZk w3 w0.heap.size (.slice (some ⟨g1, 0, none⟩) Z.length zc) Z := by
  rw [hm]
  exact hM.zo.same fun g q => k1 g (World.ownsRow.lt hM.zo g q).2 fun q' => hlo.apart2 hM.zo (by decide) q' q
 have hgb : g1 ≠ rb := hM.zo.apart hs.blk (by decide) rfl
 have hg0 : w0.heap.size ≤ g1 := (World.ownsRow.lt hM.zo g1 rfl).1
 have hc := hz3.cell flZk_len zk0 (i := m) (j := 1) (u := .slice a2 li.length n2) (by omega) (by decide) (by rw [hz]; rfl)
 refine ⟨?_, hs.turn b1 k1 (fun q => hlo.apart hs.blk (by decide) q rfl) hgb hg0, hc.1, hc.2⟩
 have h := SrcM.addLi (x := x) (v1 := .slice pv (li.length + 1) qv) (w3 := w3) hm hM (by rw [hz]; exact o1.mono hB) (by rw [hz]; exact k1) (by rw [hz]; exact topB_new o1)
 rw [hz] at h
 exact h

set_option maxRecDepth 100000 in
set_option maxHeartbeats 4000000 in
theorem open_any (NM : ByteArray) (lv : Value) (li : List LiT) (w : World) (hr : RdLi w lv li) :
  Calls Tryz.prog 57 #[.agg #[.string NM, lv]] w fun e w' => e = .returned (.bool (!doneB ⟨bsO NM, li⟩)) ∧ Below w.heap.size w w' := by
 obtain ⟨a, c, rfl, hl, hc⟩ := hr
 have HC := Lib.hid hc
 clear hc
 obtain ⟨q, hq⟩ : ∃ q, doneB ⟨bsO NM, li⟩ = q := ⟨_, rfl⟩
 rw [hq]
 go_enter Tryz.func57, Tryz.ntmps57
 go_upto_region 1 with fail
 obtain ⟨b2, hb2⟩ : ∃ b, w.heap.size = b := ⟨_, rfl⟩
 obtain ⟨X, hX⟩ : ∃ X, w.alloc (.cells #[.string NM, .slice a li.length c] 45) = X := ⟨_, rfl⟩
 have HBX : Hid (Below w.heap.size w X) := Lib.hid (by rw [← hX]; exact (Below.refl _ _).alloc (Nat.le_refl _) _)
 have HX2 : Hid (Blk X b2 #[.string NM, .slice a li.length c] 45) := Lib.hid (by rw [← hX, ← hb2]; exact Blk.new _ _ _)
 try rw [hX]
 try rw [hb2]
 clear hX hb2
 have x1 := HX2.out.cell (j := 1) rfl
 rcases Nat.eq_zero_or_pos li.length with h0 | h0
 ·have hli : li = [] := List.eq_nil_of_length_eq_zero h0
  subst hli
  have hq2 : q = false := hq.symm
  subst hq2
  clear h0 hq
  go_wp2_with fail
  go_ret
  exact ⟨rfl, HBX.out⟩
 ·obtain ⟨m, hm⟩ : ∃ m, li.length = m + 1 := ⟨li.length - 1, by omega⟩
  obtain ⟨b, o, rfl, hcc⟩ := HC.out m (by omega)
  rw [doneB_last h0, show li.length - 1 = m by omega] at hq
  obtain ⟨x, hx⟩ : ∃ x, li.getD m li0 = x := ⟨_, rfl⟩
  rw [hx] at hq hcc
  obtain ⟨of_, ru, sv, fm, la, ⟨yr, mo, ⟨k, v, d⟩, at_, ck⟩⟩ := x
  have hq : la = q := hq
  subst hq
  have e4 : X.cell? ⟨b, o + m * 12 + 4, none⟩ = some (.bool la) := keepCell HBX.out (hcc 4 _ (by decide) rfl)
  rw [hm] at x1 hl
  have g0 : (((m + 1 : Nat) : Int) == 0) = false := by simp; omega
  have g1 : (((m + 1 : Nat) : Int) - 1) = (m : Int) := by omega
  have g2 : (m : Int) ≤ 1152921504606846975 := by omega
  clear hcc hx h0
  rw [hm]
  go_wp2_with fail
  go_ret
  exact ⟨rfl, HBX.out⟩
end Go.Proofs.YtlbglinpgjlbkaaGreatDoor
