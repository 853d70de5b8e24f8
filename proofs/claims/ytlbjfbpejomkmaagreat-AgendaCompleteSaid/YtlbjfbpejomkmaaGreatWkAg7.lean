import Derived.Test.YtlbjfbpejomkmaaGreatWkAgQc
/- Agenda: the late tasks. -/
namespace Go.Proofs.YtlbjfbpejomkmaaGreat
open Go.RowKit Wk

def ltL (l : List Tk) (b : List Sp) (k : Nat) : List Nat := (List.range k).filter fun i => decide (dueOf l i < (spAt b i).2)
theorem ltL_succ (l : List Tk) (b : List Sp) (k : Nat) : ltL l b (k + 1) = if dueOf l k < (spAt b k).2 then ltL l b k ++ [k] else ltL l b k := by
 unfold ltL
 rw [List.range_succ, List.filter_append]
 by_cases h : dueOf l k < (spAt b k).2 <;> simp [h]
theorem ltL_len (l : List Tk) (b : List Sp) (k : Nat) : (ltL l b k).length ≤ k := by
 unfold ltL
 have := List.length_filter_le (fun i => decide (dueOf l i < (spAt b i).2)) (List.range k)
 rwa [List.length_range] at this
def LtPost (L : List Nat) (w : World) (e : Ending) (w' : World) : Prop := ∃ v, e = .returned v ∧ OwnI w' w.heap.size v (natI L) ∧ Below w.heap.size w w'

set_option maxRecDepth 100000 in
set_option maxHeartbeats 4000000 in
theorem late_any (vl va : Value) (L : List Kv) (b : List Sp) (w : World) (hL : RdK w vl L) (hb : RdS w va b) (hlen : L.length ≤ 1000000) :
  Calls Tryz.prog 25 #[vl, va] w (LtPost (lateM (tks L) b) w) := by
 obtain ⟨a, c, rfl, hl, hc⟩ := hL
 obtain ⟨a2, c2, rfl, hl2, hc2⟩ := hb
 have HC := Lib.hid hc
 have HC2 := Lib.hid hc2
 clear hc hc2
 go_enter Tryz.func25, Tryz.ntmps25
 by_cases hne : L.length = b.length
 ·have g1 : ((L.length : Int) != (b.length : Int)) = false := by simp; omega
  have HM : Hid (lateM (tks L) b = ltL (tks L) b L.length) := by
   unfold Hid lateM
   rw [if_pos (by rw [tks_length]; exact hne)]
   unfold lateL ltL
   rw [tks_length]
  have HNE := Lib.hid hne
  clear hne
  go_wp2_with fail
  go_loopw [5, 15] (fun u i wr => ∃ k : Nat, k ≤ L.length ∧ i = .int .i64 k ∧ OwnI wr w.heap.size u (natI (ltL (tks L) b k)) ∧ Below w.heap.size w wr) (fun _ i _ => L.length - (intOf i).toNat)
  case atStart => exact ⟨0, Nat.zero_le _, rfl, OwnI.nil _ _, Below.refl _ _⟩
  case round =>
   obtain ⟨k, hk, rfl, ho, hB⟩ := hrel
   by_cases hlt : k < L.length
   ·obtain ⟨hj, bl, ol, rfl, q0, q1, q2, q3, q4⟩ := HC.out k hlt
    have hlt2 : k < b.length := by have := HNE.out; omega
    obtain ⟨b2, o2, rfl, d1, d2⟩ := HC2.out k hlt2
    obtain ⟨x, hx⟩ : ∃ x, L.getD k kv0 = x := ⟨_, rfl⟩
    rw [hx] at hj q0 q1 q2 q3 q4
    obtain ⟨a1, n1, e1⟩ := hj.form
    rw [e1] at q3
    have p0 := keepCell hB q0
    have p1 := keepCell hB q1
    have p2 := keepCell hB q2
    have p3 := keepCell hB q3
    have p4 := keepCell hB q4
    have hsz := hB.size
    obtain ⟨O, hO⟩ : ∃ O, (Obj.cells #[.string x.1.nm, .int .i64 x.1.wk, .int .i64 x.1.rs, .slice a1 x.1.af.length n1, .int .i64 x.1.du] 44) = O := ⟨_, rfl⟩
    have hBW := hB.alloc hsz O
    have ho5 := ho.alloc O
    have t4 : (wr.alloc O).cell? ⟨wr.heap.size, 4, none⟩ = some (.int .i64 x.1.du) := by rw [← hO]; simp [go_sem]
    obtain ⟨ty, hty⟩ : ∃ ty, (b.getD k (0, 0)).2 = ty := ⟨_, rfl⟩
    rw [hty] at d2
    have e2 := keepCell hBW d2
    have HFS : Hid (ltL (tks L) b (k + 1) = if x.1.du < ty then ltL (tks L) b k ++ [k] else ltL (tks L) b k) := by
     unfold Hid
     rw [ltL_succ]
     unfold dueOf spAt
     rw [tks_at, hx, hty]
    have HLN := Lib.hid (ltL_len (tks L) b k)
    go_upto_region 7 with fail
    obtain ⟨X, hX⟩ : ∃ X, wr.alloc O = X := ⟨_, rfl⟩
    rw [hX] at t4 e2 hBW ho5 ⊢
    clear hX hO p0 p1 p2 p3 p4 q0 q1 q2 q3 q4 d1 d2 hj e1 hx hty
    go_cut [27] from 20 to 27 (fun u wx => u = .bool (decide (x.1.du < ty)) ∧ Below X.heap.size X wx)
    case first =>
     go_region
     all_goals (go_wp2_with fail; go_meet)
     all_goals (case rel => exact ⟨rfl, (Below.refl _ _).drew⟩)
    case rest =>
    obtain ⟨rfl, hd1⟩ := hcut
    generalize wc = Z at *
    have o1 := ho5.below hd1
    have b1 := hBW.trans (hd1.mono hBW.size)
    have hfl := HLN.out
    clear hd1 ho5 hBW t4 e2 ho hB
    by_cases hdue : x.1.du < ty
    ·have g2 : decide (x.1.du < ty) = true := by simpa using hdue
     have HDE := Lib.hid hdue
     rw [g2]
     clear g2 hdue
     go_wp2_with (at_builtin; refine wpList_app_int rfl (.tmp 28) (.tmp 30) rfl rfl o1 b1 rfl (by simp) (by rw [natI_length]; omega) ?_; intro v2 w2 o2 b2 k2 z2; clear k2 z2)
     go_roundw
     case rel => exact ⟨k + 1, by omega, by go_num, by rw [HFS.out, if_pos HDE.out, natI_append]; exact o2, b2⟩
     case measure => simp [intOf]; omega
    ·have g2 : decide (x.1.du < ty) = false := by simpa using hdue
     have HDE : Hid (¬ x.1.du < ty) := hdue
     rw [g2]
     clear g2 hdue
     go_wp2
     go_roundw
     case rel => exact ⟨k + 1, by omega, by go_num, by rw [HFS.out, if_neg (by have := HDE.out; omega)]; exact o1, b1⟩
     case measure => simp [intOf]; omega
   ·have hkl : k = L.length := by omega
    subst hkl
    have HO := Lib.hid ho
    have HB := Lib.hid hB
    clear ho hB
    go_wp2
    go_ret
    exact ⟨_, rfl, by rw [HM.out]; exact HO.out, HB.out⟩
 ·have g1 : ((L.length : Int) != (b.length : Int)) = true := by simp; omega
  have HM : Hid (lateM (tks L) b = []) := by
   unfold Hid lateM
   rw [if_neg (by rw [tks_length]; exact hne)]
  clear hne
  go_wp2
  go_ret
  exact ⟨_, rfl, by rw [HM.out]; exact OwnI.nil _ _, Below.refl _ _⟩
end Go.Proofs.YtlbjfbpejomkmaaGreat
