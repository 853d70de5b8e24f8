import Derived.Test.YtlbjfbpejomkmaaGreatWkAgQm
import Derived.Test.YtlbjfbpejomkmaaGreatWkShelfD
import Derived.Test.YtlbjfbpejomkmaaGreatWkAgQa
import Derived.Test.YtlbjfbpejomkmaaGreatWkBa
import Derived.Test.YtlbjfbpejomkmaaGreatWkPl
/- Agenda: slices.Delete of one number; the reference's Some. -/
namespace Go.Proofs.YtlbjfbpejomkmaaGreat
open Go.RowKit Wk Go.Sort

theorem deleteJ_any (v : Value) (L : List Int) (i : Nat) (w0 W : World) (h : OwnI W w0.heap.size v L) (hi : i < L.length) (hl : L.length ≤ 1000000) (hb : Below w0.heap.size w0 W) :
  Calls Tryz.prog 31 #[v, .int .i64 (i : Nat), .int .i64 ((i : Int) + 1)] W fun e w' => ∃ v', e = .returned v' ∧ RdJ w' v' (L.take i ++ L.drop (i + 1)) ∧ Below w0.heap.size w0 w' := by
 obtain ⟨h1, h2⟩ := h
 rcases h2 with ⟨rfl, h0⟩ | ⟨g, cap, cur, rfl, hg, hgg, hn, hcap, hsz, htk⟩
 ·omega
 ·rw [Nat.mul_one] at htk
  have hH : Holds (Value.int .i64) W g 0 L.toArray := holds_of_blockI hgg htk
  have e1 : (((i + 1 : Nat) : Nat) : Int) = (i : Int) + 1 := by omega
  have hD := Any.slices_Delete_int Tryz.byhand23 g 0 cap i (i + 1) L W hH hn (by unfold maxLen at hcap; omega) (by omega) (by omega)
  rw [e1] at hD
  refine hD.mono ?_
  rintro e w' ⟨rfl, q, rfl⟩
  have hlen : L.length - (i + 1 - i) = (L.take i ++ L.drop (i + 1)).length := by simp; omega
  refine ⟨_, rfl, ⟨some ⟨g, 0, none⟩, cap, by rw [hlen], by rw [← hlen]; omega, fun j hj => ⟨g, 0, rfl, ?_⟩⟩, ?_⟩
  ·rw [← hlen] at hj
   have hH' : Holds (Value.int .i64) (Sort.ahead W q) g 0 L.toArray := hH
   rw [cell?_putRow (Value.int .i64) (Sort.ahead W q) g 0 L.toArray _ hH' (by simp; omega) j (by simp; omega)]
   have hj2 : j < (L.take i ++ L.drop (i + 1)).length := by rw [← hlen]; exact hj
   rw [getElem!_pos _ j (by simp; omega), List.getD_eq_getElem?_getD, List.getElem?_eq_getElem hj2]
   simp only [List.getElem_toArray, Option.getD_some]
   rw [List.getElem_append_left hj2]
  ·have hgr := grownBy_sortedI (w := W) (g := g) (n := q) (os := #[]) (L.take i ++ L.drop (i + 1) ++ List.replicate (i + 1 - i) 0).toArray
   rw [grow_empty] at hgr
   exact hb.grown hgr hb.size (fun k hk => by cases hk; exact hg)

set_option maxRecDepth 100000 in
set_option maxHeartbeats 8000000 in
theorem Some48_any (vl vc : Value) (L : List Kv) (c : List Nat) (w : World) (hL : RdK w vl L) (hc : RdJ w vc (natI c)) (hlt : ∀ x ∈ c, x < L.length) (haf : ∀ i, i < (tks L).length → afB i (tkAt (tks L) i).af = true) (hlen : L.length ≤ 24) :
  Calls Tryz.prog 30 #[vl, vc] w (WoPost (someM (tks L) fun i => decide (i ∈ c)) w) := by
 have HL := Lib.hid hL
 have HC := Lib.hid hc
 have HLT := Lib.hid hlt
 have HAF := Lib.hid haf
 have HN := Lib.hid hlen
 obtain ⟨al, cl, rfl⟩ := hL.form
 obtain ⟨ac, cc, rfl⟩ := hc.form
 obtain ⟨i0, hi, hz0, hz1, hz2⟩ := info_parts Tryz.infoBool
 have HI := Lib.hid (And.intro hi (And.intro hz0 (And.intro hz1 hz2)))
 clear hi hz0 hz1 hz2 hL hc hlt haf hlen
 go_enter Tryz.func30, Tryz.ntmps30
 go_wp2_with (first | ((with_reducible show wpList _ _ _ _ _ _); refine wpList_make_full _ rfl (.tmp 8) (.tmp 8) 79 rfl w.heap.size 4 i0 (.bool false) 1 Tryz.underlying79 HI.out.1 HI.out.2.1 HI.out.2.2.1 .i64 .i64 _ _ L.length rfl rfl rfl rfl (by rw [HI.out.2.2.2]; have := HN.out; omega) (by unfold maxLen; have := HN.out; omega) (Nat.le_refl _) ?_; intro w3 hown hgr) | fail)
 have hb3 : Below w.heap.size w w3 := (Below.refl _ w).grown hgr (Nat.le_refl _) (fun k hk => by cases hk)
 obtain ⟨hz, hrow⟩ := rowV_zeroB hown
 have HB3 := Lib.hid hb3
 obtain ⟨gk, hgk⟩ : ∃ g, w.heap.size = g := ⟨_, rfl⟩
 rw [hgk] at hz hrow
 have HGK : Hid (w.heap.size ≤ gk ∧ gk < w3.heap.size) := ⟨by omega, hz⟩
 have HR0 := Lib.hid hrow
 rw [hgk]
 clear hown hgr hb3 hz hrow HI hgk
 go_wp2_with fail
 go_loopw [6] (fun i wr => ∃ k : Nat, k ≤ (natI c).length ∧ i = .int .i64 k ∧ RowV wr gk L.length (fun i => .bool (decide (i ∈ c.take k))) ∧ Below w.heap.size w wr) (fun i _ => (natI c).length - (intOf i).toNat)
 case atStart => exact ⟨0, Nat.zero_le _, rfl, HR0.out.congr fun i hi => by simp, HB3.out⟩
 case round =>
  obtain ⟨k, hk, rfl, hrow, hB⟩ := hrel
  by_cases hlt : k < (natI c).length
  ·obtain ⟨ac', cc', ec, hcl, hcc⟩ := HC.out.below hB
   cases ec
   obtain ⟨bc, oc, rfl, c1⟩ := hcc k hlt
   have hlt' : k < c.length := by rwa [natI_length] at hlt
   obtain ⟨m, hm⟩ : ∃ m, c.getD k 0 = m := ⟨_, rfl⟩
   have hgm : c[k]? = some m := by rw [← hm, List.getD_eq_getElem?_getD, List.getElem?_eq_getElem hlt']; rfl
   have hgi : (natI c).getD k 0 = (m : Int) := by unfold natI; rw [List.getD_eq_getElem?_getD, List.getElem?_map, hgm]; rfl
   rw [hgi] at c1
   have hml : m < L.length := HLT.out m (List.mem_of_getElem? hgm)
   have s1 : (m : Int) < (L.length : Int) := by omega
   have hkc := (hrow m hml).1
   have hkf := (hrow m hml).2
   have s2 : (k : Int) ≤ 1152921504606846976 := by omega
   have HRW : Hid (RowV (wr.setCell ⟨gk, m, none⟩ (.bool true)) gk L.length fun i => .bool (decide (i ∈ c.take (k + 1)))) := (hrow.set hml _).congr fun i hi => by
    have ht : c.take (k + 1) = c.take k ++ [m] := by rw [List.take_add_one, hgm]; rfl
    by_cases e : i = m
    ·subst e; simp [ht]
    ·rw [if_neg e, ht]
     congr 1
     rw [decide_eq_decide]
     simp [e]
   have HBW : Hid (Below w.heap.size w (wr.setCell ⟨gk, m, none⟩ (.bool true))) := hB.setCell (p := ⟨gk, m, none⟩) HGK.out.1 _
   clear hrow hB hcc hcl hm hgm hgi hlt'
   go_wp2
   go_roundw
   case rel => exact ⟨k + 1, by omega, by go_num, HRW.out, HBW.out⟩
   case measure => simp [intOf]; omega
  ·have hkl : k = (natI c).length := by omega
   subst hkl
   have HRW : Hid (RowV wr gk L.length fun i => .bool (decide (i ∈ c))) := hrow.congr fun i hi => by rw [List.take_of_length_le (by rw [natI_length]; exact Nat.le_refl _)]
   have HB4 := Lib.hid hB
   have HSM := Lib.hid (some48_any (.slice al L.length cl) gk L.length L (fun i => decide (i ∈ c)) wr (HL.out.below hB) HRW.out HAF.out HN.out)
   clear hrow hB
   go_wp2_with fail
   refine HSM.out.mono ?_
   rintro e w5 ⟨v5, L5, rfl, h5, ht5, hb5⟩
   have H5 : Hid (WoPost (someM (tks L) fun i => decide (i ∈ c)) w (.returned v5) w5) := ⟨v5, L5, rfl, h5, ht5, keepBelow HB4.out hb5⟩
   obtain ⟨a5, c5, rfl⟩ := h5.form
   clear h5 ht5 hb5
   go_wp2
   go_ret
   exact H5.out
end Go.Proofs.YtlbjfbpejomkmaaGreat
namespace Go.Proofs.YtlbjfbpejomkmaaGreat
open Go.RowKit Wk

theorem lessJ_any (x y : Int) (w : World) :
  Calls Tryz.prog 63 #[.int .i64 x, .int .i64 y] w fun e w' => e = .returned (.bool (decide (x < y))) ∧ Below w.heap.size w w' := by
 go_enter Tryz.func63, Tryz.ntmps63
 go_wp2
 go_ret
 exact ⟨rfl, Below.refl _ _⟩

set_option maxHeartbeats 1000000 in
theorem sortedJ_any (v : Value) (L : List Int) (w : World) (h : RdJ w v L) (hs : L.Pairwise (· < ·)) :
  Calls Tryz.prog 29 #[v] w fun e w' => e = .returned (.bool true) ∧ Below w.heap.size w w' := by
 have H := Lib.hid (fun x y W => lessJ_any x y W)
 have HS : Hid (∀ k : Nat, 0 < k → k < L.length → L.getD (k - 1) 0 < L.getD k 0) := fun k h0 hk => sorted_getD hs (by omega) hk
 clear hs
 obtain ⟨a, c, rfl, hl, hc⟩ := h
 go_enter Tryz.func29, Tryz.ntmps29
 go_wp2_with fail
 go_loopw [3] (fun u wr => ∃ y : Int, u = .int .i64 y ∧ -1 ≤ y ∧ y < L.length ∧ Below w.heap.size w wr) (fun u _ => (intOf u + 1).toNat)
 case atStart => exact ⟨(L.length : Int) - 1, by go_num, by omega, by omega, Below.refl _ _⟩
 case round =>
  obtain ⟨y, rfl, hy1, hy2, hB⟩ := hrel
  by_cases hlt : 0 < y
  ·obtain ⟨k, rfl⟩ : ∃ k : Nat, y = (k : Int) := ⟨y.toNat, by omega⟩
   obtain ⟨b, o, rfl, c1⟩ := hc k (by omega)
   obtain ⟨b', o', e', c2⟩ := hc (k - 1) (by omega)
   cases e'
   have d1 := ext_cell ((hB.cell (p := ⟨b, o + k, none⟩) (World.block_lt_of_cell? w _ c1)).trans c1)
   have d2 := ext_cell ((hB.cell (p := ⟨b, o + (k - 1), none⟩) (World.block_lt_of_cell? w _ c2)).trans c2)
   have hlt2 := HS.out k (by omega) (by omega)
   obtain ⟨p, hp⟩ : ∃ p, L.getD k 0 = p := ⟨_, rfl⟩
   obtain ⟨q, hq⟩ : ∃ q, L.getD (k - 1) 0 = q := ⟨_, rfl⟩
   rw [hp] at d1 hlt2
   rw [hq] at d2 hlt2
   have HL := H.out p q
   rw [decide_eq_false (by omega)] at HL
   have HL := Lib.hid HL
   have HC := Lib.hid hc
   have g1 : decide ((0 : Int) < (k : Int)) = true := by simpa using hlt
   have s1 : IntKind.i64.wrap ((k : Int) - 1) = (k : Int) - 1 := by rw [IntKind.wrap_i64]; omega
   have s2 : ((k : Int) - 1).toNat = k - 1 := by omega
   have s3 : (0 : Int) ≤ (k : Int) - 1 := by omega
   have s4 : (k : Int) - 1 < (L.length : Int) := by omega
   clear hp hq c1 c2 hlt2 hc
   go_wp2_with fail
   refine wp_region_ext (by kernel_rfl) (by kernel_rfl) ?_
   repeat (go_big_quiet_step ((go_at_call 63; refine calls_ext (HL.out _))))
   refine wpQuiet_nil ?_
   intro w1 hb1
   have hB1 := keepBelow hB hb1
   go_wp2
   go_roundw
   case rel => exact ⟨(k : Int) - 1, by go_num, by omega, by omega, hB1⟩
   case measure => (simp [intOf] <;> omega)
  ·have g1 : decide (0 < y) = false := by simpa using hlt
   clear hc
   go_wp2
   go_ret
   exact ⟨rfl, hB⟩
end Go.Proofs.YtlbjfbpejomkmaaGreat
