import Derived.Test.YtlbjfbpejomkmaaGreatWkRfX
import Derived.Test.YtlbjfbpejomkmaaGreatWkPv
import Derived.Laws.AppendOwnNone
import Derived.Test.YtlbjfbpejomkmaaGreatWkRof
import Derived.Test.YtlbjfbpejomkmaaGreatWkBf
/- The reference's lists of integers: insert, Ends. -/
namespace Go.Proofs.YtlbjfbpejomkmaaGreat
open Go.RowKit Wk

theorem wpList_app_ints {ops : Array Oper} {rest : List Oper} {o : Oper} {a : Act} {Q : Exit → Act → World → Prop} {w0 W : World} {v : Value} {L N : List Int} (hgd : o.guard = none) (s x : Operand)
    (ho : o.op = .call { callee := .builtin .append, args := #[s, x], argTypes := #[36, 36] }) (hs : a.eval s = v) (hown : OwnI W w0.heap.size v L) (hbw : Below w0.heap.size w0 W)
    {p : Option Addr} {m c : Nat} (hx : a.eval x = .slice p m c) (hm : m = N.length) (hp : (p = none ∧ c = 0 ∧ N = []) ∨ ∃ g k, p = some ⟨g, k, none⟩ ∧ ∀ j, j < N.length → W.cell? ⟨g, k + j, none⟩ = some (.int .i64 (N.getD j 0)))
    (hlen : L.length + N.length < 1000000000000)
    (h : ∀ v' w', OwnI w' w0.heap.size v' (L ++ N) → Below w0.heap.size w0 w' → wpList Tryz.prog ops Q rest (a.put o.dst v') w') : wpList Tryz.prog ops Q (o :: rest) a W := by
  obtain ⟨i0, hi, hz0, hz1, hz2⟩ := info_parts Tryz.infoInt
  have hsz := hbw.size
  rcases hp with ⟨rfl, rfl, rfl⟩ | ⟨g, k, rfl, hc⟩
  · subst hm
    refine wpList_append_own_none hgd s x 36 ho w0.heap.size 3 i0 1 Tryz.underlying36 hi v L.length (flatI L) hs hown hx ?_
    refine h v W ?_ hbw
    rw [List.append_nil]
    exact hown
  · subst hm
    refine wpList_append_own _ hgd s x 36 ho w0.heap.size 3 i0 (.int .i64 0) 1 8 Tryz.underlying36 hi hz0 hz1 hz2 rfl (by decide) v L.length (flatI L) hs hown ⟨g, k, none⟩ N.length c (flatI N) hx (by simp [flatI]) ?_ ?_ (by unfold maxLen; omega) (by omega) hsz ?_
    · intro j u hu
      have hj := (List.getElem?_eq_some_iff.1 hu).1
      have hj' : j < N.length := by simpa [flatI] using hj
      rw [WideShapes.add_plain, hc j hj']
      rw [← hu]
      simp [flatI, List.getD_eq_getElem?_getD, List.getElem?_eq_getElem hj']
    · intro u hu
      unfold flatI at hu
      obtain ⟨z, _, rfl⟩ := List.mem_map.1 hu
      rfl
    · intro v' w' hown' hg _
      refine h v' w' ?_ ?_
      · unfold OwnI
        rw [List.length_append]
        have : flatI (L ++ N) = flatI L ++ flatI N := by simp [flatI]
        rw [this]
        exact hown'
      · exact hbw.grown hg hsz (fun k hk => (hown.lt k hk).1)

def InPost (L : List Int) (x : Int) (B : Nat) (w : World) (e : Ending) (w' : World) : Prop := (∃ v', e = .returned v' ∧ OwnI w' B v' (insS L x)) ∧ Below w.heap.size w w'

set_option maxRecDepth 100000 in
set_option maxHeartbeats 4000000 in
theorem insert_any (v : Value) (L : List Int) (x : Int) (B : Nat) (w : World) (h : OwnI w B v L) (hBB : B ≤ w.heap.size) (ha : Asc L) (hll : L.length < 100000000) :
    Calls Tryz.prog 131 #[v, .int .i64 x] w (InPost L x B w) := by
  unfold InPost
  have HO := Lib.hid h
  have HAS := Lib.hid ha
  have H0 : Hid (OwnI (w.alloc (.cells #[] 3)) w.heap.size (.slice (some ⟨w.heap.size, 0, none⟩) 0 0) []) := World.ownsRow_made (base := w.heap.size) (e := 3) (size := 1) w #[] 0 (Nat.le_refl _) (Nat.zero_le _) rfl
  have HB0 : Hid (Below w.heap.size w (w.alloc (.cells #[] 3))) := (Below.refl _ w).alloc (Nat.le_refl _) _
  rcases h.2 with ⟨rfl, h0⟩ | ⟨g, cap, cur, rfl, _⟩
  · obtain rfl : L = [] := List.eq_nil_of_length_eq_zero h0
    clear h ha
    go_enter Tryz.func131, Tryz.ntmps131
    go_wp2_with fail
    go_loopw [5] (fun u wr => u = .int .i64 0 ∧ wr = w) (fun _ _ => 0)
    case atStart => exact ⟨rfl, rfl⟩
    case round =>
      obtain ⟨rfl, hw⟩ := hrel
      subst hw
      go_wp2_with (at_builtin; first
        | (refine wpList_app_ints (N := []) rfl (.tmp 35) (.tmp 38) rfl rfl H0.out HB0.out rfl rfl (.inl ⟨rfl, rfl, rfl⟩) (by simp) ?_; intro v1 w1 o1 b1)
        | (refine wpList_app_int rfl (.tmp 40) (.tmp 42) rfl rfl o1 b1 rfl rfl (by simp) ?_; intro v2 w2 o2 b2 k2 z2; clear k2 z2)
        | (refine wpList_app_ints (N := []) rfl (.tmp 44) (.tmp 47) rfl rfl o2 b2 rfl rfl (.inl ⟨rfl, rfl, rfl⟩) (by simp) ?_; intro v3 w3 o3 b3))
      go_ret
      exact ⟨⟨_, rfl, by have := o3.mono hBB; simpa [insS] using this⟩, b3⟩
  · have HC : Hid (∀ j, j < L.length → w.cell? ⟨g, j, none⟩ = some (.int .i64 (L.getD j 0))) := fun j hj => by
      obtain ⟨a, c, e, hf⟩ := h.form
      cases e
      obtain ⟨g', e', _, hc⟩ := hf j hj
      cases e'
      exact hc
    have HT : Hid (∀ i, i ≤ L.length → ∀ j, j < (L.take i).length → (w.alloc (.cells #[] 3)).cell? ⟨g, 0 + j, none⟩ = some (.int .i64 ((L.take i).getD j 0))) := fun i hi j hj => by
      have hj' : j < i := by simp at hj; omega
      rw [Nat.zero_add, List.getD_eq_getElem?_getD, List.getElem?_take, if_pos hj', ← List.getD_eq_getElem?_getD]
      exact keepCell HB0.out (HC.out j (by omega))
    have HD : Hid (∀ i, i ≤ L.length → ∀ j, j < (L.drop i).length → w.cell? ⟨g, i + j, none⟩ = some (.int .i64 ((L.drop i).getD j 0))) := fun i hi j hj => by
      have hj' : i + j < L.length := by simp at hj; omega
      rw [List.getD_eq_getElem?_getD, List.getElem?_drop, ← List.getD_eq_getElem?_getD]
      exact HC.out (i + j) hj'
    have hgs : g < w.heap.size := (h.lt g rfl).2
    clear h ha
    go_enter Tryz.func131, Tryz.ntmps131
    go_wp2_with fail
    go_loopw [5] (fun u wr => ∃ i : Nat, u = .int .i64 i ∧ i ≤ L.length ∧ Hid (∀ j, i ≤ j → j < L.length → x ≤ L.getD j 0) ∧ wr = w) (fun u _ => (intOf u).toNat)
    case atStart => exact ⟨L.length, rfl, Nat.le_refl _, fun j h1 h2 => by omega, rfl⟩
    case round =>
      obtain ⟨i, rfl, hi, HZ, hw⟩ := hrel
      subst hw
      by_cases h0 : i = 0
      · subst h0
        have z0 : decide ((0 : Int) < ((0 : Nat) : Int)) = false := by simp
        have HAT := Lib.hid (insS_at (l := L) (x := x) (i := 0) HAS.out hi (.inl rfl) HZ.out)
        by_cases hlt : 0 < L.length
        · have cc := HC.out 0 hlt
          have g1 : decide (((0 : Nat) : Int) < (L.length : Int)) = true := decide_eq_true (by omega)
          obtain ⟨y, hy⟩ : ∃ y, L.getD 0 0 = y := ⟨_, rfl⟩
          rw [hy] at cc
          have HY := Lib.hid hy
          clear hy
          by_cases hq : y = x
          · have g2 : (y == x) = true := by simpa using hq
            have HR : Hid (insS L x = L) := HAT.out.1 ⟨hlt, HY.out.trans hq⟩
            clear hq
            go_wp2
            go_ret
            exact ⟨⟨_, rfl, by rw [HR.out]; exact HO.out⟩, Below.refl _ _⟩
          · have g2 : (y == x) = false := by simpa using hq
            have HR : Hid (insS L x = L.take 0 ++ x :: L.drop 0) := HAT.out.2 (fun h => hq (HY.out.symm.trans h.2))
            clear hq
            go_wp2_with (at_builtin; first
              | (refine wpList_app_ints (N := L.take 0) rfl (.tmp 35) (.tmp 38) rfl rfl H0.out HB0.out rfl (by first | rfl | (simp; done) | (simp; omega)) (.inr ⟨g, 0, rfl, HT.out 0 hi⟩) (by first | omega | (simp; done) | (simp; omega)) ?_; intro v1 w1 o1 b1)
              | (refine wpList_app_int rfl (.tmp 40) (.tmp 42) rfl rfl o1 b1 rfl rfl (by first | omega | (simp; done) | (simp; omega)) ?_; intro v2 w2 o2 b2 k2 z2; clear k2 z2)
              | (refine wpList_app_ints (N := L.drop 0) rfl (.tmp 44) (.tmp 47) rfl rfl o2 b2 rfl (by first | rfl | (simp; done) | (simp; omega)) (.inr ⟨g, 0, rfl, fun j hj => keepCell b2 (HD.out 0 hi j hj)⟩) (by first | omega | (simp; done) | (simp; omega)) ?_; intro v3 w3 o3 b3)
              | (refine wpList_app_ints (N := L.drop 0) rfl (.tmp 44) (.tmp 47) rfl rfl o2 b2 rfl (by first | rfl | (simp; done) | (simp; omega)) (.inr ⟨g, if cap = i then 0 else i, by split <;> rfl, fun j hj => by simp at hj; omega⟩) (by first | omega | (simp; done) | (simp; omega)) ?_; intro v3 w3 o3 b3))
            all_goals go_ret
            all_goals exact ⟨⟨_, rfl, by rw [HR.out]; have := o3.mono hBB; rwa [List.append_assoc] at this⟩, b3⟩
        · have g1 : decide (((0 : Nat) : Int) < (L.length : Int)) = false := decide_eq_false (by omega)
          have HR : Hid (insS L x = L.take 0 ++ x :: L.drop 0) := HAT.out.2 (fun h => hlt h.1)
          go_wp2_with (at_builtin; first
            | (refine wpList_app_ints (N := L.take 0) rfl (.tmp 35) (.tmp 38) rfl rfl H0.out HB0.out rfl (by first | rfl | (simp; done) | (simp; omega)) (.inr ⟨g, 0, rfl, HT.out 0 hi⟩) (by first | omega | (simp; done) | (simp; omega)) ?_; intro v1 w1 o1 b1)
            | (refine wpList_app_int rfl (.tmp 40) (.tmp 42) rfl rfl o1 b1 rfl rfl (by first | omega | (simp; done) | (simp; omega)) ?_; intro v2 w2 o2 b2 k2 z2; clear k2 z2)
            | (refine wpList_app_ints (N := L.drop 0) rfl (.tmp 44) (.tmp 47) rfl rfl o2 b2 rfl (by first | rfl | (simp; done) | (simp; omega)) (.inr ⟨g, 0, rfl, fun j hj => keepCell b2 (HD.out 0 hi j hj)⟩) (by first | omega | (simp; done) | (simp; omega)) ?_; intro v3 w3 o3 b3)
            | (refine wpList_app_ints (N := L.drop 0) rfl (.tmp 44) (.tmp 47) rfl rfl o2 b2 rfl (by first | rfl | (simp; done) | (simp; omega)) (.inr ⟨g, if cap = i then 0 else i, by split <;> rfl, fun j hj => by simp at hj; omega⟩) (by first | omega | (simp; done) | (simp; omega)) ?_; intro v3 w3 o3 b3))
          all_goals go_ret
          all_goals exact ⟨⟨_, rfl, by rw [HR.out]; have := o3.mono hBB; rwa [List.append_assoc] at this⟩, b3⟩
      · have z0 : decide ((0 : Int) < (i : Int)) = true := decide_eq_true (by omega)
        have s1 : IntKind.i64.wrap ((i : Int) - 1) = (i : Int) - 1 := by rw [IntKind.wrap_i64]; omega
        have s2 : ((i : Int) - 1).toNat = i - 1 := by omega
        have s3 : (0 : Int) ≤ (i : Int) - 1 := by omega
        have s4 : (i : Int) - 1 < (L.length : Int) := by omega
        have c1 := HC.out (i - 1) (by omega)
        obtain ⟨yy, hyy⟩ : ∃ y, L.getD (i - 1) 0 = y := ⟨_, rfl⟩
        rw [hyy] at c1
        have HYY := Lib.hid hyy
        clear hyy
        by_cases hx : x ≤ yy
        · have g3 : decide (x ≤ yy) = true := by simpa using hx
          have HN : Hid (∀ j, i - 1 ≤ j → j < L.length → x ≤ L.getD j 0) := fun j h1 h2 => by
            rcases Nat.lt_or_ge j i with q | q
            · have : j = i - 1 := by omega
              subst this; rw [HYY.out]; exact hx
            · exact HZ.out j q h2
          clear hx
          go_wp2
          go_roundw
          case rel => exact ⟨i - 1, by congr 1; omega, by omega, HN.out, by first | rfl | trivial⟩
          case measure => simp [intOf]; omega
        · have g3 : decide (x ≤ yy) = false := by simpa using hx
          have HLX : Hid (L.getD (i - 1) 0 < x) := by unfold Hid; rw [HYY.out]; omega
          clear hx
          have HAT := Lib.hid (insS_at (l := L) (x := x) (i := i) HAS.out hi (.inr HLX.out) HZ.out)
          by_cases hlt : i < L.length
          · have cc := HC.out i hlt
            have g1 : decide ((i : Int) < (L.length : Int)) = true := decide_eq_true (by omega)
            obtain ⟨y, hy⟩ : ∃ y, L.getD i 0 = y := ⟨_, rfl⟩
            rw [hy] at cc
            have HY := Lib.hid hy
            clear hy
            by_cases hq : y = x
            · have g2 : (y == x) = true := by simpa using hq
              have HR : Hid (insS L x = L) := HAT.out.1 ⟨hlt, HY.out.trans hq⟩
              clear hq
              go_wp2
              go_ret
              exact ⟨⟨_, rfl, by rw [HR.out]; exact HO.out⟩, Below.refl _ _⟩
            · have g2 : (y == x) = false := by simpa using hq
              have HR : Hid (insS L x = L.take i ++ x :: L.drop i) := HAT.out.2 (fun h => hq (HY.out.symm.trans h.2))
              clear hq
              go_wp2_with (at_builtin; first
                | (refine wpList_app_ints (N := L.take i) rfl (.tmp 35) (.tmp 38) rfl rfl H0.out HB0.out rfl (by first | rfl | (simp; done) | (simp; omega)) (.inr ⟨g, 0, rfl, HT.out i hi⟩) (by first | omega | (simp; done) | (simp; omega)) ?_; intro v1 w1 o1 b1)
                | (refine wpList_app_int rfl (.tmp 40) (.tmp 42) rfl rfl o1 b1 rfl rfl (by first | omega | (simp; done) | (simp; omega)) ?_; intro v2 w2 o2 b2 k2 z2; clear k2 z2)
                | (refine wpList_app_ints (N := L.drop i) rfl (.tmp 44) (.tmp 47) rfl rfl o2 b2 rfl (by first | rfl | (simp; done) | (simp; omega)) (.inr ⟨g, i, rfl, fun j hj => keepCell b2 (HD.out i hi j hj)⟩) (by first | omega | (simp; done) | (simp; omega)) ?_; intro v3 w3 o3 b3)
                | (refine wpList_app_ints (N := L.drop i) rfl (.tmp 44) (.tmp 47) rfl rfl o2 b2 rfl (by first | rfl | (simp; done) | (simp; omega)) (.inr ⟨g, if cap = i then 0 else i, by split <;> rfl, fun j hj => by simp at hj; omega⟩) (by first | omega | (simp; done) | (simp; omega)) ?_; intro v3 w3 o3 b3))
              all_goals go_ret
              all_goals exact ⟨⟨_, rfl, by rw [HR.out]; have := o3.mono hBB; rwa [List.append_assoc] at this⟩, b3⟩
          · have g1 : decide ((i : Int) < (L.length : Int)) = false := decide_eq_false (by omega)
            have HR : Hid (insS L x = L.take i ++ x :: L.drop i) := HAT.out.2 (fun h => hlt h.1)
            go_wp2_with (at_builtin; first
              | (refine wpList_app_ints (N := L.take i) rfl (.tmp 35) (.tmp 38) rfl rfl H0.out HB0.out rfl (by first | rfl | (simp; done) | (simp; omega)) (.inr ⟨g, 0, rfl, HT.out i hi⟩) (by first | omega | (simp; done) | (simp; omega)) ?_; intro v1 w1 o1 b1)
              | (refine wpList_app_int rfl (.tmp 40) (.tmp 42) rfl rfl o1 b1 rfl rfl (by first | omega | (simp; done) | (simp; omega)) ?_; intro v2 w2 o2 b2 k2 z2; clear k2 z2)
              | (refine wpList_app_ints (N := L.drop i) rfl (.tmp 44) (.tmp 47) rfl rfl o2 b2 rfl (by first | rfl | (simp; done) | (simp; omega)) (.inr ⟨g, i, rfl, fun j hj => keepCell b2 (HD.out i hi j hj)⟩) (by first | omega | (simp; done) | (simp; omega)) ?_; intro v3 w3 o3 b3)
              | (refine wpList_app_ints (N := L.drop i) rfl (.tmp 44) (.tmp 47) rfl rfl o2 b2 rfl (by first | rfl | (simp; done) | (simp; omega)) (.inr ⟨g, if cap = i then 0 else i, by split <;> rfl, fun j hj => by simp at hj; omega⟩) (by first | omega | (simp; done) | (simp; omega)) ?_; intro v3 w3 o3 b3))
            all_goals go_ret
            all_goals exact ⟨⟨_, rfl, by rw [HR.out]; have := o3.mono hBB; rwa [List.append_assoc] at this⟩, b3⟩

def E12Post (l : List Sp) (w : World) (e : Ending) (w' : World) : Prop := ∃ v, e = .returned v ∧ OwnI w' w.heap.size v (endsS l) ∧ Below w.heap.size w w'
set_option maxRecDepth 100000 in
set_option maxHeartbeats 4000000 in
theorem ends12_any (v : Value) (l : List Sp) (w : World) (h : RdS w v l) (hll : l.length ≤ 1000000) :
    Calls Tryz.prog 97 #[v] w (E12Post l w) := by
  have HI := Lib.hid (fun v L x W h1 h2 h3 h4 => insert_any v L x w.heap.size W h1 h2 h3 h4)
  have HEO := Lib.hid (endsS_ok l)
  obtain ⟨a, c, rfl, hl, hc⟩ := h
  have HC := Lib.hid hc
  clear hc
  go_enter Tryz.func97, Tryz.ntmps97
  go_wp2_with fail
  go_loopw [3, 4] (fun u i wr => ∃ k : Nat, k ≤ l.length ∧ i = .int .i64 k ∧ OwnI wr w.heap.size u (endsS (l.take k)) ∧ Below w.heap.size w wr) (fun _ i _ => l.length - (intOf i).toNat)
  case atStart => exact ⟨0, Nat.zero_le _, rfl, OwnI.nil _ _, Below.refl _ _⟩
  case round =>
    obtain ⟨k, hk, rfl, ho, hB⟩ := hrel
    by_cases hlt : k < l.length
    · obtain ⟨b, o, x, y, rfl, hbw, HXY, d1, d2⟩ := rd_at HC.out hB hlt
      have hE := HEO.out k hk
      have HA1 := Lib.hid hE.1
      have hle := hE.2.1
      have HS : Hid (endsS (l.take (k + 1)) = insS (insS (endsS (l.take k)) x) y) := by
        have := endsS_take l k hlt
        rw [HXY.out] at this
        exact this
      have HA2 : Hid (Asc (insS (endsS (l.take k)) x)) := insS_asc HA1.out
      have hle2 := insS_len (l := endsS (l.take k)) (x := x)
      have HOW := Lib.hid ho
      have hsz := hB.size
      clear ho hE
      go_wp2_with fail
      refine (HI.out _ _ _ _ HOW.out (by omega) HA1.out (by omega)).mono ?_
      rintro e w1 ⟨⟨v1, rfl, o1⟩, b1⟩
      have hB1 := keepBelow hB b1
      obtain ⟨b', o', x', y', e', hbw', HXY', d1', d2'⟩ := rd_at HC.out hB1 hlt
      cases e'
      have hxy := HXY.out.symm.trans HXY'.out
      cases hxy
      have HOW1 := Lib.hid o1
      have hsz1 := hB1.size
      clear o1 d1 d2
      go_wp2_with fail
      refine (HI.out _ _ _ _ HOW1.out (by omega) HA2.out (by omega)).mono ?_
      rintro e w2 ⟨⟨v2, rfl, o2⟩, b2⟩
      have hB2 := keepBelow hB1 b2
      go_wp2
      go_roundw
      case rel => exact ⟨k + 1, by omega, by go_num, by rw [HS.out]; exact o2, hB2⟩
      case measure => simp [intOf]; omega
    · have hkl : k = l.length := by omega
      subst hkl
      rw [List.take_length] at ho
      go_wp2
      go_ret
      exact ⟨_, rfl, ho, hB⟩
end Go.Proofs.YtlbjfbpejomkmaaGreat
namespace Go.Proofs.YtlbjfbpejomkmaaGreat
open Go.RowKit Wk
namespace Wk
theorem addS_nil (s : Sp) : addS [] s = [s] := rfl
theorem addS_eq {K : List Sp} {a b y : Int} : addS (K ++ [(a, b)]) (b, y) = K ++ [(a, y)] := by
  unfold addS
  have h1 : (K ++ [(a, b)]).getD ((K ++ [(a, b)]).length - 1) (0, 0) = (a, b) := by simp [List.getD_eq_getElem?_getD]
  rw [h1, if_pos ⟨by simp, rfl⟩, List.dropLast_concat]
theorem addS_ne {K : List Sp} {a b x y : Int} (h : b ≠ x) : addS (K ++ [(a, b)]) (x, y) = (K ++ [(a, b)]) ++ [(x, y)] := by
  unfold addS
  have h1 : (K ++ [(a, b)]).getD ((K ++ [(a, b)]).length - 1) (0, 0) = (a, b) := by simp [List.getD_eq_getElem?_getD]
  rw [h1, if_neg fun e => h e.2]
end Wk

theorem wpList_app_spans {ops : Array Oper} {rest : List Oper} {o : Oper} {a : Act} {Q : Exit → Act → World → Prop} {w0 W : World} {v : Value} {L N : List Sp} (hgd : o.guard = none) (s x : Operand)
    (ho : o.op = .call { callee := .builtin .append, args := #[s, x], argTypes := #[26, 26] }) (hs : a.eval s = v) (hown : OwnS W w0.heap.size v L) (hbw : Below w0.heap.size w0 W)
    {p : Option Addr} {m c : Nat} (hx : a.eval x = .slice p m c) (hm : m = N.length) (hr : RdS W (.slice p m c) N) (hz : p = none → c = 0)
    (hlen : L.length + N.length < 1000000000000)
    (h : ∀ v' w', OwnS w' w0.heap.size v' (L ++ N) → Below w0.heap.size w0 w' → wpList Tryz.prog ops Q rest (a.put o.dst v') w') : wpList Tryz.prog ops Q (o :: rest) a W := by
  obtain ⟨i0, hi, hz0, hz1, hz2⟩ := info_parts Tryz.infoSpan
  have hsz := hbw.size
  subst hm
  cases p with
  | none =>
    have hN : N = [] := by
      cases N with
      | nil => rfl
      | cons t r => obtain ⟨a', c', e, _, hc⟩ := hr; obtain ⟨b, o, e', _⟩ := hc 0 (by simp); cases e; cases e'
    subst hN
    have := hz rfl
    subst this
    refine wpList_append_own_none hgd s x 26 ho w0.heap.size 46 i0 2 Tryz.underlying26 hi v L.length (flatS L) hs hown hx ?_
    refine h v W ?_ hbw
    rw [List.append_nil]
    exact hown
  | some ad =>
    have HN : ∀ j u, (flatS N)[j]? = some u → W.cell? (ad.add j) = some u := fun j u hu => by
      have hj := (List.getElem?_eq_some_iff.1 hu).1
      rw [flatS_length] at hj
      have hr' := hr
      obtain ⟨a', c', e, _, hc⟩ := hr
      obtain ⟨b, o, e', _⟩ := hc 0 (by omega)
      cases e
      cases e'
      exact hr'.cells.2 j u hu
    refine wpList_append_own _ hgd s x 26 ho w0.heap.size 46 i0 (.agg #[.int .i64 0, .int .i64 0]) 2 16 Tryz.underlying26 hi hz0 hz1 hz2 rfl (by decide) v L.length (flatS L) hs hown ad N.length c (flatS N) hx (flatS_length N) HN ?_ (by unfold maxLen; omega) (by omega) hsz ?_
    · intro u hu
      unfold flatS at hu
      obtain ⟨z, _, hu⟩ := List.mem_flatMap.1 hu
      simp at hu
      rcases hu with rfl | rfl <;> rfl
    · intro v' w' hown' hg _
      refine h v' w' ?_ ?_
      · unfold OwnS
        rw [List.length_append, flatS_append]
        exact hown'
      · exact hbw.grown hg hsz (fun k hk => (hown.lt k hk).1)

set_option maxHeartbeats 1000000 in
theorem keep12_any (a b : Bool) (w : World) : Calls Tryz.prog 98 #[.int .i64 1, .bool a, .bool b] w fun e w' => e = .returned (.bool (a || b)) ∧ Below w.heap.size w w' := by
  cases a with
  | true =>
    go_enter Tryz.func98, Tryz.ntmps98
    go_wp2
    go_ret
    exact ⟨rfl, Below.refl _ _⟩
  | false =>
    go_enter Tryz.func98, Tryz.ntmps98
    go_wp2
    go_ret
    exact ⟨rfl, Below.refl _ _⟩

set_option maxRecDepth 100000 in
set_option maxHeartbeats 4000000 in
theorem add12_own (v : Value) (L : List Sp) (x y : Int) (w0 w : World) (h : OwnS w w0.heap.size v L) (hb : Below w0.heap.size w0 w) (hl : L.length < 100000000) :
    Calls Tryz.prog 99 #[v, .agg #[.int .i64 x, .int .i64 y]] w fun e w' => (∃ v', e = .returned v' ∧ OwnS w' w0.heap.size v' (addS L (x, y))) ∧ Below w0.heap.size w0 w' := by
  obtain ⟨W, hWe⟩ : ∃ W, w.alloc (.cells #[.int .i64 x, .int .i64 y] 46) = W := ⟨_, rfl⟩
  have hB0 : Below w0.heap.size w0 W := by rw [← hWe]; exact hb.alloc hb.size _
  have c0 : W.cell? ⟨w.heap.size, 0, none⟩ = some (.int .i64 x) := by rw [← hWe]; simp [go_sem]
  have c1 : W.cell? ⟨w.heap.size, 1, none⟩ = some (.int .i64 y) := by rw [← hWe]; simp [go_sem]
  have ho : OwnS W w0.heap.size v L := by rw [← hWe]; exact h.alloc _
  have hne : v.ownBlock ≠ some w.heap.size := h.ne
  have HE := Lib.hid hWe
  clear hWe h hb
  by_cases hL0 : 0 < L.length
  · obtain ⟨K, y1, z1, rfl⟩ : ∃ K y1 z1, L = K ++ [(y1, z1)] := ⟨_, _, _, snoc_of_pos hL0⟩
    have hlK : (K ++ [(y1, z1)]).length = K.length + 1 := by simp
    obtain ⟨a8, c8, rfl, hf8⟩ := ho.form
    obtain ⟨g8, rfl, _, _, cl⟩ := hf8 K.length (by omega)
    simp only [List.getD_eq_getElem?_getD, List.getElem?_concat_length, Option.getD_some] at cl
    have HO := Lib.hid ho
    obtain ⟨m, hm⟩ : ∃ m, K.length = m := ⟨_, rfl⟩
    have HKm := Lib.hid hm
    rw [hm] at cl hlK
    have hl2 : m + 1 < 100000000 := by omega
    have t0 : decide ((0 : Int) < ((m + 1 : Nat) : Int)) = true := decide_eq_true (by omega)
    have s1 : IntKind.i64.wrap (((m + 1 : Nat) : Int) - 1) = (m : Int) := by rw [IntKind.wrap_i64]; omega
    have s4 : (0 : Int) ≤ (m : Int) := by omega
    have s5 : (m : Int) < ((m + 1 : Nat) : Int) := by omega
    rw [hlK] at hl
    rw [hlK]
    clear hL0 hf8 hm hl ho
    by_cases hz1 : z1 = x
    · have t2 : (z1 == x) = true := by simpa using hz1
      have HA : Hid (addS (K ++ [(y1, z1)]) (x, y) = K ++ [(y1, y)]) := by unfold Hid; rw [hz1]; exact addS_eq
      clear hz1
      have e0 := ext_cell c0
      have e1 := ext_cell c1
      have el := ext_cell cl
      go_enter Tryz.func99, Tryz.ntmps99
      go_wp2_with fail
      rw [HE.out]
      go_wp2_with fail
      refine wp_region_ext (by kernel_rfl) (by kernel_rfl) ?_
      repeat (go_big_quiet_step (fail))
      refine wpQuiet_nil ?_
      intro w2 hb2
      have k1 := keepCell hb2 c1
      have kl := keepCell hb2 cl
      have hB2 := keepBelow hB0 hb2
      have ho2 := HO.out.below hb2
      have HF8 := ho2.frozen (m * 2 + 1)
      have HST := Lib.hid (ho2.setLast y)
      rw [HKm.out, hlK] at HST
      have HBE : Hid (Below w0.heap.size w0 (w2.setCell ⟨g8, m * 2 + 1, none⟩ (.int .i64 y))) := hB2.grown HST.out.2 hB2.size (fun x hx => by cases hx; exact (ho2.lt _ rfl).1)
      clear ho2 hB2 e0 e1 el c0 c1 cl hb2 hB0
      go_wp2
      go_ret
      refine ⟨⟨_, rfl, ?_⟩, HBE.out⟩
      rw [HA.out]
      exact HST.out.1
    · have t2 : (z1 == x) = false := by simpa using hz1
      have HA : Hid (addS (K ++ [(y1, z1)]) (x, y) = (K ++ [(y1, z1)]) ++ [(x, y)]) := addS_ne hz1
      clear hz1
      have e0 := ext_cell c0
      have e1 := ext_cell c1
      have el := ext_cell cl
      go_enter Tryz.func99, Tryz.ntmps99
      go_wp2_with fail
      rw [HE.out]
      go_wp2_with fail
      refine wp_region_ext (by kernel_rfl) (by kernel_rfl) ?_
      repeat (go_big_quiet_step (fail))
      refine wpQuiet_nil ?_
      intro w2 hb2
      have k0 := keepCell hb2 c0
      have k1 := keepCell hb2 c1
      have hB2 := keepBelow hB0 hb2
      have ho2 := HO.out.below hb2
      rw [hlK] at ho2
      clear e0 e1 el c0 c1 cl hb2 hB0
      go_wp2_with (at_builtin; refine wpList_app_span rfl (.tmp 29) (.tmp 31) rfl rfl ho2 hB2 rfl rfl (by rw [hlK]; omega) ?_; intro v1 w9 o1 b1 k1 z1; clear k1)
      go_ret
      exact ⟨⟨_, rfl, by rw [HA.out]; exact o1⟩, b1⟩
  · obtain rfl : L = [] := List.length_eq_zero_iff.1 (by omega)
    have HO := Lib.hid ho
    obtain ⟨a8, c8, e8, _⟩ := ho.form
    rw [List.length_nil] at e8
    subst e8
    clear hL0 ho
    have e0 := ext_cell c0
    have e1 := ext_cell c1
    go_enter Tryz.func99, Tryz.ntmps99
    go_wp2_with fail
    rw [HE.out]
    go_wp2_with fail
    refine wp_region_ext (by kernel_rfl) (by kernel_rfl) ?_
    repeat (go_big_quiet_step (fail))
    refine wpQuiet_nil ?_
    intro w2 hb2
    have k0 := keepCell hb2 c0
    have k1 := keepCell hb2 c1
    have hB2 := keepBelow hB0 hb2
    have ho2 := HO.out.below hb2
    clear e0 e1 c0 c1 hb2 hB0
    go_wp2_with (at_builtin; refine wpList_app_span rfl (.tmp 29) (.tmp 31) rfl rfl ho2 hB2 rfl rfl (by simp) ?_; intro v1 w9 o1 b1 k1 z1; clear k1)
    go_ret
    exact ⟨⟨_, rfl, by rw [addS_nil]; exact o1⟩, b1⟩

def C12Post (l : List Sp) (w : World) (e : Ending) (w' : World) : Prop := ∃ v L, e = .returned v ∧ OwnS w' w.heap.size v L ∧ Canon L ∧ (∀ x, inL L x = inL l x) ∧ L.length ≤ 4 * l.length ∧ Below w.heap.size w w'
set_option maxRecDepth 100000 in
set_option maxHeartbeats 8000000 in
theorem combine12_any (v : Value) (l : List Sp) (w : World) (h : RdS w v l) (hz : ∀ n c, v = .slice none n c → c = 0) (hll : l.length ≤ 100000) :
    Calls Tryz.prog 61 #[.int .i64 1, v, .slice none 0 0] w (C12Post l w) := by
  have HEN := Lib.hid (fun v W h => ends12_any v l W h (by omega))
  have HIN := Lib.hid (fun x W h => in12_any v l x W h)
  have HI0 : Hid (∀ (x : Int) (W : World), Calls Tryz.prog 82 #[.slice none 0 0, .int .i64 x] W fun e w' => e = .returned (.bool false) ∧ Below W.heap.size W w') := fun x W => in12_any (.slice none 0 0) [] x W (rd_none W)
  have HKP := Lib.hid (fun a b W => keep12_any a b W)
  have HAD := Lib.hid (fun v L x y w0 W h hb hl => add12_own v L x y w0 W h hb hl)
  have HR := Lib.hid h
  have HEA := endsS_all l
  obtain ⟨E, hE⟩ : ∃ E, endsS l = E := ⟨_, rfl⟩
  have HUS : Hid (UnI l E 0 []) := by rw [← hE]; exact UnI.start
  have HUP : Hid (∀ i L, UnI l E i L → i + 1 < E.length → UnI l E (i + 1) (if inL l (E.getD i 0) = true then addS L (E.getD i 0, E.getD (i + 1) 0) else L)) := by rw [← hE]; exact fun i L h => h.step
  have HUD : Hid (∀ i L, UnI l E i L → i + 1 = E.length → Canon L ∧ ∀ x, inL L x = inL l x) := by rw [← hE]; exact fun i L h => h.done
  have HUN : Hid (E.length = 0 → ∀ x, inL l x = false) := by rw [← hE]; exact UnI.none
  have hEl : E.length ≤ 2 * l.length := by rw [← hE]; exact HEA.2.1
  clear HEA
  obtain ⟨a, c, rfl⟩ := h.form
  have H0 : Hid (OwnS (w.alloc (.cells #[] 46)) w.heap.size (.slice (some ⟨w.heap.size, 0, none⟩) 0 0) []) := World.ownsRow_made (base := w.heap.size) (e := 46) (size := 2) w #[] 0 (Nat.le_refl _) (Nat.zero_le _) rfl
  have HB0 : Hid (Below w.heap.size w (w.alloc (.cells #[] 46))) := (Below.refl _ w).alloc (Nat.le_refl _) _
  have HRA := Lib.hid (keepRd HB0.out HR.out)
  have HZ : Hid (a = none → c = 0) := fun e => hz _ _ (by rw [e])
  have HEE := Lib.hid hE
  clear h hz hE
  go_enter Tryz.func61, Tryz.ntmps61
  go_wp2_with (at_builtin; first
    | (refine wpList_app_spans (N := l) rfl (.tmp 10) (.tmp 11) rfl rfl H0.out HB0.out rfl rfl HRA.out HZ.out (by simp; omega) ?_; intro v1 w1 o1 b1)
    | (refine wpList_app_spans (N := []) rfl (.tmp 12) (.tmp 13) rfl rfl o1 b1 rfl rfl (rd_none _) (fun _ => rfl) (by simp; omega) ?_; intro v2 w2 o2 b2))
  have e2 : ([] ++ l) ++ [] = l := by simp
  rw [e2] at o2
  refine (HEN.out _ _ (o2.rd (by omega))).mono ?_
  rintro e w3 ⟨ve, rfl, oe, be⟩
  rw [HEE.out] at oe
  have hB3 := keepBelow b2 be
  have HR3 := Lib.hid (keepRd hB3 HR.out)
  have HEF : Hid (∀ j, j < E.length → ∃ g ce, ve = .slice (some ⟨g, 0, none⟩) E.length ce ∧ w3.cell? ⟨g, j, none⟩ = some (.int .i64 (E.getD j 0))) := fun j hj => ownI_elt oe hj
  obtain ⟨ae, ce, rfl, _⟩ := oe.form
  clear o1 b1 o2 b2 be oe
  go_wp2_with fail
  go_loopw [8, 9] (fun u i wr => ∃ (k : Nat) (L : List Sp), i = .int .i64 k ∧ (k + 1 ≤ E.length ∨ k = 0) ∧ OwnS wr w3.heap.size u L ∧ Hid (UnI l E k L) ∧ Below w3.heap.size w3 wr) (fun _ i _ => E.length - (intOf i).toNat)
  case atStart => exact ⟨0, [], rfl, .inr rfl, OwnS.nil _ _, HUS.out, Below.refl _ _⟩
  case round =>
    obtain ⟨k, L, rfl, hk, ho, HU, hB⟩ := hrel
    have hLk := HU.out.len
    have s1 : IntKind.i64.wrap ((k : Int) + 1) = (k : Int) + 1 := by rw [IntKind.wrap_i64]; omega
    by_cases hlt : k + 1 < E.length
    · obtain ⟨g, ce', e', k0⟩ := HEF.out k (by omega)
      cases e'
      obtain ⟨g', ce', e', k1⟩ := HEF.out (k + 1) hlt
      cases e'
      have q0 := keepCell hB k0
      have q1 := keepCell hB k1
      have HUP1 := Lib.hid (HUP.out k L HU.out hlt)
      obtain ⟨y0, hy0⟩ : ∃ y, E.getD k 0 = y := ⟨_, rfl⟩
      obtain ⟨y1, hy1⟩ : ∃ y, E.getD (k + 1) 0 = y := ⟨_, rfl⟩
      rw [hy0] at q0 HUP1
      rw [hy1] at q1 HUP1
      clear hy0 hy1
      have f0 := ext_cell q0
      have f1 := ext_cell q1
      have HRR := Lib.hid (ext_rd (keepRd hB HR3.out))
      have t1 : decide ((k : Int) + 1 < (E.length : Int)) = true := decide_eq_true (by omega)
      have t2 : (k : Int) < (E.length : Int) := by omega
      have HOW := Lib.hid ho
      obtain ⟨p, hp⟩ : ∃ p, inL l y0 = p := ⟨_, rfl⟩
      have HIN1 := Lib.hid (HIN.out y0)
      have HI01 := Lib.hid (HI0.out y0)
      rw [hp] at HUP1 HIN1
      clear k0 k1 ho hp
      go_wp2_with fail
      refine wp_region_ext (by kernel_rfl) (by kernel_rfl) ?_
      iterate 14 (go_big_quiet_step ((first | (go_at_call_of 82 (Value.slice none 0 0); refine calls_ext (HI01.out _)) | (go_at_call_of 82 (Value.slice a l.length c); refine calls_ext (HIN1.out _ (HRR.out _))) | (go_at_call 98; refine calls_ext (HKP.out _ _ _)))))
      refine wpQuiet_nil ?_
      intro w5 hb5
      have hB5 := keepBelow hB hb5
      have j0 := keepCell hb5 q0
      have j1 := keepCell hb5 q1
      have ho5 := Lib.hid (HOW.out.below hb5)
      clear q0 q1 f0 f1 hb5
      cases p with
      | true =>
        have hd : Below w5.heap.size w5 w5.drew := (Below.refl _ _).drew
        have hB5d := keepBelow hB5 hd
        have HO5d := Lib.hid (ho5.out.below hd)
        have n0 := keepCell hd j0
        have n1 := keepCell hd j1
        go_wp2_with fail
        go_region_with (go_at_call 99; refine (HAD.out _ L _ _ w3 _ HO5d.out hB5d (by omega)).mono ?_; rintro e w6 ⟨⟨v6, rfl, o6⟩, b6⟩)
        all_goals (go_wp2; go_roundw)
        all_goals first
          | exact ⟨k + 1, _, by go_num, .inl (by omega), o6, by have := HUP1.out; rw [if_pos trivial] at this; exact this, b6⟩
          | (simp [intOf]; omega)
      | false =>
        go_wp2
        go_roundw
        case rel => exact ⟨k + 1, L, by go_num, .inl (by omega), ho5.out, by have := HUP1.out; rwa [if_neg (by simp)] at this, hB5⟩
        case measure => simp [intOf]; omega
    · have t1 : decide ((k : Int) + 1 < (E.length : Int)) = false := by simp; omega
      have hfin : Canon L ∧ ∀ x, inL L x = inL l x := by
        by_cases h0 : E.length = 0
        · refine ⟨HU.out.can, fun x => ?_⟩
          rw [HU.out.has, HUN.out h0]; rfl
        · exact HUD.out k L HU.out (by omega)
      have HF := Lib.hid hfin
      clear hfin
      go_wp2
      go_ret
      exact ⟨_, L, rfl, ho.mono hB3.size, HF.out.1, HF.out.2, by omega, keepBelow hB3 hB⟩

end Go.Proofs.YtlbjfbpejomkmaaGreat
