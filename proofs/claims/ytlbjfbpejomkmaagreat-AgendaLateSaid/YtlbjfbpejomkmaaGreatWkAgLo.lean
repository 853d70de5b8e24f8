import Derived.Test.YtlbjfbpejomkmaaGreatWkAgQh
import Derived.Test.YtlbjfbpejomkmaaGreatWkRof
import Derived.Test.YtlbjfbpejomkmaaGreatWkUn
import Derived.Test.YtlbjfbpejomkmaaGreatWkRPa
/- Agenda: Load of the program and of the reference. -/
namespace Go.Proofs.YtlbjfbpejomkmaaGreat
open Go.RowKit Wk

def selL (l : List Tk) (b : List Sp) (r : Int) (k : Nat) : List Sp := ((List.range k).filter fun i => (tkAt l i).rs == r).map (spAt b)
def okL (l : List Tk) (b : List Sp) (r : Int) (k : Nat) : Bool := (List.range k).all fun i => !((tkAt l i).rs == r) || ivB (spAt b i)
def loadM (l : List Tk) (b : List Sp) (r : Int) : List Sp := if b.length = l.length then if okL l b r l.length = true then unL (selL l b r l.length) else [] else []
theorem selL_succ (l : List Tk) (b : List Sp) (r : Int) (k : Nat) : selL l b r (k + 1) = if ((tkAt l k).rs == r) = true then selL l b r k ++ [spAt b k] else selL l b r k := by
  unfold selL
  rw [List.range_succ, List.filter_append]
  split <;> rename_i h <;> simp [h]
theorem okL_succ (l : List Tk) (b : List Sp) (r : Int) (k : Nat) : okL l b r (k + 1) = (okL l b r k && (!((tkAt l k).rs == r) || ivB (spAt b k))) := by
  unfold okL
  rw [List.range_succ, List.all_append]
  simp
theorem selL_len (l : List Tk) (b : List Sp) (r : Int) (k : Nat) : (selL l b r k).length ≤ k := by
  unfold selL
  rw [List.length_map]
  have := List.length_filter_le (fun i => (tkAt l i).rs == r) (List.range k)
  rwa [List.length_range] at this
theorem load_bad {l : List Tk} {b : List Sp} {r : Int} {k : Nat} (hb : b.length = l.length) (hk : k < l.length) (h1 : ((tkAt l k).rs == r) = true) (h2 : ivB (spAt b k) = false) : loadM l b r = [] := by
  unfold loadM
  rw [if_pos hb, if_neg]
  intro h
  have := List.all_eq_true.1 h k (List.mem_range.2 hk)
  rw [h1, h2] at this
  cases this
theorem load_ok {l : List Tk} {b : List Sp} {r : Int} (hb : b.length = l.length) (h : okL l b r l.length = true) : Hid (loadM l b r = unL (selL l b r l.length)) ∧ Hid (allV (selL l b r l.length) = true) := by
  refine ⟨?_, ?_⟩
  · unfold Hid loadM
    rw [if_pos hb, if_pos h]
  · unfold Hid
    rw [allV_iff]
    intro i hi
    have hm : (selL l b r l.length).getD i (0, 0) ∈ selL l b r l.length := getD_in hi
    obtain ⟨j, hj, he⟩ := List.mem_map.1 hm
    rw [← he]
    obtain ⟨hj1, hj2⟩ := List.mem_filter.1 hj
    have := List.all_eq_true.1 h j hj1
    rw [hj2] at this
    simpa using this
theorem un_ex (l : List Sp) : ∃ L, Canon L ∧ (∀ x, inL L x = inL l x) ∧ L.length ≤ 2 * l.length := by
  have hE := endsS_all l
  have step : ∀ i, i < (endsS l).length → ∃ L, UnI l (endsS l) i L := by
    intro i
    induction i with
    | zero => exact fun _ => ⟨[], UnI.start⟩
    | succ i ih =>
      intro h
      obtain ⟨L, hL⟩ := ih (by omega)
      exact ⟨_, hL.step h⟩
  rcases Nat.eq_zero_or_pos (endsS l).length with h0 | h0
  · exact ⟨[], trivial, fun x => by rw [UnI.none h0]; rfl, by simp⟩
  · obtain ⟨L, hL⟩ := step ((endsS l).length - 1) (by omega)
    obtain ⟨h1, h2⟩ := hL.done (by omega)
    exact ⟨L, h1, h2, by have := hL.len; omega⟩
theorem runs_eq {l : List Sp} (h : allV l = true) (hl : l.length ≤ 24) : (runsOfM l).1 = unL l := by
  obtain ⟨L, h1, h2, h3⟩ := un_ex l
  have he := un_of h h1 h2
  unfold runsOfM
  rw [if_neg (by rw [h]; decide), ← he]
  unfold dnM
  rw [if_neg (by omega)]
theorem own_nilcap {W : World} {B : Nat} {v : Value} {l : List Sp} (h : OwnS W B v l) : ∀ n c, v = .slice none n c → c = 0 := by
  rintro n c rfl
  rcases h.2 with ⟨e, _⟩ | ⟨g, cap, cur, e, _⟩
  · cases e; rfl
  · cases e
def LoPost (l : List Sp) (w : World) (e : Ending) (w' : World) : Prop := ∃ v, e = .returned v ∧ OwnS w' w.heap.size v l ∧ Below w.heap.size w w'

set_option maxRecDepth 100000 in
set_option maxHeartbeats 4000000 in
theorem load_any (vl va : Value) (r : Int) (L : List Kv) (b : List Sp) (w : World) (hL : RdK w vl L) (hb : RdS w va b) (hlen : L.length ≤ 24) :
    Calls Tryz.prog 26 #[vl, va, .int .i64 r] w (LoPost (loadM (tks L) b r) w) := by
  have HV := Lib.hid (fun x y W => ivalid_any x y W)
  have HO := Lib.hid (fun v L W h hl => runsOf_any v L W h hl)
  have HLEN := Lib.hid hlen
  obtain ⟨a, c, rfl, hl, hc⟩ := hL
  obtain ⟨a2, c2, rfl, hl2, hc2⟩ := hb
  have HC := Lib.hid hc
  have HC2 := Lib.hid hc2
  clear hc hc2
  obtain ⟨m, hm⟩ : ∃ m, loadM (tks L) b r = m := ⟨_, rfl⟩
  rw [hm]
  have HM := Lib.hid hm
  clear hm
  go_enter Tryz.func26, Tryz.ntmps26
  by_cases hne : L.length = b.length
  · have g1 : ((L.length : Int) != (b.length : Int)) = false := by simp; omega
    have HNE : Hid (b.length = (tks L).length) := by unfold Hid; rw [tks_length]; exact hne.symm
    have HBL : Hid (b.length = L.length) := hne.symm
    clear hne
    go_wp2_with fail
    go_loopw [7, 19] (fun u i wr => ∃ k : Nat, k ≤ L.length ∧ i = .int .i64 k ∧ Hid (okL (tks L) b r k = true) ∧ OwnS wr w.heap.size u (selL (tks L) b r k) ∧ Below w.heap.size w wr) (fun _ i _ => L.length - (intOf i).toNat)
    case atStart => exact ⟨0, Nat.zero_le _, rfl, rfl, OwnS.nil _ _, Below.refl _ _⟩
    case round =>
      obtain ⟨k, hk, rfl, HK, ho, hB⟩ := hrel
      by_cases hlt : k < L.length
      · obtain ⟨hj, bl, ol, rfl, q0, q1, q2, q3, q4⟩ := HC.out k hlt
        have hlt2 : k < b.length := by have := HBL.out; omega
        obtain ⟨b2, o2, rfl, d1, d2⟩ := HC2.out k hlt2
        obtain ⟨x, hx⟩ : ∃ x, L.getD k kv0 = x := ⟨_, rfl⟩
        rw [hx] at hj q0 q1 q2 q3 q4
        obtain ⟨a1, n1, e1⟩ := hj.form
        rw [e1] at q3
        have p0 := keepCell hB q0
        have p1 := keepCell hB q1
        have p2 := keepCell hB q2
        have p3 := keepCell hB q3
        have p4 := keepCell hB q4
        have hsz := hB.size
        obtain ⟨tx, htx⟩ : ∃ t, (b.getD k (0, 0)).1 = t := ⟨_, rfl⟩
        obtain ⟨ty, hty⟩ : ∃ t, (b.getD k (0, 0)).2 = t := ⟨_, rfl⟩
        rw [htx] at d1
        rw [hty] at d2
        have HSP : Hid (spAt b k = (tx, ty)) := by unfold Hid spAt; rw [← htx, ← hty]
        have HRX : Hid ((tkAt (tks L) k).rs = x.1.rs) := by unfold Hid; rw [tks_at, hx]
        obtain ⟨O, hO⟩ : ∃ O, (Obj.cells #[.string x.1.nm, .int .i64 x.1.wk, .int .i64 x.1.rs, .slice a1 x.1.af.length n1, .int .i64 x.1.du] 44) = O := ⟨_, rfl⟩
        have hBW := hB.alloc hsz O
        have ho5 := ho.alloc O
        have t2 : (wr.alloc O).cell? ⟨wr.heap.size, 2, none⟩ = some (.int .i64 x.1.rs) := by rw [← hO]; simp [go_sem]
        have z1 := keepCell hBW d1
        have z2 := keepCell hBW d2
        go_upto_region 7 with fail
        obtain ⟨X, hX⟩ : ∃ X, wr.alloc O = X := ⟨_, rfl⟩
        rw [hX] at t2 z1 z2 hBW ho5 ⊢
        clear hX hO p0 p1 p2 p3 p4 q0 q1 q2 q3 q4 d1 d2 hj e1 hx hty htx ho hB hsz
        have HB := Lib.hid hBW
        have HOW := Lib.hid ho5
        clear hBW ho5
        by_cases hr : x.1.rs = r
        · have g2 : (x.1.rs != r) = false := by simpa using hr
          have HRE : Hid (((tkAt (tks L) k).rs == r) = true) := by unfold Hid; rw [HRX.out]; simpa using hr
          clear hr
          go_wp2_with fail
          refine (HV.out _ _ _).mono ?_
          rintro e w2 ⟨rfl, hb2⟩
          obtain ⟨iv, hiv⟩ : ∃ v, ivB (tx, ty) = v := ⟨_, rfl⟩
          rw [hiv]
          have HIV := Lib.hid hiv
          have z1' := keepCell hb2 z1
          have z2' := keepCell hb2 z2
          have HO2 := HOW.out.below hb2
          have HB2 := keepBelow HB.out hb2
          clear hiv hb2 z1 z2 t2
          cases iv with
          | false =>
            have hm : m = [] := by rw [← HM.out]; exact load_bad HNE.out (k := k) (by rw [tks_length]; exact hlt) HRE.out (by rw [HSP.out]; exact HIV.out)
            subst hm
            go_wp2
            go_ret
            exact ⟨_, rfl, OwnS.nil _ _, HB2⟩
          | true =>
            have HSU : Hid (selL (tks L) b r (k + 1) = selL (tks L) b r k ++ [(tx, ty)]) := by unfold Hid; rw [selL_succ, if_pos HRE.out, HSP.out]
            have HKU : Hid (okL (tks L) b r (k + 1) = true) := by unfold Hid; rw [okL_succ, HK.out, HRE.out, HSP.out, HIV.out]; rfl
            have hsl := Lib.hid (selL_len (tks L) b r k)
            go_wp2_with (at_builtin; refine wpList_app_span rfl (.tmp 34) (.tmp 39) rfl rfl HO2 HB2 rfl rfl (by have := hsl.out; omega) ?_; intro v1 w9 o1 b1 k1 s1; clear k1 s1)
            go_roundw
            case rel => exact ⟨k + 1, by omega, by go_num, HKU.out, by rw [HSU.out]; exact o1, b1⟩
            case measure => simp [intOf]; omega
        · have g2 : (x.1.rs != r) = true := by simpa using hr
          have HRE : Hid (((tkAt (tks L) k).rs == r) = false) := by unfold Hid; rw [HRX.out]; simpa using hr
          clear hr
          have HSU : Hid (selL (tks L) b r (k + 1) = selL (tks L) b r k) := by unfold Hid; rw [selL_succ, if_neg (by rw [HRE.out]; exact Bool.false_ne_true)]
          have HKU : Hid (okL (tks L) b r (k + 1) = true) := by unfold Hid; rw [okL_succ, HK.out, HRE.out]; rfl
          clear z1 z2
          go_wp2
          go_roundw
          case rel => exact ⟨k + 1, by omega, by go_num, HKU.out, by rw [HSU.out]; exact HOW.out, HB.out⟩
          case measure => simp [intOf]; omega
      · have hkl : k = L.length := by omega
        subst hkl
        have HOW := Lib.hid ho
        have HB := Lib.hid hB
        have hsl := Lib.hid (selL_len (tks L) b r L.length)
        have HMV : Hid (m = unL (selL (tks L) b r L.length)) ∧ Hid (allV (selL (tks L) b r L.length) = true) := by
          have := load_ok HNE.out (r := r) (by rw [tks_length]; exact HK.out)
          rw [HM.out, tks_length] at this
          exact this
        obtain ⟨HMU, HAV⟩ := HMV
        have HRD := Lib.hid (ho.rd (by have := hsl.out; omega))
        clear hsl
        obtain ⟨av, cv, rfl⟩ := ho.rd (by have := selL_len (tks L) b r L.length; omega) |>.form
        clear ho hB
        go_wp2_with fail
        refine (HO.out _ _ _ HRD.out (by have := selL_len (tks L) b r L.length; have := HLEN.out; omega)).mono ?_
        rintro e w2 ⟨v2, rfl, o2, hb2⟩
        have HO2 : Hid (OwnS w2 w.heap.size v2 m) := by
          have := o2.mono HB.out.size
          rw [runs_eq HAV.out (by have := selL_len (tks L) b r L.length; have := HLEN.out; omega), ← HMU.out] at this
          exact this
        have HB2 := Lib.hid (keepBelow HB.out hb2)
        clear hb2 o2
        go_wp2
        go_ret
        exact ⟨_, rfl, HO2.out, HB2.out⟩
  · have g1 : ((L.length : Int) != (b.length : Int)) = true := by simp; omega
    have hm : m = [] := by
      rw [← HM.out]
      unfold loadM
      rw [if_neg (by rw [tks_length]; exact fun h => hne h.symm)]
    subst hm
    clear hne
    go_wp2
    go_ret
    exact ⟨_, rfl, OwnS.nil _ _, Below.refl _ _⟩

set_option maxRecDepth 100000 in
set_option maxHeartbeats 4000000 in
theorem load48_any (vl va : Value) (r : Int) (L : List Kv) (b : List Sp) (w : World) (hL : RdK w vl L) (hb : RdS w va b) (hlen : L.length ≤ 24) :
    Calls Tryz.prog 27 #[vl, va, .int .i64 r] w (LoPost (loadM (tks L) b r) w) := by
  have HV := Lib.hid (fun x y W => valid10_any x y W)
  have HO := Lib.hid (fun v L W h hl => combine12_any v L W h hl)
  have HLEN := Lib.hid hlen
  obtain ⟨a, c, rfl, hl, hc⟩ := hL
  obtain ⟨a2, c2, rfl, hl2, hc2⟩ := hb
  have HC := Lib.hid hc
  have HC2 := Lib.hid hc2
  clear hc hc2
  obtain ⟨m, hm⟩ : ∃ m, loadM (tks L) b r = m := ⟨_, rfl⟩
  rw [hm]
  have HM := Lib.hid hm
  clear hm
  go_enter Tryz.func27, Tryz.ntmps27
  by_cases hne : L.length = b.length
  · have g1 : ((L.length : Int) != (b.length : Int)) = false := by simp; omega
    have HNE : Hid (b.length = (tks L).length) := by unfold Hid; rw [tks_length]; exact hne.symm
    have HBL : Hid (b.length = L.length) := hne.symm
    clear hne
    go_wp2_with fail
    go_loopw [7, 8] (fun u i wr => ∃ k : Nat, k ≤ L.length ∧ i = .int .i64 k ∧ Hid (okL (tks L) b r k = true) ∧ OwnS wr w.heap.size u (selL (tks L) b r k) ∧ Below w.heap.size w wr) (fun _ i _ => L.length - (intOf i).toNat)
    case atStart => exact ⟨0, Nat.zero_le _, rfl, rfl, OwnS.nil _ _, Below.refl _ _⟩
    case round =>
      obtain ⟨k, hk, rfl, HK, ho, hB⟩ := hrel
      by_cases hlt : k < L.length
      · obtain ⟨hj, bl, ol, rfl, q0, q1, q2, q3, q4⟩ := HC.out k hlt
        have hlt2 : k < b.length := by have := HBL.out; omega
        obtain ⟨b2, o2, rfl, d1, d2⟩ := HC2.out k hlt2
        obtain ⟨x, hx⟩ : ∃ x, L.getD k kv0 = x := ⟨_, rfl⟩
        rw [hx] at hj q0 q1 q2 q3 q4
        obtain ⟨a1, n1, e1⟩ := hj.form
        rw [e1] at q3
        have p0 := keepCell hB q0
        have p1 := keepCell hB q1
        have p2 := keepCell hB q2
        have p3 := keepCell hB q3
        have p4 := keepCell hB q4
        have hsz := hB.size
        obtain ⟨tx, htx⟩ : ∃ t, (b.getD k (0, 0)).1 = t := ⟨_, rfl⟩
        obtain ⟨ty, hty⟩ : ∃ t, (b.getD k (0, 0)).2 = t := ⟨_, rfl⟩
        rw [htx] at d1
        rw [hty] at d2
        have HSP : Hid (spAt b k = (tx, ty)) := by unfold Hid spAt; rw [← htx, ← hty]
        have HRX : Hid ((tkAt (tks L) k).rs = x.1.rs) := by unfold Hid; rw [tks_at, hx]
        have t2 := p2
        have z1 := keepCell hB d1
        have z2 := keepCell hB d2
        have ho5 := ho
        have hBW := hB
        clear p0 p1 p2 p3 p4 q0 q1 q2 q3 q4 d1 d2 hj e1 hx hty htx ho hB hsz
        generalize wr = X at *
        have HB := Lib.hid hBW
        have HOW := Lib.hid ho5
        clear hBW ho5
        by_cases hr : x.1.rs = r
        · have g2 : (x.1.rs == r) = true := by simpa using hr
          have HRE : Hid (((tkAt (tks L) k).rs == r) = true) := by unfold Hid; rw [HRX.out]; simpa using hr
          clear hr
          go_wp2_with fail
          refine (HV.out _ _ _).mono ?_
          rintro e w2 ⟨rfl, hb2⟩
          obtain ⟨iv, hiv⟩ : ∃ v, ivB (tx, ty) = v := ⟨_, rfl⟩
          rw [hiv]
          have HIV := Lib.hid hiv
          have z1' := keepCell hb2 z1
          have z2' := keepCell hb2 z2
          have HO2 := HOW.out.below hb2
          have HB2 := keepBelow HB.out hb2
          clear hiv hb2 z1 z2 t2
          cases iv with
          | false =>
            have hm : m = [] := by rw [← HM.out]; exact load_bad HNE.out (k := k) (by rw [tks_length]; exact hlt) HRE.out (by rw [HSP.out]; exact HIV.out)
            subst hm
            go_wp2
            go_ret
            exact ⟨_, rfl, OwnS.nil _ _, HB2⟩
          | true =>
            have HSU : Hid (selL (tks L) b r (k + 1) = selL (tks L) b r k ++ [(tx, ty)]) := by unfold Hid; rw [selL_succ, if_pos HRE.out, HSP.out]
            have HKU : Hid (okL (tks L) b r (k + 1) = true) := by unfold Hid; rw [okL_succ, HK.out, HRE.out, HSP.out, HIV.out]; rfl
            have hsl := Lib.hid (selL_len (tks L) b r k)
            go_wp2_with (at_builtin; refine wpList_app_span rfl (.tmp 33) (.tmp 38) rfl rfl HO2 HB2 rfl rfl (by have := hsl.out; omega) ?_; intro v1 w9 o1 b1 k1 s1; clear k1 s1)
            go_roundw
            case rel => exact ⟨k + 1, by omega, by go_num, HKU.out, by rw [HSU.out]; exact o1, b1⟩
            case measure => simp [intOf]; omega
        · have g2 : (x.1.rs == r) = false := by simpa using hr
          have HRE : Hid (((tkAt (tks L) k).rs == r) = false) := by unfold Hid; rw [HRX.out]; simpa using hr
          clear hr
          have HSU : Hid (selL (tks L) b r (k + 1) = selL (tks L) b r k) := by unfold Hid; rw [selL_succ, if_neg (by rw [HRE.out]; exact Bool.false_ne_true)]
          have HKU : Hid (okL (tks L) b r (k + 1) = true) := by unfold Hid; rw [okL_succ, HK.out, HRE.out]; rfl
          clear z1 z2
          go_wp2
          go_roundw
          case rel => exact ⟨k + 1, by omega, by go_num, HKU.out, by rw [HSU.out]; exact HOW.out, HB.out⟩
          case measure => simp [intOf]; omega
      · have hkl : k = L.length := by omega
        subst hkl
        have HOW := Lib.hid ho
        have HB := Lib.hid hB
        have hsl := Lib.hid (selL_len (tks L) b r L.length)
        have HMV : Hid (m = unL (selL (tks L) b r L.length)) ∧ Hid (allV (selL (tks L) b r L.length) = true) := by
          have := load_ok HNE.out (r := r) (by rw [tks_length]; exact HK.out)
          rw [HM.out, tks_length] at this
          exact this
        obtain ⟨HMU, HAV⟩ := HMV
        have HRD := Lib.hid (ho.rd (by have := hsl.out; omega))
        clear hsl
        have HNC := Lib.hid (own_nilcap ho)
        obtain ⟨av, cv, rfl⟩ := ho.rd (by have := selL_len (tks L) b r L.length; omega) |>.form
        clear ho hB
        go_wp2_with fail
        refine (HO.out _ _ _ HRD.out HNC.out (by have := selL_len (tks L) b r L.length; have := HLEN.out; omega)).mono ?_
        rintro e w2 ⟨v2, L2, rfl, o2, hcn, hin, hl2, hb2⟩
        have hm2 : m = L2 := by rw [HMU.out]; exact (un_of HAV.out hcn hin).symm
        subst hm2
        have HO2 := Lib.hid (o2.mono HB.out.size)
        have HB2 := Lib.hid (keepBelow HB.out hb2)
        clear hb2 o2 hcn hin hl2
        go_wp2
        go_ret
        exact ⟨_, rfl, HO2.out, HB2.out⟩
  · have g1 : ((L.length : Int) != (b.length : Int)) = true := by simp; omega
    have hm : m = [] := by
      rw [← HM.out]
      unfold loadM
      rw [if_neg (by rw [tks_length]; exact fun h => hne h.symm)]
    subst hm
    clear hne
    go_wp2
    go_ret
    exact ⟨_, rfl, OwnS.nil _ _, Below.refl _ _⟩
end Go.Proofs.YtlbjfbpejomkmaaGreat
