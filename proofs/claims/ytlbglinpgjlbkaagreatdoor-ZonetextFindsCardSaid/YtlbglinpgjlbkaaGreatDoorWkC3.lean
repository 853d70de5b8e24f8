import Derived.Test.YtlbglinpgjlbkaaGreatDoorWkQm
/- Zone texts: the first fault of a source: the program's Check. Printed by gen_c3.py. -/
namespace Go.Proofs.YtlbglinpgjlbkaaGreatDoor
open Go.RowKit Wk Go.Maps

theorem lawS : Keyed Tryz.prog 9 := string_keyed Tryz.underlying9
theorem zeroB (w : World) : (zeroValue 4).run Tryz.prog w = .ok (.bool false) w := by kernel_rfl
theorem ownsMap_below {H : Type} {P : Program} {k : TypeId} {R : Value → Option (DataW H × List MemPlace)} {w w' : World} {b n : Nat} {D : DataW H} (h : w.ownsMap P k R b n D) (hb : Below w.heap.size w w') : w'.ownsMap P k R b n D := by
 have hlt := h.lt
 obtain ⟨es, clock, hb', F, hs, hD⟩ := h
 exact ⟨es, clock, (hb.block b hlt).trans hb', F, hs, hD⟩
def nmK (l : List RuT) (k : Nat) : List Lit := ((List.range k).map fun i => Lit.string (l.getD i ru0).nm).reverse
theorem nmK_succ (l : List RuT) (k : Nat) : nmK l (k + 1) = Lit.string (l.getD k ru0).nm :: nmK l k := by
 unfold nmK
 rw [List.range_succ]
 simp
theorem nmK_mem {l : List RuT} {n : Bs} : Lit.string n ∈ nmK l l.length ↔ (l.map RuT.nm).contains n = true := by
 unfold nmK
 rw [List.mem_reverse, List.mem_map, List.contains_iff_mem, List.mem_map]
 constructor
 ·rintro ⟨i, hi, he⟩
  injection he with he
  exact ⟨l.getD i ru0, getD_mem (List.mem_range.1 hi), he⟩
 ·rintro ⟨x, hx, rfl⟩
  obtain ⟨i, hi, rfl⟩ := List.mem_iff_getElem.1 hx
  exact ⟨i, List.mem_range.2 hi, by rw [List.getD_eq_getElem?_getD, List.getElem?_eq_getElem hi]; rfl⟩
theorem drop_at {α : Type} {l : List α} {i : Nat} (d : α) (h : i < l.length) : l.drop i = l.getD i d :: l.drop (i + 1) := by
 rw [List.drop_eq_getElem_cons h, List.getD_eq_getElem?_getD, List.getElem?_eq_getElem h]
 rfl
theorem chkR_go {l : List RuT} {i : Nat} (h : i < l.length) (hv : ruB (l.getD i ru0) = true) : chkR (l.drop i) = chkR (l.drop (i + 1)) := by
 rw [drop_at ru0 h, chkR, if_pos hv]
theorem chkR_no {l : List RuT} {i : Nat} (h : i < l.length) (hv : ruB (l.getD i ru0) = false) : chkR (l.drop i) = some ((l.getD i ru0).nm, 1) := by
 rw [drop_at ru0 h, chkR, if_neg (by rw [hv]; simp)]
theorem chkN_go {nms : List Bs} {l : List LiT} {i : Nat} (h : i < l.length) (hv : ((l.getD i li0).ru == [] || nms.contains (l.getD i li0).ru) = true) : chkN nms (l.drop i) = chkN nms (l.drop (i + 1)) := by
 rw [drop_at li0 h, chkN, if_pos hv]
theorem chkN_no {nms : List Bs} {l : List LiT} {i : Nat} (h : i < l.length) (h1 : ((l.getD i li0).ru == []) = false) (h2 : nms.contains (l.getD i li0).ru = false) : chkN nms (l.drop i) = some ((l.getD i li0).ru, 7) := by
 rw [drop_at li0 h, chkN, if_neg (by rw [h1, h2]; simp)]
def seZ (Z : List ZkT) (i : Nat) : List Bs := ((Z.take i).map fun z => z.1.nm).reverse
theorem seZ_succ {Z : List ZkT} {i : Nat} (h : i < Z.length) : seZ Z (i + 1) = (Z.getD i zk0).1.nm :: seZ Z i := by
 unfold seZ
 rw [List.take_add_one, List.getD_eq_getElem?_getD, List.getElem?_eq_getElem h, List.map_append, List.reverse_append]
 rfl
theorem any_con {α : Type} (f : α → Bs) (n : Bs) (l : List α) : (l.any fun z => f z == n) = (l.map f).contains n := by
 rw [Bool.eq_iff_iff, List.any_eq_true, List.contains_iff_mem, List.mem_map]
 constructor
 ·rintro ⟨x, hx, he⟩
  exact ⟨x, hx, by simpa using he⟩
 ·rintro ⟨x, hx, he⟩
  exact ⟨x, hx, by simpa using he⟩
theorem con_rev (l : List Bs) (n : Bs) : l.reverse.contains n = l.contains n := by
 rw [Bool.eq_iff_iff, List.contains_iff_mem, List.contains_iff_mem, List.mem_reverse]
theorem seZ_any (Z : List ZkT) (i : Nat) (n : Bs) : (seZ Z i).contains n = (Z.take i).any fun z => z.1.nm == n := by
 rw [seZ, con_rev, any_con (fun z : ZkT => z.1.nm)]
def seL (l : List LkT) (i : Nat) : List Bs := ((l.take i).map LkT.nm).reverse
theorem seL_succ {l : List LkT} {i : Nat} (h : i < l.length) : seL l (i + 1) = (l.getD i lk0).nm :: seL l i := by
 unfold seL
 rw [List.take_add_one, List.getD_eq_getElem?_getD, List.getElem?_eq_getElem h, List.map_append, List.reverse_append]
 rfl
theorem seL_any (l : List LkT) (i : Nat) (n : Bs) : (seL l i).contains n = (l.take i).any fun z => z.nm == n := by
 rw [seL, con_rev, any_con LkT.nm]
def zGo (nms : List Bs) (Z : List ZkT) (i : Nat) : Option (Bs × Int) := chkZ nms (seZ Z i) ((Z.drop i).map Prod.fst)
theorem zGo_at {nms : List Bs} {Z : List ZkT} {i : Nat} (h : i < Z.length) : zGo nms Z i = if zoB (Z.getD i zk0).1 = false then some ((Z.getD i zk0).1.nm, 1) else if ((Z.take i).any fun z => z.1.nm == (Z.getD i zk0).1.nm) = true then some ((Z.getD i zk0).1.nm, 8) else match chkN nms (Z.getD i zk0).1.li with
  | some e => some e
  | none => zGo nms Z (i + 1) := by
 unfold zGo
 rw [drop_at zk0 h, List.map_cons, chkZ, seZ_any, seZ_succ h]
 cases chkN nms (Z.getD i zk0).1.li <;> rfl
def lGo (zs : List Bs) (l : List LkT) (i : Nat) : Option (Bs × Int) := chkL zs (seL l i) (l.drop i)
theorem lGo_at {zs : List Bs} {l : List LkT} {i : Nat} (h : i < l.length) : lGo zs l i = if nameB (l.getD i lk0).nm = false then some ((l.getD i lk0).nm, 1) else if (zs.contains (l.getD i lk0).nm || (l.take i).any fun z => z.nm == (l.getD i lk0).nm) = true then some ((l.getD i lk0).nm, 8) else if zs.contains (l.getD i lk0).zo = false then some ((l.getD i lk0).zo, 7) else lGo zs l (i + 1) := by
 unfold lGo
 rw [drop_at lk0 h, chkL, seL_any, seL_succ h]
def CapV (v : Value) : Prop := ∀ a n c, v = .slice a n c → n ≤ c
def ChkA (s : SrT) (e : Ending) : Prop := e = .returned (.tuple #[.string ⟨(checkM s).1.toArray⟩, .int .i64 (checkM s).2])
theorem chk_full {s : SrT} (h : 100 < s.ru.length ∨ 30 < s.zo.length + s.lk.length) : ChkA s (.returned (.tuple #[.string ⟨#[]⟩, .int .i64 5])) := by
 unfold ChkA checkM
 rw [if_pos h]
theorem chk_ru {s : SrT} (h : ¬(100 < s.ru.length ∨ 30 < s.zo.length + s.lk.length)) {N : ByteArray} {e : Int} (h1 : chkR s.ru = some (bsO N, e)) : ChkA s (.returned (.tuple #[.string N, .int .i64 e])) := by
 unfold ChkA checkM
 rw [if_neg h, h1]
theorem chk_zo {ru : List RuT} {Z : List ZkT} {lk : List LkT} (h : ¬(100 < ru.length ∨ 30 < (Z.map Prod.fst).length + lk.length)) {N : ByteArray} {e : Int} (h1 : chkR ru = none) (h2 : zGo (ru.map RuT.nm) Z 0 = some (bsO N, e)) : ChkA ⟨ru, Z.map Prod.fst, lk⟩ (.returned (.tuple #[.string N, .int .i64 e])) := by
 have h2 : chkZ (ru.map RuT.nm) [] (Z.map Prod.fst) = some (bsO N, e) := h2
 unfold ChkA checkM
 simp only
 rw [if_neg h, h1, h2]
theorem chk_lk {ru : List RuT} {Z : List ZkT} {lk : List LkT} (h : ¬(100 < ru.length ∨ 30 < (Z.map Prod.fst).length + lk.length)) {N : ByteArray} {e : Int} (h1 : chkR ru = none) (h2 : zGo (ru.map RuT.nm) Z 0 = none) (h3 : lGo (Z.map fun z => z.1.nm) lk 0 = some (bsO N, e)) : ChkA ⟨ru, Z.map Prod.fst, lk⟩ (.returned (.tuple #[.string N, .int .i64 e])) := by
 have h2 : chkZ (ru.map RuT.nm) [] (Z.map Prod.fst) = none := h2
 have h3 : chkL ((Z.map Prod.fst).map ZoT.nm) [] lk = some (bsO N, e) := by rw [List.map_map]; exact h3
 unfold ChkA checkM
 simp only
 rw [if_neg h, h1, h2, h3]
theorem chk_ok {ru : List RuT} {Z : List ZkT} {lk : List LkT} (h : ¬(100 < ru.length ∨ 30 < (Z.map Prod.fst).length + lk.length)) (h1 : chkR ru = none) (h2 : zGo (ru.map RuT.nm) Z 0 = none) (h3 : lGo (Z.map fun z => z.1.nm) lk 0 = none) : ChkA ⟨ru, Z.map Prod.fst, lk⟩ (.returned (.tuple #[.string ⟨#[]⟩, .int .i64 0])) := by
 have h2 : chkZ (ru.map RuT.nm) [] (Z.map Prod.fst) = none := h2
 have h3 : chkL ((Z.map Prod.fst).map ZoT.nm) [] lk = none := by rw [List.map_map]; exact h3
 unfold ChkA checkM
 simp only
 rw [if_neg h, h1, h2, h3]

set_option maxRecDepth 100000 in
set_option maxHeartbeats 8000000 in
theorem check_any (rv zv lv : Value) (s : SrT) (Z : List ZkT) (w : World) (hs : RdSr w rv zv lv s Z) (hz : SzS s) (hg : Glob w) (hcz : CapV zv) (hcl : CapV lv) :
  Calls Tryz.prog 18 #[.agg #[rv, zv, lv]] w fun e w' => ChkA s e ∧ Below w.heap.size w w' := by
 have hmm := @run_makeMap Tryz.prog
 obtain ⟨ru, zo, lk⟩ := s
 obtain ⟨hru, hzo, hzs, hlk⟩ := hs
 simp only at hru hzs hlk
 subst hzs
 obtain ⟨zr, zz, zk⟩ := hz
 simp only at zr zz zk
 have HRU := Lib.hid hru
 have HZO := Lib.hid hzo
 have HLK := Lib.hid hlk
 have HZR := Lib.hid zr
 have HZZ := Lib.hid zz
 have HZK := Lib.hid zk
 have HG := Lib.hid hg
 obtain ⟨ar, cr, rfl⟩ := hru.form
 obtain ⟨az, cz, rfl⟩ := hzo.row.form
 obtain ⟨ak, ck0, rfl⟩ := hlk.form
 have HCZ : Hid (Z.length ≤ cz) := hcz _ _ _ rfl
 have HCL : Hid (lk.length ≤ ck0) := hcl _ _ _ rfl
 have HLR : Hid (ru.length ≤ 1152921504606846976) := Lib.hid hru.choose_spec.choose_spec.2.1
 have HLZ : Hid (Z.length ≤ 1152921504606846976) := Lib.hid hzo.row.choose_spec.choose_spec.2.1
 have HLL : Hid (lk.length ≤ 1152921504606846976) := Lib.hid hlk.choose_spec.choose_spec.2.1
 clear hru hzo hlk zr zz zk hg hcz hcl
 obtain ⟨bz, hbz⟩ : ∃ b, w.heap.size = b := ⟨_, rfl⟩
 obtain ⟨X, hX⟩ : ∃ X, w.alloc (.cells #[.slice ar ru.length cr, .slice az Z.length cz, .slice ak lk.length ck0] 27) = X := ⟨_, rfl⟩
 have HC : Hid (Cls X bz [.slice ar ru.length cr, .slice az Z.length cz, .slice ak lk.length ck0]) := Lib.hid (by rw [← hX, ← hbz]; exact Cls.new w _ _)
 have HBX : Hid (Below w.heap.size w X) := Lib.hid (by rw [← hX]; exact below_box)
 have HBZ : Hid (bz < X.heap.size) := Lib.hid (by rw [← hX, ← hbz]; simp)
 have hbb : Below X.heap.size X X := Below.refl _ _
 have c0 := Cls.at HC.out hbb (j := 0) (u := .slice ar ru.length cr) rfl
 have c1 := Cls.at HC.out hbb (j := 1) (u := .slice az Z.length cz) rfl
 have c2 := Cls.at HC.out hbb (j := 2) (u := .slice ak lk.length ck0) rfl
 clear hbb
 go_enter Tryz.func18, Tryz.ntmps18
 go_upto_region 1 with fail
 try rw [hX]
 try rw [hbz]
 clear hX hbz
 by_cases h1 : 100 < ru.length
 ·have HN := Lib.hid (chk_full (s := ⟨ru, Z.map Prod.fst, lk⟩) (.inl h1))
  have g1 : decide (100 < (ru.length : Int)) = true := by simp; omega
  go_wp2_with fail
  all_goals go_ret2
  all_goals exact ⟨HN.out, HBX.out⟩
 have g1 : decide (100 < (ru.length : Int)) = false := by simp; omega
 by_cases h2 : 30 < Z.length + lk.length
 ·have HN := Lib.hid (chk_full (s := ⟨ru, Z.map Prod.fst, lk⟩) (.inr (by simpa using h2)))
  have g2 : decide (30 < (Z.length : Int) + (lk.length : Int)) = true := by simp; omega
  have hlz := HLZ.out
  have hll := HLL.out
  have hw1 : IntKind.i64.wrap ((Z.length : Int) + (lk.length : Int)) = (Z.length : Int) + (lk.length : Int) := by rw [IntKind.wrap_i64]; omega
  go_wp2_with fail
  all_goals go_ret2
  all_goals exact ⟨HN.out, HBX.out⟩
 have g2 : decide (30 < (Z.length : Int) + (lk.length : Int)) = false := by simp; omega
 have HNF : Hid (¬(100 < ru.length ∨ 30 < (Z.map Prod.fst).length + lk.length)) := Lib.hid (by rw [List.length_map]; omega)
 have hr1 : ru.length ≤ 100 := by omega
 have hz1 : Z.length ≤ 30 := by omega
 have hk1 : lk.length ≤ 30 := by omega
 have HSM : Hid (ru.length ≤ 100 ∧ Z.length ≤ 30 ∧ lk.length ≤ 30) := ⟨hr1, hz1, hk1⟩
 have hw1 : IntKind.i64.wrap ((Z.length : Int) + (lk.length : Int)) = (Z.length : Int) + (lk.length : Int) := by rw [IntKind.wrap_i64]; omega
 clear h1 h2
 go_upto_region 4 with fail
 clear hw1 g1 g2
 obtain ⟨mb, hmb⟩ : ∃ mb, X.heap.size = mb := ⟨_, rfl⟩
 obtain ⟨X1, hX1⟩ : ∃ X1, X.alloc (.map #[] 0) = X1 := ⟨_, rfl⟩
 have HM1 : Hid (X1.ownsMap (H := Unit) Tryz.prog 9 (plainElem Tryz.prog 4) mb 0 (.map [])) := Lib.hid (by rw [← hX1, ← hmb]; exact World.ownsMap_made _ _ _ _)
 have HBX1 : Hid (Below X.heap.size X X1) := Lib.hid (by rw [← hX1]; exact (Below.refl _ _).alloc (Nat.le_refl _) _)
 have HMB : Hid (X.heap.size = mb) := Lib.hid hmb
 try rw [hX1]
 try rw [hmb]
 clear hX1 hmb hmm
 have c0 := keepCell HBX1.out c0
 go_upto_region 5 with fail
 clear c0 c1 c2
 go_loopw [6, 31] (fun _ u wr => ∃ i : Nat, u = .int .i64 i ∧ i ≤ ru.length ∧ Hid (chkR ru = chkR (ru.drop i)) ∧ Hid (∃ D, wr.ownsMap (H := Unit) Tryz.prog 9 (plainElem Tryz.prog 4) mb i D ∧ KeysB D (nmK ru i)) ∧ Hid (Below X.heap.size X wr)) (fun _ u _ => ru.length - (intOf u).toNat)
 case atStart => exact ⟨0, rfl, Nat.zero_le _, rfl, ⟨_, HM1.out, KeysB.nil⟩, HBX1.out⟩
 case round =>
  obtain ⟨i, rfl, hi, HZ, HM, HB⟩ := hrel
  clear HM1 HBX1
  by_cases hlt : i < ru.length
  ·obtain ⟨al', cl', ea, _, hc⟩ := HRU.out.below (keepBelow HBX.out HB.out)
   cases ea
   obtain ⟨b, o, rfl, hcc⟩ := hc i hlt
   obtain ⟨x, hx⟩ : ∃ x, ru.getD i ru0 = x := ⟨_, rfl⟩
   have hxm : x ∈ ru := by rw [← hx]; exact getD_mem hlt
   have HSZ := Lib.hid (HZR.out x hxm)
   rw [hx] at hcc
   have HVR : Hid (∀ w', Calls Tryz.prog 62 #[ruV x] w' fun e w'' => e = .returned (.bool (ruB x)) ∧ Below w'.heap.size w' w'') := Lib.hid fun w' => validRule_any x (by have := HSZ.out.2; omega) w'
   obtain ⟨q, hq⟩ : ∃ q, ruB x = q := ⟨_, rfl⟩
   rw [hq] at HVR
   have HGO : Hid (if q = true then chkR (ru.drop i) = chkR (ru.drop (i + 1)) else chkR (ru.drop i) = some (x.nm, 1)) := Lib.hid (by
    cases q with
    | true => exact chkR_go hlt (by rw [hx]; exact hq)
    | false => rw [← hx] at hq ⊢; exact chkR_no hlt hq)
   have HKS : Hid (nmK ru (i + 1) = Lit.string x.nm :: nmK ru i) := Lib.hid (by rw [nmK_succ, hx])
   clear hc hx hxm hq
   obtain ⟨nm, fr, to_, mo, ⟨k, v, d⟩, at_, ck, sv, le⟩ := x
   obtain ⟨NM, rfl⟩ := bs_of nm
   obtain ⟨LE, rfl⟩ := bs_of le
   have HVR2 : Hid (∀ w', Calls Tryz.prog 62 #[.agg #[.string NM, .int .i64 fr, .int .i64 to_, .int .i64 mo, .int .i64 k, .int .i64 v, .int .i64 d, .int .i64 at_, .int .i64 ck, .int .i64 sv, .string LE]] w' fun e w'' => e = .returned (.bool q) ∧ Below w'.heap.size w' w'') := HVR
   have HSN : Hid (NM.size ≤ 4294967280) := HSZ.out.1
   have HGO2 : Hid (if q = true then chkR (ru.drop i) = chkR (ru.drop (i + 1)) else chkR (ru.drop i) = some (bsO NM, 1)) := HGO
   have HKS2 : Hid (nmK ru (i + 1) = Lit.string NM.data.toList :: nmK ru i) := HKS
   clear HVR HSZ HGO HKS
   have e0 : wr.cell? ⟨b, o + i * 11, none⟩ = some (.string NM) := hcc 0 _ (by decide) rfl
   have e1 : wr.cell? ⟨b, o + i * 11 + 1, none⟩ = some (.int .i64 fr) := hcc 1 _ (by decide) rfl
   have e2 : wr.cell? ⟨b, o + i * 11 + 2, none⟩ = some (.int .i64 to_) := hcc 2 _ (by decide) rfl
   have e3 : wr.cell? ⟨b, o + i * 11 + 3, none⟩ = some (.int .i64 mo) := hcc 3 _ (by decide) rfl
   have e4 : wr.cell? ⟨b, o + i * 11 + 4, none⟩ = some (.int .i64 k) := hcc 4 _ (by decide) rfl
   have e5 : wr.cell? ⟨b, o + i * 11 + 5, none⟩ = some (.int .i64 v) := hcc 5 _ (by decide) rfl
   have e6 : wr.cell? ⟨b, o + i * 11 + 6, none⟩ = some (.int .i64 d) := hcc 6 _ (by decide) rfl
   have e7 : wr.cell? ⟨b, o + i * 11 + 7, none⟩ = some (.int .i64 at_) := hcc 7 _ (by decide) rfl
   have e8 : wr.cell? ⟨b, o + i * 11 + 8, none⟩ = some (.int .i64 ck) := hcc 8 _ (by decide) rfl
   have e9 : wr.cell? ⟨b, o + i * 11 + 9, none⟩ = some (.int .i64 sv) := hcc 9 _ (by decide) rfl
   have e10 : wr.cell? ⟨b, o + i * 11 + 10, none⟩ = some (.string LE) := hcc 10 _ (by decide) rfl
   clear hcc
   obtain ⟨bl, hbl⟩ : ∃ b, wr.heap.size = b := ⟨_, rfl⟩
   obtain ⟨L2, hL2⟩ : ∃ L : List Value, [.string NM, .int .i64 fr, .int .i64 to_, .int .i64 mo, .int .i64 k, .int .i64 v, .int .i64 d, .int .i64 at_, .int .i64 ck, .int .i64 sv, .string LE] = L := ⟨_, rfl⟩
   obtain ⟨Y, hY⟩ : ∃ Y, wr.alloc (.cells L2.toArray 41) = Y := ⟨_, rfl⟩
   have hYY : wr.alloc (.cells #[.string NM, .int .i64 fr, .int .i64 to_, .int .i64 mo, .int .i64 k, .int .i64 v, .int .i64 d, .int .i64 at_, .int .i64 ck, .int .i64 sv, .string LE] 41) = Y := by rw [← hY, ← hL2]
   have HCY : Hid (Cls Y bl L2) := Lib.hid (by rw [← hY, ← hbl]; exact Cls.new wr L2 _)
   have HBY0 : Hid (Below wr.heap.size wr Y) := Lib.hid (by rw [← hY]; exact below_box)
   have HBY : Hid (Below X.heap.size X Y) := Lib.hid (keepBelow HB.out HBY0.out)
   have HL2 := Lib.hid hL2
   clear hL2
   go_upto_region 7 with fail
   try rw [hYY]
   try rw [hbl]
   clear hY hYY e0 e1 e2 e3 e4 e5 e6 e7 e8 e9 e10
   have hy : Below Y.heap.size Y Y := Below.refl _ _
   have u0 := Cls.at HCY.out hy (j := 0) (u := .string NM) (by rw [← HL2.out]; rfl)
   have u1 := Cls.at HCY.out hy (j := 1) (u := .int .i64 fr) (by rw [← HL2.out]; rfl)
   have u2 := Cls.at HCY.out hy (j := 2) (u := .int .i64 to_) (by rw [← HL2.out]; rfl)
   have u3 := Cls.at HCY.out hy (j := 3) (u := .int .i64 mo) (by rw [← HL2.out]; rfl)
   have u4 := Cls.at HCY.out hy (j := 4) (u := .int .i64 k) (by rw [← HL2.out]; rfl)
   have u5 := Cls.at HCY.out hy (j := 5) (u := .int .i64 v) (by rw [← HL2.out]; rfl)
   have u6 := Cls.at HCY.out hy (j := 6) (u := .int .i64 d) (by rw [← HL2.out]; rfl)
   have u7 := Cls.at HCY.out hy (j := 7) (u := .int .i64 at_) (by rw [← HL2.out]; rfl)
   have u8 := Cls.at HCY.out hy (j := 8) (u := .int .i64 ck) (by rw [← HL2.out]; rfl)
   have u9 := Cls.at HCY.out hy (j := 9) (u := .int .i64 sv) (by rw [← HL2.out]; rfl)
   have u10 := Cls.at HCY.out hy (j := 10) (u := .string LE) (by rw [← HL2.out]; rfl)
   cases q with
   | false =>
    have HNO := Lib.hid (chk_ru (s := ⟨ru, Z.map Prod.fst, lk⟩) HNF.out (N := NM) (e := 1) (HZ.out.trans HGO2.out))
    go_wp2_with (first | (go_at_call 62; refine (HVR2.out _).mono ?_; rintro e w' ⟨rfl, hb⟩; have u0 := Cls.at HCY.out hb (j := 0) (u := .string NM) (by rw [← HL2.out]; rfl); have HBN := Lib.hid (keepBelow HBY.out hb)) | fail)
    go_ret2
    exact ⟨HNO.out, keepBelow HBX.out HBN.out⟩
   | true =>
    have HNX := Lib.hid (HZ.out.trans HGO2.out)
    obtain ⟨D, hown, hkeys⟩ := HM.out
    have HKN : Hid (KeysB (D.put (.string NM.data.toList) (.lit (.bool true))) (nmK ru (i + 1))) := Lib.hid (by
     rw [HKS2.out]
     exact hkeys.put trivial)
    have HOW := Lib.hid hown
    clear HM hown hkeys
    go_upto_region 9 with (first | (go_at_call 62; refine (HVR2.out _).mono ?_; rintro e w' ⟨rfl, hb⟩; have u0 := Cls.at HCY.out hb (j := 0) (u := .string NM) (by rw [← HL2.out]; rfl); have HBN := Lib.hid (keepBelow HBY.out hb); have HOW2 := Lib.hid (ownsMap_below (ownsMap_below HOW.out HBY0.out) hb)) | fail)
    go_upto_region 10 with (first | (at_mapUpdate; refine wpList_mapUpdate_own _ rfl _ _ _ 110 rfl 9 4 lawS Tryz.underlying110 _ mb i D rfl HOW2.out (by unfold maxLen; have := HSM.out; omega) _ _ _ rfl rfl (Go.WideMaps.keyOf_string_mk Tryz.underlying9 (s := NM) (by unfold maxLen; have := HSN.out; omega)) _ [] (plainElem_bool Tryz.underlying4 true) ?_; intro V own8 hgr8) | fail)
    have HBV : Hid (Below X.heap.size X V) := Lib.hid (HBN.out.grown hgr8 HBN.out.size (fun j hj => by cases hj; exact Nat.le_of_eq HMB.out))
    have HOV := Lib.hid own8
    clear own8 hgr8
    go_wp2_with fail
    go_roundw
    case rel => exact ⟨i + 1, by go_num, by omega, HNX.out, ⟨_, HOV.out, HKN.out⟩, HBV.out⟩
    case measure => simp [intOf]; omega
  ·have HRN : Hid (chkR ru = none) := Lib.hid (by rw [HZ.out, List.drop_eq_nil_of_le (by omega)]; rfl)
   obtain rfl : i = ru.length := by omega
   have HM2 : Hid (∃ (n : Nat) (D : DataW Unit), wr.ownsMap Tryz.prog 9 (plainElem Tryz.prog 4) mb n D ∧ KeysB D (nmK ru ru.length)) := Lib.hid ⟨_, HM.out⟩
   clear HM HZ HZR HRU hi hlt
   have c1 := Cls.at HC.out HB.out (j := 1) (u := .slice az Z.length cz) rfl
   go_upto_region 12 with fail
   clear c1
   have HB1 := Lib.hid (keepBelow HBX.out HB.out)
   have HC1 : Hid (∀ W, Below wr.heap.size wr W → W.cell? ⟨bz, 0, none⟩ = some (.slice ar ru.length cr) ∧ W.cell? ⟨bz, 1, none⟩ = some (.slice az Z.length cz) ∧ W.cell? ⟨bz, 2, none⟩ = some (.slice ak lk.length ck0)) := Lib.hid fun W hW => ⟨Cls.at HC.out (keepBelow HB.out hW) (j := 0) rfl, Cls.at HC.out (keepBelow HB.out hW) (j := 1) rfl, Cls.at HC.out (keepBelow HB.out hW) (j := 2) rfl⟩
   have HM3 : Hid (∃ (n : Nat) (D : DataW Unit), (∀ W, Below wr.heap.size wr W → W.ownsMap Tryz.prog 9 (plainElem Tryz.prog 4) mb n D) ∧ KeysB D (nmK ru ru.length)) := Lib.hid (by obtain ⟨n, D, h1, h2⟩ := HM2.out; exact ⟨n, D, fun W hW => ownsMap_below h1 hW, h2⟩)
   clear HM2 HB HC HBX HBZ HMB
   generalize wr = W1 at *
   go_loopw [7, 8, 10, 47] (fun _ _ _ u wr => ∃ i : Nat, u = .int .i64 i ∧ i ≤ Z.length ∧ Hid (zGo (ru.map RuT.nm) Z 0 = zGo (ru.map RuT.nm) Z i) ∧ Hid (Below W1.heap.size W1 wr)) (fun _ _ _ u _ => Z.length - (intOf u).toNat)
   case atStart => exact ⟨0, rfl, Nat.zero_le _, rfl, Below.refl _ _⟩
   case round =>
    obtain ⟨i, rfl, hi, HZ, HB⟩ := hrel
    by_cases hlt : i < Z.length
    ·have HZW := HZO.out.below (keepBelow HB1.out HB.out)
     obtain ⟨al', cl', ea, _, hc⟩ := HZW.row
     cases ea
     obtain ⟨b, o, rfl, hcc⟩ := hc i hlt
     obtain ⟨x, hx⟩ : ∃ x, Z.getD i zk0 = x := ⟨_, rfl⟩
     have hxm : x ∈ Z := by rw [← hx]; exact getD_mem hlt
     have HSZ := Lib.hid (HZZ.out x.1 (List.mem_map_of_mem hxm))
     have hli := HZO.out.li i hlt
     have HZA := Lib.hid (zGo_at (nms := ru.map RuT.nm) hlt)
     rw [hx] at hcc hli HZA
     clear hc hx hxm HZW
     obtain ⟨⟨nm, li⟩, lv⟩ := x
     obtain ⟨NM, rfl⟩ := bs_of nm
     simp only at hli
     obtain ⟨la, lc, rfl⟩ := hli.form
     have HLI := Lib.hid hli
     have hll : li.length ≤ 1152921504606846976 := hli.choose_spec.choose_spec.2.1
     clear hli
     have e0 : wr.cell? ⟨b, o + i * 2, none⟩ = some (.string NM) := hcc 0 _ (by decide) rfl
     have e1 : wr.cell? ⟨b, o + i * 2 + 1, none⟩ = some (.slice la li.length lc) := hcc 1 _ (by decide) rfl
     clear hcc
     have HVZ : Hid (∀ w', Below W1.heap.size W1 w' → Calls Tryz.prog 63 #[.agg #[.string NM, .slice la li.length lc]] w' fun e w'' => e = .returned (.bool (zoB ⟨bsO NM, li⟩)) ∧ Below w'.heap.size w' w'') := Lib.hid fun w' hb => validZone_any (bsO NM) _ li w' (HLI.out.below (keepBelow HB1.out hb)) HSZ.out.2 (HG.out.below (keepBelow HB1.out hb))
     obtain ⟨q, hq⟩ : ∃ q, zoB ⟨bsO NM, li⟩ = q := ⟨_, rfl⟩
     have HZA2 : Hid (zGo (ru.map RuT.nm) Z i = if q = false then some (bsO NM, 1) else if ((Z.take i).any fun z => z.1.nm == bsO NM) = true then some (bsO NM, 8) else match chkN (ru.map RuT.nm) li with
      | some e => some e
      | none => zGo (ru.map RuT.nm) Z (i + 1)) := Lib.hid (by rw [← hq]; exact HZA.out)
     rw [hq] at HVZ
     clear hq HZA
     obtain ⟨bl, hbl⟩ : ∃ b, wr.heap.size = b := ⟨_, rfl⟩
     obtain ⟨Y, hY⟩ : ∃ Y, wr.alloc (.cells #[.string NM, .slice la li.length lc] 45) = Y := ⟨_, rfl⟩
     have HCY : Hid (Cls Y bl [.string NM, .slice la li.length lc]) := Lib.hid (by rw [← hY, ← hbl]; exact Cls.new wr _ _)
     have HBY : Hid (Below W1.heap.size W1 Y) := Lib.hid (keepBelow HB.out (by rw [← hY]; exact below_box))
     go_upto_region 14 with fail
     try rw [hY]
     try rw [hbl]
     clear hY hbl e0 e1
     have hy : Below Y.heap.size Y Y := Below.refl _ _
     have u0 := Cls.at HCY.out hy (j := 0) (u := .string NM) rfl
     have u1 := Cls.at HCY.out hy (j := 1) (u := .slice la li.length lc) rfl
     clear hy
     cases q with
     | false =>
      have HNO := Lib.hid (chk_zo (lk := lk) HNF.out HRN.out (HZ.out.trans HZA2.out))
      go_wp2_with (first | (go_at_call 63; refine (HVZ.out _ HBY.out).mono ?_; rintro e w' ⟨rfl, hb⟩; have u0 := Cls.at HCY.out hb (j := 0) (u := .string NM) rfl; have HBN := Lib.hid (keepBelow HBY.out hb)) | fail)
      go_ret2
      exact ⟨HNO.out, keepBelow HB1.out HBN.out⟩
     | true =>
      go_upto_region 16 with (first | (go_at_call 63; refine (HVZ.out _ HBY.out).mono ?_; rintro e w' ⟨rfl, hb⟩; obtain ⟨W2, hW2⟩ : ∃ W, w' = W := ⟨_, rfl⟩; rw [hW2] at hb ⊢; clear hW2; have HU : Hid (∀ W, Below W2.heap.size W2 W → W.cell? ⟨bl, 0, none⟩ = some (.string NM) ∧ W.cell? ⟨bl, 1, none⟩ = some (.slice la li.length lc)) := Lib.hid fun W hW => ⟨Cls.at HCY.out (keepBelow hb hW) (j := 0) rfl, Cls.at HCY.out (keepBelow hb hW) (j := 1) rfl⟩; have HBN := Lib.hid (keepBelow HBY.out hb); have HBN2 := Lib.hid hb) | fail)
      have hcz := HCZ.out
      have y1 := ext_cell (HC1.out W2 HBN.out).2.1
      have x0 := ext_cell (HU.out W2 (Below.refl _ _)).1
      have hsl : ∀ x : Ext W2, (Instr.slice 24 (.slice (some ⟨b, o, none⟩) Z.length cz) none (some (.int .i64 (i : Int))) none).run Tryz.prog (extOf W2 x) = .ok (.slice (some ⟨b, o, none⟩) i cz) (extOf W2 x) := fun x => by
       rw [run_slice_h (ht := by kernel_rfl) (kh := .i64) (h := (i : Int)) (h0 := by omega) (h2 := by omega)]
       simp [sliced, go_sem]
      have HHZ : Hid (∀ x : Ext W2, Calls Tryz.prog 64 #[.slice (some ⟨b, o, none⟩) i cz, .string NM] (extOf W2 x) fun e w'' => e = .returned (.bool ((Z.take i).any fun z => z.1.nm == bsO NM)) ∧ Below (extOf W2 x).heap.size (extOf W2 x) w'') := Lib.hid fun x => hasZone_any _ _ NM _ ((HZO.out.below (keepBelow HB1.out (keepBelow HBN.out (extOf_below W2 x)))).take hi)
      obtain ⟨g, hg⟩ : ∃ g, ((Z.take i).any fun z => z.1.nm == bsO NM) = g := ⟨_, rfl⟩
      have HZA3 : Hid (zGo (ru.map RuT.nm) Z i = if g = true then some (bsO NM, 8) else match chkN (ru.map RuT.nm) li with
       | some e => some e
       | none => zGo (ru.map RuT.nm) Z (i + 1)) := Lib.hid (by rw [HZA2.out, if_neg (by simp), hg])
      rw [hg] at HHZ
      clear hg HZA2 HVZ
      refine wp_region_ext (by kernel_rfl) (by kernel_rfl) ?_
      iterate 7 (go_big_quiet_step ((go_at_call 64; refine calls_ext (HHZ.out _))))
      refine wpQuiet_nil ?_
      intro w1 hb1
      have HB2 := Lib.hid (keepBelow HBN.out hb1)
      have u0 := (HU.out w1 hb1).1
      cases g with
      | true =>
       have HNO := Lib.hid (chk_zo (lk := lk) HNF.out HRN.out (HZ.out.trans HZA3.out))
       go_wp2_with fail
       go_ret2
       exact ⟨HNO.out, keepBelow HB1.out HB2.out⟩
      | false =>
      have u1 := (HU.out w1 hb1).2
      have HZA4 : Hid (zGo (ru.map RuT.nm) Z i = match chkN (ru.map RuT.nm) li with
       | some e => some e
       | none => zGo (ru.map RuT.nm) Z (i + 1)) := Lib.hid (by rw [HZA3.out, if_neg (by simp)])
      have HU1 : Hid (∀ W, Below w1.heap.size w1 W → W.cell? ⟨bl, 0, none⟩ = some (.string NM) ∧ W.cell? ⟨bl, 1, none⟩ = some (.slice la li.length lc)) := Lib.hid fun W hW => HU.out W (keepBelow hb1 hW)
      go_upto_region 19 with fail
      clear u0 u1 y1 x0 hsl HHZ HZA3 HU hb1 HBN HBN2 HCY HBY
      generalize w1 = W3 at *
      go_loopw [10, 69] (fun _ u wr => ∃ k : Nat, u = .int .i64 k ∧ k ≤ li.length ∧ Hid (chkN (ru.map RuT.nm) li = chkN (ru.map RuT.nm) (li.drop k)) ∧ Hid (Below W3.heap.size W3 wr)) (fun _ u _ => li.length - (intOf u).toNat)
      case atStart => exact ⟨0, rfl, Nat.zero_le _, rfl, Below.refl _ _⟩
      case round =>
       obtain ⟨k, rfl, hk, HK, HB3⟩ := hrel
       by_cases hlk : k < li.length
       ·obtain ⟨al', cl', ea, _, hc⟩ := HLI.out.below (keepBelow HB1.out (keepBelow HB2.out HB3.out))
        cases ea
        obtain ⟨b2, o2, rfl, hcc⟩ := hc k hlk
        obtain ⟨x, hx⟩ : ∃ x, li.getD k li0 = x := ⟨_, rfl⟩
        have hxm : x ∈ li := by rw [← hx]; exact getD_mem hlk
        have HSX := Lib.hid (HSZ.out.2 x hxm).1
        have HCG : Hid ((x.ru == [] || (ru.map RuT.nm).contains x.ru) = true → chkN (ru.map RuT.nm) (li.drop k) = chkN (ru.map RuT.nm) (li.drop (k + 1))) := Lib.hid fun h => chkN_go hlk (by rw [hx]; exact h)
        have HCN : Hid ((x.ru == []) = false → (ru.map RuT.nm).contains x.ru = false → chkN (ru.map RuT.nm) (li.drop k) = some (x.ru, 7)) := Lib.hid fun h1 h2 => by rw [← hx] at h1 h2 ⊢; exact chkN_no hlk h1 h2
        rw [hx] at hcc
        clear hc hx hxm
        obtain ⟨of, ru_, sv, fm, lst, ⟨yr, mo, ⟨k_, v, d⟩, at_, ck⟩⟩ := x
        obtain ⟨RU, rfl⟩ := bs_of ru_
        obtain ⟨FM, rfl⟩ := bs_of fm
        have HSX2 : Hid (RU.size ≤ 4294967280) := HSX
        have HCG2 : Hid ((bsO RU == [] || (ru.map RuT.nm).contains (bsO RU)) = true → chkN (ru.map RuT.nm) (li.drop k) = chkN (ru.map RuT.nm) (li.drop (k + 1))) := HCG
        have HCN2 : Hid ((bsO RU == []) = false → (ru.map RuT.nm).contains (bsO RU) = false → chkN (ru.map RuT.nm) (li.drop k) = some (bsO RU, 7)) := HCN
        clear HSX HCG HCN
        have e0 : wr.cell? ⟨b2, o2 + k * 12, none⟩ = some (.int .i64 of) := hcc 0 _ (by decide) rfl
        have e1 : wr.cell? ⟨b2, o2 + k * 12 + 1, none⟩ = some (.string RU) := hcc 1 _ (by decide) rfl
        have e2 : wr.cell? ⟨b2, o2 + k * 12 + 2, none⟩ = some (.int .i64 sv) := hcc 2 _ (by decide) rfl
        have e3 : wr.cell? ⟨b2, o2 + k * 12 + 3, none⟩ = some (.string FM) := hcc 3 _ (by decide) rfl
        have e4 : wr.cell? ⟨b2, o2 + k * 12 + 4, none⟩ = some (.bool lst) := hcc 4 _ (by decide) rfl
        have e5 : wr.cell? ⟨b2, o2 + k * 12 + 5, none⟩ = some (.int .i64 yr) := hcc 5 _ (by decide) rfl
        have e6 : wr.cell? ⟨b2, o2 + k * 12 + 6, none⟩ = some (.int .i64 mo) := hcc 6 _ (by decide) rfl
        have e7 : wr.cell? ⟨b2, o2 + k * 12 + 7, none⟩ = some (.int .i64 k_) := hcc 7 _ (by decide) rfl
        have e8 : wr.cell? ⟨b2, o2 + k * 12 + 8, none⟩ = some (.int .i64 v) := hcc 8 _ (by decide) rfl
        have e9 : wr.cell? ⟨b2, o2 + k * 12 + 9, none⟩ = some (.int .i64 d) := hcc 9 _ (by decide) rfl
        have e10 : wr.cell? ⟨b2, o2 + k * 12 + 10, none⟩ = some (.int .i64 at_) := hcc 10 _ (by decide) rfl
        have e11 : wr.cell? ⟨b2, o2 + k * 12 + 11, none⟩ = some (.int .i64 ck) := hcc 11 _ (by decide) rfl
        clear hcc
        obtain ⟨bx, hbx⟩ : ∃ b, wr.heap.size = b := ⟨_, rfl⟩
        obtain ⟨L2, hL2⟩ : ∃ L : List Value, [.int .i64 of, .string RU, .int .i64 sv, .string FM, .bool lst, .int .i64 yr, .int .i64 mo, .int .i64 k_, .int .i64 v, .int .i64 d, .int .i64 at_, .int .i64 ck] = L := ⟨_, rfl⟩
        obtain ⟨Y, hY⟩ : ∃ Y, wr.alloc (.cells L2.toArray 102) = Y := ⟨_, rfl⟩
        have hYY : wr.alloc (.cells #[.int .i64 of, .string RU, .int .i64 sv, .string FM, .bool lst, .int .i64 yr, .int .i64 mo, .int .i64 k_, .int .i64 v, .int .i64 d, .int .i64 at_, .int .i64 ck] 102) = Y := by rw [← hY, ← hL2]
        have HCY : Hid (Cls Y bx L2) := Lib.hid (by rw [← hY, ← hbx]; exact Cls.new wr L2 _)
        have HBY : Hid (Below W3.heap.size W3 Y) := Lib.hid (keepBelow HB3.out (by rw [← hY]; exact below_box))
        have hy : Below Y.heap.size Y Y := Below.refl _ _
        have u1 := Cls.at HCY.out hy (j := 1) (u := .string RU) (by rw [← hL2]; rfl)
        clear hL2
        go_upto_region 21 with fail
        try rw [hYY]
        try rw [hbx]
        clear hY hYY hy e0 e1 e2 e3 e4 e5 e6 e7 e8 e9 e10 e11
        obtain ⟨n, D, hM, hkeys⟩ := HM3.out
        have hown := hM Y (keepBelow HB2.out HBY.out)
        obtain ⟨c, hrun, hat⟩ := owns_lookup_bool hown lawS Tryz.underlying110 Tryz.underlying4 (zeroB Y) (Go.WideMaps.keyOf_string_mk Tryz.underlying9 (s := RU) (by unfold maxLen; have := HSX2.out; omega))
        have hc : c = (ru.map RuT.nm).contains (bsO RU) := by
         obtain ⟨b, hb1, hb2⟩ := hkeys.2 (.string RU.data.toList) trivial
         rw [hat] at hb1
         injection hb1 with hb1
         injection hb1 with hb1
         rw [Bool.eq_iff_iff, hb1, hb2]
         exact nmK_mem
        have HCE := Lib.hid hc
        clear hM hkeys hown hat hc
        by_cases hemp : bsO RU = []
        ·have hE : RU.toList.isEmpty = true := by rw [Lib.toList_data]; show (bsO RU).isEmpty = true; rw [hemp]; rfl
         have HNX := Lib.hid (HK.out.trans (HCG2.out (by rw [hemp]; rfl)))
         clear hemp
         go_wp2_with fail
         go_roundw
         case rel => exact ⟨k + 1, by go_num, by omega, HNX.out, HBY.out⟩
         case measure => simp [intOf]; omega
        ·have hE : RU.toList.isEmpty = false := by rw [Lib.toList_data]; show (bsO RU).isEmpty = false; simpa using hemp
         have HE2 : Hid ((bsO RU == []) = false) := Lib.hid (by simpa using hemp)
         clear hemp
         cases c with
         | true =>
          have HNX := Lib.hid (HK.out.trans (HCG2.out (by rw [← HCE.out, Bool.or_true])))
          go_wp2_with fail
          go_roundw
          case rel => exact ⟨k + 1, by go_num, by omega, HNX.out, HBY.out⟩
          case measure => simp [intOf]; omega
         | false =>
          have HNO := Lib.hid (chk_zo (lk := lk) HNF.out HRN.out (HZ.out.trans (by rw [HZA4.out, HK.out.trans (HCN2.out HE2.out HCE.out.symm)])))
          go_wp2_with fail
          go_ret2
          exact ⟨HNO.out, keepBelow HB1.out (keepBelow HB2.out HBY.out)⟩
       ·have HNX : Hid (zGo (ru.map RuT.nm) Z 0 = zGo (ru.map RuT.nm) Z (i + 1)) := Lib.hid (HZ.out.trans (by rw [HZA4.out, HK.out, List.drop_eq_nil_of_le (by omega)]; rfl))
        have HBE := Lib.hid (keepBelow HB2.out HB3.out)
        go_wp2_with fail
        go_roundw
        case rel => exact ⟨i + 1, by go_num, by omega, HNX.out, HBE.out⟩
        case measure => simp [intOf]; omega
    ·have HZN : Hid (zGo (ru.map RuT.nm) Z 0 = none) := Lib.hid (by rw [HZ.out]; unfold zGo; rw [List.drop_eq_nil_of_le (by omega)]; rfl)
     have HB2 := Lib.hid (keepBelow HB1.out HB.out)
     have HC2 : Hid (∀ W, Below wr.heap.size wr W → W.cell? ⟨bz, 0, none⟩ = some (.slice ar ru.length cr) ∧ W.cell? ⟨bz, 1, none⟩ = some (.slice az Z.length cz) ∧ W.cell? ⟨bz, 2, none⟩ = some (.slice ak lk.length ck0)) := Lib.hid fun W hW => HC1.out W (keepBelow HB.out hW)
     have c2 := (HC2.out wr (Below.refl _ _)).2.2
     go_upto_region 26 with fail
     clear c2 HC1 HB1 HB HZ HM3 HZZ hi hlt
     generalize wr = W4 at *
     go_loopw [11, 12, 90] (fun _ _ u wr => ∃ i : Nat, u = .int .i64 i ∧ i ≤ lk.length ∧ Hid (lGo (Z.map fun z => z.1.nm) lk 0 = lGo (Z.map fun z => z.1.nm) lk i) ∧ Hid (Below W4.heap.size W4 wr)) (fun _ _ u _ => lk.length - (intOf u).toNat)
     case atStart => exact ⟨0, rfl, Nat.zero_le _, rfl, Below.refl _ _⟩
     case round =>
      obtain ⟨i, rfl, hi, HZ, HB⟩ := hrel
      by_cases hlt : i < lk.length
      ·obtain ⟨al', cl', ea, _, hc⟩ := HLK.out.below (keepBelow HB2.out HB.out)
       cases ea
       obtain ⟨b, o, rfl, hcc⟩ := hc i hlt
       obtain ⟨x, hx⟩ : ∃ x, lk.getD i lk0 = x := ⟨_, rfl⟩
       have HLA := Lib.hid (lGo_at (zs := Z.map fun z => z.1.nm) hlt)
       rw [hx] at hcc HLA
       clear hc hx
       obtain ⟨nm, zo⟩ := x
       obtain ⟨NM, rfl⟩ := bs_of nm
       obtain ⟨ZO, rfl⟩ := bs_of zo
       have e0 : wr.cell? ⟨b, o + i * 2, none⟩ = some (.string NM) := hcc 0 _ (by decide) rfl
       have e1 : wr.cell? ⟨b, o + i * 2 + 1, none⟩ = some (.string ZO) := hcc 1 _ (by decide) rfl
       clear hcc
       obtain ⟨q, hq⟩ : ∃ q, nameB (bsO NM) = q := ⟨_, rfl⟩
       have HNM : Hid (∀ w', Calls Tryz.prog 65 #[.string NM] w' fun e w'' => e = .returned (.bool q) ∧ w'' = w') := Lib.hid (by rw [← hq]; exact fun w' => name_any NM w')
       have HLA2 : Hid (lGo (Z.map fun z => z.1.nm) lk i = if q = false then some (bsO NM, 1) else if ((Z.map fun z => z.1.nm).contains (bsO NM) || (lk.take i).any fun z => z.nm == bsO NM) = true then some (bsO NM, 8) else if (Z.map fun z => z.1.nm).contains (bsO ZO) = false then some (bsO ZO, 7) else lGo (Z.map fun z => z.1.nm) lk (i + 1)) := Lib.hid (by rw [← hq]; exact HLA.out)
       clear hq HLA
       obtain ⟨bl, hbl⟩ : ∃ b, wr.heap.size = b := ⟨_, rfl⟩
       obtain ⟨Y, hY⟩ : ∃ Y, wr.alloc (.cells #[.string NM, .string ZO] 48) = Y := ⟨_, rfl⟩
       have HCY : Hid (Cls Y bl [.string NM, .string ZO]) := Lib.hid (by rw [← hY, ← hbl]; exact Cls.new wr _ _)
       have HBY : Hid (Below W4.heap.size W4 Y) := Lib.hid (keepBelow HB.out (by rw [← hY]; exact below_box))
       go_upto_region 28 with fail
       try rw [hY]
       try rw [hbl]
       clear hY hbl e0 e1
       have hy : Below Y.heap.size Y Y := Below.refl _ _
       have u0 := Cls.at HCY.out hy (j := 0) (u := .string NM) rfl
       have HU : Hid (∀ W, Below Y.heap.size Y W → W.cell? ⟨bl, 0, none⟩ = some (.string NM) ∧ W.cell? ⟨bl, 1, none⟩ = some (.string ZO)) := Lib.hid fun W hW => ⟨Cls.at HCY.out hW (j := 0) rfl, Cls.at HCY.out hW (j := 1) rfl⟩
       clear hy HCY
       cases q with
       | false =>
        have HNO := Lib.hid (chk_lk HNF.out HRN.out HZN.out (HZ.out.trans HLA2.out))
        go_wp2_with (first | (go_at_call 65; refine (HNM.out _).mono ?_; rintro e w' ⟨rfl, hw⟩; rw [hw]; clear hw) | fail)
        go_ret2
        exact ⟨HNO.out, keepBelow HB2.out HBY.out⟩
       | true =>
        go_upto_region 30 with (first | (go_at_call 65; refine (HNM.out _).mono ?_; rintro e w' ⟨rfl, hw⟩; rw [hw]; clear hw) | fail)
        have hcl := HCL.out
        have HCY2 := HC2.out Y HBY.out
        have y1 := ext_cell HCY2.2.1
        have y2 := ext_cell HCY2.2.2
        have x0 := ext_cell u0
        have hsl : ∀ x : Ext Y, (Instr.slice 25 (.slice (some ⟨b, o, none⟩) lk.length ck0) none (some (.int .i64 (i : Int))) none).run Tryz.prog (extOf Y x) = .ok (.slice (some ⟨b, o, none⟩) i ck0) (extOf Y x) := fun x => by
         rw [run_slice_h (ht := by kernel_rfl) (kh := .i64) (h := (i : Int)) (h0 := by omega) (h2 := by omega)]
         simp [sliced, go_sem]
        obtain ⟨g, hg⟩ : ∃ g, ((Z.map fun z => z.1.nm).contains (bsO NM)) = g := ⟨_, rfl⟩
        obtain ⟨g2, hg2⟩ : ∃ g, ((lk.take i).any fun z => z.nm == bsO NM) = g := ⟨_, rfl⟩
        have HHZ : Hid (∀ x : Ext Y, Calls Tryz.prog 64 #[.slice az Z.length cz, .string NM] (extOf Y x) fun e w'' => e = .returned (.bool g) ∧ Below (extOf Y x).heap.size (extOf Y x) w'') := Lib.hid fun x => by
         rw [← hg, ← any_con (fun z : ZkT => z.1.nm)]
         exact hasZone_any _ _ NM _ (HZO.out.below (keepBelow HB2.out (keepBelow HBY.out (extOf_below Y x))))
        have HHL : Hid (∀ x : Ext Y, Calls Tryz.prog 66 #[.slice (some ⟨b, o, none⟩) i ck0, .string NM] (extOf Y x) fun e w'' => e = .returned (.bool g2) ∧ Below (extOf Y x).heap.size (extOf Y x) w'') := Lib.hid fun x => by
         rw [← hg2]
         exact hasLink_any _ _ NM _ ((HLK.out.below (keepBelow HB2.out (keepBelow HBY.out (extOf_below Y x)))).take hi)
        have HLA3 : Hid (lGo (Z.map fun z => z.1.nm) lk i = if (g || g2) = true then some (bsO NM, 8) else if (Z.map fun z => z.1.nm).contains (bsO ZO) = false then some (bsO ZO, 7) else lGo (Z.map fun z => z.1.nm) lk (i + 1)) := Lib.hid (by rw [HLA2.out, if_neg (by simp), hg, hg2])
        clear hg hg2 HLA2 HNM
        have HGG : Hid ((g || g2) = (g || g2)) := Lib.hid rfl
        cases g with
        | true =>
         have HNO := Lib.hid (chk_lk HNF.out HRN.out HZN.out (HZ.out.trans HLA3.out))
         refine wp_region_ext (by kernel_rfl) (by kernel_rfl) ?_
         iterate 14 (go_big_quiet_step ((first | (go_at_call 64; refine calls_ext (HHZ.out _)) | (go_at_call 66; refine calls_ext (HHL.out _)))))
         refine wpQuiet_nil ?_
         intro w1 hb1
         have u0 := (HU.out w1 hb1).1
         go_wp2_with fail
         go_ret2
         exact ⟨HNO.out, keepBelow HB2.out (keepBelow HBY.out hb1)⟩
        | false =>
        cases g2 with
        | true =>
         have HNO := Lib.hid (chk_lk HNF.out HRN.out HZN.out (HZ.out.trans HLA3.out))
         refine wp_region_ext (by kernel_rfl) (by kernel_rfl) ?_
         iterate 14 (go_big_quiet_step ((first | (go_at_call 64; refine calls_ext (HHZ.out _)) | (go_at_call 66; refine calls_ext (HHL.out _)))))
         refine wpQuiet_nil ?_
         intro w1 hb1
         have u0 := (HU.out w1 hb1).1
         go_wp2_with fail
         go_ret2
         exact ⟨HNO.out, keepBelow HB2.out (keepBelow HBY.out hb1)⟩
        | false =>
         refine wp_region_ext (by kernel_rfl) (by kernel_rfl) ?_
         iterate 14 (go_big_quiet_step ((first | (go_at_call 64; refine calls_ext (HHZ.out _)) | (go_at_call 66; refine calls_ext (HHL.out _)))))
         refine wpQuiet_nil ?_
         intro w1 hb1
         have u1 := (HU.out w1 hb1).2
         have HBW := Lib.hid (keepBelow HBY.out hb1)
         have v1 := (HC2.out w1 HBW.out).2.1
         clear y1 y2 x0 hsl HHZ HHL
         obtain ⟨g, hg⟩ : ∃ g, ((Z.map fun z => z.1.nm).contains (bsO ZO)) = g := ⟨_, rfl⟩
         have HHZ : Hid (Calls Tryz.prog 64 #[.slice az Z.length cz, .string ZO] w1 fun e w'' => e = .returned (.bool g) ∧ Below w1.heap.size w1 w'') := Lib.hid (by
          rw [← hg, ← any_con (fun z : ZkT => z.1.nm)]
          exact hasZone_any _ _ ZO _ (HZO.out.below (keepBelow HB2.out HBW.out)))
         have HLA4 : Hid (lGo (Z.map fun z => z.1.nm) lk i = if g = false then some (bsO ZO, 7) else lGo (Z.map fun z => z.1.nm) lk (i + 1)) := Lib.hid (by rw [HLA3.out, if_neg (by simp), hg])
         clear hg HLA3
         cases g with
         | false =>
          have HNO := Lib.hid (chk_lk HNF.out HRN.out HZN.out (HZ.out.trans HLA4.out))
          go_wp2_with (first | (go_at_call 64; refine HHZ.out.mono ?_; rintro e w' ⟨rfl, hb⟩; have u1 := (HU.out w' (keepBelow hb1 hb)).2; have HBN := Lib.hid (keepBelow HBW.out hb)) | fail)
          go_ret2
          exact ⟨HNO.out, keepBelow HB2.out HBN.out⟩
         | true =>
          have HNX := Lib.hid (HZ.out.trans HLA4.out)
          go_wp2_with (first | (go_at_call 64; refine HHZ.out.mono ?_; rintro e w' ⟨rfl, hb⟩; have HBN := Lib.hid (keepBelow HBW.out hb)) | fail)
          go_roundw
          case rel => exact ⟨i + 1, by go_num, by omega, HNX.out, HBN.out⟩
          case measure => simp [intOf]; omega
      ·have HLN : Hid (lGo (Z.map fun z => z.1.nm) lk 0 = none) := Lib.hid (by rw [HZ.out]; unfold lGo; rw [List.drop_eq_nil_of_le (by omega)]; rfl)
       have HNO := Lib.hid (chk_ok HNF.out HRN.out HZN.out HLN.out)
       go_wp2_with fail
       go_ret2
       exact ⟨HNO.out, keepBelow HB2.out HB.out⟩
end Go.Proofs.YtlbglinpgjlbkaaGreatDoor
