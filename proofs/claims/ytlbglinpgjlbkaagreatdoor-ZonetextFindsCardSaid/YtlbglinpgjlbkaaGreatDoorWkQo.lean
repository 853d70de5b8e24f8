import Derived.Test.YtlbglinpgjlbkaaGreatDoorWkQn
/- Zone texts: a source that is being read, in memory: arrays of different element types lie apart. -/
namespace Go.Proofs.YtlbglinpgjlbkaaGreatDoor
open Go.RowKit Wk

theorem OwnG.typ {α : Type} {T : TypeId} {sz : Nat} {fl : α → List Value} {w : World} {B : Nat} {v : Value} {L : List α} (h : OwnG T sz fl w B v L) {g : Nat} (hg : v.ownBlock = some g) : ∃ cur, w.heap[g]? = some (.cells cur T (0, 0)) := by
 rcases h.2 with ⟨rfl, _⟩ | ⟨g', cap, cur, rfl, _, hb, _⟩
 ·cases hg
 ·cases hg
  exact ⟨cur, hb⟩
theorem OwnG.apart {α : Type} {T T' : TypeId} {sz : Nat} {fl : α → List Value} {w : World} {B b : Nat} {v : Value} {L : List α} {cs : Array Value} (h : OwnG T sz fl w B v L) (hb : Blk w b cs T') (hT : T ≠ T') {g : Nat} (hg : v.ownBlock = some g) : g ≠ b := by
 rintro rfl
 obtain ⟨cur, hc⟩ := h.typ hg
 rw [hb] at hc
 injection hc with hc
 injection hc with _ hc _
 exact hT hc.symm
theorem OwnG.apart2 {α β : Type} {T T' : TypeId} {sz sz' : Nat} {fl : α → List Value} {fl' : β → List Value} {w : World} {B B' : Nat} {v v' : Value} {L : List α} {L' : List β} (h : OwnG T sz fl w B v L) (h' : OwnG T' sz' fl' w B' v' L') (hT : T ≠ T') {g : Nat} (hg : v.ownBlock = some g) : v'.ownBlock ≠ some g := by
 intro hg'
 obtain ⟨cur, hc⟩ := h.typ hg
 obtain ⟨cur', hc'⟩ := h'.typ hg'
 rw [hc] at hc'
 injection hc' with hc'
 injection hc' with _ hc' _
 exact hT hc'
structure SrcM (B sb : Nat) (s : SrT) (rv zv lv : Value) (Z : List ZkT) (w : World) : Prop where
 blk : Blk w sb #[rv, zv, lv] 27
 ru : OwnG 41 11 flRu w B rv s.ru
 zo : OwnG 45 2 flZk w B zv Z
 zs : Z.map Prod.fst = s.zo
 li : ∀ i, i < Z.length → OwnG 102 12 flLi w B (Z.getD i zk0).2 (Z.getD i zk0).1.li
 lk : OwnG 48 2 flLk w B lv s.lk
 lo : B ≤ sb
 ap : ∀ i j, i < j → j < Z.length → ∀ g g', (Z.getD i zk0).2.ownBlock = some g → (Z.getD j zk0).2.ownBlock = some g' → g < g'
theorem SrcM.keep {B sb : Nat} {s : SrT} {rv zv lv : Value} {Z : List ZkT} {w w' : World} (h : SrcM B sb s rv zv lv Z w) (hs : w'.heap[sb]? = w.heap[sb]?) (hr : ∀ g, rv.ownBlock = some g → w'.heap[g]? = w.heap[g]?) (hz : ∀ g, zv.ownBlock = some g → w'.heap[g]? = w.heap[g]?) (hl : ∀ g, lv.ownBlock = some g → w'.heap[g]? = w.heap[g]?)
  (hi : ∀ i, i < Z.length → ∀ g, (Z.getD i zk0).2.ownBlock = some g → w'.heap[g]? = w.heap[g]?) : SrcM B sb s rv zv lv Z w' :=
 ⟨h.blk.same hs, h.ru.same hr, h.zo.same hz, h.zs, fun i q => (h.li i q).same (hi i q), h.lk.same hl, h.lo, h.ap⟩
theorem SrcM.below {B sb : Nat} {s : SrT} {rv zv lv : Value} {Z : List ZkT} {w w' : World} (h : SrcM B sb s rv zv lv Z w) (hb : Below w.heap.size w w') : SrcM B sb s rv zv lv Z w' :=
 h.keep (hb.block _ h.blk.lt) (fun g q => hb.block g (World.ownsRow.lt h.ru g q).2) (fun g q => hb.block g (World.ownsRow.lt h.zo g q).2) (fun g q => hb.block g (World.ownsRow.lt h.lk g q).2) (fun i hi g q => hb.block g (World.ownsRow.lt (h.li i hi) g q).2)
theorem SrcM.grown {B sb b : Nat} {s : SrT} {rv zv lv : Value} {Z : List ZkT} {w w' : World} {cs : Array Value} {T : TypeId} (h : SrcM B sb s rv zv lv Z w) (hb : Blk w b cs T) (hg : w.grownBy w' (some b)) (h0 : 27 ≠ T) (h1 : 41 ≠ T) (h2 : 45 ≠ T) (h3 : 102 ≠ T) (h4 : 48 ≠ T) : SrcM B sb s rv zv lv Z w' := by
 have hne : ∀ g, g < w.heap.size → g ≠ b → w'.heap[g]? = w.heap[g]? := fun g hlt q => hg.block g hlt (by intro e; cases e; exact q rfl)
 refine h.keep (hne _ h.blk.lt ?_) (fun g q => hne g (World.ownsRow.lt h.ru g q).2 (h.ru.apart hb h1 q)) (fun g q => hne g (World.ownsRow.lt h.zo g q).2 (h.zo.apart hb h2 q)) (fun g q => hne g (World.ownsRow.lt h.lk g q).2 (h.lk.apart hb h4 q)) (fun i hi g q => hne g (World.ownsRow.lt (h.li i hi) g q).2 ((h.li i hi).apart hb h3 q))
 rintro rfl
 have := h.blk
 unfold Blk at this hb
 rw [this] at hb
 injection hb with hb
 injection hb with _ hb _
 exact h0 hb
theorem SrcM.rd {B sb : Nat} {s : SrT} {rv zv lv : Value} {Z : List ZkT} {w : World} (h : SrcM B sb s rv zv lv Z w) (h1 : s.ru.length ≤ 1000000) (h2 : Z.length ≤ 1000000) (h3 : s.lk.length ≤ 1000000) (h4 : ∀ i, i < Z.length → (Z.getD i zk0).1.li.length ≤ 1000000) : RdSr w rv zv lv s Z :=
 ⟨h.ru.rd flRu_len h1, ⟨h.zo.rd flZk_len h2, fun i hi => (h.li i hi).rd flLi_len (h4 i hi)⟩, h.zs, h.lk.rd flLk_len h3⟩
theorem OwnG.cap {α : Type} {T : TypeId} {sz : Nat} {fl : α → List Value} {w : World} {B : Nat} {v : Value} {L : List α} (h : OwnG T sz fl w B v L) : CapV v := by
 intro a n c e
 rcases h.2 with ⟨rfl, _⟩ | ⟨g', cap, cur, rfl, _, _, hc, _⟩
 ·cases e; exact Nat.le_refl _
 ·cases e; exact hc
theorem Tryz.infoZo : (Tryz.prog.info? 45).map (fun i => (i.zero, i.size, i.bytes)) = some (some (.agg #[.string ⟨#[]⟩, .slice none 0 0]), 2, 40) := by kernel_rfl
theorem Tryz.infoLk : (Tryz.prog.info? 48).map (fun i => (i.zero, i.size, i.bytes)) = some (some (.agg #[.string ⟨#[]⟩, .string ⟨#[]⟩]), 2, 32) := by kernel_rfl
end Go.Proofs.YtlbglinpgjlbkaaGreatDoor
namespace Go.Proofs.YtlbglinpgjlbkaaGreatDoor
open Go.RowKit Wk

theorem set_far_heap (w : World) (b j : Nat) (u : Value) {g : Nat} (h : g ≠ b) : (w.setCell ⟨b, j, none⟩ u).heap[g]? = w.heap[g]? := Below.heap_setCell _ _ _ _ h
theorem SrcM.addZ {B sb : Nat} {s : SrT} {rv zv lv : Value} {Z : List ZkT} {w w3 : World} (h : SrcM B sb s rv zv lv Z w) {v1 : Value} {nm : Bs} (o1 : OwnG 45 2 flZk w3 B v1 (Z ++ [(⟨nm, []⟩, nilV)])) (k1 : ∀ b, b < w.heap.size → zv.ownBlock ≠ some b → w3.heap[b]? = w.heap[b]?) :
  SrcM B sb { s with zo := s.zo ++ [⟨nm, []⟩] } rv v1 lv (Z ++ [(⟨nm, []⟩, nilV)]) (w3.setCell ⟨sb, 1, none⟩ v1) := by
 have hb3 : Blk w3 sb #[rv, zv, lv] 27 := h.blk.same (k1 sb h.blk.lt fun q => h.zo.apart h.blk (by decide) q rfl)
 have hK : ∀ g, g < w.heap.size → g ≠ sb → zv.ownBlock ≠ some g → (w3.setCell ⟨sb, 1, none⟩ v1).heap[g]? = w.heap[g]? := fun g q1 q2 q3 => (set_far_heap _ _ _ _ q2).trans (k1 g q1 q3)
 refine ⟨hb3.set (j := 1) v1, ?_, ?_, ?_, ?_, ?_, h.lo, ?_⟩
 ·exact h.ru.same fun g q => hK g (World.ownsRow.lt h.ru g q).2 (h.ru.apart h.blk (by decide) q) (h.ru.apart2 h.zo (by decide) q)
 ·exact o1.same fun g q => set_far_heap _ _ _ _ (o1.apart hb3 (by decide) q)
 ·simp [h.zs]
 ·intro i hi
  rw [List.length_append] at hi
  rcases Nat.lt_or_ge i Z.length with q | q
  ·rw [List.getD_eq_getElem?_getD, List.getElem?_append_left q, ← List.getD_eq_getElem?_getD]
   exact (h.li i q).same fun g e => hK g (World.ownsRow.lt (h.li i q) g e).2 ((h.li i q).apart h.blk (by decide) e) ((h.li i q).apart2 h.zo (by decide) e)
  ·rw [List.getD_eq_getElem?_getD, List.getElem?_append_right q, show i - Z.length = 0 by simp at hi; omega]
   exact OwnG.nil _ _
 ·exact h.lk.same fun g q => hK g (World.ownsRow.lt h.lk g q).2 (h.lk.apart h.blk (by decide) q) (h.lk.apart2 h.zo (by decide) q)
 ·intro i j hij hj g g' hg hg'
  rw [List.length_append] at hj
  rw [List.getD_eq_getElem?_getD] at hg hg'
  rcases Nat.lt_or_ge j Z.length with q' | q'
  ·rw [List.getElem?_append_left (by omega), ← List.getD_eq_getElem?_getD] at hg
   rw [List.getElem?_append_left q', ← List.getD_eq_getElem?_getD] at hg'
   exact h.ap i j hij q' g g' hg hg'
  ·rw [List.getElem?_append_right q', show j - Z.length = 0 by simp at hj; omega] at hg'
   simp [nilV, Value.ownBlock] at hg'
theorem SrcM.addL {B sb : Nat} {s : SrT} {rv zv lv : Value} {Z : List ZkT} {w w3 : World} (h : SrcM B sb s rv zv lv Z w) {v1 : Value} {x : LkT} (o1 : OwnG 48 2 flLk w3 B v1 (s.lk ++ [x])) (k1 : ∀ b, b < w.heap.size → lv.ownBlock ≠ some b → w3.heap[b]? = w.heap[b]?) :
  SrcM B sb { s with lk := s.lk ++ [x] } rv zv v1 Z (w3.setCell ⟨sb, 2, none⟩ v1) := by
 have hb3 : Blk w3 sb #[rv, zv, lv] 27 := h.blk.same (k1 sb h.blk.lt fun q => h.lk.apart h.blk (by decide) q rfl)
 have hK : ∀ g, g < w.heap.size → g ≠ sb → lv.ownBlock ≠ some g → (w3.setCell ⟨sb, 2, none⟩ v1).heap[g]? = w.heap[g]? := fun g q1 q2 q3 => (set_far_heap _ _ _ _ q2).trans (k1 g q1 q3)
 refine ⟨hb3.set (j := 2) v1, ?_, ?_, h.zs, ?_, ?_, h.lo, h.ap⟩
 ·exact h.ru.same fun g q => hK g (World.ownsRow.lt h.ru g q).2 (h.ru.apart h.blk (by decide) q) (h.ru.apart2 h.lk (by decide) q)
 ·exact h.zo.same fun g q => hK g (World.ownsRow.lt h.zo g q).2 (h.zo.apart h.blk (by decide) q) (h.zo.apart2 h.lk (by decide) q)
 ·exact fun i q => (h.li i q).same fun g e => hK g (World.ownsRow.lt (h.li i q) g e).2 ((h.li i q).apart h.blk (by decide) e) ((h.li i q).apart2 h.lk (by decide) e)
 ·exact o1.same fun g q => set_far_heap _ _ _ _ (o1.apart hb3 (by decide) q)
theorem SrcM.addR {B sb : Nat} {s : SrT} {rv zv lv : Value} {Z : List ZkT} {w w3 : World} (h : SrcM B sb s rv zv lv Z w) {v1 : Value} {x : RuT} (o1 : OwnG 41 11 flRu w3 B v1 (s.ru ++ [x])) (k1 : ∀ b, b < w.heap.size → rv.ownBlock ≠ some b → w3.heap[b]? = w.heap[b]?) :
  SrcM B sb { s with ru := s.ru ++ [x] } v1 zv lv Z (w3.setCell ⟨sb, 0, none⟩ v1) := by
 have hb3 : Blk w3 sb #[rv, zv, lv] 27 := h.blk.same (k1 sb h.blk.lt fun q => h.ru.apart h.blk (by decide) q rfl)
 have hK : ∀ g, g < w.heap.size → g ≠ sb → rv.ownBlock ≠ some g → (w3.setCell ⟨sb, 0, none⟩ v1).heap[g]? = w.heap[g]? := fun g q1 q2 q3 => (set_far_heap _ _ _ _ q2).trans (k1 g q1 q3)
 refine ⟨hb3.set (j := 0) v1, ?_, ?_, h.zs, ?_, ?_, h.lo, h.ap⟩
 ·exact o1.same fun g q => set_far_heap _ _ _ _ (o1.apart hb3 (by decide) q)
 ·exact h.zo.same fun g q => hK g (World.ownsRow.lt h.zo g q).2 (h.zo.apart h.blk (by decide) q) (h.zo.apart2 h.ru (by decide) q)
 ·exact fun i q => (h.li i q).same fun g e => hK g (World.ownsRow.lt (h.li i q) g e).2 ((h.li i q).apart h.blk (by decide) e) ((h.li i q).apart2 h.ru (by decide) e)
 ·exact h.lk.same fun g q => hK g (World.ownsRow.lt h.lk g q).2 (h.lk.apart h.blk (by decide) q) (h.lk.apart2 h.ru (by decide) q)
theorem RSat.turn {w0 : World} {rb sb j : Nat} {wv : Value} {ws : List Tok} {s : RSt} {w w3 : World} {v0 v1 : Value} (h : RSat w0 rb wv ws s w) (hb3 : Below w0.heap.size w0 w3) (k1 : ∀ b, b < w.heap.size → v0.ownBlock ≠ some b → w3.heap[b]? = w.heap[b]?) (hn : v0.ownBlock ≠ some rb) (hs : sb ≠ rb) (hl : w0.heap.size ≤ sb) :
  RSat w0 rb wv ws s (w3.setCell ⟨sb, j, none⟩ v1) :=
 ⟨h.blk.same ((set_far_heap _ _ _ _ (Ne.symm hs)).trans (k1 rb h.blk.lt hn)), hb3.setCell (p := ⟨sb, j, none⟩) hl _, h.hi⟩
def LPost (w0 : World) (rb : Nat) (wv : Value) (ws : List Tok) (sb : Nat) (r : RSt) (s : SrT) (e : Ending) (w' : World) : Prop :=
 e = .returned (.tuple #[]) ∧ RSat w0 rb wv ws r w' ∧ 1 ≤ r.n ∧ ∃ rv zv lv Z, SrcM w0.heap.size sb s rv zv lv Z w'

set_option maxRecDepth 100000 in
set_option maxHeartbeats 8000000 in
theorem rzone_any {w0 : World} {rb sb : Nat} {wv : Value} {ws : List Tok} (hc : RCtx w0 rb wv ws) (hg : Glob w0) (s : RSt) (sr : SrT) (rv zv lv : Value) (Z : List ZkT) (w : World) (h : RSat w0 rb wv ws s w) (hm : SrcM w0.heap.size sb sr rv zv lv Z w) (hl : Z.length < 1000000) :
  Calls Tryz.prog 44 #[.pointer (some ⟨rb, 0, none⟩), .pointer (some ⟨sb, 0, none⟩)] w (LPost w0 rb wv ws sb (zoneS ws s).2 { sr with zo := sr.zo ++ [(zoneS ws s).1] }) := by
 have HC := Lib.hid hc
 have hd : Below w.heap.size w w.drew := (Below.refl _ w).drew
 have HCH := Lib.hid (check_name hc hg s w.drew (h.below hd))
 obtain ⟨r, hr⟩ : ∃ r, checkS ws nameB s = r := ⟨_, rfl⟩
 have HE : Hid (zoneS ws s = (⟨r.1, []⟩, r.2)) := Lib.hid (by rw [← hr]; rfl)
 rw [hr] at HCH
 rw [HE.out]
 clear hr HE
 obtain ⟨t, s1⟩ := r
 obtain ⟨N, rfl⟩ := bs_of t
 have HNE : Hid (sb ≠ rb) := Lib.hid (by
  rintro rfl
  have h1 := h.blk
  have h2 := hm.blk
  unfold Blk at h1 h2
  rw [h2] at h1
  injection h1 with h1
  injection h1 with _ h1 _
  exact absurd h1 (by decide))
 have HCH2 : Hid (Calls Tryz.prog 117 #[.pointer (some ⟨rb, 0, none⟩), .func (.func 65) #[] #[]] w.drew fun e w' => e = .returned (.string N) ∧ RSat w0 rb wv ws s1 w' ∧ 1 ≤ s1.n ∧ w.drew.grownBy w' (some rb)) := HCH
 have HRB : Hid (Blk w.drew rb (rdC s wv) 82) := Lib.hid (h.blk.below hd)
 have HM := Lib.hid (hm.below hd)
 obtain ⟨za, zc, rfl⟩ : ∃ a c, zv = .slice a Z.length c := by
  obtain ⟨a, c, e⟩ := hm.zo.form
  exact ⟨a, c, e⟩
 have y1 : w.drew.cell? ⟨sb, 1, none⟩ = some (.slice za Z.length zc) := HM.out.blk.cell (j := 1) rfl
 clear hc hg h hm HCH hd
 have hone : ∀ u ∈ flZk ((⟨bsO N, []⟩, nilV) : ZkT), u.oneCell' = true := by intro u hu; simp [flZk, nilV] at hu; rcases hu with rfl | rfl <;> rfl
 have HO := Lib.hid hone
 clear hone
 go_enter Tryz.func44, Tryz.ntmps44
 go_upto_region 0 with fail
 go_region_law (first
  | (go_simp; go_at_call 117; refine HCH2.out.mono ?_; rintro e wC ⟨rfl, hs1, hn1, hg1⟩; have HSC := Lib.hid hs1; have HN1 := Lib.hid hn1; have HMC := Lib.hid (HM.out.grown HRB.out hg1 (by decide) (by decide) (by decide) (by decide) (by decide)); have c1 : wC.cell? ⟨sb, 1, none⟩ = some (.slice za Z.length zc) := HMC.out.blk.cell (j := 1) rfl; have c2 : ∀ O, (wC.alloc O).cell? ⟨sb, 1, none⟩ = some (.slice za Z.length zc) := fun O => keepCell ((Below.refl _ _).alloc (Nat.le_refl _) _) c1; clear hs1 hn1 hg1)
  | (refine step_app_G (z := ((⟨bsO N, []⟩, nilV) : ZkT)) (w0 := w0) (B := w0.heap.size) flZk_len (by decide) Tryz.underlying24 Tryz.infoZo rfl (by decide) rfl (.tmp 8) (.tmp 12) rfl rfl HMC.out.zo (Nat.le_refl _) HSC.out.bel.size HSC.out.bel HO.out rfl (by simp) hl (by simp [flZk, nilV]) ?_; intro v1 w3 o1 b1 k1 z1; obtain ⟨pv, qv, hv0⟩ := o1.form; have hv : v1 = .slice pv (Z.length + 1) qv := (by simpa using hv0); subst hv; clear hv0; have HB3 := Lib.hid (HMC.out.blk.same (k1 sb HMC.out.blk.lt fun q => HMC.out.zo.apart HMC.out.blk (by decide) q rfl)); have d0 := HB3.out.cell (j := 1) rfl; have d1 := HB3.out.frz 1; have HFIN := Lib.hid (And.intro (HMC.out.addZ o1 k1) (HSC.out.turn (sb := sb) (j := 1) (v1 := .slice pv (Z.length + 1) qv) b1 k1 (fun q => HMC.out.zo.apart HSC.out.blk (by decide) q rfl) HNE.out HMC.out.lo)); clear o1 b1 k1 z1))
 all_goals go_wp2_with fail
 all_goals go_end0
 all_goals exact ⟨rfl, HFIN.out.2, HN1.out, _, _, _, _, HFIN.out.1⟩

set_option maxRecDepth 100000 in
set_option maxHeartbeats 8000000 in
theorem rlink_any {w0 : World} {rb sb : Nat} {wv : Value} {ws : List Tok} (hc : RCtx w0 rb wv ws) (hg : Glob w0) (s : RSt) (sr : SrT) (rv zv lv : Value) (Z : List ZkT) (w : World) (h : RSat w0 rb wv ws s w) (hm : SrcM w0.heap.size sb sr rv zv lv Z w) (hl : sr.lk.length < 1000000) :
  Calls Tryz.prog 46 #[.pointer (some ⟨rb, 0, none⟩), .pointer (some ⟨sb, 0, none⟩)] w (LPost w0 rb wv ws sb (linkS ws s).2 { sr with lk := sr.lk ++ [(linkS ws s).1] }) := by
 have HC := Lib.hid hc
 have HG := Lib.hid hg
 have HCH := Lib.hid (check_name hc hg s w h)
 obtain ⟨r, hr⟩ : ∃ r, checkS ws nameB s = r := ⟨_, rfl⟩
 have HE : Hid (linkS ws s = (⟨r.1, (checkS ws nameB r.2).1⟩, (checkS ws nameB r.2).2)) := Lib.hid (by rw [← hr]; rfl)
 rw [hr] at HCH
 rw [HE.out]
 clear hr HE
 obtain ⟨t, s0⟩ := r
 obtain ⟨M, rfl⟩ := bs_of t
 simp only
 obtain ⟨r, hr⟩ : ∃ r, checkS ws nameB s0 = r := ⟨_, rfl⟩
 have HR := Lib.hid hr
 rw [hr]
 clear hr
 obtain ⟨t, s1⟩ := r
 obtain ⟨N, rfl⟩ := bs_of t
 simp only
 have HNE : Hid (sb ≠ rb) := Lib.hid (by
  rintro rfl
  have h1 := h.blk
  have h2 := hm.blk
  unfold Blk at h1 h2
  rw [h2] at h1
  injection h1 with h1
  injection h1 with _ h1 _
  exact absurd h1 (by decide))
 have HCH2 : Hid (Calls Tryz.prog 117 #[.pointer (some ⟨rb, 0, none⟩), .func (.func 65) #[] #[]] w fun e w' => e = .returned (.string M) ∧ RSat w0 rb wv ws s0 w' ∧ 1 ≤ s0.n ∧ w.grownBy w' (some rb)) := HCH
 have HRB0 : Hid (Blk w rb (rdC s wv) 82) := Lib.hid h.blk
 have HM0 := Lib.hid hm
 obtain ⟨la, lc, rfl⟩ : ∃ a c, lv = .slice a sr.lk.length c := by
  obtain ⟨a, c, e⟩ := hm.lk.form
  exact ⟨a, c, e⟩
 clear hc hg h hm HCH
 have hone : ∀ u ∈ flLk (⟨bsO M, bsO N⟩ : LkT), u.oneCell' = true := by intro u hu; simp [flLk] at hu; rcases hu with rfl | rfl <;> rfl
 have HO := Lib.hid hone
 clear hone
 go_enter Tryz.func46, Tryz.ntmps46
 go_upto_region 1 with (first | (go_at_call 117; refine HCH2.out.mono ?_; rintro e w1 ⟨rfl, hs1, hn1, hg1⟩; obtain ⟨W, hW⟩ : ∃ W, w1 = W := ⟨_, rfl⟩; rw [hW] at hs1 hg1 ⊢; clear hW; have HS1 := Lib.hid hs1; have HMW := Lib.hid (HM0.out.grown HRB0.out hg1 (by decide) (by decide) (by decide) (by decide) (by decide)); clear hs1 hn1 hg1) | fail)
 have hd : Below W.heap.size W W.drew := (Below.refl _ W).drew
 have HRB : Hid (Blk W.drew rb (rdC s0 wv) 82) := Lib.hid (HS1.out.blk.below hd)
 have HM := Lib.hid (HMW.out.below hd)
 have HCH3 := Lib.hid (check_name HC.out HG.out s0 W.drew (HS1.out.below hd))
 rw [HR.out] at HCH3
 have HCH4 : Hid (Calls Tryz.prog 117 #[.pointer (some ⟨rb, 0, none⟩), .func (.func 65) #[] #[]] W.drew fun e w' => e = .returned (.string N) ∧ RSat w0 rb wv ws s1 w' ∧ 1 ≤ s1.n ∧ W.drew.grownBy w' (some rb)) := HCH3
 have y1 : W.drew.cell? ⟨sb, 2, none⟩ = some (.slice la sr.lk.length lc) := HM.out.blk.cell (j := 2) rfl
 clear hd HCH3
 go_region_law (first
  | (go_simp; go_at_call 117; refine HCH4.out.mono ?_; rintro e wC ⟨rfl, hs1, hn1, hg1⟩; have HSC := Lib.hid hs1; have HN1 := Lib.hid hn1; have HMC := Lib.hid (HM.out.grown HRB.out hg1 (by decide) (by decide) (by decide) (by decide) (by decide)); have c1 : wC.cell? ⟨sb, 2, none⟩ = some (.slice la sr.lk.length lc) := HMC.out.blk.cell (j := 2) rfl; have c2 : ∀ O, (wC.alloc O).cell? ⟨sb, 2, none⟩ = some (.slice la sr.lk.length lc) := fun O => keepCell ((Below.refl _ _).alloc (Nat.le_refl _) _) c1; clear hs1 hn1 hg1)
  | (refine step_app_G (z := (⟨bsO M, bsO N⟩ : LkT)) (w0 := w0) (B := w0.heap.size) flLk_len (by decide) Tryz.underlying25 Tryz.infoLk rfl (by decide) rfl (.tmp 11) (.tmp 16) rfl rfl HMC.out.lk (Nat.le_refl _) HSC.out.bel.size HSC.out.bel HO.out rfl (by simp) hl (by simp [flLk]) ?_; intro v1 w3 o1 b1 k1 z1; obtain ⟨pv, qv, hv0⟩ := o1.form; have hv : v1 = .slice pv (sr.lk.length + 1) qv := (by simpa using hv0); subst hv; clear hv0; have HB3 := Lib.hid (HMC.out.blk.same (k1 sb HMC.out.blk.lt fun q => HMC.out.lk.apart HMC.out.blk (by decide) q rfl)); have d0 := HB3.out.cell (j := 2) rfl; have d1 := HB3.out.frz 2; have HFIN := Lib.hid (And.intro (HMC.out.addL o1 k1) (HSC.out.turn (sb := sb) (j := 2) (v1 := .slice pv (sr.lk.length + 1) qv) b1 k1 (fun q => HMC.out.lk.apart HSC.out.blk (by decide) q rfl) HNE.out HMC.out.lo)); clear o1 b1 k1 z1))
 all_goals go_wp2_with fail
 all_goals go_end0
 all_goals exact ⟨rfl, HFIN.out.2, HN1.out, _, _, _, _, HFIN.out.1⟩
end Go.Proofs.YtlbglinpgjlbkaaGreatDoor
