import Derived.Test.YtlbjfbpejomkmaaGreatWkAgEs
import Derived.Test.YtlbjfbpejomkmaaGreatWkAgQg
import Derived.Test.YtlbjfbpejomkmaaGreatWkAgQh
import Derived.Test.YtlbjfbpejomkmaaGreatWkAgRv
/- Agenda: the reference's Schedule; the law AgendaSchedules. -/
namespace Go.Proofs.YtlbjfbpejomkmaaGreat
open Go.RowKit Wk

def RsRes (r : Rs) (e : Ending) (w' : World) : Prop := match r with
 | .ok a => ∃ v, e = .returned (.tuple #[v, .int .i64 0]) ∧ RdS w' v a
 | .out => e = .returned (.tuple #[.slice none 0 0, .int .i64 18])
 | .no _ => e = .returned (.tuple #[.slice none 0 0, .int .i64 17])
def RsPost (l : List Tk) (res : List St) (start most : Int) (w : World) (e : Ending) (w' : World) : Prop :=
 Below w.heap.size w w' ∧ (0 ≤ most ∧ most ≤ 1000000 → RsRes (findM l res start most) e w') ∧ (¬ (0 ≤ most ∧ most ≤ 1000000) → e = .returned (.tuple #[.slice none 0 0, .int .i64 1]))
theorem rs_of {b : Nat} {vl vR : Value} {start : Int} {r : Rs} {v : Value} {c : Int} {w' : World} (h : StR b vl vR start r v c w') : RsRes r (.returned (.tuple #[v, .int .i64 c])) w' := by
 cases r with
 | ok a => obtain ⟨rfl, h⟩ := h; exact ⟨_, rfl, h⟩
 | out => obtain ⟨rfl, rfl⟩ := h; rfl
 | no l => obtain ⟨rfl, rfl, _⟩ := h; rfl
set_option maxRecDepth 100000 in
set_option maxHeartbeats 4000000 in
theorem sched48_any (vl vR : Value) (start most : Int) (L : List Kv) (R : List Sw) (w : World) (hL : RdK w vl L) (hR : RdR w vR R) (hV : vldM (tks L) (sts R) = true) (hs : lineB start = true) :
  Calls Tryz.prog 18 #[vl, vR, .int .i64 start, .int .i64 most] w (RsPost (tks L) (sts R) start most w) := by
 obtain ⟨al, cl, rfl⟩ := hL.form
 obtain ⟨aR, cR, rfl⟩ := hR.form
 have hfc := vld_parts hV
 have HLN : Hid (L.length ≤ 24) := hfc.2.2.1
 by_cases h0 : most < 0
 ·have g0 : decide (most < 0) = true := by simpa using h0
  have HP : Hid (∀ w', Below w.heap.size w w' → RsPost (tks L) (sts R) start most w (.returned (.tuple #[.slice none 0 0, .int .i64 1])) w') := fun w' hb => ⟨hb, fun h => by omega, fun _ => rfl⟩
  clear h0 hfc hL hR hV hs
  go_enter Tryz.func18, Tryz.ntmps18
  go_wp2
  go_ret2
  exact HP.out _ (Below.refl _ _)
 have g0 : decide (most < 0) = false := by simpa using h0
 by_cases h1 : 1000000 < most
 ·have g1 : decide (1000000 < most) = true := by simpa using h1
  have HP : Hid (∀ w', Below w.heap.size w w' → RsPost (tks L) (sts R) start most w (.returned (.tuple #[.slice none 0 0, .int .i64 1])) w') := fun w' hb => ⟨hb, fun h => by omega, fun _ => rfl⟩
  clear h0 h1 hfc hL hR hV hs
  go_enter Tryz.func18, Tryz.ntmps18
  go_wp2
  go_ret2
  exact HP.out _ (Below.refl _ _)
 have g1 : decide (1000000 < most) = false := by simpa using h1
 have hl1 := (lineB_iff start).1 hs
 have hv := vld_V hV
 have HCX : Hid (StCtx w w.heap.size (.slice al L.length cl) (.slice aR R.length cR) start L R) := ⟨hL, hR, hv, hfc.1, hfc.2.1, hl1, ⟨hfc.2.2.1, hfc.2.2.2⟩, Nat.le_refl _⟩
 obtain ⟨O, hO⟩ : ∃ O, (Obj.cells #[.slice al L.length cl, .slice aR R.length cR, .int .i64 start, .int .i64 most] 72) = O := ⟨_, rfl⟩
 have HSE : Hid (SeW (w.alloc O) w.heap.size (.slice al L.length cl) (.slice aR R.length cR) start most) := by
  rw [← hO]
  refine ⟨?_, ?_, ?_, ?_, ?_⟩ <;> simp [go_sem]
 have HB1 : Hid (Below w.heap.size w (w.alloc O)) := (Below.refl _ _).alloc (Nat.le_refl _) _
 have HLTW : Hid (w.heap.size < (w.alloc O).heap.size) := by unfold Hid; simp
 have HMB : Hid (0 ≤ most ∧ most ≤ 1000000) := by unfold Hid; omega
 obtain ⟨r, hr⟩ : ∃ r, findM (tks L) (sts R) start most = r := ⟨_, rfl⟩
 have HF : Hid (runM (tks L) (sts R) start L.length (List.replicate L.length false) (List.replicate R.length start) (List.replicate L.length (0, 0)) most = r) := by
  unfold Hid
  rw [← hr]
  unfold findM
  rw [tks_length, sts_length]
 have HP : Hid (∀ e w', Below w.heap.size w w' → RsRes r e w' → RsPost (tks L) (sts R) start most w e w') := fun e w' hb h => ⟨hb, fun _ => by rw [hr]; exact h, fun h => absurd HMB.out h⟩
 have HEN := Lib.hid (EndsR.init (tks L) (sts R) start)
 rw [tks_length, sts_length] at HEN
 obtain ⟨i0, hi, hz0, hz1, hz2⟩ := info_parts Tryz.infoSpan
 have HI := Lib.hid (And.intro hi (And.intro hz0 (And.intro hz1 hz2)))
 clear h0 h1 hfc hL hR hV hs hl1 hv hr hi hz0 hz1 hz2
 go_enter Tryz.func18, Tryz.ntmps18
 go_upto_region 4 with fail
 try rw [hO]
 generalize w.alloc O = W1 at *
 go_wp2_with (first | ((with_reducible show wpList _ _ _ _ _ _); refine wpList_make_full _ rfl (.tmp 23) (.tmp 23) 26 rfl W1.heap.size 46 i0 (.agg #[.int .i64 0, .int .i64 0]) 2 Tryz.underlying26 HI.out.1 HI.out.2.1 HI.out.2.2.1 .i64 .i64 _ _ L.length rfl rfl rfl rfl (by rw [HI.out.2.2.2]; have := HLN.out; omega) (by unfold maxLen; have := HLN.out; omega) (Nat.le_refl _) ?_; intro W2 hown hgr) | fail)
 have hb2 : Below W1.heap.size W1 W2 := (Below.refl _ W1).grown hgr (Nat.le_refl _) (fun k hk => by cases hk)
 obtain ⟨hz, hrow⟩ := row_zeroP hown
 have HSE2 := Lib.hid (HSE.out.below hb2)
 have HB2 := Lib.hid (keepBelow HB1.out hb2)
 have HA2 : Hid (RdP1 w.heap.size W2 (.slice (some ⟨W1.heap.size, 0, none⟩) L.length L.length) (List.replicate L.length (0, 0))) := by
  have := hrow.rd1 (c := L.length) (b := w.heap.size) (by rw [List.length_replicate]; exact HLN.out) (by have := HLTW.out; omega)
  rwa [List.length_replicate] at this
 have HD2 : Hid (RdJ3 w.heap.size w.heap.size w.heap.size W2 (.slice none 0 0) (natI [])) := ⟨none, 0, rfl, by simp [natI], fun i hi => by simp [natI] at hi⟩
 have HCL := Lib.hid (step48_any w w.heap.size _ _ start L R HCX.out L.length [] _ _ _ most _ _ W2 ⟨HSE2.out, HB2.out, HD2.out, HA2.out, HEN.out, fun i hi => by (rw [rep_at] at hi; cases hi), HMB.out, fun _ => rfl⟩ (rep_count _) (by simp))
 rw [HF.out] at HCL
 clear hb2 hz hrow hown hgr
 refine HCL.out.mono ?_
 rintro e w3 ⟨v, c, rfl, hk, hs⟩
 have HB3 := Lib.hid (HB2.out.trans hk.1)
 have HS3 := Lib.hid (rs_of hs)
 clear hk hs
 go_wp2
 go_ret2
 exact HP.out _ _ HB3.out HS3.out
end Go.Proofs.YtlbjfbpejomkmaaGreat
