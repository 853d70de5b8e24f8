import Derived.Test.YtlbglinpgjlbkaaGreatDoorWkC3
import Derived.Test.YtlbglinpgjlbkaaGreatDoorWkQi
/- Zone texts: the reference's zoned, linked, Rules. Printed by gen_c4.py. -/
namespace Go.Proofs.YtlbglinpgjlbkaaGreatDoor
open Go.RowKit Wk

theorem Tryz.infoRu : (Tryz.prog.info? 41).map (fun i => (i.zero, i.size, i.bytes)) = some (some (.agg #[.string ⟨#[]⟩, .int .i64 0, .int .i64 0, .int .i64 0, .int .i64 0, .int .i64 0, .int .i64 0, .int .i64 0, .int .i64 0, .int .i64 0, .string ⟨#[]⟩]), 11, 104) := by kernel_rfl
set_option maxRecDepth 100000 in
set_option maxHeartbeats 4000000 in
theorem valid_any (rv zv lv : Value) (s : SrT) (Z : List ZkT) (w : World) (hs : RdSr w rv zv lv s Z) (hz : SzS s) (hg : Glob w) (hcz : CapV zv) (hcl : CapV lv) :
  Calls Tryz.prog 35 #[.agg #[rv, zv, lv]] w fun e w' => e = .returned (.bool (validB s)) ∧ Below w.heap.size w w' := by
 obtain ⟨bz, hbz⟩ : ∃ b, w.heap.size = b := ⟨_, rfl⟩
 obtain ⟨ru, zo, lk⟩ := s
 obtain ⟨ar, cr, rfl⟩ := hs.ru.form
 obtain ⟨az, cz, rfl⟩ := hs.zo.row.form
 obtain ⟨ak, ck0, rfl⟩ := hs.lk.form
 obtain ⟨X, hX⟩ : ∃ X, w.alloc (.cells #[.slice ar ru.length cr, .slice az Z.length cz, .slice ak lk.length ck0] 27) = X := ⟨_, rfl⟩
 have hC : Cls X bz [.slice ar ru.length cr, .slice az Z.length cz, .slice ak lk.length ck0] := by rw [← hX, ← hbz]; exact Cls.new w _ _
 have HBX : Hid (Below w.heap.size w X) := Lib.hid (by rw [← hX]; exact below_box)
 have HH := Lib.hid (check_any _ _ _ _ Z X (hs.below HBX.out) hz (hg.below HBX.out) hcz hcl)
 obtain ⟨m, hm⟩ : ∃ m, (checkM ⟨ru, zo, lk⟩).1 = m := ⟨_, rfl⟩
 obtain ⟨q, hq⟩ : ∃ q, (checkM ⟨ru, zo, lk⟩).2 = q := ⟨_, rfl⟩
 have HV : Hid ((q == 0) = validB ⟨ru, zo, lk⟩) := Lib.hid (by rw [← hq]; rfl)
 have HH2 : Hid (Calls Tryz.prog 18 #[.agg #[.slice ar ru.length cr, .slice az Z.length cz, .slice ak lk.length ck0]] X fun e w' => e = .returned (.tuple #[.string ⟨m.toArray⟩, .int .i64 q]) ∧ Below X.heap.size X w') := Lib.hid (by
  have h := HH.out
  unfold ChkA at h
  rw [hm, hq] at h
  exact h)
 have hb : Below X.heap.size X X := Below.refl _ _
 have c0 := Cls.at hC hb (j := 0) (u := .slice ar ru.length cr) rfl
 have c1 := Cls.at hC hb (j := 1) (u := .slice az Z.length cz) rfl
 have c2 := Cls.at hC hb (j := 2) (u := .slice ak lk.length ck0) rfl
 clear hm hq hC hb HH hs hz hg hcz hcl
 show Calls _ _ #[.agg #[.slice ar ru.length cr, .slice az Z.length cz, .slice ak lk.length ck0]] w _
 go_enter Tryz.func35, Tryz.ntmps35
 go_upto_region 1 with fail
 try rw [hX]
 try rw [hbz]
 clear hX hbz
 go_wp2_with (first | (go_at_call 18; refine HH2.out.mono ?_; rintro e w' ⟨rfl, hb⟩; have HBN := Lib.hid hb) | fail)
 go_ret
 exact ⟨ret_bool HV.out, keepBelow HBX.out HBN.out⟩
end Go.Proofs.YtlbglinpgjlbkaaGreatDoor
