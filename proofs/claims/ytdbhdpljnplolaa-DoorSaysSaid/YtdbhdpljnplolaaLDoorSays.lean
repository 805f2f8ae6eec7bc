import Derived.Test.YtdbhdpljnplolaaVDoorSays
namespace Go.Proofs.Ytdbhdpljnplolaa
open Go.Vg
set_option linter.unusedVariables false
set_option linter.unusedSimpArgs false


theorem DoorSays_sound : C_DoorSays.Sound Try.prog G 5 := by
  refine fn_ok mixed stable tbl_DoorSays [] Try.func5 (by kernel_rfl) phi_DoorSays vc_DoorSays ⟨first13_sound, dopen_sound, dtick_sound, dstuck_sound, ropen_sound, rtickd_sound, dis_sound, rstuck_sound, trivial⟩ (fun _ _ _ => False) (fun _ _ _ => 0) ?_
  intro ls hp
  obtain ⟨dwell, dl, dh, ob, rfl, hpre⟩ := DoorSays_pre hp
  clear hp
  rw [envOf_lk]
  unfold phi_DoorSays
  refine vg_call (C := C_first13) rfl rfl (xs := []) rfl (fun hg => ?_) (fun rs hrs => ?_)
  ·
    exact trivial
  obtain ⟨r4, hr4, rfl⟩ := first13_res hrs
  clear hrs
  change Fm.holds _ _ (lk [.i dwell, .i dl, .i dh, .b ob, .b r4])
  refine ⟨fun hcond => ?_, fun hcond => ?_⟩
  ·
    have c1 : r4 = false := hcond
    clear hcond
    suffices hfin : (false) = (true) from (c_b hfin rfl)
    -- leaf 1 (ret)
    simp_all
  ·
    have c2 : r4 = true := hcond
    clear hcond
    refine ⟨fun hcond => ?_, fun hcond => ?_⟩
    ·
      have c3 : (if (if (if (decide ((1099511627776 : Int) < dwell)) = true then true else (decide (dwell < (-1099511627776)))) = true then true else (decide ((1125899906842624 : Int) < dh))) = true then true else (decide (dh < (-1125899906842624)))) = true := hcond
      clear hcond
      suffices hfin : (r4) = (true) from (c_b hfin rfl)
      -- leaf 2 (ret)
      simp_all
    ·
      have c4 : (if (if (if (decide ((1099511627776 : Int) < dwell)) = true then true else (decide (dwell < (-1099511627776)))) = true then true else (decide ((1125899906842624 : Int) < dh))) = true then true else (decide (dh < (-1125899906842624)))) = false := hcond
      clear hcond
      refine vg_call (C := C_dopen) rfl rfl (xs := [.i dwell]) rfl (fun hg => ?_) (fun rs hrs => ?_)
      ·
        exact trivial
      obtain ⟨r5, r6, hr5, hr6, rfl⟩ := dopen_res hrs
      clear hrs
      change Fm.holds _ _ (lk [.i dwell, .i dl, .i dh, .b ob, .b r4, .i r5, .i r6])
      refine vg_call (C := C_ropen) rfl rfl (xs := [.i dwell]) rfl (fun hg => ?_) (fun rs hrs => ?_)
      ·
        exact trivial
      obtain ⟨r7, r8, hr7, hr8, rfl⟩ := ropen_res hrs
      clear hrs
      change Fm.holds _ _ (lk [.i dwell, .i dl, .i dh, .b ob, .b r4, .i r5, .i r6, .i r7, .i r8])
      refine vg_call (C := C_dtick) rfl rfl (xs := [.i dl, .i dh, .b ob]) rfl (fun hg => ?_) (fun rs hrs => ?_)
      ·
        refine dtick_mk ?_
        -- leaf 3 (pre)
        simp at c4; omega
      obtain ⟨r9, r10, r11, hr9, hr10, hr11, rfl⟩ := dtick_res hrs
      clear hrs
      change Fm.holds _ _ (lk [.i dwell, .i dl, .i dh, .b ob, .b r4, .i r5, .i r6, .i r7, .i r8, .i r9, .i r10, .b r11])
      refine vg_call (C := C_rtickd) rfl rfl (xs := [.i dl, .i dh, .b ob]) rfl (fun hg => ?_) (fun rs hrs => ?_)
      ·
        refine rtickd_mk ?_
        -- leaf 4 (pre)
        simp at c4; omega
      obtain ⟨r12, r13, r14, hr12, hr13, hr14, rfl⟩ := rtickd_res hrs
      clear hrs
      change Fm.holds _ _ (lk [.i dwell, .i dl, .i dh, .b ob, .b r4, .i r5, .i r6, .i r7, .i r8, .i r9, .i r10, .b r11, .i r12, .i r13, .b r14])
      refine vg_call (C := C_dis) rfl rfl (xs := [.i dl, .i dh]) rfl (fun hg => ?_) (fun rs hrs => ?_)
      ·
        exact trivial
      obtain ⟨r15, hr15, rfl⟩ := dis_res hrs
      clear hrs
      change Fm.holds _ _ (lk [.i dwell, .i dl, .i dh, .b ob, .b r4, .i r5, .i r6, .i r7, .i r8, .i r9, .i r10, .b r11, .i r12, .i r13, .b r14, .b r15])
      refine vg_call (C := C_dstuck) rfl rfl (xs := [.i dl, .i dh, .i dwell]) rfl (fun hg => ?_) (fun rs hrs => ?_)
      ·
        simp only [gd_cons, gd_nil, and_true] at hg
        replace hg : (if (if (if (if (if (if r4 = true then (r5 == r7) else false) = true then (r6 == (0 : Int)) else false) = true then (r9 == r12) else false) = true then (r10 == r13) else false) = true then (r11 == r14) else false) = true then (r15 == (decide ((0 : Int) < dl))) else false) = true := hg
        refine dstuck_mk ?_
        -- leaf 5 (pre)
        simp at c4; omega
      obtain ⟨r16, hr16, rfl⟩ := dstuck_res hrs
      clear hrs
      change Fm.holds _ _ (lk [.i dwell, .i dl, .i dh, .b ob, .b r4, .i r5, .i r6, .i r7, .i r8, .i r9, .i r10, .b r11, .i r12, .i r13, .b r14, .b r15, .b r16])
      refine vg_call (C := C_rstuck) rfl rfl (xs := [.i dl, .i dh, .i dwell]) rfl (fun hg => ?_) (fun rs hrs => ?_)
      ·
        simp only [gd_cons, gd_nil, and_true] at hg
        replace hg : (if (if (if (if (if (if r4 = true then (r5 == r7) else false) = true then (r6 == (0 : Int)) else false) = true then (r9 == r12) else false) = true then (r10 == r13) else false) = true then (r11 == r14) else false) = true then (r15 == (decide ((0 : Int) < dl))) else false) = true := hg
        refine rstuck_mk ?_
        -- leaf 6 (pre)
        simp at c4; omega
      obtain ⟨r17, hr17, rfl⟩ := rstuck_res hrs
      clear hrs
      change Fm.holds _ _ (lk [.i dwell, .i dl, .i dh, .b ob, .b r4, .i r5, .i r6, .i r7, .i r8, .i r9, .i r10, .b r11, .i r12, .i r13, .b r14, .b r15, .b r16, .b r17])
      suffices hfin : ((if (if (if (if (if (if (if r4 = true then (r5 == r7) else false) = true then (r6 == (0 : Int)) else false) = true then (r9 == r12) else false) = true then (r10 == r13) else false) = true then (r11 == r14) else false) = true then (r15 == (decide ((0 : Int) < dl))) else false) = true then (r16 == r17) else false)) = (true) from (c_b hfin rfl)
      -- leaf 7 (ret)
      simp_all
end Go.Proofs.Ytdbhdpljnplolaa
