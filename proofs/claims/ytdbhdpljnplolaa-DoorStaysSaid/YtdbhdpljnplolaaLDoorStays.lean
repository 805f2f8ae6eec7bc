import Derived.Test.YtdbhdpljnplolaaVDoorStays
namespace Go.Proofs.Ytdbhdpljnplolaa
open Go.Vg
set_option linter.unusedVariables false
set_option linter.unusedSimpArgs false


theorem DoorStays_sound : C_DoorStays.Sound Try.prog G 6 := by
  refine fn_ok mixed stable tbl_DoorStays [⟨8, [4, 8, 9, 27, 28, 29, 30, 31, 32, 33, 34, 35, 36, 37, 38, 39, 40, 41, 42, 43, 44, 45, 46], [7], [(0, 0), (0, 1)], [3]⟩, ⟨15, [4, 11, 12, 47, 48, 49, 50, 51, 52, 53, 54, 55, 56, 57, 58, 59, 60, 61, 62, 63, 64, 65, 66, 67, 68, 69, 70, 71, 72, 73], [10], [(0, 0), (0, 1)], [4]⟩] Try.func6 (by kernel_rfl) phi_DoorStays vc_DoorStays ⟨number_sound, first13_sound, dopen_sound, dtick_sound, dstuck_sound, dis_sound, trivial⟩ inv_DoorStays meas_DoorStays ?_
  intro ls hp
  obtain ⟨dwell, held, rfl, hpre⟩ := DoorStays_pre hp
  clear hp
  rw [envOf_lk]
  unfold phi_DoorStays
  refine vg_call (C := C_first13) rfl rfl (xs := []) rfl (fun hg => ?_) (fun rs hrs => ?_)
  ·
    exact trivial
  obtain ⟨r2, hr2, rfl⟩ := first13_res hrs
  clear hrs
  change Fm.holds _ _ (lk [.i dwell, .i held, .b r2])
  refine ⟨fun hcond => ?_, fun hcond => ?_⟩
  ·
    have c1 : r2 = false := hcond
    clear hcond
    suffices hfin : (false) = (true) from (c_b hfin rfl)
    -- leaf 1 (ret)
    simp_all
  ·
    have c2 : r2 = true := hcond
    clear hcond
    have nd := number_range dwell (b := 8) (by omega)
    have na := number_range held (b := 40) (by omega)
    refine vg_call (C := C_number) rfl rfl (xs := [.i dwell, .i (8 : Int)]) rfl (fun hg => ?_) (fun rs hrs => ?_)
    ·
      refine number_mk ?_
      -- leaf 2 (pre)
      omega
    obtain ⟨r3, hr3, rfl⟩ := number_res hrs
    clear hrs
    change Fm.holds _ _ (lk [.i dwell, .i held, .b r2, .i r3])
    rw [← hr3] at nd
    have e1 : IntKind.wrap .i64 (r3 + 1) = r3 + 1 := wrap_in (by omega) (by omega)
    have e2 : IntKind.wrap .i64 (3 * (r3 + 1)) = 3 * (r3 + 1) := wrap_in (by omega) (by omega)
    refine vg_call (C := C_number) rfl rfl (xs := [.i held, .i (40 : Int)]) rfl (fun hg => ?_) (fun rs hrs => ?_)
    ·
      refine number_mk ?_
      -- leaf 3 (pre)
      omega
    obtain ⟨r4, hr4, rfl⟩ := number_res hrs
    clear hrs
    change Fm.holds _ _ (lk [.i dwell, .i held, .b r2, .i r3, .i r4])
    rw [← hr4] at na
    refine vg_call (C := C_dopen) rfl rfl (xs := [.i (IntKind.wrap .i64 (r3 + (1 : Int)))]) rfl (fun hg => ?_) (fun rs hrs => ?_)
    ·
      exact trivial
    obtain ⟨r5, r6, hr5, hr6, rfl⟩ := dopen_res hrs
    clear hrs
    change Fm.holds _ _ (lk [.i dwell, .i held, .b r2, .i r3, .i r4, .i r5, .i r6])
    rw [e1] at hr5
    unfold openL at hr5
    replace hr5 : r5 = r3 + 1 := by omega
    refine vg_loop rfl ?_ (fun xs hfit hi => ?_)
    ·
      show inv_DoorStays_8 r3 (1 : Int) r5 r6
      -- leaf 4 (init)
      exact ⟨by omega, by omega, by omega, hr6⟩
    obtain ⟨x7, xs0, rfl, hfit0⟩ := fits_i hfit
    obtain ⟨x8, xs1, rfl, hfit1⟩ := fits_i hfit0
    obtain ⟨x9, xs2, rfl, hfit2⟩ := fits_i hfit1
    obtain rfl := fits_nil hfit2
    clear hfit hfit0 hfit1 hfit2
    replace hi : inv_DoorStays_8 r3 x7 x8 x9 := hi
    have hi8 := hi; clear hi
    change Fm.holds _ _ (lk [.i dwell, .i held, .b r2, .i r3, .i r4, .i r5, .i r6, .i x7, .i x8, .i x9])
    obtain ⟨j0, j1, j2, j3⟩ := hi8
    have e4 : IntKind.wrap .i64 (x7 + 1) = x7 + 1 := wrap_in (by omega) (by omega)
    refine ⟨fun hcond => ?_, fun hcond => ?_⟩
    ·
      have c3 : (decide (x7 < (IntKind.wrap .i64 (r3 + (1 : Int))))) = true := hcond
      clear hcond
      refine vg_call (C := C_dtick) rfl rfl (xs := [.i x8, .i x9, .b ((Int.tmod x7 (2 : Int)) == (0 : Int))]) rfl (fun hg => ?_) (fun rs hrs => ?_)
      ·
        refine dtick_mk ?_
        -- leaf 5 (pre)
        omega
      obtain ⟨r10, r11, r12, hr10, hr11, hr12, rfl⟩ := dtick_res hrs
      clear hrs
      change Fm.holds _ _ (lk [.i dwell, .i held, .b r2, .i r3, .i r4, .i r5, .i r6, .i x7, .i x8, .i x9, .i r10, .i r11, .b r12])
      refine vg_call (C := C_dis) rfl rfl (xs := [.i r10, .i r11]) rfl (fun hg => ?_) (fun rs hrs => ?_)
      ·
        exact trivial
      obtain ⟨r13, hr13, rfl⟩ := dis_res hrs
      clear hrs
      change Fm.holds _ _ (lk [.i dwell, .i held, .b r2, .i r3, .i r4, .i r5, .i r6, .i x7, .i x8, .i x9, .i r10, .i r11, .b r12, .b r13])
      refine ⟨fun hcond => ?_, fun hcond => ?_⟩
      ·
        have c4 : (if r12 = true then true else (!r13)) = true := hcond
        clear hcond
        suffices hfin : (false) = (true) from (c_b hfin rfl)
        -- leaf 6 (ret)
        rw [e1] at c3
        have hlt := of_decide_eq_true c3
        have t1 : ¬ x8 ≤ 0 := by omega
        have t2 : 1 < x8 := by omega
        have t3 : x8 ≠ 1 := by omega
        have t4 : 0 < x8 - 1 := by omega
        simp [hr12, hr13, hr10, tickL, tickC, t1, t2, t3, t4] at c4
      ·
        have c5 : (if r12 = true then true else (!r13)) = false := hcond
        clear hcond
        refine ⟨?_, ?_⟩
        ·
          show inv_DoorStays_8 r3 (IntKind.wrap .i64 (x7 + (1 : Int))) r10 r11
          -- leaf 7 (back)
          rw [e1] at c3
          have hlt := of_decide_eq_true c3
          have t1 : ¬ x8 ≤ 0 := by omega
          have t2 : 1 < x8 := by omega
          rw [e4]
          simp [inv_DoorStays_8, hr10, hr11, tickL, tickH, t1, t2, j3]
          omega
        ·
          show meas_DoorStays_8 r3 (IntKind.wrap .i64 (x7 + (1 : Int))) r10 r11 < meas_DoorStays_8 r3 x7 x8 x9
          -- leaf 8 (meas)
          rw [e1] at c3
          have hlt := of_decide_eq_true c3
          unfold meas_DoorStays_8
          rw [e4]
          omega
    ·
      have c6 : (decide (x7 < (IntKind.wrap .i64 (r3 + (1 : Int))))) = false := hcond
      clear hcond
      refine vg_loop rfl ?_ (fun xs hfit hi => ?_)
      ·
        show inv_DoorStays_15 r4 (1 : Int) x8 x9
        -- leaf 9 (init)
        rw [e1] at c6
        have hlt := of_decide_eq_false c6
        exact ⟨by omega, by omega, by omega, by omega⟩
      obtain ⟨x10, xs0, rfl, hfit0⟩ := fits_i hfit
      obtain ⟨x11, xs1, rfl, hfit1⟩ := fits_i hfit0
      obtain ⟨x12, xs2, rfl, hfit2⟩ := fits_i hfit1
      obtain rfl := fits_nil hfit2
      clear hfit hfit0 hfit1 hfit2
      replace hi : inv_DoorStays_15 r4 x10 x11 x12 := hi
      have hi15 := hi; clear hi
      change Fm.holds _ _ (lk [.i dwell, .i held, .b r2, .i r3, .i r4, .i r5, .i r6, .i x7, .i x8, .i x9, .i x10, .i x11, .i x12])
      obtain ⟨k0, k1, k2, k3⟩ := hi15
      have e5 : IntKind.wrap .i64 (x10 + 1) = x10 + 1 := wrap_in (by omega) (by omega)
      have e6 : IntKind.wrap .i64 (x12 + 1) = x12 + 1 := wrap_in (by omega) (by omega)
      refine ⟨fun hcond => ?_, fun hcond => ?_⟩
      ·
        have c7 : (decide (x10 ≤ r4)) = true := hcond
        clear hcond
        refine vg_call (C := C_dtick) rfl rfl (xs := [.i x11, .i x12, .b true]) rfl (fun hg => ?_) (fun rs hrs => ?_)
        ·
          refine dtick_mk ?_
          -- leaf 10 (pre)
          omega
        obtain ⟨r13, r14, r15, hr13, hr14, hr15, rfl⟩ := dtick_res hrs
        clear hrs
        change Fm.holds _ _ (lk [.i dwell, .i held, .b r2, .i r3, .i r4, .i r5, .i r6, .i x7, .i x8, .i x9, .i x10, .i x11, .i x12, .i r13, .i r14, .b r15])
        refine vg_call (C := C_dis) rfl rfl (xs := [.i r13, .i r14]) rfl (fun hg => ?_) (fun rs hrs => ?_)
        ·
          exact trivial
        obtain ⟨r16, hr16, rfl⟩ := dis_res hrs
        clear hrs
        change Fm.holds _ _ (lk [.i dwell, .i held, .b r2, .i r3, .i r4, .i r5, .i r6, .i x7, .i x8, .i x9, .i x10, .i x11, .i x12, .i r13, .i r14, .b r15, .b r16])
        refine vg_call (C := C_dstuck) rfl rfl (xs := [.i r13, .i r14, .i (IntKind.wrap .i64 (r3 + (1 : Int)))]) rfl (fun hg => ?_) (fun rs hrs => ?_)
        ·
          simp only [gd_cons, gd_nil, and_true] at hg
          replace hg : (if r15 = true then true else (!r16)) = false := hg
          refine dstuck_mk ?_
          -- leaf 11 (pre)
          rw [e1]; omega
        obtain ⟨r17, hr17, rfl⟩ := dstuck_res hrs
        clear hrs
        change Fm.holds _ _ (lk [.i dwell, .i held, .b r2, .i r3, .i r4, .i r5, .i r6, .i x7, .i x8, .i x9, .i x10, .i x11, .i x12, .i r13, .i r14, .b r15, .b r16, .b r17])
        refine ⟨fun hcond => ?_, fun hcond => ?_⟩
        ·
          have c8 : (if (if r15 = true then true else (!r16)) = true then true else (!(r17 == (decide ((IntKind.wrap .i64 ((3 : Int) * (IntKind.wrap .i64 (r3 + (1 : Int))))) < x10))))) = true := hcond
          clear hcond
          suffices hfin : (false) = (true) from (c_b hfin rfl)
          -- leaf 12 (ret)
          rw [e1] at hr17 c8
          rw [e2] at c8
          simp [hr17, hr16, hr15, hr13, hr14, tickL, tickH, tickC, stuck, k2, (show x12 + 1 = x10 by omega)] at c8
        ·
          have c9 : (if (if r15 = true then true else (!r16)) = true then true else (!(r17 == (decide ((IntKind.wrap .i64 ((3 : Int) * (IntKind.wrap .i64 (r3 + (1 : Int))))) < x10))))) = false := hcond
          clear hcond
          refine ⟨?_, ?_⟩
          ·
            show inv_DoorStays_15 r4 (IntKind.wrap .i64 (x10 + (1 : Int))) r13 r14
            -- leaf 13 (back)
            have hlt := of_decide_eq_true c7
            rw [e5]
            simp [inv_DoorStays_15, hr13, hr14, tickL, tickH, k2]
            omega
          ·
            show meas_DoorStays_15 r4 (IntKind.wrap .i64 (x10 + (1 : Int))) r13 r14 < meas_DoorStays_15 r4 x10 x11 x12
            -- leaf 14 (meas)
            have hlt := of_decide_eq_true c7
            unfold meas_DoorStays_15
            rw [e5]
            omega
      ·
        have c10 : (decide (x10 ≤ r4)) = false := hcond
        clear hcond
        refine vg_call (C := C_dtick) rfl rfl (xs := [.i x11, .i x12, .b false]) rfl (fun hg => ?_) (fun rs hrs => ?_)
        ·
          refine dtick_mk ?_
          -- leaf 15 (pre)
          omega
        obtain ⟨r13, r14, r15, hr13, hr14, hr15, rfl⟩ := dtick_res hrs
        clear hrs
        change Fm.holds _ _ (lk [.i dwell, .i held, .b r2, .i r3, .i r4, .i r5, .i r6, .i x7, .i x8, .i x9, .i x10, .i x11, .i x12, .i r13, .i r14, .b r15])
        refine vg_call (C := C_dtick) rfl rfl (xs := [.i r13, .i r14, .b false]) rfl (fun hg => ?_) (fun rs hrs => ?_)
        ·
          refine dtick_mk ?_
          -- leaf 16 (pre)
          subst hr13 hr14
          simp [tickL, tickH, k2]
        obtain ⟨r16, r17, r18, hr16, hr17, hr18, rfl⟩ := dtick_res hrs
        clear hrs
        change Fm.holds _ _ (lk [.i dwell, .i held, .b r2, .i r3, .i r4, .i r5, .i r6, .i x7, .i x8, .i x9, .i x10, .i x11, .i x12, .i r13, .i r14, .b r15, .i r16, .i r17, .b r18])
        refine vg_call (C := C_dis) rfl rfl (xs := [.i r13, .i r14]) rfl (fun hg => ?_) (fun rs hrs => ?_)
        ·
          exact trivial
        obtain ⟨r19, hr19, rfl⟩ := dis_res hrs
        clear hrs
        change Fm.holds _ _ (lk [.i dwell, .i held, .b r2, .i r3, .i r4, .i r5, .i r6, .i x7, .i x8, .i x9, .i x10, .i x11, .i x12, .i r13, .i r14, .b r15, .i r16, .i r17, .b r18, .b r19])
        suffices hfin : ((if (if (if (if r2 = true then r15 else false) = true then (!r19) else false) = true then (!r18) else false) = true then (r14 == (0 : Int)) else false)) = (true) from (c_b hfin rfl)
        -- leaf 17 (ret)
        simp [hr2, hr13, hr14, hr15, hr16, hr17, hr18, hr19, tickL, tickH, tickC, stuck, k2]
end Go.Proofs.Ytdbhdpljnplolaa
