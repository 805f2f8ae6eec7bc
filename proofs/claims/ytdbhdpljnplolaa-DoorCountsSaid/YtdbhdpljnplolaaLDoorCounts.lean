import Derived.Test.YtdbhdpljnplolaaVDoorCounts
namespace Go.Proofs.Ytdbhdpljnplolaa
open Go.Vg
set_option linter.unusedVariables false
set_option linter.unusedSimpArgs false


theorem DoorCounts_sound : C_DoorCounts.Sound Try.prog G 4 := by
  refine fn_ok mixed stable tbl_DoorCounts [⟨9, [10, 11, 29, 30, 31, 32, 33, 34, 35, 36, 37, 38, 39, 40], [9], [(0, 0), (0, 1)], [4]⟩, ⟨16, [6, 13, 14, 49, 50, 51, 52, 53, 54, 55, 56, 57, 58, 59, 60, 61, 62, 63, 64, 65, 66, 67, 68, 69, 70, 71, 72, 73], [12], [(0, 0), (0, 1)], [5, 6]⟩] Try.func4 (by kernel_rfl) phi_DoorCounts vc_DoorCounts ⟨number_sound, first13_sound, dopen_sound, dtick_sound, dstuck_sound, trivial⟩ inv_DoorCounts meas_DoorCounts ?_
  intro ls hp
  obtain ⟨dwell, a, b, rfl, hpre⟩ := DoorCounts_pre hp
  clear hp
  rw [envOf_lk]
  unfold phi_DoorCounts
  refine vg_call (C := C_first13) rfl rfl (xs := []) rfl (fun hg => ?_) (fun rs hrs => ?_)
  ·
    exact trivial
  obtain ⟨r3, hr3, rfl⟩ := first13_res hrs
  clear hrs
  change Fm.holds _ _ (lk [.i dwell, .i a, .i b, .b r3])
  refine ⟨fun hcond => ?_, fun hcond => ?_⟩
  ·
    have c1 : r3 = false := hcond
    clear hcond
    suffices hfin : (false) = (true) from (c_b hfin rfl)
    -- leaf 1 (ret)
    simp_all
  ·
    have c2 : r3 = true := hcond
    clear hcond
    have nd := number_range dwell (b := 8) (by omega)
    have na := number_range a (b := 20) (by omega)
    have nb := number_range b (b := 20) (by omega)
    refine vg_call (C := C_number) rfl rfl (xs := [.i dwell, .i (8 : Int)]) rfl (fun hg => ?_) (fun rs hrs => ?_)
    ·
      refine number_mk ?_
      -- leaf 2 (pre)
      omega
    obtain ⟨r4, hr4, rfl⟩ := number_res hrs
    clear hrs
    change Fm.holds _ _ (lk [.i dwell, .i a, .i b, .b r3, .i r4])
    rw [← hr4] at nd
    have e1 : IntKind.wrap .i64 (r4 + 1) = r4 + 1 := wrap_in (by omega) (by omega)
    have e2 : IntKind.wrap .i64 (r4 + 1 - 1) = r4 := by rw [wrap_in (by omega) (by omega)]; omega
    refine vg_call (C := C_number) rfl rfl (xs := [.i a, .i (20 : Int)]) rfl (fun hg => ?_) (fun rs hrs => ?_)
    ·
      refine number_mk ?_
      -- leaf 3 (pre)
      omega
    obtain ⟨r5, hr5, rfl⟩ := number_res hrs
    clear hrs
    change Fm.holds _ _ (lk [.i dwell, .i a, .i b, .b r3, .i r4, .i r5])
    rw [← hr5] at na
    refine vg_call (C := C_number) rfl rfl (xs := [.i b, .i (20 : Int)]) rfl (fun hg => ?_) (fun rs hrs => ?_)
    ·
      refine number_mk ?_
      -- leaf 4 (pre)
      omega
    obtain ⟨r6, hr6, rfl⟩ := number_res hrs
    clear hrs
    change Fm.holds _ _ (lk [.i dwell, .i a, .i b, .b r3, .i r4, .i r5, .i r6])
    rw [← hr6] at nb
    have e3 : IntKind.wrap .i64 (r5 + r6) = r5 + r6 := wrap_in (by omega) (by omega)
    refine vg_call (C := C_dopen) rfl rfl (xs := [.i (IntKind.wrap .i64 (r4 + (1 : Int)))]) rfl (fun hg => ?_) (fun rs hrs => ?_)
    ·
      exact trivial
    obtain ⟨r7, r8, hr7, hr8, rfl⟩ := dopen_res hrs
    clear hrs
    change Fm.holds _ _ (lk [.i dwell, .i a, .i b, .b r3, .i r4, .i r5, .i r6, .i r7, .i r8])
    rw [e1] at hr7
    unfold openL at hr7
    replace hr7 : r7 = r4 + 1 := by omega
    refine vg_loop rfl ?_ (fun xs hfit hi => ?_)
    ·
      show inv_DoorCounts_9 r4 (0 : Int) r7 r8
      -- leaf 5 (init)
      exact ⟨by omega, by omega, by omega, hr8⟩
    obtain ⟨x9, xs0, rfl, hfit0⟩ := fits_i hfit
    obtain ⟨x10, xs1, rfl, hfit1⟩ := fits_i hfit0
    obtain ⟨x11, xs2, rfl, hfit2⟩ := fits_i hfit1
    obtain rfl := fits_nil hfit2
    clear hfit hfit0 hfit1 hfit2
    replace hi : inv_DoorCounts_9 r4 x9 x10 x11 := hi
    have hi9 := hi; clear hi
    change Fm.holds _ _ (lk [.i dwell, .i a, .i b, .b r3, .i r4, .i r5, .i r6, .i r7, .i r8, .i x9, .i x10, .i x11])
    obtain ⟨j0, j1, j2, j3⟩ := hi9
    have e4 : IntKind.wrap .i64 (x9 + 1) = x9 + 1 := wrap_in (by omega) (by omega)
    refine ⟨fun hcond => ?_, fun hcond => ?_⟩
    ·
      have c3 : (decide (x9 < (IntKind.wrap .i64 ((IntKind.wrap .i64 (r4 + (1 : Int))) - (1 : Int))))) = true := hcond
      clear hcond
      refine vg_call (C := C_dtick) rfl rfl (xs := [.i x10, .i x11, .b true]) rfl (fun hg => ?_) (fun rs hrs => ?_)
      ·
        refine dtick_mk ?_
        -- leaf 6 (pre)
        omega
      obtain ⟨r12, r13, r14, hr12, hr13, hr14, rfl⟩ := dtick_res hrs
      clear hrs
      change Fm.holds _ _ (lk [.i dwell, .i a, .i b, .b r3, .i r4, .i r5, .i r6, .i r7, .i r8, .i x9, .i x10, .i x11, .i r12, .i r13, .b r14])
      refine ⟨?_, ?_⟩
      ·
        show inv_DoorCounts_9 r4 (IntKind.wrap .i64 (x9 + (1 : Int))) r12 r13
        -- leaf 7 (back)
        rw [e1, e2] at c3
        have hlt := of_decide_eq_true c3
        subst hr12 hr13
        rw [e4]
        unfold inv_DoorCounts_9 tickL tickH
        refine ⟨by omega, by omega, ?_, ?_⟩
        · rw [if_neg (by omega), if_pos (by omega)]; omega
        · rw [if_neg (by omega), if_pos (by omega)]; omega
      ·
        show meas_DoorCounts_9 r4 (IntKind.wrap .i64 (x9 + (1 : Int))) r12 r13 < meas_DoorCounts_9 r4 x9 x10 x11
        -- leaf 8 (meas)
        rw [e1, e2] at c3
        have hlt := of_decide_eq_true c3
        unfold meas_DoorCounts_9
        rw [e4]
        omega
    ·
      have c4 : (decide (x9 < (IntKind.wrap .i64 ((IntKind.wrap .i64 (r4 + (1 : Int))) - (1 : Int))))) = false := hcond
      clear hcond
      refine ⟨fun hcond => ?_, fun hcond => ?_⟩
      ·
        have c5 : (if (!(x11 == (0 : Int))) = true then true else (!(x10 == (1 : Int)))) = true := hcond
        clear hcond
        suffices hfin : (false) = (true) from (c_b hfin rfl)
        -- leaf 9 (ret)
        rw [e1, e2] at c4
        have hlt := of_decide_eq_false c4
        have e6 : x10 = 1 := by omega
        simp [j3, e6] at c5
      ·
        have c6 : (if (!(x11 == (0 : Int))) = true then true else (!(x10 == (1 : Int)))) = false := hcond
        clear hcond
        refine vg_loop rfl ?_ (fun xs hfit hi => ?_)
        ·
          show inv_DoorCounts_16 r5 r6 (1 : Int) x10 x11
          -- leaf 10 (init)
          rw [e1, e2] at c4
          have hlt := of_decide_eq_false c4
          exact ⟨by omega, by omega, by omega, by omega⟩
        obtain ⟨x12, xs0, rfl, hfit0⟩ := fits_i hfit
        obtain ⟨x13, xs1, rfl, hfit1⟩ := fits_i hfit0
        obtain ⟨x14, xs2, rfl, hfit2⟩ := fits_i hfit1
        obtain rfl := fits_nil hfit2
        clear hfit hfit0 hfit1 hfit2
        replace hi : inv_DoorCounts_16 r5 r6 x12 x13 x14 := hi
        have hi16 := hi; clear hi
        change Fm.holds _ _ (lk [.i dwell, .i a, .i b, .b r3, .i r4, .i r5, .i r6, .i r7, .i r8, .i x9, .i x10, .i x11, .i x12, .i x13, .i x14])
        obtain ⟨k0, k1, k2, k3⟩ := hi16
        have e5 : IntKind.wrap .i64 (x12 + 1) = x12 + 1 := wrap_in (by omega) (by omega)
        refine ⟨fun hcond => ?_, fun hcond => ?_⟩
        ·
          have c7 : (decide (x12 ≤ (IntKind.wrap .i64 (r5 + r6)))) = true := hcond
          clear hcond
          refine vg_call (C := C_dtick) rfl rfl (xs := [.i x13, .i x14, .b true]) rfl (fun hg => ?_) (fun rs hrs => ?_)
          ·
            refine dtick_mk ?_
            -- leaf 11 (pre)
            omega
          obtain ⟨r15, r16, r17, hr15, hr16, hr17, rfl⟩ := dtick_res hrs
          clear hrs
          change Fm.holds _ _ (lk [.i dwell, .i a, .i b, .b r3, .i r4, .i r5, .i r6, .i r7, .i r8, .i x9, .i x10, .i x11, .i x12, .i x13, .i x14, .i r15, .i r16, .b r17])
          refine ⟨fun hcond => ?_, fun hcond => ?_⟩
          ·
            have c8 : (if (if r17 = true then true else (!(r16 == x12))) = true then true else (!(r15 == (1 : Int)))) = true := hcond
            clear hcond
            suffices hfin : (false) = (true) from (c_b hfin rfl)
            -- leaf 12 (ret)
            simp [hr15, hr16, hr17, tickL, tickH, tickC, k2] at c8
            omega
          ·
            have c9 : (if (if r17 = true then true else (!(r16 == x12))) = true then true else (!(r15 == (1 : Int)))) = false := hcond
            clear hcond
            refine ⟨?_, ?_⟩
            ·
              show inv_DoorCounts_16 r5 r6 (IntKind.wrap .i64 (x12 + (1 : Int))) r15 r16
              -- leaf 13 (back)
              rw [e3] at c7
              have hlt := of_decide_eq_true c7
              subst hr15 hr16
              rw [e5]
              simp [inv_DoorCounts_16, tickL, tickH, k2]
              omega
            ·
              show meas_DoorCounts_16 r5 r6 (IntKind.wrap .i64 (x12 + (1 : Int))) r15 r16 < meas_DoorCounts_16 r5 r6 x12 x13 x14
              -- leaf 14 (meas)
              rw [e3] at c7
              have hlt := of_decide_eq_true c7
              unfold meas_DoorCounts_16
              rw [e5]
              omega
        ·
          have c10 : (decide (x12 ≤ (IntKind.wrap .i64 (r5 + r6)))) = false := hcond
          clear hcond
          refine vg_call (C := C_dtick) rfl rfl (xs := [.i x13, .i x14, .b false]) rfl (fun hg => ?_) (fun rs hrs => ?_)
          ·
            refine dtick_mk ?_
            -- leaf 15 (pre)
            omega
          obtain ⟨r15, r16, r17, hr15, hr16, hr17, rfl⟩ := dtick_res hrs
          clear hrs
          change Fm.holds _ _ (lk [.i dwell, .i a, .i b, .b r3, .i r4, .i r5, .i r6, .i r7, .i r8, .i x9, .i x10, .i x11, .i x12, .i x13, .i x14, .i r15, .i r16, .b r17])
          refine vg_call (C := C_dstuck) rfl rfl (xs := [.i r15, .i r16, .i (IntKind.wrap .i64 (r4 + (1 : Int)))]) rfl (fun hg => ?_) (fun rs hrs => ?_)
          ·
            simp only [gd_cons, gd_nil, and_true] at hg
            replace hg : (if (if (if r3 = true then r17 else false) = true then (r16 == (0 : Int)) else false) = true then (r15 == (0 : Int)) else false) = true := hg
            refine dstuck_mk ?_
            -- leaf 16 (pre)
            rw [e1]; omega
          obtain ⟨r18, hr18, rfl⟩ := dstuck_res hrs
          clear hrs
          change Fm.holds _ _ (lk [.i dwell, .i a, .i b, .b r3, .i r4, .i r5, .i r6, .i r7, .i r8, .i x9, .i x10, .i x11, .i x12, .i x13, .i x14, .i r15, .i r16, .b r17, .b r18])
          suffices hfin : ((if (if (if (if r3 = true then r17 else false) = true then (r16 == (0 : Int)) else false) = true then (r15 == (0 : Int)) else false) = true then (!r18) else false)) = (true) from (c_b hfin rfl)
          -- leaf 17 (ret)
          simp [hr3, hr15, hr16, hr17, hr18, tickL, tickH, tickC, stuck, k2]
end Go.Proofs.Ytdbhdpljnplolaa
