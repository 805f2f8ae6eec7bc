import Derived.Test.YtdbhdpljnplolaaVDoorOpens
namespace Go.Proofs.Ytdbhdpljnplolaa
open Go.Vg
set_option linter.unusedVariables false
set_option linter.unusedSimpArgs false


theorem DoorOpens_sound : C_DoorOpens.Sound Try.prog G 7 := by
  refine fn_ok mixed stable tbl_DoorOpens [⟨10, [9, 10, 40, 41, 42, 43, 44, 45, 46, 47, 48, 49, 50, 51, 52, 53], [7, 8], [(0, 0), (0, 1)], [0, 7]⟩] Try.func7 (by kernel_rfl) phi_DoorOpens vc_DoorOpens ⟨number_sound, first13_sound, dopen_sound, dtick_sound, dstuck_sound, dis_sound, trivial⟩ inv_DoorOpens meas_DoorOpens ?_
  intro ls hp
  obtain ⟨dwell, n, rfl, hpre⟩ := DoorOpens_pre hp
  clear hp
  rw [envOf_lk]
  unfold phi_DoorOpens
  refine vg_call (C := C_first13) rfl rfl (xs := []) rfl (fun hg => ?_) (fun rs hrs => ?_)
  ·
    exact trivial
  obtain ⟨r2, hr2, rfl⟩ := first13_res hrs
  clear hrs
  change Fm.holds _ _ (lk [.i dwell, .i n, .b r2])
  refine ⟨fun hcond => ?_, fun hcond => ?_⟩
  ·
    have c1 : r2 = false := hcond
    clear hcond
    suffices hfin : (false) = (true) from (c_b hfin rfl)
    -- leaf 1 (ret)
    simp_all
  ·
    have c2 : r2 = true := hcond
    clear hcond
    have nn := number_range n (b := 12) (by omega)
    have hD : 1 ≤ openL dwell ∧ openL dwell ≤ 8 := by unfold openL; omega
    have e0 : (if (decide ((8 : Int) < (if (decide (dwell < (1 : Int))) = true then (1 : Int) else dwell))) = true then (8 : Int) else (if (decide (dwell < (1 : Int))) = true then (1 : Int) else dwell)) = openL dwell := by
      simp only [decide_eq_true_eq]; unfold openL; omega
    refine vg_call (C := C_dopen) rfl rfl (xs := [.i dwell]) rfl (fun hg => ?_) (fun rs hrs => ?_)
    ·
      exact trivial
    obtain ⟨r3, r4, hr3, hr4, rfl⟩ := dopen_res hrs
    clear hrs
    change Fm.holds _ _ (lk [.i dwell, .i n, .b r2, .i r3, .i r4])
    refine vg_call (C := C_dis) rfl rfl (xs := [.i r3, .i r4]) rfl (fun hg => ?_) (fun rs hrs => ?_)
    ·
      exact trivial
    obtain ⟨r5, hr5, rfl⟩ := dis_res hrs
    clear hrs
    change Fm.holds _ _ (lk [.i dwell, .i n, .b r2, .i r3, .i r4, .b r5])
    refine vg_call (C := C_dstuck) rfl rfl (xs := [.i r3, .i r4, .i (8 : Int)]) rfl (fun hg => ?_) (fun rs hrs => ?_)
    ·
      simp only [gd_cons, gd_nil, and_true] at hg
      replace hg : (if (if (!(r3 == (if (decide ((8 : Int) < (if (decide (dwell < (1 : Int))) = true then (1 : Int) else dwell))) = true then (8 : Int) else (if (decide (dwell < (1 : Int))) = true then (1 : Int) else dwell)))) = true then true else (!(r4 == (0 : Int)))) = true then true else (!r5)) = false := hg
      refine dstuck_mk ?_
      -- leaf 2 (pre)
      omega
    obtain ⟨r6, hr6, rfl⟩ := dstuck_res hrs
    clear hrs
    change Fm.holds _ _ (lk [.i dwell, .i n, .b r2, .i r3, .i r4, .b r5, .b r6])
    refine ⟨fun hcond => ?_, fun hcond => ?_⟩
    ·
      have c3 : (if (if (if (!(r3 == (if (decide ((8 : Int) < (if (decide (dwell < (1 : Int))) = true then (1 : Int) else dwell))) = true then (8 : Int) else (if (decide (dwell < (1 : Int))) = true then (1 : Int) else dwell)))) = true then true else (!(r4 == (0 : Int)))) = true then true else (!r5)) = true then true else r6) = true := hcond
      clear hcond
      suffices hfin : (false) = (true) from (c_b hfin rfl)
      -- leaf 3 (ret)
      have t1 : 0 < openL dwell := by omega
      rw [e0] at c3
      simp [hr6, hr5, hr4, hr3, stuck, t1] at c3
    ·
      have c4 : (if (if (if (!(r3 == (if (decide ((8 : Int) < (if (decide (dwell < (1 : Int))) = true then (1 : Int) else dwell))) = true then (8 : Int) else (if (decide (dwell < (1 : Int))) = true then (1 : Int) else dwell)))) = true then true else (!(r4 == (0 : Int)))) = true then true else (!r5)) = true then true else r6) = false := hcond
      clear hcond
      refine vg_call (C := C_number) rfl rfl (xs := [.i n, .i (12 : Int)]) rfl (fun hg => ?_) (fun rs hrs => ?_)
      ·
        refine number_mk ?_
        -- leaf 4 (pre)
        omega
      obtain ⟨r7, hr7, rfl⟩ := number_res hrs
      clear hrs
      change Fm.holds _ _ (lk [.i dwell, .i n, .b r2, .i r3, .i r4, .b r5, .b r6, .i r7])
      rw [← hr7] at nn
      refine vg_loop rfl ?_ (fun xs hfit hi => ?_)
      ·
        show inv_DoorOpens_10 dwell r7 (0 : Int) (0 : Int) r3 r4
        -- leaf 5 (init)
        subst hr3
        refine ⟨by omega, by omega, hr4, by omega, ?_⟩
        rw [if_neg (by omega)]
      obtain ⟨x8, xs0, rfl, hfit0⟩ := fits_i hfit
      obtain ⟨x9, xs1, rfl, hfit1⟩ := fits_i hfit0
      obtain ⟨x10, xs2, rfl, hfit2⟩ := fits_i hfit1
      obtain ⟨x11, xs3, rfl, hfit3⟩ := fits_i hfit2
      obtain rfl := fits_nil hfit3
      clear hfit hfit0 hfit1 hfit2 hfit3
      replace hi : inv_DoorOpens_10 dwell r7 x8 x9 x10 x11 := hi
      have hi10 := hi; clear hi
      change Fm.holds _ _ (lk [.i dwell, .i n, .b r2, .i r3, .i r4, .b r5, .b r6, .i r7, .i x8, .i x9, .i x10, .i x11])
      obtain ⟨j0, j1, j2, j3, j4⟩ := hi10
      have e1 : IntKind.wrap .i64 (x9 + 1) = x9 + 1 := wrap_in (by omega) (by omega)
      have e2 : IntKind.wrap .i64 (x8 + 1) = x8 + 1 := wrap_in (by split at j4 <;> omega) (by split at j4 <;> omega)
      refine ⟨fun hcond => ?_, fun hcond => ?_⟩
      ·
        have c5 : (decide (x9 < r7)) = true := hcond
        clear hcond
        refine vg_call (C := C_dtick) rfl rfl (xs := [.i x10, .i x11, .b false]) rfl (fun hg => ?_) (fun rs hrs => ?_)
        ·
          refine dtick_mk ?_
          -- leaf 6 (pre)
          omega
        obtain ⟨r12, r13, r14, hr12, hr13, hr14, rfl⟩ := dtick_res hrs
        clear hrs
        change Fm.holds _ _ (lk [.i dwell, .i n, .b r2, .i r3, .i r4, .b r5, .b r6, .i r7, .i x8, .i x9, .i x10, .i x11, .i r12, .i r13, .b r14])
        refine ⟨fun hcond => ?_, fun hcond => ?_⟩
        ·
          have c6 : r14 = true := hcond
          clear hcond
          refine ⟨?_, ?_⟩
          ·
            show inv_DoorOpens_10 dwell r7 (IntKind.wrap .i64 (x8 + (1 : Int))) (IntKind.wrap .i64 (x9 + (1 : Int))) r12 r13
            -- leaf 7 (back)
            have hlt := of_decide_eq_true c5
            rw [hr14] at c6
            simp [tickC] at c6
            rw [e1, e2]
            simp [inv_DoorOpens_10, hr12, hr13, tickL, tickH, c6]
            split at j4 <;> omega
          ·
            show meas_DoorOpens_10 dwell r7 (IntKind.wrap .i64 (x8 + (1 : Int))) (IntKind.wrap .i64 (x9 + (1 : Int))) r12 r13 < meas_DoorOpens_10 dwell r7 x8 x9 x10 x11
            -- leaf 8 (meas)
            have hlt := of_decide_eq_true c5
            unfold meas_DoorOpens_10
            rw [e1]
            omega
        ·
          have c7 : r14 = false := hcond
          clear hcond
          refine ⟨?_, ?_⟩
          ·
            show inv_DoorOpens_10 dwell r7 x8 (IntKind.wrap .i64 (x9 + (1 : Int))) r12 r13
            -- leaf 9 (back)
            have hlt := of_decide_eq_true c5
            rw [hr14] at c7
            simp [tickC] at c7
            rw [e1]
            simp [inv_DoorOpens_10, hr12, hr13, tickL, tickH, j2]
            split at j4 <;> omega
          ·
            show meas_DoorOpens_10 dwell r7 x8 (IntKind.wrap .i64 (x9 + (1 : Int))) r12 r13 < meas_DoorOpens_10 dwell r7 x8 x9 x10 x11
            -- leaf 10 (meas)
            have hlt := of_decide_eq_true c5
            unfold meas_DoorOpens_10
            rw [e1]
            omega
      ·
        have c8 : (decide (x9 < r7)) = false := hcond
        clear hcond
        refine vg_call (C := C_dtick) rfl rfl (xs := [.i (0 : Int), .i (5 : Int), .b true]) rfl (fun hg => ?_) (fun rs hrs => ?_)
        ·
          refine dtick_mk ?_
          -- leaf 11 (pre)
          omega
        obtain ⟨r12, r13, r14, hr12, hr13, hr14, rfl⟩ := dtick_res hrs
        clear hrs
        change Fm.holds _ _ (lk [.i dwell, .i n, .b r2, .i r3, .i r4, .b r5, .b r6, .i r7, .i x8, .i x9, .i x10, .i x11, .i r12, .i r13, .b r14])
        refine vg_call (C := C_dis) rfl rfl (xs := [.i x10, .i x11]) rfl (fun hg => ?_) (fun rs hrs => ?_)
        ·
          exact trivial
        obtain ⟨r15, hr15, rfl⟩ := dis_res hrs
        clear hrs
        change Fm.holds _ _ (lk [.i dwell, .i n, .b r2, .i r3, .i r4, .b r5, .b r6, .i r7, .i x8, .i x9, .i x10, .i x11, .i r12, .i r13, .b r14, .b r15])
        refine vg_call (C := C_dis) rfl rfl (xs := [.i r12, .i r13]) rfl (fun hg => ?_) (fun rs hrs => ?_)
        ·
          exact trivial
        obtain ⟨r16, hr16, rfl⟩ := dis_res hrs
        clear hrs
        change Fm.holds _ _ (lk [.i dwell, .i n, .b r2, .i r3, .i r4, .b r5, .b r6, .i r7, .i x8, .i x9, .i x10, .i x11, .i r12, .i r13, .b r14, .b r15, .b r16])
        suffices hfin : ((if (if (if (if (if r2 = true then (decide (x8 ≤ (1 : Int))) else false) = true then (r15 == (decide (r7 < (if (decide ((8 : Int) < (if (decide (dwell < (1 : Int))) = true then (1 : Int) else dwell))) = true then (8 : Int) else (if (decide (dwell < (1 : Int))) = true then (1 : Int) else dwell))))) else false) = true then (!r14) else false) = true then (!r16) else false) = true then (r13 == (0 : Int)) else false)) = (true) from (c_b hfin rfl)
        -- leaf 12 (ret)
        have hlt := of_decide_eq_false c8
        have hx : x8 ≤ 1 := by split at j4 <;> omega
        rw [e0]
        simp [hr2, hx, hr15, hr14, hr16, hr12, hr13, tickL, tickH, tickC, j3]
        omega
end Go.Proofs.Ytdbhdpljnplolaa
