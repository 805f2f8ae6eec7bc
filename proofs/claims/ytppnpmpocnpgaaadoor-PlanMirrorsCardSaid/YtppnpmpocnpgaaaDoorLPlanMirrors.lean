import Derived.Test.YtppnpmpocnpgaaaDoorVPlanMirrors
namespace Go.Proofs.YtppnpmpocnpgaaaDoor
open Go.Vg
set_option linter.unusedVariables false
set_option linter.unusedSimpArgs false
open Go


theorem PlanMirrors_sound : C_PlanMirrors.Sound Tryd.prog G 6 := by
  refine fn_ok mixed stable tbl_PlanMirrors [⟨8, [22, 23, 24, 25, 26, 27, 28, 29, 30, 31, 32, 33, 34, 35, 36, 37, 38, 39, 40, 41, 42, 43, 44, 45, 46, 47, 48, 49, 50, 51, 52, 53, 54, 55, 56, 57, 58], [9], [(1, 0), (1, 1), (1, 2)], [0, 1, 2], some (3, .i64)⟩] Tryd.func6 (by kernel_rfl) phi_PlanMirrors vc_PlanMirrors ⟨number_sound, at_sound, hall_sound, first15_sound, planat_sound, trivial⟩ inv_PlanMirrors meas_PlanMirrors ?_
  intro ls hp
  obtain ⟨s0, s1, s2, fl, dir, rfl, hpre⟩ := PlanMirrors_pre hp
  clear hp
  rw [envOf_lk]
  unfold phi_PlanMirrors
  refine vg_call (C := C_first15) rfl rfl (xs := []) rfl (fun hg => ?_) (fun rs hrs => ?_)
  ·
    exact trivial
  obtain ⟨r5, hr5, rfl⟩ := first15_res hrs
  clear hrs
  change Fm.holds _ _ (lk [.i s0, .i s1, .i s2, .i fl, .i dir, .b r5])
  refine ⟨fun hcond => ?_, fun hcond => ?_⟩
  ·
    have c1 : r5 = false := hcond
    clear hcond
    suffices hfin : (false) = (true) from (c_b hfin rfl)
    -- leaf 1 (ret)
    simp_all
  ·
    have c2 : r5 = true := hcond
    clear hcond
    have n1 := number_range fl (b := 64) (by omega)
    have n2 := number_range dir (b := 2) (by omega)
    refine vg_call (C := C_number) rfl rfl (xs := [.i fl, .i (64 : Int)]) rfl (fun hg => ?_) (fun rs hrs => ?_)
    ·
      refine number_mk ?_
      -- leaf 2 (pre)
      omega
    obtain ⟨r6, hr6, rfl⟩ := number_res hrs
    clear hrs
    change Fm.holds _ _ (lk [.i s0, .i s1, .i s2, .i fl, .i dir, .b r5, .i r6])
    rw [← hr6] at n1
    refine vg_call (C := C_number) rfl rfl (xs := [.i dir, .i (2 : Int)]) rfl (fun hg => ?_) (fun rs hrs => ?_)
    ·
      refine number_mk ?_
      -- leaf 3 (pre)
      omega
    obtain ⟨r7, hr7, rfl⟩ := number_res hrs
    clear hrs
    change Fm.holds _ _ (lk [.i s0, .i s1, .i s2, .i fl, .i dir, .b r5, .i r6, .i r7])
    rw [← hr7] at n2
    have ed : IntKind.wrap .i64 (IntKind.wrap .i64 (2 * r7) - 1) = 2 * r7 - 1 := by rw [wrap_in (n := 2 * r7) (by omega) (by omega), wrap_in (by omega) (by omega)]
    refine vg_loop rfl ?_ (fun xs hfit hi => ?_)
    ·
      show inv_PlanMirrors_8 s0 s1 s2 (0 : Int) (0 : Int) (0 : Int) (0 : Int)
      -- leaf 4 (init)
      exact ⟨by omega, by omega, rfl, rfl, rfl⟩
    obtain ⟨x8, xs0, rfl, hfit0⟩ := fits_i hfit
    obtain ⟨x9, xs1, rfl, hfit1⟩ := fits_i hfit0
    obtain ⟨x10, xs2, rfl, hfit2⟩ := fits_i hfit1
    obtain ⟨x11, xs3, rfl, hfit3⟩ := fits_i hfit2
    obtain rfl := fits_nil hfit3
    clear hfit hfit0 hfit1 hfit2 hfit3
    replace hi : inv_PlanMirrors_8 s0 s1 s2 x8 x9 x10 x11 := hi
    have hi8 := hi; clear hi
    change Fm.holds _ _ (lk [.i s0, .i s1, .i s2, .i fl, .i dir, .b r5, .i r6, .i r7, .i x8, .i x9, .i x10, .i x11])
    obtain ⟨j0, j1, j2, j3, j4⟩ := hi8
    have e1 : IntKind.wrap .i64 (x8 + 1) = x8 + 1 := wrap_in (by omega) (by omega)
    refine ⟨fun hcond => ?_, fun hcond => ?_⟩
    ·
      have c3 : (decide (x8 < (64 : Int))) = true := hcond
      clear hcond
      refine vg_call (C := C_at) rfl rfl (xs := [.i s0, .i s1, .i s2, .i x8]) rfl (fun hg => ?_) (fun rs hrs => ?_)
      ·
        exact trivial
      obtain ⟨r12, hr12, rfl⟩ := at_res hrs
      clear hrs
      change Fm.holds _ _ (lk [.i s0, .i s1, .i s2, .i fl, .i dir, .b r5, .i r6, .i r7, .i x8, .i x9, .i x10, .i x11, .b r12])
      refine ⟨fun hcond => ?_, fun hcond => ?_⟩
      ·
        have c4 : r12 = true := hcond
        clear hcond
        refine ⟨fun hg => ?_, ?_⟩
        ·
          show (decide ((0 : Int) ≤ (IntKind.wrap .u64 (IntKind.wrap .i64 ((63 : Int) - x8))))) = true
          -- leaf 5 (ob)
          rw [wrap_u64]
          exact decide_eq_true (Int.emod_nonneg _ (by decide))
        refine vg_call (C := C_hall) rfl rfl (xs := [.i s0, .i s1, .i s2, .i x8, .i (1 : Int)]) rfl (fun hg => ?_) (fun rs hrs => ?_)
        ·
          exact trivial
        obtain ⟨r13, hr13, rfl⟩ := hall_res hrs
        clear hrs
        change Fm.holds _ _ (lk [.i s0, .i s1, .i s2, .i fl, .i dir, .b r5, .i r6, .i r7, .i x8, .i x9, .i x10, .i x11, .b r12, .b r13])
        rw [hall_up] at hr13
        refine ⟨fun hcond => ?_, fun hcond => ?_⟩
        ·
          have c5 : r13 = true := hcond
          clear hcond
          refine vg_call (C := C_hall) rfl rfl (xs := [.i s0, .i s1, .i s2, .i x8, .i (-1)]) rfl (fun hg => ?_) (fun rs hrs => ?_)
          ·
            exact trivial
          obtain ⟨r14, hr14, rfl⟩ := hall_res hrs
          clear hrs
          change Fm.holds _ _ (lk [.i s0, .i s1, .i s2, .i fl, .i dir, .b r5, .i r6, .i r7, .i x8, .i x9, .i x10, .i x11, .b r12, .b r13, .b r14])
          rw [hall_dn] at hr14
          refine ⟨fun hcond => ?_, fun hcond => ?_⟩
          ·
            have c6 : r14 = true := hcond
            clear hcond
            refine ⟨?_, ?_⟩
            ·
              show inv_PlanMirrors_8 s0 s1 s2 (IntKind.wrap .i64 (x8 + (1 : Int))) (bitv .or .u64 x9 (IntKind.wrap .u64 ((1 : Int) * 2 ^ (min (Int.toNat (IntKind.wrap .u64 (IntKind.wrap .i64 ((63 : Int) - x8)))) (IntKind.bits .u64))))) (bitv .or .u64 x10 (IntKind.wrap .u64 ((1 : Int) * 2 ^ (min (Int.toNat (IntKind.wrap .u64 (IntKind.wrap .i64 ((63 : Int) - x8)))) (IntKind.bits .u64))))) (bitv .or .u64 x11 (IntKind.wrap .u64 ((1 : Int) * 2 ^ (min (Int.toNat (IntKind.wrap .u64 (IntKind.wrap .i64 ((63 : Int) - x8)))) (IntKind.bits .u64)))))
              -- leaf 6 (back)
              have hlt := of_decide_eq_true c3
              rw [e1]
              refine ⟨by omega, by omega, ?_, ?_, ?_⟩
              · rw [j2]; first | exact (mir_yes j0 hlt (hr12.symm.trans (by assumption))).symm | exact (mir_no j0 hlt (hr12.symm.trans (by assumption))).symm
              · rw [j3]; first | exact (mir_yes j0 hlt (hr14.symm.trans (by assumption))).symm | exact (mir_no j0 hlt (hr14.symm.trans (by assumption))).symm
              · rw [j4]; first | exact (mir_yes j0 hlt (hr13.symm.trans (by assumption))).symm | exact (mir_no j0 hlt (hr13.symm.trans (by assumption))).symm
            ·
              show meas_PlanMirrors_8 s0 s1 s2 (IntKind.wrap .i64 (x8 + (1 : Int))) (bitv .or .u64 x9 (IntKind.wrap .u64 ((1 : Int) * 2 ^ (min (Int.toNat (IntKind.wrap .u64 (IntKind.wrap .i64 ((63 : Int) - x8)))) (IntKind.bits .u64))))) (bitv .or .u64 x10 (IntKind.wrap .u64 ((1 : Int) * 2 ^ (min (Int.toNat (IntKind.wrap .u64 (IntKind.wrap .i64 ((63 : Int) - x8)))) (IntKind.bits .u64))))) (bitv .or .u64 x11 (IntKind.wrap .u64 ((1 : Int) * 2 ^ (min (Int.toNat (IntKind.wrap .u64 (IntKind.wrap .i64 ((63 : Int) - x8)))) (IntKind.bits .u64))))) < meas_PlanMirrors_8 s0 s1 s2 x8 x9 x10 x11
              -- leaf 7 (meas)
              have hlt := of_decide_eq_true c3
              unfold meas_PlanMirrors_8
              rw [e1]
              omega
          ·
            have c7 : r14 = false := hcond
            clear hcond
            refine ⟨?_, ?_⟩
            ·
              show inv_PlanMirrors_8 s0 s1 s2 (IntKind.wrap .i64 (x8 + (1 : Int))) (bitv .or .u64 x9 (IntKind.wrap .u64 ((1 : Int) * 2 ^ (min (Int.toNat (IntKind.wrap .u64 (IntKind.wrap .i64 ((63 : Int) - x8)))) (IntKind.bits .u64))))) x10 (bitv .or .u64 x11 (IntKind.wrap .u64 ((1 : Int) * 2 ^ (min (Int.toNat (IntKind.wrap .u64 (IntKind.wrap .i64 ((63 : Int) - x8)))) (IntKind.bits .u64)))))
              -- leaf 8 (back)
              have hlt := of_decide_eq_true c3
              rw [e1]
              refine ⟨by omega, by omega, ?_, ?_, ?_⟩
              · rw [j2]; first | exact (mir_yes j0 hlt (hr12.symm.trans (by assumption))).symm | exact (mir_no j0 hlt (hr12.symm.trans (by assumption))).symm
              · rw [j3]; first | exact (mir_yes j0 hlt (hr14.symm.trans (by assumption))).symm | exact (mir_no j0 hlt (hr14.symm.trans (by assumption))).symm
              · rw [j4]; first | exact (mir_yes j0 hlt (hr13.symm.trans (by assumption))).symm | exact (mir_no j0 hlt (hr13.symm.trans (by assumption))).symm
            ·
              show meas_PlanMirrors_8 s0 s1 s2 (IntKind.wrap .i64 (x8 + (1 : Int))) (bitv .or .u64 x9 (IntKind.wrap .u64 ((1 : Int) * 2 ^ (min (Int.toNat (IntKind.wrap .u64 (IntKind.wrap .i64 ((63 : Int) - x8)))) (IntKind.bits .u64))))) x10 (bitv .or .u64 x11 (IntKind.wrap .u64 ((1 : Int) * 2 ^ (min (Int.toNat (IntKind.wrap .u64 (IntKind.wrap .i64 ((63 : Int) - x8)))) (IntKind.bits .u64))))) < meas_PlanMirrors_8 s0 s1 s2 x8 x9 x10 x11
              -- leaf 9 (meas)
              have hlt := of_decide_eq_true c3
              unfold meas_PlanMirrors_8
              rw [e1]
              omega
        ·
          have c8 : r13 = false := hcond
          clear hcond
          refine vg_call (C := C_hall) rfl rfl (xs := [.i s0, .i s1, .i s2, .i x8, .i (-1)]) rfl (fun hg => ?_) (fun rs hrs => ?_)
          ·
            exact trivial
          obtain ⟨r14, hr14, rfl⟩ := hall_res hrs
          clear hrs
          change Fm.holds _ _ (lk [.i s0, .i s1, .i s2, .i fl, .i dir, .b r5, .i r6, .i r7, .i x8, .i x9, .i x10, .i x11, .b r12, .b r13, .b r14])
          rw [hall_dn] at hr14
          refine ⟨fun hcond => ?_, fun hcond => ?_⟩
          ·
            have c9 : r14 = true := hcond
            clear hcond
            refine ⟨?_, ?_⟩
            ·
              show inv_PlanMirrors_8 s0 s1 s2 (IntKind.wrap .i64 (x8 + (1 : Int))) (bitv .or .u64 x9 (IntKind.wrap .u64 ((1 : Int) * 2 ^ (min (Int.toNat (IntKind.wrap .u64 (IntKind.wrap .i64 ((63 : Int) - x8)))) (IntKind.bits .u64))))) (bitv .or .u64 x10 (IntKind.wrap .u64 ((1 : Int) * 2 ^ (min (Int.toNat (IntKind.wrap .u64 (IntKind.wrap .i64 ((63 : Int) - x8)))) (IntKind.bits .u64))))) x11
              -- leaf 10 (back)
              have hlt := of_decide_eq_true c3
              rw [e1]
              refine ⟨by omega, by omega, ?_, ?_, ?_⟩
              · rw [j2]; first | exact (mir_yes j0 hlt (hr12.symm.trans (by assumption))).symm | exact (mir_no j0 hlt (hr12.symm.trans (by assumption))).symm
              · rw [j3]; first | exact (mir_yes j0 hlt (hr14.symm.trans (by assumption))).symm | exact (mir_no j0 hlt (hr14.symm.trans (by assumption))).symm
              · rw [j4]; first | exact (mir_yes j0 hlt (hr13.symm.trans (by assumption))).symm | exact (mir_no j0 hlt (hr13.symm.trans (by assumption))).symm
            ·
              show meas_PlanMirrors_8 s0 s1 s2 (IntKind.wrap .i64 (x8 + (1 : Int))) (bitv .or .u64 x9 (IntKind.wrap .u64 ((1 : Int) * 2 ^ (min (Int.toNat (IntKind.wrap .u64 (IntKind.wrap .i64 ((63 : Int) - x8)))) (IntKind.bits .u64))))) (bitv .or .u64 x10 (IntKind.wrap .u64 ((1 : Int) * 2 ^ (min (Int.toNat (IntKind.wrap .u64 (IntKind.wrap .i64 ((63 : Int) - x8)))) (IntKind.bits .u64))))) x11 < meas_PlanMirrors_8 s0 s1 s2 x8 x9 x10 x11
              -- leaf 11 (meas)
              have hlt := of_decide_eq_true c3
              unfold meas_PlanMirrors_8
              rw [e1]
              omega
          ·
            have c10 : r14 = false := hcond
            clear hcond
            refine ⟨?_, ?_⟩
            ·
              show inv_PlanMirrors_8 s0 s1 s2 (IntKind.wrap .i64 (x8 + (1 : Int))) (bitv .or .u64 x9 (IntKind.wrap .u64 ((1 : Int) * 2 ^ (min (Int.toNat (IntKind.wrap .u64 (IntKind.wrap .i64 ((63 : Int) - x8)))) (IntKind.bits .u64))))) x10 x11
              -- leaf 12 (back)
              have hlt := of_decide_eq_true c3
              rw [e1]
              refine ⟨by omega, by omega, ?_, ?_, ?_⟩
              · rw [j2]; first | exact (mir_yes j0 hlt (hr12.symm.trans (by assumption))).symm | exact (mir_no j0 hlt (hr12.symm.trans (by assumption))).symm
              · rw [j3]; first | exact (mir_yes j0 hlt (hr14.symm.trans (by assumption))).symm | exact (mir_no j0 hlt (hr14.symm.trans (by assumption))).symm
              · rw [j4]; first | exact (mir_yes j0 hlt (hr13.symm.trans (by assumption))).symm | exact (mir_no j0 hlt (hr13.symm.trans (by assumption))).symm
            ·
              show meas_PlanMirrors_8 s0 s1 s2 (IntKind.wrap .i64 (x8 + (1 : Int))) (bitv .or .u64 x9 (IntKind.wrap .u64 ((1 : Int) * 2 ^ (min (Int.toNat (IntKind.wrap .u64 (IntKind.wrap .i64 ((63 : Int) - x8)))) (IntKind.bits .u64))))) x10 x11 < meas_PlanMirrors_8 s0 s1 s2 x8 x9 x10 x11
              -- leaf 13 (meas)
              have hlt := of_decide_eq_true c3
              unfold meas_PlanMirrors_8
              rw [e1]
              omega
      ·
        have c11 : r12 = false := hcond
        clear hcond
        refine vg_call (C := C_hall) rfl rfl (xs := [.i s0, .i s1, .i s2, .i x8, .i (1 : Int)]) rfl (fun hg => ?_) (fun rs hrs => ?_)
        ·
          exact trivial
        obtain ⟨r13, hr13, rfl⟩ := hall_res hrs
        clear hrs
        change Fm.holds _ _ (lk [.i s0, .i s1, .i s2, .i fl, .i dir, .b r5, .i r6, .i r7, .i x8, .i x9, .i x10, .i x11, .b r12, .b r13])
        rw [hall_up] at hr13
        refine ⟨fun hcond => ?_, fun hcond => ?_⟩
        ·
          have c12 : r13 = true := hcond
          clear hcond
          refine ⟨fun hg => ?_, ?_⟩
          ·
            show (decide ((0 : Int) ≤ (IntKind.wrap .u64 (IntKind.wrap .i64 ((63 : Int) - x8))))) = true
            -- leaf 14 (ob)
            rw [wrap_u64]
            exact decide_eq_true (Int.emod_nonneg _ (by decide))
          refine vg_call (C := C_hall) rfl rfl (xs := [.i s0, .i s1, .i s2, .i x8, .i (-1)]) rfl (fun hg => ?_) (fun rs hrs => ?_)
          ·
            exact trivial
          obtain ⟨r14, hr14, rfl⟩ := hall_res hrs
          clear hrs
          change Fm.holds _ _ (lk [.i s0, .i s1, .i s2, .i fl, .i dir, .b r5, .i r6, .i r7, .i x8, .i x9, .i x10, .i x11, .b r12, .b r13, .b r14])
          rw [hall_dn] at hr14
          refine ⟨fun hcond => ?_, fun hcond => ?_⟩
          ·
            have c13 : r14 = true := hcond
            clear hcond
            refine ⟨?_, ?_⟩
            ·
              show inv_PlanMirrors_8 s0 s1 s2 (IntKind.wrap .i64 (x8 + (1 : Int))) x9 (bitv .or .u64 x10 (IntKind.wrap .u64 ((1 : Int) * 2 ^ (min (Int.toNat (IntKind.wrap .u64 (IntKind.wrap .i64 ((63 : Int) - x8)))) (IntKind.bits .u64))))) (bitv .or .u64 x11 (IntKind.wrap .u64 ((1 : Int) * 2 ^ (min (Int.toNat (IntKind.wrap .u64 (IntKind.wrap .i64 ((63 : Int) - x8)))) (IntKind.bits .u64)))))
              -- leaf 15 (back)
              have hlt := of_decide_eq_true c3
              rw [e1]
              refine ⟨by omega, by omega, ?_, ?_, ?_⟩
              · rw [j2]; first | exact (mir_yes j0 hlt (hr12.symm.trans (by assumption))).symm | exact (mir_no j0 hlt (hr12.symm.trans (by assumption))).symm
              · rw [j3]; first | exact (mir_yes j0 hlt (hr14.symm.trans (by assumption))).symm | exact (mir_no j0 hlt (hr14.symm.trans (by assumption))).symm
              · rw [j4]; first | exact (mir_yes j0 hlt (hr13.symm.trans (by assumption))).symm | exact (mir_no j0 hlt (hr13.symm.trans (by assumption))).symm
            ·
              show meas_PlanMirrors_8 s0 s1 s2 (IntKind.wrap .i64 (x8 + (1 : Int))) x9 (bitv .or .u64 x10 (IntKind.wrap .u64 ((1 : Int) * 2 ^ (min (Int.toNat (IntKind.wrap .u64 (IntKind.wrap .i64 ((63 : Int) - x8)))) (IntKind.bits .u64))))) (bitv .or .u64 x11 (IntKind.wrap .u64 ((1 : Int) * 2 ^ (min (Int.toNat (IntKind.wrap .u64 (IntKind.wrap .i64 ((63 : Int) - x8)))) (IntKind.bits .u64))))) < meas_PlanMirrors_8 s0 s1 s2 x8 x9 x10 x11
              -- leaf 16 (meas)
              have hlt := of_decide_eq_true c3
              unfold meas_PlanMirrors_8
              rw [e1]
              omega
          ·
            have c14 : r14 = false := hcond
            clear hcond
            refine ⟨?_, ?_⟩
            ·
              show inv_PlanMirrors_8 s0 s1 s2 (IntKind.wrap .i64 (x8 + (1 : Int))) x9 x10 (bitv .or .u64 x11 (IntKind.wrap .u64 ((1 : Int) * 2 ^ (min (Int.toNat (IntKind.wrap .u64 (IntKind.wrap .i64 ((63 : Int) - x8)))) (IntKind.bits .u64)))))
              -- leaf 17 (back)
              have hlt := of_decide_eq_true c3
              rw [e1]
              refine ⟨by omega, by omega, ?_, ?_, ?_⟩
              · rw [j2]; first | exact (mir_yes j0 hlt (hr12.symm.trans (by assumption))).symm | exact (mir_no j0 hlt (hr12.symm.trans (by assumption))).symm
              · rw [j3]; first | exact (mir_yes j0 hlt (hr14.symm.trans (by assumption))).symm | exact (mir_no j0 hlt (hr14.symm.trans (by assumption))).symm
              · rw [j4]; first | exact (mir_yes j0 hlt (hr13.symm.trans (by assumption))).symm | exact (mir_no j0 hlt (hr13.symm.trans (by assumption))).symm
            ·
              show meas_PlanMirrors_8 s0 s1 s2 (IntKind.wrap .i64 (x8 + (1 : Int))) x9 x10 (bitv .or .u64 x11 (IntKind.wrap .u64 ((1 : Int) * 2 ^ (min (Int.toNat (IntKind.wrap .u64 (IntKind.wrap .i64 ((63 : Int) - x8)))) (IntKind.bits .u64))))) < meas_PlanMirrors_8 s0 s1 s2 x8 x9 x10 x11
              -- leaf 18 (meas)
              have hlt := of_decide_eq_true c3
              unfold meas_PlanMirrors_8
              rw [e1]
              omega
        ·
          have c15 : r13 = false := hcond
          clear hcond
          refine vg_call (C := C_hall) rfl rfl (xs := [.i s0, .i s1, .i s2, .i x8, .i (-1)]) rfl (fun hg => ?_) (fun rs hrs => ?_)
          ·
            exact trivial
          obtain ⟨r14, hr14, rfl⟩ := hall_res hrs
          clear hrs
          change Fm.holds _ _ (lk [.i s0, .i s1, .i s2, .i fl, .i dir, .b r5, .i r6, .i r7, .i x8, .i x9, .i x10, .i x11, .b r12, .b r13, .b r14])
          rw [hall_dn] at hr14
          refine ⟨fun hcond => ?_, fun hcond => ?_⟩
          ·
            have c16 : r14 = true := hcond
            clear hcond
            refine ⟨fun hg => ?_, ?_⟩
            ·
              show (decide ((0 : Int) ≤ (IntKind.wrap .u64 (IntKind.wrap .i64 ((63 : Int) - x8))))) = true
              -- leaf 19 (ob)
              rw [wrap_u64]
              exact decide_eq_true (Int.emod_nonneg _ (by decide))
            refine ⟨?_, ?_⟩
            ·
              show inv_PlanMirrors_8 s0 s1 s2 (IntKind.wrap .i64 (x8 + (1 : Int))) x9 (bitv .or .u64 x10 (IntKind.wrap .u64 ((1 : Int) * 2 ^ (min (Int.toNat (IntKind.wrap .u64 (IntKind.wrap .i64 ((63 : Int) - x8)))) (IntKind.bits .u64))))) x11
              -- leaf 20 (back)
              have hlt := of_decide_eq_true c3
              rw [e1]
              refine ⟨by omega, by omega, ?_, ?_, ?_⟩
              · rw [j2]; first | exact (mir_yes j0 hlt (hr12.symm.trans (by assumption))).symm | exact (mir_no j0 hlt (hr12.symm.trans (by assumption))).symm
              · rw [j3]; first | exact (mir_yes j0 hlt (hr14.symm.trans (by assumption))).symm | exact (mir_no j0 hlt (hr14.symm.trans (by assumption))).symm
              · rw [j4]; first | exact (mir_yes j0 hlt (hr13.symm.trans (by assumption))).symm | exact (mir_no j0 hlt (hr13.symm.trans (by assumption))).symm
            ·
              show meas_PlanMirrors_8 s0 s1 s2 (IntKind.wrap .i64 (x8 + (1 : Int))) x9 (bitv .or .u64 x10 (IntKind.wrap .u64 ((1 : Int) * 2 ^ (min (Int.toNat (IntKind.wrap .u64 (IntKind.wrap .i64 ((63 : Int) - x8)))) (IntKind.bits .u64))))) x11 < meas_PlanMirrors_8 s0 s1 s2 x8 x9 x10 x11
              -- leaf 21 (meas)
              have hlt := of_decide_eq_true c3
              unfold meas_PlanMirrors_8
              rw [e1]
              omega
          ·
            have c17 : r14 = false := hcond
            clear hcond
            refine ⟨?_, ?_⟩
            ·
              show inv_PlanMirrors_8 s0 s1 s2 (IntKind.wrap .i64 (x8 + (1 : Int))) x9 x10 x11
              -- leaf 22 (back)
              have hlt := of_decide_eq_true c3
              rw [e1]
              refine ⟨by omega, by omega, ?_, ?_, ?_⟩
              · rw [j2]; first | exact (mir_yes j0 hlt (hr12.symm.trans (by assumption))).symm | exact (mir_no j0 hlt (hr12.symm.trans (by assumption))).symm
              · rw [j3]; first | exact (mir_yes j0 hlt (hr14.symm.trans (by assumption))).symm | exact (mir_no j0 hlt (hr14.symm.trans (by assumption))).symm
              · rw [j4]; first | exact (mir_yes j0 hlt (hr13.symm.trans (by assumption))).symm | exact (mir_no j0 hlt (hr13.symm.trans (by assumption))).symm
            ·
              show meas_PlanMirrors_8 s0 s1 s2 (IntKind.wrap .i64 (x8 + (1 : Int))) x9 x10 x11 < meas_PlanMirrors_8 s0 s1 s2 x8 x9 x10 x11
              -- leaf 23 (meas)
              have hlt := of_decide_eq_true c3
              unfold meas_PlanMirrors_8
              rw [e1]
              omega
    ·
      have c18 : (decide (x8 < (64 : Int))) = false := hcond
      clear hcond
      refine vg_call (C := C_planat) rfl rfl (xs := [.i s0, .i s1, .i s2, .i r6, .i (IntKind.wrap .i64 ((IntKind.wrap .i64 ((2 : Int) * r7)) - (1 : Int)))]) rfl (fun hg => ?_) (fun rs hrs => ?_)
      ·
        exact trivial
      obtain ⟨r12, r13, r14, hr12, hr13, hr14, rfl⟩ := planat_res hrs
      clear hrs
      change Fm.holds _ _ (lk [.i s0, .i s1, .i s2, .i fl, .i dir, .b r5, .i r6, .i r7, .i x8, .i x9, .i x10, .i x11, .b r12, .i r13, .i r14])
      refine vg_call (C := C_planat) rfl rfl (xs := [.i x9, .i x10, .i x11, .i (IntKind.wrap .i64 ((63 : Int) - r6)), .i (IntKind.wrap .i64 ((0 : Int) - (IntKind.wrap .i64 ((IntKind.wrap .i64 ((2 : Int) * r7)) - (1 : Int)))))]) rfl (fun hg => ?_) (fun rs hrs => ?_)
      ·
        exact trivial
      obtain ⟨r15, r16, r17, hr15, hr16, hr17, rfl⟩ := planat_res hrs
      clear hrs
      change Fm.holds _ _ (lk [.i s0, .i s1, .i s2, .i fl, .i dir, .b r5, .i r6, .i r7, .i x8, .i x9, .i x10, .i x11, .b r12, .i r13, .i r14, .b r15, .i r16, .i r17])
      suffices hfin : ((if (if (r12 == r15) = true then (r13 == (IntKind.wrap .i64 ((0 : Int) - r16))) else false) = true then (r14 == (IntKind.wrap .i64 ((0 : Int) - r17))) else false)) = (true) from (c_b hfin rfl)
      -- leaf 24 (ret)
      have hlt := of_decide_eq_false c18
      have h64 : x8.toNat = 64 := by omega
      rw [h64] at j2 j3 j4
      have e2 : IntKind.wrap .i64 (63 - r6) = 63 - r6 := wrap_in (by omega) (by omega)
      have e3 : IntKind.wrap .i64 (0 - (2 * r7 - 1)) = -(2 * r7 - 1) := by rw [wrap_in (by omega) (by omega)]; omega
      rw [ed] at hr12 hr13 hr14
      rw [ed, e2, e3, j2, j3, j4] at hr15 hr16 hr17
      have ok1 : okP r6 (2 * r7 - 1) = true := okP_iff.2 ⟨by omega, by omega⟩
      have ok2 : okP (63 - r6) (-(2 * r7 - 1)) = true := okP_iff.2 ⟨by omega, by omega⟩
      have ht := mir_turn (c := s0) (u := s1) (d := s2) (n := r6) (x := 2 * r7 - 1) (by omega)
      have hi := mir_isb (b := s0) (n := 63 - r6)
      rw [show 63 - (63 - r6) = r6 by omega] at hi
      simp only [stopP, dirP, moveP, ok1, Bool.true_and, if_true] at hr12 hr13 hr14
      simp only [stopP, dirP, moveP, ok2, Bool.true_and, if_true, ht, hi, mir_hall] at hr15 hr16 hr17
      have hr : -1 ≤ turn s0 s1 s2 r6 (2 * r7 - 1) ∧ turn s0 s1 s2 r6 (2 * r7 - 1) ≤ 1 := by
        unfold turn
        have e0 : (2 * r7 - 1 == 0) = false := by simp; omega
        rw [e0]
        cases way s0 s1 s2 r6 (2 * r7 - 1) <;> cases way s0 s1 s2 r6 (-(2 * r7 - 1)) <;> simp <;> omega
      have e4 : IntKind.wrap .i64 (0 - r16) = -r16 := by rw [wrap_in (by omega) (by omega)]; omega
      have hm : r14 = -r17 ∧ -1 ≤ r17 ∧ r17 ≤ 1 := by
        rw [hr14, hr17]
        cases (isb s0 r6 || hallb s1 s2 r6 (turn s0 s1 s2 r6 (2 * r7 - 1))) <;> simp <;> omega
      have e5 : IntKind.wrap .i64 (0 - r17) = -r17 := by rw [wrap_in (by omega) (by omega)]; omega
      rw [e4, e5, hm.1, hr12, hr15, hr13, hr16]
      simp
end Go.Proofs.YtppnpmpocnpgaaaDoor
