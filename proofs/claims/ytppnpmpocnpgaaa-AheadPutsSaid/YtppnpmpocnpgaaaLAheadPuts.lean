import Derived.Test.YtppnpmpocnpgaaaVAheadPuts
namespace Go.Proofs.Ytppnpmpocnpgaaa
open Go.Vg
set_option linter.unusedVariables false
set_option linter.unusedSimpArgs false


theorem AheadPuts_sound : C_AheadPuts.Sound Try.prog G 3 := by
  refine fn_ok mixed stable tbl_AheadPuts [⟨9, [4, 9, 43, 44, 45, 46, 47, 48, 49, 50, 51, 52, 53, 54, 55, 56, 57, 58, 59, 60, 61, 62, 63, 64, 65, 66, 67, 68, 69, 70, 71, 72, 73, 74, 75, 76, 77, 78], [8], [], []⟩, ⟨12, [4, 47, 48, 49, 50, 51, 52, 53, 54, 55, 56, 57, 58, 59, 60, 61, 62, 63, 64, 65, 66, 67, 68, 69, 70, 71], [9], [], []⟩] Try.func3 (by kernel_rfl) phi_AheadPuts vc_AheadPuts ⟨first14_sound, put_sound, hall_sound, at_sound, trivial⟩ inv_AheadPuts meas_AheadPuts ?_
  intro ls hp
  obtain ⟨s0, s1, s2, fl, dir, rfl, hpre⟩ := AheadPuts_pre hp
  clear hp
  rw [envOf_lk]
  unfold phi_AheadPuts
  refine vg_call (C := C_first14) rfl rfl (xs := []) rfl (fun hg => ?_) (fun rs hrs => ?_)
  ·
    exact trivial
  obtain ⟨r5, hr5, rfl⟩ := first14_res hrs
  clear hrs
  change Fm.holds _ _ (lk [.i s0, .i s1, .i s2, .i fl, .i dir, .b r5])
  refine ⟨fun hcond => ?_, fun hcond => ?_⟩
  ·
    have c1 : r5 = false := hcond
    clear hcond
    suffices hfin : (false) = (true) from (c_b hfin rfl)
    -- leaf 1 (ret)
    simp_all
  ·
    have c2 : r5 = true := hcond
    clear hcond
    refine vg_call (C := C_put) rfl rfl (xs := [.i s0, .i s1, .i s2, .i fl, .i dir]) rfl (fun hg => ?_) (fun rs hrs => ?_)
    ·
      exact trivial
    obtain ⟨r6, r7, r8, hr6, hr7, hr8, rfl⟩ := put_res hrs
    clear hrs
    change Fm.holds _ _ (lk [.i s0, .i s1, .i s2, .i fl, .i dir, .b r5, .i r6, .i r7, .i r8])
    refine vg_call (C := C_hall) rfl rfl (xs := [.i r6, .i r7, .i r8, .i fl, .i dir]) rfl (fun hg => ?_) (fun rs hrs => ?_)
    ·
      exact trivial
    obtain ⟨r9, hr9, rfl⟩ := hall_res hrs
    clear hrs
    change Fm.holds _ _ (lk [.i s0, .i s1, .i s2, .i fl, .i dir, .b r5, .i r6, .i r7, .i r8, .b r9])
    rw [hr7, hr8, hall_put, hall_self] at hr9
    refine ⟨fun hcond => ?_, fun hcond => ?_⟩
    ·
      have c3 : (r9 == (if (if (decide ((0 : Int) ≤ fl)) = true then (decide (fl < (64 : Int))) else false) = true then (if (dir == (1 : Int)) = true then true else (dir == (-1))) else false)) = false := hcond
      clear hcond
      suffices hfin : (false) = (true) from (c_b hfin rfl)
      -- leaf 2 (ret)
      have e : okf fl = (if decide (0 ≤ fl) = true then decide (fl < 64) else false) := by unfold okf; cases decide (0 ≤ fl) <;> rfl
      rw [← e, hr9] at c3
      revert c3
      cases okf fl <;> cases (dir == 1) <;> cases (dir == -1) <;> simp
    ·
      have c4 : (r9 == (if (if (decide ((0 : Int) ≤ fl)) = true then (decide (fl < (64 : Int))) else false) = true then (if (dir == (1 : Int)) = true then true else (dir == (-1))) else false)) = true := hcond
      clear hcond
      refine vg_loop rfl ?_ (fun xs hfit hi => ?_)
      ·
        show inv_AheadPuts_9  (0 : Int)
        -- leaf 3 (init)
        exact ⟨by omega, by omega⟩
      obtain ⟨x10, xs0, rfl, hfit0⟩ := fits_i hfit
      obtain rfl := fits_nil hfit0
      clear hfit hfit0
      replace hi : inv_AheadPuts_9  x10 := hi
      have hi9 := hi; clear hi
      change Fm.holds _ _ (lk [.i s0, .i s1, .i s2, .i fl, .i dir, .b r5, .i r6, .i r7, .i r8, .b r9, .i x10])
      obtain ⟨i0, i1⟩ := hi9
      refine ⟨fun hcond => ?_, fun hcond => ?_⟩
      ·
        have c5 : (decide (x10 < (64 : Int))) = true := hcond
        clear hcond
        refine vg_loop rfl ?_ (fun xs hfit hi => ?_)
        ·
          show inv_AheadPuts_12  (-1)
          -- leaf 4 (init)
          exact ⟨by omega, by omega⟩
        obtain ⟨x11, xs0, rfl, hfit0⟩ := fits_i hfit
        obtain rfl := fits_nil hfit0
        clear hfit hfit0
        replace hi : inv_AheadPuts_12  x11 := hi
        have hi12 := hi; clear hi
        change Fm.holds _ _ (lk [.i s0, .i s1, .i s2, .i fl, .i dir, .b r5, .i r6, .i r7, .i r8, .b r9, .i x10, .i x11])
        obtain ⟨k0, k1⟩ := hi12
        refine ⟨fun hcond => ?_, fun hcond => ?_⟩
        ·
          have c6 : (decide (x11 ≤ (1 : Int))) = true := hcond
          clear hcond
          refine vg_call (C := C_hall) rfl rfl (xs := [.i r6, .i r7, .i r8, .i x10, .i x11]) rfl (fun hg => ?_) (fun rs hrs => ?_)
          ·
            exact trivial
          obtain ⟨r12, hr12, rfl⟩ := hall_res hrs
          clear hrs
          change Fm.holds _ _ (lk [.i s0, .i s1, .i s2, .i fl, .i dir, .b r5, .i r6, .i r7, .i r8, .b r9, .i x10, .i x11, .b r12])
          refine vg_call (C := C_hall) rfl rfl (xs := [.i s0, .i s1, .i s2, .i x10, .i x11]) rfl (fun hg => ?_) (fun rs hrs => ?_)
          ·
            exact trivial
          obtain ⟨r13, hr13, rfl⟩ := hall_res hrs
          clear hrs
          change Fm.holds _ _ (lk [.i s0, .i s1, .i s2, .i fl, .i dir, .b r5, .i r6, .i r7, .i r8, .b r9, .i x10, .i x11, .b r12, .b r13])
          refine ⟨fun hcond => ?_, fun hcond => ?_⟩
          ·
            have c7 : (if (if (!(x10 == fl)) = true then true else (!(x11 == dir))) = true then (!(r12 == r13)) else false) = true := hcond
            clear hcond
            suffices hfin : (false) = (true) from (c_b hfin rfl)
            -- leaf 5 (ret)
            rw [hr7, hr8, hall_put] at hr12
            rw [hr12, hr13] at c7
            by_cases h1 : x10 = fl
            · by_cases h2 : x11 = dir
              · subst h1 h2; simp at c7
              · have : (x11 == dir) = false := by simp [h2]
                simp [this] at c7
            · simp [h1] at c7
          ·
            have c8 : (if (if (!(x10 == fl)) = true then true else (!(x11 == dir))) = true then (!(r12 == r13)) else false) = false := hcond
            clear hcond
            refine ⟨?_, ?_⟩
            ·
              show inv_AheadPuts_12  (IntKind.wrap .i64 (x11 + (1 : Int)))
              -- leaf 6 (back)
              have hlt := of_decide_eq_true c6
              rw [wrap_in (by omega) (by omega)]
              exact ⟨by omega, by omega⟩
            ·
              show meas_AheadPuts_12  (IntKind.wrap .i64 (x11 + (1 : Int))) < meas_AheadPuts_12  x11
              -- leaf 7 (meas)
              have hlt := of_decide_eq_true c6
              unfold meas_AheadPuts_12
              rw [wrap_in (by omega) (by omega)]
              omega
        ·
          have c9 : (decide (x11 ≤ (1 : Int))) = false := hcond
          clear hcond
          refine vg_call (C := C_at) rfl rfl (xs := [.i r6, .i r7, .i r8, .i x10]) rfl (fun hg => ?_) (fun rs hrs => ?_)
          ·
            exact trivial
          obtain ⟨r12, hr12, rfl⟩ := at_res hrs
          clear hrs
          change Fm.holds _ _ (lk [.i s0, .i s1, .i s2, .i fl, .i dir, .b r5, .i r6, .i r7, .i r8, .b r9, .i x10, .i x11, .b r12])
          refine vg_call (C := C_at) rfl rfl (xs := [.i s0, .i s1, .i s2, .i x10]) rfl (fun hg => ?_) (fun rs hrs => ?_)
          ·
            exact trivial
          obtain ⟨r13, hr13, rfl⟩ := at_res hrs
          clear hrs
          change Fm.holds _ _ (lk [.i s0, .i s1, .i s2, .i fl, .i dir, .b r5, .i r6, .i r7, .i r8, .b r9, .i x10, .i x11, .b r12, .b r13])
          refine ⟨fun hcond => ?_, fun hcond => ?_⟩
          ·
            have c10 : (r12 == r13) = false := hcond
            clear hcond
            suffices hfin : (false) = (true) from (c_b hfin rfl)
            -- leaf 8 (ret)
            rw [hr12, hr13, hr6] at c10
            simp at c10
          ·
            have c11 : (r12 == r13) = true := hcond
            clear hcond
            refine ⟨?_, ?_⟩
            ·
              show inv_AheadPuts_9  (IntKind.wrap .i64 (x10 + (1 : Int)))
              -- leaf 9 (back)
              have hlt := of_decide_eq_true c5
              rw [wrap_in (by omega) (by omega)]
              exact ⟨by omega, by omega⟩
            ·
              show meas_AheadPuts_9  (IntKind.wrap .i64 (x10 + (1 : Int))) < meas_AheadPuts_9  x10
              -- leaf 10 (meas)
              have hlt := of_decide_eq_true c5
              unfold meas_AheadPuts_9
              rw [wrap_in (by omega) (by omega)]
              omega
      ·
        have c12 : (decide (x10 < (64 : Int))) = false := hcond
        clear hcond
        refine vg_call (C := C_put) rfl rfl (xs := [.i r6, .i r7, .i r8, .i fl, .i dir]) rfl (fun hg => ?_) (fun rs hrs => ?_)
        ·
          exact trivial
        obtain ⟨r11, r12, r13, hr11, hr12, hr13, rfl⟩ := put_res hrs
        clear hrs
        change Fm.holds _ _ (lk [.i s0, .i s1, .i s2, .i fl, .i dir, .b r5, .i r6, .i r7, .i r8, .b r9, .i x10, .i r11, .i r12, .i r13])
        refine vg_call (C := C_hall) rfl rfl (xs := [.i s0, .i s1, .i s2, .i (3 : Int), .i (0 : Int)]) rfl (fun hg => ?_) (fun rs hrs => ?_)
        ·
          exact trivial
        obtain ⟨r14, hr14, rfl⟩ := hall_res hrs
        clear hrs
        change Fm.holds _ _ (lk [.i s0, .i s1, .i s2, .i fl, .i dir, .b r5, .i r6, .i r7, .i r8, .b r9, .i x10, .i r11, .i r12, .i r13, .b r14])
        suffices hfin : ((if (if (if (if r5 = true then (r12 == r7) else false) = true then (r13 == r8) else false) = true then (r11 == r6) else false) = true then (!r14) else false)) = (true) from (c_b hfin rfl)
        -- leaf 11 (ret)
        rw [hr7, put1_twice] at hr12
        rw [hr8, put1_twice] at hr13
        have h14 : hallb s1 s2 3 0 = false := by simp [hallb]
        rw [hr12, hr13, hr11, hr14, hr7, hr8, hr6, hr5, h14]
        simp
end Go.Proofs.Ytppnpmpocnpgaaa
