import Derived.Test.YtppnpmpocnpgaaaDoorVPlanSweeps
namespace Go.Proofs.YtppnpmpocnpgaaaDoor
open Go.Vg
set_option linter.unusedVariables false
set_option linter.unusedSimpArgs false
open Go


theorem PlanSweeps_sound : C_PlanSweeps.Sound Tryd.prog G 11 := by
  refine fn_ok mixed stable tbl_PlanSweeps [⟨10, [6, 10, 11, 12, 29, 30, 31, 32, 33, 34, 35, 36, 37, 38, 39, 40, 41, 42, 43, 44, 45, 46, 47, 48, 49, 50, 51, 52, 53, 54, 55, 56, 57, 58, 59, 60, 61, 62, 63, 64, 65, 66, 67, 68, 69, 70, 71, 72, 73, 74, 75, 76, 77, 78, 79, 80, 81, 82, 83, 84, 85, 86, 87, 88, 89, 90, 91, 92, 93, 94, 95, 96, 97, 98, 99, 100, 101, 102, 103, 104, 105, 106, 107, 108, 109, 110, 111, 112, 113, 114, 115, 116, 117, 118, 119, 120, 121, 122, 123, 124, 125, 126, 127, 128, 129, 130, 131, 132], [1, 2, 8, 9], [(0, 0), (0, 1), (0, 2)], [], some (3, .i64)⟩] Tryd.func11 (by kernel_rfl) phi_PlanSweeps vc_PlanSweeps ⟨number_sound, floors_sound, first15_sound, planat_sound, trivial⟩ inv_PlanSweeps meas_PlanSweeps ?_
  intro ls hp
  obtain ⟨s0, s1, s2, fl, dir, rfl, hpre⟩ := PlanSweeps_pre hp
  clear hp
  rw [envOf_lk]
  unfold phi_PlanSweeps
  refine vg_call (C := C_first15) rfl rfl (xs := []) rfl (fun hg => ?_) (fun rs hrs => ?_)
  ·
    exact trivial
  obtain ⟨r5, hr5, rfl⟩ := first15_res hrs
  clear hrs
  change Fm.holds _ _ (lk [.i s0, .i s1, .i s2, .i fl, .i dir, .b r5])
  refine ⟨fun hcond => ?_, fun hcond => ?_⟩
  ·
    have c1 : r5 = false := hcond
    clear hcond
    suffices hfin : (false) = (true) from (c_b hfin rfl)
    -- leaf 1 (ret)
    simp_all
  ·
    have c2 : r5 = true := hcond
    clear hcond
    refine vg_call (C := C_number) rfl rfl (xs := [.i fl, .i (64 : Int)]) rfl (fun hg => ?_) (fun rs hrs => ?_)
    ·
      refine number_mk ?_
      -- leaf 2 (pre)
      omega
    obtain ⟨r6, hr6, rfl⟩ := number_res hrs
    clear hrs
    change Fm.holds _ _ (lk [.i s0, .i s1, .i s2, .i fl, .i dir, .b r5, .i r6])
    refine vg_call (C := C_number) rfl rfl (xs := [.i dir, .i (3 : Int)]) rfl (fun hg => ?_) (fun rs hrs => ?_)
    ·
      refine number_mk ?_
      -- leaf 3 (pre)
      omega
    obtain ⟨r7, hr7, rfl⟩ := number_res hrs
    clear hrs
    change Fm.holds _ _ (lk [.i s0, .i s1, .i s2, .i fl, .i dir, .b r5, .i r6, .i r7])
    refine vg_loop rfl ?_ (fun xs hfit hi => ?_)
    ·
      show inv_PlanSweeps_10  r6 (IntKind.wrap .i64 (r7 - (1 : Int))) (0 : Int) (0 : Int) s0 (bitv .andNot .u64 s1 (9223372036854775808 : Int)) (bitv .andNot .u64 s2 (1 : Int))
      -- leaf 4 (init)
      have n1 := number_range fl (b := 64) (by omega)
      have n2 := number_range dir (b := 3) (by omega)
      rw [← hr6] at n1
      rw [← hr7] at n2
      show SW _ _ _ _ _ _ _
      rw [wrap_in (n := r7 - 1) (by omega) (by omega)]
      exact sw_start (by omega) (by omega) (by omega) (by omega)
    obtain ⟨x8, xs0, rfl, hfit0⟩ := fits_i hfit
    obtain ⟨x9, xs1, rfl, hfit1⟩ := fits_i hfit0
    obtain ⟨x10, xs2, rfl, hfit2⟩ := fits_i hfit1
    obtain ⟨x11, xs3, rfl, hfit3⟩ := fits_i hfit2
    obtain ⟨x12, xs4, rfl, hfit4⟩ := fits_i hfit3
    obtain ⟨x13, xs5, rfl, hfit5⟩ := fits_i hfit4
    obtain ⟨x14, xs6, rfl, hfit6⟩ := fits_i hfit5
    obtain rfl := fits_nil hfit6
    clear hfit hfit0 hfit1 hfit2 hfit3 hfit4 hfit5 hfit6
    replace hi : inv_PlanSweeps_10  x8 x9 x10 x11 x12 x13 x14 := hi
    have hi10 := hi; clear hi
    change Fm.holds _ _ (lk [.i s0, .i s1, .i s2, .i fl, .i dir, .b r5, .i r6, .i r7, .i x8, .i x9, .i x10, .i x11, .i x12, .i x13, .i x14])
    have hsw : SW x12 x13 x14 x8 x9 x10 x11 := hi10
    obtain ⟨b0, b1, b2, b3, b4, b5, b6, b7, _⟩ := id hsw
    have e11 : IntKind.wrap .i64 (x11 + 1) = x11 + 1 := wrap_in (by omega) (by omega)
    have e10 : IntKind.wrap .i64 (x10 + 1) = x10 + 1 := wrap_in (by omega) (by omega)
    have e9 : IntKind.wrap .i64 (0 - x9) = -x9 := by rw [wrap_in (by omega) (by omega)]; omega
    have e8 : IntKind.wrap .u64 x8 = x8 := by rw [wrap_u64]; omega
    have eX : ∀ a, bitv .andNot .u64 a (IntKind.wrap .u64 ((1 : Int) * 2 ^ (min (Int.toNat (IntKind.wrap .u64 x8)) (IntKind.bits .u64)))) = clr a x8 := fun a => by rw [e8, bv_shl, B_one, bv_andNot]; rfl
    have hok : okP x8 x9 = true := okP_iff.2 (by omega)
    refine ⟨fun hcond => ?_, fun hcond => ?_⟩
    ·
      have c3 : (decide (x11 < (600 : Int))) = true := hcond
      clear hcond
      refine vg_call (C := C_planat) rfl rfl (xs := [.i x12, .i x13, .i x14, .i x8, .i x9]) rfl (fun hg => ?_) (fun rs hrs => ?_)
      ·
        exact trivial
      obtain ⟨r15, r16, r17, hr15, hr16, hr17, rfl⟩ := planat_res hrs
      clear hrs
      change Fm.holds _ _ (lk [.i s0, .i s1, .i s2, .i fl, .i dir, .b r5, .i r6, .i r7, .i x8, .i x9, .i x10, .i x11, .i x12, .i x13, .i x14, .b r15, .i r16, .i r17])
      simp only [stopP, dirP, moveP, hok, Bool.true_and, if_true] at hr15 hr16 hr17
      rw [← hr16] at hr15 hr17
      rw [← hr15] at hr17
      have hT := turn_range (c := x12) (u := x13) (d := x14) (n := x8) (dir := x9) ⟨b2, b3⟩
      have hst := sw_stop hsw
      have hgo := sw_go hsw
      have hen := sw_end hsw
      rw [← hr16] at hT hst hgo hen
      refine ⟨fun hcond => ?_, fun hcond => ?_⟩
      ·
        have c4 : (if (!(x9 == (0 : Int))) = true then (r16 == (IntKind.wrap .i64 ((0 : Int) - x9))) else false) = true := hcond
        clear hcond
        have htn : tnP x9 r16 x10 = x10 + 1 := by
          have : x9 ≠ 0 ∧ r16 = -x9 := by
            rw [e9] at c4
            revert c4
            cases h : (x9 == 0)
            · rw [beq_eq_false_iff_ne] at h
              simp
              exact fun h' => ⟨h, h'⟩
            · simp
          unfold tnP
          rw [if_pos this]
        rw [htn] at hst hgo
        refine ⟨fun hcond => ?_, fun hcond => ?_⟩
        ·
          have c5 : r15 = true := hcond
          clear hcond
          have hstop : isb x12 x8 = true ∨ hallb x13 x14 x8 r16 = true := by
            rw [c5] at hr15
            simpa using hr15.symm
          have hst := hst hstop
          have hany : anyb x12 x13 x14 x8 = true := any_iff.2 (by
            have : r16 = 1 ∨ r16 = -1 ∨ r16 = 0 := by omega
            rcases hstop with h | h
            · exact .inl h
            · rcases this with e | e | e
              · rw [e] at h; exact .inr (.inl h)
              · rw [e] at h; exact .inr (.inr h)
              · rw [e, hallb_zero] at h; cases h)
          refine vg_call (C := C_floors) rfl rfl (xs := [.i x12, .i x13, .i x14]) rfl (fun hg => ?_) (fun rs hrs => ?_)
          ·
            exact trivial
          obtain ⟨r18, hr18, rfl⟩ := floors_res hrs
          clear hrs
          change Fm.holds _ _ (lk [.i s0, .i s1, .i s2, .i fl, .i dir, .b r5, .i r6, .i r7, .i x8, .i x9, .i x10, .i x11, .i x12, .i x13, .i x14, .b r15, .i r16, .i r17, .l r18])
          refine ⟨fun hg => ?_, ?_⟩
          ·
            show (decide ((0 : Int) ≤ (IntKind.wrap .u64 x8))) = true
            -- leaf 5 (ob)
            rw [e8]
            exact decide_eq_true b0
          refine ⟨fun hcond => ?_, fun hcond => ?_⟩
          ·
            have c6 : (decide ((0 : Int) < r16)) = true := hcond
            clear hcond
            refine ⟨fun hcond => ?_, fun hcond => ?_⟩
            ·
              have c7 : (decide (r16 < (0 : Int))) = true := hcond
              clear hcond
              refine ⟨fun hcond => ?_, fun hcond => ?_⟩
              ·
                have c8 : (if (if (if ((bitv .andNot .u64 x12 (IntKind.wrap .u64 ((1 : Int) * 2 ^ (min (Int.toNat (IntKind.wrap .u64 x8)) (IntKind.bits .u64))))) == x12) = true then ((bitv .andNot .u64 x13 (IntKind.wrap .u64 ((1 : Int) * 2 ^ (min (Int.toNat (IntKind.wrap .u64 x8)) (IntKind.bits .u64))))) == x13) else false) = true then ((bitv .andNot .u64 x14 (IntKind.wrap .u64 ((1 : Int) * 2 ^ (min (Int.toNat (IntKind.wrap .u64 x8)) (IntKind.bits .u64))))) == x14) else false) = true then true else ((r18.len : Int) == (0 : Int))) = true := hcond
                clear hcond
                suffices hfin : (false) = (true) from (c_b hfin rfl)
                -- leaf 6 (ret)
                have h1 := of_decide_eq_true c6
                have h2 := of_decide_eq_true c7
                omega
              ·
                have c9 : (if (if (if ((bitv .andNot .u64 x12 (IntKind.wrap .u64 ((1 : Int) * 2 ^ (min (Int.toNat (IntKind.wrap .u64 x8)) (IntKind.bits .u64))))) == x12) = true then ((bitv .andNot .u64 x13 (IntKind.wrap .u64 ((1 : Int) * 2 ^ (min (Int.toNat (IntKind.wrap .u64 x8)) (IntKind.bits .u64))))) == x13) else false) = true then ((bitv .andNot .u64 x14 (IntKind.wrap .u64 ((1 : Int) * 2 ^ (min (Int.toNat (IntKind.wrap .u64 x8)) (IntKind.bits .u64))))) == x14) else false) = true then true else ((r18.len : Int) == (0 : Int))) = false := hcond
                clear hcond
                refine ⟨?_, ?_⟩
                ·
                  show inv_PlanSweeps_10  x8 r16 (IntKind.wrap .i64 (x10 + (1 : Int))) (IntKind.wrap .i64 (x11 + (1 : Int))) (bitv .andNot .u64 x12 (IntKind.wrap .u64 ((1 : Int) * 2 ^ (min (Int.toNat (IntKind.wrap .u64 x8)) (IntKind.bits .u64))))) (bitv .andNot .u64 x13 (IntKind.wrap .u64 ((1 : Int) * 2 ^ (min (Int.toNat (IntKind.wrap .u64 x8)) (IntKind.bits .u64))))) (bitv .andNot .u64 x14 (IntKind.wrap .u64 ((1 : Int) * 2 ^ (min (Int.toNat (IntKind.wrap .u64 x8)) (IntKind.bits .u64)))))
                  -- leaf 7 (back)
                  have h1 := of_decide_eq_true c6
                  have h2 := of_decide_eq_true c7
                  omega
                ·
                  show meas_PlanSweeps_10  x8 r16 (IntKind.wrap .i64 (x10 + (1 : Int))) (IntKind.wrap .i64 (x11 + (1 : Int))) (bitv .andNot .u64 x12 (IntKind.wrap .u64 ((1 : Int) * 2 ^ (min (Int.toNat (IntKind.wrap .u64 x8)) (IntKind.bits .u64))))) (bitv .andNot .u64 x13 (IntKind.wrap .u64 ((1 : Int) * 2 ^ (min (Int.toNat (IntKind.wrap .u64 x8)) (IntKind.bits .u64))))) (bitv .andNot .u64 x14 (IntKind.wrap .u64 ((1 : Int) * 2 ^ (min (Int.toNat (IntKind.wrap .u64 x8)) (IntKind.bits .u64))))) < meas_PlanSweeps_10  x8 x9 x10 x11 x12 x13 x14
                  -- leaf 8 (meas)
                  have h1 := of_decide_eq_true c6
                  have h2 := of_decide_eq_true c7
                  omega
            ·
              have c10 : (decide (r16 < (0 : Int))) = false := hcond
              clear hcond
              refine ⟨fun hcond => ?_, fun hcond => ?_⟩
              ·
                have c11 : (if (if (if ((bitv .andNot .u64 x12 (IntKind.wrap .u64 ((1 : Int) * 2 ^ (min (Int.toNat (IntKind.wrap .u64 x8)) (IntKind.bits .u64))))) == x12) = true then ((bitv .andNot .u64 x13 (IntKind.wrap .u64 ((1 : Int) * 2 ^ (min (Int.toNat (IntKind.wrap .u64 x8)) (IntKind.bits .u64))))) == x13) else false) = true then (x14 == x14) else false) = true then true else ((r18.len : Int) == (0 : Int))) = true := hcond
                clear hcond
                suffices hfin : (false) = (true) from (c_b hfin rfl)
                -- leaf 9 (ret)
                have hl : ((r18.len : Int) == 0) = false := by
                  rw [beq_eq_false_iff_ne, hr18]
                  have := flo_some hany
                  omega
                have g6 := of_decide_eq_true c6
                have g10 := of_decide_eq_false c10
                try simp only [eX] at c11
                rw [hl] at c11
                rcases hstop with h | h
                · rw [clr_ne b0 b1 h] at c11
                  simp at c11
                · have e : r16 = 1 := by omega
                  rw [e, hallb_up] at h
                  rw [clr_ne b0 b1 h] at c11
                  simp at c11
              ·
                have c12 : (if (if (if ((bitv .andNot .u64 x12 (IntKind.wrap .u64 ((1 : Int) * 2 ^ (min (Int.toNat (IntKind.wrap .u64 x8)) (IntKind.bits .u64))))) == x12) = true then ((bitv .andNot .u64 x13 (IntKind.wrap .u64 ((1 : Int) * 2 ^ (min (Int.toNat (IntKind.wrap .u64 x8)) (IntKind.bits .u64))))) == x13) else false) = true then (x14 == x14) else false) = true then true else ((r18.len : Int) == (0 : Int))) = false := hcond
                clear hcond
                refine ⟨?_, ?_⟩
                ·
                  show inv_PlanSweeps_10  x8 r16 (IntKind.wrap .i64 (x10 + (1 : Int))) (IntKind.wrap .i64 (x11 + (1 : Int))) (bitv .andNot .u64 x12 (IntKind.wrap .u64 ((1 : Int) * 2 ^ (min (Int.toNat (IntKind.wrap .u64 x8)) (IntKind.bits .u64))))) (bitv .andNot .u64 x13 (IntKind.wrap .u64 ((1 : Int) * 2 ^ (min (Int.toNat (IntKind.wrap .u64 x8)) (IntKind.bits .u64))))) x14
                  -- leaf 10 (back)
                  have g6 := of_decide_eq_true c6
                  have g10 := of_decide_eq_false c10
                  show SW _ _ _ _ _ _ _
                  rw [if_pos (by omega), if_neg (by omega)] at hst
                  try simp only [eX]
                  try rw [e10]
                  rw [e11]
                  exact hst
                ·
                  show meas_PlanSweeps_10  x8 r16 (IntKind.wrap .i64 (x10 + (1 : Int))) (IntKind.wrap .i64 (x11 + (1 : Int))) (bitv .andNot .u64 x12 (IntKind.wrap .u64 ((1 : Int) * 2 ^ (min (Int.toNat (IntKind.wrap .u64 x8)) (IntKind.bits .u64))))) (bitv .andNot .u64 x13 (IntKind.wrap .u64 ((1 : Int) * 2 ^ (min (Int.toNat (IntKind.wrap .u64 x8)) (IntKind.bits .u64))))) x14 < meas_PlanSweeps_10  x8 x9 x10 x11 x12 x13 x14
                  -- leaf 11 (meas)
                  unfold meas_PlanSweeps_10
                  rw [e11]
                  omega
          ·
            have c13 : (decide ((0 : Int) < r16)) = false := hcond
            clear hcond
            refine ⟨fun hcond => ?_, fun hcond => ?_⟩
            ·
              have c14 : (decide (r16 < (0 : Int))) = true := hcond
              clear hcond
              refine ⟨fun hcond => ?_, fun hcond => ?_⟩
              ·
                have c15 : (if (if (if ((bitv .andNot .u64 x12 (IntKind.wrap .u64 ((1 : Int) * 2 ^ (min (Int.toNat (IntKind.wrap .u64 x8)) (IntKind.bits .u64))))) == x12) = true then (x13 == x13) else false) = true then ((bitv .andNot .u64 x14 (IntKind.wrap .u64 ((1 : Int) * 2 ^ (min (Int.toNat (IntKind.wrap .u64 x8)) (IntKind.bits .u64))))) == x14) else false) = true then true else ((r18.len : Int) == (0 : Int))) = true := hcond
                clear hcond
                suffices hfin : (false) = (true) from (c_b hfin rfl)
                -- leaf 12 (ret)
                have hl : ((r18.len : Int) == 0) = false := by
                  rw [beq_eq_false_iff_ne, hr18]
                  have := flo_some hany
                  omega
                have g13 := of_decide_eq_false c13
                have g14 := of_decide_eq_true c14
                try simp only [eX] at c15
                rw [hl] at c15
                rcases hstop with h | h
                · rw [clr_ne b0 b1 h] at c15
                  simp at c15
                · have e : r16 = -1 := by omega
                  rw [e, hallb_dn] at h
                  rw [clr_ne b0 b1 h] at c15
                  simp at c15
              ·
                have c16 : (if (if (if ((bitv .andNot .u64 x12 (IntKind.wrap .u64 ((1 : Int) * 2 ^ (min (Int.toNat (IntKind.wrap .u64 x8)) (IntKind.bits .u64))))) == x12) = true then (x13 == x13) else false) = true then ((bitv .andNot .u64 x14 (IntKind.wrap .u64 ((1 : Int) * 2 ^ (min (Int.toNat (IntKind.wrap .u64 x8)) (IntKind.bits .u64))))) == x14) else false) = true then true else ((r18.len : Int) == (0 : Int))) = false := hcond
                clear hcond
                refine ⟨?_, ?_⟩
                ·
                  show inv_PlanSweeps_10  x8 r16 (IntKind.wrap .i64 (x10 + (1 : Int))) (IntKind.wrap .i64 (x11 + (1 : Int))) (bitv .andNot .u64 x12 (IntKind.wrap .u64 ((1 : Int) * 2 ^ (min (Int.toNat (IntKind.wrap .u64 x8)) (IntKind.bits .u64))))) x13 (bitv .andNot .u64 x14 (IntKind.wrap .u64 ((1 : Int) * 2 ^ (min (Int.toNat (IntKind.wrap .u64 x8)) (IntKind.bits .u64)))))
                  -- leaf 13 (back)
                  have g13 := of_decide_eq_false c13
                  have g14 := of_decide_eq_true c14
                  show SW _ _ _ _ _ _ _
                  rw [if_neg (by omega), if_pos (by omega)] at hst
                  try simp only [eX]
                  try rw [e10]
                  rw [e11]
                  exact hst
                ·
                  show meas_PlanSweeps_10  x8 r16 (IntKind.wrap .i64 (x10 + (1 : Int))) (IntKind.wrap .i64 (x11 + (1 : Int))) (bitv .andNot .u64 x12 (IntKind.wrap .u64 ((1 : Int) * 2 ^ (min (Int.toNat (IntKind.wrap .u64 x8)) (IntKind.bits .u64))))) x13 (bitv .andNot .u64 x14 (IntKind.wrap .u64 ((1 : Int) * 2 ^ (min (Int.toNat (IntKind.wrap .u64 x8)) (IntKind.bits .u64))))) < meas_PlanSweeps_10  x8 x9 x10 x11 x12 x13 x14
                  -- leaf 14 (meas)
                  unfold meas_PlanSweeps_10
                  rw [e11]
                  omega
            ·
              have c17 : (decide (r16 < (0 : Int))) = false := hcond
              clear hcond
              refine ⟨fun hcond => ?_, fun hcond => ?_⟩
              ·
                have c18 : (if (if (if ((bitv .andNot .u64 x12 (IntKind.wrap .u64 ((1 : Int) * 2 ^ (min (Int.toNat (IntKind.wrap .u64 x8)) (IntKind.bits .u64))))) == x12) = true then (x13 == x13) else false) = true then (x14 == x14) else false) = true then true else ((r18.len : Int) == (0 : Int))) = true := hcond
                clear hcond
                suffices hfin : (false) = (true) from (c_b hfin rfl)
                -- leaf 15 (ret)
                have hl : ((r18.len : Int) == 0) = false := by
                  rw [beq_eq_false_iff_ne, hr18]
                  have := flo_some hany
                  omega
                have g13 := of_decide_eq_false c13
                have g17 := of_decide_eq_false c17
                try simp only [eX] at c18
                rw [hl] at c18
                rcases hstop with h | h
                · rw [clr_ne b0 b1 h] at c18
                  simp at c18
                · have e : r16 = 0 := by omega
                  rw [e, hallb_zero] at h
                  cases h
              ·
                have c19 : (if (if (if ((bitv .andNot .u64 x12 (IntKind.wrap .u64 ((1 : Int) * 2 ^ (min (Int.toNat (IntKind.wrap .u64 x8)) (IntKind.bits .u64))))) == x12) = true then (x13 == x13) else false) = true then (x14 == x14) else false) = true then true else ((r18.len : Int) == (0 : Int))) = false := hcond
                clear hcond
                refine ⟨?_, ?_⟩
                ·
                  show inv_PlanSweeps_10  x8 r16 (IntKind.wrap .i64 (x10 + (1 : Int))) (IntKind.wrap .i64 (x11 + (1 : Int))) (bitv .andNot .u64 x12 (IntKind.wrap .u64 ((1 : Int) * 2 ^ (min (Int.toNat (IntKind.wrap .u64 x8)) (IntKind.bits .u64))))) x13 x14
                  -- leaf 16 (back)
                  have g13 := of_decide_eq_false c13
                  have g17 := of_decide_eq_false c17
                  show SW _ _ _ _ _ _ _
                  rw [if_neg (by omega), if_neg (by omega)] at hst
                  try simp only [eX]
                  try rw [e10]
                  rw [e11]
                  exact hst
                ·
                  show meas_PlanSweeps_10  x8 r16 (IntKind.wrap .i64 (x10 + (1 : Int))) (IntKind.wrap .i64 (x11 + (1 : Int))) (bitv .andNot .u64 x12 (IntKind.wrap .u64 ((1 : Int) * 2 ^ (min (Int.toNat (IntKind.wrap .u64 x8)) (IntKind.bits .u64))))) x13 x14 < meas_PlanSweeps_10  x8 x9 x10 x11 x12 x13 x14
                  -- leaf 17 (meas)
                  unfold meas_PlanSweeps_10
                  rw [e11]
                  omega
        ·
          have c20 : r15 = false := hcond
          clear hcond
          rw [c20] at hr15 hr17
          simp only [Bool.not_false, if_true] at hr17
          have hn1 : isb x12 x8 = false := by revert hr15; cases isb x12 x8 <;> simp
          have hn2 : hallb x13 x14 x8 r16 = false := by revert hr15; cases hallb x13 x14 x8 r16 <;> simp
          have hen := hen hn1
          refine ⟨fun hcond => ?_, fun hcond => ?_⟩
          ·
            have c21 : (r17 == (0 : Int)) = true := hcond
            clear hcond
            refine vg_call (C := C_floors) rfl rfl (xs := [.i x12, .i x13, .i x14]) rfl (fun hg => ?_) (fun rs hrs => ?_)
            ·
              exact trivial
            obtain ⟨r18, hr18, rfl⟩ := floors_res hrs
            clear hrs
            change Fm.holds _ _ (lk [.i s0, .i s1, .i s2, .i fl, .i dir, .b r5, .i r6, .i r7, .i x8, .i x9, .i x10, .i x11, .i x12, .i x13, .i x14, .b r15, .i r16, .i r17, .l r18])
            suffices hfin : ((if ((r18.len : Int) == (0 : Int)) = true then (decide ((IntKind.wrap .i64 (x10 + (1 : Int))) ≤ (4 : Int))) else false)) = (true) from (c_b hfin rfl)
            -- leaf 18 (ret)
            have h0 : r16 = 0 := by rw [← hr17]; simpa using c21
            have := flo_emp (hen h0)
            rw [hr18, this]
            try rw [e10]
            simp
            omega
          ·
            have c22 : (r17 == (0 : Int)) = false := hcond
            clear hcond
            refine ⟨fun hcond => ?_, fun hcond => ?_⟩
            ·
              have c23 : (if (decide ((IntKind.wrap .i64 (x8 + r17)) < (0 : Int))) = true then true else (decide ((63 : Int) < (IntKind.wrap .i64 (x8 + r17))))) = true := hcond
              clear hcond
              suffices hfin : (false) = (true) from (c_b hfin rfl)
              -- leaf 19 (ret)
              have hT0 : r16 ≠ 0 := by
                rw [← hr17]
                simpa using c22
              have hS := hgo hn1 hn2 hT0
              obtain ⟨g0, g1, _⟩ := id hS
              have e17 : IntKind.wrap .i64 (x8 + r17) = x8 + r16 := by rw [hr17, wrap_in (by omega) (by omega)]
              rw [e17] at c23
              rw [decide_eq_false (show ¬ x8 + r16 < 0 by omega), decide_eq_false (show ¬ 63 < x8 + r16 by omega)] at c23
              simp at c23
            ·
              have c24 : (if (decide ((IntKind.wrap .i64 (x8 + r17)) < (0 : Int))) = true then true else (decide ((63 : Int) < (IntKind.wrap .i64 (x8 + r17))))) = false := hcond
              clear hcond
              refine ⟨?_, ?_⟩
              ·
                show inv_PlanSweeps_10  (IntKind.wrap .i64 (x8 + r17)) r16 (IntKind.wrap .i64 (x10 + (1 : Int))) (IntKind.wrap .i64 (x11 + (1 : Int))) x12 x13 x14
                -- leaf 20 (back)
                have hT0 : r16 ≠ 0 := by
                  rw [← hr17]
                  simpa using c22
                have hS := hgo hn1 hn2 hT0
                obtain ⟨g0, g1, _⟩ := id hS
                have e17 : IntKind.wrap .i64 (x8 + r17) = x8 + r16 := by rw [hr17, wrap_in (by omega) (by omega)]
                show SW _ _ _ _ _ _ _
                rw [e17, e11]
                try rw [e10]
                exact hS
              ·
                show meas_PlanSweeps_10  (IntKind.wrap .i64 (x8 + r17)) r16 (IntKind.wrap .i64 (x10 + (1 : Int))) (IntKind.wrap .i64 (x11 + (1 : Int))) x12 x13 x14 < meas_PlanSweeps_10  x8 x9 x10 x11 x12 x13 x14
                -- leaf 21 (meas)
                unfold meas_PlanSweeps_10
                rw [e11]
                omega
      ·
        have c25 : (if (!(x9 == (0 : Int))) = true then (r16 == (IntKind.wrap .i64 ((0 : Int) - x9))) else false) = false := hcond
        clear hcond
        have htn : tnP x9 r16 x10 = x10 := by
          unfold tnP
          rw [if_neg]
          rintro ⟨h1, h2⟩
          rw [e9, h2] at c25
          simp [h1] at c25
        rw [htn] at hst hgo
        refine ⟨fun hcond => ?_, fun hcond => ?_⟩
        ·
          have c26 : r15 = true := hcond
          clear hcond
          have hstop : isb x12 x8 = true ∨ hallb x13 x14 x8 r16 = true := by
            rw [c26] at hr15
            simpa using hr15.symm
          have hst := hst hstop
          have hany : anyb x12 x13 x14 x8 = true := any_iff.2 (by
            have : r16 = 1 ∨ r16 = -1 ∨ r16 = 0 := by omega
            rcases hstop with h | h
            · exact .inl h
            · rcases this with e | e | e
              · rw [e] at h; exact .inr (.inl h)
              · rw [e] at h; exact .inr (.inr h)
              · rw [e, hallb_zero] at h; cases h)
          refine vg_call (C := C_floors) rfl rfl (xs := [.i x12, .i x13, .i x14]) rfl (fun hg => ?_) (fun rs hrs => ?_)
          ·
            exact trivial
          obtain ⟨r18, hr18, rfl⟩ := floors_res hrs
          clear hrs
          change Fm.holds _ _ (lk [.i s0, .i s1, .i s2, .i fl, .i dir, .b r5, .i r6, .i r7, .i x8, .i x9, .i x10, .i x11, .i x12, .i x13, .i x14, .b r15, .i r16, .i r17, .l r18])
          refine ⟨fun hg => ?_, ?_⟩
          ·
            show (decide ((0 : Int) ≤ (IntKind.wrap .u64 x8))) = true
            -- leaf 22 (ob)
            rw [e8]
            exact decide_eq_true b0
          refine ⟨fun hcond => ?_, fun hcond => ?_⟩
          ·
            have c27 : (decide ((0 : Int) < r16)) = true := hcond
            clear hcond
            refine ⟨fun hcond => ?_, fun hcond => ?_⟩
            ·
              have c28 : (decide (r16 < (0 : Int))) = true := hcond
              clear hcond
              refine ⟨fun hcond => ?_, fun hcond => ?_⟩
              ·
                have c29 : (if (if (if ((bitv .andNot .u64 x12 (IntKind.wrap .u64 ((1 : Int) * 2 ^ (min (Int.toNat (IntKind.wrap .u64 x8)) (IntKind.bits .u64))))) == x12) = true then ((bitv .andNot .u64 x13 (IntKind.wrap .u64 ((1 : Int) * 2 ^ (min (Int.toNat (IntKind.wrap .u64 x8)) (IntKind.bits .u64))))) == x13) else false) = true then ((bitv .andNot .u64 x14 (IntKind.wrap .u64 ((1 : Int) * 2 ^ (min (Int.toNat (IntKind.wrap .u64 x8)) (IntKind.bits .u64))))) == x14) else false) = true then true else ((r18.len : Int) == (0 : Int))) = true := hcond
                clear hcond
                suffices hfin : (false) = (true) from (c_b hfin rfl)
                -- leaf 23 (ret)
                have h1 := of_decide_eq_true c27
                have h2 := of_decide_eq_true c28
                omega
              ·
                have c30 : (if (if (if ((bitv .andNot .u64 x12 (IntKind.wrap .u64 ((1 : Int) * 2 ^ (min (Int.toNat (IntKind.wrap .u64 x8)) (IntKind.bits .u64))))) == x12) = true then ((bitv .andNot .u64 x13 (IntKind.wrap .u64 ((1 : Int) * 2 ^ (min (Int.toNat (IntKind.wrap .u64 x8)) (IntKind.bits .u64))))) == x13) else false) = true then ((bitv .andNot .u64 x14 (IntKind.wrap .u64 ((1 : Int) * 2 ^ (min (Int.toNat (IntKind.wrap .u64 x8)) (IntKind.bits .u64))))) == x14) else false) = true then true else ((r18.len : Int) == (0 : Int))) = false := hcond
                clear hcond
                refine ⟨?_, ?_⟩
                ·
                  show inv_PlanSweeps_10  x8 r16 x10 (IntKind.wrap .i64 (x11 + (1 : Int))) (bitv .andNot .u64 x12 (IntKind.wrap .u64 ((1 : Int) * 2 ^ (min (Int.toNat (IntKind.wrap .u64 x8)) (IntKind.bits .u64))))) (bitv .andNot .u64 x13 (IntKind.wrap .u64 ((1 : Int) * 2 ^ (min (Int.toNat (IntKind.wrap .u64 x8)) (IntKind.bits .u64))))) (bitv .andNot .u64 x14 (IntKind.wrap .u64 ((1 : Int) * 2 ^ (min (Int.toNat (IntKind.wrap .u64 x8)) (IntKind.bits .u64)))))
                  -- leaf 24 (back)
                  have h1 := of_decide_eq_true c27
                  have h2 := of_decide_eq_true c28
                  omega
                ·
                  show meas_PlanSweeps_10  x8 r16 x10 (IntKind.wrap .i64 (x11 + (1 : Int))) (bitv .andNot .u64 x12 (IntKind.wrap .u64 ((1 : Int) * 2 ^ (min (Int.toNat (IntKind.wrap .u64 x8)) (IntKind.bits .u64))))) (bitv .andNot .u64 x13 (IntKind.wrap .u64 ((1 : Int) * 2 ^ (min (Int.toNat (IntKind.wrap .u64 x8)) (IntKind.bits .u64))))) (bitv .andNot .u64 x14 (IntKind.wrap .u64 ((1 : Int) * 2 ^ (min (Int.toNat (IntKind.wrap .u64 x8)) (IntKind.bits .u64))))) < meas_PlanSweeps_10  x8 x9 x10 x11 x12 x13 x14
                  -- leaf 25 (meas)
                  have h1 := of_decide_eq_true c27
                  have h2 := of_decide_eq_true c28
                  omega
            ·
              have c31 : (decide (r16 < (0 : Int))) = false := hcond
              clear hcond
              refine ⟨fun hcond => ?_, fun hcond => ?_⟩
              ·
                have c32 : (if (if (if ((bitv .andNot .u64 x12 (IntKind.wrap .u64 ((1 : Int) * 2 ^ (min (Int.toNat (IntKind.wrap .u64 x8)) (IntKind.bits .u64))))) == x12) = true then ((bitv .andNot .u64 x13 (IntKind.wrap .u64 ((1 : Int) * 2 ^ (min (Int.toNat (IntKind.wrap .u64 x8)) (IntKind.bits .u64))))) == x13) else false) = true then (x14 == x14) else false) = true then true else ((r18.len : Int) == (0 : Int))) = true := hcond
                clear hcond
                suffices hfin : (false) = (true) from (c_b hfin rfl)
                -- leaf 26 (ret)
                have hl : ((r18.len : Int) == 0) = false := by
                  rw [beq_eq_false_iff_ne, hr18]
                  have := flo_some hany
                  omega
                have g27 := of_decide_eq_true c27
                have g31 := of_decide_eq_false c31
                try simp only [eX] at c32
                rw [hl] at c32
                rcases hstop with h | h
                · rw [clr_ne b0 b1 h] at c32
                  simp at c32
                · have e : r16 = 1 := by omega
                  rw [e, hallb_up] at h
                  rw [clr_ne b0 b1 h] at c32
                  simp at c32
              ·
                have c33 : (if (if (if ((bitv .andNot .u64 x12 (IntKind.wrap .u64 ((1 : Int) * 2 ^ (min (Int.toNat (IntKind.wrap .u64 x8)) (IntKind.bits .u64))))) == x12) = true then ((bitv .andNot .u64 x13 (IntKind.wrap .u64 ((1 : Int) * 2 ^ (min (Int.toNat (IntKind.wrap .u64 x8)) (IntKind.bits .u64))))) == x13) else false) = true then (x14 == x14) else false) = true then true else ((r18.len : Int) == (0 : Int))) = false := hcond
                clear hcond
                refine ⟨?_, ?_⟩
                ·
                  show inv_PlanSweeps_10  x8 r16 x10 (IntKind.wrap .i64 (x11 + (1 : Int))) (bitv .andNot .u64 x12 (IntKind.wrap .u64 ((1 : Int) * 2 ^ (min (Int.toNat (IntKind.wrap .u64 x8)) (IntKind.bits .u64))))) (bitv .andNot .u64 x13 (IntKind.wrap .u64 ((1 : Int) * 2 ^ (min (Int.toNat (IntKind.wrap .u64 x8)) (IntKind.bits .u64))))) x14
                  -- leaf 27 (back)
                  have g27 := of_decide_eq_true c27
                  have g31 := of_decide_eq_false c31
                  show SW _ _ _ _ _ _ _
                  rw [if_pos (by omega), if_neg (by omega)] at hst
                  try simp only [eX]
                  try rw [e10]
                  rw [e11]
                  exact hst
                ·
                  show meas_PlanSweeps_10  x8 r16 x10 (IntKind.wrap .i64 (x11 + (1 : Int))) (bitv .andNot .u64 x12 (IntKind.wrap .u64 ((1 : Int) * 2 ^ (min (Int.toNat (IntKind.wrap .u64 x8)) (IntKind.bits .u64))))) (bitv .andNot .u64 x13 (IntKind.wrap .u64 ((1 : Int) * 2 ^ (min (Int.toNat (IntKind.wrap .u64 x8)) (IntKind.bits .u64))))) x14 < meas_PlanSweeps_10  x8 x9 x10 x11 x12 x13 x14
                  -- leaf 28 (meas)
                  unfold meas_PlanSweeps_10
                  rw [e11]
                  omega
          ·
            have c34 : (decide ((0 : Int) < r16)) = false := hcond
            clear hcond
            refine ⟨fun hcond => ?_, fun hcond => ?_⟩
            ·
              have c35 : (decide (r16 < (0 : Int))) = true := hcond
              clear hcond
              refine ⟨fun hcond => ?_, fun hcond => ?_⟩
              ·
                have c36 : (if (if (if ((bitv .andNot .u64 x12 (IntKind.wrap .u64 ((1 : Int) * 2 ^ (min (Int.toNat (IntKind.wrap .u64 x8)) (IntKind.bits .u64))))) == x12) = true then (x13 == x13) else false) = true then ((bitv .andNot .u64 x14 (IntKind.wrap .u64 ((1 : Int) * 2 ^ (min (Int.toNat (IntKind.wrap .u64 x8)) (IntKind.bits .u64))))) == x14) else false) = true then true else ((r18.len : Int) == (0 : Int))) = true := hcond
                clear hcond
                suffices hfin : (false) = (true) from (c_b hfin rfl)
                -- leaf 29 (ret)
                have hl : ((r18.len : Int) == 0) = false := by
                  rw [beq_eq_false_iff_ne, hr18]
                  have := flo_some hany
                  omega
                have g34 := of_decide_eq_false c34
                have g35 := of_decide_eq_true c35
                try simp only [eX] at c36
                rw [hl] at c36
                rcases hstop with h | h
                · rw [clr_ne b0 b1 h] at c36
                  simp at c36
                · have e : r16 = -1 := by omega
                  rw [e, hallb_dn] at h
                  rw [clr_ne b0 b1 h] at c36
                  simp at c36
              ·
                have c37 : (if (if (if ((bitv .andNot .u64 x12 (IntKind.wrap .u64 ((1 : Int) * 2 ^ (min (Int.toNat (IntKind.wrap .u64 x8)) (IntKind.bits .u64))))) == x12) = true then (x13 == x13) else false) = true then ((bitv .andNot .u64 x14 (IntKind.wrap .u64 ((1 : Int) * 2 ^ (min (Int.toNat (IntKind.wrap .u64 x8)) (IntKind.bits .u64))))) == x14) else false) = true then true else ((r18.len : Int) == (0 : Int))) = false := hcond
                clear hcond
                refine ⟨?_, ?_⟩
                ·
                  show inv_PlanSweeps_10  x8 r16 x10 (IntKind.wrap .i64 (x11 + (1 : Int))) (bitv .andNot .u64 x12 (IntKind.wrap .u64 ((1 : Int) * 2 ^ (min (Int.toNat (IntKind.wrap .u64 x8)) (IntKind.bits .u64))))) x13 (bitv .andNot .u64 x14 (IntKind.wrap .u64 ((1 : Int) * 2 ^ (min (Int.toNat (IntKind.wrap .u64 x8)) (IntKind.bits .u64)))))
                  -- leaf 30 (back)
                  have g34 := of_decide_eq_false c34
                  have g35 := of_decide_eq_true c35
                  show SW _ _ _ _ _ _ _
                  rw [if_neg (by omega), if_pos (by omega)] at hst
                  try simp only [eX]
                  try rw [e10]
                  rw [e11]
                  exact hst
                ·
                  show meas_PlanSweeps_10  x8 r16 x10 (IntKind.wrap .i64 (x11 + (1 : Int))) (bitv .andNot .u64 x12 (IntKind.wrap .u64 ((1 : Int) * 2 ^ (min (Int.toNat (IntKind.wrap .u64 x8)) (IntKind.bits .u64))))) x13 (bitv .andNot .u64 x14 (IntKind.wrap .u64 ((1 : Int) * 2 ^ (min (Int.toNat (IntKind.wrap .u64 x8)) (IntKind.bits .u64))))) < meas_PlanSweeps_10  x8 x9 x10 x11 x12 x13 x14
                  -- leaf 31 (meas)
                  unfold meas_PlanSweeps_10
                  rw [e11]
                  omega
            ·
              have c38 : (decide (r16 < (0 : Int))) = false := hcond
              clear hcond
              refine ⟨fun hcond => ?_, fun hcond => ?_⟩
              ·
                have c39 : (if (if (if ((bitv .andNot .u64 x12 (IntKind.wrap .u64 ((1 : Int) * 2 ^ (min (Int.toNat (IntKind.wrap .u64 x8)) (IntKind.bits .u64))))) == x12) = true then (x13 == x13) else false) = true then (x14 == x14) else false) = true then true else ((r18.len : Int) == (0 : Int))) = true := hcond
                clear hcond
                suffices hfin : (false) = (true) from (c_b hfin rfl)
                -- leaf 32 (ret)
                have hl : ((r18.len : Int) == 0) = false := by
                  rw [beq_eq_false_iff_ne, hr18]
                  have := flo_some hany
                  omega
                have g34 := of_decide_eq_false c34
                have g38 := of_decide_eq_false c38
                try simp only [eX] at c39
                rw [hl] at c39
                rcases hstop with h | h
                · rw [clr_ne b0 b1 h] at c39
                  simp at c39
                · have e : r16 = 0 := by omega
                  rw [e, hallb_zero] at h
                  cases h
              ·
                have c40 : (if (if (if ((bitv .andNot .u64 x12 (IntKind.wrap .u64 ((1 : Int) * 2 ^ (min (Int.toNat (IntKind.wrap .u64 x8)) (IntKind.bits .u64))))) == x12) = true then (x13 == x13) else false) = true then (x14 == x14) else false) = true then true else ((r18.len : Int) == (0 : Int))) = false := hcond
                clear hcond
                refine ⟨?_, ?_⟩
                ·
                  show inv_PlanSweeps_10  x8 r16 x10 (IntKind.wrap .i64 (x11 + (1 : Int))) (bitv .andNot .u64 x12 (IntKind.wrap .u64 ((1 : Int) * 2 ^ (min (Int.toNat (IntKind.wrap .u64 x8)) (IntKind.bits .u64))))) x13 x14
                  -- leaf 33 (back)
                  have g34 := of_decide_eq_false c34
                  have g38 := of_decide_eq_false c38
                  show SW _ _ _ _ _ _ _
                  rw [if_neg (by omega), if_neg (by omega)] at hst
                  try simp only [eX]
                  try rw [e10]
                  rw [e11]
                  exact hst
                ·
                  show meas_PlanSweeps_10  x8 r16 x10 (IntKind.wrap .i64 (x11 + (1 : Int))) (bitv .andNot .u64 x12 (IntKind.wrap .u64 ((1 : Int) * 2 ^ (min (Int.toNat (IntKind.wrap .u64 x8)) (IntKind.bits .u64))))) x13 x14 < meas_PlanSweeps_10  x8 x9 x10 x11 x12 x13 x14
                  -- leaf 34 (meas)
                  unfold meas_PlanSweeps_10
                  rw [e11]
                  omega
        ·
          have c41 : r15 = false := hcond
          clear hcond
          rw [c41] at hr15 hr17
          simp only [Bool.not_false, if_true] at hr17
          have hn1 : isb x12 x8 = false := by revert hr15; cases isb x12 x8 <;> simp
          have hn2 : hallb x13 x14 x8 r16 = false := by revert hr15; cases hallb x13 x14 x8 r16 <;> simp
          have hen := hen hn1
          refine ⟨fun hcond => ?_, fun hcond => ?_⟩
          ·
            have c42 : (r17 == (0 : Int)) = true := hcond
            clear hcond
            refine vg_call (C := C_floors) rfl rfl (xs := [.i x12, .i x13, .i x14]) rfl (fun hg => ?_) (fun rs hrs => ?_)
            ·
              exact trivial
            obtain ⟨r18, hr18, rfl⟩ := floors_res hrs
            clear hrs
            change Fm.holds _ _ (lk [.i s0, .i s1, .i s2, .i fl, .i dir, .b r5, .i r6, .i r7, .i x8, .i x9, .i x10, .i x11, .i x12, .i x13, .i x14, .b r15, .i r16, .i r17, .l r18])
            suffices hfin : ((if ((r18.len : Int) == (0 : Int)) = true then (decide (x10 ≤ (4 : Int))) else false)) = (true) from (c_b hfin rfl)
            -- leaf 35 (ret)
            have h0 : r16 = 0 := by rw [← hr17]; simpa using c42
            have := flo_emp (hen h0)
            rw [hr18, this]
            try rw [e10]
            simp
            omega
          ·
            have c43 : (r17 == (0 : Int)) = false := hcond
            clear hcond
            refine ⟨fun hcond => ?_, fun hcond => ?_⟩
            ·
              have c44 : (if (decide ((IntKind.wrap .i64 (x8 + r17)) < (0 : Int))) = true then true else (decide ((63 : Int) < (IntKind.wrap .i64 (x8 + r17))))) = true := hcond
              clear hcond
              suffices hfin : (false) = (true) from (c_b hfin rfl)
              -- leaf 36 (ret)
              have hT0 : r16 ≠ 0 := by
                rw [← hr17]
                simpa using c43
              have hS := hgo hn1 hn2 hT0
              obtain ⟨g0, g1, _⟩ := id hS
              have e17 : IntKind.wrap .i64 (x8 + r17) = x8 + r16 := by rw [hr17, wrap_in (by omega) (by omega)]
              rw [e17] at c44
              rw [decide_eq_false (show ¬ x8 + r16 < 0 by omega), decide_eq_false (show ¬ 63 < x8 + r16 by omega)] at c44
              simp at c44
            ·
              have c45 : (if (decide ((IntKind.wrap .i64 (x8 + r17)) < (0 : Int))) = true then true else (decide ((63 : Int) < (IntKind.wrap .i64 (x8 + r17))))) = false := hcond
              clear hcond
              refine ⟨?_, ?_⟩
              ·
                show inv_PlanSweeps_10  (IntKind.wrap .i64 (x8 + r17)) r16 x10 (IntKind.wrap .i64 (x11 + (1 : Int))) x12 x13 x14
                -- leaf 37 (back)
                have hT0 : r16 ≠ 0 := by
                  rw [← hr17]
                  simpa using c43
                have hS := hgo hn1 hn2 hT0
                obtain ⟨g0, g1, _⟩ := id hS
                have e17 : IntKind.wrap .i64 (x8 + r17) = x8 + r16 := by rw [hr17, wrap_in (by omega) (by omega)]
                show SW _ _ _ _ _ _ _
                rw [e17, e11]
                try rw [e10]
                exact hS
              ·
                show meas_PlanSweeps_10  (IntKind.wrap .i64 (x8 + r17)) r16 x10 (IntKind.wrap .i64 (x11 + (1 : Int))) x12 x13 x14 < meas_PlanSweeps_10  x8 x9 x10 x11 x12 x13 x14
                -- leaf 38 (meas)
                unfold meas_PlanSweeps_10
                rw [e11]
                omega
    ·
      have c46 : (decide (x11 < (600 : Int))) = false := hcond
      clear hcond
      suffices hfin : (false) = (true) from (c_b hfin rfl)
      -- leaf 39 (ret)
      have := of_decide_eq_false c46
      omega
end Go.Proofs.YtppnpmpocnpgaaaDoor
