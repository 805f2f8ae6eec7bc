import Derived.Test.YtdbhdpljnplolaaVPlantRuns
namespace Go.Proofs.Ytdbhdpljnplolaa
open Go.Vg
set_option linter.unusedVariables false
set_option linter.unusedSimpArgs false


theorem PlantRuns_sound : C_PlantRuns.Sound Try.prog G 3 := by
  refine fn_ok mixed stable tbl_PlantRuns [⟨14, [4, 11, 12, 34, 35, 36, 37, 38, 39, 40, 41, 42, 43, 44, 45, 46, 47, 48, 49, 50, 51, 52, 53, 54, 55, 56, 57, 58, 59, 60, 61, 62, 63], [6, 8, 10], [], [0, 1, 2, 3, 4]⟩] Try.func3 (by kernel_rfl) phi_PlantRuns vc_PlantRuns ⟨first12_sound, valid_sound, top_sound, go_sound, level_sound, number_sound, trivial⟩ inv_PlantRuns meas_PlantRuns ?_
  intro ls hp
  obtain ⟨hc, hf, hs, hd, up, rfl, hpre⟩ := PlantRuns_pre hp
  clear hp
  rw [envOf_lk]
  unfold phi_PlantRuns
  refine vg_call (C := C_first12) rfl rfl (xs := []) rfl (fun hg => ?_) (fun rs hrs => ?_)
  ·
    exact trivial
  obtain ⟨r5, hr5, rfl⟩ := first12_res hrs
  clear hrs
  change Fm.holds _ _ (lk [.i hc, .i hf, .i hs, .i hd, .b up, .b r5])
  refine ⟨fun hcond => ?_, fun hcond => ?_⟩
  ·
    have c1 : r5 = false := hcond
    clear hcond
    suffices hfin : (false) = (true) from (c_b hfin rfl)
    -- leaf 1 (ret)
    simp_all
  ·
    have c2 : r5 = true := hcond
    clear hcond
    refine vg_call (C := C_valid) rfl rfl (xs := [.i hc, .i hf, .i hs, .i hd]) rfl (fun hg => ?_) (fun rs hrs => ?_)
    ·
      exact trivial
    obtain ⟨r6, hr6, rfl⟩ := valid_res hrs
    clear hrs
    change Fm.holds _ _ (lk [.i hc, .i hf, .i hs, .i hd, .b up, .b r5, .b r6])
    refine ⟨fun hcond => ?_, fun hcond => ?_⟩
    ·
      have c3 : r6 = false := hcond
      clear hcond
      suffices hfin : (r5) = (true) from (c_b hfin rfl)
      -- leaf 2 (ret)
      simp_all
    ·
      have c4 : r6 = true := hcond
      clear hcond
      have hv : valid hc hf hs hd = true := by rw [← hr6]; exact c4
      have hV := valid_iff.1 hv
      have hT := top_range hc hf hs hd
      have e0 := wrap_top hv
      refine ⟨fun hcond => ?_, fun hcond => ?_⟩
      ·
        have c5 : up = false := hcond
        clear hcond
        refine vg_call (C := C_top) rfl rfl (xs := [.i hc, .i hf, .i hs, .i hd]) rfl (fun hg => ?_) (fun rs hrs => ?_)
        ·
          exact trivial
        obtain ⟨r7, hr7, rfl⟩ := top_res hrs
        clear hrs
        change Fm.holds _ _ (lk [.i hc, .i hf, .i hs, .i hd, .b up, .b r5, .b r6, .i r7])
        refine vg_loop rfl ?_ (fun xs hfit hi => ?_)
        ·
          show inv_PlantRuns_14 hc hf hs hd up r7 (1 : Int) (0 : Int)
          -- leaf 3 (init)
          refine ⟨by omega, by omega, ?_, by rw [Int.zero_ediv]; omega⟩
          rw [c5]
          simp
          omega
        obtain ⟨x8, xs0, rfl, hfit0⟩ := fits_i hfit
        obtain ⟨x9, xs1, rfl, hfit1⟩ := fits_i hfit0
        obtain ⟨x10, xs2, rfl, hfit2⟩ := fits_i hfit1
        obtain rfl := fits_nil hfit2
        clear hfit hfit0 hfit1 hfit2
        replace hi : inv_PlantRuns_14 hc hf hs hd up x8 x9 x10 := hi
        have hi14 := hi; clear hi
        change Fm.holds _ _ (lk [.i hc, .i hf, .i hs, .i hd, .b up, .b r5, .b r6, .i r7, .i x8, .i x9, .i x10])
        obtain ⟨i0, iT, hpos, hlev⟩ := hi14
        simp only [c5, Bool.false_eq_true, if_false] at hpos
        refine ⟨fun hcond => ?_, fun hcond => ?_⟩
        ·
          have c6 : (decide (x10 < (IntKind.wrap .i64 ((IntKind.wrap .i64 (hf - (1 : Int))) * hs)))) = true := hcond
          clear hcond
          rw [e0] at c6
          have hlt := of_decide_eq_true c6
          have e1 : IntKind.wrap .i64 (x10 + 1) = x10 + 1 := wrap_in (by omega) (by omega)
          have e2 : IntKind.wrap .i64 ((-1) * (IntKind.wrap .i64 (x10 + 1))) = (-1 * (x10 + 1)) := by rw [e1]; exact wrap_in (by omega) (by omega)
          have ek : clampM (-1 * (x10 + 1)) = -1 := clampM_neg (by omega)
          have hgo := go_in hv (p := x8) (m := (-1 * (x10 + 1))) (by omega) (by omega) (by rw [ek]; omega) (by rw [ek]; omega)
          rw [ek] at hgo
          have hds := div_step hV.2.2.1.1 hV.2.2.1.2 i0
          refine vg_call (C := C_go) rfl rfl (xs := [.i hc, .i hf, .i hs, .i hd, .i x8, .i (IntKind.wrap .i64 ((-1) * (IntKind.wrap .i64 (x10 + (1 : Int)))))]) rfl (fun hg => ?_) (fun rs hrs => ?_)
          ·
            exact trivial
          obtain ⟨r11, r12, hr11, hr12, rfl⟩ := go_res hrs
          clear hrs
          change Fm.holds _ _ (lk [.i hc, .i hf, .i hs, .i hd, .b up, .b r5, .b r6, .i r7, .i x8, .i x9, .i x10, .i r11, .b r12])
          rw [e2] at hr11 hr12
          rw [hgo.2] at hr11
          rw [hgo.1] at hr12
          have e3 : IntKind.wrap .i64 (x8 + (-1)) = x8 + -1 := wrap_in (by omega) (by omega)
          refine ⟨fun hcond => ?_, fun hcond => ?_⟩
          ·
            have c7 : (if (!r12) = true then true else (!(r11 == (IntKind.wrap .i64 (x8 + (-1)))))) = true := hcond
            clear hcond
            suffices hfin : (false) = (true) from (c_b hfin rfl)
            -- leaf 4 (ret)
            simp [hr12, hr11, e3] at c7
          ·
            have c8 : (if (!r12) = true then true else (!(r11 == (IntKind.wrap .i64 (x8 + (-1)))))) = false := hcond
            clear hcond
            refine vg_call (C := C_level) rfl rfl (xs := [.i hc, .i hf, .i hs, .i hd, .i r11]) rfl (fun hg => ?_) (fun rs hrs => ?_)
            ·
              exact trivial
            obtain ⟨r13, hr13, rfl⟩ := level_res hrs
            clear hrs
            change Fm.holds _ _ (lk [.i hc, .i hf, .i hs, .i hd, .b up, .b r5, .b r6, .i r7, .i x8, .i x9, .i x10, .i r11, .b r12, .b r13])
            have el : r11 = top hc hf hs hd - (x10 + 1) := by omega
            rw [el, level_dn hv (by omega) (by omega)] at hr13
            have hlr : 0 ≤ x10 / hs ∧ x10 / hs ≤ 504 := div_range (by omega) (by omega) (by omega)
            have e4 : IntKind.wrap .i64 (x9 + 1) = x9 + 1 := wrap_in (by omega) (by omega)
            refine ⟨fun hcond => ?_, fun hcond => ?_⟩
            ·
              have c9 : r13 = true := hcond
              clear hcond
              have hmod : (x10 + 1) % hs = 0 := of_decide_eq_true (hr13 ▸ c9)
              refine ⟨?_, ?_⟩
              ·
                show inv_PlantRuns_14 hc hf hs hd up r11 (IntKind.wrap .i64 (x9 + (1 : Int))) (IntKind.wrap .i64 (x10 + (1 : Int)))
                -- leaf 5 (back)
                rw [e1, e4]
                refine ⟨by omega, by omega, ?_, by rw [hds.1 hmod]; omega⟩
                rw [c5, el]
                simp
              ·
                show meas_PlantRuns_14 hc hf hs hd up r11 (IntKind.wrap .i64 (x9 + (1 : Int))) (IntKind.wrap .i64 (x10 + (1 : Int))) < meas_PlantRuns_14 hc hf hs hd up x8 x9 x10
                -- leaf 6 (meas)
                unfold meas_PlantRuns_14
                rw [e1]
                omega
            ·
              have c10 : r13 = false := hcond
              clear hcond
              have hmod : (x10 + 1) % hs ≠ 0 := of_decide_eq_false (hr13 ▸ c10)
              refine ⟨?_, ?_⟩
              ·
                show inv_PlantRuns_14 hc hf hs hd up r11 x9 (IntKind.wrap .i64 (x10 + (1 : Int)))
                -- leaf 7 (back)
                rw [e1]
                refine ⟨by omega, by omega, ?_, by rw [hds.2 hmod]; omega⟩
                rw [c5, el]
                simp
              ·
                show meas_PlantRuns_14 hc hf hs hd up r11 x9 (IntKind.wrap .i64 (x10 + (1 : Int))) < meas_PlantRuns_14 hc hf hs hd up x8 x9 x10
                -- leaf 8 (meas)
                unfold meas_PlantRuns_14
                rw [e1]
                omega
        ·
          have c11 : (decide (x10 < (IntKind.wrap .i64 ((IntKind.wrap .i64 (hf - (1 : Int))) * hs)))) = false := hcond
          clear hcond
          rw [e0] at c11
          have hge := of_decide_eq_false c11
          have hiT : x10 = top hc hf hs hd := by omega
          have ho := go_out (c := hc) (f := hf) (s := hs) (d := hd) (p := x8) (m := -1) (by rw [clampM_neg (by omega)]; omega)
          have hb := go_in hv (p := x8) (m := 0) (by omega) (by omega) (by rw [clampM_zero]; omega) (by rw [clampM_zero]; omega)
          rw [clampM_zero] at hb
          have hd5 := top_div hv
          refine vg_call (C := C_go) rfl rfl (xs := [.i hc, .i hf, .i hs, .i hd, .i x8, .i (-1)]) rfl (fun hg => ?_) (fun rs hrs => ?_)
          ·
            exact trivial
          obtain ⟨r11, r12, hr11, hr12, rfl⟩ := go_res hrs
          clear hrs
          change Fm.holds _ _ (lk [.i hc, .i hf, .i hs, .i hd, .b up, .b r5, .b r6, .i r7, .i x8, .i x9, .i x10, .i r11, .b r12])
          refine vg_call (C := C_go) rfl rfl (xs := [.i hc, .i hf, .i hs, .i hd, .i x8, .i (0 : Int)]) rfl (fun hg => ?_) (fun rs hrs => ?_)
          ·
            exact trivial
          obtain ⟨r13, r14, hr13, hr14, rfl⟩ := go_res hrs
          clear hrs
          change Fm.holds _ _ (lk [.i hc, .i hf, .i hs, .i hd, .b up, .b r5, .b r6, .i r7, .i x8, .i x9, .i x10, .i r11, .b r12, .i r13, .b r14])
          rw [hb.2] at hr13
          rw [hb.1] at hr14
          rw [ho] at hr12
          refine vg_call (C := C_number) rfl rfl (xs := [.i (1 : Int), .i (2 : Int)]) rfl (fun hg => ?_) (fun rs hrs => ?_)
          ·
            simp only [gd_cons, gd_nil, and_true] at hg
            replace hg : (if (if (if (if (if r5 = true then (x9 == hf) else false) = true then (!r12) else false) = true then r14 else false) = true then (r13 == x8) else false) = true then ((x8 == (0 : Int)) == (!up)) else false) = true := hg
            refine number_mk ?_
            -- leaf 9 (pre)
            omega
          obtain ⟨r15, hr15, rfl⟩ := number_res hrs
          clear hrs
          change Fm.holds _ _ (lk [.i hc, .i hf, .i hs, .i hd, .b up, .b r5, .b r6, .i r7, .i x8, .i x9, .i x10, .i r11, .b r12, .i r13, .b r14, .i r15])
          suffices hfin : ((if (if (if (if (if (if r5 = true then (x9 == hf) else false) = true then (!r12) else false) = true then r14 else false) = true then (r13 == x8) else false) = true then ((x8 == (0 : Int)) == (!up)) else false) = true then (r15 == (1 : Int)) else false)) = (true) from (c_b hfin rfl)
          -- leaf 10 (ret)
          rw [number12] at hr15
          have hmr := @mul_range hf hs (by omega) (by omega) (by omega) (by omega)
          have hTe := top_eq hv
          have e7 : x9 = hf := by rw [hlev, hiT, hd5]; omega
          have e8 : (x8 == (0 : Int)) = true := by rw [beq_iff_eq]; omega
          have e9 : r13 = x8 := by omega
          simp [hr5, e7, hr12, hr14, e9, e8, c5, hr15]
      ·
        have c12 : up = true := hcond
        clear hcond
        refine vg_loop rfl ?_ (fun xs hfit hi => ?_)
        ·
          show inv_PlantRuns_14 hc hf hs hd up (0 : Int) (1 : Int) (0 : Int)
          -- leaf 11 (init)
          refine ⟨by omega, by omega, ?_, by rw [Int.zero_ediv]; omega⟩
          rw [c12]
          simp
        obtain ⟨x7, xs0, rfl, hfit0⟩ := fits_i hfit
        obtain ⟨x8, xs1, rfl, hfit1⟩ := fits_i hfit0
        obtain ⟨x9, xs2, rfl, hfit2⟩ := fits_i hfit1
        obtain rfl := fits_nil hfit2
        clear hfit hfit0 hfit1 hfit2
        replace hi : inv_PlantRuns_14 hc hf hs hd up x7 x8 x9 := hi
        have hi14 := hi; clear hi
        change Fm.holds _ _ (lk [.i hc, .i hf, .i hs, .i hd, .b up, .b r5, .b r6, .i x7, .i x8, .i x9])
        obtain ⟨i0, iT, hpos, hlev⟩ := hi14
        simp only [c12, if_true] at hpos
        refine ⟨fun hcond => ?_, fun hcond => ?_⟩
        ·
          have c13 : (decide (x9 < (IntKind.wrap .i64 ((IntKind.wrap .i64 (hf - (1 : Int))) * hs)))) = true := hcond
          clear hcond
          rw [e0] at c13
          have hlt := of_decide_eq_true c13
          have e1 : IntKind.wrap .i64 (x9 + 1) = x9 + 1 := wrap_in (by omega) (by omega)
          have e2 : IntKind.wrap .i64 (1 * (IntKind.wrap .i64 (x9 + 1))) = (1 * (x9 + 1)) := by rw [e1]; exact wrap_in (by omega) (by omega)
          have ek : clampM (1 * (x9 + 1)) = 1 := clampM_pos (by omega)
          have hgo := go_in hv (p := x7) (m := (1 * (x9 + 1))) (by omega) (by omega) (by rw [ek]; omega) (by rw [ek]; omega)
          rw [ek] at hgo
          have hds := div_step hV.2.2.1.1 hV.2.2.1.2 i0
          refine vg_call (C := C_go) rfl rfl (xs := [.i hc, .i hf, .i hs, .i hd, .i x7, .i (IntKind.wrap .i64 ((1 : Int) * (IntKind.wrap .i64 (x9 + (1 : Int)))))]) rfl (fun hg => ?_) (fun rs hrs => ?_)
          ·
            exact trivial
          obtain ⟨r10, r11, hr10, hr11, rfl⟩ := go_res hrs
          clear hrs
          change Fm.holds _ _ (lk [.i hc, .i hf, .i hs, .i hd, .b up, .b r5, .b r6, .i x7, .i x8, .i x9, .i r10, .b r11])
          rw [e2] at hr10 hr11
          rw [hgo.2] at hr10
          rw [hgo.1] at hr11
          have e3 : IntKind.wrap .i64 (x7 + 1) = x7 + 1 := wrap_in (by omega) (by omega)
          refine ⟨fun hcond => ?_, fun hcond => ?_⟩
          ·
            have c14 : (if (!r11) = true then true else (!(r10 == (IntKind.wrap .i64 (x7 + (1 : Int)))))) = true := hcond
            clear hcond
            suffices hfin : (false) = (true) from (c_b hfin rfl)
            -- leaf 12 (ret)
            simp [hr11, hr10, e3] at c14
          ·
            have c15 : (if (!r11) = true then true else (!(r10 == (IntKind.wrap .i64 (x7 + (1 : Int)))))) = false := hcond
            clear hcond
            refine vg_call (C := C_level) rfl rfl (xs := [.i hc, .i hf, .i hs, .i hd, .i r10]) rfl (fun hg => ?_) (fun rs hrs => ?_)
            ·
              exact trivial
            obtain ⟨r12, hr12, rfl⟩ := level_res hrs
            clear hrs
            change Fm.holds _ _ (lk [.i hc, .i hf, .i hs, .i hd, .b up, .b r5, .b r6, .i x7, .i x8, .i x9, .i r10, .b r11, .b r12])
            have el : r10 = x9 + 1 := by omega
            rw [el, level_up hv (by omega) (by omega)] at hr12
            have hlr : 0 ≤ x9 / hs ∧ x9 / hs ≤ 504 := div_range (by omega) (by omega) (by omega)
            have e4 : IntKind.wrap .i64 (x8 + 1) = x8 + 1 := wrap_in (by omega) (by omega)
            refine ⟨fun hcond => ?_, fun hcond => ?_⟩
            ·
              have c16 : r12 = true := hcond
              clear hcond
              have hmod : (x9 + 1) % hs = 0 := of_decide_eq_true (hr12 ▸ c16)
              refine ⟨?_, ?_⟩
              ·
                show inv_PlantRuns_14 hc hf hs hd up r10 (IntKind.wrap .i64 (x8 + (1 : Int))) (IntKind.wrap .i64 (x9 + (1 : Int)))
                -- leaf 13 (back)
                rw [e1, e4]
                refine ⟨by omega, by omega, ?_, by rw [hds.1 hmod]; omega⟩
                rw [c12, el]
                simp
              ·
                show meas_PlantRuns_14 hc hf hs hd up r10 (IntKind.wrap .i64 (x8 + (1 : Int))) (IntKind.wrap .i64 (x9 + (1 : Int))) < meas_PlantRuns_14 hc hf hs hd up x7 x8 x9
                -- leaf 14 (meas)
                unfold meas_PlantRuns_14
                rw [e1]
                omega
            ·
              have c17 : r12 = false := hcond
              clear hcond
              have hmod : (x9 + 1) % hs ≠ 0 := of_decide_eq_false (hr12 ▸ c17)
              refine ⟨?_, ?_⟩
              ·
                show inv_PlantRuns_14 hc hf hs hd up r10 x8 (IntKind.wrap .i64 (x9 + (1 : Int)))
                -- leaf 15 (back)
                rw [e1]
                refine ⟨by omega, by omega, ?_, by rw [hds.2 hmod]; omega⟩
                rw [c12, el]
                simp
              ·
                show meas_PlantRuns_14 hc hf hs hd up r10 x8 (IntKind.wrap .i64 (x9 + (1 : Int))) < meas_PlantRuns_14 hc hf hs hd up x7 x8 x9
                -- leaf 16 (meas)
                unfold meas_PlantRuns_14
                rw [e1]
                omega
        ·
          have c18 : (decide (x9 < (IntKind.wrap .i64 ((IntKind.wrap .i64 (hf - (1 : Int))) * hs)))) = false := hcond
          clear hcond
          rw [e0] at c18
          have hge := of_decide_eq_false c18
          have hiT : x9 = top hc hf hs hd := by omega
          have ho := go_out (c := hc) (f := hf) (s := hs) (d := hd) (p := x7) (m := 1) (by rw [clampM_pos (by omega)]; omega)
          have hb := go_in hv (p := x7) (m := 0) (by omega) (by omega) (by rw [clampM_zero]; omega) (by rw [clampM_zero]; omega)
          rw [clampM_zero] at hb
          have hd5 := top_div hv
          refine vg_call (C := C_go) rfl rfl (xs := [.i hc, .i hf, .i hs, .i hd, .i x7, .i (1 : Int)]) rfl (fun hg => ?_) (fun rs hrs => ?_)
          ·
            exact trivial
          obtain ⟨r10, r11, hr10, hr11, rfl⟩ := go_res hrs
          clear hrs
          change Fm.holds _ _ (lk [.i hc, .i hf, .i hs, .i hd, .b up, .b r5, .b r6, .i x7, .i x8, .i x9, .i r10, .b r11])
          refine vg_call (C := C_go) rfl rfl (xs := [.i hc, .i hf, .i hs, .i hd, .i x7, .i (0 : Int)]) rfl (fun hg => ?_) (fun rs hrs => ?_)
          ·
            exact trivial
          obtain ⟨r12, r13, hr12, hr13, rfl⟩ := go_res hrs
          clear hrs
          change Fm.holds _ _ (lk [.i hc, .i hf, .i hs, .i hd, .b up, .b r5, .b r6, .i x7, .i x8, .i x9, .i r10, .b r11, .i r12, .b r13])
          rw [hb.2] at hr12
          rw [hb.1] at hr13
          rw [ho] at hr11
          refine vg_call (C := C_number) rfl rfl (xs := [.i (1 : Int), .i (2 : Int)]) rfl (fun hg => ?_) (fun rs hrs => ?_)
          ·
            simp only [gd_cons, gd_nil, and_true] at hg
            replace hg : (if (if (if (if (if r5 = true then (x8 == hf) else false) = true then (!r11) else false) = true then r13 else false) = true then (r12 == x7) else false) = true then ((x7 == (0 : Int)) == (!up)) else false) = true := hg
            refine number_mk ?_
            -- leaf 17 (pre)
            omega
          obtain ⟨r14, hr14, rfl⟩ := number_res hrs
          clear hrs
          change Fm.holds _ _ (lk [.i hc, .i hf, .i hs, .i hd, .b up, .b r5, .b r6, .i x7, .i x8, .i x9, .i r10, .b r11, .i r12, .b r13, .i r14])
          suffices hfin : ((if (if (if (if (if (if r5 = true then (x8 == hf) else false) = true then (!r11) else false) = true then r13 else false) = true then (r12 == x7) else false) = true then ((x7 == (0 : Int)) == (!up)) else false) = true then (r14 == (1 : Int)) else false)) = (true) from (c_b hfin rfl)
          -- leaf 18 (ret)
          rw [number12] at hr14
          have hmr := @mul_range hf hs (by omega) (by omega) (by omega) (by omega)
          have hTe := top_eq hv
          have e7 : x8 = hf := by rw [hlev, hiT, hd5]; omega
          have e8 : (x7 == (0 : Int)) = false := by apply beq_false_of_ne; omega
          have e9 : r12 = x7 := by omega
          simp [hr5, e7, hr11, hr13, e9, e8, c12, hr14]
end Go.Proofs.Ytdbhdpljnplolaa
