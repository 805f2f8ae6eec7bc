import Derived.Test.YtccdhkmohimfhaaDoorVRiserTimes
namespace Go.Proofs.YtccdhkmohimfhaaDoor
open Go.Vg
set_option linter.unusedVariables false
set_option linter.unusedSimpArgs false
open Go


theorem RiserTimes_sound : C_RiserTimes.Sound Tryd.prog G 5 := by
  refine fn_ok mixed stable tbl_RiserTimes [⟨14, [8, 16, 17, 83, 84, 85, 86, 87, 88, 89, 90, 91, 92, 93, 94, 95, 96, 97, 98, 99, 100, 101, 102, 103, 104, 105, 106, 107, 108, 109, 110, 111, 112, 113, 114, 115, 116, 117, 118, 119, 120, 121, 122, 123, 124, 125, 126, 127, 128, 129, 130, 131, 132, 133, 134, 135], [15], [(1, 0)], [5, 6, 7, 8], some (3, [.i64]), []⟩] Tryd.func5 (by kernel_rfl) phi_RiserTimes vc_RiserTimes ⟨first10_sound, number_sound, rnew_sound, may_sound, rpress_sound, rlit_sound, ris_sound, rclear_sound, rgen_sound, trivial⟩ inv_RiserTimes meas_RiserTimes ?_
  intro ls hp
  obtain ⟨fs, n, fl, dir, rfl, hpre⟩ := RiserTimes_pre hp
  clear hp
  rw [envOf_lk]
  unfold phi_RiserTimes
  refine vg_call (C := C_first10) rfl rfl (xs := []) rfl (fun hg => ?_) (fun rs hrs => ?_)
  ·
    exact trivial
  obtain ⟨r4, hr4, rfl⟩ := first10_res hrs
  clear hrs
  change Fm.holds _ _ (lk [.i fs, .i n, .i fl, .i dir, .b r4])
  refine ⟨fun hcond => ?_, fun hcond => ?_⟩
  ·
    have c1 : r4 = false := hcond
    clear hcond
    suffices hfin : (false) = (true) from (c_b hfin rfl)
    -- leaf 1 (ret)
    rw [hr4] at c1
    cases c1
  ·
    have c2 : r4 = true := hcond
    clear hcond
    refine vg_call (C := C_number) rfl rfl (xs := [.i fs, .i (63 : Int)]) rfl (fun hg => ?_) (fun rs hrs => ?_)
    ·
      refine number_mk ?_
      -- leaf 2 (pre)
      omega
    obtain ⟨r5, hr5, rfl⟩ := number_res hrs
    clear hrs
    change Fm.holds _ _ (lk [.i fs, .i n, .i fl, .i dir, .b r4, .i r5])
    have n5 := number_range fs (b := 63) (by omega)
    rw [← hr5] at n5
    have wF : IntKind.wrap .i64 (r5 + 2) = r5 + 2 := wrap_in (by omega) (by omega)
    refine vg_call (C := C_number) rfl rfl (xs := [.i n, .i (20 : Int)]) rfl (fun hg => ?_) (fun rs hrs => ?_)
    ·
      refine number_mk ?_
      -- leaf 3 (pre)
      omega
    obtain ⟨r6, hr6, rfl⟩ := number_res hrs
    clear hrs
    change Fm.holds _ _ (lk [.i fs, .i n, .i fl, .i dir, .b r4, .i r5, .i r6])
    have n6 := number_range n (b := 20) (by omega)
    rw [← hr6] at n6
    have wN : IntKind.wrap .i64 (r6 + 1) = r6 + 1 := wrap_in (by omega) (by omega)
    refine vg_call (C := C_number) rfl rfl (xs := [.i fl, .i (IntKind.wrap .i64 (r5 + (2 : Int)))]) rfl (fun hg => ?_) (fun rs hrs => ?_)
    ·
      refine number_mk ?_
      -- leaf 4 (pre)
      rw [wF]
      omega
    obtain ⟨r7, hr7, rfl⟩ := number_res hrs
    clear hrs
    change Fm.holds _ _ (lk [.i fs, .i n, .i fl, .i dir, .b r4, .i r5, .i r6, .i r7])
    rw [wF] at hr7
    have n7 := number_range fl (b := r5 + 2) (by omega)
    rw [← hr7] at n7
    have q7 : i64R r7 := i64_small (by omega)
    refine vg_call (C := C_number) rfl rfl (xs := [.i dir, .i (2 : Int)]) rfl (fun hg => ?_) (fun rs hrs => ?_)
    ·
      refine number_mk ?_
      -- leaf 5 (pre)
      omega
    obtain ⟨r8, hr8, rfl⟩ := number_res hrs
    clear hrs
    change Fm.holds _ _ (lk [.i fs, .i n, .i fl, .i dir, .b r4, .i r5, .i r6, .i r7, .i r8])
    have n8 := number_range dir (b := 2) (by omega)
    rw [← hr8] at n8
    have wD : IntKind.wrap .i64 (IntKind.wrap .i64 (2 * r8) - 1) = 2 * r8 - 1 := by rw [wrap_in (n := 2 * r8) (by omega) (by omega), wrap_in (by omega) (by omega)]
    have qD : i64R (2 * r8 - 1) := i64_small (by omega)
    have qf : ∀ f : Int, 0 ≤ f → f < ((r5 + 2).toNat : Nat) → i64R f := fun f h1 h2 => i64_small (by omega)
    have qd : ∀ d : Int, d = 1 ∨ d = -1 → i64R d := fun d h => i64_small (by omega)
    refine vg_call (C := C_rnew) rfl rfl (xs := [.i (IntKind.wrap .i64 (r5 + (2 : Int)))]) rfl (fun hg => ?_) (fun rs hrs => ?_)
    ·
      refine rnew_mk ?_
      -- leaf 6 (pre)
      rw [wF]
      omega
    obtain ⟨r9, r10, hr9, hr10, rfl⟩ := rnew_res hrs
    clear hrs
    change Fm.holds _ _ (lk [.i fs, .i n, .i fl, .i dir, .b r4, .i r5, .i r6, .i r7, .i r8, .l r9, .v r10])
    have z9 : r9.gi 0 0 = r5 + 2 := by rw [hr9, new_zero, wF]
    have l9 : ∀ f d, i64R f → i64R d → litR r9 f d = 0 := fun f d h1 h2 => by rw [hr9]; exact new_lit _ h1 h2
    have g9 : genR r9 r7 (2 * r8 - 1) = 0 := by rw [hr9]; exact new_gen _ q7 qD
    refine ⟨fun hcond => ?_, fun hcond => ?_⟩
    ·
      have c3 : (isNilV r10) = false := hcond
      clear hcond
      suffices hfin : (false) = (true) from (c_b hfin rfl)
      -- leaf 7 (ret)
      rw [hr10] at c3
      cases c3
    ·
      have c4 : (isNilV r10) = true := hcond
      clear hcond
      refine vg_call (C := C_may) rfl rfl (xs := [.i (IntKind.wrap .i64 (r5 + (2 : Int))), .i r7, .i (IntKind.wrap .i64 ((IntKind.wrap .i64 ((2 : Int) * r8)) - (1 : Int)))]) rfl (fun hg => ?_) (fun rs hrs => ?_)
      ·
        refine may_mk ?_
        -- leaf 8 (pre)
        rw [wF]
        omega
      obtain ⟨r11, hr11, rfl⟩ := may_res hrs
      clear hrs
      change Fm.holds _ _ (lk [.i fs, .i n, .i fl, .i dir, .b r4, .i r5, .i r6, .i r7, .i r8, .l r9, .v r10, .b r11])
      rw [wF, wD] at hr11
      refine ⟨fun hcond => ?_, fun hcond => ?_⟩
      ·
        have c5 : r11 = false := hcond
        clear hcond
        refine vg_call (C := C_rpress) rfl rfl (xs := [.l r9, .i r7, .i (IntKind.wrap .i64 ((IntKind.wrap .i64 ((2 : Int) * r8)) - (1 : Int)))]) rfl (fun hg => ?_) (fun rs hrs => ?_)
        ·
          refine rpress_mk ?_
          -- leaf 9 (pre)
          rw [z9, wD]
          omega
        obtain ⟨r12, r13, r14, r15, r16, hr12, hr13, hr14, hr15, hr16, rfl⟩ := rpress_res hrs
        clear hrs
        change Fm.holds _ _ (lk [.i fs, .i n, .i fl, .i dir, .b r4, .i r5, .i r6, .i r7, .i r8, .l r9, .v r10, .b r11, .l r12, .i r13, .i r14, .i r15, .b r16])
        rw [wD] at hr16
        suffices hfin : ((if (!r16) = true then (if (if (r7 == (0 : Int)) = true then ((IntKind.wrap .i64 ((IntKind.wrap .i64 ((2 : Int) * r8)) - (1 : Int))) == (-1)) else false) = true then true else (if (r7 == (IntKind.wrap .i64 ((IntKind.wrap .i64 (r5 + (2 : Int))) - (1 : Int)))) = true then ((IntKind.wrap .i64 ((IntKind.wrap .i64 ((2 : Int) * r8)) - (1 : Int))) == (1 : Int)) else false)) else false)) = (true) from (c_b hfin rfl)
        -- leaf 10 (ret)
        have hn : r16 = false := by
          rw [hr16, ← Bool.not_eq_true, pressIs_iff, z9]
          intro h
          rw [← hr11, c5] at h
          cases h.1
        have hm : ¬ mayP (r5 + 2) r7 (2 * r8 - 1) = true := by rw [← hr11, c5]; decide
        rw [mayP_iff] at hm
        rw [hn, wD, wF, wrap_in (n := r5 + 2 - 1) (by omega) (by omega)]
        rcases (show r8 = 0 ∨ r8 = 1 by omega) with rfl | rfl
        · have : r7 = 0 := by omega
          rw [this]
          rfl
        · have : r7 = r5 + 2 - 1 := by omega
          rw [this]
          simp
      ·
        have c6 : r11 = true := hcond
        clear hcond
        refine vg_loop rfl ?_ (fun xs hfit hi => ?_)
        ·
          show inv_RiserTimes_14 r5 r6 r7 r8 (1 : Int) r9
          -- leaf 11 (init)
          exact ⟨by omega, by omega, z9, by rw [g9]; omega, fun f d h1 h2 => by rw [l9 f d h1 h2, if_neg (fun h => by omega)]⟩
        obtain ⟨x12, xs0, rfl, hfit0⟩ := fits_i hfit
        obtain ⟨x13, xs1, rfl, hfit1⟩ := fits_l hfit0
        obtain rfl := fits_nil hfit1
        clear hfit hfit0 hfit1
        replace hi : inv_RiserTimes_14 r5 r6 r7 r8 x12 x13 := hi
        have hi14 := hi; clear hi
        change Fm.holds _ _ (lk [.i fs, .i n, .i fl, .i dir, .b r4, .i r5, .i r6, .i r7, .i r8, .l r9, .v r10, .b r11, .i x12, .l x13])
        obtain ⟨k0, k1, k2, k3, k4⟩ := hi14
        have may : mayP (r5 + 2) r7 (2 * r8 - 1) = true := hr11.symm.trans c6
        have mm := mayP_iff.1 may
        refine ⟨fun hcond => ?_, fun hcond => ?_⟩
        ·
          have c7 : (decide (x12 ≤ (IntKind.wrap .i64 (r6 + (1 : Int))))) = true := hcond
          clear hcond
          refine vg_call (C := C_rpress) rfl rfl (xs := [.l x13, .i r7, .i (IntKind.wrap .i64 ((IntKind.wrap .i64 ((2 : Int) * r8)) - (1 : Int)))]) rfl (fun hg => ?_) (fun rs hrs => ?_)
          ·
            refine rpress_mk ?_
            -- leaf 12 (pre)
            rw [k2, wD]
            omega
          obtain ⟨r14, r15, r16, r17, r18, hr14, hr15, hr16, hr17, hr18, rfl⟩ := rpress_res hrs
          clear hrs
          change Fm.holds _ _ (lk [.i fs, .i n, .i fl, .i dir, .b r4, .i r5, .i r6, .i r7, .i r8, .l r9, .v r10, .b r11, .i x12, .l x13, .l r14, .i r15, .i r16, .i r17, .b r18])
          have hle := of_decide_eq_true c7
          rw [wN] at hle
          rw [wD] at hr14 hr15 hr16 hr17 hr18
          have l13 : ∀ f d, i64R f → i64R d → litR x13 f d = 0 := fun f d h1 h2 => by rw [k4 f d h1 h2, if_neg (fun h => by omega)]
          have p : pressIs x13 r7 (2 * r8 - 1) = true := pressIs_iff.2 ⟨by rw [k2]; exact may, by rw [l13 _ _ q7 qD]; decide⟩
          have e18 : r18 = true := hr18.trans p
          rw [if_pos p] at hr15 hr16
          have wi1 : IntKind.wrap .i64 (x12 - 1 + 1) = x12 := by rw [wrap_in (by omega) (by omega)]; omega
          have e17 : r17 = x12 := by rw [hr17, press_G q7 qD, if_pos p, k3, wi1]
          have z14 : r14.gi 0 0 = r5 + 2 := by rw [hr14, press_zero q7 qD, k2]
          have l14 : ∀ f d, i64R f → i64R d → litR r14 f d = if f = r7 ∧ d = 2 * r8 - 1 then x12 else 0 := fun f d h1 h2 => by
            rw [hr14, press_lit q7 qD h1 h2, k3, wi1, l13 f d h1 h2]
            simp only [p, true_and]
          have g14 : genR r14 r7 (2 * r8 - 1) = x12 := by
            rw [hr14, press_gen q7 qD q7 qD, if_pos ⟨p, rfl, rfl⟩, k3, wi1]
          refine ⟨fun hcond => ?_, fun hcond => ?_⟩
          ·
            have c8 : (if (!r18) = true then true else (!(r17 == x12))) = false := hcond
            clear hcond
            refine vg_call (C := C_rclear) rfl rfl (xs := [.l r14, .i r7, .i (IntKind.wrap .i64 ((IntKind.wrap .i64 ((2 : Int) * r8)) - (1 : Int))), .i (IntKind.wrap .i64 (x12 - (1 : Int)))]) rfl (fun hg => ?_) (fun rs hrs => ?_)
            ·
              refine rclear_mk ?_
              -- leaf 13 (pre)
              rw [wD]
              omega
            obtain ⟨r19, r20, hr19, hr20, rfl⟩ := rclear_res hrs
            clear hrs
            change Fm.holds _ _ (lk [.i fs, .i n, .i fl, .i dir, .b r4, .i r5, .i r6, .i r7, .i r8, .l r9, .v r10, .b r11, .i x12, .l x13, .l r14, .i r15, .i r16, .i r17, .b r18, .l r19, .b r20])
            have wi2 : IntKind.wrap .i64 (x12 - 1) = x12 - 1 := wrap_in (by omega) (by omega)
            rw [wD, wi2] at hr19 hr20
            have i14 : isR r14 r7 (2 * r8 - 1) (x12 - 1) = false := isR_no (fun h => by
              rw [l14 _ _ q7 qD, if_pos ⟨rfl, rfl⟩] at h
              omega)
            rw [i14] at hr20
            rw [clear_no i14] at hr19
            have wi3 : IntKind.wrap .i64 (x12 + 1) = x12 + 1 := wrap_in (by omega) (by omega)
            refine vg_call (C := C_ris) rfl rfl (xs := [.l r19, .i r15, .i r16, .i r17]) rfl (fun hg => ?_) (fun rs hrs => ?_)
            ·
              simp only [gd_cons, gd_nil, and_true] at hg
              replace hg : r20 = false := hg
              refine ris_mk ?_
              -- leaf 14 (pre)
              rw [hr15, hr16]
              omega
            obtain ⟨r21, hr21, rfl⟩ := ris_res hrs
            clear hrs
            change Fm.holds _ _ (lk [.i fs, .i n, .i fl, .i dir, .b r4, .i r5, .i r6, .i r7, .i r8, .l r9, .v r10, .b r11, .i x12, .l x13, .l r14, .i r15, .i r16, .i r17, .b r18, .l r19, .b r20, .b r21])
            have e21 : r21 = true := by
              rw [hr21, hr15, hr16, e17, hr19]
              exact isR_iff.2 ⟨by omega, by rw [l14 _ _ q7 qD, if_pos ⟨rfl, rfl⟩]⟩
            refine ⟨fun hcond => ?_, fun hcond => ?_⟩
            ·
              have c9 : (if r20 = true then true else (!r21)) = true := hcond
              clear hcond
              suffices hfin : (false) = (true) from (c_b hfin rfl)
              -- leaf 15 (ret)
              rw [hr20, e21] at c9
              cases c9
            ·
              have c10 : (if r20 = true then true else (!r21)) = false := hcond
              clear hcond
              refine ⟨fun hcond => ?_, fun hcond => ?_⟩
              ·
                have c11 : (decide (x12 < (IntKind.wrap .i64 (r6 + (1 : Int))))) = true := hcond
                clear hcond
                refine vg_call (C := C_rclear) rfl rfl (xs := [.l r19, .i r15, .i r16, .i r17]) rfl (fun hg => ?_) (fun rs hrs => ?_)
                ·
                  refine rclear_mk ?_
                  -- leaf 16 (pre)
                  rw [hr15, hr16]
                  omega
                obtain ⟨r22, r23, hr22, hr23, rfl⟩ := rclear_res hrs
                clear hrs
                change Fm.holds _ _ (lk [.i fs, .i n, .i fl, .i dir, .b r4, .i r5, .i r6, .i r7, .i r8, .l r9, .v r10, .b r11, .i x12, .l x13, .l r14, .i r15, .i r16, .i r17, .b r18, .l r19, .b r20, .b r21, .l r22, .b r23])
                rw [hr15, hr16, e17, hr19] at hr22 hr23
                have i22 : isR r14 r7 (2 * r8 - 1) x12 = true := isR_iff.2 ⟨by omega, by rw [l14 _ _ q7 qD, if_pos ⟨rfl, rfl⟩]⟩
                have e23 : r23 = true := hr23.trans i22
                have z22 : r22.gi 0 0 = r5 + 2 := by rw [hr22, clear_zero q7 qD, z14]
                have l22 : ∀ f d, i64R f → i64R d → litR r22 f d = 0 := fun f d h1 h2 => by
                  rw [hr22, clear_lit q7 qD h1 h2, l14 f d h1 h2]
                  by_cases h : f = r7 ∧ d = 2 * r8 - 1
                  · rw [if_pos ⟨i22, h⟩]
                  · rw [if_neg (fun hh => h hh.2), if_neg h]
                have g22 : genR r22 r7 (2 * r8 - 1) = x12 := by rw [hr22, clear_gen q7 qD q7 qD, g14]
                refine ⟨fun hcond => ?_, fun hcond => ?_⟩
                ·
                  have c12 : r23 = true := hcond
                  clear hcond
                  refine vg_call (C := C_rclear) rfl rfl (xs := [.l r22, .i r15, .i r16, .i r17]) rfl (fun hg => ?_) (fun rs hrs => ?_)
                  ·
                    refine rclear_mk ?_
                    -- leaf 17 (pre)
                    rw [hr15, hr16]
                    omega
                  obtain ⟨r24, r25, hr24, hr25, rfl⟩ := rclear_res hrs
                  clear hrs
                  change Fm.holds _ _ (lk [.i fs, .i n, .i fl, .i dir, .b r4, .i r5, .i r6, .i r7, .i r8, .l r9, .v r10, .b r11, .i x12, .l x13, .l r14, .i r15, .i r16, .i r17, .b r18, .l r19, .b r20, .b r21, .l r22, .b r23, .l r24, .b r25])
                  rw [hr15, hr16, e17] at hr24 hr25
                  have i24 : isR r22 r7 (2 * r8 - 1) x12 = false := isR_no (fun h => by rw [l22 _ _ q7 qD] at h; omega)
                  rw [i24] at hr25
                  rw [clear_no i24] at hr24
                  refine ⟨fun hcond => ?_, fun hcond => ?_⟩
                  ·
                    have c13 : r25 = false := hcond
                    clear hcond
                    refine vg_call (C := C_rlit) rfl rfl (xs := [.l r24]) rfl (fun hg => ?_) (fun rs hrs => ?_)
                    ·
                      refine rlit_mk ?_
                      -- leaf 18 (pre)
                      rw [hr24, z22]
                      omega
                    obtain ⟨r26, hr26, rfl⟩ := rlit_res hrs
                    clear hrs
                    change Fm.holds _ _ (lk [.i fs, .i n, .i fl, .i dir, .b r4, .i r5, .i r6, .i r7, .i r8, .l r9, .v r10, .b r11, .i x12, .l x13, .l r14, .i r15, .i r16, .i r17, .b r18, .l r19, .b r20, .b r21, .l r22, .b r23, .l r24, .b r25, .l r26])
                    refine ⟨fun hcond => ?_, fun hcond => ?_⟩
                    ·
                      have c14 : ((r26.len : Int) == (0 : Int)) = false := hcond
                      clear hcond
                      suffices hfin : (false) = (true) from (c_b hfin rfl)
                      -- leaf 19 (ret)
                      rw [hr26, hr24, z22, lit_len, cntL_zero _ (fun f d h1 h2 h3 => by rw [l22 f d (qf f h1 h2) (qd d h3)]; decide)] at c14
                      cases c14
                    ·
                      have c15 : ((r26.len : Int) == (0 : Int)) = true := hcond
                      clear hcond
                      refine ⟨?_, ?_⟩
                      ·
                        show inv_RiserTimes_14 r5 r6 r7 r8 (IntKind.wrap .i64 (x12 + (1 : Int))) r24
                        -- leaf 20 (back)
                        have hlt := of_decide_eq_true c11
                        rw [wN] at hlt
                        rw [wi3, hr24]
                        exact ⟨by omega, by omega, z22, by rw [g22]; omega, fun f d h1 h2 => by rw [l22 f d h1 h2, if_neg (fun h => by omega)]⟩
                      ·
                        show meas_RiserTimes_14 r5 r6 r7 r8 (IntKind.wrap .i64 (x12 + (1 : Int))) r24 < meas_RiserTimes_14 r5 r6 r7 r8 x12 x13
                        -- leaf 21 (meas)
                        unfold meas_RiserTimes_14
                        rw [wi3]
                        omega
                  ·
                    have c16 : r25 = true := hcond
                    clear hcond
                    suffices hfin : (false) = (true) from (c_b hfin rfl)
                    -- leaf 22 (ret)
                    rw [hr25] at c16
                    cases c16
                ·
                  have c17 : r23 = false := hcond
                  clear hcond
                  suffices hfin : (false) = (true) from (c_b hfin rfl)
                  -- leaf 23 (ret)
                  rw [e23] at c17
                  cases c17
              ·
                have c18 : (decide (x12 < (IntKind.wrap .i64 (r6 + (1 : Int))))) = false := hcond
                clear hcond
                refine ⟨?_, ?_⟩
                ·
                  show inv_RiserTimes_14 r5 r6 r7 r8 (IntKind.wrap .i64 (x12 + (1 : Int))) r19
                  -- leaf 24 (back)
                  have hge := of_decide_eq_false c18
                  rw [wN] at hge
                  rw [wi3, hr19]
                  refine ⟨by omega, by omega, z14, by rw [g14]; omega, fun f d h1 h2 => ?_⟩
                  rw [l14 f d h1 h2]
                  by_cases h : f = r7 ∧ d = 2 * r8 - 1
                  · rw [if_pos h, if_pos ⟨h, by omega⟩]
                    omega
                  · rw [if_neg h, if_neg (fun hh => h hh.1)]
                ·
                  show meas_RiserTimes_14 r5 r6 r7 r8 (IntKind.wrap .i64 (x12 + (1 : Int))) r19 < meas_RiserTimes_14 r5 r6 r7 r8 x12 x13
                  -- leaf 25 (meas)
                  unfold meas_RiserTimes_14
                  rw [wi3]
                  omega
          ·
            have c19 : (if (!r18) = true then true else (!(r17 == x12))) = true := hcond
            clear hcond
            suffices hfin : (false) = (true) from (c_b hfin rfl)
            -- leaf 26 (ret)
            rw [e18, e17] at c19
            simp at c19
        ·
          have c20 : (decide (x12 ≤ (IntKind.wrap .i64 (r6 + (1 : Int))))) = false := hcond
          clear hcond
          refine vg_call (C := C_rlit) rfl rfl (xs := [.l x13]) rfl (fun hg => ?_) (fun rs hrs => ?_)
          ·
            refine rlit_mk ?_
            -- leaf 27 (pre)
            rw [k2]
            omega
          obtain ⟨r14, hr14, rfl⟩ := rlit_res hrs
          clear hrs
          change Fm.holds _ _ (lk [.i fs, .i n, .i fl, .i dir, .b r4, .i r5, .i r6, .i r7, .i r8, .l r9, .v r10, .b r11, .i x12, .l x13, .l r14])
          have hgt := of_decide_eq_false c20
          rw [wN] at hgt
          have ei : x12 = r6 + 2 := by omega
          have l13 : ∀ f d, i64R f → i64R d → litR x13 f d = if f = r7 ∧ d = 2 * r8 - 1 then r6 + 1 else 0 := fun f d h1 h2 => by
            rw [k4 f d h1 h2]
            by_cases h : f = r7 ∧ d = 2 * r8 - 1
            · rw [if_pos ⟨h, ei⟩, if_pos h]
            · rw [if_neg (fun hh => h hh.1), if_neg h]
          refine vg_call (C := C_rgen) rfl rfl (xs := [.l x13, .i r7, .i (IntKind.wrap .i64 ((IntKind.wrap .i64 ((2 : Int) * r8)) - (1 : Int)))]) rfl (fun hg => ?_) (fun rs hrs => ?_)
          ·
            simp only [gd_cons, gd_nil, and_true] at hg
            replace hg : ((r14.len : Int) == (1 : Int)) = true := hg
            refine rgen_mk ?_
            -- leaf 28 (pre)
            rw [wD]
            omega
          obtain ⟨r15, hr15, rfl⟩ := rgen_res hrs
          clear hrs
          change Fm.holds _ _ (lk [.i fs, .i n, .i fl, .i dir, .b r4, .i r5, .i r6, .i r7, .i r8, .l r9, .v r10, .b r11, .i x12, .l x13, .l r14, .i r15])
          suffices hfin : ((if ((r14.len : Int) == (1 : Int)) = true then (r15 == (IntKind.wrap .i64 (r6 + (1 : Int)))) else false)) = (true) from (c_b hfin rfl)
          -- leaf 29 (ret)
          rw [wD, k3] at hr15
          rw [hr14, k2, lit_len, cntL_one (r := r9) (f0 := r7) (d0 := 2 * r8 - 1) (by omega) (by omega) (by rw [l13 _ _ q7 qD, if_pos ⟨rfl, rfl⟩]; omega) (by rw [l9 _ _ q7 qD]; decide) _ (by omega) (fun f d h1 h2 h3 h4 => by
            rw [l13 f d (qf f h1 h2) (qd d h3), l9 f d (qf f h1 h2) (qd d h3), if_neg h4]),
            cntL_zero _ (fun f d h1 h2 h3 => by rw [l9 f d (qf f h1 h2) (qd d h3)]; decide), hr15, wN, ei]
          simp
          omega
end Go.Proofs.YtccdhkmohimfhaaDoor
