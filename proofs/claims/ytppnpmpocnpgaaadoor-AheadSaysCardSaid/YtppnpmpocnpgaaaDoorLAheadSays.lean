import Derived.Test.YtppnpmpocnpgaaaDoorVAheadSays
namespace Go.Proofs.YtppnpmpocnpgaaaDoor
open Go.Vg
set_option linter.unusedVariables false
set_option linter.unusedSimpArgs false
open Go


theorem AheadSays_sound : C_AheadSays.Sound Tryd.prog G 5 := by
  refine fn_ok mixed stable tbl_AheadSays [⟨9, [31, 32, 33, 34, 35, 36, 37, 38, 39, 40, 41], [15, 16], [], [2, 3, 4], some (3, .i64)⟩] Tryd.func5 (by kernel_rfl) phi_AheadSays vc_AheadSays ⟨first14_sound, floors_sound, near_sound, at_sound, hall_sound, above_sound, below_sound, other14_sound, rany_sound, same14_sound, of_sound, rof_sound, put_sound, rput_sound, rat_sound, rhall_sound, rabove_sound, rbelow_sound, toward_sound, rtoward_sound, rnear_sound, sameInts_sound, trivial⟩ inv_AheadSays meas_AheadSays ?_
  intro ls hp
  obtain ⟨fs, la, s0, s1, s2, cf, cd, fl, dir, rfl, hpre⟩ := AheadSays_pre hp
  clear hp
  rw [envOf_lk]
  unfold phi_AheadSays
  refine vg_call (C := C_first14) rfl rfl (xs := []) rfl (fun hg => ?_) (fun rs hrs => ?_)
  ·
    exact trivial
  obtain ⟨r9, hr9, rfl⟩ := first14_res hrs
  clear hrs
  change Fm.holds _ _ (lk [.l fs, .l la, .i s0, .i s1, .i s2, .i cf, .i cd, .i fl, .i dir, .b r9])
  refine ⟨fun hcond => ?_, fun hcond => ?_⟩
  ·
    have c1 : r9 = false := hcond
    clear hcond
    suffices hfin : (false) = (true) from (c_b hfin rfl)
    -- leaf 1 (ret)
    simp_all
  ·
    have c2 : r9 = true := hcond
    clear hcond
    refine ⟨fun hcond => ?_, fun hcond => ?_⟩
    ·
      have c3 : (if (decide ((40 : Int) < (fs.len : Int))) = true then true else (decide ((40 : Int) < (la.len : Int)))) = true := hcond
      clear hcond
      suffices hfin : (r9) = (true) from (c_b hfin rfl)
      -- leaf 2 (ret)
      simp_all
    ·
      have c4 : (if (decide ((40 : Int) < (fs.len : Int))) = true then true else (decide ((40 : Int) < (la.len : Int)))) = false := hcond
      clear hcond
      have hl1 : (fs.len : Int) ≤ 40 ∧ (la.len : Int) ≤ 40 := by
        revert c4
        cases h : decide ((40 : Int) < (fs.len : Int)) <;> cases h2 : decide ((40 : Int) < (la.len : Int)) <;> simp
        simp at h h2
        omega
      refine vg_call (C := C_other14) rfl rfl (xs := [.i s0, .i s1, .i s2]) rfl (fun hg => ?_) (fun rs hrs => ?_)
      ·
        exact trivial
      obtain ⟨r10, r11, r12, hr10, hr11, hr12, rfl⟩ := other14_res hrs
      clear hrs
      change Fm.holds _ _ (lk [.l fs, .l la, .i s0, .i s1, .i s2, .i cf, .i cd, .i fl, .i dir, .b r9, .i r10, .i r11, .i r12])
      refine vg_loop rfl ?_ (fun xs hfit hi => ?_)
      ·
        show inv_AheadSays_9 s0 s1 s2 nilLV (0 : Int)
        -- leaf 3 (init)
        exact ⟨by omega, by omega, lvOf_nil⟩
      obtain ⟨x13, xs0, rfl, hfit0⟩ := fits_l hfit
      obtain ⟨x14, xs1, rfl, hfit1⟩ := fits_i hfit0
      obtain rfl := fits_nil hfit1
      clear hfit hfit0 hfit1
      replace hi : inv_AheadSays_9 s0 s1 s2 x13 x14 := hi
      have hi9 := hi; clear hi
      change Fm.holds _ _ (lk [.l fs, .l la, .i s0, .i s1, .i s2, .i cf, .i cd, .i fl, .i dir, .b r9, .i r10, .i r11, .i r12, .l x13, .i x14])
      obtain ⟨i0, i1, i2⟩ := hi9
      have e1 : IntKind.wrap .i64 (x14 + 1) = x14 + 1 := wrap_in (by omega) (by omega)
      have hfl := @flo_len s0 s1 s2 x14.toNat
      have hfl2 := @flo_len s0 s1 s2 64
      have hk1 : (x14 + 1).toNat = x14.toNat + 1 := by omega
      have hki : ((x14.toNat : Nat) : Int) = x14 := by omega
      refine ⟨fun hcond => ?_, fun hcond => ?_⟩
      ·
        have c5 : (decide (x14 < (64 : Int))) = true := hcond
        clear hcond
        refine vg_call (C := C_rany) rfl rfl (xs := [.i r10, .i r11, .i r12, .i x14]) rfl (fun hg => ?_) (fun rs hrs => ?_)
        ·
          exact trivial
        obtain ⟨r15, hr15, rfl⟩ := rany_res hrs
        clear hrs
        change Fm.holds _ _ (lk [.l fs, .l la, .i s0, .i s1, .i s2, .i cf, .i cd, .i fl, .i dir, .b r9, .i r10, .i r11, .i r12, .l x13, .i x14, .b r15])
        rw [hr10, hr11, hr12] at hr15
        refine ⟨fun hcond => ?_, fun hcond => ?_⟩
        ·
          have c6 : r15 = true := hcond
          clear hcond
          refine vg_app rfl (x := x13) (y := x14) rfl rfl ?_ (fun r16 hr16 => ?_)
          ·
            show ((x13).len : Int) < 1000000000
            -- leaf 4 (app)
            rw [i2, lvOf_len]
            omega
          change Fm.holds _ _ (lk [.l fs, .l la, .i s0, .i s1, .i s2, .i cf, .i cd, .i fl, .i dir, .b r9, .i r10, .i r11, .i r12, .l x13, .i x14, .b r15, .l r16])
          refine ⟨?_, ?_⟩
          ·
            show inv_AheadSays_9 s0 s1 s2 r16 (IntKind.wrap .i64 (x14 + (1 : Int)))
            -- leaf 5 (back)
            have hlt := of_decide_eq_true c5
            rw [e1]
            refine ⟨by omega, by omega, ?_⟩
            rw [hr16, i2, snoc_of, hk1, flo_succ, hki, ← hr15, if_pos c6]
          ·
            show meas_AheadSays_9 s0 s1 s2 r16 (IntKind.wrap .i64 (x14 + (1 : Int))) < meas_AheadSays_9 s0 s1 s2 x13 x14
            -- leaf 6 (meas)
            have hlt := of_decide_eq_true c5
            unfold meas_AheadSays_9
            rw [e1]
            omega
        ·
          have c7 : r15 = false := hcond
          clear hcond
          refine ⟨?_, ?_⟩
          ·
            show inv_AheadSays_9 s0 s1 s2 x13 (IntKind.wrap .i64 (x14 + (1 : Int)))
            -- leaf 7 (back)
            have hlt := of_decide_eq_true c5
            rw [e1]
            refine ⟨by omega, by omega, ?_⟩
            rw [i2, hk1, flo_succ, hki, ← hr15, if_neg (by rw [c7]; decide)]
          ·
            show meas_AheadSays_9 s0 s1 s2 x13 (IntKind.wrap .i64 (x14 + (1 : Int))) < meas_AheadSays_9 s0 s1 s2 x13 x14
            -- leaf 8 (meas)
            have hlt := of_decide_eq_true c5
            unfold meas_AheadSays_9
            rw [e1]
            omega
      ·
        have c8 : (decide (x14 < (64 : Int))) = false := hcond
        clear hcond
        refine vg_call (C := C_of) rfl rfl (xs := [.l fs, .l la]) rfl (fun hg => ?_) (fun rs hrs => ?_)
        ·
          simp only [gd_cons, gd_nil, and_true] at hg
          replace hg : r9 = true := hg
          refine of_mk ?_
          -- leaf 9 (pre)
          omega
        obtain ⟨r15, r16, r17, hr15, hr16, hr17, rfl⟩ := of_res hrs
        clear hrs
        change Fm.holds _ _ (lk [.l fs, .l la, .i s0, .i s1, .i s2, .i cf, .i cd, .i fl, .i dir, .b r9, .i r10, .i r11, .i r12, .l x13, .i x14, .i r15, .i r16, .i r17])
        refine vg_call (C := C_rof) rfl rfl (xs := [.l fs, .l la]) rfl (fun hg => ?_) (fun rs hrs => ?_)
        ·
          simp only [gd_cons, gd_nil, and_true] at hg
          replace hg : r9 = true := hg
          refine rof_mk ?_
          -- leaf 10 (pre)
          omega
        obtain ⟨r18, r19, r20, hr18, hr19, hr20, rfl⟩ := rof_res hrs
        clear hrs
        change Fm.holds _ _ (lk [.l fs, .l la, .i s0, .i s1, .i s2, .i cf, .i cd, .i fl, .i dir, .b r9, .i r10, .i r11, .i r12, .l x13, .i x14, .i r15, .i r16, .i r17, .i r18, .i r19, .i r20])
        refine vg_call (C := C_same14) rfl rfl (xs := [.i r15, .i r16, .i r17, .i r18, .i r19, .i r20]) rfl (fun hg => ?_) (fun rs hrs => ?_)
        ·
          exact trivial
        obtain ⟨r21, hr21, rfl⟩ := same14_res hrs
        clear hrs
        change Fm.holds _ _ (lk [.l fs, .l la, .i s0, .i s1, .i s2, .i cf, .i cd, .i fl, .i dir, .b r9, .i r10, .i r11, .i r12, .l x13, .i x14, .i r15, .i r16, .i r17, .i r18, .i r19, .i r20, .b r21])
        refine vg_call (C := C_put) rfl rfl (xs := [.i s0, .i s1, .i s2, .i cf, .i cd]) rfl (fun hg => ?_) (fun rs hrs => ?_)
        ·
          exact trivial
        obtain ⟨r22, r23, r24, hr22, hr23, hr24, rfl⟩ := put_res hrs
        clear hrs
        change Fm.holds _ _ (lk [.l fs, .l la, .i s0, .i s1, .i s2, .i cf, .i cd, .i fl, .i dir, .b r9, .i r10, .i r11, .i r12, .l x13, .i x14, .i r15, .i r16, .i r17, .i r18, .i r19, .i r20, .b r21, .i r22, .i r23, .i r24])
        refine vg_call (C := C_rput) rfl rfl (xs := [.i r10, .i r11, .i r12, .i cf, .i cd]) rfl (fun hg => ?_) (fun rs hrs => ?_)
        ·
          simp only [gd_cons, gd_nil, and_true] at hg
          replace hg : r21 = true := hg
          refine rput_mk ?_
          -- leaf 11 (pre)
          rw [hr11, hr12]
          exact ⟨N_B (by omega) (by omega), N_B (by omega) (by omega)⟩
        obtain ⟨r25, r26, r27, hr25, hr26, hr27, rfl⟩ := rput_res hrs
        clear hrs
        change Fm.holds _ _ (lk [.l fs, .l la, .i s0, .i s1, .i s2, .i cf, .i cd, .i fl, .i dir, .b r9, .i r10, .i r11, .i r12, .l x13, .i x14, .i r15, .i r16, .i r17, .i r18, .i r19, .i r20, .b r21, .i r22, .i r23, .i r24, .i r25, .i r26, .i r27])
        refine vg_call (C := C_same14) rfl rfl (xs := [.i r22, .i r23, .i r24, .i r25, .i r26, .i r27]) rfl (fun hg => ?_) (fun rs hrs => ?_)
        ·
          exact trivial
        obtain ⟨r28, hr28, rfl⟩ := same14_res hrs
        clear hrs
        change Fm.holds _ _ (lk [.l fs, .l la, .i s0, .i s1, .i s2, .i cf, .i cd, .i fl, .i dir, .b r9, .i r10, .i r11, .i r12, .l x13, .i x14, .i r15, .i r16, .i r17, .i r18, .i r19, .i r20, .b r21, .i r22, .i r23, .i r24, .i r25, .i r26, .i r27, .b r28])
        refine vg_call (C := C_at) rfl rfl (xs := [.i s0, .i s1, .i s2, .i fl]) rfl (fun hg => ?_) (fun rs hrs => ?_)
        ·
          exact trivial
        obtain ⟨r29, hr29, rfl⟩ := at_res hrs
        clear hrs
        change Fm.holds _ _ (lk [.l fs, .l la, .i s0, .i s1, .i s2, .i cf, .i cd, .i fl, .i dir, .b r9, .i r10, .i r11, .i r12, .l x13, .i x14, .i r15, .i r16, .i r17, .i r18, .i r19, .i r20, .b r21, .i r22, .i r23, .i r24, .i r25, .i r26, .i r27, .b r28, .b r29])
        refine vg_call (C := C_rat) rfl rfl (xs := [.i r10, .i r11, .i r12, .i fl]) rfl (fun hg => ?_) (fun rs hrs => ?_)
        ·
          exact trivial
        obtain ⟨r30, hr30, rfl⟩ := rat_res hrs
        clear hrs
        change Fm.holds _ _ (lk [.l fs, .l la, .i s0, .i s1, .i s2, .i cf, .i cd, .i fl, .i dir, .b r9, .i r10, .i r11, .i r12, .l x13, .i x14, .i r15, .i r16, .i r17, .i r18, .i r19, .i r20, .b r21, .i r22, .i r23, .i r24, .i r25, .i r26, .i r27, .b r28, .b r29, .b r30])
        refine vg_call (C := C_hall) rfl rfl (xs := [.i s0, .i s1, .i s2, .i fl, .i dir]) rfl (fun hg => ?_) (fun rs hrs => ?_)
        ·
          exact trivial
        obtain ⟨r31, hr31, rfl⟩ := hall_res hrs
        clear hrs
        change Fm.holds _ _ (lk [.l fs, .l la, .i s0, .i s1, .i s2, .i cf, .i cd, .i fl, .i dir, .b r9, .i r10, .i r11, .i r12, .l x13, .i x14, .i r15, .i r16, .i r17, .i r18, .i r19, .i r20, .b r21, .i r22, .i r23, .i r24, .i r25, .i r26, .i r27, .b r28, .b r29, .b r30, .b r31])
        refine vg_call (C := C_rhall) rfl rfl (xs := [.i r10, .i r11, .i r12, .i fl, .i dir]) rfl (fun hg => ?_) (fun rs hrs => ?_)
        ·
          exact trivial
        obtain ⟨r32, hr32, rfl⟩ := rhall_res hrs
        clear hrs
        change Fm.holds _ _ (lk [.l fs, .l la, .i s0, .i s1, .i s2, .i cf, .i cd, .i fl, .i dir, .b r9, .i r10, .i r11, .i r12, .l x13, .i x14, .i r15, .i r16, .i r17, .i r18, .i r19, .i r20, .b r21, .i r22, .i r23, .i r24, .i r25, .i r26, .i r27, .b r28, .b r29, .b r30, .b r31, .b r32])
        refine vg_call (C := C_above) rfl rfl (xs := [.i s0, .i s1, .i s2, .i fl]) rfl (fun hg => ?_) (fun rs hrs => ?_)
        ·
          exact trivial
        obtain ⟨r33, hr33, rfl⟩ := above_res hrs
        clear hrs
        change Fm.holds _ _ (lk [.l fs, .l la, .i s0, .i s1, .i s2, .i cf, .i cd, .i fl, .i dir, .b r9, .i r10, .i r11, .i r12, .l x13, .i x14, .i r15, .i r16, .i r17, .i r18, .i r19, .i r20, .b r21, .i r22, .i r23, .i r24, .i r25, .i r26, .i r27, .b r28, .b r29, .b r30, .b r31, .b r32, .b r33])
        refine vg_call (C := C_rabove) rfl rfl (xs := [.i r10, .i r11, .i r12, .i fl]) rfl (fun hg => ?_) (fun rs hrs => ?_)
        ·
          exact trivial
        obtain ⟨r34, hr34, rfl⟩ := rabove_res hrs
        clear hrs
        change Fm.holds _ _ (lk [.l fs, .l la, .i s0, .i s1, .i s2, .i cf, .i cd, .i fl, .i dir, .b r9, .i r10, .i r11, .i r12, .l x13, .i x14, .i r15, .i r16, .i r17, .i r18, .i r19, .i r20, .b r21, .i r22, .i r23, .i r24, .i r25, .i r26, .i r27, .b r28, .b r29, .b r30, .b r31, .b r32, .b r33, .b r34])
        refine vg_call (C := C_below) rfl rfl (xs := [.i s0, .i s1, .i s2, .i fl]) rfl (fun hg => ?_) (fun rs hrs => ?_)
        ·
          exact trivial
        obtain ⟨r35, hr35, rfl⟩ := below_res hrs
        clear hrs
        change Fm.holds _ _ (lk [.l fs, .l la, .i s0, .i s1, .i s2, .i cf, .i cd, .i fl, .i dir, .b r9, .i r10, .i r11, .i r12, .l x13, .i x14, .i r15, .i r16, .i r17, .i r18, .i r19, .i r20, .b r21, .i r22, .i r23, .i r24, .i r25, .i r26, .i r27, .b r28, .b r29, .b r30, .b r31, .b r32, .b r33, .b r34, .b r35])
        refine vg_call (C := C_rbelow) rfl rfl (xs := [.i r10, .i r11, .i r12, .i fl]) rfl (fun hg => ?_) (fun rs hrs => ?_)
        ·
          exact trivial
        obtain ⟨r36, hr36, rfl⟩ := rbelow_res hrs
        clear hrs
        change Fm.holds _ _ (lk [.l fs, .l la, .i s0, .i s1, .i s2, .i cf, .i cd, .i fl, .i dir, .b r9, .i r10, .i r11, .i r12, .l x13, .i x14, .i r15, .i r16, .i r17, .i r18, .i r19, .i r20, .b r21, .i r22, .i r23, .i r24, .i r25, .i r26, .i r27, .b r28, .b r29, .b r30, .b r31, .b r32, .b r33, .b r34, .b r35, .b r36])
        refine vg_call (C := C_toward) rfl rfl (xs := [.i s0, .i s1, .i s2, .i fl, .i dir]) rfl (fun hg => ?_) (fun rs hrs => ?_)
        ·
          exact trivial
        obtain ⟨r37, hr37, rfl⟩ := toward_res hrs
        clear hrs
        change Fm.holds _ _ (lk [.l fs, .l la, .i s0, .i s1, .i s2, .i cf, .i cd, .i fl, .i dir, .b r9, .i r10, .i r11, .i r12, .l x13, .i x14, .i r15, .i r16, .i r17, .i r18, .i r19, .i r20, .b r21, .i r22, .i r23, .i r24, .i r25, .i r26, .i r27, .b r28, .b r29, .b r30, .b r31, .b r32, .b r33, .b r34, .b r35, .b r36, .b r37])
        refine vg_call (C := C_rtoward) rfl rfl (xs := [.i r10, .i r11, .i r12, .i fl, .i dir]) rfl (fun hg => ?_) (fun rs hrs => ?_)
        ·
          exact trivial
        obtain ⟨r38, hr38, rfl⟩ := rtoward_res hrs
        clear hrs
        change Fm.holds _ _ (lk [.l fs, .l la, .i s0, .i s1, .i s2, .i cf, .i cd, .i fl, .i dir, .b r9, .i r10, .i r11, .i r12, .l x13, .i x14, .i r15, .i r16, .i r17, .i r18, .i r19, .i r20, .b r21, .i r22, .i r23, .i r24, .i r25, .i r26, .i r27, .b r28, .b r29, .b r30, .b r31, .b r32, .b r33, .b r34, .b r35, .b r36, .b r37, .b r38])
        refine vg_call (C := C_near) rfl rfl (xs := [.i s0, .i s1, .i s2, .i fl]) rfl (fun hg => ?_) (fun rs hrs => ?_)
        ·
          exact trivial
        obtain ⟨r39, hr39, rfl⟩ := near_res hrs
        clear hrs
        change Fm.holds _ _ (lk [.l fs, .l la, .i s0, .i s1, .i s2, .i cf, .i cd, .i fl, .i dir, .b r9, .i r10, .i r11, .i r12, .l x13, .i x14, .i r15, .i r16, .i r17, .i r18, .i r19, .i r20, .b r21, .i r22, .i r23, .i r24, .i r25, .i r26, .i r27, .b r28, .b r29, .b r30, .b r31, .b r32, .b r33, .b r34, .b r35, .b r36, .b r37, .b r38, .i r39])
        refine vg_call (C := C_rnear) rfl rfl (xs := [.i r10, .i r11, .i r12, .i fl]) rfl (fun hg => ?_) (fun rs hrs => ?_)
        ·
          exact trivial
        obtain ⟨r40, hr40, rfl⟩ := rnear_res hrs
        clear hrs
        change Fm.holds _ _ (lk [.l fs, .l la, .i s0, .i s1, .i s2, .i cf, .i cd, .i fl, .i dir, .b r9, .i r10, .i r11, .i r12, .l x13, .i x14, .i r15, .i r16, .i r17, .i r18, .i r19, .i r20, .b r21, .i r22, .i r23, .i r24, .i r25, .i r26, .i r27, .b r28, .b r29, .b r30, .b r31, .b r32, .b r33, .b r34, .b r35, .b r36, .b r37, .b r38, .i r39, .i r40])
        refine vg_call (C := C_floors) rfl rfl (xs := [.i s0, .i s1, .i s2]) rfl (fun hg => ?_) (fun rs hrs => ?_)
        ·
          exact trivial
        obtain ⟨r41, hr41, rfl⟩ := floors_res hrs
        clear hrs
        change Fm.holds _ _ (lk [.l fs, .l la, .i s0, .i s1, .i s2, .i cf, .i cd, .i fl, .i dir, .b r9, .i r10, .i r11, .i r12, .l x13, .i x14, .i r15, .i r16, .i r17, .i r18, .i r19, .i r20, .b r21, .i r22, .i r23, .i r24, .i r25, .i r26, .i r27, .b r28, .b r29, .b r30, .b r31, .b r32, .b r33, .b r34, .b r35, .b r36, .b r37, .b r38, .i r39, .i r40, .l r41])
        refine vg_call (C := C_sameInts) rfl rfl (xs := [.l r41, .l x13]) rfl (fun hg => ?_) (fun rs hrs => ?_)
        ·
          simp only [gd_cons, gd_nil, and_true] at hg
          replace hg : (if (if (if (if (if (if (if r21 = true then r28 else false) = true then (r29 == r30) else false) = true then (r31 == r32) else false) = true then (r33 == r34) else false) = true then (r35 == r36) else false) = true then (r37 == r38) else false) = true then (r39 == r40) else false) = true := hg
          refine sameInts_mk ?_
          -- leaf 12 (pre)
          rw [hr41, i2, lvOf_len, floL_len]
          omega
        obtain ⟨r42, hr42, rfl⟩ := sameInts_res hrs
        clear hrs
        change Fm.holds _ _ (lk [.l fs, .l la, .i s0, .i s1, .i s2, .i cf, .i cd, .i fl, .i dir, .b r9, .i r10, .i r11, .i r12, .l x13, .i x14, .i r15, .i r16, .i r17, .i r18, .i r19, .i r20, .b r21, .i r22, .i r23, .i r24, .i r25, .i r26, .i r27, .b r28, .b r29, .b r30, .b r31, .b r32, .b r33, .b r34, .b r35, .b r36, .b r37, .b r38, .i r39, .i r40, .l r41, .b r42])
        suffices hfin : ((if (if (if (if (if (if (if (if r21 = true then r28 else false) = true then (r29 == r30) else false) = true then (r31 == r32) else false) = true then (r33 == r34) else false) = true then (r35 == r36) else false) = true then (r37 == r38) else false) = true then (r39 == r40) else false) = true then r42 else false)) = (true) from (c_b hfin rfl)
        -- leaf 13 (ret)
        have hge := of_decide_eq_false c8
        have h64 : x14.toNat = 64 := by omega
        have hx : x13 = floL s0 s1 s2 := by rw [i2, h64]; rfl
        have h21 : r21 = true := by rw [hr21, hr15, hr16, hr17, hr18, hr19, hr20]; simp
        have h28 : r28 = true := by rw [hr28, hr22, hr23, hr24, hr25, hr26, hr27, hr10, hr11, hr12]; simp
        simp only [hr10, hr11, hr12] at hr30 hr32 hr34 hr36 hr38 hr40
        rw [h21, h28, hr42, hr41, hx, sameL_refl, hr29, hr30, hr31, hr32, hr33, hr34, hr35, hr36, hr37, hr38, hr39, hr40]
        simp
end Go.Proofs.YtppnpmpocnpgaaaDoor
