import Derived.Test.YtchjajnhbipkmaaDoorVEtaTicks
namespace Go.Proofs.YtchjajnhbipkmaaDoor
open Go.Vg
set_option linter.unusedVariables false
set_option linter.unusedSimpArgs false
open Go


theorem EtaTicks_sound : C_EtaTicks.Sound Tryd.prog G 15 := by
  refine fn_ok mixed stable tbl_EtaTicks [⟨13, [8, 12, 13, 55, 56, 57, 58, 59, 60, 61, 62, 63, 64, 65, 66, 67, 68, 69, 70, 71, 72, 73, 74, 75, 76, 77, 78, 79, 80, 81, 82, 83, 84, 85, 86, 87, 88, 89, 90, 91, 92, 93, 94, 95, 96, 97, 98, 99, 100, 101, 102, 103, 104, 105, 106, 107, 108], [11], [(1, 0), (1, 1), (1, 2), (1, 3), (1, 4), (2, 0), (2, 1), (2, 2)], [0, 1, 2, 3, 12, 13, 18], some (3, .i64)⟩] Tryd.func15 (by kernel_rfl) phi_EtaTicks vc_EtaTicks ⟨valid_sound, ctick_sound, cright_sound, put_sound, first17_sound, rmay_sound, eta_sound, trivial⟩ inv_EtaTicks meas_EtaTicks ?_
  intro ls hp
  obtain ⟨hc, hf, hs, hd, cp, cdir, cdo, crl, ch, s0, s1, s2, fl, dr, rfl, hpre⟩ := EtaTicks_pre hp
  clear hp
  rw [envOf_lk]
  unfold phi_EtaTicks
  refine vg_call (C := C_first17) rfl rfl (xs := []) rfl (fun hg => ?_) (fun rs hrs => ?_)
  ·
    exact trivial
  obtain ⟨r14, hr14, rfl⟩ := first17_res hrs
  clear hrs
  change Fm.holds _ _ (lk [.i hc, .i hf, .i hs, .i hd, .i cp, .i cdir, .i cdo, .b crl, .i ch, .i s0, .i s1, .i s2, .i fl, .i dr, .b r14])
  refine ⟨fun hcond => ?_, fun hcond => ?_⟩
  ·
    have c1 : r14 = false := hcond
    clear hcond
    suffices hfin : (false) = (true) from (c_b hfin rfl)
    -- leaf 1 (ret)
    simp_all
  ·
    have c2 : r14 = true := hcond
    clear hcond
    refine vg_call (C := C_valid) rfl rfl (xs := [.i hc, .i hf, .i hs, .i hd]) rfl (fun hg => ?_) (fun rs hrs => ?_)
    ·
      exact trivial
    obtain ⟨r15, hr15, rfl⟩ := valid_res hrs
    clear hrs
    change Fm.holds _ _ (lk [.i hc, .i hf, .i hs, .i hd, .i cp, .i cdir, .i cdo, .b crl, .i ch, .i s0, .i s1, .i s2, .i fl, .i dr, .b r14, .b r15])
    refine ⟨fun hcond => ?_, fun hcond => ?_⟩
    ·
      have c3 : r15 = false := hcond
      clear hcond
      suffices hfin : (r14) = (true) from (c_b hfin rfl)
      -- leaf 2 (ret)
      simp_all
    ·
      have c4 : r15 = true := hcond
      clear hcond
      have hv : valid hc hf hs hd = true := hr15.symm.trans c4
      have v := valid_iff.1 hv
      refine vg_call (C := C_cright) rfl rfl (xs := [.i hc, .i hf, .i hs, .i hd, .i cp, .i cdir, .i cdo, .b crl, .i ch]) rfl (fun hg => ?_) (fun rs hrs => ?_)
      ·
        exact trivial
      obtain ⟨r16, hr16, rfl⟩ := cright_res hrs
      clear hrs
      change Fm.holds _ _ (lk [.i hc, .i hf, .i hs, .i hd, .i cp, .i cdir, .i cdo, .b crl, .i ch, .i s0, .i s1, .i s2, .i fl, .i dr, .b r14, .b r15, .b r16])
      refine vg_call (C := C_rmay) rfl rfl (xs := [.i hf, .i fl, .i dr]) rfl (fun hg => ?_) (fun rs hrs => ?_)
      ·
        simp only [gd_cons, gd_nil, and_true] at hg
        replace hg : (!r16) = false := hg
        refine rmay_mk ?_
        -- leaf 3 (pre)
        omega
      obtain ⟨r17, hr17, rfl⟩ := rmay_res hrs
      clear hrs
      change Fm.holds _ _ (lk [.i hc, .i hf, .i hs, .i hd, .i cp, .i cdir, .i cdo, .b crl, .i ch, .i s0, .i s1, .i s2, .i fl, .i dr, .b r14, .b r15, .b r16, .b r17])
      refine ⟨fun hcond => ?_, fun hcond => ?_⟩
      ·
        have c5 : (if (!r16) = true then true else (!r17)) = true := hcond
        clear hcond
        refine vg_call (C := C_eta) rfl rfl (xs := [.i hc, .i hf, .i hs, .i hd, .i cp, .i cdir, .i cdo, .b crl, .i ch, .i s0, .i s1, .i s2, .i fl, .i dr]) rfl (fun hg => ?_) (fun rs hrs => ?_)
        ·
          refine eta_mk ?_
          -- leaf 4 (pre)
          omega
        obtain ⟨r18, hr18, rfl⟩ := eta_res hrs
        clear hrs
        change Fm.holds _ _ (lk [.i hc, .i hf, .i hs, .i hd, .i cp, .i cdir, .i cdo, .b crl, .i ch, .i s0, .i s1, .i s2, .i fl, .i dr, .b r14, .b r15, .b r16, .b r17, .i r18])
        suffices hfin : ((r18 == (1048576 : Int))) = (true) from (c_b hfin rfl)
        -- leaf 5 (ret)
        rw [hr18]
        unfold etaP
        rw [if_neg]
        · rfl
        rw [← hr16, ← hr17]
        revert c5
        cases r16 <;> cases r17 <;> simp
      ·
        have c6 : (if (!r16) = true then true else (!r17)) = false := hcond
        clear hcond
        have h16 : r16 = true := by revert c6; cases r16 <;> simp
        have h17 : r17 = true := by revert c6; cases r16 <;> cases r17 <;> simp
        have hr : carRight hc hf hs hd ⟨cp, cdir, cdo, crl, ch⟩ = true := hr16.symm.trans h16
        have hm : mayP hf fl dr = true := hr17.symm.trans h17
        refine vg_call (C := C_eta) rfl rfl (xs := [.i hc, .i hf, .i hs, .i hd, .i cp, .i cdir, .i cdo, .b crl, .i ch, .i s0, .i s1, .i s2, .i fl, .i dr]) rfl (fun hg => ?_) (fun rs hrs => ?_)
        ·
          refine eta_mk ?_
          -- leaf 6 (pre)
          omega
        obtain ⟨r18, hr18, rfl⟩ := eta_res hrs
        clear hrs
        change Fm.holds _ _ (lk [.i hc, .i hf, .i hs, .i hd, .i cp, .i cdir, .i cdo, .b crl, .i ch, .i s0, .i s1, .i s2, .i fl, .i dr, .b r14, .b r15, .b r16, .b r17, .i r18])
        have hb := eta_bound (s := ⟨s0, s1, s2⟩) hr hm
        rw [← hr18] at hb
        refine ⟨fun hcond => ?_, fun hcond => ?_⟩
        ·
          have c7 : (if (decide (r18 < (1 : Int))) = true then true else (decide ((20000 : Int) < r18))) = true := hcond
          clear hcond
          suffices hfin : (false) = (true) from (c_b hfin rfl)
          -- leaf 7 (ret)
          rw [decide_eq_false (show ¬ r18 < 1 by omega), decide_eq_false (show ¬ 20000 < r18 by omega)] at c7
          simp at c7
        ·
          have c8 : (if (decide (r18 < (1 : Int))) = true then true else (decide ((20000 : Int) < r18))) = false := hcond
          clear hcond
          refine vg_call (C := C_put) rfl rfl (xs := [.i s0, .i s1, .i s2, .i fl, .i dr]) rfl (fun hg => ?_) (fun rs hrs => ?_)
          ·
            exact trivial
          obtain ⟨r19, r20, r21, hr19, hr20, hr21, rfl⟩ := put_res hrs
          clear hrs
          change Fm.holds _ _ (lk [.i hc, .i hf, .i hs, .i hd, .i cp, .i cdir, .i cdo, .b crl, .i ch, .i s0, .i s1, .i s2, .i fl, .i dr, .b r14, .b r15, .b r16, .b r17, .i r18, .i r19, .i r20, .i r21])
          refine vg_loop rfl ?_ (fun xs hfit hi => ?_)
          ·
            show inv_EtaTicks_13 hc hf hs hd fl dr r18 (1 : Int) cp cdir cdo crl ch r19 r20 r21
            -- leaf 8 (init)
            refine ⟨by omega, by omega, by omega, hr, fun _ => ?_⟩
            unfold etaP at hr18
            rw [hr, hm, Bool.and_true, if_pos rfl] at hr18
            rw [hr18, hr19, hr20, hr21]
            rfl
          obtain ⟨x22, xs0, rfl, hfit0⟩ := fits_i hfit
          obtain ⟨x23, xs1, rfl, hfit1⟩ := fits_i hfit0
          obtain ⟨x24, xs2, rfl, hfit2⟩ := fits_i hfit1
          obtain ⟨x25, xs3, rfl, hfit3⟩ := fits_i hfit2
          obtain ⟨x26, xs4, rfl, hfit4⟩ := fits_b hfit3
          obtain ⟨x27, xs5, rfl, hfit5⟩ := fits_i hfit4
          obtain ⟨x28, xs6, rfl, hfit6⟩ := fits_i hfit5
          obtain ⟨x29, xs7, rfl, hfit7⟩ := fits_i hfit6
          obtain ⟨x30, xs8, rfl, hfit8⟩ := fits_i hfit7
          obtain rfl := fits_nil hfit8
          clear hfit hfit0 hfit1 hfit2 hfit3 hfit4 hfit5 hfit6 hfit7 hfit8
          replace hi : inv_EtaTicks_13 hc hf hs hd fl dr r18 x22 x23 x24 x25 x26 x27 x28 x29 x30 := hi
          have hi13 := hi; clear hi
          change Fm.holds _ _ (lk [.i hc, .i hf, .i hs, .i hd, .i cp, .i cdir, .i cdo, .b crl, .i ch, .i s0, .i s1, .i s2, .i fl, .i dr, .b r14, .b r15, .b r16, .b r17, .i r18, .i r19, .i r20, .i r21, .i x22, .i x23, .i x24, .i x25, .b x26, .i x27, .i x28, .i x29, .i x30])
          obtain ⟨i0, i1, i2, i3, i4⟩ := hi13
          have e1 : IntKind.wrap .i64 (x22 + 1) = x22 + 1 := wrap_in (by omega) (by omega)
          have R := right_iff.1 i3
          simp only at R
          refine ⟨fun hcond => ?_, fun hcond => ?_⟩
          ·
            have c9 : (decide (x22 ≤ r18)) = true := hcond
            clear hcond
            refine vg_call (C := C_ctick) rfl rfl (xs := [.i hc, .i hf, .i hs, .i hd, .i x23, .i x24, .i x25, .b x26, .i x27, .i x28, .i x29, .i x30, .b false]) rfl (fun hg => ?_) (fun rs hrs => ?_)
            ·
              refine ctick_mk ?_
              -- leaf 9 (pre)
              omega
            obtain ⟨r31, r32, r33, r34, r35, r36, r37, r38, r39, r40, r41, r42, r43, hr31, hr32, hr33, hr34, hr35, hr36, hr37, hr38, hr39, hr40, hr41, hr42, hr43, rfl⟩ := ctick_res hrs
            clear hrs
            change Fm.holds _ _ (lk [.i hc, .i hf, .i hs, .i hd, .i cp, .i cdir, .i cdo, .b crl, .i ch, .i s0, .i s1, .i s2, .i fl, .i dr, .b r14, .b r15, .b r16, .b r17, .i r18, .i r19, .i r20, .i r21, .i x22, .i x23, .i x24, .i x25, .b x26, .i x27, .i x28, .i x29, .i x30, .i r31, .i r32, .i r33, .b r34, .i r35, .b r36, .b r37, .i r38, .i r39, .i r40, .i r41, .i r42, .i r43])
            have hle := of_decide_eq_true c9
            have hh : hitP (tickP hc hf hs hd ⟨x23, x24, x25, x26, x27⟩ ⟨x28, x29, x30⟩ false).2 fl dr = (if (if r36 = true then (r38 == fl) else false) = true then (r39 == dr) else false) := by
              unfold hitP
              rw [← hr36, ← hr38, ← hr39]
              cases r36 <;> cases (r38 == fl) <;> simp
            have eX : (tickP hc hf hs hd ⟨x23, x24, x25, x26, x27⟩ ⟨x28, x29, x30⟩ false).1 = ⟨r31, r32, r33, r34, r35⟩ := by
              rw [hr31, hr32, hr33, hr34, hr35]
            obtain ⟨k, hk⟩ : ∃ k, (1048576 - x22).toNat = k + 1 := ⟨(1048576 - x22).toNat - 1, by omega⟩
            have i5 := i4 hle
            rw [hk] at i5
            have hit : hitP (tickP hc hf hs hd ⟨x23, x24, x25, x26, x27⟩ ⟨x28, x29, x30⟩ false).2 fl dr = (x22 == r18) := by
              cases h : hitP (tickP hc hf hs hd ⟨x23, x24, x25, x26, x27⟩ ⟨x28, x29, x30⟩ false).2 fl dr with
              | true =>
                rw [etaGo_hit h] at i5
                rw [i5]; simp
              | false =>
                rw [etaGo_miss h] at i5
                have := etaGo_ge (hc := hc) (hf := hf) (hs := hs) (hd := hd) (fl := fl) (dr := dr) k (tickP hc hf hs hd ⟨x23, x24, x25, x26, x27⟩ ⟨x28, x29, x30⟩ false).1 (clearP ⟨x28, x29, x30⟩ (tickP hc hf hs hd ⟨x23, x24, x25, x26, x27⟩ ⟨x28, x29, x30⟩ false).2) (x22 + 1) (by omega)
                exact (beq_eq_false_iff_ne.2 (by omega)).symm
            refine ⟨fun hcond => ?_, fun hcond => ?_⟩
            ·
              have c10 : ((if (if r36 = true then (r38 == fl) else false) = true then (r39 == dr) else false) == (x22 == r18)) = false := hcond
              clear hcond
              suffices hfin : (false) = (true) from (c_b hfin rfl)
              -- leaf 10 (ret)
              rw [← hh, hit] at c10
              simp at c10
            ·
              have c11 : ((if (if r36 = true then (r38 == fl) else false) = true then (r39 == dr) else false) == (x22 == r18)) = true := hcond
              clear hcond
              refine ⟨?_, ?_⟩
              ·
                show inv_EtaTicks_13 hc hf hs hd fl dr r18 (IntKind.wrap .i64 (x22 + (1 : Int))) r31 r32 r33 r34 r35 (bitv .andNot .u64 x28 r41) (bitv .andNot .u64 x29 r42) (bitv .andNot .u64 x30 r43)
                -- leaf 11 (back)
                rw [e1]
                refine ⟨by omega, by omega, by omega, ?_, fun hlt => ?_⟩
                · have := (tick_right2 (s := ⟨x28, x29, x30⟩) (ob := false) i3 (.inl rfl)).1
                  rwa [eX] at this
                · rw [etaGo_miss (hit.trans (beq_eq_false_iff_ne.2 (by omega))), eX] at i5
                  rw [show (1048576 - (x22 + 1)).toNat = k by omega, ← i5]
                  simp only [bv_andNot, hr41, hr42, hr43]
                  rfl
              ·
                show meas_EtaTicks_13 hc hf hs hd fl dr r18 (IntKind.wrap .i64 (x22 + (1 : Int))) r31 r32 r33 r34 r35 (bitv .andNot .u64 x28 r41) (bitv .andNot .u64 x29 r42) (bitv .andNot .u64 x30 r43) < meas_EtaTicks_13 hc hf hs hd fl dr r18 x22 x23 x24 x25 x26 x27 x28 x29 x30
                -- leaf 12 (meas)
                have hlt := of_decide_eq_true c9
                unfold meas_EtaTicks_13
                rw [e1]
                omega
          ·
            have c12 : (decide (x22 ≤ r18)) = false := hcond
            clear hcond
            suffices hfin : (r14) = (true) from (c_b hfin rfl)
            -- leaf 13 (ret)
            simp_all
end Go.Proofs.YtchjajnhbipkmaaDoor
