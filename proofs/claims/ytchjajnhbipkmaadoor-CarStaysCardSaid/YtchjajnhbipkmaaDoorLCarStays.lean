import Derived.Test.YtchjajnhbipkmaaDoorVCarStays
namespace Go.Proofs.YtchjajnhbipkmaaDoor
open Go.Vg
set_option linter.unusedVariables false
set_option linter.unusedSimpArgs false
open Go


theorem CarStays_sound : C_CarStays.Sound Tryd.prog G 7 := by
  refine fn_ok mixed stable tbl_CarStays [⟨9, [8, 12, 13, 34, 35, 36, 37, 38, 39, 40, 41, 42, 43, 44, 45, 46, 47, 48, 49, 50, 51, 52, 53, 54, 55, 56, 57, 58, 59, 60, 61, 62, 63, 64, 65, 66, 67, 68, 69, 70, 71, 72, 73, 74, 75, 76, 77, 78, 79, 80, 81, 82, 83], [11], [(1, 0), (1, 1), (1, 2), (1, 3), (1, 4)], [0, 1, 2, 3, 9], some (3, .i64)⟩] Tryd.func7 (by kernel_rfl) phi_CarStays vc_CarStays ⟨first16_sound, valid_sound, ctick_sound, number_sound, trivial⟩ inv_CarStays meas_CarStays ?_
  intro ls hp
  obtain ⟨hc, hf, hs, hd, fl, dir, n, rfl, hpre⟩ := CarStays_pre hp
  clear hp
  rw [envOf_lk]
  unfold phi_CarStays
  refine vg_call (C := C_first16) rfl rfl (xs := []) rfl (fun hg => ?_) (fun rs hrs => ?_)
  ·
    exact trivial
  obtain ⟨r7, hr7, rfl⟩ := first16_res hrs
  clear hrs
  change Fm.holds _ _ (lk [.i hc, .i hf, .i hs, .i hd, .i fl, .i dir, .i n, .b r7])
  refine ⟨fun hcond => ?_, fun hcond => ?_⟩
  ·
    have c1 : r7 = false := hcond
    clear hcond
    suffices hfin : (false) = (true) from (c_b hfin rfl)
    -- leaf 1 (ret)
    simp_all
  ·
    have c2 : r7 = true := hcond
    clear hcond
    refine vg_call (C := C_valid) rfl rfl (xs := [.i hc, .i hf, .i hs, .i hd]) rfl (fun hg => ?_) (fun rs hrs => ?_)
    ·
      exact trivial
    obtain ⟨r8, hr8, rfl⟩ := valid_res hrs
    clear hrs
    change Fm.holds _ _ (lk [.i hc, .i hf, .i hs, .i hd, .i fl, .i dir, .i n, .b r7, .b r8])
    refine ⟨fun hcond => ?_, fun hcond => ?_⟩
    ·
      have c3 : r8 = false := hcond
      clear hcond
      suffices hfin : (r7) = (true) from (c_b hfin rfl)
      -- leaf 2 (ret)
      simp_all
    ·
      have c4 : r8 = true := hcond
      clear hcond
      have hv := hr8.symm.trans c4
      have v := valid_iff.1 hv
      have ht := top_range hc hf hs hd
      refine vg_call (C := C_number) rfl rfl (xs := [.i fl, .i hf]) rfl (fun hg => ?_) (fun rs hrs => ?_)
      ·
        refine number_mk ?_
        -- leaf 3 (pre)
        omega
      obtain ⟨r9, hr9, rfl⟩ := number_res hrs
      clear hrs
      change Fm.holds _ _ (lk [.i hc, .i hf, .i hs, .i hd, .i fl, .i dir, .i n, .b r7, .b r8, .i r9])
      have n1 := number_range fl (b := hf) (by omega)
      rw [← hr9] at n1
      have L := level_mul hv n1.1 n1.2
      have e0 : IntKind.wrap .i64 (r9 * hs) = r9 * hs := wrap_in (by omega) (by omega)
      refine vg_call (C := C_number) rfl rfl (xs := [.i dir, .i (3 : Int)]) rfl (fun hg => ?_) (fun rs hrs => ?_)
      ·
        refine number_mk ?_
        -- leaf 4 (pre)
        omega
      obtain ⟨r10, hr10, rfl⟩ := number_res hrs
      clear hrs
      change Fm.holds _ _ (lk [.i hc, .i hf, .i hs, .i hd, .i fl, .i dir, .i n, .b r7, .b r8, .i r9, .i r10])
      have n2 := number_range dir (b := 3) (by omega)
      rw [← hr10] at n2
      refine vg_loop rfl ?_ (fun xs hfit hi => ?_)
      ·
        show inv_CarStays_9 hc hf hs hd r9 (0 : Int) (IntKind.wrap .i64 (r9 * hs)) (IntKind.wrap .i64 (r10 - (1 : Int))) (0 : Int) false (0 : Int)
        -- leaf 5 (init)
        refine ⟨by omega, by omega, e0, ?_, ?_, rfl, rfl, rfl⟩ <;> (rw [wrap_in (by omega) (by omega)]; omega)
      obtain ⟨x11, xs0, rfl, hfit0⟩ := fits_i hfit
      obtain ⟨x12, xs1, rfl, hfit1⟩ := fits_i hfit0
      obtain ⟨x13, xs2, rfl, hfit2⟩ := fits_i hfit1
      obtain ⟨x14, xs3, rfl, hfit3⟩ := fits_i hfit2
      obtain ⟨x15, xs4, rfl, hfit4⟩ := fits_b hfit3
      obtain ⟨x16, xs5, rfl, hfit5⟩ := fits_i hfit4
      obtain rfl := fits_nil hfit5
      clear hfit hfit0 hfit1 hfit2 hfit3 hfit4 hfit5
      replace hi : inv_CarStays_9 hc hf hs hd r9 x11 x12 x13 x14 x15 x16 := hi
      have hi9 := hi; clear hi
      change Fm.holds _ _ (lk [.i hc, .i hf, .i hs, .i hd, .i fl, .i dir, .i n, .b r7, .b r8, .i r9, .i r10, .i x11, .i x12, .i x13, .i x14, .b x15, .i x16])
      obtain ⟨i0, i1, i2, i3, i4, i5, i6, i7⟩ := hi9
      have e1 : IntKind.wrap .i64 (x11 + 1) = x11 + 1 := wrap_in (by omega) (by omega)
      have hl : level hc hf hs hd x12 = true := by rw [i2]; exact L.2.2.1
      have hfl : floor hc hf hs hd x12 = r9 := by rw [i2]; exact L.2.2.2
      have hright : carRight hc hf hs hd ⟨x12, x13, x14, x15, x16⟩ = true := right_iff.2 ⟨hv, by simp only; omega, ⟨i3, i4⟩, by simp only; omega, fun h => by simp only at h; omega, .inl hl, .inl i7⟩
      have E : ∀ ob, tickP hc hf hs hd ⟨x12, x13, x14, x15, x16⟩ ⟨0, 0, 0⟩ ob = (⟨x12, 0, 0, false, x16⟩, ⟨false, false, floor hc hf hs hd x12, 0, 0, 0, 0, 0⟩) := fun ob => tick_empty hright i5 hl (by rw [house_empty]; exact any_zero)
      refine vg_call (C := C_number) rfl rfl (xs := [.i n, .i (30 : Int)]) rfl (fun hg => ?_) (fun rs hrs => ?_)
      ·
        refine number_mk ?_
        -- leaf 6 (pre)
        omega
      obtain ⟨r17, hr17, rfl⟩ := number_res hrs
      clear hrs
      change Fm.holds _ _ (lk [.i hc, .i hf, .i hs, .i hd, .i fl, .i dir, .i n, .b r7, .b r8, .i r9, .i r10, .i x11, .i x12, .i x13, .i x14, .b x15, .i x16, .i r17])
      have n3 := number_range n (b := 30) (by omega)
      rw [← hr17] at n3
      have e2 : IntKind.wrap .i64 (r17 + 1) = r17 + 1 := wrap_in (by omega) (by omega)
      refine ⟨fun hcond => ?_, fun hcond => ?_⟩
      ·
        have c5 : (decide (x11 < (IntKind.wrap .i64 (r17 + (1 : Int))))) = true := hcond
        clear hcond
        refine vg_call (C := C_ctick) rfl rfl (xs := [.i hc, .i hf, .i hs, .i hd, .i x12, .i x13, .i x14, .b x15, .i x16, .i (0 : Int), .i (0 : Int), .i (0 : Int), .b ((Int.tmod x11 (2 : Int)) == (0 : Int))]) rfl (fun hg => ?_) (fun rs hrs => ?_)
        ·
          refine ctick_mk ?_
          -- leaf 7 (pre)
          omega
        obtain ⟨r18, r19, r20, r21, r22, r23, r24, r25, r26, r27, r28, r29, r30, hr18, hr19, hr20, hr21, hr22, hr23, hr24, hr25, hr26, hr27, hr28, hr29, hr30, rfl⟩ := ctick_res hrs
        clear hrs
        change Fm.holds _ _ (lk [.i hc, .i hf, .i hs, .i hd, .i fl, .i dir, .i n, .b r7, .b r8, .i r9, .i r10, .i x11, .i x12, .i x13, .i x14, .b x15, .i x16, .i r17, .i r18, .i r19, .i r20, .b r21, .i r22, .b r23, .b r24, .i r25, .i r26, .i r27, .i r28, .i r29, .i r30])
        simp only [E] at hr18 hr19 hr20 hr21 hr22 hr23 hr24 hr25 hr26 hr27 hr28 hr29 hr30
        refine ⟨fun hcond => ?_, fun hcond => ?_⟩
        ·
          have c6 : (if (if (if (if (if r23 = true then true else r24) = true then true else (!(r27 == (0 : Int)))) = true then true else (!(r25 == r9))) = true then true else (!(r18 == x12))) = true then true else (!(r19 == (0 : Int)))) = true := hcond
          clear hcond
          suffices hfin : (false) = (true) from (c_b hfin rfl)
          -- leaf 8 (ret)
          rw [hr23, hr24, hr27, hr25, hfl, hr18, hr19] at c6
          simp at c6
        ·
          have c7 : (if (if (if (if (if r23 = true then true else r24) = true then true else (!(r27 == (0 : Int)))) = true then true else (!(r25 == r9))) = true then true else (!(r18 == x12))) = true then true else (!(r19 == (0 : Int)))) = false := hcond
          clear hcond
          refine ⟨?_, ?_⟩
          ·
            show inv_CarStays_9 hc hf hs hd r9 (IntKind.wrap .i64 (x11 + (1 : Int))) r18 r19 r20 r21 r22
            -- leaf 9 (back)
            have hlt := of_decide_eq_true c5
            rw [e2] at hlt
            rw [e1, hr18, hr19, hr20, hr21, hr22]
            exact ⟨by omega, by omega, i2, by omega, by omega, rfl, rfl, i7⟩
          ·
            show meas_CarStays_9 hc hf hs hd r9 (IntKind.wrap .i64 (x11 + (1 : Int))) r18 r19 r20 r21 r22 < meas_CarStays_9 hc hf hs hd r9 x11 x12 x13 x14 x15 x16
            -- leaf 10 (meas)
            have hlt := of_decide_eq_true c5
            rw [e2] at hlt
            unfold meas_CarStays_9
            rw [e1]
            omega
      ·
        have c8 : (decide (x11 < (IntKind.wrap .i64 (r17 + (1 : Int))))) = false := hcond
        clear hcond
        suffices hfin : (r7) = (true) from (c_b hfin rfl)
        -- leaf 11 (ret)
        simp_all
end Go.Proofs.YtchjajnhbipkmaaDoor
