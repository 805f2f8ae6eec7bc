import Derived.Test.YtchjajnhbipkmaaDoorVCarServes
namespace Go.Proofs.YtchjajnhbipkmaaDoor
open Go.Vg
set_option linter.unusedVariables false
set_option linter.unusedSimpArgs false
open Go


theorem CarServes_sound : C_CarServes.Sound Tryd.prog G 5 := by
  refine fn_ok mixed stable tbl_CarServes [⟨11, [43, 44, 45, 46, 47, 48, 49, 50, 51, 52, 53, 54, 55, 56, 57], [10, 11], [], [1, 5], some (tagB, [.i64]), []⟩, ⟨17, [15, 16, 74, 75, 76, 77, 78, 79, 80, 81, 82, 83, 84, 85, 86, 87, 88, 89, 90, 91, 92, 93], [14], [(1, 0), (1, 1), (1, 2), (1, 3), (1, 4), (2, 0)], [0, 1, 2, 3, 16], some (3, [.i64]), []⟩] Tryd.func5 (by kernel_rfl) phi_CarServes vc_CarServes ⟨first16_sound, valid_sound, ctick_sound, cstart_sound, number_sound, top_sound, level_sound, putS_sound, of_sound, trivial⟩ inv_CarServes meas_CarServes ?_
  intro ls hp
  obtain ⟨hc, hf, hs, hd, fr, fs, rfl, hpre⟩ := CarServes_pre hp
  clear hp
  rw [envOf_lk]
  unfold phi_CarServes
  refine vg_call (C := C_first16) rfl rfl (xs := []) rfl (fun hg => ?_) (fun rs hrs => ?_)
  ·
    exact trivial
  obtain ⟨r6, hr6, rfl⟩ := first16_res hrs
  clear hrs
  change Fm.holds _ _ (lk [.i hc, .i hf, .i hs, .i hd, .i fr, .l fs, .b r6])
  refine ⟨fun hcond => ?_, fun hcond => ?_⟩
  ·
    have c1 : r6 = false := hcond
    clear hcond
    suffices hfin : (false) = (true) from (c_b hfin rfl)
    -- leaf 1 (ret)
    simp_all
  ·
    have c2 : r6 = true := hcond
    clear hcond
    refine vg_call (C := C_valid) rfl rfl (xs := [.i hc, .i hf, .i hs, .i hd]) rfl (fun hg => ?_) (fun rs hrs => ?_)
    ·
      exact trivial
    obtain ⟨r7, hr7, rfl⟩ := valid_res hrs
    clear hrs
    change Fm.holds _ _ (lk [.i hc, .i hf, .i hs, .i hd, .i fr, .l fs, .b r6, .b r7])
    refine ⟨fun hcond => ?_, fun hcond => ?_⟩
    ·
      have c3 : (if (!r7) = true then true else (decide ((10 : Int) < (fs.len : Int)))) = true := hcond
      clear hcond
      suffices hfin : (r6) = (true) from (c_b hfin rfl)
      -- leaf 2 (ret)
      simp_all
    ·
      have c4 : (if (!r7) = true then true else (decide ((10 : Int) < (fs.len : Int)))) = false := hcond
      clear hcond
      have hvl : valid hc hf hs hd = true ∧ (fs.len : Int) ≤ 10 := by
        rw [← hr7]
        revert c4
        cases r7 <;> simp
      have hv := hvl.1
      have hlen := hvl.2
      have v := valid_iff.1 hv
      have ht := top_range hc hf hs hd
      have hte := top_eq hv
      refine vg_call (C := C_top) rfl rfl (xs := [.i hc, .i hf, .i hs, .i hd]) rfl (fun hg => ?_) (fun rs hrs => ?_)
      ·
        exact trivial
      obtain ⟨r8, hr8, rfl⟩ := top_res hrs
      clear hrs
      change Fm.holds _ _ (lk [.i hc, .i hf, .i hs, .i hd, .i fr, .l fs, .b r6, .b r7, .i r8])
      have e10 : IntKind.wrap .i64 (r8 + 1) = r8 + 1 := wrap_in (by omega) (by omega)
      refine vg_call (C := C_number) rfl rfl (xs := [.i fr, .i (IntKind.wrap .i64 (r8 + (1 : Int)))]) rfl (fun hg => ?_) (fun rs hrs => ?_)
      ·
        refine number_mk ?_
        -- leaf 3 (pre)
        omega
      obtain ⟨r9, hr9, rfl⟩ := number_res hrs
      clear hrs
      change Fm.holds _ _ (lk [.i hc, .i hf, .i hs, .i hd, .i fr, .l fs, .b r6, .b r7, .i r8, .i r9])
      have n1 := number_range fr (b := r8 + 1) (by omega)
      rw [e10] at hr9
      rw [← hr9, hr8] at n1
      have S := start_at (p := r9) hv n1.1 (by omega)
      refine vg_call (C := C_cstart) rfl rfl (xs := [.i hc, .i hf, .i hs, .i hd, .i r9]) rfl (fun hg => ?_) (fun rs hrs => ?_)
      ·
        exact trivial
      obtain ⟨r10, r11, r12, r13, r14, r15, hr10, hr11, hr12, hr13, hr14, hr15, rfl⟩ := cstart_res hrs
      clear hrs
      change Fm.holds _ _ (lk [.i hc, .i hf, .i hs, .i hd, .i fr, .l fs, .b r6, .b r7, .i r8, .i r9, .i r10, .i r11, .i r12, .b r13, .i r14, .b r15])
      rw [S.1] at hr15
      simp only [S.2] at hr10 hr11 hr12 hr13 hr14
      refine ⟨fun hcond => ?_, fun hcond => ?_⟩
      ·
        have c5 : r15 = false := hcond
        clear hcond
        suffices hfin : (false) = (true) from (c_b hfin rfl)
        -- leaf 4 (ret)
        rw [hr15] at c5
        cases c5
      ·
        have c6 : r15 = true := hcond
        clear hcond
        refine vg_loop rfl ?_ (fun xs hfit hi => ?_)
        ·
          show inv_CarServes_11 hf fs nilLV (0 : Int)
          -- leaf 5 (init)
          exact ⟨by omega, by omega, by show ((0 : Nat) : Int) ≤ 0; omega, fun j hj => absurd hj (Nat.not_lt_zero j)⟩
        obtain ⟨x16, xs0, rfl, hfit0⟩ := fits_l hfit
        obtain ⟨x17, xs1, rfl, hfit1⟩ := fits_i hfit0
        obtain rfl := fits_nil hfit1
        clear hfit hfit0 hfit1
        replace hi : inv_CarServes_11 hf fs x16 x17 := hi
        have hi11 := hi; clear hi
        change Fm.holds _ _ (lk [.i hc, .i hf, .i hs, .i hd, .i fr, .l fs, .b r6, .b r7, .i r8, .i r9, .i r10, .i r11, .i r12, .b r13, .i r14, .b r15, .l x16, .i x17])
        obtain ⟨i0, i1, i2, i3⟩ := hi11
        have e1 : IntKind.wrap .i64 (x17 + 1) = x17 + 1 := wrap_in (by omega) (by omega)
        have hxl : (x16.len : Int) ≤ 10 := by omega
        refine ⟨fun hcond => ?_, fun hcond => ?_⟩
        ·
          have c7 : (decide (x17 < (fs.len : Int))) = true := hcond
          clear hcond
          refine ⟨fun hg => ?_, ?_⟩
          ·
            show (decide ((0 : Int) ≤ x17)) = true
            -- leaf 6 (ob)
            exact decide_eq_true i0
          refine vg_call (C := C_number) rfl rfl (xs := [.i (fs.gi (Int.toNat x17) 0), .i hf]) rfl (fun hg => ?_) (fun rs hrs => ?_)
          ·
            refine number_mk ?_
            -- leaf 7 (pre)
            omega
          obtain ⟨r18, hr18, rfl⟩ := number_res hrs
          clear hrs
          change Fm.holds _ _ (lk [.i hc, .i hf, .i hs, .i hd, .i fr, .l fs, .b r6, .b r7, .i r8, .i r9, .i r10, .i r11, .i r12, .b r13, .i r14, .b r15, .l x16, .i x17, .i r18])
          have n2 := number_range (fs.gi (Int.toNat x17) 0) (b := hf) (by omega)
          rw [← hr18] at n2
          refine vg_call (C := C_putS) rfl rfl (xs := [.l x16, .i r18]) rfl (fun hg => ?_) (fun rs hrs => ?_)
          ·
            refine putS_mk ?_
            -- leaf 8 (pre)
            omega
          obtain ⟨r19, hr19, rfl⟩ := putS_res hrs
          clear hrs
          change Fm.holds _ _ (lk [.i hc, .i hf, .i hs, .i hd, .i fr, .l fs, .b r6, .b r7, .i r8, .i r9, .i r10, .i r11, .i r12, .b r13, .i r14, .b r15, .l x16, .i x17, .i r18, .l r19])
          refine ⟨?_, ?_⟩
          ·
            show inv_CarServes_11 hf fs r19 (IntKind.wrap .i64 (x17 + (1 : Int)))
            -- leaf 9 (back)
            have hlt := of_decide_eq_true c7
            rw [e1]
            obtain ⟨P1, P2⟩ := putV_facts n2 i3
            rw [← hr19] at P1 P2
            exact ⟨by omega, by omega, by omega, P2⟩
          ·
            show meas_CarServes_11 hf fs r19 (IntKind.wrap .i64 (x17 + (1 : Int))) < meas_CarServes_11 hf fs x16 x17
            -- leaf 10 (meas)
            have hlt := of_decide_eq_true c7
            unfold meas_CarServes_11
            rw [e1]
            omega
        ·
          have c8 : (decide (x17 < (fs.len : Int))) = false := hcond
          clear hcond
          refine vg_call (C := C_of) rfl rfl (xs := [.l x16, _]) rfl (fun hg => ?_) (fun rs hrs => ?_)
          ·
            refine of_mk ?_
            -- leaf 11 (pre)
            exact ⟨by omega, by show ((0 : Nat) : Int) ≤ _; omega⟩
          obtain ⟨r18, r19, r20, hr18, hr19, hr20, rfl⟩ := of_res hrs
          clear hrs
          change Fm.holds _ _ (lk [.i hc, .i hf, .i hs, .i hd, .i fr, .l fs, .b r6, .b r7, .i r8, .i r9, .i r10, .i r11, .i r12, .b r13, .i r14, .b r15, .l x16, .i x17, .i r18, .i r19, .i r20])
          refine vg_call (C := C_top) rfl rfl (xs := [.i hc, .i hf, .i hs, .i hd]) rfl (fun hg => ?_) (fun rs hrs => ?_)
          ·
            exact trivial
          obtain ⟨r21, hr21, rfl⟩ := top_res hrs
          clear hrs
          change Fm.holds _ _ (lk [.i hc, .i hf, .i hs, .i hd, .i fr, .l fs, .b r6, .b r7, .i r8, .i r9, .i r10, .i r11, .i r12, .b r13, .i r14, .b r15, .l x16, .i x17, .i r18, .i r19, .i r20, .i r21])
          have e19 : r19 = 0 := hr19
          have e20 : r20 = 0 := hr20
          have m1 : 0 ≤ (hd + 2) * ((x16.len : Int) + 1) := Int.mul_nonneg (by omega) (by omega)
          have m2 : (hd + 2) * ((x16.len : Int) + 1) ≤ 10 * 11 := Int.mul_le_mul (by omega) (by omega) (by omega) (by omega)
          have m3 : (hd + 2) * ((x16.len : Int) + 1) = (hd + 1) * (x16.len : Int) + x16.len + hd + 2 := by grind
          have wM : IntKind.wrap .i64 ((IntKind.wrap .i64 (hs + (IntKind.wrap .i64 ((3 : Int) * r21)))) + (IntKind.wrap .i64 ((IntKind.wrap .i64 (hd + (2 : Int))) * (IntKind.wrap .i64 ((x16.len : Int) + (1 : Int)))))) = hs + 3 * top hc hf hs hd + (hd + 2) * ((x16.len : Int) + 1) := by
            rw [hr21, wrap_in (n := 3 * top hc hf hs hd) (by omega) (by omega), wrap_in (n := hs + 3 * top hc hf hs hd) (by omega) (by omega), wrap_in (n := hd + 2) (by omega) (by omega), wrap_in (n := (x16.len : Int) + 1) (by omega) (by omega), wrap_in (n := (hd + 2) * ((x16.len : Int) + 1)) (by omega) (by omega), wrap_in (by omega) (by omega)]
          have hr0 : carRight hc hf hs hd ⟨r9, 0, 0, !level hc hf hs hd r9, 0⟩ = true := by
            refine right_iff.2 ⟨hv, by dsimp only; omega, by dsimp only; omega, by dsimp only; omega, fun h => by dsimp only at h; omega, ?_, .inl rfl⟩
            dsimp only
            cases hl : level hc hf hs hd r9 with
            | true => exact .inl rfl
            | false => exact .inr (.inr rfl)
          have G0 := good_start (l := x16) hr0
          have g18 : N (B r18) = r18 := by rw [hr18]; exact ofCar_N _ _
          have b18 : ∀ x, isb r18 x = true → x < hf := fun x hx => by rw [hr18] at hx; exact of_bits i3 x16.len (Nat.le_refl _) x hx
          refine vg_loop rfl ?_ (fun xs hfit hi => ?_)
          ·
            show inv_CarServes_17 hc hf hs hd x16 (0 : Int) r10 r11 r12 r13 r14 r18
            -- leaf 12 (init)
            refine ⟨by omega, by omega, by rw [hr10, hr11, hr12, hr13, hr14]; exact hr0, g18, b18, ?_⟩
            rw [hr10, hr11, hr12, hr13, hr14, hr18]
            exact good_more G0 (by omega)
          obtain ⟨x22, xs0, rfl, hfit0⟩ := fits_i hfit
          obtain ⟨x23, xs1, rfl, hfit1⟩ := fits_i hfit0
          obtain ⟨x24, xs2, rfl, hfit2⟩ := fits_i hfit1
          obtain ⟨x25, xs3, rfl, hfit3⟩ := fits_i hfit2
          obtain ⟨x26, xs4, rfl, hfit4⟩ := fits_b hfit3
          obtain ⟨x27, xs5, rfl, hfit5⟩ := fits_i hfit4
          obtain ⟨x28, xs6, rfl, hfit6⟩ := fits_i hfit5
          obtain rfl := fits_nil hfit6
          clear hfit hfit0 hfit1 hfit2 hfit3 hfit4 hfit5 hfit6
          replace hi : inv_CarServes_17 hc hf hs hd x16 x22 x23 x24 x25 x26 x27 x28 := hi
          have hi17 := hi; clear hi
          change Fm.holds _ _ (lk [.i hc, .i hf, .i hs, .i hd, .i fr, .l fs, .b r6, .b r7, .i r8, .i r9, .i r10, .i r11, .i r12, .b r13, .i r14, .b r15, .l x16, .i x17, .i r18, .i r19, .i r20, .i r21, .i x22, .i x23, .i x24, .i x25, .b x26, .i x27, .i x28])
          obtain ⟨j0, j1, j2, j3, j4, j5⟩ := hi17
          have R := right_iff.1 j2
          simp only at R
          have e2 : IntKind.wrap .i64 (x22 + 1) = x22 + 1 := wrap_in (by omega) (by omega)
          refine ⟨fun hcond => ?_, fun hcond => ?_⟩
          ·
            have c9 : (decide (x22 < (IntKind.wrap .i64 ((IntKind.wrap .i64 (hs + (IntKind.wrap .i64 ((3 : Int) * r21)))) + (IntKind.wrap .i64 ((IntKind.wrap .i64 (hd + (2 : Int))) * (IntKind.wrap .i64 ((x16.len : Int) + (1 : Int))))))))) = true := hcond
            clear hcond
            refine vg_call (C := C_ctick) rfl rfl (xs := [.i hc, .i hf, .i hs, .i hd, .i x23, .i x24, .i x25, .b x26, .i x27, .i x28, .i r19, .i r20, .b false]) rfl (fun hg => ?_) (fun rs hrs => ?_)
            ·
              refine ctick_mk ?_
              -- leaf 13 (pre)
              omega
            obtain ⟨r29, r30, r31, r32, r33, r34, r35, r36, r37, r38, r39, r40, r41, hr29, hr30, hr31, hr32, hr33, hr34, hr35, hr36, hr37, hr38, hr39, hr40, hr41, rfl⟩ := ctick_res hrs
            clear hrs
            change Fm.holds _ _ (lk [.i hc, .i hf, .i hs, .i hd, .i fr, .l fs, .b r6, .b r7, .i r8, .i r9, .i r10, .i r11, .i r12, .b r13, .i r14, .b r15, .l x16, .i x17, .i r18, .i r19, .i r20, .i r21, .i x22, .i x23, .i x24, .i x25, .b x26, .i x27, .i x28, .i r29, .i r30, .i r31, .b r32, .i r33, .b r34, .b r35, .i r36, .i r37, .i r38, .i r39, .i r40, .i r41])
            have hlt := of_decide_eq_true c9
            rw [wM] at hlt
            obtain ⟨G1, G2⟩ := good_step j2 (by omega) j5
            rw [e19, e20] at hr29 hr30 hr31 hr32 hr33 hr34 hr35 hr36 hr37 hr38 hr39 hr40 hr41
            rw [clear_car, ← hr39] at G2
            have eX : (tickP hc hf hs hd ⟨x23, x24, x25, x26, x27⟩ ⟨x28, 0, 0⟩ false).1 = ⟨r29, r30, r31, r32, r33⟩ := by
              rw [hr29, hr30, hr31, hr32, hr33]
            rw [eX] at G1 G2
            refine ⟨?_, ?_⟩
            ·
              show inv_CarServes_17 hc hf hs hd x16 (IntKind.wrap .i64 (x22 + (1 : Int))) r29 r30 r31 r32 r33 (bitv .andNot .u64 x28 r39)
              -- leaf 14 (back)
              rw [e2]
              refine ⟨by omega, by omega, G1, by simp only [bv_andNot, B_N], fun x hx => ?_, ?_⟩
              · rw [bv_andNot, isb_andNot] at hx
                simp only [Bool.and_eq_true] at hx
                exact j4 x hx.1
              · rw [bv_andNot]
                exact good_more G2 (by omega)
            ·
              show meas_CarServes_17 hc hf hs hd x16 (IntKind.wrap .i64 (x22 + (1 : Int))) r29 r30 r31 r32 r33 (bitv .andNot .u64 x28 r39) < meas_CarServes_17 hc hf hs hd x16 x22 x23 x24 x25 x26 x27 x28
              -- leaf 15 (meas)
              unfold meas_CarServes_17
              rw [e2]
              omega
          ·
            have c10 : (decide (x22 < (IntKind.wrap .i64 ((IntKind.wrap .i64 (hs + (IntKind.wrap .i64 ((3 : Int) * r21)))) + (IntKind.wrap .i64 ((IntKind.wrap .i64 (hd + (2 : Int))) * (IntKind.wrap .i64 ((x16.len : Int) + (1 : Int))))))))) = false := hcond
            clear hcond
            refine vg_call (C := C_ctick) rfl rfl (xs := [.i hc, .i hf, .i hs, .i hd, .i x23, .i x24, .i x25, .b x26, .i x27, .i x28, .i r19, .i r20, .b false]) rfl (fun hg => ?_) (fun rs hrs => ?_)
            ·
              refine ctick_mk ?_
              -- leaf 16 (pre)
              omega
            obtain ⟨r29, r30, r31, r32, r33, r34, r35, r36, r37, r38, r39, r40, r41, hr29, hr30, hr31, hr32, hr33, hr34, hr35, hr36, hr37, hr38, hr39, hr40, hr41, rfl⟩ := ctick_res hrs
            clear hrs
            change Fm.holds _ _ (lk [.i hc, .i hf, .i hs, .i hd, .i fr, .l fs, .b r6, .b r7, .i r8, .i r9, .i r10, .i r11, .i r12, .b r13, .i r14, .b r15, .l x16, .i x17, .i r18, .i r19, .i r20, .i r21, .i x22, .i x23, .i x24, .i x25, .b x26, .i x27, .i x28, .i r29, .i r30, .i r31, .b r32, .i r33, .b r34, .b r35, .i r36, .i r37, .i r38, .i r39, .i r40, .i r41])
            have hge := of_decide_eq_false c10
            rw [wM] at hge
            rw [show max (hs + 3 * top hc hf hs hd + (hd + 2) * ((x16.len : Int) + 1) - x22) 0 = 0 by omega] at j5
            obtain ⟨G1, G2, G3⟩ := good_end j2 j5
            have z28 := car_zero hv j3 j4 G1
            rw [e19, e20, tick_empty j2 G3 G2 G1] at hr29 hr30 hr31 hr32 hr33 hr34 hr35 hr36 hr37 hr38 hr39 hr40 hr41
            dsimp only at hr29 hr30 hr31 hr32 hr33 hr34 hr35 hr36 hr37 hr38 hr39 hr40 hr41 G2 G3
            refine vg_call (C := C_level) rfl rfl (xs := [.i hc, .i hf, .i hs, .i hd, .i r29]) rfl (fun hg => ?_) (fun rs hrs => ?_)
            ·
              exact trivial
            obtain ⟨r42, hr42, rfl⟩ := level_res hrs
            clear hrs
            change Fm.holds _ _ (lk [.i hc, .i hf, .i hs, .i hd, .i fr, .l fs, .b r6, .b r7, .i r8, .i r9, .i r10, .i r11, .i r12, .b r13, .i r14, .b r15, .l x16, .i x17, .i r18, .i r19, .i r20, .i r21, .i x22, .i x23, .i x24, .i x25, .b x26, .i x27, .i x28, .i r29, .i r30, .i r31, .b r32, .i r33, .b r34, .b r35, .i r36, .i r37, .i r38, .i r39, .i r40, .i r41, .b r42])
            suffices hfin : ((if (if (if (if (x28 == (0 : Int)) = true then (r38 == (0 : Int)) else false) = true then (!r34) else false) = true then (r31 == (0 : Int)) else false) = true then r42 else false)) = (true) from (c_b hfin rfl)
            -- leaf 17 (ret)
            rw [hr42, hr29, hr31, hr34, hr38, z28, G2]
            rfl
end Go.Proofs.YtchjajnhbipkmaaDoor
