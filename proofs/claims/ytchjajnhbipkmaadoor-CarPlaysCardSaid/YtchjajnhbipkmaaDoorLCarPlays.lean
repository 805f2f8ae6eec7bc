import Derived.Test.YtchjajnhbipkmaaDoorVCarPlays
namespace Go.Proofs.YtchjajnhbipkmaaDoor
open Go.Vg
set_option linter.unusedVariables false
set_option linter.unusedSimpArgs false
open Go


theorem CarPlays_sound : C_CarPlays.Sound Tryd.prog G 4 := by
  refine fn_ok mixed stable tbl_CarPlays [⟨10, [8, 13, 14, 15, 16, 46, 47, 48, 49, 50, 51, 52, 53, 54, 55, 56, 57, 58, 59, 60, 61, 62, 63, 64, 65, 66, 67, 68, 69, 70, 71, 72, 73, 74, 75, 76, 77, 78, 79, 80, 81, 82, 83, 84, 85, 86, 87, 88, 89, 90, 91, 92, 93, 94, 95, 96, 97, 98, 99, 100, 101, 102, 103, 104, 105, 106, 107, 108, 109, 110, 111, 112, 113, 114, 115, 116, 117, 118, 119, 120, 121, 122, 123, 124, 125, 126, 127, 128, 129, 130, 131, 132, 133, 134, 135, 136, 137, 138, 139, 140, 141, 142, 143, 144, 145, 146, 147, 148, 149, 150, 151, 152, 153, 154, 155, 156, 157, 158, 159, 160, 161, 162, 163, 164, 165, 166, 167, 168, 169, 170, 171, 172, 173, 174, 175, 176, 177, 178, 179, 180, 181, 182, 183], [12], [(1, 0), (1, 1), (1, 2), (1, 3), (1, 4)], [0, 1, 2, 3, 5], some (3, .i64)⟩] Tryd.func4 (by kernel_rfl) phi_CarPlays vc_CarPlays ⟨first16_sound, valid_sound, ctick_sound, cstart_sound, number_sound, top_sound, cright_sound, level_sound, floor_sound, trivial⟩ inv_CarPlays meas_CarPlays ?_
  intro ls hp
  obtain ⟨hc, hf, hs, hd, fr, l, obs, rfl, hpre⟩ := CarPlays_pre hp
  clear hp
  rw [envOf_lk]
  unfold phi_CarPlays
  refine vg_call (C := C_first16) rfl rfl (xs := []) rfl (fun hg => ?_) (fun rs hrs => ?_)
  ·
    exact trivial
  obtain ⟨r7, hr7, rfl⟩ := first16_res hrs
  clear hrs
  change Fm.holds _ _ (lk [.i hc, .i hf, .i hs, .i hd, .i fr, .l l, .l obs, .b r7])
  refine ⟨fun hcond => ?_, fun hcond => ?_⟩
  ·
    have c1 : r7 = false := hcond
    clear hcond
    suffices hfin : (false) = (true) from (c_b hfin rfl)
    -- leaf 1 (ret)
    simp_all
  ·
    have c2 : r7 = true := hcond
    clear hcond
    refine vg_call (C := C_valid) rfl rfl (xs := [.i hc, .i hf, .i hs, .i hd]) rfl (fun hg => ?_) (fun rs hrs => ?_)
    ·
      exact trivial
    obtain ⟨r8, hr8, rfl⟩ := valid_res hrs
    clear hrs
    change Fm.holds _ _ (lk [.i hc, .i hf, .i hs, .i hd, .i fr, .l l, .l obs, .b r7, .b r8])
    refine ⟨fun hcond => ?_, fun hcond => ?_⟩
    ·
      have c3 : (if (if (!r8) = true then true else (decide ((80 : Int) < (l.len : Int)))) = true then true else (decide ((80 : Int) < (obs.len : Int)))) = true := hcond
      clear hcond
      suffices hfin : (r7) = (true) from (c_b hfin rfl)
      -- leaf 2 (ret)
      simp_all
    ·
      have c4 : (if (if (!r8) = true then true else (decide ((80 : Int) < (l.len : Int)))) = true then true else (decide ((80 : Int) < (obs.len : Int)))) = false := hcond
      clear hcond
      have hvl : valid hc hf hs hd = true ∧ (l.len : Int) ≤ 80 := by
        rw [← hr8]
        revert c4
        cases r8 <;> simp
        intro h _
        omega
      have hv := hvl.1
      have hlen := hvl.2
      have v := valid_iff.1 hv
      have ht := top_range hc hf hs hd
      refine vg_call (C := C_top) rfl rfl (xs := [.i hc, .i hf, .i hs, .i hd]) rfl (fun hg => ?_) (fun rs hrs => ?_)
      ·
        exact trivial
      obtain ⟨r9, hr9, rfl⟩ := top_res hrs
      clear hrs
      change Fm.holds _ _ (lk [.i hc, .i hf, .i hs, .i hd, .i fr, .l l, .l obs, .b r7, .b r8, .i r9])
      have e10 : IntKind.wrap .i64 (r9 + 1) = r9 + 1 := wrap_in (by omega) (by omega)
      refine vg_call (C := C_number) rfl rfl (xs := [.i fr, .i (IntKind.wrap .i64 (r9 + (1 : Int)))]) rfl (fun hg => ?_) (fun rs hrs => ?_)
      ·
        refine number_mk ?_
        -- leaf 3 (pre)
        omega
      obtain ⟨r10, hr10, rfl⟩ := number_res hrs
      clear hrs
      change Fm.holds _ _ (lk [.i hc, .i hf, .i hs, .i hd, .i fr, .l l, .l obs, .b r7, .b r8, .i r9, .i r10])
      have n1 := number_range fr (b := r9 + 1) (by omega)
      rw [e10] at hr10
      rw [← hr10, hr9] at n1
      have S := start_at (p := r10) hv n1.1 (by omega)
      refine vg_call (C := C_cstart) rfl rfl (xs := [.i hc, .i hf, .i hs, .i hd, .i r10]) rfl (fun hg => ?_) (fun rs hrs => ?_)
      ·
        exact trivial
      obtain ⟨r11, r12, r13, r14, r15, r16, hr11, hr12, hr13, hr14, hr15, hr16, rfl⟩ := cstart_res hrs
      clear hrs
      change Fm.holds _ _ (lk [.i hc, .i hf, .i hs, .i hd, .i fr, .l l, .l obs, .b r7, .b r8, .i r9, .i r10, .i r11, .i r12, .i r13, .b r14, .i r15, .b r16])
      rw [S.1] at hr16
      simp only [S.2] at hr11 hr12 hr13 hr14 hr15
      refine ⟨fun hcond => ?_, fun hcond => ?_⟩
      ·
        have c5 : r16 = false := hcond
        clear hcond
        suffices hfin : (false) = (true) from (c_b hfin rfl)
        -- leaf 4 (ret)
        rw [hr16] at c5
        cases c5
      ·
        have c6 : r16 = true := hcond
        clear hcond
        refine vg_loop rfl ?_ (fun xs hfit hi => ?_)
        ·
          show inv_CarPlays_10 hc hf hs hd l (0 : Int) r11 r12 r13 r14 r15
          -- leaf 5 (init)
          refine ⟨by omega, by omega, ?_, by omega⟩
          rw [hr11, hr12, hr13, hr14, hr15]
          refine right_iff.2 ⟨hv, by simp only; omega, by simp only; omega, by simp only; omega, fun h => by simp only at h; omega, ?_, .inl rfl⟩
          cases level hc hf hs hd r10 <;> simp
        obtain ⟨x17, xs0, rfl, hfit0⟩ := fits_i hfit
        obtain ⟨x18, xs1, rfl, hfit1⟩ := fits_i hfit0
        obtain ⟨x19, xs2, rfl, hfit2⟩ := fits_i hfit1
        obtain ⟨x20, xs3, rfl, hfit3⟩ := fits_i hfit2
        obtain ⟨x21, xs4, rfl, hfit4⟩ := fits_b hfit3
        obtain ⟨x22, xs5, rfl, hfit5⟩ := fits_i hfit4
        obtain rfl := fits_nil hfit5
        clear hfit hfit0 hfit1 hfit2 hfit3 hfit4 hfit5
        replace hi : inv_CarPlays_10 hc hf hs hd l x17 x18 x19 x20 x21 x22 := hi
        have hi10 := hi; clear hi
        change Fm.holds _ _ (lk [.i hc, .i hf, .i hs, .i hd, .i fr, .l l, .l obs, .b r7, .b r8, .i r9, .i r10, .i r11, .i r12, .i r13, .b r14, .i r15, .b r16, .i x17, .i x18, .i x19, .i x20, .b x21, .i x22])
        obtain ⟨i0, i1, i2, i3⟩ := hi10
        have e1 : IntKind.wrap .i64 (x17 + 1) = x17 + 1 := wrap_in (by omega) (by omega)
        have R := right_iff.1 i2
        simp only at R
        have F := tick_right (s := ⟨l.gi (Int.toNat x17) 0, l.gi (Int.toNat x17) 1, l.gi (Int.toNat x17) 2⟩) (ob := if (decide (x17 < (obs.len : Int))) = true then (obs.gb (Int.toNat x17) 0) else false) i2 (by simp only; omega)
        refine ⟨fun hcond => ?_, fun hcond => ?_⟩
        ·
          have c7 : (decide (x17 < (l.len : Int))) = true := hcond
          clear hcond
          refine ⟨fun hg => ?_, ?_⟩
          ·
            show (decide ((0 : Int) ≤ x17)) = true
            -- leaf 6 (ob)
            simp; omega
          refine ⟨fun hg => ?_, ?_⟩
          ·
            show (decide ((0 : Int) ≤ x17)) = true
            -- leaf 7 (ob)
            simp; omega
          refine ⟨fun hg => ?_, ?_⟩
          ·
            simp only [gd_cons, gd_nil, and_true] at hg
            replace hg : (decide (x17 < (obs.len : Int))) = true := hg
            show (decide ((0 : Int) ≤ x17)) = true
            -- leaf 8 (ob)
            simp; omega
          refine ⟨fun hg => ?_, ?_⟩
          ·
            simp only [gd_cons, gd_nil, and_true] at hg
            replace hg : (decide (x17 < (obs.len : Int))) = true := hg
            show (decide ((0 : Int) ≤ x17)) = true
            -- leaf 9 (ob)
            simp; omega
          refine vg_call (C := C_ctick) rfl rfl (xs := [.i hc, .i hf, .i hs, .i hd, .i x18, .i x19, .i x20, .b x21, .i x22, .i (l.gi (Int.toNat x17) 0), .i (l.gi (Int.toNat x17) 1), .i (l.gi (Int.toNat x17) 2), .b (if (decide (x17 < (obs.len : Int))) = true then (obs.gb (Int.toNat x17) 0) else false)]) rfl (fun hg => ?_) (fun rs hrs => ?_)
          ·
            refine ctick_mk ?_
            -- leaf 10 (pre)
            omega
          obtain ⟨r23, r24, r25, r26, r27, r28, r29, r30, r31, r32, r33, r34, r35, hr23, hr24, hr25, hr26, hr27, hr28, hr29, hr30, hr31, hr32, hr33, hr34, hr35, rfl⟩ := ctick_res hrs
          clear hrs
          change Fm.holds _ _ (lk [.i hc, .i hf, .i hs, .i hd, .i fr, .l l, .l obs, .b r7, .b r8, .i r9, .i r10, .i r11, .i r12, .i r13, .b r14, .i r15, .b r16, .i x17, .i x18, .i x19, .i x20, .b x21, .i x22, .i r23, .i r24, .i r25, .b r26, .i r27, .b r28, .b r29, .i r30, .i r31, .i r32, .i r33, .i r34, .i r35])
          have eX : (tickP hc hf hs hd ⟨x18, x19, x20, x21, x22⟩ ⟨l.gi (Int.toNat x17) 0, l.gi (Int.toNat x17) 1, l.gi (Int.toNat x17) 2⟩ (if (decide (x17 < (obs.len : Int))) = true then (obs.gb (Int.toNat x17) 0) else false)).1 = ⟨r23, r24, r25, r26, r27⟩ := by
            rw [hr23, hr24, hr25, hr26, hr27]
          rw [eX, ← hr28, ← hr29, ← hr30, ← hr32, ← hr33, ← hr34, ← hr35] at F
          simp only at F
          obtain ⟨F1, F2, F3, F4, F5, F6, F7, F8, F9, F10⟩ := F
          refine vg_call (C := C_cright) rfl rfl (xs := [.i hc, .i hf, .i hs, .i hd, .i r23, .i r24, .i r25, .b r26, .i r27]) rfl (fun hg => ?_) (fun rs hrs => ?_)
          ·
            exact trivial
          obtain ⟨r36, hr36, rfl⟩ := cright_res hrs
          clear hrs
          change Fm.holds _ _ (lk [.i hc, .i hf, .i hs, .i hd, .i fr, .l l, .l obs, .b r7, .b r8, .i r9, .i r10, .i r11, .i r12, .i r13, .b r14, .i r15, .b r16, .i x17, .i x18, .i x19, .i x20, .b x21, .i x22, .i r23, .i r24, .i r25, .b r26, .i r27, .b r28, .b r29, .i r30, .i r31, .i r32, .i r33, .i r34, .i r35, .b r36])
          refine vg_call (C := C_level) rfl rfl (xs := [.i hc, .i hf, .i hs, .i hd, .i r23]) rfl (fun hg => ?_) (fun rs hrs => ?_)
          ·
            exact trivial
          obtain ⟨r37, hr37, rfl⟩ := level_res hrs
          clear hrs
          change Fm.holds _ _ (lk [.i hc, .i hf, .i hs, .i hd, .i fr, .l l, .l obs, .b r7, .b r8, .i r9, .i r10, .i r11, .i r12, .i r13, .b r14, .i r15, .b r16, .i x17, .i x18, .i x19, .i x20, .b x21, .i x22, .i r23, .i r24, .i r25, .b r26, .i r27, .b r28, .b r29, .i r30, .i r31, .i r32, .i r33, .i r34, .i r35, .b r36, .b r37])
          refine vg_call (C := C_floor) rfl rfl (xs := [.i hc, .i hf, .i hs, .i hd, .i r23]) rfl (fun hg => ?_) (fun rs hrs => ?_)
          ·
            exact trivial
          obtain ⟨r38, hr38, rfl⟩ := floor_res hrs
          clear hrs
          change Fm.holds _ _ (lk [.i hc, .i hf, .i hs, .i hd, .i fr, .l l, .l obs, .b r7, .b r8, .i r9, .i r10, .i r11, .i r12, .i r13, .b r14, .i r15, .b r16, .i x17, .i x18, .i x19, .i x20, .b x21, .i x22, .i r23, .i r24, .i r25, .b r26, .i r27, .b r28, .b r29, .i r30, .i r31, .i r32, .i r33, .i r34, .i r35, .b r36, .b r37, .i r38])
          have em : IntKind.wrap .i64 (r23 - x18) = r32 := by rw [wrap_in (by omega) (by omega)]; omega
          have hr36' : r36 = true := hr36.trans F1
          refine ⟨fun hcond => ?_, fun hcond => ?_⟩
          ·
            have c8 : (if (if (if (if (if (if (if (if (!r36) = true then true else (!((IntKind.wrap .i64 (r23 - x18)) == r32))) = true then true else (decide ((IntKind.wrap .i64 (r23 - x18)) < (-1)))) = true then true else (decide ((1 : Int) < (IntKind.wrap .i64 (r23 - x18))))) = true then true else (if (decide ((0 : Int) < r25)) = true then (!((IntKind.wrap .i64 (r23 - x18)) == (0 : Int))) else false)) = true then true else (if (decide ((0 : Int) < x20)) = true then (!((IntKind.wrap .i64 (r23 - x18)) == (0 : Int))) else false)) = true then true else (if r28 = true then (if (if (decide ((0 : Int) < x20)) = true then true else (!(decide ((0 : Int) < r25)))) = true then true else (!r37)) else false)) = true then true else (if r29 = true then (if (decide ((0 : Int) < r25)) = true then true else (x20 == (0 : Int))) else false)) = true then true else (!(r30 == r38))) = true := hcond
            clear hcond
            suffices hfin : (false) = (true) from (c_b hfin rfl)
            -- leaf 11 (ret)
            rw [em, hr36', ← F9.trans hr38.symm] at c8
            have g1 : (r32 == r32) = true := by simp
            have g2 : decide (r32 < -1) = false := decide_eq_false (by omega)
            have g3 : decide (1 < r32) = false := decide_eq_false (by omega)
            rw [g1, g2, g3] at c8
            rw [← hr37] at F7
            clear hr23 hr24 hr25 hr26 hr27 hr28 hr29 hr30 hr31 hr32 hr33 hr34 hr35 eX hr36 hr37 hr38
            grind
          ·
            have c9 : (if (if (if (if (if (if (if (if (!r36) = true then true else (!((IntKind.wrap .i64 (r23 - x18)) == r32))) = true then true else (decide ((IntKind.wrap .i64 (r23 - x18)) < (-1)))) = true then true else (decide ((1 : Int) < (IntKind.wrap .i64 (r23 - x18))))) = true then true else (if (decide ((0 : Int) < r25)) = true then (!((IntKind.wrap .i64 (r23 - x18)) == (0 : Int))) else false)) = true then true else (if (decide ((0 : Int) < x20)) = true then (!((IntKind.wrap .i64 (r23 - x18)) == (0 : Int))) else false)) = true then true else (if r28 = true then (if (if (decide ((0 : Int) < x20)) = true then true else (!(decide ((0 : Int) < r25)))) = true then true else (!r37)) else false)) = true then true else (if r29 = true then (if (decide ((0 : Int) < r25)) = true then true else (x20 == (0 : Int))) else false)) = true then true else (!(r30 == r38))) = false := hcond
            clear hcond
            refine ⟨fun hcond => ?_, fun hcond => ?_⟩
            ·
              have c10 : (if (if (if r28 = true then (r33 == (0 : Int)) else false) = true then (r34 == (0 : Int)) else false) = true then (r35 == (0 : Int)) else false) = true := hcond
              clear hcond
              suffices hfin : (false) = (true) from (c_b hfin rfl)
              -- leaf 12 (ret)
              have h28 : r28 = true := by revert c10; cases r28 <;> simp
              have := (F7 h28).2.2
              rw [h28] at c10
              simp at c10
              exact absurd ⟨c10.1.1, c10.1.2, c10.2⟩ this
            ·
              have c11 : (if (if (if r28 = true then (r33 == (0 : Int)) else false) = true then (r34 == (0 : Int)) else false) = true then (r35 == (0 : Int)) else false) = false := hcond
              clear hcond
              refine ⟨?_, ?_⟩
              ·
                show inv_CarPlays_10 hc hf hs hd l (IntKind.wrap .i64 (x17 + (1 : Int))) r23 r24 r25 r26 r27
                -- leaf 13 (back)
                have hlt := of_decide_eq_true c7
                rw [e1]
                exact ⟨by omega, by omega, F1, by omega⟩
              ·
                show meas_CarPlays_10 hc hf hs hd l (IntKind.wrap .i64 (x17 + (1 : Int))) r23 r24 r25 r26 r27 < meas_CarPlays_10 hc hf hs hd l x17 x18 x19 x20 x21 x22
                -- leaf 14 (meas)
                have hlt := of_decide_eq_true c7
                unfold meas_CarPlays_10
                rw [e1]
                omega
        ·
          have c12 : (decide (x17 < (l.len : Int))) = false := hcond
          clear hcond
          suffices hfin : (r7) = (true) from (c_b hfin rfl)
          -- leaf 15 (ret)
          simp_all
end Go.Proofs.YtchjajnhbipkmaaDoor
