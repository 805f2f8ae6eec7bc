import Derived.Test.YtchjajnhbipkmaaDoorVCarStops
namespace Go.Proofs.YtchjajnhbipkmaaDoor
open Go.Vg
set_option linter.unusedVariables false
set_option linter.unusedSimpArgs false
open Go


theorem CarStops_sound : C_CarStops.Sound Tryd.prog G 10 := by
  refine fn_ok mixed stable tbl_CarStops [⟨10, [6, 11, 12, 13, 14, 39, 40, 41, 42, 43, 44, 45, 46, 47, 48, 49, 50, 51, 52, 53, 54, 55, 56, 57, 58, 59, 60, 61, 62, 63, 64, 65, 66, 67, 68, 69, 70, 71, 72, 73, 74, 75, 76, 77, 78, 79, 80, 81, 82, 83, 84, 85, 86, 87, 88, 89, 90, 91, 92, 93, 94, 95, 96, 97, 98, 99, 100, 101, 102, 103, 104, 105, 106, 107, 108, 109, 110, 111, 112, 113, 114, 115, 116, 117, 118, 119, 120, 121, 122, 123, 124, 125, 126, 127, 128, 129, 130, 131, 132, 133, 134, 135, 136, 137, 138, 139, 140, 141, 142, 143, 144], [10], [(1, 0), (1, 1), (1, 2), (1, 3), (1, 4)], [0, 1, 2, 3, 5], some (3, .i64)⟩] Tryd.func10 (by kernel_rfl) phi_CarStops vc_CarStops ⟨first16_sound, valid_sound, ctick_sound, cstart_sound, number_sound, top_sound, at_sound, hall_sound, floors_sound, trivial⟩ inv_CarStops meas_CarStops ?_
  intro ls hp
  obtain ⟨hc, hf, hs, hd, fr, l, rfl, hpre⟩ := CarStops_pre hp
  clear hp
  rw [envOf_lk]
  unfold phi_CarStops
  refine vg_call (C := C_first16) rfl rfl (xs := []) rfl (fun hg => ?_) (fun rs hrs => ?_)
  ·
    exact trivial
  obtain ⟨r6, hr6, rfl⟩ := first16_res hrs
  clear hrs
  change Fm.holds _ _ (lk [.i hc, .i hf, .i hs, .i hd, .i fr, .l l, .b r6])
  refine ⟨fun hcond => ?_, fun hcond => ?_⟩
  ·
    have c1 : r6 = false := hcond
    clear hcond
    suffices hfin : (false) = (true) from (c_b hfin rfl)
    -- leaf 1 (ret)
    simp_all
  ·
    have c2 : r6 = true := hcond
    clear hcond
    refine vg_call (C := C_valid) rfl rfl (xs := [.i hc, .i hf, .i hs, .i hd]) rfl (fun hg => ?_) (fun rs hrs => ?_)
    ·
      exact trivial
    obtain ⟨r7, hr7, rfl⟩ := valid_res hrs
    clear hrs
    change Fm.holds _ _ (lk [.i hc, .i hf, .i hs, .i hd, .i fr, .l l, .b r6, .b r7])
    refine ⟨fun hcond => ?_, fun hcond => ?_⟩
    ·
      have c3 : (if (!r7) = true then true else (decide ((60 : Int) < (l.len : Int)))) = true := hcond
      clear hcond
      suffices hfin : (r6) = (true) from (c_b hfin rfl)
      -- leaf 2 (ret)
      simp_all
    ·
      have c4 : (if (!r7) = true then true else (decide ((60 : Int) < (l.len : Int)))) = false := hcond
      clear hcond
      have h7 : r7 = true := by revert c4; cases r7 <;> simp
      have hv : valid hc hf hs hd = true := hr7.symm.trans h7
      have hlen : (l.len : Int) ≤ 60 := by
        rw [h7] at c4
        simp at c4
        omega
      have v := valid_iff.1 hv
      have ht := top_range hc hf hs hd
      refine vg_call (C := C_top) rfl rfl (xs := [.i hc, .i hf, .i hs, .i hd]) rfl (fun hg => ?_) (fun rs hrs => ?_)
      ·
        exact trivial
      obtain ⟨r8, hr8, rfl⟩ := top_res hrs
      clear hrs
      change Fm.holds _ _ (lk [.i hc, .i hf, .i hs, .i hd, .i fr, .l l, .b r6, .b r7, .i r8])
      have e10 : IntKind.wrap .i64 (r8 + 1) = r8 + 1 := wrap_in (by omega) (by omega)
      refine vg_call (C := C_number) rfl rfl (xs := [.i fr, .i (IntKind.wrap .i64 (r8 + (1 : Int)))]) rfl (fun hg => ?_) (fun rs hrs => ?_)
      ·
        refine number_mk ?_
        -- leaf 3 (pre)
        omega
      obtain ⟨r9, hr9, rfl⟩ := number_res hrs
      clear hrs
      change Fm.holds _ _ (lk [.i hc, .i hf, .i hs, .i hd, .i fr, .l l, .b r6, .b r7, .i r8, .i r9])
      have n1 := number_range fr (b := r8 + 1) (by omega)
      rw [e10] at hr9
      rw [← hr9, hr8] at n1
      have S := start_at (p := r9) hv n1.1 (by omega)
      refine vg_call (C := C_cstart) rfl rfl (xs := [.i hc, .i hf, .i hs, .i hd, .i r9]) rfl (fun hg => ?_) (fun rs hrs => ?_)
      ·
        exact trivial
      obtain ⟨r10, r11, r12, r13, r14, r15, hr10, hr11, hr12, hr13, hr14, hr15, rfl⟩ := cstart_res hrs
      clear hrs
      change Fm.holds _ _ (lk [.i hc, .i hf, .i hs, .i hd, .i fr, .l l, .b r6, .b r7, .i r8, .i r9, .i r10, .i r11, .i r12, .b r13, .i r14, .b r15])
      rw [S.1] at hr15
      simp only [S.2] at hr10 hr11 hr12 hr13 hr14
      refine ⟨fun hcond => ?_, fun hcond => ?_⟩
      ·
        have c5 : r15 = false := hcond
        clear hcond
        suffices hfin : (false) = (true) from (c_b hfin rfl)
        -- leaf 4 (ret)
        rw [hr15] at c5
        cases c5
      ·
        have c6 : r15 = true := hcond
        clear hcond
        refine vg_loop rfl ?_ (fun xs hfit hi => ?_)
        ·
          show inv_CarStops_10 hc hf hs hd l (0 : Int) r10 r11 r12 r13 r14
          -- leaf 5 (init)
          refine ⟨by omega, by omega, right_iff.2 ⟨hv, ?_, ?_, ?_, ?_, ?_, ?_⟩⟩
          · dsimp only; omega
          · dsimp only; omega
          · dsimp only; omega
          · intro h; dsimp only at h; omega
          · dsimp only
            rw [hr10, hr13]
            cases hl : level hc hf hs hd r9 with
            | true => exact .inl rfl
            | false => exact .inr (.inr rfl)
          · dsimp only; left; exact hr14
        obtain ⟨x16, xs0, rfl, hfit0⟩ := fits_i hfit
        obtain ⟨x17, xs1, rfl, hfit1⟩ := fits_i hfit0
        obtain ⟨x18, xs2, rfl, hfit2⟩ := fits_i hfit1
        obtain ⟨x19, xs3, rfl, hfit3⟩ := fits_i hfit2
        obtain ⟨x20, xs4, rfl, hfit4⟩ := fits_b hfit3
        obtain ⟨x21, xs5, rfl, hfit5⟩ := fits_i hfit4
        obtain rfl := fits_nil hfit5
        clear hfit hfit0 hfit1 hfit2 hfit3 hfit4 hfit5
        replace hi : inv_CarStops_10 hc hf hs hd l x16 x17 x18 x19 x20 x21 := hi
        have hi10 := hi; clear hi
        change Fm.holds _ _ (lk [.i hc, .i hf, .i hs, .i hd, .i fr, .l l, .b r6, .b r7, .i r8, .i r9, .i r10, .i r11, .i r12, .b r13, .i r14, .b r15, .i x16, .i x17, .i x18, .i x19, .b x20, .i x21])
        obtain ⟨i0, i1, i2⟩ := hi10
        have e1 : IntKind.wrap .i64 (x16 + 1) = x16 + 1 := wrap_in (by omega) (by omega)
        have R := right_iff.1 i2
        simp only at R
        refine ⟨fun hcond => ?_, fun hcond => ?_⟩
        ·
          have c7 : (decide (x16 < (l.len : Int))) = true := hcond
          clear hcond
          refine ⟨fun hg => ?_, ?_⟩
          ·
            show (decide ((0 : Int) ≤ x16)) = true
            -- leaf 6 (ob)
            exact decide_eq_true i0
          refine ⟨fun hg => ?_, ?_⟩
          ·
            show (decide ((0 : Int) ≤ x16)) = true
            -- leaf 7 (ob)
            exact decide_eq_true i0
          refine vg_call (C := C_ctick) rfl rfl (xs := [.i hc, .i hf, .i hs, .i hd, .i x17, .i x18, .i x19, .b x20, .i x21, .i (l.gi (Int.toNat x16) 0), .i (l.gi (Int.toNat x16) 1), .i (l.gi (Int.toNat x16) 2), .b false]) rfl (fun hg => ?_) (fun rs hrs => ?_)
          ·
            refine ctick_mk ?_
            -- leaf 8 (pre)
            omega
          obtain ⟨r22, r23, r24, r25, r26, r27, r28, r29, r30, r31, r32, r33, r34, hr22, hr23, hr24, hr25, hr26, hr27, hr28, hr29, hr30, hr31, hr32, hr33, hr34, rfl⟩ := ctick_res hrs
          clear hrs
          change Fm.holds _ _ (lk [.i hc, .i hf, .i hs, .i hd, .i fr, .l l, .b r6, .b r7, .i r8, .i r9, .i r10, .i r11, .i r12, .b r13, .i r14, .b r15, .i x16, .i x17, .i x18, .i x19, .b x20, .i x21, .i r22, .i r23, .i r24, .b r25, .i r26, .b r27, .b r28, .i r29, .i r30, .i r31, .i r32, .i r33, .i r34])
          have hlt := of_decide_eq_true c7
          have hR := (tick_right2 (s := ⟨l.gi x16.toNat 0, l.gi x16.toNat 1, l.gi x16.toNat 2⟩) (ob := false) i2 (.inl rfl)).1
          have eX : (tickP hc hf hs hd ⟨x17, x18, x19, x20, x21⟩ ⟨l.gi x16.toNat 0, l.gi x16.toNat 1, l.gi x16.toNat 2⟩ false).1 = ⟨r22, r23, r24, r25, r26⟩ := by
            rw [hr22, hr23, hr24, hr25, hr26]
          rw [eX] at hR
          have D := tick_deed (s := ⟨l.gi x16.toNat 0, l.gi x16.toNat 1, l.gi x16.toNat 2⟩) i2
          refine ⟨fun hcond => ?_, fun hcond => ?_⟩
          ·
            have c8 : r27 = true := hcond
            clear hcond
            have D2 := D.resolve_left (fun h => by rw [← hr27, c8] at h; cases h.1)
            obtain ⟨f, T, hf', hT, hst, E⟩ := D2
            rw [E] at hr22 hr23 hr24 hr25 hr26 hr27 hr28 hr29 hr30 hr31 hr32 hr33 hr34
            dsimp only at hr22 hr23 hr24 hr25 hr26 hr27 hr28 hr29 hr30 hr31 hr32 hr33 hr34
            obtain ⟨g1, g2, g3, g4⟩ := deed_stop hv hf' hT hst hr32 hr33 hr34
            refine ⟨fun hg => ?_, ?_⟩
            ·
              show (decide ((0 : Int) ≤ x16)) = true
              -- leaf 9 (ob)
              exact decide_eq_true i0
            refine vg_call (C := C_at) rfl rfl (xs := [.i (l.gi (Int.toNat x16) 0), .i (l.gi (Int.toNat x16) 1), .i (l.gi (Int.toNat x16) 2), .i r29]) rfl (fun hg => ?_) (fun rs hrs => ?_)
            ·
              exact trivial
            obtain ⟨r35, hr35, rfl⟩ := at_res hrs
            clear hrs
            change Fm.holds _ _ (lk [.i hc, .i hf, .i hs, .i hd, .i fr, .l l, .b r6, .b r7, .i r8, .i r9, .i r10, .i r11, .i r12, .b r13, .i r14, .b r15, .i x16, .i x17, .i x18, .i x19, .b x20, .i x21, .i r22, .i r23, .i r24, .b r25, .i r26, .b r27, .b r28, .i r29, .i r30, .i r31, .i r32, .i r33, .i r34, .b r35])
            rw [hr29] at hr35
            refine vg_call (C := C_hall) rfl rfl (xs := [.i (l.gi (Int.toNat x16) 0), .i (l.gi (Int.toNat x16) 1), .i (l.gi (Int.toNat x16) 2), .i r29, .i r30]) rfl (fun hg => ?_) (fun rs hrs => ?_)
            ·
              exact trivial
            obtain ⟨r36, hr36, rfl⟩ := hall_res hrs
            clear hrs
            change Fm.holds _ _ (lk [.i hc, .i hf, .i hs, .i hd, .i fr, .l l, .b r6, .b r7, .i r8, .i r9, .i r10, .i r11, .i r12, .b r13, .i r14, .b r15, .i x16, .i x17, .i x18, .i x19, .b x20, .i x21, .i r22, .i r23, .i r24, .b r25, .i r26, .b r27, .b r28, .i r29, .i r30, .i r31, .i r32, .i r33, .i r34, .b r35, .b r36])
            rw [hr29, hr30] at hr36
            refine vg_call (C := C_at) rfl rfl (xs := [.i r32, .i r33, .i r34, .i r29]) rfl (fun hg => ?_) (fun rs hrs => ?_)
            ·
              exact trivial
            obtain ⟨r37, hr37, rfl⟩ := at_res hrs
            clear hrs
            change Fm.holds _ _ (lk [.i hc, .i hf, .i hs, .i hd, .i fr, .l l, .b r6, .b r7, .i r8, .i r9, .i r10, .i r11, .i r12, .b r13, .i r14, .b r15, .i x16, .i x17, .i x18, .i x19, .b x20, .i x21, .i r22, .i r23, .i r24, .b r25, .i r26, .b r27, .b r28, .i r29, .i r30, .i r31, .i r32, .i r33, .i r34, .b r35, .b r36, .b r37])
            rw [hr29, g2, ← hr35] at hr37
            refine ⟨fun hcond => ?_, fun hcond => ?_⟩
            ·
              have c9 : (if (if (!r35) = true then (!(if (!(r30 == (0 : Int))) = true then r36 else false)) else false) = true then true else (!(r37 == r35))) = false := hcond
              clear hcond
              refine vg_call (C := C_floors) rfl rfl (xs := [.i r32, .i r33, .i r34]) rfl (fun hg => ?_) (fun rs hrs => ?_)
              ·
                exact trivial
              obtain ⟨r38, hr38, rfl⟩ := floors_res hrs
              clear hrs
              change Fm.holds _ _ (lk [.i hc, .i hf, .i hs, .i hd, .i fr, .l l, .b r6, .b r7, .i r8, .i r9, .i r10, .i r11, .i r12, .b r13, .i r14, .b r15, .i x16, .i x17, .i x18, .i x19, .b x20, .i x21, .i r22, .i r23, .i r24, .b r25, .i r26, .b r27, .b r28, .i r29, .i r30, .i r31, .i r32, .i r33, .i r34, .b r35, .b r36, .b r37, .l r38])
              rw [← hr38] at g3
              refine vg_call (C := C_hall) rfl rfl (xs := [.i r32, .i r33, .i r34, .i r29, .i (IntKind.wrap .i64 ((0 : Int) - r30))]) rfl (fun hg => ?_) (fun rs hrs => ?_)
              ·
                exact trivial
              obtain ⟨r39, hr39, rfl⟩ := hall_res hrs
              clear hrs
              change Fm.holds _ _ (lk [.i hc, .i hf, .i hs, .i hd, .i fr, .l l, .b r6, .b r7, .i r8, .i r9, .i r10, .i r11, .i r12, .b r13, .i r14, .b r15, .i x16, .i x17, .i x18, .i x19, .b x20, .i x21, .i r22, .i r23, .i r24, .b r25, .i r26, .b r27, .b r28, .i r29, .i r30, .i r31, .i r32, .i r33, .i r34, .b r35, .b r36, .b r37, .l r38, .b r39])
              rw [hr29, hr30, wrap_in (n := 0 - T) (by omega) (by omega), show (0 : Int) - T = -T by omega, g4] at hr39
              refine ⟨fun hcond => ?_, fun hcond => ?_⟩
              ·
                have c10 : (if (if (!((r38.len : Int) == (1 : Int))) = true then true else (if r39 = true then (!(r30 == (0 : Int))) else false)) = true then true else (!(r23 == r30))) = true := hcond
                clear hcond
                suffices hfin : (false) = (true) from (c_b hfin rfl)
                -- leaf 10 (ret)
                rw [g3, hr39, hr23, hr30] at c10
                simp at c10
              ·
                have c11 : (if (if (!((r38.len : Int) == (1 : Int))) = true then true else (if r39 = true then (!(r30 == (0 : Int))) else false)) = true then true else (!(r23 == r30))) = false := hcond
                clear hcond
                refine ⟨?_, ?_⟩
                ·
                  show inv_CarStops_10 hc hf hs hd l (IntKind.wrap .i64 (x16 + (1 : Int))) r22 r23 r24 r25 r26
                  -- leaf 11 (back)
                  rw [e1]
                  exact ⟨by omega, by omega, hR⟩
                ·
                  show meas_CarStops_10 hc hf hs hd l (IntKind.wrap .i64 (x16 + (1 : Int))) r22 r23 r24 r25 r26 < meas_CarStops_10 hc hf hs hd l x16 x17 x18 x19 x20 x21
                  -- leaf 12 (meas)
                  unfold meas_CarStops_10
                  rw [e1]
                  omega
            ·
              have c12 : (if (if (!r35) = true then (!(if (!(r30 == (0 : Int))) = true then r36 else false)) else false) = true then true else (!(r37 == r35))) = true := hcond
              clear hcond
              suffices hfin : (false) = (true) from (c_b hfin rfl)
              -- leaf 13 (ret)
              rw [hr37, hr35, hr36, hr30] at c12
              rcases g1 with h | ⟨h1, h2⟩
              · dsimp only at h
                rw [h] at c12
                simp at c12
              · dsimp only at h2
                rw [h2] at c12
                simp [h1] at c12
          ·
            have c13 : r27 = false := hcond
            clear hcond
            have D' : r27 = false ∧ r32 = 0 ∧ r33 = 0 ∧ r34 = 0 ∧ r30 = 0 := by
              rcases D with ⟨h1, h2, h3, h4, h5⟩ | ⟨f, T, _, _, _, E⟩
              · rw [hr27, hr32, hr33, hr34, hr30]; exact ⟨h1, h2, h3, h4, h5⟩
              · rw [E] at hr27
                rw [hr27] at c13; cases c13
            refine ⟨fun hcond => ?_, fun hcond => ?_⟩
            ·
              have c14 : (if (if (if (!(r32 == (0 : Int))) = true then true else (!(r33 == (0 : Int)))) = true then true else (!(r34 == (0 : Int)))) = true then true else (!(r30 == (0 : Int)))) = true := hcond
              clear hcond
              suffices hfin : (false) = (true) from (c_b hfin rfl)
              -- leaf 14 (ret)
              rw [D'.2.1, D'.2.2.1, D'.2.2.2.1, D'.2.2.2.2] at c14
              simp at c14
            ·
              have c15 : (if (if (if (!(r32 == (0 : Int))) = true then true else (!(r33 == (0 : Int)))) = true then true else (!(r34 == (0 : Int)))) = true then true else (!(r30 == (0 : Int)))) = false := hcond
              clear hcond
              refine ⟨?_, ?_⟩
              ·
                show inv_CarStops_10 hc hf hs hd l (IntKind.wrap .i64 (x16 + (1 : Int))) r22 r23 r24 r25 r26
                -- leaf 15 (back)
                rw [e1]
                exact ⟨by omega, by omega, hR⟩
              ·
                show meas_CarStops_10 hc hf hs hd l (IntKind.wrap .i64 (x16 + (1 : Int))) r22 r23 r24 r25 r26 < meas_CarStops_10 hc hf hs hd l x16 x17 x18 x19 x20 x21
                -- leaf 16 (meas)
                unfold meas_CarStops_10
                rw [e1]
                omega
        ·
          have c16 : (decide (x16 < (l.len : Int))) = false := hcond
          clear hcond
          suffices hfin : (r6) = (true) from (c_b hfin rfl)
          -- leaf 17 (ret)
          simp_all
end Go.Proofs.YtchjajnhbipkmaaDoor
