import Derived.Test.YtchjajnhbipkmaaDoorVCarPasses
namespace Go.Proofs.YtchjajnhbipkmaaDoor
open Go.Vg
set_option linter.unusedVariables false
set_option linter.unusedSimpArgs false
open Go


theorem CarPasses_sound : C_CarPasses.Sound Tryd.prog G 9 := by
  refine fn_ok mixed stable tbl_CarPasses [⟨14, [13, 14, 51, 52, 53, 54, 55, 56, 57, 58, 59, 60, 61, 62, 63, 64, 65, 66, 67, 68, 69, 70, 71, 72, 73, 74, 75, 76, 77, 78, 79, 80, 81, 82, 83, 84, 85, 86, 87, 88, 89, 90, 91, 92, 93, 94, 95], [11, 12], [(1, 0), (1, 1), (1, 2), (1, 3), (1, 4), (3, 0), (3, 2)], [0, 1, 2, 3, 8, 9], some (3, .i64)⟩] Tryd.func9 (by kernel_rfl) phi_CarPasses vc_CarPasses ⟨first16_sound, valid_sound, ctick_sound, cstart_sound, number_sound, of_sound, put_sound, trivial⟩ inv_CarPasses meas_CarPasses ?_
  intro ls hp
  obtain ⟨hc, hf, hs, hd, at_, to_, rfl, hpre⟩ := CarPasses_pre hp
  clear hp
  rw [envOf_lk]
  unfold phi_CarPasses
  refine vg_call (C := C_first16) rfl rfl (xs := []) rfl (fun hg => ?_) (fun rs hrs => ?_)
  ·
    exact trivial
  obtain ⟨r6, hr6, rfl⟩ := first16_res hrs
  clear hrs
  change Fm.holds _ _ (lk [.i hc, .i hf, .i hs, .i hd, .i at_, .i to_, .b r6])
  refine ⟨fun hcond => ?_, fun hcond => ?_⟩
  ·
    have c1 : r6 = false := hcond
    clear hcond
    suffices hfin : (false) = (true) from (c_b hfin rfl)
    -- leaf 1 (ret)
    simp_all
  ·
    have c2 : r6 = true := hcond
    clear hcond
    refine vg_call (C := C_valid) rfl rfl (xs := [.i hc, .i hf, .i hs, .i hd]) rfl (fun hg => ?_) (fun rs hrs => ?_)
    ·
      exact trivial
    obtain ⟨r7, hr7, rfl⟩ := valid_res hrs
    clear hrs
    change Fm.holds _ _ (lk [.i hc, .i hf, .i hs, .i hd, .i at_, .i to_, .b r6, .b r7])
    refine ⟨fun hcond => ?_, fun hcond => ?_⟩
    ·
      have c3 : (if (!r7) = true then true else (decide (hf < (3 : Int)))) = true := hcond
      clear hcond
      suffices hfin : (r6) = (true) from (c_b hfin rfl)
      -- leaf 2 (ret)
      simp_all
    ·
      have c4 : (if (!r7) = true then true else (decide (hf < (3 : Int)))) = false := hcond
      clear hcond
      have h7 : r7 = true := by revert c4; cases r7 <;> simp
      have hv : valid hc hf hs hd = true := hr7.symm.trans h7
      have v := valid_iff.1 hv
      have h3 : 3 ≤ hf := by
        rw [h7] at c4
        simp at c4
        exact c4
      have wf : IntKind.wrap .i64 (hf - 2) = hf - 2 := wrap_in (by omega) (by omega)
      refine vg_call (C := C_number) rfl rfl (xs := [.i to_, .i (IntKind.wrap .i64 (hf - (2 : Int)))]) rfl (fun hg => ?_) (fun rs hrs => ?_)
      ·
        refine number_mk ?_
        -- leaf 3 (pre)
        rw [wf]
        omega
      obtain ⟨r8, hr8, rfl⟩ := number_res hrs
      clear hrs
      change Fm.holds _ _ (lk [.i hc, .i hf, .i hs, .i hd, .i at_, .i to_, .b r6, .b r7, .i r8])
      have n1 := number_range to_ (b := hf - 2) (by omega)
      rw [wf] at hr8
      rw [← hr8] at n1
      have w8 : IntKind.wrap .i64 (r8 + 2) = r8 + 2 := wrap_in (by omega) (by omega)
      have w8b : IntKind.wrap .i64 (r8 + 2 - 1) = r8 + 1 := by rw [wrap_in (by omega) (by omega)]; omega
      refine vg_call (C := C_number) rfl rfl (xs := [.i at_, .i (IntKind.wrap .i64 ((IntKind.wrap .i64 (r8 + (2 : Int))) - (1 : Int)))]) rfl (fun hg => ?_) (fun rs hrs => ?_)
      ·
        refine number_mk ?_
        -- leaf 4 (pre)
        rw [w8, w8b]
        omega
      obtain ⟨r9, hr9, rfl⟩ := number_res hrs
      clear hrs
      change Fm.holds _ _ (lk [.i hc, .i hf, .i hs, .i hd, .i at_, .i to_, .b r6, .b r7, .i r8, .i r9])
      have n2 := number_range at_ (b := r8 + 1) (by omega)
      rw [w8, w8b] at hr9
      rw [← hr9] at n2
      have w9 : IntKind.wrap .i64 (r9 + 1) = r9 + 1 := wrap_in (by omega) (by omega)
      have L0 := level_mul hv (fl := 0) (by omega) (by omega)
      rw [Int.zero_mul] at L0
      have S := start_at (p := 0) hv L0.1 L0.2.1
      have LT := level_mul hv (fl := r8 + 2) (by omega) (by omega)
      have LA := level_mul hv (fl := r9 + 1) (by omega) (by omega)
      have htr := top_range hc hf hs hd
      have hte := top_eq hv
      have m1 : (r9 + 1) * hs < (r8 + 2) * hs := Int.mul_lt_mul_of_pos_right (by omega) (by omega)
      have m2 : (hf - 1) * hs = hf * hs - hs := by rw [Int.sub_mul, Int.one_mul]
      have m3 : (2 * hf) * (hs + 1) = 2 * (hf * hs) + 2 * hf := by grind
      have m4 : hf * hs ≤ 64 * 8 := Int.mul_le_mul (by omega) (by omega) (by omega) (by omega)
      have m5 : 0 ≤ hf * hs := Int.mul_nonneg (by omega) (by omega)
      have wB : IntKind.wrap .i64 ((IntKind.wrap .i64 ((IntKind.wrap .i64 ((IntKind.wrap .i64 ((2 : Int) * hf)) * (IntKind.wrap .i64 (hs + (1 : Int))))) + (IntKind.wrap .i64 ((4 : Int) * hd)))) + (8 : Int)) = 2 * (hf * hs) + 2 * hf + 4 * hd + 8 := by
        rw [wrap_in (n := 2 * hf) (by omega) (by omega), wrap_in (n := hs + 1) (by omega) (by omega), m3, wrap_in (n := 2 * (hf * hs) + 2 * hf) (by omega) (by omega), wrap_in (n := 4 * hd) (by omega) (by omega), wrap_in (n := 2 * (hf * hs) + 2 * hf + 4 * hd) (by omega) (by omega), wrap_in (by omega) (by omega)]
      refine vg_call (C := C_cstart) rfl rfl (xs := [.i hc, .i hf, .i hs, .i hd, .i (0 : Int)]) rfl (fun hg => ?_) (fun rs hrs => ?_)
      ·
        exact trivial
      obtain ⟨r10, r11, r12, r13, r14, r15, hr10, hr11, hr12, hr13, hr14, hr15, rfl⟩ := cstart_res hrs
      clear hrs
      change Fm.holds _ _ (lk [.i hc, .i hf, .i hs, .i hd, .i at_, .i to_, .b r6, .b r7, .i r8, .i r9, .i r10, .i r11, .i r12, .b r13, .i r14, .b r15])
      rw [S.1] at hr15
      simp only [S.2, L0.2.2.1] at hr10 hr11 hr12 hr13 hr14
      refine ⟨fun hcond => ?_, fun hcond => ?_⟩
      ·
        have c5 : r15 = false := hcond
        clear hcond
        suffices hfin : (false) = (true) from (c_b hfin rfl)
        -- leaf 5 (ret)
        rw [hr15] at c5
        cases c5
      ·
        have c6 : r15 = true := hcond
        clear hcond
        refine vg_call (C := C_of) rfl rfl (xs := [_, _]) rfl (fun hg => ?_) (fun rs hrs => ?_)
        ·
          refine of_mk ?_
          -- leaf 6 (pre)
          constructor <;> simp [cellsLV]
        obtain ⟨r16, r17, r18, hr16, hr17, hr18, rfl⟩ := of_res hrs
        clear hrs
        change Fm.holds _ _ (lk [.i hc, .i hf, .i hs, .i hd, .i at_, .i to_, .b r6, .b r7, .i r8, .i r9, .i r10, .i r11, .i r12, .b r13, .i r14, .b r15, .i r16, .i r17, .i r18])
        have e16 : r16 = put1 0 (IntKind.wrap .i64 (r8 + 2)) (okf (IntKind.wrap .i64 (r8 + 2))) := hr16
        have e17 : r17 = 0 := hr17
        have e18 : r18 = 0 := hr18
        have okT : okf (r8 + 2) = true := okf_iff.2 (by omega)
        have okA : okf (r9 + 1) = true := okf_iff.2 (by omega)
        refine vg_call (C := C_put) rfl rfl (xs := [.i r16, .i r17, .i r18, .i (IntKind.wrap .i64 (r9 + (1 : Int))), .i (-1)]) rfl (fun hg => ?_) (fun rs hrs => ?_)
        ·
          exact trivial
        obtain ⟨r19, r20, r21, hr19, hr20, hr21, rfl⟩ := put_res hrs
        clear hrs
        change Fm.holds _ _ (lk [.i hc, .i hf, .i hs, .i hd, .i at_, .i to_, .b r6, .b r7, .i r8, .i r9, .i r10, .i r11, .i r12, .b r13, .i r14, .b r15, .i r16, .i r17, .i r18, .i r19, .i r20, .i r21])
        have f19 : r19 = bitI (r8 + 2) := by rw [hr19, e16, w8, okT, bit_put okT]
        have f20 : r20 = 0 := by
          rw [hr20, e17, w9]
          unfold put1
          rw [if_neg]
          simp
        have f21 : r21 = bitI (r9 + 1) := by
          rw [hr21, e18, w9, okA, show (true && (-1 : Int) == -1) = true by rfl, bit_put okA]
        refine vg_loop rfl ?_ (fun xs hfit hi => ?_)
        ·
          show inv_CarPasses_14 hc hf hs hd r8 r9 nilLV (0 : Int) r10 r11 r12 r13 r14 r19 r21
          -- leaf 7 (init)
          refine ⟨⟨right_iff.2 ⟨hv, ?_, ?_, ?_, ?_, ?_, ?_⟩, hr14, hr13, by omega, .inl ⟨hr10, ?_, hr12, .inr ⟨hr11, rfl⟩, f19, f21, lvOf_nil⟩⟩, by omega⟩
          · dsimp only; omega
          · dsimp only; omega
          · dsimp only; omega
          · intro h; dsimp only at h; omega
          · left; rw [hr10]; exact L0.2.2.1
          · dsimp only; left; exact hr14
          · exact LT.1
        obtain ⟨x22, xs0, rfl, hfit0⟩ := fits_l hfit
        obtain ⟨x23, xs1, rfl, hfit1⟩ := fits_i hfit0
        obtain ⟨x24, xs2, rfl, hfit2⟩ := fits_i hfit1
        obtain ⟨x25, xs3, rfl, hfit3⟩ := fits_i hfit2
        obtain ⟨x26, xs4, rfl, hfit4⟩ := fits_i hfit3
        obtain ⟨x27, xs5, rfl, hfit5⟩ := fits_b hfit4
        obtain ⟨x28, xs6, rfl, hfit6⟩ := fits_i hfit5
        obtain ⟨x29, xs7, rfl, hfit7⟩ := fits_i hfit6
        obtain ⟨x30, xs8, rfl, hfit8⟩ := fits_i hfit7
        obtain rfl := fits_nil hfit8
        clear hfit hfit0 hfit1 hfit2 hfit3 hfit4 hfit5 hfit6 hfit7 hfit8
        replace hi : inv_CarPasses_14 hc hf hs hd r8 r9 x22 x23 x24 x25 x26 x27 x28 x29 x30 := hi
        have hi14 := hi; clear hi
        change Fm.holds _ _ (lk [.i hc, .i hf, .i hs, .i hd, .i at_, .i to_, .b r6, .b r7, .i r8, .i r9, .i r10, .i r11, .i r12, .b r13, .i r14, .b r15, .i r16, .i r17, .i r18, .i r19, .i r20, .i r21, .l x22, .i x23, .i x24, .i x25, .i x26, .b x27, .i x28, .i x29, .i x30])
        obtain ⟨i0, i1⟩ := hi14
        have R := right_iff.1 i0.1
        simp only at R
        have e1 : IntKind.wrap .i64 (x23 + 1) = x23 + 1 := wrap_in (by have := i0.2.2.2.1; omega) (by omega)
        have hlen : x22.len ≤ 2 := by
          rcases i0.2.2.2.2 with h | h | h | h
          · rw [h.2.2.2.2.2.2]; decide
          · rw [h.2.2.2.2.2.2]; show 1 ≤ 2; omega
          · rw [h.2.2.2.2.2.2.2]; show 1 ≤ 2; omega
          · rw [h.2.2.2.2.2]; show 2 ≤ 2; omega
        have hnn := i0.2.2.2.1
        refine ⟨fun hcond => ?_, fun hcond => ?_⟩
        ·
          have c7 : (decide (x23 < (IntKind.wrap .i64 ((IntKind.wrap .i64 ((IntKind.wrap .i64 ((IntKind.wrap .i64 ((2 : Int) * hf)) * (IntKind.wrap .i64 (hs + (1 : Int))))) + (IntKind.wrap .i64 ((4 : Int) * hd)))) + (8 : Int))))) = true := hcond
          clear hcond
          refine vg_call (C := C_ctick) rfl rfl (xs := [.i hc, .i hf, .i hs, .i hd, .i x24, .i x25, .i x26, .b x27, .i x28, .i x29, .i r20, .i x30, .b false]) rfl (fun hg => ?_) (fun rs hrs => ?_)
          ·
            refine ctick_mk ?_
            -- leaf 8 (pre)
            omega
          obtain ⟨r31, r32, r33, r34, r35, r36, r37, r38, r39, r40, r41, r42, r43, hr31, hr32, hr33, hr34, hr35, hr36, hr37, hr38, hr39, hr40, hr41, hr42, hr43, rfl⟩ := ctick_res hrs
          clear hrs
          change Fm.holds _ _ (lk [.i hc, .i hf, .i hs, .i hd, .i at_, .i to_, .b r6, .b r7, .i r8, .i r9, .i r10, .i r11, .i r12, .b r13, .i r14, .b r15, .i r16, .i r17, .i r18, .i r19, .i r20, .i r21, .l x22, .i x23, .i x24, .i x25, .i x26, .b x27, .i x28, .i x29, .i x30, .i r31, .i r32, .i r33, .b r34, .i r35, .b r36, .b r37, .i r38, .i r39, .i r40, .i r41, .i r42, .i r43])
          obtain ⟨c', d', E, P⟩ := ps_step (by omega) (by omega) i0
          rw [f20] at hr31 hr32 hr33 hr34 hr35 hr36 hr37 hr38 hr39 hr40 hr41 hr42 hr43
          rw [E] at hr31 hr32 hr33 hr34 hr35 hr36 hr37 hr38 hr39 hr40 hr41 hr42 hr43
          dsimp only at hr31 hr32 hr33 hr34 hr35 hr36 hr37 hr38 hr39 hr40 hr41 hr42 hr43
          have hC : c' = ⟨r31, r32, r33, r34, r35⟩ := by rw [hr31, hr32, hr33, hr34, hr35]
          rw [hC, ← hr36, ← hr38, ← hr41, ← hr43] at P
          refine ⟨fun hcond => ?_, fun hcond => ?_⟩
          ·
            have c8 : r36 = true := hcond
            clear hcond
            refine vg_app rfl (x := x22) (y := r38) rfl rfl ?_ (fun r44 hr44 => ?_)
            ·
              show ((x22).len : Int) < 1000000000
              -- leaf 9 (app)
              omega
            change Fm.holds _ _ (lk [.i hc, .i hf, .i hs, .i hd, .i at_, .i to_, .b r6, .b r7, .i r8, .i r9, .i r10, .i r11, .i r12, .b r13, .i r14, .b r15, .i r16, .i r17, .i r18, .i r19, .i r20, .i r21, .l x22, .i x23, .i x24, .i x25, .i x26, .b x27, .i x28, .i x29, .i x30, .i r31, .i r32, .i r33, .b r34, .i r35, .b r36, .b r37, .i r38, .i r39, .i r40, .i r41, .i r42, .i r43, .l r44])
            refine ⟨?_, ?_⟩
            ·
              show inv_CarPasses_14 hc hf hs hd r8 r9 r44 (IntKind.wrap .i64 (x23 + (1 : Int))) r31 r32 r33 r34 r35 (bitv .andNot .u64 x29 r41) (bitv .andNot .u64 x30 r43)
              -- leaf 10 (back)
              have hlt := of_decide_eq_true c7
              rw [wB] at hlt
              rw [c8, if_pos rfl, if_pos rfl, if_pos rfl] at P
              rw [e1, hr44]
              refine ⟨?_, by omega⟩
              simp only [bv_andNot]
              exact P
            ·
              show meas_CarPasses_14 hc hf hs hd r8 r9 r44 (IntKind.wrap .i64 (x23 + (1 : Int))) r31 r32 r33 r34 r35 (bitv .andNot .u64 x29 r41) (bitv .andNot .u64 x30 r43) < meas_CarPasses_14 hc hf hs hd r8 r9 x22 x23 x24 x25 x26 x27 x28 x29 x30
              -- leaf 11 (meas)
              have hlt := of_decide_eq_true c7
              rw [wB] at hlt
              unfold meas_CarPasses_14
              rw [e1]
              omega
          ·
            have c9 : r36 = false := hcond
            clear hcond
            refine ⟨?_, ?_⟩
            ·
              show inv_CarPasses_14 hc hf hs hd r8 r9 x22 (IntKind.wrap .i64 (x23 + (1 : Int))) r31 r32 r33 r34 r35 x29 x30
              -- leaf 12 (back)
              have hlt := of_decide_eq_true c7
              rw [wB] at hlt
              rw [c9] at P
              simp only [Bool.false_eq_true, if_false] at P
              rw [e1]
              exact ⟨P, by omega⟩
            ·
              show meas_CarPasses_14 hc hf hs hd r8 r9 x22 (IntKind.wrap .i64 (x23 + (1 : Int))) r31 r32 r33 r34 r35 x29 x30 < meas_CarPasses_14 hc hf hs hd r8 r9 x22 x23 x24 x25 x26 x27 x28 x29 x30
              -- leaf 13 (meas)
              have hlt := of_decide_eq_true c7
              rw [wB] at hlt
              unfold meas_CarPasses_14
              rw [e1]
              omega
        ·
          have c10 : (decide (x23 < (IntKind.wrap .i64 ((IntKind.wrap .i64 ((IntKind.wrap .i64 ((IntKind.wrap .i64 ((2 : Int) * hf)) * (IntKind.wrap .i64 (hs + (1 : Int))))) + (IntKind.wrap .i64 ((4 : Int) * hd)))) + (8 : Int))))) = false := hcond
          clear hcond
          refine ⟨fun hg => ?_, ?_⟩
          ·
            simp only [gd_cons, gd_nil, and_true] at hg
            replace hg : ((x22.len : Int) == (2 : Int)) = true := hg
            show (decide ((0 : Int) < (x22.len : Int))) = true
            -- leaf 14 (ob)
            have hge := of_decide_eq_false c10
            first
              | (have := beq_iff_eq.1 hg
                 simp only [decide_eq_true_eq]
                 omega)
              | (have : ((x22.len : Int) == 2) = true := by
                   revert hg
                   cases ((x22.len : Int) == 2) <;> simp
                 have := beq_iff_eq.1 this
                 simp only [decide_eq_true_eq]
                 omega)
          refine ⟨fun hg => ?_, ?_⟩
          ·
            simp only [gd_cons, gd_nil, and_true] at hg
            replace hg : ((x22.len : Int) == (2 : Int)) = true := hg
            show (decide ((0 : Int) < (x22.len : Int))) = true
            -- leaf 15 (ob)
            have hge := of_decide_eq_false c10
            first
              | (have := beq_iff_eq.1 hg
                 simp only [decide_eq_true_eq]
                 omega)
              | (have : ((x22.len : Int) == 2) = true := by
                   revert hg
                   cases ((x22.len : Int) == 2) <;> simp
                 have := beq_iff_eq.1 this
                 simp only [decide_eq_true_eq]
                 omega)
          refine ⟨fun hg => ?_, ?_⟩
          ·
            simp only [gd_cons, gd_nil, and_true] at hg
            replace hg : (if ((x22.len : Int) == (2 : Int)) = true then ((x22.gi (Int.toNat (0 : Int)) 0) == (IntKind.wrap .i64 (r8 + (2 : Int)))) else false) = true := hg
            show (decide ((1 : Int) < (x22.len : Int))) = true
            -- leaf 16 (ob)
            have hge := of_decide_eq_false c10
            first
              | (have := beq_iff_eq.1 hg
                 simp only [decide_eq_true_eq]
                 omega)
              | (have : ((x22.len : Int) == 2) = true := by
                   revert hg
                   cases ((x22.len : Int) == 2) <;> simp
                 have := beq_iff_eq.1 this
                 simp only [decide_eq_true_eq]
                 omega)
          refine ⟨fun hg => ?_, ?_⟩
          ·
            simp only [gd_cons, gd_nil, and_true] at hg
            replace hg : (if ((x22.len : Int) == (2 : Int)) = true then ((x22.gi (Int.toNat (0 : Int)) 0) == (IntKind.wrap .i64 (r8 + (2 : Int)))) else false) = true := hg
            show (decide ((1 : Int) < (x22.len : Int))) = true
            -- leaf 17 (ob)
            have hge := of_decide_eq_false c10
            first
              | (have := beq_iff_eq.1 hg
                 simp only [decide_eq_true_eq]
                 omega)
              | (have : ((x22.len : Int) == 2) = true := by
                   revert hg
                   cases ((x22.len : Int) == 2) <;> simp
                 have := beq_iff_eq.1 this
                 simp only [decide_eq_true_eq]
                 omega)
          suffices hfin : ((if (if (if (if ((x22.len : Int) == (2 : Int)) = true then ((x22.gi (Int.toNat (0 : Int)) 0) == (IntKind.wrap .i64 (r8 + (2 : Int)))) else false) = true then ((x22.gi (Int.toNat (1 : Int)) 0) == (IntKind.wrap .i64 (r9 + (1 : Int)))) else false) = true then (x29 == (0 : Int)) else false) = true then (x30 == (0 : Int)) else false)) = (true) from (c_b hfin rfl)
          -- leaf 18 (ret)
          have hge := of_decide_eq_false c10
          rw [wB] at hge
          obtain ⟨_, _, _, _, i5⟩ := i0
          dsimp only at i5
          rw [w8, w9]
          rcases i5 with h | h | h | h
          · omega
          · omega
          · omega
          · rw [h.2.2.2.2.2, h.2.2.2.1, h.2.2.2.2.1]
            simp [lvOf]
end Go.Proofs.YtchjajnhbipkmaaDoor
