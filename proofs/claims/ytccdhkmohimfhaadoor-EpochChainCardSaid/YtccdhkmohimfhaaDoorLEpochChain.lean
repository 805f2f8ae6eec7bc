import Derived.Test.YtccdhkmohimfhaaDoorVEpochChain
namespace Go.Proofs.YtccdhkmohimfhaaDoor
open Go.Vg
set_option linter.unusedVariables false
set_option linter.unusedSimpArgs false
open Go


theorem EpochChain_sound : C_EpochChain.Sound Tryd.prog G 9 := by
  refine fn_ok mixed stable tbl_EpochChain [⟨9, [2, 7, 8, 9, 10, 11, 12, 20, 21, 22, 23, 24, 25, 26, 27, 28, 29, 30, 31, 32, 33, 34, 35, 36, 37, 38, 39, 40, 41, 42, 43, 44, 45, 46, 47, 48, 49, 50, 51, 52, 53, 54, 55, 56, 57, 58, 59, 60, 61, 62, 63, 64, 65, 66, 67, 68, 69, 70, 71, 72, 73, 74, 75, 76, 77, 78, 79, 80, 81, 82, 83, 84, 85, 86, 87, 88, 89, 90, 91, 92, 93, 94, 95, 96, 97, 98, 99, 100, 101, 102, 103, 104, 105, 106, 107], [4, 5, 6], [], [0], some (60, [.i64, .i64])⟩, ⟨17, [2, 79, 80, 81, 82, 83, 84, 85, 86, 87, 88, 89, 90, 91, 92, 93, 94, 95, 96, 97, 98, 99, 100, 101], [12], [], [2], some (60, [.i64, .i64])⟩] Tryd.func9 (by kernel_rfl) phi_EpochChain vc_EpochChain ⟨number_sound, first4_sound, less_sound, next_sound, validEp_sound, none_sound, text_sound, trivial⟩ inv_EpochChain meas_EpochChain ?_
  intro ls hp
  obtain ⟨l, rfl⟩ := EpochChain_pre hp
  clear hp
  rw [envOf_lk]
  unfold phi_EpochChain
  refine vg_call (C := C_first4) rfl rfl (xs := []) rfl (fun hg => ?_) (fun rs hrs => ?_)
  ·
    exact trivial
  obtain ⟨r1, hr1, rfl⟩ := first4_res hrs
  clear hrs
  change Fm.holds _ _ (lk [.l l, .b r1])
  refine ⟨fun hcond => ?_, fun hcond => ?_⟩
  ·
    have c1 : r1 = false := hcond
    clear hcond
    suffices hfin : (false) = (true) from (c_b hfin rfl)
    -- leaf 1 (ret)
    simp_all
  ·
    have c2 : r1 = true := hcond
    clear hcond
    refine ⟨fun hcond => ?_, fun hcond => ?_⟩
    ·
      have c3 : (decide ((30 : Int) < (l.len : Int))) = true := hcond
      clear hcond
      suffices hfin : (r1) = (true) from (c_b hfin rfl)
      -- leaf 2 (ret)
      simp_all
    ·
      have c4 : (decide ((30 : Int) < (l.len : Int))) = false := hcond
      clear hcond
      have hlen := of_decide_eq_false c4
      refine vg_loop rfl ?_ (fun xs hfit hi => ?_)
      ·
        show inv_EpochChain_9 l nilLV (0 : Int) (0 : Int)
        -- leaf 3 (init)
        exact ⟨by omega, by omega, rfl, rfl, fun j hj => by omega⟩
      obtain ⟨x2, xs0, rfl, hfit0⟩ := fits_l hfit
      obtain ⟨x3, xs1, rfl, hfit1⟩ := fits_i hfit0
      obtain ⟨x4, xs2, rfl, hfit2⟩ := fits_i hfit1
      obtain rfl := fits_nil hfit2
      clear hfit hfit0 hfit1 hfit2
      replace hi : inv_EpochChain_9 l x2 x3 x4 := hi
      have hi9 := hi; clear hi
      change Fm.holds _ _ (lk [.l l, .b r1, .l x2, .i x3, .i x4])
      obtain ⟨i0, i1, i2, i3⟩ := hi9
      have e1 : IntKind.wrap .i64 (x4 + 1) = x4 + 1 := wrap_in (by omega) (by omega)
      refine ⟨fun hcond => ?_, fun hcond => ?_⟩
      ·
        have c5 : (decide (x4 < (l.len : Int))) = true := hcond
        clear hcond
        refine ⟨fun hg => ?_, ?_⟩
        ·
          show (decide ((0 : Int) ≤ x4)) = true
          -- leaf 4 (ob)
          exact decide_eq_true i0
        refine vg_call (C := C_number) rfl rfl (xs := [.i (l.gi (Int.toNat x4) 0), .i (16 : Int)]) rfl (fun hg => ?_) (fun rs hrs => ?_)
        ·
          refine number_mk ?_
          -- leaf 5 (pre)
          omega
        obtain ⟨r5, hr5, rfl⟩ := number_res hrs
        clear hrs
        change Fm.holds _ _ (lk [.l l, .b r1, .l x2, .i x3, .i x4, .i r5])
        have hlt := of_decide_eq_true c5
        have n1 := number_range (l.gi x4.toNat 0) (b := 16) (by omega)
        rw [← hr5] at n1
        have w5 : IntKind.wrap .i64 (r5 + 1) = r5 + 1 := wrap_in (by omega) (by omega)
        have hg : Int.tmod (IntKind.wrap .i64 (r5 + 1)) 16 = (r5 + 1) % 16 := by rw [w5]; exact Int.tmod_eq_emod_of_nonneg (by omega)
        have hn : nextIs x3 r5 = true := by simp only [nextIs, Bool.and_eq_true, decide_eq_true_eq]; omega
        have hn2 : nextIs x3 ((r5 + 1) % 16) = true := by simp only [nextIs, Bool.and_eq_true, decide_eq_true_eq]; omega
        refine vg_call (C := C_next) rfl rfl (xs := [.i x3, .i r5]) rfl (fun hg => ?_) (fun rs hrs => ?_)
        ·
          exact trivial
        obtain ⟨r6, r7, r8, hr6, hr7, hr8, rfl⟩ := next_res hrs
        clear hrs
        change Fm.holds _ _ (lk [.l l, .b r1, .l x2, .i x3, .i x4, .i r5, .i r6, .i r7, .b r8])
        rw [hn] at hr6 hr7 hr8
        rw [if_pos rfl] at hr6 hr7
        refine vg_call (C := C_next) rfl rfl (xs := [.i x3, .i (Int.tmod (IntKind.wrap .i64 (r5 + (1 : Int))) (16 : Int))]) rfl (fun hg => ?_) (fun rs hrs => ?_)
        ·
          exact trivial
        obtain ⟨r9, r10, r11, hr9, hr10, hr11, rfl⟩ := next_res hrs
        clear hrs
        change Fm.holds _ _ (lk [.l l, .b r1, .l x2, .i x3, .i x4, .i r5, .i r6, .i r7, .b r8, .i r9, .i r10, .b r11])
        rw [hg, hn2] at hr9 hr10 hr11
        rw [if_pos rfl] at hr9 hr10
        refine vg_call (C := C_validEp) rfl rfl (xs := [.i r6, .i r7]) rfl (fun hg => ?_) (fun rs hrs => ?_)
        ·
          exact trivial
        obtain ⟨r12, hr12, rfl⟩ := validEp_res hrs
        clear hrs
        change Fm.holds _ _ (lk [.l l, .b r1, .l x2, .i x3, .i x4, .i r5, .i r6, .i r7, .b r8, .i r9, .i r10, .b r11, .b r12])
        refine vg_call (C := C_none) rfl rfl (xs := [.i r6, .i r7]) rfl (fun hg => ?_) (fun rs hrs => ?_)
        ·
          exact trivial
        obtain ⟨r13, hr13, rfl⟩ := none_res hrs
        clear hrs
        change Fm.holds _ _ (lk [.l l, .b r1, .l x2, .i x3, .i x4, .i r5, .i r6, .i r7, .b r8, .i r9, .i r10, .b r11, .b r12, .b r13])
        refine vg_call (C := C_text) rfl rfl (xs := [.i r6, .i r7]) rfl (fun hg => ?_) (fun rs hrs => ?_)
        ·
          simp only [gd_cons, gd_nil, and_true] at hg
          replace hg : (if (if (if (!r8) = true then true else (!r11)) = true then true else (!r12)) = true then true else r13) = false := hg
          refine text_mk ?_
          -- leaf 6 (pre)
          omega
        obtain ⟨r14, hr14, rfl⟩ := text_res hrs
        clear hrs
        change Fm.holds _ _ (lk [.l l, .b r1, .l x2, .i x3, .i x4, .i r5, .i r6, .i r7, .b r8, .i r9, .i r10, .b r11, .b r12, .b r13, .i r14])
        refine vg_call (C := C_text) rfl rfl (xs := [.i r9, .i r10]) rfl (fun hg => ?_) (fun rs hrs => ?_)
        ·
          simp only [gd_cons, gd_nil, and_true] at hg
          replace hg : (if (if (if (!r8) = true then true else (!r11)) = true then true else (!r12)) = true then true else r13) = false := hg
          refine text_mk ?_
          -- leaf 7 (pre)
          omega
        obtain ⟨r15, hr15, rfl⟩ := text_res hrs
        clear hrs
        change Fm.holds _ _ (lk [.l l, .b r1, .l x2, .i x3, .i x4, .i r5, .i r6, .i r7, .b r8, .i r9, .i r10, .b r11, .b r12, .b r13, .i r14, .i r15])
        refine vg_call (C := C_less) rfl rfl (xs := [.i r6, .i r7, .i r9, .i r10]) rfl (fun hg => ?_) (fun rs hrs => ?_)
        ·
          exact trivial
        obtain ⟨r16, hr16, rfl⟩ := less_res hrs
        clear hrs
        change Fm.holds _ _ (lk [.l l, .b r1, .l x2, .i x3, .i x4, .i r5, .i r6, .i r7, .b r8, .i r9, .i r10, .b r11, .b r12, .b r13, .i r14, .i r15, .b r16])
        refine vg_call (C := C_less) rfl rfl (xs := [.i r9, .i r10, .i r6, .i r7]) rfl (fun hg => ?_) (fun rs hrs => ?_)
        ·
          exact trivial
        obtain ⟨r17, hr17, rfl⟩ := less_res hrs
        clear hrs
        change Fm.holds _ _ (lk [.l l, .b r1, .l x2, .i x3, .i x4, .i r5, .i r6, .i r7, .b r8, .i r9, .i r10, .b r11, .b r12, .b r13, .i r14, .i r15, .b r16, .b r17])
        refine ⟨fun hcond => ?_, fun hcond => ?_⟩
        ·
          have c6 : (if (if (if (if (if (!r8) = true then true else (!r11)) = true then true else (!r12)) = true then true else r13) = true then true else ((if (decide (r14 < (0 : Int))) = true then (0 : Int) else r14) == (if (decide (r15 < (0 : Int))) = true then (0 : Int) else r15))) = true then true else (if (!r16) = true then (!r17) else false)) = true := hcond
          clear hcond
          suffices hfin : (false) = (true) from (c_b hfin rfl)
          -- leaf 8 (ret)
          have h12 : r12 = true := by rw [hr12, hr6, hr7]; simp only [validE, Bool.and_eq_true, decide_eq_true_eq]; omega
          have h13 : r13 = false := by rw [hr13, hr6]; simp; omega
          have ht : (r14 == r15) = false := by
            rw [beq_eq_false_iff_ne, hr14, hr15, hr6, hr7, hr9, hr10]
            intro e
            have := (text_inj (by omega) (by omega) (by omega) (by omega) e).2
            omega
          have hl : (if (!r16) = true then (!r17) else false) = false := by
            rw [hr16, hr17, hr6, hr7, hr9, hr10]
            simp only [lessE]
            by_cases h : r5 < (r5 + 1) % 16
            · simp [h]
            · have : (r5 + 1) % 16 < r5 := by omega
              simp [this]
          have t14 : (if (decide (r14 < (0 : Int))) = true then (0 : Int) else r14) = r14 := if_neg (by rw [hr14]; simp [textS_nn])
          have t15 : (if (decide (r15 < (0 : Int))) = true then (0 : Int) else r15) = r15 := if_neg (by rw [hr15]; simp [textS_nn])
          rw [t14, t15, hr8, hr11, h12, h13, ht, hl] at c6
          simp at c6
        ·
          have c7 : (if (if (if (if (if (!r8) = true then true else (!r11)) = true then true else (!r12)) = true then true else r13) = true then true else ((if (decide (r14 < (0 : Int))) = true then (0 : Int) else r14) == (if (decide (r15 < (0 : Int))) = true then (0 : Int) else r15))) = true then true else (if (!r16) = true then (!r17) else false)) = false := hcond
          clear hcond
          refine vg_loop rfl ?_ (fun xs hfit hi => ?_)
          ·
            show inv_EpochChain_17 x2 (0 : Int)
            -- leaf 9 (init)
            exact ⟨by omega, by have := i3.1; omega⟩
          obtain ⟨x18, xs0, rfl, hfit0⟩ := fits_i hfit
          obtain rfl := fits_nil hfit0
          clear hfit hfit0
          replace hi : inv_EpochChain_17 x2 x18 := hi
          have hi17 := hi; clear hi
          change Fm.holds _ _ (lk [.l l, .b r1, .l x2, .i x3, .i x4, .i r5, .i r6, .i r7, .b r8, .i r9, .i r10, .b r11, .b r12, .b r13, .i r14, .i r15, .b r16, .b r17, .i x18])
          obtain ⟨j0, j1⟩ := hi17
          have e2 : IntKind.wrap .i64 (x18 + 1) = x18 + 1 := wrap_in (by have := i3.1; omega) (by have := i3.1; omega)
          refine ⟨fun hcond => ?_, fun hcond => ?_⟩
          ·
            have c8 : (decide (x18 < (x2.len : Int))) = true := hcond
            clear hcond
            have hk := of_decide_eq_true c8
            obtain ⟨k1, k2⟩ := i3
            have hx := k2 x18.toNat (by omega)
            have hj : ((x18.toNat : Nat) : Int) = x18 := by omega
            rw [hj] at hx
            refine ⟨fun hg => ?_, ?_⟩
            ·
              show (decide ((0 : Int) ≤ x18)) = true
              -- leaf 10 (ob)
              exact decide_eq_true j0
            refine vg_call (C := C_less) rfl rfl (xs := [.i (x2.gi (Int.toNat x18) 0), .i (x2.gi (Int.toNat x18) 1), .i r6, .i r7]) rfl (fun hg => ?_) (fun rs hrs => ?_)
            ·
              exact trivial
            obtain ⟨r19, hr19, rfl⟩ := less_res hrs
            clear hrs
            change Fm.holds _ _ (lk [.l l, .b r1, .l x2, .i x3, .i x4, .i r5, .i r6, .i r7, .b r8, .i r9, .i r10, .b r11, .b r12, .b r13, .i r14, .i r15, .b r16, .b r17, .i x18, .b r19])
            refine vg_call (C := C_text) rfl rfl (xs := [.i (x2.gi (Int.toNat x18) 0), .i (x2.gi (Int.toNat x18) 1)]) rfl (fun hg => ?_) (fun rs hrs => ?_)
            ·
              simp only [gd_cons, gd_nil, and_true] at hg
              replace hg : (!r19) = false := hg
              refine text_mk ?_
              -- leaf 11 (pre)
              omega
            obtain ⟨r20, hr20, rfl⟩ := text_res hrs
            clear hrs
            change Fm.holds _ _ (lk [.l l, .b r1, .l x2, .i x3, .i x4, .i r5, .i r6, .i r7, .b r8, .i r9, .i r10, .b r11, .b r12, .b r13, .i r14, .i r15, .b r16, .b r17, .i x18, .b r19, .i r20])
            refine vg_call (C := C_text) rfl rfl (xs := [.i r6, .i r7]) rfl (fun hg => ?_) (fun rs hrs => ?_)
            ·
              simp only [gd_cons, gd_nil, and_true] at hg
              replace hg : (!r19) = false := hg
              refine text_mk ?_
              -- leaf 12 (pre)
              omega
            obtain ⟨r21, hr21, rfl⟩ := text_res hrs
            clear hrs
            change Fm.holds _ _ (lk [.l l, .b r1, .l x2, .i x3, .i x4, .i r5, .i r6, .i r7, .b r8, .i r9, .i r10, .b r11, .b r12, .b r13, .i r14, .i r15, .b r16, .b r17, .i x18, .b r19, .i r20, .i r21])
            refine ⟨fun hcond => ?_, fun hcond => ?_⟩
            ·
              have c9 : (if (!r19) = true then true else ((if (decide (r20 < (0 : Int))) = true then (0 : Int) else r20) == (if (decide (r21 < (0 : Int))) = true then (0 : Int) else r21))) = true := hcond
              clear hcond
              suffices hfin : (false) = (true) from (c_b hfin rfl)
              -- leaf 13 (ret)
              have h19 : r19 = true := by
                rw [hr19, hr6, hx.1]
                simp only [lessE]
                simp
                omega
              have ht : (r20 == r21) = false := by
                rw [beq_eq_false_iff_ne, hr20, hr21, hr6, hr7]
                intro e
                have := (text_inj (by omega) (by omega) (by omega) (by omega) e).1
                omega
              have t20 : (if (decide (r20 < (0 : Int))) = true then (0 : Int) else r20) = r20 := if_neg (by rw [hr20]; simp [textS_nn])
              have t21 : (if (decide (r21 < (0 : Int))) = true then (0 : Int) else r21) = r21 := if_neg (by rw [hr21]; simp [textS_nn])
              rw [t20, t21, h19, ht] at c9
              simp at c9
            ·
              have c10 : (if (!r19) = true then true else ((if (decide (r20 < (0 : Int))) = true then (0 : Int) else r20) == (if (decide (r21 < (0 : Int))) = true then (0 : Int) else r21))) = false := hcond
              clear hcond
              refine ⟨?_, ?_⟩
              ·
                show inv_EpochChain_17 x2 (IntKind.wrap .i64 (x18 + (1 : Int)))
                -- leaf 14 (back)
                exact ⟨by omega, by omega⟩
              ·
                show meas_EpochChain_17 x2 (IntKind.wrap .i64 (x18 + (1 : Int))) < meas_EpochChain_17 x2 x18
                -- leaf 15 (meas)
                unfold meas_EpochChain_17
                omega
          ·
            have c11 : (decide (x18 < (x2.len : Int))) = false := hcond
            clear hcond
            refine vg_app rfl (x := x2) (y := [r6, r7]) rfl rfl ?_ (fun r19 hr19 => ?_)
            ·
              show ((x2).len : Int) < 1000000000
              -- leaf 16 (app)
              have := i3.1
              omega
            change Fm.holds _ _ (lk [.l l, .b r1, .l x2, .i x3, .i x4, .i r5, .i r6, .i r7, .b r8, .i r9, .i r10, .b r11, .b r12, .b r13, .i r14, .i r15, .b r16, .b r17, .i x18, .l r19])
            refine ⟨?_, ?_⟩
            ·
              show inv_EpochChain_9 l r19 r6 (IntKind.wrap .i64 (x4 + (1 : Int)))
              -- leaf 17 (back)
              rw [e1, hr19, hr6, hr7]
              refine ⟨by omega, by omega, by omega, ?_⟩
              have := chain_snoc i0 i3 n1.1 n1.2
              rwa [i2]
            ·
              show meas_EpochChain_9 l r19 r6 (IntKind.wrap .i64 (x4 + (1 : Int))) < meas_EpochChain_9 l x2 x3 x4
              -- leaf 18 (meas)
              unfold meas_EpochChain_9
              rw [e1]
              omega
      ·
        have c12 : (decide (x4 < (l.len : Int))) = false := hcond
        clear hcond
        refine vg_call (C := C_none) rfl rfl (xs := [.i (0 : Int), .i (0 : Int)]) rfl (fun hg => ?_) (fun rs hrs => ?_)
        ·
          exact trivial
        obtain ⟨r5, hr5, rfl⟩ := none_res hrs
        clear hrs
        change Fm.holds _ _ (lk [.l l, .b r1, .l x2, .i x3, .i x4, .b r5])
        refine vg_call (C := C_validEp) rfl rfl (xs := [.i (0 : Int), .i (0 : Int)]) rfl (fun hg => ?_) (fun rs hrs => ?_)
        ·
          exact trivial
        obtain ⟨r6, hr6, rfl⟩ := validEp_res hrs
        clear hrs
        change Fm.holds _ _ (lk [.l l, .b r1, .l x2, .i x3, .i x4, .b r5, .b r6])
        suffices hfin : ((if r5 = true then (!r6) else false)) = (true) from (c_b hfin rfl)
        -- leaf 19 (ret)
        rw [hr5, hr6]
        decide
end Go.Proofs.YtccdhkmohimfhaaDoor
