import Derived.Test.YtccdhkmohimfhaaVMeterAdds
namespace Go.Proofs.Ytccdhkmohimfhaa
open Go.Vg
set_option linter.unusedVariables false
set_option linter.unusedSimpArgs false
open Go


theorem MeterAdds_sound : C_MeterAdds.Sound Try.prog G 3 := by
  refine fn_ok mixed stable tbl_MeterAdds [⟨10, [30, 31, 32, 33, 34, 35, 36], [12], [(0, 0)], [5, 7], some (3, [.i64]), []⟩, ⟨14, [37, 38, 39, 40, 41, 42, 43], [13], [(0, 0)], [5, 6, 7, 8], some (3, [.i64]), []⟩, ⟨8, [], [], [], [], none, [(0, 1), (1, 1)]⟩] Try.func3 (by kernel_rfl) phi_MeterAdds vc_MeterAdds ⟨first20_sound, number_sound, madd_sound, mmost_sound, mget_sound, msum_sound, trivial⟩ inv_MeterAdds meas_MeterAdds ?_
  intro ls hp
  obtain ⟨a, b, n, k, rfl, hpre⟩ := MeterAdds_pre hp
  clear hp
  rw [envOf_lk]
  unfold phi_MeterAdds
  refine vg_call (C := C_first20) rfl rfl (xs := []) rfl (fun hg => ?_) (fun rs hrs => ?_)
  ·
    exact trivial
  obtain ⟨r4, hr4, rfl⟩ := first20_res hrs
  clear hrs
  change Fm.holds _ _ (lk [.i a, .i b, .i n, .i k, .b r4])
  refine ⟨fun hcond => ?_, fun hcond => ?_⟩
  ·
    have c1 : r4 = false := hcond
    clear hcond
    suffices hfin : (false) = (true) from (c_b hfin rfl)
    -- leaf 1 (ret)
    rw [hr4] at c1; cases c1
  ·
    have c2 : r4 = true := hcond
    clear hcond
    refine vg_call (C := C_number) rfl rfl (xs := [.i a, .i (11 : Int)]) rfl (fun hg => ?_) (fun rs hrs => ?_)
    ·
      refine number_mk ?_
      -- leaf 2 (pre)
      exact ⟨by omega, by omega⟩
    obtain ⟨r5, hr5, rfl⟩ := number_res hrs
    clear hrs
    change Fm.holds _ _ (lk [.i a, .i b, .i n, .i k, .b r4, .i r5])
    refine vg_call (C := C_number) rfl rfl (xs := [.i b, .i (11 : Int)]) rfl (fun hg => ?_) (fun rs hrs => ?_)
    ·
      refine number_mk ?_
      -- leaf 3 (pre)
      exact ⟨by omega, by omega⟩
    obtain ⟨r6, hr6, rfl⟩ := number_res hrs
    clear hrs
    change Fm.holds _ _ (lk [.i a, .i b, .i n, .i k, .b r4, .i r5, .i r6])
    refine vg_call (C := C_number) rfl rfl (xs := [.i n, .i (50 : Int)]) rfl (fun hg => ?_) (fun rs hrs => ?_)
    ·
      refine number_mk ?_
      -- leaf 4 (pre)
      exact ⟨by omega, by omega⟩
    obtain ⟨r7, hr7, rfl⟩ := number_res hrs
    clear hrs
    change Fm.holds _ _ (lk [.i a, .i b, .i n, .i k, .b r4, .i r5, .i r6, .i r7])
    refine vg_call (C := C_number) rfl rfl (xs := [.i k, .i (50 : Int)]) rfl (fun hg => ?_) (fun rs hrs => ?_)
    ·
      refine number_mk ?_
      -- leaf 5 (pre)
      exact ⟨by omega, by omega⟩
    obtain ⟨r8, hr8, rfl⟩ := number_res hrs
    clear hrs
    change Fm.holds _ _ (lk [.i a, .i b, .i n, .i k, .b r4, .i r5, .i r6, .i r7, .i r8])
    have b5 : 0 ≤ r5 ∧ r5 < 11 := by rw [hr5]; exact number_range _ (by omega)
    have b6 : 0 ≤ r6 ∧ r6 < 11 := by rw [hr6]; exact number_range _ (by omega)
    have b7 : 0 ≤ r7 ∧ r7 < 50 := by rw [hr7]; exact number_range _ (by omega)
    have b8 : 0 ≤ r8 ∧ r8 < 50 := by rw [hr8]; exact number_range _ (by omega)
    clear hr5 hr6 hr7 hr8
    have w5 : IntKind.wrap .i64 (r5 + 1) = r5 + 1 := wrap_in (by omega) (by omega)
    have w6 : IntKind.wrap .i64 (r6 + 1) = r6 + 1 := wrap_in (by omega) (by omega)
    refine vg_lett rfl (x := _) rfl (fun r9 hr9 => ?_)
    change Fm.holds _ _ (lk [.i a, .i b, .i n, .i k, .b r4, .i r5, .i r6, .i r7, .i r8, .l r9])
    have hzr9 : ∀ j : Nat, r9.gi j 0 = 0 := fun j => by rw [hr9]; exact zeros12 _ j 0
    clear hr9
    refine vg_lett rfl (x := _) rfl (fun r10 hr10 => ?_)
    change Fm.holds _ _ (lk [.i a, .i b, .i n, .i k, .b r4, .i r5, .i r6, .i r7, .i r8, .l r9, .l r10])
    have hzr10 : ∀ j : Nat, r10.gi j 0 = 0 := fun j => by rw [hr10]; exact zeros12 _ j 0
    clear hr10
    refine vg_loop rfl ?_ (fun xs hfit hi => ?_)
    ·
      show inv_MeterAdds_10 r5 r7 (0 : Int) r9
      -- leaf 6 (init)
      exact ⟨by omega, by omega, okM_zero hzr9, psum_zero hzr9 12, fun j => by rw [hzr9 j]; split <;> rfl⟩
    obtain ⟨x11, xs0, rfl, hfit0⟩ := fits_i hfit
    obtain ⟨x12, xs1, rfl, hfit1⟩ := fits_l hfit0
    obtain rfl := fits_nil hfit1
    clear hfit hfit0 hfit1
    replace hi : inv_MeterAdds_10 r5 r7 x11 x12 := hi
    have hi10 := hi; clear hi
    change Fm.holds _ _ (lk [.i a, .i b, .i n, .i k, .b r4, .i r5, .i r6, .i r7, .i r8, .l r9, .l r10, .i x11, .l x12])
    refine ⟨fun hcond => ?_, fun hcond => ?_⟩
    ·
      have c3 : (decide (x11 < r7)) = true := hcond
      clear hcond
      refine vg_call (C := C_madd) rfl rfl (xs := [.l x12, .i (IntKind.wrap .i64 (r5 + (1 : Int)))]) rfl (fun hg => ?_) (fun rs hrs => ?_)
      ·
        exact trivial
      obtain ⟨r13, r14, hr13, hr14, rfl⟩ := madd_res hrs
      clear hrs
      change Fm.holds _ _ (lk [.i a, .i b, .i n, .i k, .b r4, .i r5, .i r6, .i r7, .i r8, .l r9, .l r10, .i x11, .l x12, .l r13, .b r14])
      refine ⟨?_, ?_⟩
      ·
        show inv_MeterAdds_10 r5 r7 (IntKind.wrap .i64 (x11 + (1 : Int))) r13
        -- leaf 7 (back)
        obtain ⟨i1, i2, iok, ips, igi⟩ := hi10
        
        simp at c3
        rw [w5] at hr13
        rw [wrap_in (by omega) (by omega), hr13]
        refine ⟨by omega, by omega, addM_ok iok (by omega) (by omega), ?_, fun j => ?_⟩
        · rw [psum_add iok (by omega), ips, if_pos (by omega)]
        · rw [addM_gi iok (by omega), igi j]
          split <;> omega
      ·
        show meas_MeterAdds_10 r5 r7 (IntKind.wrap .i64 (x11 + (1 : Int))) r13 < meas_MeterAdds_10 r5 r7 x11 x12
        -- leaf 8 (meas)
        obtain ⟨i1, i2, iok, ips, igi⟩ := hi10
        simp at c3
        rw [wrap_in (by omega) (by omega)]
        unfold meas_MeterAdds_10
        omega
    ·
      have c4 : (decide (x11 < r7)) = false := hcond
      clear hcond
      refine vg_loop rfl ?_ (fun xs hfit hi => ?_)
      ·
        show inv_MeterAdds_14 r5 r6 r7 r8 (0 : Int) x12
        -- leaf 9 (init)
        obtain ⟨i1, i2, iok, ips, igi⟩ := hi10
        
        have e7 : x11 = r7 := by simp at c4; omega
        subst e7
        refine ⟨by omega, by omega, by simpa using iok, by simpa using ips, fun j => ?_⟩
        rw [igi j]
        simp
      obtain ⟨x13, xs0, rfl, hfit0⟩ := fits_i hfit
      obtain ⟨x14, xs1, rfl, hfit1⟩ := fits_l hfit0
      obtain rfl := fits_nil hfit1
      clear hfit hfit0 hfit1
      replace hi : inv_MeterAdds_14 r5 r6 r7 r8 x13 x14 := hi
      have hi14 := hi; clear hi
      change Fm.holds _ _ (lk [.i a, .i b, .i n, .i k, .b r4, .i r5, .i r6, .i r7, .i r8, .l r9, .l r10, .i x11, .l x12, .i x13, .l x14])
      refine ⟨fun hcond => ?_, fun hcond => ?_⟩
      ·
        have c5 : (decide (x13 < r8)) = true := hcond
        clear hcond
        refine vg_call (C := C_madd) rfl rfl (xs := [.l x14, .i (IntKind.wrap .i64 (r6 + (1 : Int)))]) rfl (fun hg => ?_) (fun rs hrs => ?_)
        ·
          exact trivial
        obtain ⟨r15, r16, hr15, hr16, rfl⟩ := madd_res hrs
        clear hrs
        change Fm.holds _ _ (lk [.i a, .i b, .i n, .i k, .b r4, .i r5, .i r6, .i r7, .i r8, .l r9, .l r10, .i x11, .l x12, .i x13, .l x14, .l r15, .b r16])
        refine ⟨?_, ?_⟩
        ·
          show inv_MeterAdds_14 r5 r6 r7 r8 (IntKind.wrap .i64 (x13 + (1 : Int))) r15
          -- leaf 10 (back)
          obtain ⟨k1, k2, kok, kps, kgi⟩ := hi14
          
          simp at c5
          rw [w6] at hr15
          rw [wrap_in (by omega) (by omega), hr15]
          refine ⟨by omega, by omega, by have := addM_ok kok (k := r6 + 1) (by omega) (by omega); rwa [Int.add_assoc] at this, ?_, fun j => ?_⟩
          · rw [psum_add kok (by omega), kps, if_pos (by omega)]; omega
          · rw [addM_gi kok (by omega), kgi j]
            split <;> split <;> omega
        ·
          show meas_MeterAdds_14 r5 r6 r7 r8 (IntKind.wrap .i64 (x13 + (1 : Int))) r15 < meas_MeterAdds_14 r5 r6 r7 r8 x13 x14
          -- leaf 11 (meas)
          obtain ⟨k1, k2, kok, kps, kgi⟩ := hi14
          simp at c5
          rw [wrap_in (by omega) (by omega)]
          unfold meas_MeterAdds_14
          omega
      ·
        have c6 : (decide (x13 < r8)) = false := hcond
        clear hcond
        refine ⟨fun hcond => ?_, fun hcond => ?_⟩
        ·
          have c7 : ((IntKind.wrap .i64 (r5 + (1 : Int))) == (IntKind.wrap .i64 (r6 + (1 : Int)))) = true := hcond
          clear hcond
          refine vg_call (C := C_mmost) rfl rfl (xs := [.l r10]) rfl (fun hg => ?_) (fun rs hrs => ?_)
          ·
            exact trivial
          obtain ⟨r15, r16, hr15, hr16, rfl⟩ := mmost_res hrs
          clear hrs
          change Fm.holds _ _ (lk [.i a, .i b, .i n, .i k, .b r4, .i r5, .i r6, .i r7, .i r8, .l r9, .l r10, .i x11, .l x12, .i x13, .l x14, .i r15, .b r16])
          refine vg_call (C := C_mget) rfl rfl (xs := [.l x14, .i (IntKind.wrap .i64 (r5 + (1 : Int)))]) rfl (fun hg => ?_) (fun rs hrs => ?_)
          ·
            exact trivial
          obtain ⟨r17, hr17, rfl⟩ := mget_res hrs
          clear hrs
          change Fm.holds _ _ (lk [.i a, .i b, .i n, .i k, .b r4, .i r5, .i r6, .i r7, .i r8, .l r9, .l r10, .i x11, .l x12, .i x13, .l x14, .i r15, .b r16, .i r17])
          refine vg_call (C := C_msum) rfl rfl (xs := [.l x14]) rfl (fun hg => ?_) (fun rs hrs => ?_)
          ·
            exact trivial
          obtain ⟨r18, hr18, rfl⟩ := msum_res hrs
          clear hrs
          change Fm.holds _ _ (lk [.i a, .i b, .i n, .i k, .b r4, .i r5, .i r6, .i r7, .i r8, .l r9, .l r10, .i x11, .l x12, .i x13, .l x14, .i r15, .b r16, .i r17, .i r18])
          refine vg_call (C := C_msum) rfl rfl (xs := [.l r10]) rfl (fun hg => ?_) (fun rs hrs => ?_)
          ·
            exact trivial
          obtain ⟨r19, hr19, rfl⟩ := msum_res hrs
          clear hrs
          change Fm.holds _ _ (lk [.i a, .i b, .i n, .i k, .b r4, .i r5, .i r6, .i r7, .i r8, .l r9, .l r10, .i x11, .l x12, .i x13, .l x14, .i r15, .b r16, .i r17, .i r18, .i r19])
          refine ⟨fun hcond => ?_, fun hcond => ?_⟩
          ·
            have c8 : (if (if (if (r17 == (IntKind.wrap .i64 (r7 + r8))) = true then (r18 == (IntKind.wrap .i64 (r7 + r8))) else false) = true then (r19 == (0 : Int)) else false) = true then (!r16) else false) = true := hcond
            clear hcond
            refine vg_call (C := C_madd) rfl rfl (xs := [.l x14, .i (0 : Int)]) rfl (fun hg => ?_) (fun rs hrs => ?_)
            ·
              exact trivial
            obtain ⟨r20, r21, hr20, hr21, rfl⟩ := madd_res hrs
            clear hrs
            change Fm.holds _ _ (lk [.i a, .i b, .i n, .i k, .b r4, .i r5, .i r6, .i r7, .i r8, .l r9, .l r10, .i x11, .l x12, .i x13, .l x14, .i r15, .b r16, .i r17, .i r18, .i r19, .l r20, .b r21])
            refine ⟨fun hcond => ?_, fun hcond => ?_⟩
            ·
              have c9 : r21 = false := hcond
              clear hcond
              refine vg_call (C := C_madd) rfl rfl (xs := [.l r20, .i (12 : Int)]) rfl (fun hg => ?_) (fun rs hrs => ?_)
              ·
                exact trivial
              obtain ⟨r22, r23, hr22, hr23, rfl⟩ := madd_res hrs
              clear hrs
              change Fm.holds _ _ (lk [.i a, .i b, .i n, .i k, .b r4, .i r5, .i r6, .i r7, .i r8, .l r9, .l r10, .i x11, .l x12, .i x13, .l x14, .i r15, .b r16, .i r17, .i r18, .i r19, .l r20, .b r21, .l r22, .b r23])
              suffices hfin : ((!r23)) = (true) from (c_b hfin rfl)
              -- leaf 12 (ret)
              obtain ⟨k1, k2, kok, kps, kgi⟩ := hi14
              
              have e8 : x13 = r8 := by simp at c6; omega
              subst e8
              have g17 : r17 = x14.gi (r5 + 1).toNat 0 := by rw [hr17, w5, kindB_iff.2 (by omega)]; rfl
              have g18 : r18 = r7 + x13 := by rw [hr18, sumTo_eq kok 12 (by omega), kps]
              have g19 : r19 = 0 := by rw [hr19, sumTo_zero (fun j _ => hzr10 j) 12 (by omega)]
              have g16 : r16 = false := by rw [hr16, mostTo_zero (fun j _ => hzr10 j) 12 (by omega)]; rfl
              have e5 : (((r5 + 1).toNat : Nat) : Int) = r5 + 1 := by omega
              have w78 : IntKind.wrap .i64 (r7 + x13) = r7 + x13 := wrap_in (by omega) (by omega)
              have kg := kgi (r5 + 1).toNat
              rw [e5, if_pos rfl] at kg
              
              have n0 : kindB 0 = false := kind_no (by omega)
              have n12 : kindB 12 = false := kind_no (by omega)
              clear kgi kok kps hzr9 hzr10 hi10 hpre k1 k2
              first
                | (have cc := c7
                   rw [w5, w6] at cc
                   have cc : r5 + 1 = r6 + 1 := by simpa using cc
                   rw [if_pos cc] at kg)
                | (have cc := c12
                   rw [w5, w6] at cc
                   have cc : ¬ (r5 + 1 = r6 + 1) := by simpa using cc
                   rw [if_neg cc, Int.add_zero] at kg)
              rw [kg] at g17
              first
                | (rw [hr23, n12]; rfl)
                | (rw [hr21, n0] at c10; cases c10)
                | (rw [g17, g18, g19, g16, w78] at c11; simp at c11)
                | (rw [g17, g18, g19, g16, w78] at c12; simp at c12)
                | (rw [hr21, n0] at c13; cases c13)
                | (rw [hr21, n0] at c14; cases c14)
                | (rw [hr21, n0] at c15; cases c15)
                | (rw [g17, g18, g19, g16, w78] at c16; simp at c16)
                | (rw [g17, g18, g19, g16, w78] at c17; simp at c17)
            ·
              have c10 : r21 = true := hcond
              clear hcond
              suffices hfin : (false) = (true) from (c_b hfin rfl)
              -- leaf 13 (ret)
              obtain ⟨k1, k2, kok, kps, kgi⟩ := hi14
              
              have e8 : x13 = r8 := by simp at c6; omega
              subst e8
              have g17 : r17 = x14.gi (r5 + 1).toNat 0 := by rw [hr17, w5, kindB_iff.2 (by omega)]; rfl
              have g18 : r18 = r7 + x13 := by rw [hr18, sumTo_eq kok 12 (by omega), kps]
              have g19 : r19 = 0 := by rw [hr19, sumTo_zero (fun j _ => hzr10 j) 12 (by omega)]
              have g16 : r16 = false := by rw [hr16, mostTo_zero (fun j _ => hzr10 j) 12 (by omega)]; rfl
              have e5 : (((r5 + 1).toNat : Nat) : Int) = r5 + 1 := by omega
              have w78 : IntKind.wrap .i64 (r7 + x13) = r7 + x13 := wrap_in (by omega) (by omega)
              have kg := kgi (r5 + 1).toNat
              rw [e5, if_pos rfl] at kg
              
              have n0 : kindB 0 = false := kind_no (by omega)
              have n12 : kindB 12 = false := kind_no (by omega)
              clear kgi kok kps hzr9 hzr10 hi10 hpre k1 k2
              first
                | (have cc := c7
                   rw [w5, w6] at cc
                   have cc : r5 + 1 = r6 + 1 := by simpa using cc
                   rw [if_pos cc] at kg)
                | (have cc := c12
                   rw [w5, w6] at cc
                   have cc : ¬ (r5 + 1 = r6 + 1) := by simpa using cc
                   rw [if_neg cc, Int.add_zero] at kg)
              rw [kg] at g17
              first
                | (rw [hr23, n12]; rfl)
                | (rw [hr21, n0] at c10; cases c10)
                | (rw [g17, g18, g19, g16, w78] at c11; simp at c11)
                | (rw [g17, g18, g19, g16, w78] at c12; simp at c12)
                | (rw [hr21, n0] at c13; cases c13)
                | (rw [hr21, n0] at c14; cases c14)
                | (rw [hr21, n0] at c15; cases c15)
                | (rw [g17, g18, g19, g16, w78] at c16; simp at c16)
                | (rw [g17, g18, g19, g16, w78] at c17; simp at c17)
          ·
            have c11 : (if (if (if (r17 == (IntKind.wrap .i64 (r7 + r8))) = true then (r18 == (IntKind.wrap .i64 (r7 + r8))) else false) = true then (r19 == (0 : Int)) else false) = true then (!r16) else false) = false := hcond
            clear hcond
            suffices hfin : (false) = (true) from (c_b hfin rfl)
            -- leaf 14 (ret)
            obtain ⟨k1, k2, kok, kps, kgi⟩ := hi14
            
            have e8 : x13 = r8 := by simp at c6; omega
            subst e8
            have g17 : r17 = x14.gi (r5 + 1).toNat 0 := by rw [hr17, w5, kindB_iff.2 (by omega)]; rfl
            have g18 : r18 = r7 + x13 := by rw [hr18, sumTo_eq kok 12 (by omega), kps]
            have g19 : r19 = 0 := by rw [hr19, sumTo_zero (fun j _ => hzr10 j) 12 (by omega)]
            have g16 : r16 = false := by rw [hr16, mostTo_zero (fun j _ => hzr10 j) 12 (by omega)]; rfl
            have e5 : (((r5 + 1).toNat : Nat) : Int) = r5 + 1 := by omega
            have w78 : IntKind.wrap .i64 (r7 + x13) = r7 + x13 := wrap_in (by omega) (by omega)
            have kg := kgi (r5 + 1).toNat
            rw [e5, if_pos rfl] at kg
            
            have n0 : kindB 0 = false := kind_no (by omega)
            have n12 : kindB 12 = false := kind_no (by omega)
            clear kgi kok kps hzr9 hzr10 hi10 hpre k1 k2
            first
              | (have cc := c7
                 rw [w5, w6] at cc
                 have cc : r5 + 1 = r6 + 1 := by simpa using cc
                 rw [if_pos cc] at kg)
              | (have cc := c12
                 rw [w5, w6] at cc
                 have cc : ¬ (r5 + 1 = r6 + 1) := by simpa using cc
                 rw [if_neg cc, Int.add_zero] at kg)
            rw [kg] at g17
            first
              | (rw [hr23, n12]; rfl)
              | (rw [hr21, n0] at c10; cases c10)
              | (rw [g17, g18, g19, g16, w78] at c11; simp at c11)
              | (rw [g17, g18, g19, g16, w78] at c12; simp at c12)
              | (rw [hr21, n0] at c13; cases c13)
              | (rw [hr21, n0] at c14; cases c14)
              | (rw [hr21, n0] at c15; cases c15)
              | (rw [g17, g18, g19, g16, w78] at c16; simp at c16)
              | (rw [g17, g18, g19, g16, w78] at c17; simp at c17)
        ·
          have c12 : ((IntKind.wrap .i64 (r5 + (1 : Int))) == (IntKind.wrap .i64 (r6 + (1 : Int)))) = false := hcond
          clear hcond
          refine vg_call (C := C_mmost) rfl rfl (xs := [.l r10]) rfl (fun hg => ?_) (fun rs hrs => ?_)
          ·
            exact trivial
          obtain ⟨r15, r16, hr15, hr16, rfl⟩ := mmost_res hrs
          clear hrs
          change Fm.holds _ _ (lk [.i a, .i b, .i n, .i k, .b r4, .i r5, .i r6, .i r7, .i r8, .l r9, .l r10, .i x11, .l x12, .i x13, .l x14, .i r15, .b r16])
          refine vg_call (C := C_mget) rfl rfl (xs := [.l x14, .i (IntKind.wrap .i64 (r5 + (1 : Int)))]) rfl (fun hg => ?_) (fun rs hrs => ?_)
          ·
            exact trivial
          obtain ⟨r17, hr17, rfl⟩ := mget_res hrs
          clear hrs
          change Fm.holds _ _ (lk [.i a, .i b, .i n, .i k, .b r4, .i r5, .i r6, .i r7, .i r8, .l r9, .l r10, .i x11, .l x12, .i x13, .l x14, .i r15, .b r16, .i r17])
          refine vg_call (C := C_msum) rfl rfl (xs := [.l x14]) rfl (fun hg => ?_) (fun rs hrs => ?_)
          ·
            exact trivial
          obtain ⟨r18, hr18, rfl⟩ := msum_res hrs
          clear hrs
          change Fm.holds _ _ (lk [.i a, .i b, .i n, .i k, .b r4, .i r5, .i r6, .i r7, .i r8, .l r9, .l r10, .i x11, .l x12, .i x13, .l x14, .i r15, .b r16, .i r17, .i r18])
          refine vg_call (C := C_msum) rfl rfl (xs := [.l r10]) rfl (fun hg => ?_) (fun rs hrs => ?_)
          ·
            exact trivial
          obtain ⟨r19, hr19, rfl⟩ := msum_res hrs
          clear hrs
          change Fm.holds _ _ (lk [.i a, .i b, .i n, .i k, .b r4, .i r5, .i r6, .i r7, .i r8, .l r9, .l r10, .i x11, .l x12, .i x13, .l x14, .i r15, .b r16, .i r17, .i r18, .i r19])
          refine ⟨fun hcond => ?_, fun hcond => ?_⟩
          ·
            have c13 : (if (if (if (r17 == r7) = true then (r18 == (IntKind.wrap .i64 (r7 + r8))) else false) = true then (r19 == (0 : Int)) else false) = true then (!r16) else false) = true := hcond
            clear hcond
            refine vg_call (C := C_madd) rfl rfl (xs := [.l x14, .i (0 : Int)]) rfl (fun hg => ?_) (fun rs hrs => ?_)
            ·
              exact trivial
            obtain ⟨r20, r21, hr20, hr21, rfl⟩ := madd_res hrs
            clear hrs
            change Fm.holds _ _ (lk [.i a, .i b, .i n, .i k, .b r4, .i r5, .i r6, .i r7, .i r8, .l r9, .l r10, .i x11, .l x12, .i x13, .l x14, .i r15, .b r16, .i r17, .i r18, .i r19, .l r20, .b r21])
            refine ⟨fun hcond => ?_, fun hcond => ?_⟩
            ·
              have c14 : r21 = false := hcond
              clear hcond
              refine vg_call (C := C_madd) rfl rfl (xs := [.l r20, .i (12 : Int)]) rfl (fun hg => ?_) (fun rs hrs => ?_)
              ·
                exact trivial
              obtain ⟨r22, r23, hr22, hr23, rfl⟩ := madd_res hrs
              clear hrs
              change Fm.holds _ _ (lk [.i a, .i b, .i n, .i k, .b r4, .i r5, .i r6, .i r7, .i r8, .l r9, .l r10, .i x11, .l x12, .i x13, .l x14, .i r15, .b r16, .i r17, .i r18, .i r19, .l r20, .b r21, .l r22, .b r23])
              suffices hfin : ((!r23)) = (true) from (c_b hfin rfl)
              -- leaf 15 (ret)
              obtain ⟨k1, k2, kok, kps, kgi⟩ := hi14
              
              have e8 : x13 = r8 := by simp at c6; omega
              subst e8
              have g17 : r17 = x14.gi (r5 + 1).toNat 0 := by rw [hr17, w5, kindB_iff.2 (by omega)]; rfl
              have g18 : r18 = r7 + x13 := by rw [hr18, sumTo_eq kok 12 (by omega), kps]
              have g19 : r19 = 0 := by rw [hr19, sumTo_zero (fun j _ => hzr10 j) 12 (by omega)]
              have g16 : r16 = false := by rw [hr16, mostTo_zero (fun j _ => hzr10 j) 12 (by omega)]; rfl
              have e5 : (((r5 + 1).toNat : Nat) : Int) = r5 + 1 := by omega
              have w78 : IntKind.wrap .i64 (r7 + x13) = r7 + x13 := wrap_in (by omega) (by omega)
              have kg := kgi (r5 + 1).toNat
              rw [e5, if_pos rfl] at kg
              
              have n0 : kindB 0 = false := kind_no (by omega)
              have n12 : kindB 12 = false := kind_no (by omega)
              clear kgi kok kps hzr9 hzr10 hi10 hpre k1 k2
              first
                | (have cc := c7
                   rw [w5, w6] at cc
                   have cc : r5 + 1 = r6 + 1 := by simpa using cc
                   rw [if_pos cc] at kg)
                | (have cc := c12
                   rw [w5, w6] at cc
                   have cc : ¬ (r5 + 1 = r6 + 1) := by simpa using cc
                   rw [if_neg cc, Int.add_zero] at kg)
              rw [kg] at g17
              first
                | (rw [hr23, n12]; rfl)
                | (rw [hr21, n0] at c10; cases c10)
                | (rw [g17, g18, g19, g16, w78] at c11; simp at c11)
                | (rw [g17, g18, g19, g16, w78] at c12; simp at c12)
                | (rw [hr21, n0] at c13; cases c13)
                | (rw [hr21, n0] at c14; cases c14)
                | (rw [hr21, n0] at c15; cases c15)
                | (rw [g17, g18, g19, g16, w78] at c16; simp at c16)
                | (rw [g17, g18, g19, g16, w78] at c17; simp at c17)
            ·
              have c15 : r21 = true := hcond
              clear hcond
              suffices hfin : (false) = (true) from (c_b hfin rfl)
              -- leaf 16 (ret)
              obtain ⟨k1, k2, kok, kps, kgi⟩ := hi14
              
              have e8 : x13 = r8 := by simp at c6; omega
              subst e8
              have g17 : r17 = x14.gi (r5 + 1).toNat 0 := by rw [hr17, w5, kindB_iff.2 (by omega)]; rfl
              have g18 : r18 = r7 + x13 := by rw [hr18, sumTo_eq kok 12 (by omega), kps]
              have g19 : r19 = 0 := by rw [hr19, sumTo_zero (fun j _ => hzr10 j) 12 (by omega)]
              have g16 : r16 = false := by rw [hr16, mostTo_zero (fun j _ => hzr10 j) 12 (by omega)]; rfl
              have e5 : (((r5 + 1).toNat : Nat) : Int) = r5 + 1 := by omega
              have w78 : IntKind.wrap .i64 (r7 + x13) = r7 + x13 := wrap_in (by omega) (by omega)
              have kg := kgi (r5 + 1).toNat
              rw [e5, if_pos rfl] at kg
              
              have n0 : kindB 0 = false := kind_no (by omega)
              have n12 : kindB 12 = false := kind_no (by omega)
              clear kgi kok kps hzr9 hzr10 hi10 hpre k1 k2
              first
                | (have cc := c7
                   rw [w5, w6] at cc
                   have cc : r5 + 1 = r6 + 1 := by simpa using cc
                   rw [if_pos cc] at kg)
                | (have cc := c12
                   rw [w5, w6] at cc
                   have cc : ¬ (r5 + 1 = r6 + 1) := by simpa using cc
                   rw [if_neg cc, Int.add_zero] at kg)
              rw [kg] at g17
              first
                | (rw [hr23, n12]; rfl)
                | (rw [hr21, n0] at c10; cases c10)
                | (rw [g17, g18, g19, g16, w78] at c11; simp at c11)
                | (rw [g17, g18, g19, g16, w78] at c12; simp at c12)
                | (rw [hr21, n0] at c13; cases c13)
                | (rw [hr21, n0] at c14; cases c14)
                | (rw [hr21, n0] at c15; cases c15)
                | (rw [g17, g18, g19, g16, w78] at c16; simp at c16)
                | (rw [g17, g18, g19, g16, w78] at c17; simp at c17)
          ·
            have c16 : (if (if (if (r17 == r7) = true then (r18 == (IntKind.wrap .i64 (r7 + r8))) else false) = true then (r19 == (0 : Int)) else false) = true then (!r16) else false) = false := hcond
            clear hcond
            suffices hfin : (false) = (true) from (c_b hfin rfl)
            -- leaf 17 (ret)
            obtain ⟨k1, k2, kok, kps, kgi⟩ := hi14
            
            have e8 : x13 = r8 := by simp at c6; omega
            subst e8
            have g17 : r17 = x14.gi (r5 + 1).toNat 0 := by rw [hr17, w5, kindB_iff.2 (by omega)]; rfl
            have g18 : r18 = r7 + x13 := by rw [hr18, sumTo_eq kok 12 (by omega), kps]
            have g19 : r19 = 0 := by rw [hr19, sumTo_zero (fun j _ => hzr10 j) 12 (by omega)]
            have g16 : r16 = false := by rw [hr16, mostTo_zero (fun j _ => hzr10 j) 12 (by omega)]; rfl
            have e5 : (((r5 + 1).toNat : Nat) : Int) = r5 + 1 := by omega
            have w78 : IntKind.wrap .i64 (r7 + x13) = r7 + x13 := wrap_in (by omega) (by omega)
            have kg := kgi (r5 + 1).toNat
            rw [e5, if_pos rfl] at kg
            
            have n0 : kindB 0 = false := kind_no (by omega)
            have n12 : kindB 12 = false := kind_no (by omega)
            clear kgi kok kps hzr9 hzr10 hi10 hpre k1 k2
            first
              | (have cc := c7
                 rw [w5, w6] at cc
                 have cc : r5 + 1 = r6 + 1 := by simpa using cc
                 rw [if_pos cc] at kg)
              | (have cc := c12
                 rw [w5, w6] at cc
                 have cc : ¬ (r5 + 1 = r6 + 1) := by simpa using cc
                 rw [if_neg cc, Int.add_zero] at kg)
            rw [kg] at g17
            first
              | (rw [hr23, n12]; rfl)
              | (rw [hr21, n0] at c10; cases c10)
              | (rw [g17, g18, g19, g16, w78] at c11; simp at c11)
              | (rw [g17, g18, g19, g16, w78] at c12; simp at c12)
              | (rw [hr21, n0] at c13; cases c13)
              | (rw [hr21, n0] at c14; cases c14)
              | (rw [hr21, n0] at c15; cases c15)
              | (rw [g17, g18, g19, g16, w78] at c16; simp at c16)
              | (rw [g17, g18, g19, g16, w78] at c17; simp at c17)
end Go.Proofs.Ytccdhkmohimfhaa
