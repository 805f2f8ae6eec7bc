import Derived.Test.YtccdhkmohimfhaaVMeterMost
namespace Go.Proofs.Ytccdhkmohimfhaa
open Go.Vg
set_option linter.unusedVariables false
set_option linter.unusedSimpArgs false
open Go


theorem MeterMost_sound : C_MeterMost.Sound Try.prog G 5 := by
  refine fn_ok mixed stable tbl_MeterMost [⟨8, [2, 20, 21, 22, 23, 24, 25, 26, 27, 28, 29, 30, 31, 32, 33], [5], [(0, 0)], [0], some (3, [.i64]), []⟩, ⟨15, [2, 10, 38, 39, 40, 41, 42, 43, 44, 45, 46, 47, 48, 49, 50, 51, 52, 53, 54, 55, 56, 57, 58, 59, 60, 61, 62, 63, 64], [8, 9], [], [4], some (3, [.i64]), []⟩, ⟨6, [], [], [], [], none, [(0, 1)]⟩] Try.func5 (by kernel_rfl) phi_MeterMost vc_MeterMost ⟨first20_sound, number_sound, madd_sound, mmost_sound, mget_sound, msum_sound, mreset_sound, trivial⟩ inv_MeterMost meas_MeterMost ?_
  intro ls hp
  obtain ⟨l, rfl⟩ := MeterMost_pre hp
  clear hp
  rw [envOf_lk]
  unfold phi_MeterMost
  refine vg_call (C := C_first20) rfl rfl (xs := []) rfl (fun hg => ?_) (fun rs hrs => ?_)
  ·
    exact trivial
  obtain ⟨r1, hr1, rfl⟩ := first20_res hrs
  clear hrs
  change Fm.holds _ _ (lk [.l l, .b r1])
  refine ⟨fun hcond => ?_, fun hcond => ?_⟩
  ·
    have c1 : r1 = false := hcond
    clear hcond
    suffices hfin : (false) = (true) from (c_b hfin rfl)
    -- leaf 1 (ret)
    rw [hr1] at c1; cases c1
  ·
    have c2 : r1 = true := hcond
    clear hcond
    refine ⟨fun hcond => ?_, fun hcond => ?_⟩
    ·
      have c3 : (decide ((60 : Int) < (l.len : Int))) = true := hcond
      clear hcond
      suffices hfin : (r1) = (true) from (c_b hfin rfl)
      -- leaf 2 (ret)
      exact hr1
    ·
      have c4 : (decide ((60 : Int) < (l.len : Int))) = false := hcond
      clear hcond
      have hlen : (l.len : Int) ≤ 60 := by simpa using c4
      refine vg_lett rfl (x := _) rfl (fun r2 hr2 => ?_)
      change Fm.holds _ _ (lk [.l l, .b r1, .l r2])
      have hzr2 : ∀ j : Nat, r2.gi j 0 = 0 := fun j => by rw [hr2]; exact zeros12 _ j 0
      clear hr2
      refine vg_loop rfl ?_ (fun xs hfit hi => ?_)
      ·
        show inv_MeterMost_8 l (0 : Int) r2
        -- leaf 3 (init)
        exact ⟨by omega, by omega, okM_zero hzr2, psum_zero hzr2 12⟩
      obtain ⟨x3, xs0, rfl, hfit0⟩ := fits_i hfit
      obtain ⟨x4, xs1, rfl, hfit1⟩ := fits_l hfit0
      obtain rfl := fits_nil hfit1
      clear hfit hfit0 hfit1
      replace hi : inv_MeterMost_8 l x3 x4 := hi
      have hi8 := hi; clear hi
      change Fm.holds _ _ (lk [.l l, .b r1, .l r2, .i x3, .l x4])
      refine ⟨fun hcond => ?_, fun hcond => ?_⟩
      ·
        have c5 : (decide (x3 < (l.len : Int))) = true := hcond
        clear hcond
        refine ⟨fun hg => ?_, ?_⟩
        ·
          show (decide ((0 : Int) ≤ x3)) = true
          -- leaf 4 (ob)
          obtain ⟨i1, i2, iok, ips⟩ := hi8
          simp; omega
        refine vg_call (C := C_number) rfl rfl (xs := [.i (l.gi (Int.toNat x3) 0), .i (11 : Int)]) rfl (fun hg => ?_) (fun rs hrs => ?_)
        ·
          refine number_mk ?_
          -- leaf 5 (pre)
          exact ⟨by omega, by omega⟩
        obtain ⟨r5, hr5, rfl⟩ := number_res hrs
        clear hrs
        change Fm.holds _ _ (lk [.l l, .b r1, .l r2, .i x3, .l x4, .i r5])
        have b5 : 0 ≤ r5 ∧ r5 < 11 := by rw [hr5]; exact number_range _ (by omega)
        clear hr5
        have w5 : IntKind.wrap .i64 (r5 + 1) = r5 + 1 := wrap_in (by omega) (by omega)
        refine vg_call (C := C_madd) rfl rfl (xs := [.l x4, .i (IntKind.wrap .i64 (r5 + (1 : Int)))]) rfl (fun hg => ?_) (fun rs hrs => ?_)
        ·
          exact trivial
        obtain ⟨r6, r7, hr6, hr7, rfl⟩ := madd_res hrs
        clear hrs
        change Fm.holds _ _ (lk [.l l, .b r1, .l r2, .i x3, .l x4, .i r5, .l r6, .b r7])
        refine ⟨fun hcond => ?_, fun hcond => ?_⟩
        ·
          have c6 : r7 = false := hcond
          clear hcond
          suffices hfin : (false) = (true) from (c_b hfin rfl)
          -- leaf 6 (ret)
          rw [hr7, w5, kindB_iff.2 (by omega)] at c6; cases c6
        ·
          have c7 : r7 = true := hcond
          clear hcond
          refine ⟨?_, ?_⟩
          ·
            show inv_MeterMost_8 l (IntKind.wrap .i64 (x3 + (1 : Int))) r6
            -- leaf 7 (back)
            obtain ⟨i1, i2, iok, ips⟩ := hi8
            
            simp at c5
            rw [w5] at hr6
            rw [wrap_in (by omega) (by omega), hr6]
            refine ⟨by omega, by omega, addM_ok iok (by omega) (by omega), ?_⟩
            rw [psum_add iok (by omega), ips, if_pos (by omega)]
          ·
            show meas_MeterMost_8 l (IntKind.wrap .i64 (x3 + (1 : Int))) r6 < meas_MeterMost_8 l x3 x4
            -- leaf 8 (meas)
            obtain ⟨i1, i2, iok, ips⟩ := hi8
            simp at c5
            rw [wrap_in (by omega) (by omega)]
            unfold meas_MeterMost_8
            omega
      ·
        have c8 : (decide (x3 < (l.len : Int))) = false := hcond
        clear hcond
        refine vg_call (C := C_mmost) rfl rfl (xs := [.l x4]) rfl (fun hg => ?_) (fun rs hrs => ?_)
        ·
          exact trivial
        obtain ⟨r5, r6, hr5, hr6, rfl⟩ := mmost_res hrs
        clear hrs
        change Fm.holds _ _ (lk [.l l, .b r1, .l r2, .i x3, .l x4, .i r5, .b r6])
        refine vg_loop rfl ?_ (fun xs hfit hi => ?_)
        ·
          show inv_MeterMost_15 x4 (0 : Int) (1 : Int)
          -- leaf 9 (init)
          obtain ⟨i1, i2, iok, ips⟩ := hi8
          
          refine ⟨by omega, by omega, ?_⟩
          show (0 : Int) = psum x4 1
          rw [psum, psum, iok.2.1]; rfl
        obtain ⟨x7, xs0, rfl, hfit0⟩ := fits_i hfit
        obtain ⟨x8, xs1, rfl, hfit1⟩ := fits_i hfit0
        obtain rfl := fits_nil hfit1
        clear hfit hfit0 hfit1
        replace hi : inv_MeterMost_15 x4 x7 x8 := hi
        have hi15 := hi; clear hi
        change Fm.holds _ _ (lk [.l l, .b r1, .l r2, .i x3, .l x4, .i r5, .b r6, .i x7, .i x8])
        refine ⟨fun hcond => ?_, fun hcond => ?_⟩
        ·
          have c9 : (decide (x8 ≤ (11 : Int))) = true := hcond
          clear hcond
          refine vg_call (C := C_mget) rfl rfl (xs := [.l x4, .i x8]) rfl (fun hg => ?_) (fun rs hrs => ?_)
          ·
            exact trivial
          obtain ⟨r9, hr9, rfl⟩ := mget_res hrs
          clear hrs
          change Fm.holds _ _ (lk [.l l, .b r1, .l r2, .i x3, .l x4, .i r5, .b r6, .i x7, .i x8, .i r9])
          refine vg_call (C := C_mget) rfl rfl (xs := [.l x4, .i r5]) rfl (fun hg => ?_) (fun rs hrs => ?_)
          ·
            exact trivial
          obtain ⟨r10, hr10, rfl⟩ := mget_res hrs
          clear hrs
          change Fm.holds _ _ (lk [.l l, .b r1, .l r2, .i x3, .l x4, .i r5, .b r6, .i x7, .i x8, .i r9, .i r10])
          refine vg_call (C := C_mget) rfl rfl (xs := [.l x4, .i r5]) rfl (fun hg => ?_) (fun rs hrs => ?_)
          ·
            exact trivial
          obtain ⟨r11, hr11, rfl⟩ := mget_res hrs
          clear hrs
          change Fm.holds _ _ (lk [.l l, .b r1, .l r2, .i x3, .l x4, .i r5, .b r6, .i x7, .i x8, .i r9, .i r10, .i r11])
          refine ⟨fun hcond => ?_, fun hcond => ?_⟩
          ·
            have c10 : (if r6 = true then (if (decide (r10 < r9)) = true then true else (if (r9 == r11) = true then (decide (x8 < r5)) else false)) else false) = true := hcond
            clear hcond
            suffices hfin : (false) = (true) from (c_b hfin rfl)
            -- leaf 10 (ret)
            obtain ⟨i1, i2, iok, ips⟩ := hi8
            obtain ⟨k1, k2, ks⟩ := hi15
            
            simp at c9
            have hsp := mostTo_spec x4 12 x8.toNat (by omega)
            have hmr := mostTo_range x4 12
            rw [← hr5] at hsp hmr
            have e8 : ((x8.toNat : Nat) : Int) = x8 := by omega
            rw [e8] at hsp
            rw [hr6] at c10
            rw [← hr5] at c10
            by_cases h0 : 0 < r5
            · rw [kindB_iff.2 (by omega)] at hr9
              rw [kindB_iff.2 (by omega)] at hr10 hr11
              simp only [if_true] at hr9 hr10 hr11
              rw [← hr9, ← hr10] at hsp
              rw [hr11, ← hr10] at c10
              rw [show decide (r10 < r9) = false from decide_eq_false (by omega)] at c10
              simp [h0] at c10
              omega
            · simp [h0] at c10
          ·
            have c11 : (if r6 = true then (if (decide (r10 < r9)) = true then true else (if (r9 == r11) = true then (decide (x8 < r5)) else false)) else false) = false := hcond
            clear hcond
            refine ⟨?_, ?_⟩
            ·
              show inv_MeterMost_15 x4 (IntKind.wrap .i64 (x7 + r9)) (IntKind.wrap .i64 (x8 + (1 : Int)))
              -- leaf 11 (back)
              obtain ⟨i1, i2, iok, ips⟩ := hi8
              obtain ⟨k1, k2, ks⟩ := hi15
              
              simp at c9
              rw [kindB_iff.2 (by omega)] at hr9
              simp only [if_true] at hr9
              have h1 := psum_range iok (x8.toNat + 1)
              have h2 : x3 * ((x8.toNat + 1 : Nat) : Int) ≤ 100 * 12 := Int.mul_le_mul (by omega) (by omega) (by omega) (by omega)
              rw [psum, ← hr9, ← ks] at h1
              rw [wrap_in (n := x7 + r9) (by omega) (by omega), wrap_in (n := x8 + 1) (by omega) (by omega)]
              refine ⟨by omega, by omega, ?_⟩
              rw [show (x8 + 1).toNat = x8.toNat + 1 by omega, psum, ← hr9, ← ks]
            ·
              show meas_MeterMost_15 x4 (IntKind.wrap .i64 (x7 + r9)) (IntKind.wrap .i64 (x8 + (1 : Int))) < meas_MeterMost_15 x4 x7 x8
              -- leaf 12 (meas)
              obtain ⟨i1, i2, iok, ips⟩ := hi8
              obtain ⟨k1, k2, ks⟩ := hi15
              simp at c9
              rw [wrap_in (n := x8 + 1) (by omega) (by omega)]
              unfold meas_MeterMost_15
              omega
        ·
          have c12 : (decide (x8 ≤ (11 : Int))) = false := hcond
          clear hcond
          refine vg_call (C := C_msum) rfl rfl (xs := [.l x4]) rfl (fun hg => ?_) (fun rs hrs => ?_)
          ·
            exact trivial
          obtain ⟨r9, hr9, rfl⟩ := msum_res hrs
          clear hrs
          change Fm.holds _ _ (lk [.l l, .b r1, .l r2, .i x3, .l x4, .i r5, .b r6, .i x7, .i x8, .i r9])
          refine vg_call (C := C_mget) rfl rfl (xs := [.l x4, .i (0 : Int)]) rfl (fun hg => ?_) (fun rs hrs => ?_)
          ·
            exact trivial
          obtain ⟨r10, hr10, rfl⟩ := mget_res hrs
          clear hrs
          change Fm.holds _ _ (lk [.l l, .b r1, .l r2, .i x3, .l x4, .i r5, .b r6, .i x7, .i x8, .i r9, .i r10])
          refine vg_call (C := C_mget) rfl rfl (xs := [.l x4, .i (12 : Int)]) rfl (fun hg => ?_) (fun rs hrs => ?_)
          ·
            exact trivial
          obtain ⟨r11, hr11, rfl⟩ := mget_res hrs
          clear hrs
          change Fm.holds _ _ (lk [.l l, .b r1, .l r2, .i x3, .l x4, .i r5, .b r6, .i x7, .i x8, .i r9, .i r10, .i r11])
          refine ⟨fun hcond => ?_, fun hcond => ?_⟩
          ·
            have c13 : (if (if (if (if (!(r6 == (decide ((0 : Int) < (l.len : Int))))) = true then true else (!(x7 == (l.len : Int)))) = true then true else (!(r9 == x7))) = true then true else (!(r10 == (0 : Int)))) = true then true else (!(r11 == (0 : Int)))) = true := hcond
            clear hcond
            suffices hfin : (false) = (true) from (c_b hfin rfl)
            -- leaf 13 (ret)
            obtain ⟨i1, i2, iok, ips⟩ := hi8
            obtain ⟨k1, k2, ks⟩ := hi15
            
            simp at c8 c12
            have e3 : x3 = l.len := by omega
            have e8 : x8.toNat = 12 := by omega
            rw [e8] at ks
            have n0 : kindB 0 = false := kind_no (by omega)
            have n12 : kindB 12 = false := kind_no (by omega)
            have g9 : r9 = x7 := by rw [hr9, sumTo_eq iok 12 (by omega), ks]
            have g7 : x7 = l.len := by rw [ks, ips, e3]
            have g10 : r10 = 0 := by rw [hr10, n0]; rfl
            have g11 : r11 = 0 := by rw [hr11, n12]; rfl
            have g6 : r6 = decide ((0 : Int) < (l.len : Int)) := by
              rw [hr6]
              apply decide_eq_decide.2
              rw [most_psum iok, ips, e3]
            rw [g6, g9, g10, g11, g7] at c13
            simp at c13
          ·
            have c14 : (if (if (if (if (!(r6 == (decide ((0 : Int) < (l.len : Int))))) = true then true else (!(x7 == (l.len : Int)))) = true then true else (!(r9 == x7))) = true then true else (!(r10 == (0 : Int)))) = true then true else (!(r11 == (0 : Int)))) = false := hcond
            clear hcond
            refine vg_call (C := C_mreset) rfl rfl (xs := [.l x4]) rfl (fun hg => ?_) (fun rs hrs => ?_)
            ·
              exact trivial
            obtain ⟨r12, hr12, rfl⟩ := mreset_res hrs
            clear hrs
            change Fm.holds _ _ (lk [.l l, .b r1, .l r2, .i x3, .l x4, .i r5, .b r6, .i x7, .i x8, .i r9, .i r10, .i r11, .l r12])
            refine vg_call (C := C_mmost) rfl rfl (xs := [.l r12]) rfl (fun hg => ?_) (fun rs hrs => ?_)
            ·
              exact trivial
            obtain ⟨r13, r14, hr13, hr14, rfl⟩ := mmost_res hrs
            clear hrs
            change Fm.holds _ _ (lk [.l l, .b r1, .l r2, .i x3, .l x4, .i r5, .b r6, .i x7, .i x8, .i r9, .i r10, .i r11, .l r12, .i r13, .b r14])
            refine vg_call (C := C_msum) rfl rfl (xs := [.l r12]) rfl (fun hg => ?_) (fun rs hrs => ?_)
            ·
              exact trivial
            obtain ⟨r15, hr15, rfl⟩ := msum_res hrs
            clear hrs
            change Fm.holds _ _ (lk [.l l, .b r1, .l r2, .i x3, .l x4, .i r5, .b r6, .i x7, .i x8, .i r9, .i r10, .i r11, .l r12, .i r13, .b r14, .i r15])
            suffices hfin : ((if (!r14) = true then (r15 == (0 : Int)) else false)) = (true) from (c_b hfin rfl)
            -- leaf 14 (ret)
            have g14 : r14 = false := by rw [hr14, hr12, mostTo_zero (fun j hj => zeroTo_gi _ j hj) 12 (by omega)]; rfl
            have g15 : r15 = 0 := by rw [hr15, hr12, sumTo_zero (fun j hj => zeroTo_gi _ j hj) 12 (by omega)]
            rw [g14, g15]
            rfl
end Go.Proofs.Ytccdhkmohimfhaa
