import Derived.Test.YtccdhkmohimfhaaVMeterPlays
namespace Go.Proofs.Ytccdhkmohimfhaa
open Go.Vg
set_option linter.unusedVariables false
set_option linter.unusedSimpArgs false
open Go


theorem MeterPlays_sound : C_MeterPlays.Sound Try.prog G 4 := by
  refine fn_ok mixed stable tbl_MeterPlays [⟨9, [6, 11, 12, 13, 14, 15, 16, 30, 31, 32, 33, 34, 35, 36, 37, 38, 39, 40, 41, 42, 43, 44, 45, 46, 47, 48, 49, 50, 51, 52, 53, 54, 55, 56, 57, 58, 59, 60, 61, 62, 63, 64, 65, 66, 67, 68, 69, 70, 71, 72, 73, 74, 75, 76, 77, 78, 79, 80, 81, 82, 83, 84, 85, 86, 87, 88, 89, 90, 91, 92, 93, 94, 95, 96, 97, 98, 99, 100, 101, 102, 103, 104, 105, 106, 107, 108, 109, 110, 111, 112, 113, 114, 115, 116, 117, 118, 119, 120], [10], [(0, 0), (1, 0)], [0], some (3, [.i64]), []⟩, ⟨22, [76, 77, 78, 79, 80, 81, 82, 83, 84, 85, 86, 87, 88, 89, 90, 91, 92, 93, 94, 95, 96, 97, 98, 99, 100, 101, 102], [12, 13, 14], [(0, 0), (1, 0)], [6], some (3, [.i64]), []⟩, ⟨6, [], [], [], [], none, [(0, 1)]⟩, ⟨7, [], [], [], [], none, [(1, 1)]⟩] Try.func4 (by kernel_rfl) phi_MeterPlays vc_MeterPlays ⟨first20_sound, madd_sound, mmost_sound, mget_sound, msum_sound, mreset_sound, trivial⟩ inv_MeterPlays meas_MeterPlays ?_
  intro ls hp
  obtain ⟨l, back, ask, rfl, hpre⟩ := MeterPlays_pre hp
  clear hp
  rw [envOf_lk]
  unfold phi_MeterPlays
  refine vg_call (C := C_first20) rfl rfl (xs := []) rfl (fun hg => ?_) (fun rs hrs => ?_)
  ·
    exact trivial
  obtain ⟨r3, hr3, rfl⟩ := first20_res hrs
  clear hrs
  change Fm.holds _ _ (lk [.l l, .l back, .i ask, .b r3])
  refine ⟨fun hcond => ?_, fun hcond => ?_⟩
  ·
    have c1 : r3 = false := hcond
    clear hcond
    suffices hfin : (false) = (true) from (c_b hfin rfl)
    -- leaf 1 (ret)
    rw [hr3] at c1; cases c1
  ·
    have c2 : r3 = true := hcond
    clear hcond
    refine ⟨fun hcond => ?_, fun hcond => ?_⟩
    ·
      have c3 : (if (decide ((80 : Int) < (l.len : Int))) = true then true else (decide ((80 : Int) < (back.len : Int)))) = true := hcond
      clear hcond
      suffices hfin : (r3) = (true) from (c_b hfin rfl)
      -- leaf 2 (ret)
      exact hr3
    ·
      have c4 : (if (decide ((80 : Int) < (l.len : Int))) = true then true else (decide ((80 : Int) < (back.len : Int)))) = false := hcond
      clear hcond
      have hlen : (l.len : Int) ≤ 80 := by
        have h := c4
        revert h
        by_cases hh : (80 : Int) < l.len
        · simp [hh]
        · intro _; omega
      have kk8 : ∀ {i : Int}, (if (decide ((1 : Int) ≤ (l.gi (Int.toNat i) 0))) = true then (decide ((l.gi (Int.toNat i) 0) ≤ (11 : Int))) else false) = true → 1 ≤ l.gi (Int.toNat i) 0 ∧ l.gi (Int.toNat i) 0 ≤ 11 := fun h => by simpa using h
      have kk23 : ∀ {i : Int}, (if (decide ((1 : Int) ≤ (l.gi (Int.toNat i) 0))) = true then (decide ((l.gi (Int.toNat i) 0) ≤ (11 : Int))) else false) = false → l.gi (Int.toNat i) 0 < 1 ∨ 11 < l.gi (Int.toNat i) 0 := fun h => by
        simp at h
        omega
      refine vg_lett rfl (x := _) rfl (fun r4 hr4 => ?_)
      change Fm.holds _ _ (lk [.l l, .l back, .i ask, .b r3, .l r4])
      have hzr4 : ∀ j : Nat, r4.gi j 0 = 0 := fun j => by rw [hr4]; exact zeros12 _ j 0
      clear hr4
      refine vg_lett rfl (x := _) rfl (fun r5 hr5 => ?_)
      change Fm.holds _ _ (lk [.l l, .l back, .i ask, .b r3, .l r4, .l r5])
      have hzr5 : ∀ j : Nat, r5.gi j 0 = 0 := fun j => by rw [hr5]; exact zeros12 _ j 0
      clear hr5
      refine vg_loop rfl ?_ (fun xs hfit hi => ?_)
      ·
        show inv_MeterPlays_9 l (0 : Int) r4 r5
        -- leaf 3 (init)
        exact ⟨by omega, by omega, okM_zero hzr4, fun j _ => hzr4 j, fun j => by rw [hzr4, hzr5]⟩
      obtain ⟨x6, xs0, rfl, hfit0⟩ := fits_i hfit
      obtain ⟨x7, xs1, rfl, hfit1⟩ := fits_l hfit0
      obtain ⟨x8, xs2, rfl, hfit2⟩ := fits_l hfit1
      obtain rfl := fits_nil hfit2
      clear hfit hfit0 hfit1 hfit2
      replace hi : inv_MeterPlays_9 l x6 x7 x8 := hi
      have hi9 := hi; clear hi
      change Fm.holds _ _ (lk [.l l, .l back, .i ask, .b r3, .l r4, .l r5, .i x6, .l x7, .l x8])
      refine ⟨fun hcond => ?_, fun hcond => ?_⟩
      ·
        have c5 : (decide (x6 < (l.len : Int))) = true := hcond
        clear hcond
        refine ⟨fun hg => ?_, ?_⟩
        ·
          show (decide ((0 : Int) ≤ x6)) = true
          -- leaf 4 (ob)
          obtain ⟨i1, i2, iok, iz, imn⟩ := hi9
          simp; omega
        refine vg_call (C := C_madd) rfl rfl (xs := [.l x7, .i (l.gi (Int.toNat x6) 0)]) rfl (fun hg => ?_) (fun rs hrs => ?_)
        ·
          exact trivial
        obtain ⟨r9, r10, hr9, hr10, rfl⟩ := madd_res hrs
        clear hrs
        change Fm.holds _ _ (lk [.l l, .l back, .i ask, .b r3, .l r4, .l r5, .i x6, .l x7, .l x8, .l r9, .b r10])
        refine ⟨fun hcond => ?_, fun hcond => ?_⟩
        ·
          have c6 : (r10 == (if (decide ((1 : Int) ≤ (l.gi (Int.toNat x6) 0))) = true then (decide ((l.gi (Int.toNat x6) 0) ≤ (11 : Int))) else false)) = false := hcond
          clear hcond
          suffices hfin : (false) = (true) from (c_b hfin rfl)
          -- leaf 5 (ret)
          rw [hr10] at c6
          exfalso
          revert c6
          unfold kindB
          cases decide ((1 : Int) ≤ l.gi (Int.toNat x6) 0) <;> simp
        ·
          have c7 : (r10 == (if (decide ((1 : Int) ≤ (l.gi (Int.toNat x6) 0))) = true then (decide ((l.gi (Int.toNat x6) 0) ≤ (11 : Int))) else false)) = true := hcond
          clear hcond
          refine ⟨fun hcond => ?_, fun hcond => ?_⟩
          ·
            have c8 : (if (decide ((1 : Int) ≤ (l.gi (Int.toNat x6) 0))) = true then (decide ((l.gi (Int.toNat x6) 0) ≤ (11 : Int))) else false) = true := hcond
            clear hcond
            refine ⟨fun hg => ?_, ?_⟩
            ·
              show (decide ((0 : Int) ≤ (l.gi (Int.toNat x6) 0))) = true
              -- leaf 6 (ob)
              have h := kk8 c8
              simp; omega
            refine ⟨fun hg => ?_, ?_⟩
            ·
              show (decide ((l.gi (Int.toNat x6) 0) < (12 : Int))) = true
              -- leaf 7 (ob)
              have h := kk8 c8
              simp; omega
            refine vg_lett rfl (x := (LV.upd x8 (l.gi (Int.toNat x6) 0) (IntKind.wrap .i64 ((x8.gi (Int.toNat (l.gi (Int.toNat x6) 0)) 0) + (1 : Int))))) rfl (fun r11 hr11 => ?_)
            change Fm.holds _ _ (lk [.l l, .l back, .i ask, .b r3, .l r4, .l r5, .i x6, .l x7, .l x8, .l r9, .b r10, .l r11])
            refine ⟨fun hcond => ?_, fun hcond => ?_⟩
            ·
              have c9 : (if (decide (x6 < (back.len : Int))) = true then (back.gb (Int.toNat x6) 0) else false) = true := hcond
              clear hcond
              refine vg_call (C := C_mreset) rfl rfl (xs := [.l r9]) rfl (fun hg => ?_) (fun rs hrs => ?_)
              ·
                exact trivial
              obtain ⟨r12, hr12, rfl⟩ := mreset_res hrs
              clear hrs
              change Fm.holds _ _ (lk [.l l, .l back, .i ask, .b r3, .l r4, .l r5, .i x6, .l x7, .l x8, .l r9, .b r10, .l r11, .l r12])
              refine vg_lett rfl (x := _) rfl (fun r13 hr13 => ?_)
              change Fm.holds _ _ (lk [.l l, .l back, .i ask, .b r3, .l r4, .l r5, .i x6, .l x7, .l x8, .l r9, .b r10, .l r11, .l r12, .l r13])
              have hzr13 : ∀ j : Nat, r13.gi j 0 = 0 := fun j => by rw [hr13]; exact zeros12 _ j 0
              clear hr13
              refine vg_loop rfl ?_ (fun xs hfit hi => ?_)
              ·
                show inv_MeterPlays_22 x6 (0 : Int) (0 : Int) (1 : Int) r12 r13
                -- leaf 8 (init)
                obtain ⟨i1, i2, iok, iz, imn⟩ := hi9
                
                have hk := kk8 c8
                have a1 := addM_ok iok hk (by omega)
                have a2 := add_far iok iz hk
                have a3 := add_both iok imn hk
                have hz : ∀ j : Nat, r12.gi j 0 = 0 := fun j => by rw [hr12]; exact zeroTo_all (by rw [hr9]; exact a2) j
                exact ⟨by omega, by omega, okM_le (okM_zero hz) (by omega) (by omega), fun j _ => hz j, fun j => by rw [hz, hzr13], (inner_init (okM_zero hz)).1.symm, (inner_init (okM_zero hz)).2.symm⟩
              obtain ⟨x14, xs0, rfl, hfit0⟩ := fits_i hfit
              obtain ⟨x15, xs1, rfl, hfit1⟩ := fits_i hfit0
              obtain ⟨x16, xs2, rfl, hfit2⟩ := fits_i hfit1
              obtain ⟨x17, xs3, rfl, hfit3⟩ := fits_l hfit2
              obtain ⟨x18, xs4, rfl, hfit4⟩ := fits_l hfit3
              obtain rfl := fits_nil hfit4
              clear hfit hfit0 hfit1 hfit2 hfit3 hfit4
              replace hi : inv_MeterPlays_22 x6 x14 x15 x16 x17 x18 := hi
              have hi22 := hi; clear hi
              change Fm.holds _ _ (lk [.l l, .l back, .i ask, .b r3, .l r4, .l r5, .i x6, .l x7, .l x8, .l r9, .b r10, .l r11, .l r12, .l r13, .i x14, .i x15, .i x16, .l x17, .l x18])
              refine ⟨fun hcond => ?_, fun hcond => ?_⟩
              ·
                have c10 : (decide (x16 ≤ (11 : Int))) = true := hcond
                clear hcond
                refine ⟨fun hg => ?_, ?_⟩
                ·
                  show (decide ((0 : Int) ≤ x16)) = true
                  -- leaf 9 (ob)
                  obtain ⟨k1, k2, kok, kz, kmn, ks, kmo⟩ := hi22
                  have hle : x16 ≤ 11 := by simpa using c10
                  simp; omega
                refine ⟨fun hg => ?_, ?_⟩
                ·
                  show (decide (x16 < (12 : Int))) = true
                  -- leaf 10 (ob)
                  obtain ⟨k1, k2, kok, kz, kmn, ks, kmo⟩ := hi22
                  have hle : x16 ≤ 11 := by simpa using c10
                  simp; omega
                refine ⟨fun hg => ?_, ?_⟩
                ·
                  simp only [gd_cons, gd_nil, and_true] at hg
                  replace hg : (x15 == (0 : Int)) = false ∧ (decide ((0 : Int) < (x18.gi (Int.toNat x16) 0))) = true := hg
                  show (decide ((0 : Int) ≤ x15)) = true
                  -- leaf 11 (ob)
                  obtain ⟨k1, k2, kok, kz, kmn, ks, kmo⟩ := hi22
                  have hle : x16 ≤ 11 := by simpa using c10
                  have hm := most_le x17 ⟨k1, by omega⟩ kmo
                  simp; omega
                refine ⟨fun hg => ?_, ?_⟩
                ·
                  simp only [gd_cons, gd_nil, and_true] at hg
                  replace hg : (x15 == (0 : Int)) = false ∧ (decide ((0 : Int) < (x18.gi (Int.toNat x16) 0))) = true := hg
                  show (decide (x15 < (12 : Int))) = true
                  -- leaf 12 (ob)
                  obtain ⟨k1, k2, kok, kz, kmn, ks, kmo⟩ := hi22
                  have hle : x16 ≤ 11 := by simpa using c10
                  have hm := most_le x17 ⟨k1, by omega⟩ kmo
                  simp; omega
                refine ⟨fun hg => ?_, ?_⟩
                ·
                  simp only [gd_cons, gd_nil, and_true] at hg
                  replace hg : (x15 == (0 : Int)) = false ∧ (decide ((0 : Int) < (x18.gi (Int.toNat x16) 0))) = true := hg
                  show (decide ((0 : Int) ≤ x15)) = true
                  -- leaf 13 (ob)
                  obtain ⟨k1, k2, kok, kz, kmn, ks, kmo⟩ := hi22
                  have hle : x16 ≤ 11 := by simpa using c10
                  have hm := most_le x17 ⟨k1, by omega⟩ kmo
                  simp; omega
                refine ⟨fun hg => ?_, ?_⟩
                ·
                  simp only [gd_cons, gd_nil, and_true] at hg
                  replace hg : (x15 == (0 : Int)) = false ∧ (decide ((0 : Int) < (x18.gi (Int.toNat x16) 0))) = true := hg
                  show (decide (x15 < (12 : Int))) = true
                  -- leaf 14 (ob)
                  obtain ⟨k1, k2, kok, kz, kmn, ks, kmo⟩ := hi22
                  have hle : x16 ≤ 11 := by simpa using c10
                  have hm := most_le x17 ⟨k1, by omega⟩ kmo
                  simp; omega
                refine ⟨fun hcond => ?_, fun hcond => ?_⟩
                ·
                  have c11 : (if (decide ((0 : Int) < (x18.gi (Int.toNat x16) 0))) = true then (if (x15 == (0 : Int)) = true then true else (decide ((x18.gi (Int.toNat x15) 0) < (x18.gi (Int.toNat x16) 0)))) else false) = true := hcond
                  clear hcond
                  refine ⟨?_, ?_⟩
                  ·
                    show inv_MeterPlays_22 x6 (IntKind.wrap .i64 (x14 + (x18.gi (Int.toNat x16) 0))) x16 (IntKind.wrap .i64 (x16 + (1 : Int))) x17 x18
                    -- leaf 15 (back)
                    obtain ⟨i1, i2, iok, iz, imn⟩ := hi9
                    obtain ⟨k1, k2, kok, kz, kmn, ks, kmo⟩ := hi22
                    have hle : x16 ≤ 11 := by simpa using c10
                    
                    have hc := c11
                    rw [most_cond kok kmn ⟨k1, hle⟩ kmo] at hc
                    have hw : IntKind.wrap .i64 (x16 + 1) = x16 + 1 := wrap_in (by omega) (by omega)
                    rw [hw, sum_next kok (by omega) kmn ⟨k1, hle⟩ ks]
                    refine ⟨by omega, by omega, kok, kz, kmn, rfl, ?_⟩
                    rw [most_next ⟨k1, hle⟩ kmo]
                    rw [if_pos (by simpa using hc)]
                  ·
                    show meas_MeterPlays_22 x6 (IntKind.wrap .i64 (x14 + (x18.gi (Int.toNat x16) 0))) x16 (IntKind.wrap .i64 (x16 + (1 : Int))) x17 x18 < meas_MeterPlays_22 x6 x14 x15 x16 x17 x18
                    -- leaf 16 (meas)
                    obtain ⟨k1, k2, kok, kz, kmn, ks, kmo⟩ := hi22
                    have hle : x16 ≤ 11 := by simpa using c10
                    rw [wrap_in (n := x16 + 1) (by omega) (by omega)]
                    unfold meas_MeterPlays_22
                    omega
                ·
                  have c12 : (if (decide ((0 : Int) < (x18.gi (Int.toNat x16) 0))) = true then (if (x15 == (0 : Int)) = true then true else (decide ((x18.gi (Int.toNat x15) 0) < (x18.gi (Int.toNat x16) 0)))) else false) = false := hcond
                  clear hcond
                  refine ⟨?_, ?_⟩
                  ·
                    show inv_MeterPlays_22 x6 (IntKind.wrap .i64 (x14 + (x18.gi (Int.toNat x16) 0))) x15 (IntKind.wrap .i64 (x16 + (1 : Int))) x17 x18
                    -- leaf 17 (back)
                    obtain ⟨i1, i2, iok, iz, imn⟩ := hi9
                    obtain ⟨k1, k2, kok, kz, kmn, ks, kmo⟩ := hi22
                    have hle : x16 ≤ 11 := by simpa using c10
                    
                    have hc := c12
                    rw [most_cond kok kmn ⟨k1, hle⟩ kmo] at hc
                    have hw : IntKind.wrap .i64 (x16 + 1) = x16 + 1 := wrap_in (by omega) (by omega)
                    rw [hw, sum_next kok (by omega) kmn ⟨k1, hle⟩ ks]
                    refine ⟨by omega, by omega, kok, kz, kmn, rfl, ?_⟩
                    rw [most_next ⟨k1, hle⟩ kmo]
                    rw [if_neg (by simpa using hc)]
                  ·
                    show meas_MeterPlays_22 x6 (IntKind.wrap .i64 (x14 + (x18.gi (Int.toNat x16) 0))) x15 (IntKind.wrap .i64 (x16 + (1 : Int))) x17 x18 < meas_MeterPlays_22 x6 x14 x15 x16 x17 x18
                    -- leaf 18 (meas)
                    obtain ⟨k1, k2, kok, kz, kmn, ks, kmo⟩ := hi22
                    have hle : x16 ≤ 11 := by simpa using c10
                    rw [wrap_in (n := x16 + 1) (by omega) (by omega)]
                    unfold meas_MeterPlays_22
                    omega
              ·
                have c13 : (decide (x16 ≤ (11 : Int))) = false := hcond
                clear hcond
                refine vg_call (C := C_mmost) rfl rfl (xs := [.l x17]) rfl (fun hg => ?_) (fun rs hrs => ?_)
                ·
                  exact trivial
                obtain ⟨r19, r20, hr19, hr20, rfl⟩ := mmost_res hrs
                clear hrs
                change Fm.holds _ _ (lk [.l l, .l back, .i ask, .b r3, .l r4, .l r5, .i x6, .l x7, .l x8, .l r9, .b r10, .l r11, .l r12, .l r13, .i x14, .i x15, .i x16, .l x17, .l x18, .i r19, .b r20])
                refine vg_call (C := C_msum) rfl rfl (xs := [.l x17]) rfl (fun hg => ?_) (fun rs hrs => ?_)
                ·
                  exact trivial
                obtain ⟨r21, hr21, rfl⟩ := msum_res hrs
                clear hrs
                change Fm.holds _ _ (lk [.l l, .l back, .i ask, .b r3, .l r4, .l r5, .i x6, .l x7, .l x8, .l r9, .b r10, .l r11, .l r12, .l r13, .i x14, .i x15, .i x16, .l x17, .l x18, .i r19, .b r20, .i r21])
                refine ⟨fun hcond => ?_, fun hcond => ?_⟩
                ·
                  have c14 : (if (if (!(r21 == x14)) = true then true else (!(r20 == (decide ((0 : Int) < x15))))) = true then true else (!(r19 == x15))) = true := hcond
                  clear hcond
                  suffices hfin : (false) = (true) from (c_b hfin rfl)
                  -- leaf 19 (ret)
                  obtain ⟨i1, i2, iok, iz, imn⟩ := hi9
                  obtain ⟨k1, k2, kok, kz, kmn, ks, kmo⟩ := hi22
                  
                  have h12 : x16.toNat = 12 := by
                    have := c13
                    simp at this
                    omega
                  rw [h12] at ks kmo
                  rw [hr19, hr20, hr21, sumTo_eq kok 12 (by omega), ← ks, ← kmo] at c14
                  simp at c14
                ·
                  have c15 : (if (if (!(r21 == x14)) = true then true else (!(r20 == (decide ((0 : Int) < x15))))) = true then true else (!(r19 == x15))) = false := hcond
                  clear hcond
                  refine ⟨?_, ?_⟩
                  ·
                    show inv_MeterPlays_9 l (IntKind.wrap .i64 (x6 + (1 : Int))) x17 x18
                    -- leaf 20 (back)
                    obtain ⟨i1, i2, iok, iz, imn⟩ := hi9
                    obtain ⟨k1, k2, kok, kz, kmn, ks, kmo⟩ := hi22
                    
                    simp at c5
                    rw [wrap_in (n := x6 + 1) (by omega) (by omega)]
                    exact ⟨by omega, by omega, kok, kz, kmn⟩
                  ·
                    show meas_MeterPlays_9 l (IntKind.wrap .i64 (x6 + (1 : Int))) x17 x18 < meas_MeterPlays_9 l x6 x7 x8
                    -- leaf 21 (meas)
                    obtain ⟨i1, i2, iok, iz, imn⟩ := hi9
                    simp at c5
                    rw [wrap_in (n := x6 + 1) (by omega) (by omega)]
                    unfold meas_MeterPlays_9
                    omega
            ·
              have c16 : (if (decide (x6 < (back.len : Int))) = true then (back.gb (Int.toNat x6) 0) else false) = false := hcond
              clear hcond
              refine vg_loop rfl ?_ (fun xs hfit hi => ?_)
              ·
                show inv_MeterPlays_22 x6 (0 : Int) (0 : Int) (1 : Int) r9 r11
                -- leaf 22 (init)
                obtain ⟨i1, i2, iok, iz, imn⟩ := hi9
                
                have hk := kk8 c8
                have a1 := addM_ok iok hk (by omega)
                have a2 := add_far iok iz hk
                have a3 := add_both iok imn hk
                rw [← hr9] at a1 a2 a3
                rw [← hr11] at a3
                exact ⟨by omega, by omega, a1, a2, a3, (inner_init a1).1.symm, (inner_init a1).2.symm⟩
              obtain ⟨x12, xs0, rfl, hfit0⟩ := fits_i hfit
              obtain ⟨x13, xs1, rfl, hfit1⟩ := fits_i hfit0
              obtain ⟨x14, xs2, rfl, hfit2⟩ := fits_i hfit1
              obtain ⟨x15, xs3, rfl, hfit3⟩ := fits_l hfit2
              obtain ⟨x16, xs4, rfl, hfit4⟩ := fits_l hfit3
              obtain rfl := fits_nil hfit4
              clear hfit hfit0 hfit1 hfit2 hfit3 hfit4
              replace hi : inv_MeterPlays_22 x6 x12 x13 x14 x15 x16 := hi
              have hi22 := hi; clear hi
              change Fm.holds _ _ (lk [.l l, .l back, .i ask, .b r3, .l r4, .l r5, .i x6, .l x7, .l x8, .l r9, .b r10, .l r11, .i x12, .i x13, .i x14, .l x15, .l x16])
              refine ⟨fun hcond => ?_, fun hcond => ?_⟩
              ·
                have c17 : (decide (x14 ≤ (11 : Int))) = true := hcond
                clear hcond
                refine ⟨fun hg => ?_, ?_⟩
                ·
                  show (decide ((0 : Int) ≤ x14)) = true
                  -- leaf 23 (ob)
                  obtain ⟨k1, k2, kok, kz, kmn, ks, kmo⟩ := hi22
                  have hle : x14 ≤ 11 := by simpa using c17
                  simp; omega
                refine ⟨fun hg => ?_, ?_⟩
                ·
                  show (decide (x14 < (12 : Int))) = true
                  -- leaf 24 (ob)
                  obtain ⟨k1, k2, kok, kz, kmn, ks, kmo⟩ := hi22
                  have hle : x14 ≤ 11 := by simpa using c17
                  simp; omega
                refine ⟨fun hg => ?_, ?_⟩
                ·
                  simp only [gd_cons, gd_nil, and_true] at hg
                  replace hg : (x13 == (0 : Int)) = false ∧ (decide ((0 : Int) < (x16.gi (Int.toNat x14) 0))) = true := hg
                  show (decide ((0 : Int) ≤ x13)) = true
                  -- leaf 25 (ob)
                  obtain ⟨k1, k2, kok, kz, kmn, ks, kmo⟩ := hi22
                  have hle : x14 ≤ 11 := by simpa using c17
                  have hm := most_le x15 ⟨k1, by omega⟩ kmo
                  simp; omega
                refine ⟨fun hg => ?_, ?_⟩
                ·
                  simp only [gd_cons, gd_nil, and_true] at hg
                  replace hg : (x13 == (0 : Int)) = false ∧ (decide ((0 : Int) < (x16.gi (Int.toNat x14) 0))) = true := hg
                  show (decide (x13 < (12 : Int))) = true
                  -- leaf 26 (ob)
                  obtain ⟨k1, k2, kok, kz, kmn, ks, kmo⟩ := hi22
                  have hle : x14 ≤ 11 := by simpa using c17
                  have hm := most_le x15 ⟨k1, by omega⟩ kmo
                  simp; omega
                refine ⟨fun hg => ?_, ?_⟩
                ·
                  simp only [gd_cons, gd_nil, and_true] at hg
                  replace hg : (x13 == (0 : Int)) = false ∧ (decide ((0 : Int) < (x16.gi (Int.toNat x14) 0))) = true := hg
                  show (decide ((0 : Int) ≤ x13)) = true
                  -- leaf 27 (ob)
                  obtain ⟨k1, k2, kok, kz, kmn, ks, kmo⟩ := hi22
                  have hle : x14 ≤ 11 := by simpa using c17
                  have hm := most_le x15 ⟨k1, by omega⟩ kmo
                  simp; omega
                refine ⟨fun hg => ?_, ?_⟩
                ·
                  simp only [gd_cons, gd_nil, and_true] at hg
                  replace hg : (x13 == (0 : Int)) = false ∧ (decide ((0 : Int) < (x16.gi (Int.toNat x14) 0))) = true := hg
                  show (decide (x13 < (12 : Int))) = true
                  -- leaf 28 (ob)
                  obtain ⟨k1, k2, kok, kz, kmn, ks, kmo⟩ := hi22
                  have hle : x14 ≤ 11 := by simpa using c17
                  have hm := most_le x15 ⟨k1, by omega⟩ kmo
                  simp; omega
                refine ⟨fun hcond => ?_, fun hcond => ?_⟩
                ·
                  have c18 : (if (decide ((0 : Int) < (x16.gi (Int.toNat x14) 0))) = true then (if (x13 == (0 : Int)) = true then true else (decide ((x16.gi (Int.toNat x13) 0) < (x16.gi (Int.toNat x14) 0)))) else false) = true := hcond
                  clear hcond
                  refine ⟨?_, ?_⟩
                  ·
                    show inv_MeterPlays_22 x6 (IntKind.wrap .i64 (x12 + (x16.gi (Int.toNat x14) 0))) x14 (IntKind.wrap .i64 (x14 + (1 : Int))) x15 x16
                    -- leaf 29 (back)
                    obtain ⟨i1, i2, iok, iz, imn⟩ := hi9
                    obtain ⟨k1, k2, kok, kz, kmn, ks, kmo⟩ := hi22
                    have hle : x14 ≤ 11 := by simpa using c17
                    
                    have hc := c18
                    rw [most_cond kok kmn ⟨k1, hle⟩ kmo] at hc
                    have hw : IntKind.wrap .i64 (x14 + 1) = x14 + 1 := wrap_in (by omega) (by omega)
                    rw [hw, sum_next kok (by omega) kmn ⟨k1, hle⟩ ks]
                    refine ⟨by omega, by omega, kok, kz, kmn, rfl, ?_⟩
                    rw [most_next ⟨k1, hle⟩ kmo]
                    rw [if_pos (by simpa using hc)]
                  ·
                    show meas_MeterPlays_22 x6 (IntKind.wrap .i64 (x12 + (x16.gi (Int.toNat x14) 0))) x14 (IntKind.wrap .i64 (x14 + (1 : Int))) x15 x16 < meas_MeterPlays_22 x6 x12 x13 x14 x15 x16
                    -- leaf 30 (meas)
                    obtain ⟨k1, k2, kok, kz, kmn, ks, kmo⟩ := hi22
                    have hle : x14 ≤ 11 := by simpa using c17
                    rw [wrap_in (n := x14 + 1) (by omega) (by omega)]
                    unfold meas_MeterPlays_22
                    omega
                ·
                  have c19 : (if (decide ((0 : Int) < (x16.gi (Int.toNat x14) 0))) = true then (if (x13 == (0 : Int)) = true then true else (decide ((x16.gi (Int.toNat x13) 0) < (x16.gi (Int.toNat x14) 0)))) else false) = false := hcond
                  clear hcond
                  refine ⟨?_, ?_⟩
                  ·
                    show inv_MeterPlays_22 x6 (IntKind.wrap .i64 (x12 + (x16.gi (Int.toNat x14) 0))) x13 (IntKind.wrap .i64 (x14 + (1 : Int))) x15 x16
                    -- leaf 31 (back)
                    obtain ⟨i1, i2, iok, iz, imn⟩ := hi9
                    obtain ⟨k1, k2, kok, kz, kmn, ks, kmo⟩ := hi22
                    have hle : x14 ≤ 11 := by simpa using c17
                    
                    have hc := c19
                    rw [most_cond kok kmn ⟨k1, hle⟩ kmo] at hc
                    have hw : IntKind.wrap .i64 (x14 + 1) = x14 + 1 := wrap_in (by omega) (by omega)
                    rw [hw, sum_next kok (by omega) kmn ⟨k1, hle⟩ ks]
                    refine ⟨by omega, by omega, kok, kz, kmn, rfl, ?_⟩
                    rw [most_next ⟨k1, hle⟩ kmo]
                    rw [if_neg (by simpa using hc)]
                  ·
                    show meas_MeterPlays_22 x6 (IntKind.wrap .i64 (x12 + (x16.gi (Int.toNat x14) 0))) x13 (IntKind.wrap .i64 (x14 + (1 : Int))) x15 x16 < meas_MeterPlays_22 x6 x12 x13 x14 x15 x16
                    -- leaf 32 (meas)
                    obtain ⟨k1, k2, kok, kz, kmn, ks, kmo⟩ := hi22
                    have hle : x14 ≤ 11 := by simpa using c17
                    rw [wrap_in (n := x14 + 1) (by omega) (by omega)]
                    unfold meas_MeterPlays_22
                    omega
              ·
                have c20 : (decide (x14 ≤ (11 : Int))) = false := hcond
                clear hcond
                refine vg_call (C := C_mmost) rfl rfl (xs := [.l x15]) rfl (fun hg => ?_) (fun rs hrs => ?_)
                ·
                  exact trivial
                obtain ⟨r17, r18, hr17, hr18, rfl⟩ := mmost_res hrs
                clear hrs
                change Fm.holds _ _ (lk [.l l, .l back, .i ask, .b r3, .l r4, .l r5, .i x6, .l x7, .l x8, .l r9, .b r10, .l r11, .i x12, .i x13, .i x14, .l x15, .l x16, .i r17, .b r18])
                refine vg_call (C := C_msum) rfl rfl (xs := [.l x15]) rfl (fun hg => ?_) (fun rs hrs => ?_)
                ·
                  exact trivial
                obtain ⟨r19, hr19, rfl⟩ := msum_res hrs
                clear hrs
                change Fm.holds _ _ (lk [.l l, .l back, .i ask, .b r3, .l r4, .l r5, .i x6, .l x7, .l x8, .l r9, .b r10, .l r11, .i x12, .i x13, .i x14, .l x15, .l x16, .i r17, .b r18, .i r19])
                refine ⟨fun hcond => ?_, fun hcond => ?_⟩
                ·
                  have c21 : (if (if (!(r19 == x12)) = true then true else (!(r18 == (decide ((0 : Int) < x13))))) = true then true else (!(r17 == x13))) = true := hcond
                  clear hcond
                  suffices hfin : (false) = (true) from (c_b hfin rfl)
                  -- leaf 33 (ret)
                  obtain ⟨i1, i2, iok, iz, imn⟩ := hi9
                  obtain ⟨k1, k2, kok, kz, kmn, ks, kmo⟩ := hi22
                  
                  have h12 : x14.toNat = 12 := by
                    have := c20
                    simp at this
                    omega
                  rw [h12] at ks kmo
                  rw [hr17, hr18, hr19, sumTo_eq kok 12 (by omega), ← ks, ← kmo] at c21
                  simp at c21
                ·
                  have c22 : (if (if (!(r19 == x12)) = true then true else (!(r18 == (decide ((0 : Int) < x13))))) = true then true else (!(r17 == x13))) = false := hcond
                  clear hcond
                  refine ⟨?_, ?_⟩
                  ·
                    show inv_MeterPlays_9 l (IntKind.wrap .i64 (x6 + (1 : Int))) x15 x16
                    -- leaf 34 (back)
                    obtain ⟨i1, i2, iok, iz, imn⟩ := hi9
                    obtain ⟨k1, k2, kok, kz, kmn, ks, kmo⟩ := hi22
                    
                    simp at c5
                    rw [wrap_in (n := x6 + 1) (by omega) (by omega)]
                    exact ⟨by omega, by omega, kok, kz, kmn⟩
                  ·
                    show meas_MeterPlays_9 l (IntKind.wrap .i64 (x6 + (1 : Int))) x15 x16 < meas_MeterPlays_9 l x6 x7 x8
                    -- leaf 35 (meas)
                    obtain ⟨i1, i2, iok, iz, imn⟩ := hi9
                    simp at c5
                    rw [wrap_in (n := x6 + 1) (by omega) (by omega)]
                    unfold meas_MeterPlays_9
                    omega
          ·
            have c23 : (if (decide ((1 : Int) ≤ (l.gi (Int.toNat x6) 0))) = true then (decide ((l.gi (Int.toNat x6) 0) ≤ (11 : Int))) else false) = false := hcond
            clear hcond
            refine ⟨fun hcond => ?_, fun hcond => ?_⟩
            ·
              have c24 : (if (decide (x6 < (back.len : Int))) = true then (back.gb (Int.toNat x6) 0) else false) = true := hcond
              clear hcond
              refine vg_call (C := C_mreset) rfl rfl (xs := [.l r9]) rfl (fun hg => ?_) (fun rs hrs => ?_)
              ·
                exact trivial
              obtain ⟨r11, hr11, rfl⟩ := mreset_res hrs
              clear hrs
              change Fm.holds _ _ (lk [.l l, .l back, .i ask, .b r3, .l r4, .l r5, .i x6, .l x7, .l x8, .l r9, .b r10, .l r11])
              refine vg_lett rfl (x := _) rfl (fun r12 hr12 => ?_)
              change Fm.holds _ _ (lk [.l l, .l back, .i ask, .b r3, .l r4, .l r5, .i x6, .l x7, .l x8, .l r9, .b r10, .l r11, .l r12])
              have hzr12 : ∀ j : Nat, r12.gi j 0 = 0 := fun j => by rw [hr12]; exact zeros12 _ j 0
              clear hr12
              refine vg_loop rfl ?_ (fun xs hfit hi => ?_)
              ·
                show inv_MeterPlays_22 x6 (0 : Int) (0 : Int) (1 : Int) r11 r12
                -- leaf 36 (init)
                obtain ⟨i1, i2, iok, iz, imn⟩ := hi9
                
                have hk := kk23 c23
                have e9 : r9 = x7 := by rw [hr9, addM_no x7 hk]
                have hz : ∀ j : Nat, r11.gi j 0 = 0 := fun j => by rw [hr11, e9]; exact zeroTo_all iz j
                exact ⟨by omega, by omega, okM_le (okM_zero hz) (by omega) (by omega), fun j _ => hz j, fun j => by rw [hz, hzr12], (inner_init (okM_zero hz)).1.symm, (inner_init (okM_zero hz)).2.symm⟩
              obtain ⟨x13, xs0, rfl, hfit0⟩ := fits_i hfit
              obtain ⟨x14, xs1, rfl, hfit1⟩ := fits_i hfit0
              obtain ⟨x15, xs2, rfl, hfit2⟩ := fits_i hfit1
              obtain ⟨x16, xs3, rfl, hfit3⟩ := fits_l hfit2
              obtain ⟨x17, xs4, rfl, hfit4⟩ := fits_l hfit3
              obtain rfl := fits_nil hfit4
              clear hfit hfit0 hfit1 hfit2 hfit3 hfit4
              replace hi : inv_MeterPlays_22 x6 x13 x14 x15 x16 x17 := hi
              have hi22 := hi; clear hi
              change Fm.holds _ _ (lk [.l l, .l back, .i ask, .b r3, .l r4, .l r5, .i x6, .l x7, .l x8, .l r9, .b r10, .l r11, .l r12, .i x13, .i x14, .i x15, .l x16, .l x17])
              refine ⟨fun hcond => ?_, fun hcond => ?_⟩
              ·
                have c25 : (decide (x15 ≤ (11 : Int))) = true := hcond
                clear hcond
                refine ⟨fun hg => ?_, ?_⟩
                ·
                  show (decide ((0 : Int) ≤ x15)) = true
                  -- leaf 37 (ob)
                  obtain ⟨k1, k2, kok, kz, kmn, ks, kmo⟩ := hi22
                  have hle : x15 ≤ 11 := by simpa using c25
                  simp; omega
                refine ⟨fun hg => ?_, ?_⟩
                ·
                  show (decide (x15 < (12 : Int))) = true
                  -- leaf 38 (ob)
                  obtain ⟨k1, k2, kok, kz, kmn, ks, kmo⟩ := hi22
                  have hle : x15 ≤ 11 := by simpa using c25
                  simp; omega
                refine ⟨fun hg => ?_, ?_⟩
                ·
                  simp only [gd_cons, gd_nil, and_true] at hg
                  replace hg : (x14 == (0 : Int)) = false ∧ (decide ((0 : Int) < (x17.gi (Int.toNat x15) 0))) = true := hg
                  show (decide ((0 : Int) ≤ x14)) = true
                  -- leaf 39 (ob)
                  obtain ⟨k1, k2, kok, kz, kmn, ks, kmo⟩ := hi22
                  have hle : x15 ≤ 11 := by simpa using c25
                  have hm := most_le x16 ⟨k1, by omega⟩ kmo
                  simp; omega
                refine ⟨fun hg => ?_, ?_⟩
                ·
                  simp only [gd_cons, gd_nil, and_true] at hg
                  replace hg : (x14 == (0 : Int)) = false ∧ (decide ((0 : Int) < (x17.gi (Int.toNat x15) 0))) = true := hg
                  show (decide (x14 < (12 : Int))) = true
                  -- leaf 40 (ob)
                  obtain ⟨k1, k2, kok, kz, kmn, ks, kmo⟩ := hi22
                  have hle : x15 ≤ 11 := by simpa using c25
                  have hm := most_le x16 ⟨k1, by omega⟩ kmo
                  simp; omega
                refine ⟨fun hg => ?_, ?_⟩
                ·
                  simp only [gd_cons, gd_nil, and_true] at hg
                  replace hg : (x14 == (0 : Int)) = false ∧ (decide ((0 : Int) < (x17.gi (Int.toNat x15) 0))) = true := hg
                  show (decide ((0 : Int) ≤ x14)) = true
                  -- leaf 41 (ob)
                  obtain ⟨k1, k2, kok, kz, kmn, ks, kmo⟩ := hi22
                  have hle : x15 ≤ 11 := by simpa using c25
                  have hm := most_le x16 ⟨k1, by omega⟩ kmo
                  simp; omega
                refine ⟨fun hg => ?_, ?_⟩
                ·
                  simp only [gd_cons, gd_nil, and_true] at hg
                  replace hg : (x14 == (0 : Int)) = false ∧ (decide ((0 : Int) < (x17.gi (Int.toNat x15) 0))) = true := hg
                  show (decide (x14 < (12 : Int))) = true
                  -- leaf 42 (ob)
                  obtain ⟨k1, k2, kok, kz, kmn, ks, kmo⟩ := hi22
                  have hle : x15 ≤ 11 := by simpa using c25
                  have hm := most_le x16 ⟨k1, by omega⟩ kmo
                  simp; omega
                refine ⟨fun hcond => ?_, fun hcond => ?_⟩
                ·
                  have c26 : (if (decide ((0 : Int) < (x17.gi (Int.toNat x15) 0))) = true then (if (x14 == (0 : Int)) = true then true else (decide ((x17.gi (Int.toNat x14) 0) < (x17.gi (Int.toNat x15) 0)))) else false) = true := hcond
                  clear hcond
                  refine ⟨?_, ?_⟩
                  ·
                    show inv_MeterPlays_22 x6 (IntKind.wrap .i64 (x13 + (x17.gi (Int.toNat x15) 0))) x15 (IntKind.wrap .i64 (x15 + (1 : Int))) x16 x17
                    -- leaf 43 (back)
                    obtain ⟨i1, i2, iok, iz, imn⟩ := hi9
                    obtain ⟨k1, k2, kok, kz, kmn, ks, kmo⟩ := hi22
                    have hle : x15 ≤ 11 := by simpa using c25
                    
                    have hc := c26
                    rw [most_cond kok kmn ⟨k1, hle⟩ kmo] at hc
                    have hw : IntKind.wrap .i64 (x15 + 1) = x15 + 1 := wrap_in (by omega) (by omega)
                    rw [hw, sum_next kok (by omega) kmn ⟨k1, hle⟩ ks]
                    refine ⟨by omega, by omega, kok, kz, kmn, rfl, ?_⟩
                    rw [most_next ⟨k1, hle⟩ kmo]
                    rw [if_pos (by simpa using hc)]
                  ·
                    show meas_MeterPlays_22 x6 (IntKind.wrap .i64 (x13 + (x17.gi (Int.toNat x15) 0))) x15 (IntKind.wrap .i64 (x15 + (1 : Int))) x16 x17 < meas_MeterPlays_22 x6 x13 x14 x15 x16 x17
                    -- leaf 44 (meas)
                    obtain ⟨k1, k2, kok, kz, kmn, ks, kmo⟩ := hi22
                    have hle : x15 ≤ 11 := by simpa using c25
                    rw [wrap_in (n := x15 + 1) (by omega) (by omega)]
                    unfold meas_MeterPlays_22
                    omega
                ·
                  have c27 : (if (decide ((0 : Int) < (x17.gi (Int.toNat x15) 0))) = true then (if (x14 == (0 : Int)) = true then true else (decide ((x17.gi (Int.toNat x14) 0) < (x17.gi (Int.toNat x15) 0)))) else false) = false := hcond
                  clear hcond
                  refine ⟨?_, ?_⟩
                  ·
                    show inv_MeterPlays_22 x6 (IntKind.wrap .i64 (x13 + (x17.gi (Int.toNat x15) 0))) x14 (IntKind.wrap .i64 (x15 + (1 : Int))) x16 x17
                    -- leaf 45 (back)
                    obtain ⟨i1, i2, iok, iz, imn⟩ := hi9
                    obtain ⟨k1, k2, kok, kz, kmn, ks, kmo⟩ := hi22
                    have hle : x15 ≤ 11 := by simpa using c25
                    
                    have hc := c27
                    rw [most_cond kok kmn ⟨k1, hle⟩ kmo] at hc
                    have hw : IntKind.wrap .i64 (x15 + 1) = x15 + 1 := wrap_in (by omega) (by omega)
                    rw [hw, sum_next kok (by omega) kmn ⟨k1, hle⟩ ks]
                    refine ⟨by omega, by omega, kok, kz, kmn, rfl, ?_⟩
                    rw [most_next ⟨k1, hle⟩ kmo]
                    rw [if_neg (by simpa using hc)]
                  ·
                    show meas_MeterPlays_22 x6 (IntKind.wrap .i64 (x13 + (x17.gi (Int.toNat x15) 0))) x14 (IntKind.wrap .i64 (x15 + (1 : Int))) x16 x17 < meas_MeterPlays_22 x6 x13 x14 x15 x16 x17
                    -- leaf 46 (meas)
                    obtain ⟨k1, k2, kok, kz, kmn, ks, kmo⟩ := hi22
                    have hle : x15 ≤ 11 := by simpa using c25
                    rw [wrap_in (n := x15 + 1) (by omega) (by omega)]
                    unfold meas_MeterPlays_22
                    omega
              ·
                have c28 : (decide (x15 ≤ (11 : Int))) = false := hcond
                clear hcond
                refine vg_call (C := C_mmost) rfl rfl (xs := [.l x16]) rfl (fun hg => ?_) (fun rs hrs => ?_)
                ·
                  exact trivial
                obtain ⟨r18, r19, hr18, hr19, rfl⟩ := mmost_res hrs
                clear hrs
                change Fm.holds _ _ (lk [.l l, .l back, .i ask, .b r3, .l r4, .l r5, .i x6, .l x7, .l x8, .l r9, .b r10, .l r11, .l r12, .i x13, .i x14, .i x15, .l x16, .l x17, .i r18, .b r19])
                refine vg_call (C := C_msum) rfl rfl (xs := [.l x16]) rfl (fun hg => ?_) (fun rs hrs => ?_)
                ·
                  exact trivial
                obtain ⟨r20, hr20, rfl⟩ := msum_res hrs
                clear hrs
                change Fm.holds _ _ (lk [.l l, .l back, .i ask, .b r3, .l r4, .l r5, .i x6, .l x7, .l x8, .l r9, .b r10, .l r11, .l r12, .i x13, .i x14, .i x15, .l x16, .l x17, .i r18, .b r19, .i r20])
                refine ⟨fun hcond => ?_, fun hcond => ?_⟩
                ·
                  have c29 : (if (if (!(r20 == x13)) = true then true else (!(r19 == (decide ((0 : Int) < x14))))) = true then true else (!(r18 == x14))) = true := hcond
                  clear hcond
                  suffices hfin : (false) = (true) from (c_b hfin rfl)
                  -- leaf 47 (ret)
                  obtain ⟨i1, i2, iok, iz, imn⟩ := hi9
                  obtain ⟨k1, k2, kok, kz, kmn, ks, kmo⟩ := hi22
                  
                  have h12 : x15.toNat = 12 := by
                    have := c28
                    simp at this
                    omega
                  rw [h12] at ks kmo
                  rw [hr18, hr19, hr20, sumTo_eq kok 12 (by omega), ← ks, ← kmo] at c29
                  simp at c29
                ·
                  have c30 : (if (if (!(r20 == x13)) = true then true else (!(r19 == (decide ((0 : Int) < x14))))) = true then true else (!(r18 == x14))) = false := hcond
                  clear hcond
                  refine ⟨?_, ?_⟩
                  ·
                    show inv_MeterPlays_9 l (IntKind.wrap .i64 (x6 + (1 : Int))) x16 x17
                    -- leaf 48 (back)
                    obtain ⟨i1, i2, iok, iz, imn⟩ := hi9
                    obtain ⟨k1, k2, kok, kz, kmn, ks, kmo⟩ := hi22
                    
                    simp at c5
                    rw [wrap_in (n := x6 + 1) (by omega) (by omega)]
                    exact ⟨by omega, by omega, kok, kz, kmn⟩
                  ·
                    show meas_MeterPlays_9 l (IntKind.wrap .i64 (x6 + (1 : Int))) x16 x17 < meas_MeterPlays_9 l x6 x7 x8
                    -- leaf 49 (meas)
                    obtain ⟨i1, i2, iok, iz, imn⟩ := hi9
                    simp at c5
                    rw [wrap_in (n := x6 + 1) (by omega) (by omega)]
                    unfold meas_MeterPlays_9
                    omega
            ·
              have c31 : (if (decide (x6 < (back.len : Int))) = true then (back.gb (Int.toNat x6) 0) else false) = false := hcond
              clear hcond
              refine vg_loop rfl ?_ (fun xs hfit hi => ?_)
              ·
                show inv_MeterPlays_22 x6 (0 : Int) (0 : Int) (1 : Int) r9 x8
                -- leaf 50 (init)
                obtain ⟨i1, i2, iok, iz, imn⟩ := hi9
                
                have hk := kk23 c23
                have e9 : r9 = x7 := by rw [hr9, addM_no x7 hk]
                rw [e9]
                have a1 := okM_le iok (C := x6 + 1) (by omega) (by omega)
                exact ⟨by omega, by omega, a1, iz, imn, (inner_init a1).1.symm, (inner_init a1).2.symm⟩
              obtain ⟨x11, xs0, rfl, hfit0⟩ := fits_i hfit
              obtain ⟨x12, xs1, rfl, hfit1⟩ := fits_i hfit0
              obtain ⟨x13, xs2, rfl, hfit2⟩ := fits_i hfit1
              obtain ⟨x14, xs3, rfl, hfit3⟩ := fits_l hfit2
              obtain ⟨x15, xs4, rfl, hfit4⟩ := fits_l hfit3
              obtain rfl := fits_nil hfit4
              clear hfit hfit0 hfit1 hfit2 hfit3 hfit4
              replace hi : inv_MeterPlays_22 x6 x11 x12 x13 x14 x15 := hi
              have hi22 := hi; clear hi
              change Fm.holds _ _ (lk [.l l, .l back, .i ask, .b r3, .l r4, .l r5, .i x6, .l x7, .l x8, .l r9, .b r10, .i x11, .i x12, .i x13, .l x14, .l x15])
              refine ⟨fun hcond => ?_, fun hcond => ?_⟩
              ·
                have c32 : (decide (x13 ≤ (11 : Int))) = true := hcond
                clear hcond
                refine ⟨fun hg => ?_, ?_⟩
                ·
                  show (decide ((0 : Int) ≤ x13)) = true
                  -- leaf 51 (ob)
                  obtain ⟨k1, k2, kok, kz, kmn, ks, kmo⟩ := hi22
                  have hle : x13 ≤ 11 := by simpa using c32
                  simp; omega
                refine ⟨fun hg => ?_, ?_⟩
                ·
                  show (decide (x13 < (12 : Int))) = true
                  -- leaf 52 (ob)
                  obtain ⟨k1, k2, kok, kz, kmn, ks, kmo⟩ := hi22
                  have hle : x13 ≤ 11 := by simpa using c32
                  simp; omega
                refine ⟨fun hg => ?_, ?_⟩
                ·
                  simp only [gd_cons, gd_nil, and_true] at hg
                  replace hg : (x12 == (0 : Int)) = false ∧ (decide ((0 : Int) < (x15.gi (Int.toNat x13) 0))) = true := hg
                  show (decide ((0 : Int) ≤ x12)) = true
                  -- leaf 53 (ob)
                  obtain ⟨k1, k2, kok, kz, kmn, ks, kmo⟩ := hi22
                  have hle : x13 ≤ 11 := by simpa using c32
                  have hm := most_le x14 ⟨k1, by omega⟩ kmo
                  simp; omega
                refine ⟨fun hg => ?_, ?_⟩
                ·
                  simp only [gd_cons, gd_nil, and_true] at hg
                  replace hg : (x12 == (0 : Int)) = false ∧ (decide ((0 : Int) < (x15.gi (Int.toNat x13) 0))) = true := hg
                  show (decide (x12 < (12 : Int))) = true
                  -- leaf 54 (ob)
                  obtain ⟨k1, k2, kok, kz, kmn, ks, kmo⟩ := hi22
                  have hle : x13 ≤ 11 := by simpa using c32
                  have hm := most_le x14 ⟨k1, by omega⟩ kmo
                  simp; omega
                refine ⟨fun hg => ?_, ?_⟩
                ·
                  simp only [gd_cons, gd_nil, and_true] at hg
                  replace hg : (x12 == (0 : Int)) = false ∧ (decide ((0 : Int) < (x15.gi (Int.toNat x13) 0))) = true := hg
                  show (decide ((0 : Int) ≤ x12)) = true
                  -- leaf 55 (ob)
                  obtain ⟨k1, k2, kok, kz, kmn, ks, kmo⟩ := hi22
                  have hle : x13 ≤ 11 := by simpa using c32
                  have hm := most_le x14 ⟨k1, by omega⟩ kmo
                  simp; omega
                refine ⟨fun hg => ?_, ?_⟩
                ·
                  simp only [gd_cons, gd_nil, and_true] at hg
                  replace hg : (x12 == (0 : Int)) = false ∧ (decide ((0 : Int) < (x15.gi (Int.toNat x13) 0))) = true := hg
                  show (decide (x12 < (12 : Int))) = true
                  -- leaf 56 (ob)
                  obtain ⟨k1, k2, kok, kz, kmn, ks, kmo⟩ := hi22
                  have hle : x13 ≤ 11 := by simpa using c32
                  have hm := most_le x14 ⟨k1, by omega⟩ kmo
                  simp; omega
                refine ⟨fun hcond => ?_, fun hcond => ?_⟩
                ·
                  have c33 : (if (decide ((0 : Int) < (x15.gi (Int.toNat x13) 0))) = true then (if (x12 == (0 : Int)) = true then true else (decide ((x15.gi (Int.toNat x12) 0) < (x15.gi (Int.toNat x13) 0)))) else false) = true := hcond
                  clear hcond
                  refine ⟨?_, ?_⟩
                  ·
                    show inv_MeterPlays_22 x6 (IntKind.wrap .i64 (x11 + (x15.gi (Int.toNat x13) 0))) x13 (IntKind.wrap .i64 (x13 + (1 : Int))) x14 x15
                    -- leaf 57 (back)
                    obtain ⟨i1, i2, iok, iz, imn⟩ := hi9
                    obtain ⟨k1, k2, kok, kz, kmn, ks, kmo⟩ := hi22
                    have hle : x13 ≤ 11 := by simpa using c32
                    
                    have hc := c33
                    rw [most_cond kok kmn ⟨k1, hle⟩ kmo] at hc
                    have hw : IntKind.wrap .i64 (x13 + 1) = x13 + 1 := wrap_in (by omega) (by omega)
                    rw [hw, sum_next kok (by omega) kmn ⟨k1, hle⟩ ks]
                    refine ⟨by omega, by omega, kok, kz, kmn, rfl, ?_⟩
                    rw [most_next ⟨k1, hle⟩ kmo]
                    rw [if_pos (by simpa using hc)]
                  ·
                    show meas_MeterPlays_22 x6 (IntKind.wrap .i64 (x11 + (x15.gi (Int.toNat x13) 0))) x13 (IntKind.wrap .i64 (x13 + (1 : Int))) x14 x15 < meas_MeterPlays_22 x6 x11 x12 x13 x14 x15
                    -- leaf 58 (meas)
                    obtain ⟨k1, k2, kok, kz, kmn, ks, kmo⟩ := hi22
                    have hle : x13 ≤ 11 := by simpa using c32
                    rw [wrap_in (n := x13 + 1) (by omega) (by omega)]
                    unfold meas_MeterPlays_22
                    omega
                ·
                  have c34 : (if (decide ((0 : Int) < (x15.gi (Int.toNat x13) 0))) = true then (if (x12 == (0 : Int)) = true then true else (decide ((x15.gi (Int.toNat x12) 0) < (x15.gi (Int.toNat x13) 0)))) else false) = false := hcond
                  clear hcond
                  refine ⟨?_, ?_⟩
                  ·
                    show inv_MeterPlays_22 x6 (IntKind.wrap .i64 (x11 + (x15.gi (Int.toNat x13) 0))) x12 (IntKind.wrap .i64 (x13 + (1 : Int))) x14 x15
                    -- leaf 59 (back)
                    obtain ⟨i1, i2, iok, iz, imn⟩ := hi9
                    obtain ⟨k1, k2, kok, kz, kmn, ks, kmo⟩ := hi22
                    have hle : x13 ≤ 11 := by simpa using c32
                    
                    have hc := c34
                    rw [most_cond kok kmn ⟨k1, hle⟩ kmo] at hc
                    have hw : IntKind.wrap .i64 (x13 + 1) = x13 + 1 := wrap_in (by omega) (by omega)
                    rw [hw, sum_next kok (by omega) kmn ⟨k1, hle⟩ ks]
                    refine ⟨by omega, by omega, kok, kz, kmn, rfl, ?_⟩
                    rw [most_next ⟨k1, hle⟩ kmo]
                    rw [if_neg (by simpa using hc)]
                  ·
                    show meas_MeterPlays_22 x6 (IntKind.wrap .i64 (x11 + (x15.gi (Int.toNat x13) 0))) x12 (IntKind.wrap .i64 (x13 + (1 : Int))) x14 x15 < meas_MeterPlays_22 x6 x11 x12 x13 x14 x15
                    -- leaf 60 (meas)
                    obtain ⟨k1, k2, kok, kz, kmn, ks, kmo⟩ := hi22
                    have hle : x13 ≤ 11 := by simpa using c32
                    rw [wrap_in (n := x13 + 1) (by omega) (by omega)]
                    unfold meas_MeterPlays_22
                    omega
              ·
                have c35 : (decide (x13 ≤ (11 : Int))) = false := hcond
                clear hcond
                refine vg_call (C := C_mmost) rfl rfl (xs := [.l x14]) rfl (fun hg => ?_) (fun rs hrs => ?_)
                ·
                  exact trivial
                obtain ⟨r16, r17, hr16, hr17, rfl⟩ := mmost_res hrs
                clear hrs
                change Fm.holds _ _ (lk [.l l, .l back, .i ask, .b r3, .l r4, .l r5, .i x6, .l x7, .l x8, .l r9, .b r10, .i x11, .i x12, .i x13, .l x14, .l x15, .i r16, .b r17])
                refine vg_call (C := C_msum) rfl rfl (xs := [.l x14]) rfl (fun hg => ?_) (fun rs hrs => ?_)
                ·
                  exact trivial
                obtain ⟨r18, hr18, rfl⟩ := msum_res hrs
                clear hrs
                change Fm.holds _ _ (lk [.l l, .l back, .i ask, .b r3, .l r4, .l r5, .i x6, .l x7, .l x8, .l r9, .b r10, .i x11, .i x12, .i x13, .l x14, .l x15, .i r16, .b r17, .i r18])
                refine ⟨fun hcond => ?_, fun hcond => ?_⟩
                ·
                  have c36 : (if (if (!(r18 == x11)) = true then true else (!(r17 == (decide ((0 : Int) < x12))))) = true then true else (!(r16 == x12))) = true := hcond
                  clear hcond
                  suffices hfin : (false) = (true) from (c_b hfin rfl)
                  -- leaf 61 (ret)
                  obtain ⟨i1, i2, iok, iz, imn⟩ := hi9
                  obtain ⟨k1, k2, kok, kz, kmn, ks, kmo⟩ := hi22
                  
                  have h12 : x13.toNat = 12 := by
                    have := c35
                    simp at this
                    omega
                  rw [h12] at ks kmo
                  rw [hr16, hr17, hr18, sumTo_eq kok 12 (by omega), ← ks, ← kmo] at c36
                  simp at c36
                ·
                  have c37 : (if (if (!(r18 == x11)) = true then true else (!(r17 == (decide ((0 : Int) < x12))))) = true then true else (!(r16 == x12))) = false := hcond
                  clear hcond
                  refine ⟨?_, ?_⟩
                  ·
                    show inv_MeterPlays_9 l (IntKind.wrap .i64 (x6 + (1 : Int))) x14 x15
                    -- leaf 62 (back)
                    obtain ⟨i1, i2, iok, iz, imn⟩ := hi9
                    obtain ⟨k1, k2, kok, kz, kmn, ks, kmo⟩ := hi22
                    
                    simp at c5
                    rw [wrap_in (n := x6 + 1) (by omega) (by omega)]
                    exact ⟨by omega, by omega, kok, kz, kmn⟩
                  ·
                    show meas_MeterPlays_9 l (IntKind.wrap .i64 (x6 + (1 : Int))) x14 x15 < meas_MeterPlays_9 l x6 x7 x8
                    -- leaf 63 (meas)
                    obtain ⟨i1, i2, iok, iz, imn⟩ := hi9
                    simp at c5
                    rw [wrap_in (n := x6 + 1) (by omega) (by omega)]
                    unfold meas_MeterPlays_9
                    omega
      ·
        have c38 : (decide (x6 < (l.len : Int))) = false := hcond
        clear hcond
        refine ⟨fun hcond => ?_, fun hcond => ?_⟩
        ·
          have c39 : (if (decide ((1 : Int) ≤ ask)) = true then (decide (ask ≤ (11 : Int))) else false) = true := hcond
          clear hcond
          refine ⟨fun hg => ?_, ?_⟩
          ·
            show (decide ((0 : Int) ≤ ask)) = true
            -- leaf 64 (ob)
            simp at c39
            simp; omega
          refine ⟨fun hg => ?_, ?_⟩
          ·
            show (decide (ask < (12 : Int))) = true
            -- leaf 65 (ob)
            simp at c39
            simp; omega
          refine vg_call (C := C_mget) rfl rfl (xs := [.l x7, .i ask]) rfl (fun hg => ?_) (fun rs hrs => ?_)
          ·
            exact trivial
          obtain ⟨r9, hr9, rfl⟩ := mget_res hrs
          clear hrs
          change Fm.holds _ _ (lk [.l l, .l back, .i ask, .b r3, .l r4, .l r5, .i x6, .l x7, .l x8, .i r9])
          suffices hfin : ((r9 == (x8.gi (Int.toNat ask) 0))) = (true) from (c_b hfin rfl)
          -- leaf 66 (ret)
          obtain ⟨i1, i2, iok, iz, imn⟩ := hi9
          simp at c39
          rw [hr9, kindB_iff.2 c39, ← imn]
          simp
        ·
          have c40 : (if (decide ((1 : Int) ≤ ask)) = true then (decide (ask ≤ (11 : Int))) else false) = false := hcond
          clear hcond
          refine vg_call (C := C_mget) rfl rfl (xs := [.l x7, .i ask]) rfl (fun hg => ?_) (fun rs hrs => ?_)
          ·
            exact trivial
          obtain ⟨r9, hr9, rfl⟩ := mget_res hrs
          clear hrs
          change Fm.holds _ _ (lk [.l l, .l back, .i ask, .b r3, .l r4, .l r5, .i x6, .l x7, .l x8, .i r9])
          suffices hfin : ((r9 == (0 : Int))) = (true) from (c_b hfin rfl)
          -- leaf 67 (ret)
          have hk : kindB ask = false := by
            unfold kindB
            revert c40
            cases decide ((1 : Int) ≤ ask) <;> simp
          rw [hr9, hk]
          rfl
end Go.Proofs.Ytccdhkmohimfhaa
