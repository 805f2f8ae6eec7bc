import Derived.Test.YtchjajnhbipkmaaDoorVCarHolds
namespace Go.Proofs.YtchjajnhbipkmaaDoor
open Go.Vg
set_option linter.unusedVariables false
set_option linter.unusedSimpArgs false
open Go

theorem tick_stop {hc hf hs hd : Int} {c : CarP} {s : StP} {ob : Bool} (hr : carRight hc hf hs hd c = true) (h0 : c.door = 0) (hl : level hc hf hs hd c.pos = true)
    (hst : stopP (houseP hf s).c (houseP hf s).u (houseP hf s).d (floor hc hf hs hd c.pos) c.dir = true) :
    (tickP hc hf hs hd c s ob).1 = ⟨c.pos, dirP (houseP hf s).c (houseP hf s).u (houseP hf s).d (floor hc hf hs hd c.pos) c.dir, hd, false, 0⟩ ∧ (tickP hc hf hs hd c s ob).2.op = true ∧ (tickP hc hf hs hd c s ob).2.fl = floor hc hf hs hd c.pos := by
  rw [tickP_yes hr, stepP_lvl (by omega) hl, levelP_stop hst, openL_eq (right_iff.1 hr).1]
  exact ⟨rfl, rfl, rfl⟩


theorem CarHolds_sound : C_CarHolds.Sound Tryd.prog G 8 := by
  refine fn_ok mixed stable tbl_CarHolds [⟨15, [8, 15, 16, 69, 70, 71, 72, 73, 74, 75, 76, 77, 78, 79, 80, 81, 82, 83, 84, 85, 86, 87, 88, 89, 90, 91, 92, 93, 94, 95, 96, 97, 98, 99, 100, 101, 102, 103, 104, 105, 106, 107, 108, 109, 110, 111], [14], [(4, 0), (4, 1), (4, 2), (4, 3), (4, 4)], [2, 3, 11, 12], some (3, .i64)⟩] Tryd.func8 (by kernel_rfl) phi_CarHolds vc_CarHolds ⟨first16_sound, valid_sound, ctick_sound, cstart_sound, number_sound, of_sound, trivial⟩ inv_CarHolds meas_CarHolds ?_
  intro ls hp
  obtain ⟨hc, hf, hs, hd, fl, held, s0, s1, s2, rfl, hpre⟩ := CarHolds_pre hp
  clear hp
  rw [envOf_lk]
  unfold phi_CarHolds
  refine vg_call (C := C_first16) rfl rfl (xs := []) rfl (fun hg => ?_) (fun rs hrs => ?_)
  ·
    exact trivial
  obtain ⟨r9, hr9, rfl⟩ := first16_res hrs
  clear hrs
  change Fm.holds _ _ (lk [.i hc, .i hf, .i hs, .i hd, .i fl, .i held, .i s0, .i s1, .i s2, .b r9])
  refine ⟨fun hcond => ?_, fun hcond => ?_⟩
  ·
    have c1 : r9 = false := hcond
    clear hcond
    suffices hfin : (false) = (true) from (c_b hfin rfl)
    -- leaf 1 (ret)
    simp_all
  ·
    have c2 : r9 = true := hcond
    clear hcond
    refine vg_call (C := C_valid) rfl rfl (xs := [.i hc, .i hf, .i hs, .i hd]) rfl (fun hg => ?_) (fun rs hrs => ?_)
    ·
      exact trivial
    obtain ⟨r10, hr10, rfl⟩ := valid_res hrs
    clear hrs
    change Fm.holds _ _ (lk [.i hc, .i hf, .i hs, .i hd, .i fl, .i held, .i s0, .i s1, .i s2, .b r9, .b r10])
    refine ⟨fun hcond => ?_, fun hcond => ?_⟩
    ·
      have c3 : r10 = false := hcond
      clear hcond
      suffices hfin : (r9) = (true) from (c_b hfin rfl)
      -- leaf 2 (ret)
      simp_all
    ·
      have c4 : r10 = true := hcond
      clear hcond
      have hv := hr10.symm.trans c4
      have v := valid_iff.1 hv
      have ht := top_range hc hf hs hd
      refine vg_call (C := C_number) rfl rfl (xs := [.i fl, .i hf]) rfl (fun hg => ?_) (fun rs hrs => ?_)
      ·
        refine number_mk ?_
        -- leaf 3 (pre)
        omega
      obtain ⟨r11, hr11, rfl⟩ := number_res hrs
      clear hrs
      change Fm.holds _ _ (lk [.i hc, .i hf, .i hs, .i hd, .i fl, .i held, .i s0, .i s1, .i s2, .b r9, .b r10, .i r11])
      have n1 := number_range fl (b := hf) (by omega)
      rw [← hr11] at n1
      have L := level_mul hv n1.1 n1.2
      have e0 : IntKind.wrap .i64 (r11 * hs) = r11 * hs := wrap_in (by omega) (by omega)
      refine vg_call (C := C_number) rfl rfl (xs := [.i held, .i (30 : Int)]) rfl (fun hg => ?_) (fun rs hrs => ?_)
      ·
        refine number_mk ?_
        -- leaf 4 (pre)
        omega
      obtain ⟨r12, hr12, rfl⟩ := number_res hrs
      clear hrs
      change Fm.holds _ _ (lk [.i hc, .i hf, .i hs, .i hd, .i fl, .i held, .i s0, .i s1, .i s2, .b r9, .b r10, .i r11, .i r12])
      have n2 := number_range held (b := 30) (by omega)
      rw [← hr12] at n2
      have S := start_at (p := r11 * hs) hv L.1 L.2.1
      have e3 : IntKind.wrap .i64 (IntKind.wrap .i64 (hd - 1) + r12) = hd - 1 + r12 := by rw [wrap_in (n := hd - 1) (by omega) (by omega), wrap_in (by omega) (by omega)]
      refine vg_call (C := C_cstart) rfl rfl (xs := [.i hc, .i hf, .i hs, .i hd, .i (IntKind.wrap .i64 (r11 * hs))]) rfl (fun hg => ?_) (fun rs hrs => ?_)
      ·
        exact trivial
      obtain ⟨r13, r14, r15, r16, r17, r18, hr13, hr14, hr15, hr16, hr17, hr18, rfl⟩ := cstart_res hrs
      clear hrs
      change Fm.holds _ _ (lk [.i hc, .i hf, .i hs, .i hd, .i fl, .i held, .i s0, .i s1, .i s2, .b r9, .b r10, .i r11, .i r12, .i r13, .i r14, .i r15, .b r16, .i r17, .b r18])
      rw [e0, S.1] at hr18
      simp only [e0, S.2, L.2.2.1] at hr13 hr14 hr15 hr16 hr17
      refine ⟨fun hcond => ?_, fun hcond => ?_⟩
      ·
        have c5 : r18 = false := hcond
        clear hcond
        suffices hfin : (false) = (true) from (c_b hfin rfl)
        -- leaf 5 (ret)
        rw [hr18] at c5
        cases c5
      ·
        have c6 : r18 = true := hcond
        clear hcond
        refine vg_call (C := C_of) rfl rfl (xs := [_, _]) rfl (fun hg => ?_) (fun rs hrs => ?_)
        ·
          refine of_mk ?_
          -- leaf 6 (pre)
          constructor <;> simp [cellsLV]
        obtain ⟨r19, r20, r21, hr19, hr20, hr21, rfl⟩ := of_res hrs
        clear hrs
        change Fm.holds _ _ (lk [.i hc, .i hf, .i hs, .i hd, .i fl, .i held, .i s0, .i s1, .i s2, .b r9, .b r10, .i r11, .i r12, .i r13, .i r14, .i r15, .b r16, .i r17, .b r18, .i r19, .i r20, .i r21])
        have e19 : r19 = put1 0 r11 (okf r11) := hr19
        have hok : okf r11 = true := okf_iff.2 (by omega)
        have hright : carRight hc hf hs hd ⟨r13, r14, r15, r16, r17⟩ = true := right_iff.2 ⟨hv, by simp only; rw [hr13]; omega, by simp only; omega, by simp only; omega, fun h => by simp only at h; omega, .inl (by simp only; rw [hr13]; exact L.2.2.1), .inl hr17⟩
        have hflr : floor hc hf hs hd r13 = r11 := by rw [hr13]; exact L.2.2.2
        have hst : stopP (houseP hf ⟨r19, r20, r21⟩).c (houseP hf ⟨r19, r20, r21⟩).u (houseP hf ⟨r19, r20, r21⟩).d (floor hc hf hs hd r13) r14 = true := by
          unfold stopP
          rw [okP_floor hv (by omega), hflr, house_c hv]
          have : isb r19 r11 = true := by rw [e19, put1_bit, hok]; simp
          rw [this, decide_eq_true n1.2]
          rfl
        obtain ⟨T1, T2, T3⟩ := tick_stop (ob := true) hright hr15 (by simp only; rw [hr13]; exact L.2.2.1) hst
        have hdr : -1 ≤ dirP (houseP hf ⟨r19, r20, r21⟩).c (houseP hf ⟨r19, r20, r21⟩).u (houseP hf ⟨r19, r20, r21⟩).d (floor hc hf hs hd r13) r14 ∧ dirP (houseP hf ⟨r19, r20, r21⟩).c (houseP hf ⟨r19, r20, r21⟩).u (houseP hf ⟨r19, r20, r21⟩).d (floor hc hf hs hd r13) r14 ≤ 1 := by
          unfold dirP
          rw [okP_floor hv (by omega), if_pos rfl]
          exact turn_range (by omega)
        refine vg_call (C := C_ctick) rfl rfl (xs := [.i hc, .i hf, .i hs, .i hd, .i r13, .i r14, .i r15, .b r16, .i r17, .i r19, .i r20, .i r21, .b true]) rfl (fun hg => ?_) (fun rs hrs => ?_)
        ·
          refine ctick_mk ?_
          -- leaf 7 (pre)
          omega
        obtain ⟨r22, r23, r24, r25, r26, r27, r28, r29, r30, r31, r32, r33, r34, hr22, hr23, hr24, hr25, hr26, hr27, hr28, hr29, hr30, hr31, hr32, hr33, hr34, rfl⟩ := ctick_res hrs
        clear hrs
        change Fm.holds _ _ (lk [.i hc, .i hf, .i hs, .i hd, .i fl, .i held, .i s0, .i s1, .i s2, .b r9, .b r10, .i r11, .i r12, .i r13, .i r14, .i r15, .b r16, .i r17, .b r18, .i r19, .i r20, .i r21, .i r22, .i r23, .i r24, .b r25, .i r26, .b r27, .b r28, .i r29, .i r30, .i r31, .i r32, .i r33, .i r34])
        rw [T1] at hr22 hr23 hr24 hr25 hr26
        rw [T2] at hr27
        rw [T3] at hr29
        simp only at hr22 hr23 hr24 hr25 hr26 hr29
        refine ⟨fun hcond => ?_, fun hcond => ?_⟩
        ·
          have c7 : (if (if (!r27) = true then true else (!(r24 == hd))) = true then true else (!(r29 == r11))) = true := hcond
          clear hcond
          suffices hfin : (false) = (true) from (c_b hfin rfl)
          -- leaf 8 (ret)
          rw [hr27, hr24, hr29, hflr] at c7
          simp at c7
        ·
          have c8 : (if (if (!r27) = true then true else (!(r24 == hd))) = true then true else (!(r29 == r11))) = false := hcond
          clear hcond
          refine vg_loop rfl ?_ (fun xs hfit hi => ?_)
          ·
            show inv_CarHolds_15 hs hd r11 r12 (0 : Int) r22 r23 r24 r25 r26
            -- leaf 9 (init)
            exact ⟨by omega, by omega, by rw [hr22, hr13], by rw [hr23]; exact hdr.1, by rw [hr23]; exact hdr.2, by omega, hr25, by omega⟩
          obtain ⟨x35, xs0, rfl, hfit0⟩ := fits_i hfit
          obtain ⟨x36, xs1, rfl, hfit1⟩ := fits_i hfit0
          obtain ⟨x37, xs2, rfl, hfit2⟩ := fits_i hfit1
          obtain ⟨x38, xs3, rfl, hfit3⟩ := fits_i hfit2
          obtain ⟨x39, xs4, rfl, hfit4⟩ := fits_b hfit3
          obtain ⟨x40, xs5, rfl, hfit5⟩ := fits_i hfit4
          obtain rfl := fits_nil hfit5
          clear hfit hfit0 hfit1 hfit2 hfit3 hfit4 hfit5
          replace hi : inv_CarHolds_15 hs hd r11 r12 x35 x36 x37 x38 x39 x40 := hi
          have hi15 := hi; clear hi
          change Fm.holds _ _ (lk [.i hc, .i hf, .i hs, .i hd, .i fl, .i held, .i s0, .i s1, .i s2, .b r9, .b r10, .i r11, .i r12, .i r13, .i r14, .i r15, .b r16, .i r17, .b r18, .i r19, .i r20, .i r21, .i r22, .i r23, .i r24, .b r25, .i r26, .b r27, .b r28, .i r29, .i r30, .i r31, .i r32, .i r33, .i r34, .i x35, .i x36, .i x37, .i x38, .b x39, .i x40])
          obtain ⟨i0, i1, i2, i3, i4, i5, i6, i7⟩ := hi15
          have e1 : IntKind.wrap .i64 (x35 + 1) = x35 + 1 := wrap_in (by omega) (by omega)
          have hl : level hc hf hs hd x36 = true := by rw [i2]; exact L.2.2.1
          have hrt : carRight hc hf hs hd ⟨x36, x37, x38, x39, x40⟩ = true := right_iff.2 ⟨hv, by simp only; omega, ⟨i3, i4⟩, by simp only; omega, fun h => ⟨hl, i6⟩, .inl hl, by simp only; omega⟩
          have hd0 : 0 < x38 := by omega
          have E : ∀ ob, tickP hc hf hs hd ⟨x36, x37, x38, x39, x40⟩ ⟨s0, s1, s2⟩ ob = (⟨x36, x37, tickL x38 ob, x39, tickH x38 x40 ob⟩, ⟨false, tickC x38 ob, floor hc hf hs hd x36, 0, 0, 0, 0, 0⟩) := fun ob => tick_door hrt hd0
          have hL : tickL x38 true = max (hd - (x35 + 1)) 1 := by
            unfold tickL
            rw [if_neg (by omega)]
            split
            · omega
            · simp; omega
          have hH : tickH x38 x40 true = max 0 (x35 + 1 - (hd - 1)) := by
            unfold tickH
            rw [if_neg (by omega)]
            split
            · omega
            · rw [if_pos rfl, wrap_in (by omega) (by omega)]; omega
          refine ⟨fun hcond => ?_, fun hcond => ?_⟩
          ·
            have c9 : (decide (x35 < (IntKind.wrap .i64 ((IntKind.wrap .i64 (hd - (1 : Int))) + r12)))) = true := hcond
            clear hcond
            refine vg_call (C := C_ctick) rfl rfl (xs := [.i hc, .i hf, .i hs, .i hd, .i x36, .i x37, .i x38, .b x39, .i x40, .i s0, .i s1, .i s2, .b true]) rfl (fun hg => ?_) (fun rs hrs => ?_)
            ·
              refine ctick_mk ?_
              -- leaf 10 (pre)
              omega
            obtain ⟨r41, r42, r43, r44, r45, r46, r47, r48, r49, r50, r51, r52, r53, hr41, hr42, hr43, hr44, hr45, hr46, hr47, hr48, hr49, hr50, hr51, hr52, hr53, rfl⟩ := ctick_res hrs
            clear hrs
            change Fm.holds _ _ (lk [.i hc, .i hf, .i hs, .i hd, .i fl, .i held, .i s0, .i s1, .i s2, .b r9, .b r10, .i r11, .i r12, .i r13, .i r14, .i r15, .b r16, .i r17, .b r18, .i r19, .i r20, .i r21, .i r22, .i r23, .i r24, .b r25, .i r26, .b r27, .b r28, .i r29, .i r30, .i r31, .i r32, .i r33, .i r34, .i x35, .i x36, .i x37, .i x38, .b x39, .i x40, .i r41, .i r42, .i r43, .b r44, .i r45, .b r46, .b r47, .i r48, .i r49, .i r50, .i r51, .i r52, .i r53])
            simp only [E] at hr41 hr42 hr43 hr44 hr45 hr46 hr47 hr48 hr49 hr50 hr51 hr52 hr53
            refine ⟨fun hcond => ?_, fun hcond => ?_⟩
            ·
              have c10 : (if (if (if (if r46 = true then true else r47) = true then true else (!(r50 == (0 : Int)))) = true then true else (decide (r43 < (1 : Int)))) = true then true else (!(r41 == x36))) = true := hcond
              clear hcond
              suffices hfin : (false) = (true) from (c_b hfin rfl)
              -- leaf 11 (ret)
              rw [hr46, hr47, hr50, hr43, hr41, hL] at c10
              have h1 : tickC x38 true = false := by unfold tickC; simp
              have h2 : decide (max (hd - (x35 + 1)) 1 < 1) = false := decide_eq_false (by omega)
              rw [h1, h2] at c10
              simp at c10
            ·
              have c11 : (if (if (if (if r46 = true then true else r47) = true then true else (!(r50 == (0 : Int)))) = true then true else (decide (r43 < (1 : Int)))) = true then true else (!(r41 == x36))) = false := hcond
              clear hcond
              refine ⟨?_, ?_⟩
              ·
                show inv_CarHolds_15 hs hd r11 r12 (IntKind.wrap .i64 (x35 + (1 : Int))) r41 r42 r43 r44 r45
                -- leaf 12 (back)
                have hlt := of_decide_eq_true c9
                rw [e3] at hlt
                rw [e1, hr41, hr42, hr43, hr44, hr45]
                exact ⟨by omega, by omega, i2, i3, i4, hL, i6, hH⟩
              ·
                show meas_CarHolds_15 hs hd r11 r12 (IntKind.wrap .i64 (x35 + (1 : Int))) r41 r42 r43 r44 r45 < meas_CarHolds_15 hs hd r11 r12 x35 x36 x37 x38 x39 x40
                -- leaf 13 (meas)
                have hlt := of_decide_eq_true c9
                rw [e3] at hlt
                unfold meas_CarHolds_15
                rw [e1]
                omega
          ·
            have c12 : (decide (x35 < (IntKind.wrap .i64 ((IntKind.wrap .i64 (hd - (1 : Int))) + r12)))) = false := hcond
            clear hcond
            refine ⟨fun hcond => ?_, fun hcond => ?_⟩
            ·
              have c13 : (if (!(x38 == (1 : Int))) = true then true else (!(x40 == r12))) = true := hcond
              clear hcond
              suffices hfin : (false) = (true) from (c_b hfin rfl)
              -- leaf 14 (ret)
              have hge := of_decide_eq_false c12
              rw [e3] at hge
              have h1 : x38 = 1 := by omega
              have h2 : x40 = r12 := by omega
              rw [h1, h2] at c13
              simp at c13
            ·
              have c14 : (if (!(x38 == (1 : Int))) = true then true else (!(x40 == r12))) = false := hcond
              clear hcond
              refine vg_call (C := C_ctick) rfl rfl (xs := [.i hc, .i hf, .i hs, .i hd, .i x36, .i x37, .i x38, .b x39, .i x40, .i s0, .i s1, .i s2, .b false]) rfl (fun hg => ?_) (fun rs hrs => ?_)
              ·
                refine ctick_mk ?_
                -- leaf 15 (pre)
                omega
              obtain ⟨r41, r42, r43, r44, r45, r46, r47, r48, r49, r50, r51, r52, r53, hr41, hr42, hr43, hr44, hr45, hr46, hr47, hr48, hr49, hr50, hr51, hr52, hr53, rfl⟩ := ctick_res hrs
              clear hrs
              change Fm.holds _ _ (lk [.i hc, .i hf, .i hs, .i hd, .i fl, .i held, .i s0, .i s1, .i s2, .b r9, .b r10, .i r11, .i r12, .i r13, .i r14, .i r15, .b r16, .i r17, .b r18, .i r19, .i r20, .i r21, .i r22, .i r23, .i r24, .b r25, .i r26, .b r27, .b r28, .i r29, .i r30, .i r31, .i r32, .i r33, .i r34, .i x35, .i x36, .i x37, .i x38, .b x39, .i x40, .i r41, .i r42, .i r43, .b r44, .i r45, .b r46, .b r47, .i r48, .i r49, .i r50, .i r51, .i r52, .i r53])
              simp only [E] at hr41 hr42 hr43 hr44 hr45 hr46 hr47 hr48 hr49 hr50 hr51 hr52 hr53
              suffices hfin : ((if (if (if r47 = true then (r50 == (0 : Int)) else false) = true then (r43 == (0 : Int)) else false) = true then (r45 == (0 : Int)) else false)) = (true) from (c_b hfin rfl)
              -- leaf 16 (ret)
              have hge := of_decide_eq_false c12
              rw [e3] at hge
              have h1 : x38 = 1 := by omega
              rw [hr47, hr50, hr43, hr45, h1]
              simp [tickC, tickL, tickH]
end Go.Proofs.YtchjajnhbipkmaaDoor
