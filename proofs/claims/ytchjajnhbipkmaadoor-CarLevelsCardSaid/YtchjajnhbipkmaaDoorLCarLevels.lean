import Derived.Test.YtchjajnhbipkmaaDoorVCarLevels
namespace Go.Proofs.YtchjajnhbipkmaaDoor
open Go.Vg
set_option linter.unusedVariables false
set_option linter.unusedSimpArgs false
open Go

theorem tick_down {hc hf hs hd : Int} {c : CarP} {s : StP} {ob : Bool} (hr : carRight hc hf hs hd c = true) (h0 : c.door = 0) (hrl : c.rl = true) (hl : level hc hf hs hd c.pos = false) :
    tickP hc hf hs hd c s ob = (⟨c.pos - 1, if level hc hf hs hd (c.pos - 1) = true then 0 else -1, 0, !level hc hf hs hd (c.pos - 1), c.held⟩, ⟨false, false, floor hc hf hs hd (c.pos - 1), 0, -1, 0, 0, 0⟩) := by
  obtain ⟨hv, hp, hdr, hdo, h5, h6, h7⟩ := right_iff.1 hr
  have v := valid_iff.1 hv
  have hpos : c.pos ≠ 0 := by
    intro e
    rw [e, level_iff hv (by omega) (by omega)] at hl
    simp at hl
  have hb : betweenDir c = -1 := by unfold betweenDir; rw [if_pos hrl]
  have hcl : clampM (-1) = -1 := by decide
  have hgo : goIs hc hf hs hd c.pos (-1) = true := by
    unfold goIs
    rw [hv, hcl, between_iff.2 (by omega), between_iff.2 (by omega)]
    rfl
  rw [tickP_yes hr, stepP_btw (by omega) hl]
  cases hlv : level hc hf hs hd (c.pos - 1) with
  | true =>
    rw [betweenP_lv hb hgo (by rw [hrl, hcl]; exact hlv), hcl, h0]
    rfl
  | false =>
    rw [betweenP_mv hb hgo (by rw [hrl, hcl]; exact hlv), hcl, h0, hrl]
    rfl


theorem CarLevels_sound : C_CarLevels.Sound Tryd.prog G 6 := by
  refine fn_ok mixed stable tbl_CarLevels [⟨12, [6, 13, 14, 60, 61, 62, 63, 64, 65, 66, 67, 68, 69, 70, 71, 72, 73, 74, 75, 76, 77, 78, 79], [12], [(2, 0), (2, 1), (2, 2), (2, 3), (2, 4)], [2, 11], some (3, .i64)⟩] Tryd.func6 (by kernel_rfl) phi_CarLevels vc_CarLevels ⟨first16_sound, valid_sound, ctick_sound, cstart_sound, number_sound, top_sound, level_sound, trivial⟩ inv_CarLevels meas_CarLevels ?_
  intro ls hp
  obtain ⟨hc, hf, hs, hd, fr, s0, s1, s2, rfl, hpre⟩ := CarLevels_pre hp
  clear hp
  rw [envOf_lk]
  unfold phi_CarLevels
  refine vg_call (C := C_first16) rfl rfl (xs := []) rfl (fun hg => ?_) (fun rs hrs => ?_)
  ·
    exact trivial
  obtain ⟨r8, hr8, rfl⟩ := first16_res hrs
  clear hrs
  change Fm.holds _ _ (lk [.i hc, .i hf, .i hs, .i hd, .i fr, .i s0, .i s1, .i s2, .b r8])
  refine ⟨fun hcond => ?_, fun hcond => ?_⟩
  ·
    have c1 : r8 = false := hcond
    clear hcond
    suffices hfin : (false) = (true) from (c_b hfin rfl)
    -- leaf 1 (ret)
    simp_all
  ·
    have c2 : r8 = true := hcond
    clear hcond
    refine vg_call (C := C_valid) rfl rfl (xs := [.i hc, .i hf, .i hs, .i hd]) rfl (fun hg => ?_) (fun rs hrs => ?_)
    ·
      exact trivial
    obtain ⟨r9, hr9, rfl⟩ := valid_res hrs
    clear hrs
    change Fm.holds _ _ (lk [.i hc, .i hf, .i hs, .i hd, .i fr, .i s0, .i s1, .i s2, .b r8, .b r9])
    refine ⟨fun hcond => ?_, fun hcond => ?_⟩
    ·
      have c3 : r9 = false := hcond
      clear hcond
      suffices hfin : (r8) = (true) from (c_b hfin rfl)
      -- leaf 2 (ret)
      simp_all
    ·
      have c4 : r9 = true := hcond
      clear hcond
      have hv := hr9.symm.trans c4
      have v := valid_iff.1 hv
      have ht := top_range hc hf hs hd
      refine vg_call (C := C_top) rfl rfl (xs := [.i hc, .i hf, .i hs, .i hd]) rfl (fun hg => ?_) (fun rs hrs => ?_)
      ·
        exact trivial
      obtain ⟨r10, hr10, rfl⟩ := top_res hrs
      clear hrs
      change Fm.holds _ _ (lk [.i hc, .i hf, .i hs, .i hd, .i fr, .i s0, .i s1, .i s2, .b r8, .b r9, .i r10])
      have e10 : IntKind.wrap .i64 (r10 + 1) = r10 + 1 := wrap_in (by omega) (by omega)
      refine vg_call (C := C_number) rfl rfl (xs := [.i fr, .i (IntKind.wrap .i64 (r10 + (1 : Int)))]) rfl (fun hg => ?_) (fun rs hrs => ?_)
      ·
        refine number_mk ?_
        -- leaf 3 (pre)
        omega
      obtain ⟨r11, hr11, rfl⟩ := number_res hrs
      clear hrs
      change Fm.holds _ _ (lk [.i hc, .i hf, .i hs, .i hd, .i fr, .i s0, .i s1, .i s2, .b r8, .b r9, .i r10, .i r11])
      have n1 := number_range fr (b := r10 + 1) (by omega)
      rw [e10] at hr11
      rw [← hr11, hr10] at n1
      have S := start_at (p := r11) hv n1.1 (by omega)
      have hlp := level_iff (p := r11) hv n1.1 (by omega)
      have m0 := Int.emod_nonneg r11 (show hs ≠ 0 by omega)
      have m1 := Int.emod_lt_of_pos r11 (show 0 < hs by omega)
      have m2 := Int.mul_ediv_add_emod r11 hs
      have m3 : 0 ≤ hs * (r11 / hs) := Int.mul_nonneg (by omega) (Int.ediv_nonneg n1.1 (by omega))
      have hmod : ∀ j : Int, 0 ≤ j → j ≤ r11 % hs → (r11 - j) % hs = r11 % hs - j := fun j h1 h2 => by
        rw [show r11 - j = (r11 % hs - j) + hs * (r11 / hs) by omega, Int.add_mul_emod_self_left]
        exact Int.emod_eq_of_lt (by omega) (by omega)
      have hlv : ∀ j : Int, 0 ≤ j → j ≤ r11 % hs → level hc hf hs hd (r11 - j) = decide (j = r11 % hs) := fun j h1 h2 => by
        rw [level_iff hv (by omega) (by omega), hmod j h1 h2]
        apply decide_eq_decide.2
        omega
      have htm : Int.tmod r11 hs = r11 % hs := tmod_emod n1.1
      refine vg_call (C := C_cstart) rfl rfl (xs := [.i hc, .i hf, .i hs, .i hd, .i r11]) rfl (fun hg => ?_) (fun rs hrs => ?_)
      ·
        exact trivial
      obtain ⟨r12, r13, r14, r15, r16, r17, hr12, hr13, hr14, hr15, hr16, hr17, rfl⟩ := cstart_res hrs
      clear hrs
      change Fm.holds _ _ (lk [.i hc, .i hf, .i hs, .i hd, .i fr, .i s0, .i s1, .i s2, .b r8, .b r9, .i r10, .i r11, .i r12, .i r13, .i r14, .b r15, .i r16, .b r17])
      rw [S.1] at hr17
      simp only [S.2] at hr12 hr13 hr14 hr15 hr16
      refine vg_call (C := C_level) rfl rfl (xs := [.i hc, .i hf, .i hs, .i hd, .i r11]) rfl (fun hg => ?_) (fun rs hrs => ?_)
      ·
        exact trivial
      obtain ⟨r18, hr18, rfl⟩ := level_res hrs
      clear hrs
      change Fm.holds _ _ (lk [.i hc, .i hf, .i hs, .i hd, .i fr, .i s0, .i s1, .i s2, .b r8, .b r9, .i r10, .i r11, .i r12, .i r13, .i r14, .b r15, .i r16, .b r17, .b r18])
      refine ⟨fun hcond => ?_, fun hcond => ?_⟩
      ·
        have c5 : (if (if (if (!r17) = true then true else (!(r14 == (0 : Int)))) = true then true else (!(r13 == (0 : Int)))) = true then true else (r15 == r18)) = true := hcond
        clear hcond
        suffices hfin : (false) = (true) from (c_b hfin rfl)
        -- leaf 4 (ret)
        rw [hr17, hr14, hr13, hr15, hr18] at c5
        cases h : level hc hf hs hd r11 <;> rw [h] at c5 <;> simp at c5
      ·
        have c6 : (if (if (if (!r17) = true then true else (!(r14 == (0 : Int)))) = true then true else (!(r13 == (0 : Int)))) = true then true else (r15 == r18)) = false := hcond
        clear hcond
        refine ⟨fun hg => ?_, ?_⟩
        ·
          show (!(hs == (0 : Int))) = true
          -- leaf 5 (ob)
          simp; omega
        refine vg_loop rfl ?_ (fun xs hfit hi => ?_)
        ·
          show inv_CarLevels_12 hs r11 (0 : Int) r12 r13 r14 r15 r16
          -- leaf 6 (init)
          refine ⟨by omega, m0, by rw [hr12]; omega, hr14, hr16, ?_, by rw [hr13, if_neg (by omega)]⟩
          rw [hr15, hlp, Bool.eq_iff_iff]
          simp
          omega
        obtain ⟨x19, xs0, rfl, hfit0⟩ := fits_i hfit
        obtain ⟨x20, xs1, rfl, hfit1⟩ := fits_i hfit0
        obtain ⟨x21, xs2, rfl, hfit2⟩ := fits_i hfit1
        obtain ⟨x22, xs3, rfl, hfit3⟩ := fits_i hfit2
        obtain ⟨x23, xs4, rfl, hfit4⟩ := fits_b hfit3
        obtain ⟨x24, xs5, rfl, hfit5⟩ := fits_i hfit4
        obtain rfl := fits_nil hfit5
        clear hfit hfit0 hfit1 hfit2 hfit3 hfit4 hfit5
        replace hi : inv_CarLevels_12 hs r11 x19 x20 x21 x22 x23 x24 := hi
        have hi12 := hi; clear hi
        change Fm.holds _ _ (lk [.i hc, .i hf, .i hs, .i hd, .i fr, .i s0, .i s1, .i s2, .b r8, .b r9, .i r10, .i r11, .i r12, .i r13, .i r14, .b r15, .i r16, .b r17, .b r18, .i x19, .i x20, .i x21, .i x22, .b x23, .i x24])
        obtain ⟨i0, i1, i2, i3, i4, i5, i6⟩ := hi12
        have e1 : IntKind.wrap .i64 (x19 + 1) = x19 + 1 := wrap_in (by omega) (by omega)
        refine ⟨fun hcond => ?_, fun hcond => ?_⟩
        ·
          have c7 : (decide (x19 < (Int.tmod r11 hs))) = true := hcond
          clear hcond
          have hlt := of_decide_eq_true c7
          rw [htm] at hlt
          have hl0 : level hc hf hs hd x20 = false := by rw [i2, hlv x19 i0 i1]; simp; omega
          have hrl : x23 = true := by rw [i5]; exact decide_eq_true hlt
          have hright : carRight hc hf hs hd ⟨x20, x21, x22, x23, x24⟩ = true := right_iff.2 ⟨hv, by simp only; omega, by simp only; rw [i6]; split <;> omega, by simp only; omega, fun h => by simp only at h; omega, .inr (.inr hrl), .inl i4⟩
          have E := tick_down (s := ⟨s0, s1, s2⟩) (ob := false) hright i3 hrl hl0
          refine vg_call (C := C_ctick) rfl rfl (xs := [.i hc, .i hf, .i hs, .i hd, .i x20, .i x21, .i x22, .b x23, .i x24, .i s0, .i s1, .i s2, .b false]) rfl (fun hg => ?_) (fun rs hrs => ?_)
          ·
            refine ctick_mk ?_
            -- leaf 7 (pre)
            omega
          obtain ⟨r25, r26, r27, r28, r29, r30, r31, r32, r33, r34, r35, r36, r37, hr25, hr26, hr27, hr28, hr29, hr30, hr31, hr32, hr33, hr34, hr35, hr36, hr37, rfl⟩ := ctick_res hrs
          clear hrs
          change Fm.holds _ _ (lk [.i hc, .i hf, .i hs, .i hd, .i fr, .i s0, .i s1, .i s2, .b r8, .b r9, .i r10, .i r11, .i r12, .i r13, .i r14, .b r15, .i r16, .b r17, .b r18, .i x19, .i x20, .i x21, .i x22, .b x23, .i x24, .i r25, .i r26, .i r27, .b r28, .i r29, .b r30, .b r31, .i r32, .i r33, .i r34, .i r35, .i r36, .i r37])
          simp only [E] at hr25 hr26 hr27 hr28 hr29 hr30 hr31 hr32 hr33 hr34 hr35 hr36 hr37
          refine ⟨fun hcond => ?_, fun hcond => ?_⟩
          ·
            have c8 : (if (!(r34 == (-1))) = true then true else r30) = true := hcond
            clear hcond
            suffices hfin : (false) = (true) from (c_b hfin rfl)
            -- leaf 8 (ret)
            rw [hr34, hr30] at c8
            simp at c8
          ·
            have c9 : (if (!(r34 == (-1))) = true then true else r30) = false := hcond
            clear hcond
            refine ⟨?_, ?_⟩
            ·
              show inv_CarLevels_12 hs r11 (IntKind.wrap .i64 (x19 + (1 : Int))) r25 r26 r27 r28 r29
              -- leaf 9 (back)
              have hl1 := hlv (x19 + 1) (by omega) (by omega)
              have e3 : x20 - 1 = r11 - (x19 + 1) := by omega
              rw [e1, hr25, hr26, hr27, hr28, hr29, e3, hl1]
              refine ⟨by omega, by omega, rfl, rfl, i4, ?_, ?_⟩
              · rw [Bool.eq_iff_iff]; simp; omega
              · by_cases h : x19 + 1 = r11 % hs
                · rw [if_pos (by simpa using h), if_neg (by omega)]
                · rw [if_neg (by simpa using h), if_pos (by omega)]
            ·
              show meas_CarLevels_12 hs r11 (IntKind.wrap .i64 (x19 + (1 : Int))) r25 r26 r27 r28 r29 < meas_CarLevels_12 hs r11 x19 x20 x21 x22 x23 x24
              -- leaf 10 (meas)
              unfold meas_CarLevels_12
              rw [e1]
              omega
        ·
          have c10 : (decide (x19 < (Int.tmod r11 hs))) = false := hcond
          clear hcond
          refine vg_call (C := C_level) rfl rfl (xs := [.i hc, .i hf, .i hs, .i hd, .i x20]) rfl (fun hg => ?_) (fun rs hrs => ?_)
          ·
            exact trivial
          obtain ⟨r25, hr25, rfl⟩ := level_res hrs
          clear hrs
          change Fm.holds _ _ (lk [.i hc, .i hf, .i hs, .i hd, .i fr, .i s0, .i s1, .i s2, .b r8, .b r9, .i r10, .i r11, .i r12, .i r13, .i r14, .b r15, .i r16, .b r17, .b r18, .i x19, .i x20, .i x21, .i x22, .b x23, .i x24, .b r25])
          suffices hfin : ((if (if (if r25 = true then (!x23) else false) = true then (x21 == (0 : Int)) else false) = true then (x20 == (IntKind.wrap .i64 (r11 - (Int.tmod r11 hs)))) else false)) = (true) from (c_b hfin rfl)
          -- leaf 11 (ret)
          have hge := of_decide_eq_false c10
          rw [htm] at hge
          have hi : x19 = r11 % hs := by omega
          have h1 : r25 = true := by rw [hr25, i2, hlv x19 i0 i1]; exact decide_eq_true hi
          have h2 : x23 = false := by rw [i5]; exact decide_eq_false (by omega)
          have h3 : x21 = 0 := by rw [i6, if_neg (by omega)]
          rw [h1, h2, h3, htm, wrap_in (n := r11 - r11 % hs) (by omega) (by omega), i2, hi]
          simp
end Go.Proofs.YtchjajnhbipkmaaDoor
