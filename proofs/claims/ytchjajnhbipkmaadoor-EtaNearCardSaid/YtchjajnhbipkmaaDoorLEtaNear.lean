import Derived.Test.YtchjajnhbipkmaaDoorVEtaNear
namespace Go.Proofs.YtchjajnhbipkmaaDoor
open Go.Vg
set_option linter.unusedVariables false
set_option linter.unusedSimpArgs false
open Go

open Go in
theorem at_right {hc hf hs hd a l : Int} (hv : valid hc hf hs hd = true) (ha : 0 ≤ a ∧ a < hf) (hl : 0 ≤ l ∧ l ≤ hd) : carRight hc hf hs hd ⟨a * hs, 0, l, false, 0⟩ = true := by
  have v := valid_iff.1 hv
  have L := level_mul hv ha.1 ha.2
  exact right_iff.2 ⟨hv, ⟨L.1, L.2.1⟩, by dsimp only; omega, hl, fun h => ⟨L.2.2.1, rfl⟩, .inl L.2.2.1, .inl rfl⟩
open Go in
theorem eta_at {hc hf hs hd fl dr a : Int} (hv : valid hc hf hs hd = true) (hm : mayP hf fl dr = true) (ha : 0 ≤ a ∧ a < hf) :
    etaP hc hf hs hd ⟨a * hs, 0, 0, false, 0⟩ ⟨0, 0, 0⟩ fl dr = 1 + (if a ≤ fl then (fl - a) * hs else (a - fl) * hs) := by
  have v := valid_iff.1 hv
  unfold etaP
  rw [at_right hv ha (by omega), hm, Bool.and_true, if_pos rfl, eta_near hv hm ha (by omega)]


theorem EtaNear_sound : C_EtaNear.Sound Tryd.prog G 13 := by
  refine fn_ok mixed stable tbl_EtaNear [] Tryd.func13 (by kernel_rfl) phi_EtaNear vc_EtaNear ⟨valid_sound, cstart_sound, number_sound, first17_sound, rmay_sound, eta_sound, trivial⟩ (fun _ _ _ => False) (fun _ _ _ => 0) ?_
  intro ls hp
  obtain ⟨hc, hf, hs, hd, fr, fl0, dir, rfl, hpre⟩ := EtaNear_pre hp
  clear hp
  rw [envOf_lk]
  unfold phi_EtaNear
  refine vg_call (C := C_first17) rfl rfl (xs := []) rfl (fun hg => ?_) (fun rs hrs => ?_)
  ·
    exact trivial
  obtain ⟨r7, hr7, rfl⟩ := first17_res hrs
  clear hrs
  change Fm.holds _ _ (lk [.i hc, .i hf, .i hs, .i hd, .i fr, .i fl0, .i dir, .b r7])
  refine ⟨fun hcond => ?_, fun hcond => ?_⟩
  ·
    have c1 : r7 = false := hcond
    clear hcond
    suffices hfin : (false) = (true) from (c_b hfin rfl)
    -- leaf 1 (ret)
    simp_all
  ·
    have c2 : r7 = true := hcond
    clear hcond
    refine vg_call (C := C_valid) rfl rfl (xs := [.i hc, .i hf, .i hs, .i hd]) rfl (fun hg => ?_) (fun rs hrs => ?_)
    ·
      exact trivial
    obtain ⟨r8, hr8, rfl⟩ := valid_res hrs
    clear hrs
    change Fm.holds _ _ (lk [.i hc, .i hf, .i hs, .i hd, .i fr, .i fl0, .i dir, .b r7, .b r8])
    refine ⟨fun hcond => ?_, fun hcond => ?_⟩
    ·
      have c3 : r8 = false := hcond
      clear hcond
      suffices hfin : (r7) = (true) from (c_b hfin rfl)
      -- leaf 2 (ret)
      simp_all
    ·
      have c4 : r8 = true := hcond
      clear hcond
      have hv : valid hc hf hs hd = true := hr8.symm.trans c4
      have v := valid_iff.1 hv
      have ht := top_range hc hf hs hd
      refine vg_call (C := C_number) rfl rfl (xs := [.i fr, .i hf]) rfl (fun hg => ?_) (fun rs hrs => ?_)
      ·
        refine number_mk ?_
        -- leaf 3 (pre)
        omega
      obtain ⟨r9, hr9, rfl⟩ := number_res hrs
      clear hrs
      change Fm.holds _ _ (lk [.i hc, .i hf, .i hs, .i hd, .i fr, .i fl0, .i dir, .b r7, .b r8, .i r9])
      have n1 := number_range fr (b := hf) (by omega)
      rw [← hr9] at n1
      have L := level_mul hv n1.1 n1.2
      have w1 : IntKind.wrap .i64 (r9 * hs) = r9 * hs := wrap_in (by omega) (by omega)
      have S := start_at (p := r9 * hs) hv L.1 L.2.1
      refine vg_call (C := C_number) rfl rfl (xs := [.i fl0, .i hf]) rfl (fun hg => ?_) (fun rs hrs => ?_)
      ·
        refine number_mk ?_
        -- leaf 4 (pre)
        omega
      obtain ⟨r10, hr10, rfl⟩ := number_res hrs
      clear hrs
      change Fm.holds _ _ (lk [.i hc, .i hf, .i hs, .i hd, .i fr, .i fl0, .i dir, .b r7, .b r8, .i r9, .i r10])
      have n2 := number_range fl0 (b := hf) (by omega)
      rw [← hr10] at n2
      refine vg_call (C := C_number) rfl rfl (xs := [.i dir, .i (2 : Int)]) rfl (fun hg => ?_) (fun rs hrs => ?_)
      ·
        refine number_mk ?_
        -- leaf 5 (pre)
        omega
      obtain ⟨r11, hr11, rfl⟩ := number_res hrs
      clear hrs
      change Fm.holds _ _ (lk [.i hc, .i hf, .i hs, .i hd, .i fr, .i fl0, .i dir, .b r7, .b r8, .i r9, .i r10, .i r11])
      refine vg_call (C := C_cstart) rfl rfl (xs := [.i hc, .i hf, .i hs, .i hd, .i (IntKind.wrap .i64 (r9 * hs))]) rfl (fun hg => ?_) (fun rs hrs => ?_)
      ·
        exact trivial
      obtain ⟨r12, r13, r14, r15, r16, r17, hr12, hr13, hr14, hr15, hr16, hr17, rfl⟩ := cstart_res hrs
      clear hrs
      change Fm.holds _ _ (lk [.i hc, .i hf, .i hs, .i hd, .i fr, .i fl0, .i dir, .b r7, .b r8, .i r9, .i r10, .i r11, .i r12, .i r13, .i r14, .b r15, .i r16, .b r17])
      rw [w1, S.1] at hr17
      simp only [w1, S.2] at hr12 hr13 hr14 hr15 hr16
      rw [L.2.2.1] at hr15
      refine ⟨fun hcond => ?_, fun hcond => ?_⟩
      ·
        have c5 : r17 = false := hcond
        clear hcond
        suffices hfin : (false) = (true) from (c_b hfin rfl)
        -- leaf 6 (ret)
        rw [hr17] at c5
        cases c5
      ·
        have c6 : r17 = true := hcond
        clear hcond
        refine vg_call (C := C_eta) rfl rfl (xs := [.i hc, .i hf, .i hs, .i hd, .i r12, .i r13, .i r14, .b r15, .i r16, .i (0 : Int), .i (0 : Int), .i (0 : Int), .i r10, .i (IntKind.wrap .i64 ((IntKind.wrap .i64 ((2 : Int) * r11)) - (1 : Int)))]) rfl (fun hg => ?_) (fun rs hrs => ?_)
        ·
          refine eta_mk ?_
          -- leaf 7 (pre)
          omega
        obtain ⟨r18, hr18, rfl⟩ := eta_res hrs
        clear hrs
        change Fm.holds _ _ (lk [.i hc, .i hf, .i hs, .i hd, .i fr, .i fl0, .i dir, .b r7, .b r8, .i r9, .i r10, .i r11, .i r12, .i r13, .i r14, .b r15, .i r16, .b r17, .i r18])
        simp only [hr12, hr13, hr14, hr15, hr16, Bool.not_true] at hr18
        refine vg_call (C := C_rmay) rfl rfl (xs := [.i hf, .i r10, .i (IntKind.wrap .i64 ((IntKind.wrap .i64 ((2 : Int) * r11)) - (1 : Int)))]) rfl (fun hg => ?_) (fun rs hrs => ?_)
        ·
          refine rmay_mk ?_
          -- leaf 8 (pre)
          omega
        obtain ⟨r19, hr19, rfl⟩ := rmay_res hrs
        clear hrs
        change Fm.holds _ _ (lk [.i hc, .i hf, .i hs, .i hd, .i fr, .i fl0, .i dir, .b r7, .b r8, .i r9, .i r10, .i r11, .i r12, .i r13, .i r14, .b r15, .i r16, .b r17, .i r18, .b r19])
        generalize IntKind.wrap .i64 (IntKind.wrap .i64 (2 * r11) - 1) = dr at hr18 hr19
        refine ⟨fun hcond => ?_, fun hcond => ?_⟩
        ·
          have c7 : r19 = false := hcond
          clear hcond
          suffices hfin : ((r18 == (1048576 : Int))) = (true) from (c_b hfin rfl)
          -- leaf 9 (ret)
          rw [hr18]
          unfold etaP
          rw [if_neg]
          · rfl
          rw [← hr19, c7]
          simp
        ·
          have c8 : r19 = true := hcond
          clear hcond
          refine ⟨fun hcond => ?_, fun hcond => ?_⟩
          ·
            have c9 : (decide ((IntKind.wrap .i64 (r10 - r9)) < (0 : Int))) = true := hcond
            clear hcond
            suffices hfin : ((r18 == (IntKind.wrap .i64 ((IntKind.wrap .i64 ((IntKind.wrap .i64 ((0 : Int) - (IntKind.wrap .i64 (r10 - r9)))) * hs)) + (1 : Int))))) = (true) from (c_b hfin rfl)
            -- leaf 10 (ret)
            have hlt := of_decide_eq_true c9
            rw [wrap_in (by omega) (by omega)] at hlt
            have A := eta_at (dr := dr) hv (hr19.symm.trans c8) n1
            rw [if_neg (by omega)] at A
            have m1 : 0 ≤ (r9 - r10) * hs := Int.mul_nonneg (by omega) (by omega)
            have m2 : (r9 - r10) * hs ≤ 64 * 8 := Int.mul_le_mul (by omega) (by omega) (by omega) (by omega)
            rw [hr18, A, wrap_in (n := r10 - r9) (by omega) (by omega), show (0 : Int) - (r10 - r9) = r9 - r10 by omega, wrap_in (n := r9 - r10) (by omega) (by omega), wrap_in (n := (r9 - r10) * hs) (by omega) (by omega), wrap_in (by omega) (by omega)]
            rw [Int.add_comm]
            simp
          ·
            have c10 : (decide ((IntKind.wrap .i64 (r10 - r9)) < (0 : Int))) = false := hcond
            clear hcond
            suffices hfin : ((r18 == (IntKind.wrap .i64 ((IntKind.wrap .i64 ((IntKind.wrap .i64 (r10 - r9)) * hs)) + (1 : Int))))) = (true) from (c_b hfin rfl)
            -- leaf 11 (ret)
            have hge := of_decide_eq_false c10
            rw [wrap_in (by omega) (by omega)] at hge
            have A := eta_at (dr := dr) hv (hr19.symm.trans c8) n1
            rw [if_pos (by omega)] at A
            have m1 : 0 ≤ (r10 - r9) * hs := Int.mul_nonneg (by omega) (by omega)
            have m2 : (r10 - r9) * hs ≤ 64 * 8 := Int.mul_le_mul (by omega) (by omega) (by omega) (by omega)
            rw [hr18, A, wrap_in (n := r10 - r9) (by omega) (by omega), wrap_in (n := (r10 - r9) * hs) (by omega) (by omega), wrap_in (by omega) (by omega)]
            rw [Int.add_comm]
            simp
end Go.Proofs.YtchjajnhbipkmaaDoor
