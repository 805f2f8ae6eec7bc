import Derived.Test.YtchjajnhbipkmaaDoorVEtaBound
namespace Go.Proofs.YtchjajnhbipkmaaDoor
open Go.Vg
set_option linter.unusedVariables false
set_option linter.unusedSimpArgs false
open Go


theorem EtaBound_sound : C_EtaBound.Sound Tryd.prog G 14 := by
  refine fn_ok mixed stable tbl_EtaBound [] Tryd.func14 (by kernel_rfl) phi_EtaBound vc_EtaBound ⟨valid_sound, cright_sound, first17_sound, rmay_sound, eta_sound, trivial⟩ (fun _ _ _ => False) (fun _ _ _ => 0) ?_
  intro ls hp
  obtain ⟨hc, hf, hs, hd, cp, cdir, cdo, crl, ch, s0, s1, s2, fl, dr, rfl, hpre⟩ := EtaBound_pre hp
  clear hp
  rw [envOf_lk]
  unfold phi_EtaBound
  refine vg_call (C := C_first17) rfl rfl (xs := []) rfl (fun hg => ?_) (fun rs hrs => ?_)
  ·
    exact trivial
  obtain ⟨r14, hr14, rfl⟩ := first17_res hrs
  clear hrs
  change Fm.holds _ _ (lk [.i hc, .i hf, .i hs, .i hd, .i cp, .i cdir, .i cdo, .b crl, .i ch, .i s0, .i s1, .i s2, .i fl, .i dr, .b r14])
  refine ⟨fun hcond => ?_, fun hcond => ?_⟩
  ·
    have c1 : r14 = false := hcond
    clear hcond
    suffices hfin : (false) = (true) from (c_b hfin rfl)
    -- leaf 1 (ret)
    simp_all
  ·
    have c2 : r14 = true := hcond
    clear hcond
    refine vg_call (C := C_valid) rfl rfl (xs := [.i hc, .i hf, .i hs, .i hd]) rfl (fun hg => ?_) (fun rs hrs => ?_)
    ·
      exact trivial
    obtain ⟨r15, hr15, rfl⟩ := valid_res hrs
    clear hrs
    change Fm.holds _ _ (lk [.i hc, .i hf, .i hs, .i hd, .i cp, .i cdir, .i cdo, .b crl, .i ch, .i s0, .i s1, .i s2, .i fl, .i dr, .b r14, .b r15])
    refine vg_call (C := C_cright) rfl rfl (xs := [.i hc, .i hf, .i hs, .i hd, .i cp, .i cdir, .i cdo, .b crl, .i ch]) rfl (fun hg => ?_) (fun rs hrs => ?_)
    ·
      exact trivial
    obtain ⟨r16, hr16, rfl⟩ := cright_res hrs
    clear hrs
    change Fm.holds _ _ (lk [.i hc, .i hf, .i hs, .i hd, .i cp, .i cdir, .i cdo, .b crl, .i ch, .i s0, .i s1, .i s2, .i fl, .i dr, .b r14, .b r15, .b r16])
    refine vg_call (C := C_rmay) rfl rfl (xs := [.i hf, .i fl, .i dr]) rfl (fun hg => ?_) (fun rs hrs => ?_)
    ·
      simp only [gd_cons, gd_nil, and_true] at hg
      replace hg : (if (!r15) = true then true else (!r16)) = false := hg
      refine rmay_mk ?_
      -- leaf 2 (pre)
      have h15 : r15 = true := by revert hg; cases r15 <;> simp
      have v := valid_iff.1 (hr15.symm.trans h15)
      omega
    obtain ⟨r17, hr17, rfl⟩ := rmay_res hrs
    clear hrs
    change Fm.holds _ _ (lk [.i hc, .i hf, .i hs, .i hd, .i cp, .i cdir, .i cdo, .b crl, .i ch, .i s0, .i s1, .i s2, .i fl, .i dr, .b r14, .b r15, .b r16, .b r17])
    refine ⟨fun hcond => ?_, fun hcond => ?_⟩
    ·
      have c3 : (if (if (!r15) = true then true else (!r16)) = true then true else (!r17)) = true := hcond
      clear hcond
      suffices hfin : (r14) = (true) from (c_b hfin rfl)
      -- leaf 3 (ret)
      simp_all
    ·
      have c4 : (if (if (!r15) = true then true else (!r16)) = true then true else (!r17)) = false := hcond
      clear hcond
      have h15 : r15 = true := by revert c4; cases r15 <;> simp
      have h16 : r16 = true := by revert c4; cases r15 <;> cases r16 <;> simp
      have h17 : r17 = true := by revert c4; cases r15 <;> cases r16 <;> cases r17 <;> simp
      have hv : valid hc hf hs hd = true := hr15.symm.trans h15
      have hr : carRight hc hf hs hd ⟨cp, cdir, cdo, crl, ch⟩ = true := hr16.symm.trans h16
      have hm : mayP hf fl dr = true := hr17.symm.trans h17
      have v := valid_iff.1 hv
      refine vg_call (C := C_eta) rfl rfl (xs := [.i hc, .i hf, .i hs, .i hd, .i cp, .i cdir, .i cdo, .b crl, .i ch, .i s0, .i s1, .i s2, .i fl, .i dr]) rfl (fun hg => ?_) (fun rs hrs => ?_)
      ·
        refine eta_mk ?_
        -- leaf 4 (pre)
        omega
      obtain ⟨r18, hr18, rfl⟩ := eta_res hrs
      clear hrs
      change Fm.holds _ _ (lk [.i hc, .i hf, .i hs, .i hd, .i cp, .i cdir, .i cdo, .b crl, .i ch, .i s0, .i s1, .i s2, .i fl, .i dr, .b r14, .b r15, .b r16, .b r17, .i r18])
      suffices hfin : ((if (decide ((1 : Int) ≤ r18)) = true then (decide (r18 ≤ (IntKind.wrap .i64 ((IntKind.wrap .i64 ((IntKind.wrap .i64 ((IntKind.wrap .i64 ((3 : Int) * hf)) * (IntKind.wrap .i64 ((IntKind.wrap .i64 (hs + hd)) + (2 : Int))))) + (IntKind.wrap .i64 ((2 : Int) * hd)))) + hs)))) else false)) = (true) from (c_b hfin rfl)
      -- leaf 5 (ret)
      have E := eta_bound (s := ⟨s0, s1, s2⟩) hr hm
      rw [← hr18] at E
      have m1 : 0 ≤ hf * hs := Int.mul_nonneg (by omega) (by omega)
      have m2 : 0 ≤ hf * hd := Int.mul_nonneg (by omega) (by omega)
      have m3 : hf * hs ≤ 64 * 8 := Int.mul_le_mul (by omega) (by omega) (by omega) (by omega)
      have m4 : hf * hd ≤ 64 * 8 := Int.mul_le_mul (by omega) (by omega) (by omega) (by omega)
      have e1 : (hf - 1) * hs = hf * hs - hs := by rw [Int.sub_mul, Int.one_mul]
      have e2 : (hd + 1) * (3 * hf) = 3 * (hf * hd) + 3 * hf := by grind
      have e3 : (3 * hf) * (hs + hd + 2) = 3 * (hf * hs) + 3 * (hf * hd) + 6 * hf := by grind
      rw [e1, e2] at E
      rw [wrap_in (n := 3 * hf) (by omega) (by omega), wrap_in (n := hs + hd) (by omega) (by omega), wrap_in (n := hs + hd + 2) (by omega) (by omega), e3, wrap_in (n := 2 * hd) (by omega) (by omega), wrap_in (n := 3 * (hf * hs) + 3 * (hf * hd) + 6 * hf) (by omega) (by omega), wrap_in (n := 3 * (hf * hs) + 3 * (hf * hd) + 6 * hf + 2 * hd) (by omega) (by omega), wrap_in (by omega) (by omega)]
      have t1 : decide (1 ≤ r18) = true := decide_eq_true (by omega)
      have t2 : decide (r18 ≤ 3 * (hf * hs) + 3 * (hf * hd) + 6 * hf + 2 * hd + hs) = true := decide_eq_true (by omega)
      rw [t1, t2]
      rfl
end Go.Proofs.YtchjajnhbipkmaaDoor
