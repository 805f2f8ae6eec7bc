import Derived.Test.YtccdhkmohimfhaaDoorVEpochSays
namespace Go.Proofs.YtccdhkmohimfhaaDoor
open Go.Vg
set_option linter.unusedVariables false
set_option linter.unusedSimpArgs false
open Go


theorem EpochSays_sound : C_EpochSays.Sound Tryd.prog G 8 := by
  refine fn_ok mixed stable tbl_EpochSays [] Tryd.func8 (by kernel_rfl) phi_EpochSays vc_EpochSays ⟨first4_sound, sameEp_sound, less_sound, next_sound, validEp_sound, rnext_sound, rvalidEp_sound, none_sound, rless_sound, text_sound, rtext_sound, trivial⟩ (fun _ _ _ => False) (fun _ _ _ => 0) ?_
  intro ls hp
  obtain ⟨ac, af, bc, bf, seen, fo, rfl, hpre⟩ := EpochSays_pre hp
  clear hp
  rw [envOf_lk]
  unfold phi_EpochSays
  refine vg_call (C := C_first4) rfl rfl (xs := []) rfl (fun hg => ?_) (fun rs hrs => ?_)
  ·
    exact trivial
  obtain ⟨r6, hr6, rfl⟩ := first4_res hrs
  clear hrs
  change Fm.holds _ _ (lk [.i ac, .i af, .i bc, .i bf, .i seen, .i fo, .b r6])
  refine ⟨fun hcond => ?_, fun hcond => ?_⟩
  ·
    have c1 : r6 = false := hcond
    clear hcond
    suffices hfin : (false) = (true) from (c_b hfin rfl)
    -- leaf 1 (ret)
    simp_all
  ·
    have c2 : r6 = true := hcond
    clear hcond
    refine vg_call (C := C_next) rfl rfl (xs := [.i seen, .i fo]) rfl (fun hg => ?_) (fun rs hrs => ?_)
    ·
      exact trivial
    obtain ⟨r7, r8, r9, hr7, hr8, hr9, rfl⟩ := next_res hrs
    clear hrs
    change Fm.holds _ _ (lk [.i ac, .i af, .i bc, .i bf, .i seen, .i fo, .b r6, .i r7, .i r8, .b r9])
    refine vg_call (C := C_rnext) rfl rfl (xs := [.i seen, .i fo]) rfl (fun hg => ?_) (fun rs hrs => ?_)
    ·
      exact trivial
    obtain ⟨r10, r11, r12, hr10, hr11, hr12, rfl⟩ := rnext_res hrs
    clear hrs
    change Fm.holds _ _ (lk [.i ac, .i af, .i bc, .i bf, .i seen, .i fo, .b r6, .i r7, .i r8, .b r9, .i r10, .i r11, .b r12])
    refine vg_call (C := C_validEp) rfl rfl (xs := [.i ac, .i af]) rfl (fun hg => ?_) (fun rs hrs => ?_)
    ·
      exact trivial
    obtain ⟨r13, hr13, rfl⟩ := validEp_res hrs
    clear hrs
    change Fm.holds _ _ (lk [.i ac, .i af, .i bc, .i bf, .i seen, .i fo, .b r6, .i r7, .i r8, .b r9, .i r10, .i r11, .b r12, .b r13])
    refine vg_call (C := C_rvalidEp) rfl rfl (xs := [.i ac, .i af]) rfl (fun hg => ?_) (fun rs hrs => ?_)
    ·
      exact trivial
    obtain ⟨r14, hr14, rfl⟩ := rvalidEp_res hrs
    clear hrs
    change Fm.holds _ _ (lk [.i ac, .i af, .i bc, .i bf, .i seen, .i fo, .b r6, .i r7, .i r8, .b r9, .i r10, .i r11, .b r12, .b r13, .b r14])
    refine vg_call (C := C_none) rfl rfl (xs := [.i ac, .i af]) rfl (fun hg => ?_) (fun rs hrs => ?_)
    ·
      exact trivial
    obtain ⟨r15, hr15, rfl⟩ := none_res hrs
    clear hrs
    change Fm.holds _ _ (lk [.i ac, .i af, .i bc, .i bf, .i seen, .i fo, .b r6, .i r7, .i r8, .b r9, .i r10, .i r11, .b r12, .b r13, .b r14, .b r15])
    refine vg_call (C := C_less) rfl rfl (xs := [.i ac, .i af, .i bc, .i bf]) rfl (fun hg => ?_) (fun rs hrs => ?_)
    ·
      exact trivial
    obtain ⟨r16, hr16, rfl⟩ := less_res hrs
    clear hrs
    change Fm.holds _ _ (lk [.i ac, .i af, .i bc, .i bf, .i seen, .i fo, .b r6, .i r7, .i r8, .b r9, .i r10, .i r11, .b r12, .b r13, .b r14, .b r15, .b r16])
    refine vg_call (C := C_rless) rfl rfl (xs := [.i ac, .i af, .i bc, .i bf]) rfl (fun hg => ?_) (fun rs hrs => ?_)
    ·
      exact trivial
    obtain ⟨r17, hr17, rfl⟩ := rless_res hrs
    clear hrs
    change Fm.holds _ _ (lk [.i ac, .i af, .i bc, .i bf, .i seen, .i fo, .b r6, .i r7, .i r8, .b r9, .i r10, .i r11, .b r12, .b r13, .b r14, .b r15, .b r16, .b r17])
    refine vg_call (C := C_sameEp) rfl rfl (xs := [.i r7, .i r8, .i r10, .i r11]) rfl (fun hg => ?_) (fun rs hrs => ?_)
    ·
      exact trivial
    obtain ⟨r18, hr18, rfl⟩ := sameEp_res hrs
    clear hrs
    change Fm.holds _ _ (lk [.i ac, .i af, .i bc, .i bf, .i seen, .i fo, .b r6, .i r7, .i r8, .b r9, .i r10, .i r11, .b r12, .b r13, .b r14, .b r15, .b r16, .b r17, .b r18])
    refine vg_call (C := C_text) rfl rfl (xs := [.i ac, .i af]) rfl (fun hg => ?_) (fun rs hrs => ?_)
    ·
      simp only [gd_cons, gd_nil, and_true] at hg
      replace hg : (if (if (if (if (r13 == r14) = true then (r15 == (ac == (0 : Int))) else false) = true then (r16 == r17) else false) = true then (r9 == r12) else false) = true then r18 else false) = true := hg
      refine text_mk ?_
      -- leaf 2 (pre)
      subst_vars
      try simp only [decide_eq_true_eq, decide_eq_false_iff_not] at *
      try simp (disch := omega) only [wrap_in]
      grind
    obtain ⟨r19, hr19, rfl⟩ := text_res hrs
    clear hrs
    change Fm.holds _ _ (lk [.i ac, .i af, .i bc, .i bf, .i seen, .i fo, .b r6, .i r7, .i r8, .b r9, .i r10, .i r11, .b r12, .b r13, .b r14, .b r15, .b r16, .b r17, .b r18, .i r19])
    refine vg_call (C := C_rtext) rfl rfl (xs := [.i ac, .i af]) rfl (fun hg => ?_) (fun rs hrs => ?_)
    ·
      simp only [gd_cons, gd_nil, and_true] at hg
      replace hg : (if (if (if (if (r13 == r14) = true then (r15 == (ac == (0 : Int))) else false) = true then (r16 == r17) else false) = true then (r9 == r12) else false) = true then r18 else false) = true := hg
      refine rtext_mk ?_
      -- leaf 3 (pre)
      subst_vars
      try simp only [decide_eq_true_eq, decide_eq_false_iff_not] at *
      try simp (disch := omega) only [wrap_in]
      grind
    obtain ⟨r20, hr20, rfl⟩ := rtext_res hrs
    clear hrs
    change Fm.holds _ _ (lk [.i ac, .i af, .i bc, .i bf, .i seen, .i fo, .b r6, .i r7, .i r8, .b r9, .i r10, .i r11, .b r12, .b r13, .b r14, .b r15, .b r16, .b r17, .b r18, .i r19, .i r20])
    suffices hfin : ((if (if (if (if (if (r13 == r14) = true then (r15 == (ac == (0 : Int))) else false) = true then (r16 == r17) else false) = true then (r9 == r12) else false) = true then r18 else false) = true then ((if (decide (r19 < (0 : Int))) = true then (0 : Int) else r19) == (if (decide (r20 < (0 : Int))) = true then (0 : Int) else r20)) else false)) = (true) from (c_b hfin rfl)
    -- leaf 4 (ret)
    have h18 : r18 = true := by rw [hr18, hr7, hr8, hr10, hr11]; simp [sameE]
    have h15 : (r15 == (ac == 0)) = true := by rw [hr15]; simp
    rw [h15, h18, hr9, hr12, hr13, hr14, hr16, hr17, hr19, hr20]
    simp
end Go.Proofs.YtccdhkmohimfhaaDoor
