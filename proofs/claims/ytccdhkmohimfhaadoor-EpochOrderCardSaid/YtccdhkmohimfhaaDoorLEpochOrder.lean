import Derived.Test.YtccdhkmohimfhaaDoorVEpochOrder
namespace Go.Proofs.YtccdhkmohimfhaaDoor
open Go.Vg
set_option linter.unusedVariables false
set_option linter.unusedSimpArgs false
open Go


theorem EpochOrder_sound : C_EpochOrder.Sound Tryd.prog G 7 := by
  refine fn_ok mixed stable tbl_EpochOrder [] Tryd.func7 (by kernel_rfl) phi_EpochOrder vc_EpochOrder ⟨first4_sound, sameEp_sound, less_sound, next_sound, validEp_sound, trivial⟩ (fun _ _ _ => False) (fun _ _ _ => 0) ?_
  intro ls hp
  obtain ⟨ac, af, bc, bf, cc, cf, fo, rfl, hpre⟩ := EpochOrder_pre hp
  clear hp
  rw [envOf_lk]
  unfold phi_EpochOrder
  refine vg_call (C := C_first4) rfl rfl (xs := []) rfl (fun hg => ?_) (fun rs hrs => ?_)
  ·
    exact trivial
  obtain ⟨r7, hr7, rfl⟩ := first4_res hrs
  clear hrs
  change Fm.holds _ _ (lk [.i ac, .i af, .i bc, .i bf, .i cc, .i cf, .i fo, .b r7])
  refine ⟨fun hcond => ?_, fun hcond => ?_⟩
  ·
    have c1 : r7 = false := hcond
    clear hcond
    suffices hfin : (false) = (true) from (c_b hfin rfl)
    -- leaf 1 (ret)
    simp_all
  ·
    have c2 : r7 = true := hcond
    clear hcond
    refine vg_call (C := C_sameEp) rfl rfl (xs := [.i ac, .i af, .i bc, .i bf]) rfl (fun hg => ?_) (fun rs hrs => ?_)
    ·
      exact trivial
    obtain ⟨r8, hr8, rfl⟩ := sameEp_res hrs
    clear hrs
    change Fm.holds _ _ (lk [.i ac, .i af, .i bc, .i bf, .i cc, .i cf, .i fo, .b r7, .b r8])
    refine vg_call (C := C_less) rfl rfl (xs := [.i ac, .i af, .i bc, .i bf]) rfl (fun hg => ?_) (fun rs hrs => ?_)
    ·
      exact trivial
    obtain ⟨r9, hr9, rfl⟩ := less_res hrs
    clear hrs
    change Fm.holds _ _ (lk [.i ac, .i af, .i bc, .i bf, .i cc, .i cf, .i fo, .b r7, .b r8, .b r9])
    refine vg_call (C := C_less) rfl rfl (xs := [.i bc, .i bf, .i ac, .i af]) rfl (fun hg => ?_) (fun rs hrs => ?_)
    ·
      exact trivial
    obtain ⟨r10, hr10, rfl⟩ := less_res hrs
    clear hrs
    change Fm.holds _ _ (lk [.i ac, .i af, .i bc, .i bf, .i cc, .i cf, .i fo, .b r7, .b r8, .b r9, .b r10])
    refine vg_call (C := C_less) rfl rfl (xs := [.i ac, .i af, .i bc, .i bf]) rfl (fun hg => ?_) (fun rs hrs => ?_)
    ·
      exact trivial
    obtain ⟨r11, hr11, rfl⟩ := less_res hrs
    clear hrs
    change Fm.holds _ _ (lk [.i ac, .i af, .i bc, .i bf, .i cc, .i cf, .i fo, .b r7, .b r8, .b r9, .b r10, .b r11])
    refine vg_call (C := C_less) rfl rfl (xs := [.i bc, .i bf, .i ac, .i af]) rfl (fun hg => ?_) (fun rs hrs => ?_)
    ·
      exact trivial
    obtain ⟨r12, hr12, rfl⟩ := less_res hrs
    clear hrs
    change Fm.holds _ _ (lk [.i ac, .i af, .i bc, .i bf, .i cc, .i cf, .i fo, .b r7, .b r8, .b r9, .b r10, .b r11, .b r12])
    refine vg_call (C := C_less) rfl rfl (xs := [.i ac, .i af, .i bc, .i bf]) rfl (fun hg => ?_) (fun rs hrs => ?_)
    ·
      exact trivial
    obtain ⟨r13, hr13, rfl⟩ := less_res hrs
    clear hrs
    change Fm.holds _ _ (lk [.i ac, .i af, .i bc, .i bf, .i cc, .i cf, .i fo, .b r7, .b r8, .b r9, .b r10, .b r11, .b r12, .b r13])
    refine vg_call (C := C_less) rfl rfl (xs := [.i bc, .i bf, .i cc, .i cf]) rfl (fun hg => ?_) (fun rs hrs => ?_)
    ·
      exact trivial
    obtain ⟨r14, hr14, rfl⟩ := less_res hrs
    clear hrs
    change Fm.holds _ _ (lk [.i ac, .i af, .i bc, .i bf, .i cc, .i cf, .i fo, .b r7, .b r8, .b r9, .b r10, .b r11, .b r12, .b r13, .b r14])
    refine vg_call (C := C_less) rfl rfl (xs := [.i ac, .i af, .i cc, .i cf]) rfl (fun hg => ?_) (fun rs hrs => ?_)
    ·
      exact trivial
    obtain ⟨r15, hr15, rfl⟩ := less_res hrs
    clear hrs
    change Fm.holds _ _ (lk [.i ac, .i af, .i bc, .i bf, .i cc, .i cf, .i fo, .b r7, .b r8, .b r9, .b r10, .b r11, .b r12, .b r13, .b r14, .b r15])
    refine ⟨fun hcond => ?_, fun hcond => ?_⟩
    ·
      have c3 : (if (if (if r9 = true then r10 else false) = true then true else ((if r11 = true then true else r12) == r8)) = true then true else (if (if r13 = true then r14 else false) = true then (!r15) else false)) = true := hcond
      clear hcond
      suffices hfin : (false) = (true) from (c_b hfin rfl)
      -- leaf 2 (ret)
      subst_vars
      simp only [lessE, sameE] at c3
      grind
    ·
      have c4 : (if (if (if r9 = true then r10 else false) = true then true else ((if r11 = true then true else r12) == r8)) = true then true else (if (if r13 = true then r14 else false) = true then (!r15) else false)) = false := hcond
      clear hcond
      refine vg_call (C := C_next) rfl rfl (xs := [.i ac, .i fo]) rfl (fun hg => ?_) (fun rs hrs => ?_)
      ·
        exact trivial
      obtain ⟨r16, r17, r18, hr16, hr17, hr18, rfl⟩ := next_res hrs
      clear hrs
      change Fm.holds _ _ (lk [.i ac, .i af, .i bc, .i bf, .i cc, .i cf, .i fo, .b r7, .b r8, .b r9, .b r10, .b r11, .b r12, .b r13, .b r14, .b r15, .i r16, .i r17, .b r18])
      refine ⟨fun hcond => ?_, fun hcond => ?_⟩
      ·
        have c5 : r18 = false := hcond
        clear hcond
        suffices hfin : ((if (if (if (decide (ac < (0 : Int))) = true then true else (decide ((4294967295 : Int) ≤ ac))) = true then true else (decide (fo < (0 : Int)))) = true then true else (decide ((16 : Int) ≤ fo)))) = (true) from (c_b hfin rfl)
        -- leaf 3 (ret)
        rw [hr18] at c5
        simp only [nextIs] at c5
        grind
      ·
        have c6 : r18 = true := hcond
        clear hcond
        have hb : 0 ≤ ac ∧ ac < 4294967295 ∧ 0 ≤ fo ∧ fo < 16 := by
          rw [hr18] at c6
          simp only [nextIs, Bool.and_eq_true, decide_eq_true_eq] at c6
          omega
        have hn : nextIs ac fo = true := hr18.symm.trans c6
        rw [hn, if_pos rfl] at hr16 hr17
        have w1 : IntKind.wrap .i64 (ac + 1) = ac + 1 := wrap_in (by omega) (by omega)
        refine vg_call (C := C_validEp) rfl rfl (xs := [.i r16, .i r17]) rfl (fun hg => ?_) (fun rs hrs => ?_)
        ·
          exact trivial
        obtain ⟨r19, hr19, rfl⟩ := validEp_res hrs
        clear hrs
        change Fm.holds _ _ (lk [.i ac, .i af, .i bc, .i bf, .i cc, .i cf, .i fo, .b r7, .b r8, .b r9, .b r10, .b r11, .b r12, .b r13, .b r14, .b r15, .i r16, .i r17, .b r18, .b r19])
        refine vg_call (C := C_less) rfl rfl (xs := [.i ac, .i af, .i r16, .i r17]) rfl (fun hg => ?_) (fun rs hrs => ?_)
        ·
          exact trivial
        obtain ⟨r20, hr20, rfl⟩ := less_res hrs
        clear hrs
        change Fm.holds _ _ (lk [.i ac, .i af, .i bc, .i bf, .i cc, .i cf, .i fo, .b r7, .b r8, .b r9, .b r10, .b r11, .b r12, .b r13, .b r14, .b r15, .i r16, .i r17, .b r18, .b r19, .b r20])
        suffices hfin : ((if (if (if r19 = true then r20 else false) = true then (r17 == fo) else false) = true then (r16 == (IntKind.wrap .i64 (ac + (1 : Int)))) else false)) = (true) from (c_b hfin rfl)
        -- leaf 4 (ret)
        rw [hr19, hr20, hr16, hr17, w1]
        simp only [validE, lessE]
        grind
end Go.Proofs.YtccdhkmohimfhaaDoor
