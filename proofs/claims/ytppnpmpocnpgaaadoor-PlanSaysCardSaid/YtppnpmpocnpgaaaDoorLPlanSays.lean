import Derived.Test.YtppnpmpocnpgaaaDoorVPlanSays
namespace Go.Proofs.YtppnpmpocnpgaaaDoor
open Go.Vg
set_option linter.unusedVariables false
set_option linter.unusedSimpArgs false


theorem PlanSays_sound : C_PlanSays.Sound Tryd.prog G 8 := by
  refine fn_ok mixed stable tbl_PlanSays [] Tryd.func8 (by kernel_rfl) phi_PlanSays vc_PlanSays ⟨first15_sound, planat_sound, rplan_sound, trivial⟩ (fun _ _ _ => False) (fun _ _ _ => 0) ?_
  intro ls hp
  obtain ⟨s0, s1, s2, fl, dir, rfl, hpre⟩ := PlanSays_pre hp
  clear hp
  rw [envOf_lk]
  unfold phi_PlanSays
  refine vg_call (C := C_first15) rfl rfl (xs := []) rfl (fun hg => ?_) (fun rs hrs => ?_)
  ·
    exact trivial
  obtain ⟨r5, hr5, rfl⟩ := first15_res hrs
  clear hrs
  change Fm.holds _ _ (lk [.i s0, .i s1, .i s2, .i fl, .i dir, .b r5])
  refine ⟨fun hcond => ?_, fun hcond => ?_⟩
  ·
    have c1 : r5 = false := hcond
    clear hcond
    suffices hfin : (false) = (true) from (c_b hfin rfl)
    -- leaf 1 (ret)
    subst_vars
    simp at *
  ·
    have c2 : r5 = true := hcond
    clear hcond
    refine vg_call (C := C_planat) rfl rfl (xs := [.i s0, .i s1, .i s2, .i fl, .i dir]) rfl (fun hg => ?_) (fun rs hrs => ?_)
    ·
      exact trivial
    obtain ⟨r6, r7, r8, hr6, hr7, hr8, rfl⟩ := planat_res hrs
    clear hrs
    change Fm.holds _ _ (lk [.i s0, .i s1, .i s2, .i fl, .i dir, .b r5, .b r6, .i r7, .i r8])
    refine vg_call (C := C_rplan) rfl rfl (xs := [.i s0, .i s1, .i s2, .i fl, .i dir]) rfl (fun hg => ?_) (fun rs hrs => ?_)
    ·
      exact trivial
    obtain ⟨r9, r10, r11, hr9, hr10, hr11, rfl⟩ := rplan_res hrs
    clear hrs
    change Fm.holds _ _ (lk [.i s0, .i s1, .i s2, .i fl, .i dir, .b r5, .b r6, .i r7, .i r8, .b r9, .i r10, .i r11])
    suffices hfin : ((if (if (r6 == r9) = true then (r7 == r10) else false) = true then (r8 == r11) else false)) = (true) from (c_b hfin rfl)
    -- leaf 2 (ret)
    subst_vars
    simp at *
end Go.Proofs.YtppnpmpocnpgaaaDoor
