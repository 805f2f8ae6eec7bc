import Derived.Test.YtppnpmpocnpgaaaDoorVPlanNone
namespace Go.Proofs.YtppnpmpocnpgaaaDoor
open Go.Vg
set_option linter.unusedVariables false
set_option linter.unusedSimpArgs false


theorem PlanNone_sound : C_PlanNone.Sound Tryd.prog G 7 := by
  refine fn_ok mixed stable tbl_PlanNone [] Tryd.func7 (by kernel_rfl) phi_PlanNone vc_PlanNone ⟨first15_sound, planat_sound, trivial⟩ (fun _ _ _ => False) (fun _ _ _ => 0) ?_
  intro ls hp
  obtain ⟨s0, s1, s2, fl, dir, rfl, hpre⟩ := PlanNone_pre hp
  clear hp
  rw [envOf_lk]
  unfold phi_PlanNone
  refine vg_call (C := C_first15) rfl rfl (xs := []) rfl (fun hg => ?_) (fun rs hrs => ?_)
  ·
    exact trivial
  obtain ⟨r5, hr5, rfl⟩ := first15_res hrs
  clear hrs
  change Fm.holds _ _ (lk [.i s0, .i s1, .i s2, .i fl, .i dir, .b r5])
  refine ⟨fun hcond => ?_, fun hcond => ?_⟩
  ·
    have c1 : r5 = false := hcond
    clear hcond
    suffices hfin : (false) = (true) from (c_b hfin rfl)
    -- leaf 1 (ret)
    simp_all
  ·
    have c2 : r5 = true := hcond
    clear hcond
    refine ⟨fun hcond => ?_, fun hcond => ?_⟩
    ·
      have c3 : (if (if (if (decide ((0 : Int) ≤ fl)) = true then (decide (fl < (64 : Int))) else false) = true then (decide ((-1) ≤ dir)) else false) = true then (decide (dir ≤ (1 : Int))) else false) = true := hcond
      clear hcond
      suffices hfin : (r5) = (true) from (c_b hfin rfl)
      -- leaf 2 (ret)
      simp_all
    ·
      have c4 : (if (if (if (decide ((0 : Int) ≤ fl)) = true then (decide (fl < (64 : Int))) else false) = true then (decide ((-1) ≤ dir)) else false) = true then (decide (dir ≤ (1 : Int))) else false) = false := hcond
      clear hcond
      refine vg_call (C := C_planat) rfl rfl (xs := [.i s0, .i s1, .i s2, .i fl, .i dir]) rfl (fun hg => ?_) (fun rs hrs => ?_)
      ·
        exact trivial
      obtain ⟨r6, r7, r8, hr6, hr7, hr8, rfl⟩ := planat_res hrs
      clear hrs
      change Fm.holds _ _ (lk [.i s0, .i s1, .i s2, .i fl, .i dir, .b r5, .b r6, .i r7, .i r8])
      suffices hfin : ((if (if (!r6) = true then (r7 == (0 : Int)) else false) = true then (r8 == (0 : Int)) else false)) = (true) from (c_b hfin rfl)
      -- leaf 3 (ret)
      have hok : okP fl dir = false := by
        rw [okP_niff]; simp at c4; omega
      simp [hr6, hr7, hr8, stopP, dirP, moveP, hok]
end Go.Proofs.YtppnpmpocnpgaaaDoor
