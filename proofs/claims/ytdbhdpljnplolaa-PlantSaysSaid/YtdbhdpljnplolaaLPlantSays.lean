import Derived.Test.YtdbhdpljnplolaaVPlantSays
namespace Go.Proofs.Ytdbhdpljnplolaa
open Go.Vg
set_option linter.unusedVariables false
set_option linter.unusedSimpArgs false


theorem PlantSays_sound : C_PlantSays.Sound Try.prog G 10 := by
  refine fn_ok mixed stable tbl_PlantSays [] Try.func10 (by kernel_rfl) phi_PlantSays vc_PlantSays ⟨first12_sound, valid_sound, top_sound, go_sound, level_sound, floor_sound, right_sound, rgo_sound, rvalid_sound, rtop_sound, rlevel_sound, rfloor_sound, rright_sound, trivial⟩ (fun _ _ _ => False) (fun _ _ _ => 0) ?_
  intro ls hp
  obtain ⟨hc, hf, hs, hd, p, m, sp, sdir, sdo, srl, rfl, hpre⟩ := PlantSays_pre hp
  clear hp
  rw [envOf_lk]
  unfold phi_PlantSays
  refine vg_call (C := C_first12) rfl rfl (xs := []) rfl (fun hg => ?_) (fun rs hrs => ?_)
  ·
    exact trivial
  obtain ⟨r10, hr10, rfl⟩ := first12_res hrs
  clear hrs
  change Fm.holds _ _ (lk [.i hc, .i hf, .i hs, .i hd, .i p, .i m, .i sp, .i sdir, .i sdo, .b srl, .b r10])
  refine ⟨fun hcond => ?_, fun hcond => ?_⟩
  ·
    have c1 : r10 = false := hcond
    clear hcond
    suffices hfin : (false) = (true) from (c_b hfin rfl)
    -- leaf 1 (ret)
    subst_vars
    simp at *
  ·
    have c2 : r10 = true := hcond
    clear hcond
    refine vg_call (C := C_go) rfl rfl (xs := [.i hc, .i hf, .i hs, .i hd, .i p, .i m]) rfl (fun hg => ?_) (fun rs hrs => ?_)
    ·
      exact trivial
    obtain ⟨r11, r12, hr11, hr12, rfl⟩ := go_res hrs
    clear hrs
    change Fm.holds _ _ (lk [.i hc, .i hf, .i hs, .i hd, .i p, .i m, .i sp, .i sdir, .i sdo, .b srl, .b r10, .i r11, .b r12])
    refine vg_call (C := C_rgo) rfl rfl (xs := [.i hc, .i hf, .i hs, .i hd, .i p, .i m]) rfl (fun hg => ?_) (fun rs hrs => ?_)
    ·
      exact trivial
    obtain ⟨r13, r14, hr13, hr14, rfl⟩ := rgo_res hrs
    clear hrs
    change Fm.holds _ _ (lk [.i hc, .i hf, .i hs, .i hd, .i p, .i m, .i sp, .i sdir, .i sdo, .b srl, .b r10, .i r11, .b r12, .i r13, .b r14])
    refine vg_call (C := C_valid) rfl rfl (xs := [.i hc, .i hf, .i hs, .i hd]) rfl (fun hg => ?_) (fun rs hrs => ?_)
    ·
      exact trivial
    obtain ⟨r15, hr15, rfl⟩ := valid_res hrs
    clear hrs
    change Fm.holds _ _ (lk [.i hc, .i hf, .i hs, .i hd, .i p, .i m, .i sp, .i sdir, .i sdo, .b srl, .b r10, .i r11, .b r12, .i r13, .b r14, .b r15])
    refine vg_call (C := C_rvalid) rfl rfl (xs := [.i hc, .i hf, .i hs, .i hd]) rfl (fun hg => ?_) (fun rs hrs => ?_)
    ·
      exact trivial
    obtain ⟨r16, hr16, rfl⟩ := rvalid_res hrs
    clear hrs
    change Fm.holds _ _ (lk [.i hc, .i hf, .i hs, .i hd, .i p, .i m, .i sp, .i sdir, .i sdo, .b srl, .b r10, .i r11, .b r12, .i r13, .b r14, .b r15, .b r16])
    refine vg_call (C := C_top) rfl rfl (xs := [.i hc, .i hf, .i hs, .i hd]) rfl (fun hg => ?_) (fun rs hrs => ?_)
    ·
      exact trivial
    obtain ⟨r17, hr17, rfl⟩ := top_res hrs
    clear hrs
    change Fm.holds _ _ (lk [.i hc, .i hf, .i hs, .i hd, .i p, .i m, .i sp, .i sdir, .i sdo, .b srl, .b r10, .i r11, .b r12, .i r13, .b r14, .b r15, .b r16, .i r17])
    refine vg_call (C := C_rtop) rfl rfl (xs := [.i hc, .i hf, .i hs, .i hd]) rfl (fun hg => ?_) (fun rs hrs => ?_)
    ·
      exact trivial
    obtain ⟨r18, hr18, rfl⟩ := rtop_res hrs
    clear hrs
    change Fm.holds _ _ (lk [.i hc, .i hf, .i hs, .i hd, .i p, .i m, .i sp, .i sdir, .i sdo, .b srl, .b r10, .i r11, .b r12, .i r13, .b r14, .b r15, .b r16, .i r17, .i r18])
    refine vg_call (C := C_level) rfl rfl (xs := [.i hc, .i hf, .i hs, .i hd, .i p]) rfl (fun hg => ?_) (fun rs hrs => ?_)
    ·
      exact trivial
    obtain ⟨r19, hr19, rfl⟩ := level_res hrs
    clear hrs
    change Fm.holds _ _ (lk [.i hc, .i hf, .i hs, .i hd, .i p, .i m, .i sp, .i sdir, .i sdo, .b srl, .b r10, .i r11, .b r12, .i r13, .b r14, .b r15, .b r16, .i r17, .i r18, .b r19])
    refine vg_call (C := C_rlevel) rfl rfl (xs := [.i hc, .i hf, .i hs, .i hd, .i p]) rfl (fun hg => ?_) (fun rs hrs => ?_)
    ·
      exact trivial
    obtain ⟨r20, hr20, rfl⟩ := rlevel_res hrs
    clear hrs
    change Fm.holds _ _ (lk [.i hc, .i hf, .i hs, .i hd, .i p, .i m, .i sp, .i sdir, .i sdo, .b srl, .b r10, .i r11, .b r12, .i r13, .b r14, .b r15, .b r16, .i r17, .i r18, .b r19, .b r20])
    refine vg_call (C := C_floor) rfl rfl (xs := [.i hc, .i hf, .i hs, .i hd, .i p]) rfl (fun hg => ?_) (fun rs hrs => ?_)
    ·
      exact trivial
    obtain ⟨r21, hr21, rfl⟩ := floor_res hrs
    clear hrs
    change Fm.holds _ _ (lk [.i hc, .i hf, .i hs, .i hd, .i p, .i m, .i sp, .i sdir, .i sdo, .b srl, .b r10, .i r11, .b r12, .i r13, .b r14, .b r15, .b r16, .i r17, .i r18, .b r19, .b r20, .i r21])
    refine vg_call (C := C_rfloor) rfl rfl (xs := [.i hc, .i hf, .i hs, .i hd, .i p]) rfl (fun hg => ?_) (fun rs hrs => ?_)
    ·
      exact trivial
    obtain ⟨r22, hr22, rfl⟩ := rfloor_res hrs
    clear hrs
    change Fm.holds _ _ (lk [.i hc, .i hf, .i hs, .i hd, .i p, .i m, .i sp, .i sdir, .i sdo, .b srl, .b r10, .i r11, .b r12, .i r13, .b r14, .b r15, .b r16, .i r17, .i r18, .b r19, .b r20, .i r21, .i r22])
    refine vg_call (C := C_right) rfl rfl (xs := [.i hc, .i hf, .i hs, .i hd, .i sp, .i sdir, .i sdo, .b srl]) rfl (fun hg => ?_) (fun rs hrs => ?_)
    ·
      exact trivial
    obtain ⟨r23, hr23, rfl⟩ := right_res hrs
    clear hrs
    change Fm.holds _ _ (lk [.i hc, .i hf, .i hs, .i hd, .i p, .i m, .i sp, .i sdir, .i sdo, .b srl, .b r10, .i r11, .b r12, .i r13, .b r14, .b r15, .b r16, .i r17, .i r18, .b r19, .b r20, .i r21, .i r22, .b r23])
    refine vg_call (C := C_rright) rfl rfl (xs := [.i hc, .i hf, .i hs, .i hd, .i sp, .i sdir, .i sdo, .b srl]) rfl (fun hg => ?_) (fun rs hrs => ?_)
    ·
      exact trivial
    obtain ⟨r24, hr24, rfl⟩ := rright_res hrs
    clear hrs
    change Fm.holds _ _ (lk [.i hc, .i hf, .i hs, .i hd, .i p, .i m, .i sp, .i sdir, .i sdo, .b srl, .b r10, .i r11, .b r12, .i r13, .b r14, .b r15, .b r16, .i r17, .i r18, .b r19, .b r20, .i r21, .i r22, .b r23, .b r24])
    suffices hfin : ((if (if (if (if (if (if (if r10 = true then (r15 == r16) else false) = true then (r17 == r18) else false) = true then (r19 == r20) else false) = true then (r21 == r22) else false) = true then (r12 == r14) else false) = true then (r11 == r13) else false) = true then (r23 == r24) else false)) = (true) from (c_b hfin rfl)
    -- leaf 2 (ret)
    subst_vars
    simp at *
end Go.Proofs.Ytdbhdpljnplolaa
