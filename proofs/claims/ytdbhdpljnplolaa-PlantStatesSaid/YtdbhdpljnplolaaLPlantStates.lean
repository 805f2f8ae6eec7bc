import Derived.Test.YtdbhdpljnplolaaVPlantStates
namespace Go.Proofs.Ytdbhdpljnplolaa
open Go.Vg
set_option linter.unusedVariables false
set_option linter.unusedSimpArgs false


theorem PlantStates_sound : C_PlantStates.Sound Try.prog G 9 := by
  refine fn_ok mixed stable tbl_PlantStates [] Try.func9 (by kernel_rfl) phi_PlantStates vc_PlantStates ⟨first12_sound, valid_sound, top_sound, level_sound, number_sound, floor_sound, right_sound, trivial⟩ (fun _ _ _ => False) (fun _ _ _ => 0) ?_
  intro ls hp
  obtain ⟨hc, hf, hs, hd, p, dir, door, rl, rfl, hpre⟩ := PlantStates_pre hp
  clear hp
  rw [envOf_lk]
  unfold phi_PlantStates
  refine vg_call (C := C_first12) rfl rfl (xs := []) rfl (fun hg => ?_) (fun rs hrs => ?_)
  ·
    exact trivial
  obtain ⟨r8, hr8, rfl⟩ := first12_res hrs
  clear hrs
  change Fm.holds _ _ (lk [.i hc, .i hf, .i hs, .i hd, .i p, .i dir, .i door, .b rl, .b r8])
  refine ⟨fun hcond => ?_, fun hcond => ?_⟩
  ·
    have c1 : r8 = false := hcond
    clear hcond
    suffices hfin : (false) = (true) from (c_b hfin rfl)
    -- leaf 1 (ret)
    simp_all
  ·
    have c2 : r8 = true := hcond
    clear hcond
    refine vg_call (C := C_valid) rfl rfl (xs := [.i hc, .i hf, .i hs, .i hd]) rfl (fun hg => ?_) (fun rs hrs => ?_)
    ·
      exact trivial
    obtain ⟨r9, hr9, rfl⟩ := valid_res hrs
    clear hrs
    change Fm.holds _ _ (lk [.i hc, .i hf, .i hs, .i hd, .i p, .i dir, .i door, .b rl, .b r8, .b r9])
    refine ⟨fun hcond => ?_, fun hcond => ?_⟩
    ·
      have c3 : r9 = false := hcond
      clear hcond
      refine vg_call (C := C_right) rfl rfl (xs := [.i hc, .i hf, .i hs, .i hd, .i (0 : Int), .i (0 : Int), .i (0 : Int), .b false]) rfl (fun hg => ?_) (fun rs hrs => ?_)
      ·
        exact trivial
      obtain ⟨r10, hr10, rfl⟩ := right_res hrs
      clear hrs
      change Fm.holds _ _ (lk [.i hc, .i hf, .i hs, .i hd, .i p, .i dir, .i door, .b rl, .b r8, .b r9, .b r10])
      refine vg_call (C := C_top) rfl rfl (xs := [.i hc, .i hf, .i hs, .i hd]) rfl (fun hg => ?_) (fun rs hrs => ?_)
      ·
        exact trivial
      obtain ⟨r11, hr11, rfl⟩ := top_res hrs
      clear hrs
      change Fm.holds _ _ (lk [.i hc, .i hf, .i hs, .i hd, .i p, .i dir, .i door, .b rl, .b r8, .b r9, .b r10, .i r11])
      refine vg_call (C := C_level) rfl rfl (xs := [.i hc, .i hf, .i hs, .i hd, .i (0 : Int)]) rfl (fun hg => ?_) (fun rs hrs => ?_)
      ·
        exact trivial
      obtain ⟨r12, hr12, rfl⟩ := level_res hrs
      clear hrs
      change Fm.holds _ _ (lk [.i hc, .i hf, .i hs, .i hd, .i p, .i dir, .i door, .b rl, .b r8, .b r9, .b r10, .i r11, .b r12])
      suffices hfin : ((if (if (if r8 = true then (!r10) else false) = true then (r11 == (0 : Int)) else false) = true then (!r12) else false)) = (true) from (c_b hfin rfl)
      -- leaf 2 (ret)
      rw [c3] at hr9
      subst hr8 hr10 hr11 hr12
      simp [right, top, level, ← hr9]
    ·
      have c4 : r9 = true := hcond
      clear hcond
      have hv : valid hc hf hs hd = true := by rw [← hr9]; exact c4
      have hV := valid_iff.1 hv
      have hT := top_range hc hf hs hd
      refine vg_call (C := C_top) rfl rfl (xs := [.i hc, .i hf, .i hs, .i hd]) rfl (fun hg => ?_) (fun rs hrs => ?_)
      ·
        exact trivial
      obtain ⟨r10, hr10, rfl⟩ := top_res hrs
      clear hrs
      change Fm.holds _ _ (lk [.i hc, .i hf, .i hs, .i hd, .i p, .i dir, .i door, .b rl, .b r8, .b r9, .i r10])
      have e1' : IntKind.wrap .i64 (r10 + 1) = r10 + 1 := wrap_in (by omega) (by omega)
      have e1 : IntKind.wrap .i64 (top hc hf hs hd + 1) = top hc hf hs hd + 1 := wrap_in (by omega) (by omega)
      have e2 : IntKind.wrap .i64 (hd + 2) = hd + 2 := wrap_in (by omega) (by omega)
      refine vg_call (C := C_number) rfl rfl (xs := [.i p, .i (IntKind.wrap .i64 (r10 + (1 : Int)))]) rfl (fun hg => ?_) (fun rs hrs => ?_)
      ·
        refine number_mk ?_
        -- leaf 3 (pre)
        rw [e1']; omega
      obtain ⟨r11, hr11, rfl⟩ := number_res hrs
      clear hrs
      change Fm.holds _ _ (lk [.i hc, .i hf, .i hs, .i hd, .i p, .i dir, .i door, .b rl, .b r8, .b r9, .i r10, .i r11])
      refine vg_call (C := C_number) rfl rfl (xs := [.i dir, .i (3 : Int)]) rfl (fun hg => ?_) (fun rs hrs => ?_)
      ·
        refine number_mk ?_
        -- leaf 4 (pre)
        omega
      obtain ⟨r12, hr12, rfl⟩ := number_res hrs
      clear hrs
      change Fm.holds _ _ (lk [.i hc, .i hf, .i hs, .i hd, .i p, .i dir, .i door, .b rl, .b r8, .b r9, .i r10, .i r11, .i r12])
      refine vg_call (C := C_number) rfl rfl (xs := [.i door, .i (IntKind.wrap .i64 (hd + (2 : Int)))]) rfl (fun hg => ?_) (fun rs hrs => ?_)
      ·
        refine number_mk ?_
        -- leaf 5 (pre)
        rw [e2]; omega
      obtain ⟨r13, hr13, rfl⟩ := number_res hrs
      clear hrs
      change Fm.holds _ _ (lk [.i hc, .i hf, .i hs, .i hd, .i p, .i dir, .i door, .b rl, .b r8, .b r9, .i r10, .i r11, .i r12, .i r13])
      refine ⟨fun hg => ?_, ?_⟩
      ·
        show (!(hs == (0 : Int))) = true
        -- leaf 6 (ob)
        simp; omega
      refine vg_call (C := C_top) rfl rfl (xs := [.i hc, .i hf, .i hs, .i hd]) rfl (fun hg => ?_) (fun rs hrs => ?_)
      ·
        exact trivial
      obtain ⟨r14, hr14, rfl⟩ := top_res hrs
      clear hrs
      change Fm.holds _ _ (lk [.i hc, .i hf, .i hs, .i hd, .i p, .i dir, .i door, .b rl, .b r8, .b r9, .i r10, .i r11, .i r12, .i r13, .i r14])
      refine vg_call (C := C_right) rfl rfl (xs := [.i hc, .i hf, .i hs, .i hd, .i r11, .i (IntKind.wrap .i64 (r12 - (1 : Int))), .i r13, .b rl]) rfl (fun hg => ?_) (fun rs hrs => ?_)
      ·
        exact trivial
      obtain ⟨r15, hr15, rfl⟩ := right_res hrs
      clear hrs
      change Fm.holds _ _ (lk [.i hc, .i hf, .i hs, .i hd, .i p, .i dir, .i door, .b rl, .b r8, .b r9, .i r10, .i r11, .i r12, .i r13, .i r14, .b r15])
      refine vg_call (C := C_right) rfl rfl (xs := [.i hc, .i hf, .i hs, .i hd, .i (IntKind.wrap .i64 (r14 + (1 : Int))), .i (IntKind.wrap .i64 (r12 - (1 : Int))), .i r13, .b rl]) rfl (fun hg => ?_) (fun rs hrs => ?_)
      ·
        exact trivial
      obtain ⟨r16, hr16, rfl⟩ := right_res hrs
      clear hrs
      change Fm.holds _ _ (lk [.i hc, .i hf, .i hs, .i hd, .i p, .i dir, .i door, .b rl, .b r8, .b r9, .i r10, .i r11, .i r12, .i r13, .i r14, .b r15, .b r16])
      refine vg_call (C := C_right) rfl rfl (xs := [.i hc, .i hf, .i hs, .i hd, .i (-1), .i (IntKind.wrap .i64 (r12 - (1 : Int))), .i r13, .b rl]) rfl (fun hg => ?_) (fun rs hrs => ?_)
      ·
        exact trivial
      obtain ⟨r17, hr17, rfl⟩ := right_res hrs
      clear hrs
      change Fm.holds _ _ (lk [.i hc, .i hf, .i hs, .i hd, .i p, .i dir, .i door, .b rl, .b r8, .b r9, .i r10, .i r11, .i r12, .i r13, .i r14, .b r15, .b r16, .b r17])
      refine vg_call (C := C_level) rfl rfl (xs := [.i hc, .i hf, .i hs, .i hd, .i r11]) rfl (fun hg => ?_) (fun rs hrs => ?_)
      ·
        exact trivial
      obtain ⟨r18, hr18, rfl⟩ := level_res hrs
      clear hrs
      change Fm.holds _ _ (lk [.i hc, .i hf, .i hs, .i hd, .i p, .i dir, .i door, .b rl, .b r8, .b r9, .i r10, .i r11, .i r12, .i r13, .i r14, .b r15, .b r16, .b r17, .b r18])
      refine vg_call (C := C_floor) rfl rfl (xs := [.i hc, .i hf, .i hs, .i hd, .i r11]) rfl (fun hg => ?_) (fun rs hrs => ?_)
      ·
        exact trivial
      obtain ⟨r19, hr19, rfl⟩ := floor_res hrs
      clear hrs
      change Fm.holds _ _ (lk [.i hc, .i hf, .i hs, .i hd, .i p, .i dir, .i door, .b rl, .b r8, .b r9, .i r10, .i r11, .i r12, .i r13, .i r14, .b r15, .b r16, .b r17, .b r18, .i r19])
      refine vg_call (C := C_floor) rfl rfl (xs := [.i hc, .i hf, .i hs, .i hd, .i (-9)]) rfl (fun hg => ?_) (fun rs hrs => ?_)
      ·
        exact trivial
      obtain ⟨r20, hr20, rfl⟩ := floor_res hrs
      clear hrs
      change Fm.holds _ _ (lk [.i hc, .i hf, .i hs, .i hd, .i p, .i dir, .i door, .b rl, .b r8, .b r9, .i r10, .i r11, .i r12, .i r13, .i r14, .b r15, .b r16, .b r17, .b r18, .i r19, .i r20])
      refine vg_call (C := C_floor) rfl rfl (xs := [.i hc, .i hf, .i hs, .i hd, .i (9999 : Int)]) rfl (fun hg => ?_) (fun rs hrs => ?_)
      ·
        exact trivial
      obtain ⟨r21, hr21, rfl⟩ := floor_res hrs
      clear hrs
      change Fm.holds _ _ (lk [.i hc, .i hf, .i hs, .i hd, .i p, .i dir, .i door, .b rl, .b r8, .b r9, .i r10, .i r11, .i r12, .i r13, .i r14, .b r15, .b r16, .b r17, .b r18, .i r19, .i r20, .i r21])
      suffices hfin : ((if (if (if (if (if (if (if r8 = true then (r15 == (if (if (decide (r13 ≤ hd)) = true then (if (r13 == (0 : Int)) = true then true else (if ((Int.tmod r11 hs) == (0 : Int)) = true then (!rl) else false)) else false) = true then (if (if ((Int.tmod r11 hs) == (0 : Int)) = true then true else (!((IntKind.wrap .i64 (r12 - (1 : Int))) == (0 : Int)))) = true then true else rl) else false)) else false) = true then (!r16) else false) = true then (!r17) else false) = true then (r18 == ((Int.tmod r11 hs) == (0 : Int))) else false) = true then (r19 == (IntKind.wrap .i64 (Int.tdiv r11 hs))) else false) = true then (r20 == (0 : Int)) else false) = true then (r21 == (IntKind.wrap .i64 (hf - (1 : Int)))) else false)) = (true) from (c_b hfin rfl)
      -- leaf 7 (ret)
      rw [e1', hr10] at hr11
      rw [e2] at hr13
      have n1 := number_range p (b := top hc hf hs hd + 1) (by omega)
      have n2 := number_range dir (b := 3) (by omega)
      have n3 := number_range door (b := hd + 2) (by omega)
      rw [← hr11] at n1
      rw [← hr12] at n2
      rw [← hr13] at n3
      clear hr11 hr12 hr13
      have e3 : IntKind.wrap .i64 (r12 - 1) = r12 - 1 := wrap_in (by omega) (by omega)
      have hlv := level_up hv n1.1 (show r11 ≤ top hc hf hs hd by omega)
      have e4 := tmod_emod (p := r11) (s := hs) (by omega)
      have e5 := tdiv_ediv (p := r11) (s := hs) (by omega)
      have hdr := div_range (p := r11) (s := hs) (by omega) (by omega) (by omega)
      have e6 : IntKind.wrap .i64 (r11 / hs) = r11 / hs := wrap_in (by omega) (by omega)
      have e7 : IntKind.wrap .i64 (hf - 1) = hf - 1 := wrap_in (by omega) (by omega)
      subst hr14 hr8 hr10
      rw [e1] at hr16
      have hd5 := top_div hv
      have f1 : r19 = r11 / hs := by
        rw [hr19, floor, if_pos hv]
        have : min (max r11 0) (top hc hf hs hd) = r11 := by omega
        rw [this]
      have f2 : r20 = 0 := by
        rw [hr20, floor, if_pos hv]
        have : min (max (-9) 0) (top hc hf hs hd) = 0 := by omega
        rw [this, Int.zero_ediv]
      have f3 : r21 = hf - 1 := by
        rw [hr21, floor, if_pos hv]
        have : min (max 9999 0) (top hc hf hs hd) = top hc hf hs hd := by omega
        rw [this, hd5]
      have g1 : r16 = false := by
        rw [hr16, right]
        have : between (top hc hf hs hd + 1) 0 (top hc hf hs hd) = false := between_niff.2 (by omega)
        simp [this]
      have g2 : r17 = false := by
        rw [hr17, right]
        have : between (-1) 0 (top hc hf hs hd) = false := between_niff.2 (by omega)
        simp [this]
      have b1 : between r11 0 (top hc hf hs hd) = true := between_iff.2 (by omega)
      have b2 : between (r12 - 1) (-1) 1 = true := between_iff.2 (by omega)
      have b3 : between r13 0 hd = decide (r13 ≤ hd) := by simp [between]; omega
      have g3 : r15 = (decide (r13 ≤ hd) && !(decide (0 < r13) && (!(decide (r11 % hs = 0)) || rl)) && (decide (r11 % hs = 0) || decide (r12 - 1 ≠ 0) || rl)) := by
        rw [hr15, e3, right, hv, b1, b2, b3, hlv]
        simp only [Bool.true_and]
      have g4 : r18 = decide (r11 % hs = 0) := by rw [hr18, hlv]
      rw [g3, g1, g2, f1, f2, f3, g4, e3, e4, e5, e6, e7]
      have h0 : (r13 == (0 : Int)) = !(decide (0 < r13)) := by
        rw [Bool.eq_iff_iff]; simp; omega
      rw [h0]
      have h1 : (r11 % hs == (0 : Int)) = decide (r11 % hs = 0) := rfl
      have h2 : (r12 - 1 == (0 : Int)) = !(decide (r12 - 1 ≠ 0)) := by
        rw [Bool.eq_iff_iff]; simp
      rw [h1, h2]
      generalize decide (r11 % hs = 0) = a
      generalize decide (r12 - 1 ≠ 0) = b
      generalize decide (0 < r13) = c
      generalize decide (r13 ≤ hd) = d
      cases a <;> cases b <;> cases c <;> cases d <;> cases rl <;> simp
end Go.Proofs.Ytdbhdpljnplolaa
