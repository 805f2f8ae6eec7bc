import Derived.Test.YtdbhdpljnplolaaVPlantGoes
namespace Go.Proofs.Ytdbhdpljnplolaa
open Go.Vg
set_option linter.unusedVariables false
set_option linter.unusedSimpArgs false


theorem PlantGoes_sound : C_PlantGoes.Sound Try.prog G 8 := by
  refine fn_ok mixed stable tbl_PlantGoes [⟨8, [6, 10, 11, 12, 13, 14, 32, 33, 34, 35, 36, 37, 38, 39, 40, 41, 42, 43, 44, 45, 46, 47, 48, 49, 50, 51, 52, 53, 54, 55, 56, 57, 58, 59, 60, 61, 62, 63, 64, 65, 66, 67, 68, 69, 70, 71, 72, 73, 74, 75, 76, 77, 78, 79, 80, 81, 82, 83, 84, 85, 86, 87, 88, 89, 90, 91, 92, 93, 94, 95, 96, 97, 98, 99, 100, 101, 102, 103, 104, 105, 106, 107, 108, 109, 110, 111, 112, 113, 114, 115, 116, 117, 118, 119, 120], [8, 9], [], [0, 1, 2, 3, 4]⟩] Try.func8 (by kernel_rfl) phi_PlantGoes vc_PlantGoes ⟨first12_sound, valid_sound, top_sound, go_sound, level_sound, number_sound, floor_sound, trivial⟩ inv_PlantGoes meas_PlantGoes ?_
  intro ls hp
  obtain ⟨hc, hf, hs, hd, l, fr, rfl, hpre⟩ := PlantGoes_pre hp
  clear hp
  rw [envOf_lk]
  unfold phi_PlantGoes
  refine vg_call (C := C_first12) rfl rfl (xs := []) rfl (fun hg => ?_) (fun rs hrs => ?_)
  ·
    exact trivial
  obtain ⟨r6, hr6, rfl⟩ := first12_res hrs
  clear hrs
  change Fm.holds _ _ (lk [.i hc, .i hf, .i hs, .i hd, .l l, .i fr, .b r6])
  refine ⟨fun hcond => ?_, fun hcond => ?_⟩
  ·
    have c1 : r6 = false := hcond
    clear hcond
    suffices hfin : (false) = (true) from (c_b hfin rfl)
    -- leaf 1 (ret)
    simp_all
  ·
    have c2 : r6 = true := hcond
    clear hcond
    refine vg_call (C := C_valid) rfl rfl (xs := [.i hc, .i hf, .i hs, .i hd]) rfl (fun hg => ?_) (fun rs hrs => ?_)
    ·
      exact trivial
    obtain ⟨r7, hr7, rfl⟩ := valid_res hrs
    clear hrs
    change Fm.holds _ _ (lk [.i hc, .i hf, .i hs, .i hd, .l l, .i fr, .b r6, .b r7])
    refine ⟨fun hcond => ?_, fun hcond => ?_⟩
    ·
      have c3 : (if (!r7) = true then true else (decide ((60 : Int) < (l.len : Int)))) = true := hcond
      clear hcond
      suffices hfin : (r6) = (true) from (c_b hfin rfl)
      -- leaf 2 (ret)
      simp_all
    ·
      have c4 : (if (!r7) = true then true else (decide ((60 : Int) < (l.len : Int)))) = false := hcond
      clear hcond
      have hv : valid hc hf hs hd = true := by
        rw [← hr7]
        revert c4
        cases r7 <;> simp
      have hV := valid_iff.1 hv
      have hT := top_range hc hf hs hd
      have hTe := top_eq hv
      have hL : ¬ (60 : Int) < (l.len : Int) := by
        revert c4
        cases r7 <;> simp
      refine vg_call (C := C_top) rfl rfl (xs := [.i hc, .i hf, .i hs, .i hd]) rfl (fun hg => ?_) (fun rs hrs => ?_)
      ·
        exact trivial
      obtain ⟨r8, hr8, rfl⟩ := top_res hrs
      clear hrs
      change Fm.holds _ _ (lk [.i hc, .i hf, .i hs, .i hd, .l l, .i fr, .b r6, .b r7, .i r8])
      have e1 : IntKind.wrap .i64 (r8 + 1) = r8 + 1 := wrap_in (by omega) (by omega)
      refine vg_call (C := C_number) rfl rfl (xs := [.i fr, .i (IntKind.wrap .i64 (r8 + (1 : Int)))]) rfl (fun hg => ?_) (fun rs hrs => ?_)
      ·
        refine number_mk ?_
        -- leaf 3 (pre)
        rw [e1]; omega
      obtain ⟨r9, hr9, rfl⟩ := number_res hrs
      clear hrs
      change Fm.holds _ _ (lk [.i hc, .i hf, .i hs, .i hd, .l l, .i fr, .b r6, .b r7, .i r8, .i r9])
      refine vg_loop rfl ?_ (fun xs hfit hi => ?_)
      ·
        show inv_PlantGoes_8 hc hf hs hd l r9 (0 : Int)
        -- leaf 4 (init)
        rw [e1] at hr9
        have n0 := number_range fr (b := r8 + 1) (by omega)
        rw [← hr9] at n0
        exact ⟨by omega, by omega, by omega, by omega⟩
      obtain ⟨x10, xs0, rfl, hfit0⟩ := fits_i hfit
      obtain ⟨x11, xs1, rfl, hfit1⟩ := fits_i hfit0
      obtain rfl := fits_nil hfit1
      clear hfit hfit0 hfit1
      replace hi : inv_PlantGoes_8 hc hf hs hd l x10 x11 := hi
      have hi8 := hi; clear hi
      change Fm.holds _ _ (lk [.i hc, .i hf, .i hs, .i hd, .l l, .i fr, .b r6, .b r7, .i r8, .i r9, .i x10, .i x11])
      obtain ⟨i0, i1, i2, i3⟩ := hi8
      have e2 : IntKind.wrap .i64 (x11 + 1) = x11 + 1 := wrap_in (by omega) (by omega)
      refine ⟨fun hcond => ?_, fun hcond => ?_⟩
      ·
        have c5 : (decide (x11 < (l.len : Int))) = true := hcond
        clear hcond
        refine ⟨fun hg => ?_, ?_⟩
        ·
          show (decide ((0 : Int) ≤ x11)) = true
          -- leaf 5 (ob)
          simp; omega
        refine vg_call (C := C_number) rfl rfl (xs := [.i (l.gi (Int.toNat x11) 0), .i (3 : Int)]) rfl (fun hg => ?_) (fun rs hrs => ?_)
        ·
          refine number_mk ?_
          -- leaf 6 (pre)
          omega
        obtain ⟨r12, hr12, rfl⟩ := number_res hrs
        clear hrs
        change Fm.holds _ _ (lk [.i hc, .i hf, .i hs, .i hd, .l l, .i fr, .b r6, .b r7, .i r8, .i r9, .i x10, .i x11, .i r12])
        have n1 := number_range (l.gi (Int.toNat x11) 0) (b := 3) (by omega)
        rw [← hr12] at n1
        have e3 : IntKind.wrap .i64 (r12 - 1) = r12 - 1 := wrap_in (by omega) (by omega)
        have e4 : IntKind.wrap .i64 (x10 + (r12 - 1)) = x10 + (r12 - 1) := wrap_in (by omega) (by omega)
        have ek : clampM (r12 - 1) = r12 - 1 := by unfold clampM; omega
        refine vg_call (C := C_go) rfl rfl (xs := [.i hc, .i hf, .i hs, .i hd, .i x10, .i (IntKind.wrap .i64 (r12 - (1 : Int)))]) rfl (fun hg => ?_) (fun rs hrs => ?_)
        ·
          exact trivial
        obtain ⟨r13, r14, hr13, hr14, rfl⟩ := go_res hrs
        clear hrs
        change Fm.holds _ _ (lk [.i hc, .i hf, .i hs, .i hd, .l l, .i fr, .b r6, .b r7, .i r8, .i r9, .i x10, .i x11, .i r12, .i r13, .b r14])
        refine vg_call (C := C_top) rfl rfl (xs := [.i hc, .i hf, .i hs, .i hd]) rfl (fun hg => ?_) (fun rs hrs => ?_)
        ·
          exact trivial
        obtain ⟨r15, hr15, rfl⟩ := top_res hrs
        clear hrs
        change Fm.holds _ _ (lk [.i hc, .i hf, .i hs, .i hd, .l l, .i fr, .b r6, .b r7, .i r8, .i r9, .i x10, .i x11, .i r12, .i r13, .b r14, .i r15])
        rw [e3] at hr13 hr14
        have hgo : (r14 = true ∧ r13 = x10 + (r12 - 1) ∧ 0 ≤ x10 + (r12 - 1) ∧ x10 + (r12 - 1) ≤ top hc hf hs hd) ∨ (r14 = false ∧ (x10 + (r12 - 1) < 0 ∨ top hc hf hs hd < x10 + (r12 - 1))) := by
          by_cases ho : x10 + (r12 - 1) < 0 ∨ top hc hf hs hd < x10 + (r12 - 1)
          · have := go_out (c := hc) (f := hf) (s := hs) (d := hd) (p := x10) (m := r12 - 1) (by rw [ek]; exact ho)
            exact .inr ⟨hr14.trans this, ho⟩
          · have := go_in hv (p := x10) (m := r12 - 1) i2 i3 (by rw [ek]; omega) (by rw [ek]; omega)
            exact .inl ⟨hr14.trans this.1, by rw [hr13, this.2, ek], by omega, by omega⟩
        refine ⟨fun hcond => ?_, fun hcond => ?_⟩
        ·
          have c6 : (if (r14 == (if (decide ((IntKind.wrap .i64 (x10 + (IntKind.wrap .i64 (r12 - (1 : Int))))) < (0 : Int))) = true then true else (decide (r15 < (IntKind.wrap .i64 (x10 + (IntKind.wrap .i64 (r12 - (1 : Int))))))))) = true then true else (if r14 = true then (!(r13 == (IntKind.wrap .i64 (x10 + (IntKind.wrap .i64 (r12 - (1 : Int))))))) else false)) = true := hcond
          clear hcond
          suffices hfin : (false) = (true) from (c_b hfin rfl)
          -- leaf 7 (ret)
          rw [e3, e4] at c6
          rcases hgo with ⟨g1, g2, g3, g4⟩ | ⟨g1, g2⟩
          · have t1 : ¬ x10 + (r12 - 1) < 0 := by omega
            have t2 : ¬ top hc hf hs hd < x10 + (r12 - 1) := by omega
            simp [g1, g2, hr15, t1, t2] at c6
          · rcases g2 with g2 | g2 <;> simp [g1, g2, hr15] at c6
        ·
          have c7 : (if (r14 == (if (decide ((IntKind.wrap .i64 (x10 + (IntKind.wrap .i64 (r12 - (1 : Int))))) < (0 : Int))) = true then true else (decide (r15 < (IntKind.wrap .i64 (x10 + (IntKind.wrap .i64 (r12 - (1 : Int))))))))) = true then true else (if r14 = true then (!(r13 == (IntKind.wrap .i64 (x10 + (IntKind.wrap .i64 (r12 - (1 : Int))))))) else false)) = false := hcond
          clear hcond
          refine ⟨fun hcond => ?_, fun hcond => ?_⟩
          ·
            have c8 : r14 = true := hcond
            clear hcond
            have hgp : 0 ≤ r13 ∧ r13 ≤ top hc hf hs hd := by
              rcases hgo with h | h
              · omega
              · rw [h.1] at c8; exact absurd c8 (by decide)
            have ff := floor_facts hv hgp.1 hgp.2
            refine vg_call (C := C_floor) rfl rfl (xs := [.i hc, .i hf, .i hs, .i hd, .i r13]) rfl (fun hg => ?_) (fun rs hrs => ?_)
            ·
              exact trivial
            obtain ⟨r16, hr16, rfl⟩ := floor_res hrs
            clear hrs
            change Fm.holds _ _ (lk [.i hc, .i hf, .i hs, .i hd, .l l, .i fr, .b r6, .b r7, .i r8, .i r9, .i x10, .i x11, .i r12, .i r13, .b r14, .i r15, .i r16])
            refine vg_call (C := C_level) rfl rfl (xs := [.i hc, .i hf, .i hs, .i hd, .i r13]) rfl (fun hg => ?_) (fun rs hrs => ?_)
            ·
              exact trivial
            obtain ⟨r17, hr17, rfl⟩ := level_res hrs
            clear hrs
            change Fm.holds _ _ (lk [.i hc, .i hf, .i hs, .i hd, .l l, .i fr, .b r6, .b r7, .i r8, .i r9, .i x10, .i x11, .i r12, .i r13, .b r14, .i r15, .i r16, .b r17])
            refine ⟨fun hcond => ?_, fun hcond => ?_⟩
            ·
              have c9 : (if (if (if (if (decide (r16 < (0 : Int))) = true then true else (decide (hf ≤ r16))) = true then true else (!(r17 == ((IntKind.wrap .i64 (r16 * hs)) == r13)))) = true then true else (decide ((IntKind.wrap .i64 (r13 - (IntKind.wrap .i64 (r16 * hs)))) < (0 : Int)))) = true then true else (decide (hs ≤ (IntKind.wrap .i64 (r13 - (IntKind.wrap .i64 (r16 * hs))))))) = true := hcond
              clear hcond
              suffices hfin : (false) = (true) from (c_b hfin rfl)
              -- leaf 8 (ret)
              have e5 : IntKind.wrap .i64 (r16 * hs) = r13 / hs * hs := by rw [hr16, ff.1]; exact wrap_in (by omega) (by omega)
              have e6 : IntKind.wrap .i64 (r13 - r13 / hs * hs) = r13 - r13 / hs * hs := wrap_in (by omega) (by omega)
              have hlv := level_up hv (j := r13) (by omega) (by omega)
              rw [ff.2.2.2.2.2.2] at hlv
              rw [e5, e6, hr17, hlv] at c9
              rw [hr16, ff.1] at c9
              have t1 : ¬ r13 / hs < 0 := by omega
              have t2 : ¬ hf ≤ r13 / hs := by omega
              have t3 : ¬ r13 - r13 / hs * hs < 0 := by omega
              have t4 : ¬ hs ≤ r13 - r13 / hs * hs := by omega
              simp [t1, t2, t3, t4] at c9
            ·
              have c10 : (if (if (if (if (decide (r16 < (0 : Int))) = true then true else (decide (hf ≤ r16))) = true then true else (!(r17 == ((IntKind.wrap .i64 (r16 * hs)) == r13)))) = true then true else (decide ((IntKind.wrap .i64 (r13 - (IntKind.wrap .i64 (r16 * hs)))) < (0 : Int)))) = true then true else (decide (hs ≤ (IntKind.wrap .i64 (r13 - (IntKind.wrap .i64 (r16 * hs))))))) = false := hcond
              clear hcond
              refine ⟨?_, ?_⟩
              ·
                show inv_PlantGoes_8 hc hf hs hd l r13 (IntKind.wrap .i64 (x11 + (1 : Int)))
                -- leaf 9 (back)
                have hlt := of_decide_eq_true c5
                rw [e2]
                exact ⟨by omega, by omega, by omega, by omega⟩
              ·
                show meas_PlantGoes_8 hc hf hs hd l r13 (IntKind.wrap .i64 (x11 + (1 : Int))) < meas_PlantGoes_8 hc hf hs hd l x10 x11
                -- leaf 10 (meas)
                have hlt := of_decide_eq_true c5
                unfold meas_PlantGoes_8
                rw [e2]
                omega
          ·
            have c11 : r14 = false := hcond
            clear hcond
            have ff := floor_facts hv i2 i3
            refine vg_call (C := C_floor) rfl rfl (xs := [.i hc, .i hf, .i hs, .i hd, .i x10]) rfl (fun hg => ?_) (fun rs hrs => ?_)
            ·
              exact trivial
            obtain ⟨r16, hr16, rfl⟩ := floor_res hrs
            clear hrs
            change Fm.holds _ _ (lk [.i hc, .i hf, .i hs, .i hd, .l l, .i fr, .b r6, .b r7, .i r8, .i r9, .i x10, .i x11, .i r12, .i r13, .b r14, .i r15, .i r16])
            refine vg_call (C := C_level) rfl rfl (xs := [.i hc, .i hf, .i hs, .i hd, .i x10]) rfl (fun hg => ?_) (fun rs hrs => ?_)
            ·
              exact trivial
            obtain ⟨r17, hr17, rfl⟩ := level_res hrs
            clear hrs
            change Fm.holds _ _ (lk [.i hc, .i hf, .i hs, .i hd, .l l, .i fr, .b r6, .b r7, .i r8, .i r9, .i x10, .i x11, .i r12, .i r13, .b r14, .i r15, .i r16, .b r17])
            refine ⟨fun hcond => ?_, fun hcond => ?_⟩
            ·
              have c12 : (if (if (if (if (decide (r16 < (0 : Int))) = true then true else (decide (hf ≤ r16))) = true then true else (!(r17 == ((IntKind.wrap .i64 (r16 * hs)) == x10)))) = true then true else (decide ((IntKind.wrap .i64 (x10 - (IntKind.wrap .i64 (r16 * hs)))) < (0 : Int)))) = true then true else (decide (hs ≤ (IntKind.wrap .i64 (x10 - (IntKind.wrap .i64 (r16 * hs))))))) = true := hcond
              clear hcond
              suffices hfin : (false) = (true) from (c_b hfin rfl)
              -- leaf 11 (ret)
              have e5 : IntKind.wrap .i64 (r16 * hs) = x10 / hs * hs := by rw [hr16, ff.1]; exact wrap_in (by omega) (by omega)
              have e6 : IntKind.wrap .i64 (x10 - x10 / hs * hs) = x10 - x10 / hs * hs := wrap_in (by omega) (by omega)
              have hlv := level_up hv (j := x10) (by omega) (by omega)
              rw [ff.2.2.2.2.2.2] at hlv
              rw [e5, e6, hr17, hlv] at c12
              rw [hr16, ff.1] at c12
              have t1 : ¬ x10 / hs < 0 := by omega
              have t2 : ¬ hf ≤ x10 / hs := by omega
              have t3 : ¬ x10 - x10 / hs * hs < 0 := by omega
              have t4 : ¬ hs ≤ x10 - x10 / hs * hs := by omega
              simp [t1, t2, t3, t4] at c12
            ·
              have c13 : (if (if (if (if (decide (r16 < (0 : Int))) = true then true else (decide (hf ≤ r16))) = true then true else (!(r17 == ((IntKind.wrap .i64 (r16 * hs)) == x10)))) = true then true else (decide ((IntKind.wrap .i64 (x10 - (IntKind.wrap .i64 (r16 * hs)))) < (0 : Int)))) = true then true else (decide (hs ≤ (IntKind.wrap .i64 (x10 - (IntKind.wrap .i64 (r16 * hs))))))) = false := hcond
              clear hcond
              refine ⟨?_, ?_⟩
              ·
                show inv_PlantGoes_8 hc hf hs hd l x10 (IntKind.wrap .i64 (x11 + (1 : Int)))
                -- leaf 12 (back)
                have hlt := of_decide_eq_true c5
                rw [e2]
                exact ⟨by omega, by omega, by omega, by omega⟩
              ·
                show meas_PlantGoes_8 hc hf hs hd l x10 (IntKind.wrap .i64 (x11 + (1 : Int))) < meas_PlantGoes_8 hc hf hs hd l x10 x11
                -- leaf 13 (meas)
                have hlt := of_decide_eq_true c5
                unfold meas_PlantGoes_8
                rw [e2]
                omega
      ·
        have c14 : (decide (x11 < (l.len : Int))) = false := hcond
        clear hcond
        refine vg_call (C := C_level) rfl rfl (xs := [.i hc, .i hf, .i hs, .i hd, .i (0 : Int)]) rfl (fun hg => ?_) (fun rs hrs => ?_)
        ·
          exact trivial
        obtain ⟨r12, hr12, rfl⟩ := level_res hrs
        clear hrs
        change Fm.holds _ _ (lk [.i hc, .i hf, .i hs, .i hd, .l l, .i fr, .b r6, .b r7, .i r8, .i r9, .i x10, .i x11, .b r12])
        refine vg_call (C := C_top) rfl rfl (xs := [.i hc, .i hf, .i hs, .i hd]) rfl (fun hg => ?_) (fun rs hrs => ?_)
        ·
          exact trivial
        obtain ⟨r13, hr13, rfl⟩ := top_res hrs
        clear hrs
        change Fm.holds _ _ (lk [.i hc, .i hf, .i hs, .i hd, .l l, .i fr, .b r6, .b r7, .i r8, .i r9, .i x10, .i x11, .b r12, .i r13])
        refine vg_call (C := C_level) rfl rfl (xs := [.i hc, .i hf, .i hs, .i hd, .i r13]) rfl (fun hg => ?_) (fun rs hrs => ?_)
        ·
          exact trivial
        obtain ⟨r14, hr14, rfl⟩ := level_res hrs
        clear hrs
        change Fm.holds _ _ (lk [.i hc, .i hf, .i hs, .i hd, .l l, .i fr, .b r6, .b r7, .i r8, .i r9, .i x10, .i x11, .b r12, .i r13, .b r14])
        refine vg_call (C := C_top) rfl rfl (xs := [.i hc, .i hf, .i hs, .i hd]) rfl (fun hg => ?_) (fun rs hrs => ?_)
        ·
          exact trivial
        obtain ⟨r15, hr15, rfl⟩ := top_res hrs
        clear hrs
        change Fm.holds _ _ (lk [.i hc, .i hf, .i hs, .i hd, .l l, .i fr, .b r6, .b r7, .i r8, .i r9, .i x10, .i x11, .b r12, .i r13, .b r14, .i r15])
        refine vg_call (C := C_floor) rfl rfl (xs := [.i hc, .i hf, .i hs, .i hd, .i r15]) rfl (fun hg => ?_) (fun rs hrs => ?_)
        ·
          exact trivial
        obtain ⟨r16, hr16, rfl⟩ := floor_res hrs
        clear hrs
        change Fm.holds _ _ (lk [.i hc, .i hf, .i hs, .i hd, .l l, .i fr, .b r6, .b r7, .i r8, .i r9, .i x10, .i x11, .b r12, .i r13, .b r14, .i r15, .i r16])
        suffices hfin : ((if (if (if r6 = true then r12 else false) = true then r14 else false) = true then (r16 == (IntKind.wrap .i64 (hf - (1 : Int)))) else false)) = (true) from (c_b hfin rfl)
        -- leaf 14 (ret)
        have ff := floor_facts hv (p := top hc hf hs hd) (by omega) (by omega)
        have l1 := level_up hv (j := 0) (by omega) (by omega)
        have l2 := level_up hv (j := top hc hf hs hd) (by omega) (by omega)
        have hd5 := top_div hv
        have e7 : IntKind.wrap .i64 (hf - 1) = hf - 1 := wrap_in (by omega) (by omega)
        have e8 : (top hc hf hs hd / hs * hs == top hc hf hs hd) = true := by rw [hd5, hTe]; simp
        rw [ff.2.2.2.2.2.2, e8] at l2
        have e9 : r14 = true := by rw [hr14, hr13]; exact l2
        have e10 : r16 = hf - 1 := by rw [hr16, hr15, ff.1, hd5]
        rw [hr6, hr12, e9, e10, e7, l1]
        simp
end Go.Proofs.Ytdbhdpljnplolaa
