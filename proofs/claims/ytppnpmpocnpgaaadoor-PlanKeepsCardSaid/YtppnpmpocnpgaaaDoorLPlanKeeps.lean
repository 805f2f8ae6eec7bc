import Derived.Test.YtppnpmpocnpgaaaDoorVPlanKeeps
namespace Go.Proofs.YtppnpmpocnpgaaaDoor
open Go.Vg
set_option linter.unusedVariables false
set_option linter.unusedSimpArgs false
open Go

theorem near_zero {c u d n : Int} : near c u d n = 0 ↔ above c u d n = false ∧ below c u d n = false := by
  unfold near above below
  by_cases h1 : upB c u d n = 0#64 <;> by_cases h2 : dnB c u d n = 0#64 <;> simp [h1, h2] <;> split <;> simp
theorem near_one {c u d n : Int} (h : near c u d n = 1) : above c u d n = true := by
  unfold near at h; unfold above
  by_cases h1 : upB c u d n = 0#64 <;> by_cases h2 : dnB c u d n = 0#64 <;> simp [h1, h2] at h ⊢
theorem near_neg {c u d n : Int} (h : near c u d n = -1) : below c u d n = true := by
  unfold near at h; unfold below
  by_cases h1 : upB c u d n = 0#64 <;> by_cases h2 : dnB c u d n = 0#64 <;> simp [h1, h2] at h ⊢
theorem hallb_up {u d n : Int} : hallb u d n 1 = isb u n := by simp [hallb]
theorem hallb_dn {u d n : Int} : hallb u d n (-1) = isb d n := by simp [hallb]
theorem hallb_zero {u d n : Int} : hallb u d n 0 = false := by simp [hallb]
theorem toward_up {c u d n : Int} : toward c u d n 1 = above c u d n := by simp [toward]
theorem toward_dn {c u d n : Int} : toward c u d n (-1) = below c u d n := by simp [toward]
theorem anyb_or {c u d n : Int} : anyb c u d n = (isb c n || isb u n || isb d n) := by
  unfold anyb allB isb
  rw [BitVec.getLsbD_or, BitVec.getLsbD_or]
  cases okf n <;> simp
theorem turn_range {c u d n dir : Int} (hd : -1 ≤ dir ∧ dir ≤ 1) : -1 ≤ turn c u d n dir ∧ turn c u d n dir ≤ 1 := by
  have hn := @near_range c u d n
  unfold turn
  split
  · exact hd
  · split
    · omega
    · split
      · omega
      · split
        · omega
        · split <;> omega
theorem turn_zero {c u d n dir : Int} (hd : -1 ≤ dir ∧ dir ≤ 1) (h : turn c u d n dir = 0) : above c u d n = false ∧ below c u d n = false ∧ isb u n = false ∧ isb d n = false := by
  have : dir = -1 ∨ dir = 0 ∨ dir = 1 := by omega
  unfold turn way at h
  rcases this with rfl | rfl | rfl
  · simp only [Int.reduceNeg, Int.neg_neg, toward_dn, toward_up, hallb_dn, hallb_up] at h
    cases h1 : below c u d n <;> cases h2 : isb d n <;> cases h3 : above c u d n <;> cases h4 : isb u n <;> simp [h1, h2, h3, h4] at h <;> simp
  · simp only [hallb_up, hallb_dn] at h
    cases h2 : isb d n <;> cases h4 : isb u n <;> simp [h2, h4] at h
    have := near_zero.1 h
    simp [this]
  · simp only [Int.reduceNeg, toward_dn, toward_up, hallb_dn, hallb_up] at h
    cases h1 : below c u d n <;> cases h2 : isb d n <;> cases h3 : above c u d n <;> cases h4 : isb u n <;> simp [h1, h2, h3, h4] at h <;> simp
theorem turn_move {c u d n dir : Int} (hd : -1 ≤ dir ∧ dir ≤ 1) (h : turn c u d n dir ≠ 0) (hs : hallb u d n (turn c u d n dir) = false) : toward c u d n (turn c u d n dir) = true := by
  have hdd : dir = -1 ∨ dir = 0 ∨ dir = 1 := by omega
  generalize ht : turn c u d n dir = t at *
  unfold turn way at ht
  split at ht
  · rename_i h1
    subst ht
    simp only [Bool.and_eq_true, Bool.or_eq_true] at h1
    rcases h1.2 with h2 | h2
    · exact h2
    · rw [hs] at h2; cases h2
  · split at ht
    · rename_i h1
      subst ht
      simp only [Bool.and_eq_true, Bool.or_eq_true] at h1
      rcases h1.2 with h2 | h2
      · exact h2
      · rw [hs] at h2; cases h2
    · split at ht
      · exact absurd ht.symm h
      · split at ht
        · rename_i h1
          subst ht
          rw [hs] at h1; cases h1
        · split at ht
          · rename_i h1
            subst ht
            rw [hs] at h1; cases h1
          · have hn := @near_range c u d n
            have : t = 1 ∨ t = -1 := by omega
            rcases this with rfl | rfl
            · rw [toward_up]; exact near_one ht
            · rw [toward_dn]; exact near_neg ht
theorem turn_keeps {c u d n dir : Int} (h0 : dir ≠ 0) (h : toward c u d n dir = true) : turn c u d n dir = dir := by
  unfold turn way
  rw [h]
  simp [h0]
theorem nothing {c u d : Int} (h : ∀ x, anyb c u d x = false) (n : Int) : above c u d n = false ∧ below c u d n = false ∧ isb c n = false ∧ isb u n = false ∧ isb d n = false := by
  refine ⟨?_, ?_, ?_⟩
  · cases ha : above c u d n
    · rfl
    · obtain ⟨m, _, hm⟩ := above_iff.1 ha
      rw [h m] at hm; cases hm
  · cases ha : below c u d n
    · rfl
    · obtain ⟨m, _, hm⟩ := below_iff.1 ha
      rw [h m] at hm; cases hm
  · have := h n
    rw [anyb_or] at this
    revert this
    cases isb c n <;> cases isb u n <;> cases isb d n <;> simp
theorem turn_nothing {c u d n dir : Int} (h : ∀ x, anyb c u d x = false) : turn c u d n dir = 0 := by
  obtain ⟨h1, h2, h3, h4, h5⟩ := nothing h n
  have h6 := near_zero.2 ⟨h1, h2⟩
  unfold turn way toward
  simp [hallb, h1, h2, h4, h5, h6]
theorem something {c u d n : Int} (h : ∃ x, anyb c u d x = true) : above c u d n = true ∨ below c u d n = true ∨ isb c n = true ∨ isb u n = true ∨ isb d n = true := by
  obtain ⟨x, hx⟩ := h
  rcases Int.lt_trichotomy n x with h1 | h1 | h1
  · exact .inl (above_iff.2 ⟨x, h1, hx⟩)
  · subst h1
    rw [anyb_or] at hx
    revert hx
    cases isb c n <;> cases isb u n <;> cases isb d n <;> simp
  · exact .inr (.inl (below_iff.2 ⟨x, h1, hx⟩))


theorem PlanKeeps_sound : C_PlanKeeps.Sound Tryd.prog G 10 := by
  refine fn_ok mixed stable tbl_PlanKeeps [] Tryd.func10 (by kernel_rfl) phi_PlanKeeps vc_PlanKeeps ⟨number_sound, floors_sound, at_sound, hall_sound, toward_sound, first15_sound, planat_sound, trivial⟩ (fun _ _ _ => False) (fun _ _ _ => 0) ?_
  intro ls hp
  obtain ⟨s0, s1, s2, fl, dir, rfl, hpre⟩ := PlanKeeps_pre hp
  clear hp
  rw [envOf_lk]
  unfold phi_PlanKeeps
  refine vg_call (C := C_first15) rfl rfl (xs := []) rfl (fun hg => ?_) (fun rs hrs => ?_)
  ·
    exact trivial
  obtain ⟨r5, hr5, rfl⟩ := first15_res hrs
  clear hrs
  change Fm.holds _ _ (lk [.i s0, .i s1, .i s2, .i fl, .i dir, .b r5])
  refine ⟨fun hcond => ?_, fun hcond => ?_⟩
  ·
    have c1 : r5 = false := hcond
    clear hcond
    suffices hfin : (false) = (true) from (c_b hfin rfl)
    -- leaf 1 (ret)
    simp_all
  ·
    have c2 : r5 = true := hcond
    clear hcond
    refine vg_call (C := C_number) rfl rfl (xs := [.i fl, .i (64 : Int)]) rfl (fun hg => ?_) (fun rs hrs => ?_)
    ·
      refine number_mk ?_
      -- leaf 2 (pre)
      omega
    obtain ⟨r6, hr6, rfl⟩ := number_res hrs
    clear hrs
    change Fm.holds _ _ (lk [.i s0, .i s1, .i s2, .i fl, .i dir, .b r5, .i r6])
    have n1 := number_range fl (b := 64) (by omega)
    rw [← hr6] at n1
    refine vg_call (C := C_number) rfl rfl (xs := [.i dir, .i (3 : Int)]) rfl (fun hg => ?_) (fun rs hrs => ?_)
    ·
      refine number_mk ?_
      -- leaf 3 (pre)
      omega
    obtain ⟨r7, hr7, rfl⟩ := number_res hrs
    clear hrs
    change Fm.holds _ _ (lk [.i s0, .i s1, .i s2, .i fl, .i dir, .b r5, .i r6, .i r7])
    have n2 := number_range dir (b := 3) (by omega)
    rw [← hr7] at n2
    have ed : IntKind.wrap .i64 (r7 - 1) = r7 - 1 := wrap_in (by omega) (by omega)
    have hd : -1 ≤ r7 - 1 ∧ r7 - 1 ≤ 1 := by omega
    have hok : okP r6 (r7 - 1) = true := okP_iff.2 ⟨n1, hd⟩
    refine vg_call (C := C_planat) rfl rfl (xs := [.i s0, .i s1, .i s2, .i r6, .i (IntKind.wrap .i64 (r7 - (1 : Int)))]) rfl (fun hg => ?_) (fun rs hrs => ?_)
    ·
      exact trivial
    obtain ⟨r8, r9, r10, hr8, hr9, hr10, rfl⟩ := planat_res hrs
    clear hrs
    change Fm.holds _ _ (lk [.i s0, .i s1, .i s2, .i fl, .i dir, .b r5, .i r6, .i r7, .b r8, .i r9, .i r10])
    rw [ed] at hr8 hr9 hr10
    simp only [stopP, dirP, moveP, hok, Bool.true_and, if_true] at hr8 hr9 hr10
    rw [← hr9] at hr8 hr10
    have hT := turn_range (c := s0) (u := s1) (d := s2) (n := r6) hd
    have hZ := turn_zero (c := s0) (u := s1) (d := s2) (n := r6) hd
    have hM := turn_move (c := s0) (u := s1) (d := s2) (n := r6) hd
    rw [← hr9] at hT hZ hM
    rw [← hr8] at hr10
    refine vg_call (C := C_toward) rfl rfl (xs := [.i s0, .i s1, .i s2, .i r6, .i (IntKind.wrap .i64 (r7 - (1 : Int)))]) rfl (fun hg => ?_) (fun rs hrs => ?_)
    ·
      exact trivial
    obtain ⟨r11, hr11, rfl⟩ := toward_res hrs
    clear hrs
    change Fm.holds _ _ (lk [.i s0, .i s1, .i s2, .i fl, .i dir, .b r5, .i r6, .i r7, .b r8, .i r9, .i r10, .b r11])
    refine ⟨fun hcond => ?_, fun hcond => ?_⟩
    ·
      have c3 : (if (if (!((IntKind.wrap .i64 (r7 - (1 : Int))) == (0 : Int))) = true then r11 else false) = true then (!(r9 == (IntKind.wrap .i64 (r7 - (1 : Int))))) else false) = true := hcond
      clear hcond
      suffices hfin : (false) = (true) from (c_b hfin rfl)
      -- leaf 4 (ret)
      rw [ed] at c3 hr11
      have hz : r7 - 1 ≠ 0 := by
        intro e
        rw [e] at c3
        simp at c3
      have ht : toward s0 s1 s2 r6 (r7 - 1) = true := by
        rw [← hr11]
        revert c3
        cases r11 <;> simp
      rw [hr9, turn_keeps hz ht] at c3
      simp at c3
    ·
      have c4 : (if (if (!((IntKind.wrap .i64 (r7 - (1 : Int))) == (0 : Int))) = true then r11 else false) = true then (!(r9 == (IntKind.wrap .i64 (r7 - (1 : Int))))) else false) = false := hcond
      clear hcond
      refine vg_call (C := C_toward) rfl rfl (xs := [.i s0, .i s1, .i s2, .i r6, .i r10]) rfl (fun hg => ?_) (fun rs hrs => ?_)
      ·
        exact trivial
      obtain ⟨r12, hr12, rfl⟩ := toward_res hrs
      clear hrs
      change Fm.holds _ _ (lk [.i s0, .i s1, .i s2, .i fl, .i dir, .b r5, .i r6, .i r7, .b r8, .i r9, .i r10, .b r11, .b r12])
      refine ⟨fun hcond => ?_, fun hcond => ?_⟩
      ·
        have c5 : (if (!(r10 == (0 : Int))) = true then (if (if r8 = true then true else (!(r10 == r9))) = true then true else (!r12)) else false) = true := hcond
        clear hcond
        suffices hfin : (false) = (true) from (c_b hfin rfl)
        -- leaf 5 (ret)
        cases h8 : r8
        · rw [h8] at hr10 hr8
          simp only [Bool.not_false, if_true] at hr10
          have h0 : r10 ≠ 0 := by
            intro e
            rw [e] at c5
            simp at c5
          have hh : hallb s1 s2 r6 r9 = false := by
            revert hr8
            cases hallb s1 s2 r6 r9 <;> simp
          have := hM (by omega) hh
          rw [← hr10] at this
          rw [this] at hr12
          rw [h8, hr12, hr10] at c5
          simp at c5
        · rw [h8] at hr10
          simp at hr10
          rw [hr10] at c5
          simp at c5
      ·
        have c6 : (if (!(r10 == (0 : Int))) = true then (if (if r8 = true then true else (!(r10 == r9))) = true then true else (!r12)) else false) = false := hcond
        clear hcond
        refine vg_call (C := C_at) rfl rfl (xs := [.i s0, .i s1, .i s2, .i r6]) rfl (fun hg => ?_) (fun rs hrs => ?_)
        ·
          exact trivial
        obtain ⟨r13, hr13, rfl⟩ := at_res hrs
        clear hrs
        change Fm.holds _ _ (lk [.i s0, .i s1, .i s2, .i fl, .i dir, .b r5, .i r6, .i r7, .b r8, .i r9, .i r10, .b r11, .b r12, .b r13])
        refine vg_call (C := C_hall) rfl rfl (xs := [.i s0, .i s1, .i s2, .i r6, .i r9]) rfl (fun hg => ?_) (fun rs hrs => ?_)
        ·
          exact trivial
        obtain ⟨r14, hr14, rfl⟩ := hall_res hrs
        clear hrs
        change Fm.holds _ _ (lk [.i s0, .i s1, .i s2, .i fl, .i dir, .b r5, .i r6, .i r7, .b r8, .i r9, .i r10, .b r11, .b r12, .b r13, .b r14])
        refine ⟨fun hcond => ?_, fun hcond => ?_⟩
        ·
          have c7 : (r8 == (if r13 = true then true else (if (!(r9 == (0 : Int))) = true then r14 else false))) = false := hcond
          clear hcond
          suffices hfin : (false) = (true) from (c_b hfin rfl)
          -- leaf 6 (ret)
          rw [hr8, hr13, hr14] at c7
          by_cases h0 : r9 = 0
          · rw [h0, hallb_zero] at c7
            cases isb s0 r6 <;> simp at c7
          · revert c7
            have : (r9 == 0) = false := by simp [h0]
            rw [this]
            cases isb s0 r6 <;> cases hallb s1 s2 r6 r9 <;> simp
        ·
          have c8 : (r8 == (if r13 = true then true else (if (!(r9 == (0 : Int))) = true then r14 else false))) = true := hcond
          clear hcond
          refine vg_call (C := C_floors) rfl rfl (xs := [.i s0, .i s1, .i s2]) rfl (fun hg => ?_) (fun rs hrs => ?_)
          ·
            exact trivial
          obtain ⟨r15, hr15, rfl⟩ := floors_res hrs
          clear hrs
          change Fm.holds _ _ (lk [.i s0, .i s1, .i s2, .i fl, .i dir, .b r5, .i r6, .i r7, .b r8, .i r9, .i r10, .b r11, .b r12, .b r13, .b r14, .l r15])
          suffices hfin : ((if ((if r8 = true then true else (!(r10 == (0 : Int)))) == (!((r15.len : Int) == (0 : Int)))) = true then (if (!((r15.len : Int) == (0 : Int))) = true then true else (r9 == (0 : Int))) else false)) = (true) from (c_b hfin rfl)
          -- leaf 7 (ret)
          rw [hr15, floL_len]
          by_cases hl : (flo s0 s1 s2 64).length = 0
          · have h0 := turn_nothing (n := r6) (dir := r7 - 1) (flo_nil.1 hl)
            obtain ⟨_, _, h3, h4, h5⟩ := nothing (flo_nil.1 hl) r6
            rw [← hr9] at h0
            have h8 : r8 = false := by
              rw [hr8, h3, h0, hallb_zero]
              rfl
            rw [h8, h0] at hr10
            rw [hl, h8, h0, hr10]
            simp
          · have he : ∃ x, anyb s0 s1 s2 x = true := ⟨_, flo_get (i := 0) (by omega)⟩
            have hl2 : (((flo s0 s1 s2 64).length : Int) == 0) = false := by
              rw [beq_eq_false_iff_ne]
              omega
            rw [hl2]
            cases h8 : r8
            · rw [h8] at hr10 hr8
              simp only [Bool.not_false, if_true] at hr10
              have h0 : r9 ≠ 0 := by
                intro e
                obtain ⟨z1, z2, z3, z4⟩ := hZ e
                have hi : isb s0 r6 = false := by
                  revert hr8
                  cases isb s0 r6 <;> simp
                rcases something (n := r6) he with h | h | h | h | h
                · rw [z1] at h; cases h
                · rw [z2] at h; cases h
                · rw [hi] at h; cases h
                · rw [z3] at h; cases h
                · rw [z4] at h; cases h
              have : (r10 == 0) = false := by
                rw [beq_eq_false_iff_ne, hr10]
                exact h0
              rw [this]
              simp
            · simp
end Go.Proofs.YtppnpmpocnpgaaaDoor
