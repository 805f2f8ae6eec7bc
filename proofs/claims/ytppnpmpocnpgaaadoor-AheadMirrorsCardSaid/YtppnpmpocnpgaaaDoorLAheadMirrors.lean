import Derived.Test.YtppnpmpocnpgaaaDoorVAheadMirrors
namespace Go.Proofs.YtppnpmpocnpgaaaDoor
open Go.Vg
set_option linter.unusedVariables false
set_option linter.unusedSimpArgs false
open Go

theorem flo_mir {c u d : Int} : flo (N (mirB c 64)) (N (mirB d 64)) (N (mirB u 64)) 64 = ((flo c u d 64).map (fun x => 63 - x)).reverse := by
  have hR : ((List.range 64).map Int.ofNat).reverse = ((List.range 64).map Int.ofNat).map (fun x => 63 - x) := by decide
  unfold flo
  generalize (List.range 64).map Int.ofNat = R at hR
  have hp : anyb (N (mirB c 64)) (N (mirB d 64)) (N (mirB u 64)) = (anyb c u d) ∘ (fun x => 63 - x) := by
    funext n
    exact mir_any
  have hff : ∀ l : List Int, (l.map (fun x => 63 - x)).map (fun x => 63 - x) = l := fun l => by
    rw [List.map_map]
    have : ((fun x : Int => 63 - x) ∘ fun x => 63 - x) = id := by funext x; simp; omega
    rw [this, List.map_id]
  rw [hp]
  have h1 := List.filter_map (f := fun x : Int => 63 - x) (p := anyb c u d) (l := R)
  rw [← hff (R.filter _), ← h1, ← hR, List.filter_reverse, List.map_reverse]
theorem near_mir {c u d n : Int} (h0 : 0 ≤ n) (h1 : n < 64) : near c u d n = -near (N (mirB c 64)) (N (mirB d 64)) (N (mirB u 64)) (63 - n) ∨
    (near c u d n = 1 ∧ near (N (mirB c 64)) (N (mirB d 64)) (N (mirB u 64)) (63 - n) = 1) := by
  have e1 : max (-1) (min n 64) = n := by omega
  have e2 : max (-1) (min (63 - n) 64) = 63 - n := by omega
  have m1 : ∀ k : Int, anyb (N (mirB c 64)) (N (mirB d 64)) (N (mirB u 64)) (63 - n + k) = anyb c u d (n - k) := fun k => by rw [mir_any]; congr 1; omega
  have m2 : ∀ k : Int, anyb (N (mirB c 64)) (N (mirB d 64)) (N (mirB u 64)) (63 - n - k) = anyb c u d (n + k) := fun k => by rw [mir_any]; congr 1; omega
  by_cases hex : ∃ k : Nat, 1 ≤ k ∧ (anyb c u d (n + k) = true ∨ anyb c u d (n - k) = true)
  · obtain ⟨k, ⟨hk1, hk⟩, hmin⟩ := least_nat hex
    have hno : ∀ j : Int, 1 ≤ j → j < k → anyb c u d (n + j) = false ∧ anyb c u d (n - j) = false := fun j h3 h4 => by
      have h5 : ¬ (1 ≤ j.toNat ∧ (anyb c u d (n + j.toNat) = true ∨ anyb c u d (n - j.toNat) = true)) := fun h => by
        have := hmin _ h; omega
      rw [show ((j.toNat : Nat) : Int) = j by omega] at h5
      constructor
      · cases hx : anyb c u d (n + j)
        · rfl
        · exact absurd ⟨by omega, .inl hx⟩ h5
      · cases hx : anyb c u d (n - j)
        · rfl
        · exact absurd ⟨by omega, .inr hx⟩ h5
    have A : anyb c u d (n + k) = true → near c u d n = 1 := fun h => near_up (k := k) (by omega) (by rw [e1]; exact hno) (by rw [e1]; exact h)
    have B : anyb c u d (n + k) = false → anyb c u d (n - k) = true → near c u d n = -1 := fun h h' => near_dn (k := k) (by omega) (by rw [e1]; exact hno) (by rw [e1]; exact h) (by rw [e1]; exact h')
    have A' : anyb c u d (n - k) = true → near (N (mirB c 64)) (N (mirB d 64)) (N (mirB u 64)) (63 - n) = 1 := fun h => near_up (k := k) (by omega) (by rw [e2]; exact fun j h3 h4 => by rw [m1, m2]; exact ⟨(hno j h3 h4).2, (hno j h3 h4).1⟩) (by rw [e2, m1]; exact h)
    have B' : anyb c u d (n - k) = false → anyb c u d (n + k) = true → near (N (mirB c 64)) (N (mirB d 64)) (N (mirB u 64)) (63 - n) = -1 := fun h h' =>
      near_dn (k := k) (by omega) (by rw [e2]; exact fun j h3 h4 => by rw [m1, m2]; exact ⟨(hno j h3 h4).2, (hno j h3 h4).1⟩) (by rw [e2, m1]; exact h) (by rw [e2, m2]; exact h')
    cases ha : anyb c u d (n + k) <;> cases hb : anyb c u d (n - k)
    · rw [ha, hb] at hk; simp at hk
    · left; rw [B ha hb, A' hb]
    · left; rw [A ha, B' hb ha]; rfl
    · right; exact ⟨A ha, A' hb⟩
  · left
    have hno : ∀ j : Int, 1 ≤ j → j < 65 → anyb c u d (n + j) = false ∧ anyb c u d (n - j) = false := fun j h3 h4 => by
      have h5 : ¬ (1 ≤ j.toNat ∧ (anyb c u d (n + j.toNat) = true ∨ anyb c u d (n - j.toNat) = true)) := fun h => hex ⟨_, h⟩
      rw [show ((j.toNat : Nat) : Int) = j by omega] at h5
      constructor
      · cases hx : anyb c u d (n + j)
        · rfl
        · exact absurd ⟨by omega, .inl hx⟩ h5
      · cases hx : anyb c u d (n - j)
        · rfl
        · exact absurd ⟨by omega, .inr hx⟩ h5
    rw [near_none (by rw [e1]; exact hno), near_none (by rw [e2]; exact fun j h3 h4 => by rw [m1, m2]; exact ⟨(hno j h3 h4).2, (hno j h3 h4).1⟩)]
    rfl
theorem mir_get {l : List Int} {i : Nat} (h : i < l.length) : ((l.map (fun x => 63 - x)).reverse).getD (l.length - 1 - i) 0 = 63 - l.getD i 0 := by
  rw [List.getD_eq_getElem?_getD, List.getElem?_reverse (by simp; omega), List.length_map, show l.length - 1 - (l.length - 1 - i) = i by omega, List.getElem?_map, List.getD_eq_getElem?_getD, List.getElem?_eq_getElem h]
  rfl


theorem AheadMirrors_sound : C_AheadMirrors.Sound Tryd.prog G 4 := by
  refine fn_ok mixed stable tbl_AheadMirrors [⟨7, [19, 20, 21, 22, 23, 24, 25, 26, 27, 28, 29, 30, 31, 32, 33, 34, 35, 36, 37, 38, 39, 40, 41, 42, 43, 44, 45, 46, 47, 48, 49, 50, 51, 52, 53, 54, 55], [7], [(1, 0), (1, 1), (1, 2)], [0, 1, 2], some (3, .i64)⟩, ⟨22, [4, 72, 73, 74, 75, 76, 77, 78, 79, 80, 81, 82, 83, 84, 85, 86, 87, 88, 89, 90, 91], [12], [], [12], some (3, .i64)⟩] Tryd.func4 (by kernel_rfl) phi_AheadMirrors vc_AheadMirrors ⟨first14_sound, number_sound, floors_sound, near_sound, at_sound, hall_sound, above_sound, below_sound, trivial⟩ inv_AheadMirrors meas_AheadMirrors ?_
  intro ls hp
  obtain ⟨s0, s1, s2, fl, rfl, hpre⟩ := AheadMirrors_pre hp
  clear hp
  rw [envOf_lk]
  unfold phi_AheadMirrors
  refine vg_call (C := C_first14) rfl rfl (xs := []) rfl (fun hg => ?_) (fun rs hrs => ?_)
  ·
    exact trivial
  obtain ⟨r4, hr4, rfl⟩ := first14_res hrs
  clear hrs
  change Fm.holds _ _ (lk [.i s0, .i s1, .i s2, .i fl, .b r4])
  refine ⟨fun hcond => ?_, fun hcond => ?_⟩
  ·
    have c1 : r4 = false := hcond
    clear hcond
    suffices hfin : (false) = (true) from (c_b hfin rfl)
    -- leaf 1 (ret)
    simp_all
  ·
    have c2 : r4 = true := hcond
    clear hcond
    refine vg_call (C := C_number) rfl rfl (xs := [.i fl, .i (64 : Int)]) rfl (fun hg => ?_) (fun rs hrs => ?_)
    ·
      refine number_mk ?_
      -- leaf 2 (pre)
      omega
    obtain ⟨r5, hr5, rfl⟩ := number_res hrs
    clear hrs
    change Fm.holds _ _ (lk [.i s0, .i s1, .i s2, .i fl, .b r4, .i r5])
    have n1 := number_range fl (b := 64) (by omega)
    rw [← hr5] at n1
    refine vg_loop rfl ?_ (fun xs hfit hi => ?_)
    ·
      show inv_AheadMirrors_7 s0 s1 s2 (0 : Int) (0 : Int) (0 : Int) (0 : Int)
      -- leaf 3 (init)
      exact ⟨by omega, by omega, rfl, rfl, rfl⟩
    obtain ⟨x6, xs0, rfl, hfit0⟩ := fits_i hfit
    obtain ⟨x7, xs1, rfl, hfit1⟩ := fits_i hfit0
    obtain ⟨x8, xs2, rfl, hfit2⟩ := fits_i hfit1
    obtain ⟨x9, xs3, rfl, hfit3⟩ := fits_i hfit2
    obtain rfl := fits_nil hfit3
    clear hfit hfit0 hfit1 hfit2 hfit3
    replace hi : inv_AheadMirrors_7 s0 s1 s2 x6 x7 x8 x9 := hi
    have hi7 := hi; clear hi
    change Fm.holds _ _ (lk [.i s0, .i s1, .i s2, .i fl, .b r4, .i r5, .i x6, .i x7, .i x8, .i x9])
    obtain ⟨j0, j1, j2, j3, j4⟩ := hi7
    have e1 : IntKind.wrap .i64 (x6 + 1) = x6 + 1 := wrap_in (by omega) (by omega)
    refine ⟨fun hcond => ?_, fun hcond => ?_⟩
    ·
      have c3 : (decide (x6 < (64 : Int))) = true := hcond
      clear hcond
      refine vg_call (C := C_at) rfl rfl (xs := [.i s0, .i s1, .i s2, .i x6]) rfl (fun hg => ?_) (fun rs hrs => ?_)
      ·
        exact trivial
      obtain ⟨r10, hr10, rfl⟩ := at_res hrs
      clear hrs
      change Fm.holds _ _ (lk [.i s0, .i s1, .i s2, .i fl, .b r4, .i r5, .i x6, .i x7, .i x8, .i x9, .b r10])
      refine ⟨fun hcond => ?_, fun hcond => ?_⟩
      ·
        have c4 : r10 = true := hcond
        clear hcond
        refine ⟨fun hg => ?_, ?_⟩
        ·
          show (decide ((0 : Int) ≤ (IntKind.wrap .u64 (IntKind.wrap .i64 ((63 : Int) - x6))))) = true
          -- leaf 4 (ob)
          rw [wrap_u64]
          exact decide_eq_true (Int.emod_nonneg _ (by decide))
        refine vg_call (C := C_hall) rfl rfl (xs := [.i s0, .i s1, .i s2, .i x6, .i (1 : Int)]) rfl (fun hg => ?_) (fun rs hrs => ?_)
        ·
          exact trivial
        obtain ⟨r11, hr11, rfl⟩ := hall_res hrs
        clear hrs
        change Fm.holds _ _ (lk [.i s0, .i s1, .i s2, .i fl, .b r4, .i r5, .i x6, .i x7, .i x8, .i x9, .b r10, .b r11])
        try rw [hall_up] at hr11
        try rw [e2, j2, j3, j4] at hr11
        refine ⟨fun hcond => ?_, fun hcond => ?_⟩
        ·
          have c5 : r11 = true := hcond
          clear hcond
          refine vg_call (C := C_hall) rfl rfl (xs := [.i s0, .i s1, .i s2, .i x6, .i (-1)]) rfl (fun hg => ?_) (fun rs hrs => ?_)
          ·
            exact trivial
          obtain ⟨r12, hr12, rfl⟩ := hall_res hrs
          clear hrs
          change Fm.holds _ _ (lk [.i s0, .i s1, .i s2, .i fl, .b r4, .i r5, .i x6, .i x7, .i x8, .i x9, .b r10, .b r11, .b r12])
          try rw [hall_dn] at hr12
          refine ⟨fun hcond => ?_, fun hcond => ?_⟩
          ·
            have c6 : r12 = true := hcond
            clear hcond
            refine ⟨?_, ?_⟩
            ·
              show inv_AheadMirrors_7 s0 s1 s2 (IntKind.wrap .i64 (x6 + (1 : Int))) (bitv .or .u64 x7 (IntKind.wrap .u64 ((1 : Int) * 2 ^ (min (Int.toNat (IntKind.wrap .u64 (IntKind.wrap .i64 ((63 : Int) - x6)))) (IntKind.bits .u64))))) (bitv .or .u64 x8 (IntKind.wrap .u64 ((1 : Int) * 2 ^ (min (Int.toNat (IntKind.wrap .u64 (IntKind.wrap .i64 ((63 : Int) - x6)))) (IntKind.bits .u64))))) (bitv .or .u64 x9 (IntKind.wrap .u64 ((1 : Int) * 2 ^ (min (Int.toNat (IntKind.wrap .u64 (IntKind.wrap .i64 ((63 : Int) - x6)))) (IntKind.bits .u64)))))
              -- leaf 5 (back)
              have hlt := of_decide_eq_true c3
              rw [e1]
              refine ⟨by omega, by omega, ?_, ?_, ?_⟩
              · rw [j2]; first | exact (mir_yes j0 hlt (hr10.symm.trans (by assumption))).symm | exact (mir_no j0 hlt (hr10.symm.trans (by assumption))).symm
              · rw [j3]; first | exact (mir_yes j0 hlt (hr12.symm.trans (by assumption))).symm | exact (mir_no j0 hlt (hr12.symm.trans (by assumption))).symm
              · rw [j4]; first | exact (mir_yes j0 hlt (hr11.symm.trans (by assumption))).symm | exact (mir_no j0 hlt (hr11.symm.trans (by assumption))).symm
            ·
              show meas_AheadMirrors_7 s0 s1 s2 (IntKind.wrap .i64 (x6 + (1 : Int))) (bitv .or .u64 x7 (IntKind.wrap .u64 ((1 : Int) * 2 ^ (min (Int.toNat (IntKind.wrap .u64 (IntKind.wrap .i64 ((63 : Int) - x6)))) (IntKind.bits .u64))))) (bitv .or .u64 x8 (IntKind.wrap .u64 ((1 : Int) * 2 ^ (min (Int.toNat (IntKind.wrap .u64 (IntKind.wrap .i64 ((63 : Int) - x6)))) (IntKind.bits .u64))))) (bitv .or .u64 x9 (IntKind.wrap .u64 ((1 : Int) * 2 ^ (min (Int.toNat (IntKind.wrap .u64 (IntKind.wrap .i64 ((63 : Int) - x6)))) (IntKind.bits .u64))))) < meas_AheadMirrors_7 s0 s1 s2 x6 x7 x8 x9
              -- leaf 6 (meas)
              have hlt := of_decide_eq_true c3
              unfold meas_AheadMirrors_7
              rw [e1]
              omega
          ·
            have c7 : r12 = false := hcond
            clear hcond
            refine ⟨?_, ?_⟩
            ·
              show inv_AheadMirrors_7 s0 s1 s2 (IntKind.wrap .i64 (x6 + (1 : Int))) (bitv .or .u64 x7 (IntKind.wrap .u64 ((1 : Int) * 2 ^ (min (Int.toNat (IntKind.wrap .u64 (IntKind.wrap .i64 ((63 : Int) - x6)))) (IntKind.bits .u64))))) x8 (bitv .or .u64 x9 (IntKind.wrap .u64 ((1 : Int) * 2 ^ (min (Int.toNat (IntKind.wrap .u64 (IntKind.wrap .i64 ((63 : Int) - x6)))) (IntKind.bits .u64)))))
              -- leaf 7 (back)
              have hlt := of_decide_eq_true c3
              rw [e1]
              refine ⟨by omega, by omega, ?_, ?_, ?_⟩
              · rw [j2]; first | exact (mir_yes j0 hlt (hr10.symm.trans (by assumption))).symm | exact (mir_no j0 hlt (hr10.symm.trans (by assumption))).symm
              · rw [j3]; first | exact (mir_yes j0 hlt (hr12.symm.trans (by assumption))).symm | exact (mir_no j0 hlt (hr12.symm.trans (by assumption))).symm
              · rw [j4]; first | exact (mir_yes j0 hlt (hr11.symm.trans (by assumption))).symm | exact (mir_no j0 hlt (hr11.symm.trans (by assumption))).symm
            ·
              show meas_AheadMirrors_7 s0 s1 s2 (IntKind.wrap .i64 (x6 + (1 : Int))) (bitv .or .u64 x7 (IntKind.wrap .u64 ((1 : Int) * 2 ^ (min (Int.toNat (IntKind.wrap .u64 (IntKind.wrap .i64 ((63 : Int) - x6)))) (IntKind.bits .u64))))) x8 (bitv .or .u64 x9 (IntKind.wrap .u64 ((1 : Int) * 2 ^ (min (Int.toNat (IntKind.wrap .u64 (IntKind.wrap .i64 ((63 : Int) - x6)))) (IntKind.bits .u64))))) < meas_AheadMirrors_7 s0 s1 s2 x6 x7 x8 x9
              -- leaf 8 (meas)
              have hlt := of_decide_eq_true c3
              unfold meas_AheadMirrors_7
              rw [e1]
              omega
        ·
          have c8 : r11 = false := hcond
          clear hcond
          refine vg_call (C := C_hall) rfl rfl (xs := [.i s0, .i s1, .i s2, .i x6, .i (-1)]) rfl (fun hg => ?_) (fun rs hrs => ?_)
          ·
            exact trivial
          obtain ⟨r12, hr12, rfl⟩ := hall_res hrs
          clear hrs
          change Fm.holds _ _ (lk [.i s0, .i s1, .i s2, .i fl, .b r4, .i r5, .i x6, .i x7, .i x8, .i x9, .b r10, .b r11, .b r12])
          try rw [hall_dn] at hr12
          refine ⟨fun hcond => ?_, fun hcond => ?_⟩
          ·
            have c9 : r12 = true := hcond
            clear hcond
            refine ⟨?_, ?_⟩
            ·
              show inv_AheadMirrors_7 s0 s1 s2 (IntKind.wrap .i64 (x6 + (1 : Int))) (bitv .or .u64 x7 (IntKind.wrap .u64 ((1 : Int) * 2 ^ (min (Int.toNat (IntKind.wrap .u64 (IntKind.wrap .i64 ((63 : Int) - x6)))) (IntKind.bits .u64))))) (bitv .or .u64 x8 (IntKind.wrap .u64 ((1 : Int) * 2 ^ (min (Int.toNat (IntKind.wrap .u64 (IntKind.wrap .i64 ((63 : Int) - x6)))) (IntKind.bits .u64))))) x9
              -- leaf 9 (back)
              have hlt := of_decide_eq_true c3
              rw [e1]
              refine ⟨by omega, by omega, ?_, ?_, ?_⟩
              · rw [j2]; first | exact (mir_yes j0 hlt (hr10.symm.trans (by assumption))).symm | exact (mir_no j0 hlt (hr10.symm.trans (by assumption))).symm
              · rw [j3]; first | exact (mir_yes j0 hlt (hr12.symm.trans (by assumption))).symm | exact (mir_no j0 hlt (hr12.symm.trans (by assumption))).symm
              · rw [j4]; first | exact (mir_yes j0 hlt (hr11.symm.trans (by assumption))).symm | exact (mir_no j0 hlt (hr11.symm.trans (by assumption))).symm
            ·
              show meas_AheadMirrors_7 s0 s1 s2 (IntKind.wrap .i64 (x6 + (1 : Int))) (bitv .or .u64 x7 (IntKind.wrap .u64 ((1 : Int) * 2 ^ (min (Int.toNat (IntKind.wrap .u64 (IntKind.wrap .i64 ((63 : Int) - x6)))) (IntKind.bits .u64))))) (bitv .or .u64 x8 (IntKind.wrap .u64 ((1 : Int) * 2 ^ (min (Int.toNat (IntKind.wrap .u64 (IntKind.wrap .i64 ((63 : Int) - x6)))) (IntKind.bits .u64))))) x9 < meas_AheadMirrors_7 s0 s1 s2 x6 x7 x8 x9
              -- leaf 10 (meas)
              have hlt := of_decide_eq_true c3
              unfold meas_AheadMirrors_7
              rw [e1]
              omega
          ·
            have c10 : r12 = false := hcond
            clear hcond
            refine ⟨?_, ?_⟩
            ·
              show inv_AheadMirrors_7 s0 s1 s2 (IntKind.wrap .i64 (x6 + (1 : Int))) (bitv .or .u64 x7 (IntKind.wrap .u64 ((1 : Int) * 2 ^ (min (Int.toNat (IntKind.wrap .u64 (IntKind.wrap .i64 ((63 : Int) - x6)))) (IntKind.bits .u64))))) x8 x9
              -- leaf 11 (back)
              have hlt := of_decide_eq_true c3
              rw [e1]
              refine ⟨by omega, by omega, ?_, ?_, ?_⟩
              · rw [j2]; first | exact (mir_yes j0 hlt (hr10.symm.trans (by assumption))).symm | exact (mir_no j0 hlt (hr10.symm.trans (by assumption))).symm
              · rw [j3]; first | exact (mir_yes j0 hlt (hr12.symm.trans (by assumption))).symm | exact (mir_no j0 hlt (hr12.symm.trans (by assumption))).symm
              · rw [j4]; first | exact (mir_yes j0 hlt (hr11.symm.trans (by assumption))).symm | exact (mir_no j0 hlt (hr11.symm.trans (by assumption))).symm
            ·
              show meas_AheadMirrors_7 s0 s1 s2 (IntKind.wrap .i64 (x6 + (1 : Int))) (bitv .or .u64 x7 (IntKind.wrap .u64 ((1 : Int) * 2 ^ (min (Int.toNat (IntKind.wrap .u64 (IntKind.wrap .i64 ((63 : Int) - x6)))) (IntKind.bits .u64))))) x8 x9 < meas_AheadMirrors_7 s0 s1 s2 x6 x7 x8 x9
              -- leaf 12 (meas)
              have hlt := of_decide_eq_true c3
              unfold meas_AheadMirrors_7
              rw [e1]
              omega
      ·
        have c11 : r10 = false := hcond
        clear hcond
        refine vg_call (C := C_hall) rfl rfl (xs := [.i s0, .i s1, .i s2, .i x6, .i (1 : Int)]) rfl (fun hg => ?_) (fun rs hrs => ?_)
        ·
          exact trivial
        obtain ⟨r11, hr11, rfl⟩ := hall_res hrs
        clear hrs
        change Fm.holds _ _ (lk [.i s0, .i s1, .i s2, .i fl, .b r4, .i r5, .i x6, .i x7, .i x8, .i x9, .b r10, .b r11])
        try rw [hall_up] at hr11
        try rw [e2, j2, j3, j4] at hr11
        refine ⟨fun hcond => ?_, fun hcond => ?_⟩
        ·
          have c12 : r11 = true := hcond
          clear hcond
          refine ⟨fun hg => ?_, ?_⟩
          ·
            show (decide ((0 : Int) ≤ (IntKind.wrap .u64 (IntKind.wrap .i64 ((63 : Int) - x6))))) = true
            -- leaf 13 (ob)
            rw [wrap_u64]
            exact decide_eq_true (Int.emod_nonneg _ (by decide))
          refine vg_call (C := C_hall) rfl rfl (xs := [.i s0, .i s1, .i s2, .i x6, .i (-1)]) rfl (fun hg => ?_) (fun rs hrs => ?_)
          ·
            exact trivial
          obtain ⟨r12, hr12, rfl⟩ := hall_res hrs
          clear hrs
          change Fm.holds _ _ (lk [.i s0, .i s1, .i s2, .i fl, .b r4, .i r5, .i x6, .i x7, .i x8, .i x9, .b r10, .b r11, .b r12])
          try rw [hall_dn] at hr12
          refine ⟨fun hcond => ?_, fun hcond => ?_⟩
          ·
            have c13 : r12 = true := hcond
            clear hcond
            refine ⟨?_, ?_⟩
            ·
              show inv_AheadMirrors_7 s0 s1 s2 (IntKind.wrap .i64 (x6 + (1 : Int))) x7 (bitv .or .u64 x8 (IntKind.wrap .u64 ((1 : Int) * 2 ^ (min (Int.toNat (IntKind.wrap .u64 (IntKind.wrap .i64 ((63 : Int) - x6)))) (IntKind.bits .u64))))) (bitv .or .u64 x9 (IntKind.wrap .u64 ((1 : Int) * 2 ^ (min (Int.toNat (IntKind.wrap .u64 (IntKind.wrap .i64 ((63 : Int) - x6)))) (IntKind.bits .u64)))))
              -- leaf 14 (back)
              have hlt := of_decide_eq_true c3
              rw [e1]
              refine ⟨by omega, by omega, ?_, ?_, ?_⟩
              · rw [j2]; first | exact (mir_yes j0 hlt (hr10.symm.trans (by assumption))).symm | exact (mir_no j0 hlt (hr10.symm.trans (by assumption))).symm
              · rw [j3]; first | exact (mir_yes j0 hlt (hr12.symm.trans (by assumption))).symm | exact (mir_no j0 hlt (hr12.symm.trans (by assumption))).symm
              · rw [j4]; first | exact (mir_yes j0 hlt (hr11.symm.trans (by assumption))).symm | exact (mir_no j0 hlt (hr11.symm.trans (by assumption))).symm
            ·
              show meas_AheadMirrors_7 s0 s1 s2 (IntKind.wrap .i64 (x6 + (1 : Int))) x7 (bitv .or .u64 x8 (IntKind.wrap .u64 ((1 : Int) * 2 ^ (min (Int.toNat (IntKind.wrap .u64 (IntKind.wrap .i64 ((63 : Int) - x6)))) (IntKind.bits .u64))))) (bitv .or .u64 x9 (IntKind.wrap .u64 ((1 : Int) * 2 ^ (min (Int.toNat (IntKind.wrap .u64 (IntKind.wrap .i64 ((63 : Int) - x6)))) (IntKind.bits .u64))))) < meas_AheadMirrors_7 s0 s1 s2 x6 x7 x8 x9
              -- leaf 15 (meas)
              have hlt := of_decide_eq_true c3
              unfold meas_AheadMirrors_7
              rw [e1]
              omega
          ·
            have c14 : r12 = false := hcond
            clear hcond
            refine ⟨?_, ?_⟩
            ·
              show inv_AheadMirrors_7 s0 s1 s2 (IntKind.wrap .i64 (x6 + (1 : Int))) x7 x8 (bitv .or .u64 x9 (IntKind.wrap .u64 ((1 : Int) * 2 ^ (min (Int.toNat (IntKind.wrap .u64 (IntKind.wrap .i64 ((63 : Int) - x6)))) (IntKind.bits .u64)))))
              -- leaf 16 (back)
              have hlt := of_decide_eq_true c3
              rw [e1]
              refine ⟨by omega, by omega, ?_, ?_, ?_⟩
              · rw [j2]; first | exact (mir_yes j0 hlt (hr10.symm.trans (by assumption))).symm | exact (mir_no j0 hlt (hr10.symm.trans (by assumption))).symm
              · rw [j3]; first | exact (mir_yes j0 hlt (hr12.symm.trans (by assumption))).symm | exact (mir_no j0 hlt (hr12.symm.trans (by assumption))).symm
              · rw [j4]; first | exact (mir_yes j0 hlt (hr11.symm.trans (by assumption))).symm | exact (mir_no j0 hlt (hr11.symm.trans (by assumption))).symm
            ·
              show meas_AheadMirrors_7 s0 s1 s2 (IntKind.wrap .i64 (x6 + (1 : Int))) x7 x8 (bitv .or .u64 x9 (IntKind.wrap .u64 ((1 : Int) * 2 ^ (min (Int.toNat (IntKind.wrap .u64 (IntKind.wrap .i64 ((63 : Int) - x6)))) (IntKind.bits .u64))))) < meas_AheadMirrors_7 s0 s1 s2 x6 x7 x8 x9
              -- leaf 17 (meas)
              have hlt := of_decide_eq_true c3
              unfold meas_AheadMirrors_7
              rw [e1]
              omega
        ·
          have c15 : r11 = false := hcond
          clear hcond
          refine vg_call (C := C_hall) rfl rfl (xs := [.i s0, .i s1, .i s2, .i x6, .i (-1)]) rfl (fun hg => ?_) (fun rs hrs => ?_)
          ·
            exact trivial
          obtain ⟨r12, hr12, rfl⟩ := hall_res hrs
          clear hrs
          change Fm.holds _ _ (lk [.i s0, .i s1, .i s2, .i fl, .b r4, .i r5, .i x6, .i x7, .i x8, .i x9, .b r10, .b r11, .b r12])
          try rw [hall_dn] at hr12
          refine ⟨fun hcond => ?_, fun hcond => ?_⟩
          ·
            have c16 : r12 = true := hcond
            clear hcond
            refine ⟨fun hg => ?_, ?_⟩
            ·
              show (decide ((0 : Int) ≤ (IntKind.wrap .u64 (IntKind.wrap .i64 ((63 : Int) - x6))))) = true
              -- leaf 18 (ob)
              rw [wrap_u64]
              exact decide_eq_true (Int.emod_nonneg _ (by decide))
            refine ⟨?_, ?_⟩
            ·
              show inv_AheadMirrors_7 s0 s1 s2 (IntKind.wrap .i64 (x6 + (1 : Int))) x7 (bitv .or .u64 x8 (IntKind.wrap .u64 ((1 : Int) * 2 ^ (min (Int.toNat (IntKind.wrap .u64 (IntKind.wrap .i64 ((63 : Int) - x6)))) (IntKind.bits .u64))))) x9
              -- leaf 19 (back)
              have hlt := of_decide_eq_true c3
              rw [e1]
              refine ⟨by omega, by omega, ?_, ?_, ?_⟩
              · rw [j2]; first | exact (mir_yes j0 hlt (hr10.symm.trans (by assumption))).symm | exact (mir_no j0 hlt (hr10.symm.trans (by assumption))).symm
              · rw [j3]; first | exact (mir_yes j0 hlt (hr12.symm.trans (by assumption))).symm | exact (mir_no j0 hlt (hr12.symm.trans (by assumption))).symm
              · rw [j4]; first | exact (mir_yes j0 hlt (hr11.symm.trans (by assumption))).symm | exact (mir_no j0 hlt (hr11.symm.trans (by assumption))).symm
            ·
              show meas_AheadMirrors_7 s0 s1 s2 (IntKind.wrap .i64 (x6 + (1 : Int))) x7 (bitv .or .u64 x8 (IntKind.wrap .u64 ((1 : Int) * 2 ^ (min (Int.toNat (IntKind.wrap .u64 (IntKind.wrap .i64 ((63 : Int) - x6)))) (IntKind.bits .u64))))) x9 < meas_AheadMirrors_7 s0 s1 s2 x6 x7 x8 x9
              -- leaf 20 (meas)
              have hlt := of_decide_eq_true c3
              unfold meas_AheadMirrors_7
              rw [e1]
              omega
          ·
            have c17 : r12 = false := hcond
            clear hcond
            refine ⟨?_, ?_⟩
            ·
              show inv_AheadMirrors_7 s0 s1 s2 (IntKind.wrap .i64 (x6 + (1 : Int))) x7 x8 x9
              -- leaf 21 (back)
              have hlt := of_decide_eq_true c3
              rw [e1]
              refine ⟨by omega, by omega, ?_, ?_, ?_⟩
              · rw [j2]; first | exact (mir_yes j0 hlt (hr10.symm.trans (by assumption))).symm | exact (mir_no j0 hlt (hr10.symm.trans (by assumption))).symm
              · rw [j3]; first | exact (mir_yes j0 hlt (hr12.symm.trans (by assumption))).symm | exact (mir_no j0 hlt (hr12.symm.trans (by assumption))).symm
              · rw [j4]; first | exact (mir_yes j0 hlt (hr11.symm.trans (by assumption))).symm | exact (mir_no j0 hlt (hr11.symm.trans (by assumption))).symm
            ·
              show meas_AheadMirrors_7 s0 s1 s2 (IntKind.wrap .i64 (x6 + (1 : Int))) x7 x8 x9 < meas_AheadMirrors_7 s0 s1 s2 x6 x7 x8 x9
              -- leaf 22 (meas)
              have hlt := of_decide_eq_true c3
              unfold meas_AheadMirrors_7
              rw [e1]
              omega
    ·
      have c18 : (decide (x6 < (64 : Int))) = false := hcond
      clear hcond
      have hlt := of_decide_eq_false c18
      have h64 : x6.toNat = 64 := by omega
      rw [h64] at j2 j3 j4
      have e2 : IntKind.wrap .i64 (63 - r5) = 63 - r5 := wrap_in (by omega) (by omega)
      refine vg_call (C := C_near) rfl rfl (xs := [.i s0, .i s1, .i s2, .i r5]) rfl (fun hg => ?_) (fun rs hrs => ?_)
      ·
        exact trivial
      obtain ⟨r10, hr10, rfl⟩ := near_res hrs
      clear hrs
      change Fm.holds _ _ (lk [.i s0, .i s1, .i s2, .i fl, .b r4, .i r5, .i x6, .i x7, .i x8, .i x9, .i r10])
      refine vg_call (C := C_near) rfl rfl (xs := [.i x7, .i x8, .i x9, .i (IntKind.wrap .i64 ((63 : Int) - r5))]) rfl (fun hg => ?_) (fun rs hrs => ?_)
      ·
        exact trivial
      obtain ⟨r11, hr11, rfl⟩ := near_res hrs
      clear hrs
      change Fm.holds _ _ (lk [.i s0, .i s1, .i s2, .i fl, .b r4, .i r5, .i x6, .i x7, .i x8, .i x9, .i r10, .i r11])
      try rw [hall_up] at hr11
      try rw [e2, j2, j3, j4] at hr11
      refine vg_call (C := C_floors) rfl rfl (xs := [.i s0, .i s1, .i s2]) rfl (fun hg => ?_) (fun rs hrs => ?_)
      ·
        exact trivial
      obtain ⟨r12, hr12, rfl⟩ := floors_res hrs
      clear hrs
      change Fm.holds _ _ (lk [.i s0, .i s1, .i s2, .i fl, .b r4, .i r5, .i x6, .i x7, .i x8, .i x9, .i r10, .i r11, .l r12])
      try rw [hall_dn] at hr12
      refine vg_call (C := C_floors) rfl rfl (xs := [.i x7, .i x8, .i x9]) rfl (fun hg => ?_) (fun rs hrs => ?_)
      ·
        exact trivial
      obtain ⟨r13, hr13, rfl⟩ := floors_res hrs
      clear hrs
      change Fm.holds _ _ (lk [.i s0, .i s1, .i s2, .i fl, .b r4, .i r5, .i x6, .i x7, .i x8, .i x9, .i r10, .i r11, .l r12, .l r13])
      rw [j2, j3, j4] at hr13
      have hfl : flo (N (mirB s0 64)) (N (mirB s2 64)) (N (mirB s1 64)) 64 = ((flo s0 s1 s2 64).map (fun x => 63 - x)).reverse := flo_mir
      have hlen : (floL (N (mirB s0 64)) (N (mirB s2 64)) (N (mirB s1 64))).len = (floL s0 s1 s2).len := by
        rw [floL_len, floL_len, hfl, List.length_reverse, List.length_map]
      have h64' := @flo_len s0 s1 s2 64
      rw [← floL_len] at h64'
      refine ⟨fun hcond => ?_, fun hcond => ?_⟩
      ·
        have c19 : ((r12.len : Int) == (r13.len : Int)) = false := hcond
        clear hcond
        suffices hfin : (false) = (true) from (c_b hfin rfl)
        -- leaf 23 (ret)
        rw [hr12, hr13, hlen] at c19
        simp at c19
      ·
        have c20 : ((r12.len : Int) == (r13.len : Int)) = true := hcond
        clear hcond
        refine vg_loop rfl ?_ (fun xs hfit hi => ?_)
        ·
          show inv_AheadMirrors_22 r12 (0 : Int)
          -- leaf 24 (init)
          exact ⟨by omega, by omega⟩
        obtain ⟨x14, xs0, rfl, hfit0⟩ := fits_i hfit
        obtain rfl := fits_nil hfit0
        clear hfit hfit0
        replace hi : inv_AheadMirrors_22 r12 x14 := hi
        have hi22 := hi; clear hi
        change Fm.holds _ _ (lk [.i s0, .i s1, .i s2, .i fl, .b r4, .i r5, .i x6, .i x7, .i x8, .i x9, .i r10, .i r11, .l r12, .l r13, .i x14])
        obtain ⟨k0, k1⟩ := hi22
        rw [hr12] at k1
        have e3 : IntKind.wrap .i64 (x14 + 1) = x14 + 1 := wrap_in (by omega) (by omega)
        have e4 : IntKind.wrap .i64 ((r13.len : Int) - 1) = (r13.len : Int) - 1 := by rw [hr13, hlen]; exact wrap_in (by omega) (by omega)
        have e5 : IntKind.wrap .i64 ((r13.len : Int) - 1 - x14) = (r13.len : Int) - 1 - x14 := by rw [hr13, hlen]; exact wrap_in (by omega) (by omega)
        refine ⟨fun hcond => ?_, fun hcond => ?_⟩
        ·
          have c21 : (decide (x14 < (r12.len : Int))) = true := hcond
          clear hcond
          refine ⟨fun hg => ?_, ?_⟩
          ·
            show (decide ((0 : Int) ≤ (IntKind.wrap .i64 ((IntKind.wrap .i64 ((r13.len : Int) - (1 : Int))) - x14)))) = true
            -- leaf 25 (ob)
            have h := of_decide_eq_true c21
            rw [hr12] at h
            rw [e4, e5, hr13, hlen]
            simp; omega
          refine ⟨fun hg => ?_, ?_⟩
          ·
            show (decide ((IntKind.wrap .i64 ((IntKind.wrap .i64 ((r13.len : Int) - (1 : Int))) - x14)) < (r13.len : Int))) = true
            -- leaf 26 (ob)
            rw [e4, e5]
            simp; omega
          refine ⟨fun hg => ?_, ?_⟩
          ·
            show (decide ((0 : Int) ≤ x14)) = true
            -- leaf 27 (ob)
            simp; omega
          refine ⟨fun hcond => ?_, fun hcond => ?_⟩
          ·
            have c22 : ((r13.gi (Int.toNat (IntKind.wrap .i64 ((IntKind.wrap .i64 ((r13.len : Int) - (1 : Int))) - x14))) 0) == (IntKind.wrap .i64 ((63 : Int) - (r12.gi (Int.toNat x14) 0)))) = false := hcond
            clear hcond
            suffices hfin : (false) = (true) from (c_b hfin rfl)
            -- leaf 28 (ret)
            have h := of_decide_eq_true c21
            rw [hr12] at h
            have hg := flo_get (c := s0) (u := s1) (d := s2) (i := x14.toNat) (by rw [← floL_len]; omega)
            have hgr := anyb_range hg
            have hm := mir_get (l := flo s0 s1 s2 64) (i := x14.toNat) (by rw [← floL_len]; omega)
            rw [e4, e5, hr12, floL_gi, wrap_in (n := 63 - (flo s0 s1 s2 64).getD x14.toNat 0) (by omega) (by omega), hr13, hlen, floL_gi, hfl, floL_len] at c22
            rw [show (((flo s0 s1 s2 64).length : Int) - 1 - x14).toNat = (flo s0 s1 s2 64).length - 1 - x14.toNat by omega, hm] at c22
            simp at c22
          ·
            have c23 : ((r13.gi (Int.toNat (IntKind.wrap .i64 ((IntKind.wrap .i64 ((r13.len : Int) - (1 : Int))) - x14))) 0) == (IntKind.wrap .i64 ((63 : Int) - (r12.gi (Int.toNat x14) 0)))) = true := hcond
            clear hcond
            refine ⟨?_, ?_⟩
            ·
              show inv_AheadMirrors_22 r12 (IntKind.wrap .i64 (x14 + (1 : Int)))
              -- leaf 29 (back)
              have h := of_decide_eq_true c21
              rw [hr12] at h
              rw [e3]
              exact ⟨by omega, by rw [hr12]; omega⟩
            ·
              show meas_AheadMirrors_22 r12 (IntKind.wrap .i64 (x14 + (1 : Int))) < meas_AheadMirrors_22 r12 x14
              -- leaf 30 (meas)
              have h := of_decide_eq_true c21
              unfold meas_AheadMirrors_22
              rw [e3]
              omega
        ·
          have c24 : (decide (x14 < (r12.len : Int))) = false := hcond
          clear hcond
          refine vg_call (C := C_above) rfl rfl (xs := [.i s0, .i s1, .i s2, .i r5]) rfl (fun hg => ?_) (fun rs hrs => ?_)
          ·
            exact trivial
          obtain ⟨r15, hr15, rfl⟩ := above_res hrs
          clear hrs
          change Fm.holds _ _ (lk [.i s0, .i s1, .i s2, .i fl, .b r4, .i r5, .i x6, .i x7, .i x8, .i x9, .i r10, .i r11, .l r12, .l r13, .i x14, .b r15])
          refine vg_call (C := C_below) rfl rfl (xs := [.i x7, .i x8, .i x9, .i (IntKind.wrap .i64 ((63 : Int) - r5))]) rfl (fun hg => ?_) (fun rs hrs => ?_)
          ·
            exact trivial
          obtain ⟨r16, hr16, rfl⟩ := below_res hrs
          clear hrs
          change Fm.holds _ _ (lk [.i s0, .i s1, .i s2, .i fl, .b r4, .i r5, .i x6, .i x7, .i x8, .i x9, .i r10, .i r11, .l r12, .l r13, .i x14, .b r15, .b r16])
          rw [e2, j2, j3, j4] at hr16
          refine vg_call (C := C_below) rfl rfl (xs := [.i s0, .i s1, .i s2, .i r5]) rfl (fun hg => ?_) (fun rs hrs => ?_)
          ·
            exact trivial
          obtain ⟨r17, hr17, rfl⟩ := below_res hrs
          clear hrs
          change Fm.holds _ _ (lk [.i s0, .i s1, .i s2, .i fl, .b r4, .i r5, .i x6, .i x7, .i x8, .i x9, .i r10, .i r11, .l r12, .l r13, .i x14, .b r15, .b r16, .b r17])
          refine vg_call (C := C_above) rfl rfl (xs := [.i x7, .i x8, .i x9, .i (IntKind.wrap .i64 ((63 : Int) - r5))]) rfl (fun hg => ?_) (fun rs hrs => ?_)
          ·
            exact trivial
          obtain ⟨r18, hr18, rfl⟩ := above_res hrs
          clear hrs
          change Fm.holds _ _ (lk [.i s0, .i s1, .i s2, .i fl, .b r4, .i r5, .i x6, .i x7, .i x8, .i x9, .i r10, .i r11, .l r12, .l r13, .i x14, .b r15, .b r16, .b r17, .b r18])
          rw [e2, j2, j3, j4] at hr18
          suffices hfin : ((if (if (r15 == r16) = true then (r17 == r18) else false) = true then (if (r10 == (IntKind.wrap .i64 ((0 : Int) - r11))) = true then true else (if (r10 == (1 : Int)) = true then (r11 == (1 : Int)) else false)) else false)) = (true) from (c_b hfin rfl)
          -- leaf 31 (ret)
          have m1 : above (N (mirB s0 64)) (N (mirB s2 64)) (N (mirB s1 64)) (63 - r5) = below s0 s1 s2 r5 := mir_above
          have m2 : below (N (mirB s0 64)) (N (mirB s2 64)) (N (mirB s1 64)) (63 - r5) = above s0 s1 s2 r5 := mir_below
          rw [m2] at hr16
          rw [m1] at hr18
          have hnm := near_mir (c := s0) (u := s1) (d := s2) n1.1 n1.2
          have hr := @near_range (N (mirB s0 64)) (N (mirB s2 64)) (N (mirB s1 64)) (63 - r5)
          rw [← hr10, ← hr11] at hnm
          rw [← hr11] at hr
          rw [wrap_in (n := 0 - r11) (by omega) (by omega), hr15, hr16, hr17, hr18]
          rcases hnm with h | h
          · have : r10 = 0 - r11 := by omega
            simp [this]
          · simp [h.1, h.2]
end Go.Proofs.YtppnpmpocnpgaaaDoor
