import Derived.Test.YtppnpmpocnpgaaaDoorVPlanOne
namespace Go.Proofs.YtppnpmpocnpgaaaDoor
open Go.Vg
set_option linter.unusedVariables false
set_option linter.unusedSimpArgs false
open Go

/-- Stops with one hall call alone. -/
theorem one_any {to w m : Int} (h0 : 0 ≤ to) (h1 : to < 64) (hw : w = 1 ∨ w = -1) : anyb 0 (put1 0 to (okf to && w == 1)) (put1 0 to (okf to && w == -1)) m = decide (m = to) := by
  have hok : okf to = true := okf_iff.2 ⟨h0, h1⟩
  unfold anyb allB
  have e : ∀ c : Bool, B (put1 0 to c) = if c = true then oneB to else 0#64 := fun c => by
    cases c
    · rfl
    · simp only [put1, if_true, B_N]; rw [B_zero]; simp
  rw [e, e, hok, B_zero]
  by_cases hm : okf m = true
  · rw [hm]
    have hm' := okf_iff.1 hm
    rcases hw with rfl | rfl
    · simp [oneB_bit, hok]; omega
    · simp [oneB_bit, hok]; omega
  · have hm2 : okf m = false := by simpa using hm
    have : m ≠ to := fun e => hm (e ▸ hok)
    simp [hm2, this]
theorem one_hall {to w n x : Int} (h0 : 0 ≤ to) (h1 : to < 64) (hw : w = 1 ∨ w = -1) : hallb (put1 0 to (okf to && w == 1)) (put1 0 to (okf to && w == -1)) n x = (decide (n = to) && (x == w)) := by
  have hok : okf to = true := okf_iff.2 ⟨h0, h1⟩
  have hz : ∀ n, isb 0 n = false := fun n => by unfold isb; rw [B_zero]; simp
  rw [hallb, put1_bit, put1_bit, hz, hok]
  rcases hw with rfl | rfl <;> by_cases hx1 : x = 1 <;> by_cases hx2 : x = -1 <;> simp_all <;> exact Bool.and_comm _ _
theorem one_above {to w n : Int} (h0 : 0 ≤ to) (h1 : to < 64) (hw : w = 1 ∨ w = -1) : above 0 (put1 0 to (okf to && w == 1)) (put1 0 to (okf to && w == -1)) n = decide (n < to) := by
  rw [Bool.eq_iff_iff, above_iff]
  simp only [one_any h0 h1 hw, decide_eq_true_eq]
  exact ⟨fun ⟨m, h, e⟩ => e ▸ h, fun h => ⟨to, h, rfl⟩⟩
theorem one_below {to w n : Int} (h0 : 0 ≤ to) (h1 : to < 64) (hw : w = 1 ∨ w = -1) : below 0 (put1 0 to (okf to && w == 1)) (put1 0 to (okf to && w == -1)) n = decide (to < n) := by
  rw [Bool.eq_iff_iff, below_iff]
  simp only [one_any h0 h1 hw, decide_eq_true_eq]
  exact ⟨fun ⟨m, h, e⟩ => e ▸ h, fun h => ⟨to, h, rfl⟩⟩
theorem one_near {to w n : Int} (h0 : 0 ≤ to) (h1 : to < 64) (hw : w = 1 ∨ w = -1) (hn0 : 0 ≤ n) (hn : n < 64) (hne : n ≠ to) :
    near 0 (put1 0 to (okf to && w == 1)) (put1 0 to (okf to && w == -1)) n = if n < to then 1 else -1 := by
  have hc : max (-1) (min n 64) = n := by omega
  split
  · refine near_up (k := to - n) (by omega) (fun j h2 h3 => ?_) ?_
    · rw [hc, one_any h0 h1 hw, one_any h0 h1 hw]; simp; omega
    · rw [hc, one_any h0 h1 hw]; simp; omega
  · refine near_dn (k := n - to) (by omega) (fun j h2 h3 => ?_) ?_ ?_
    · rw [hc, one_any h0 h1 hw, one_any h0 h1 hw]; simp; omega
    · rw [hc, one_any h0 h1 hw]; simp; omega
    · rw [hc, one_any h0 h1 hw]; simp; omega
theorem one_turn_at {to w dir : Int} (h0 : 0 ≤ to) (h1 : to < 64) (hw : w = 1 ∨ w = -1) (hd : -1 ≤ dir ∧ dir ≤ 1) :
    turn 0 (put1 0 to (okf to && w == 1)) (put1 0 to (okf to && w == -1)) to dir = w := by
  unfold turn way toward
  simp only [one_hall h0 h1 hw, one_above h0 h1 hw, one_below h0 h1 hw]
  have : dir = -1 ∨ dir = 0 ∨ dir = 1 := by omega
  rcases hw with rfl | rfl <;> rcases this with rfl | rfl | rfl <;> simp
theorem one_turn_off {to w n dir : Int} (h0 : 0 ≤ to) (h1 : to < 64) (hw : w = 1 ∨ w = -1) (hd : -1 ≤ dir ∧ dir ≤ 1) (hn0 : 0 ≤ n) (hn : n < 64) (hne : n ≠ to) :
    turn 0 (put1 0 to (okf to && w == 1)) (put1 0 to (okf to && w == -1)) n dir = if n < to then 1 else -1 := by
  unfold turn way toward
  simp only [one_hall h0 h1 hw, one_above h0 h1 hw, one_below h0 h1 hw, one_near h0 h1 hw hn0 hn hne]
  have : dir = -1 ∨ dir = 0 ∨ dir = 1 := by omega
  by_cases hlt : n < to
  · have h3 : ¬ to < n := by omega
    rcases this with rfl | rfl | rfl <;> simp [hlt, h3, hne]
  · have h3 : to < n := by omega
    rcases this with rfl | rfl | rfl <;> simp [hlt, h3, hne]


theorem PlanOne_sound : C_PlanOne.Sound Tryd.prog G 9 := by
  refine fn_ok mixed stable tbl_PlanOne [] Tryd.func9 (by kernel_rfl) phi_PlanOne vc_PlanOne ⟨number_sound, put_sound, first15_sound, planat_sound, trivial⟩ (fun _ _ _ => False) (fun _ _ _ => 0) ?_
  intro ls hp
  obtain ⟨frm, to, dir, way, rfl, hpre⟩ := PlanOne_pre hp
  clear hp
  rw [envOf_lk]
  unfold phi_PlanOne
  refine vg_call (C := C_first15) rfl rfl (xs := []) rfl (fun hg => ?_) (fun rs hrs => ?_)
  ·
    exact trivial
  obtain ⟨r4, hr4, rfl⟩ := first15_res hrs
  clear hrs
  change Fm.holds _ _ (lk [.i frm, .i to, .i dir, .i way, .b r4])
  refine ⟨fun hcond => ?_, fun hcond => ?_⟩
  ·
    have c1 : r4 = false := hcond
    clear hcond
    suffices hfin : (false) = (true) from (c_b hfin rfl)
    -- leaf 1 (ret)
    simp_all
  ·
    have c2 : r4 = true := hcond
    clear hcond
    have n1 := number_range frm (b := 64) (by omega)
    have n2 := number_range to (b := 64) (by omega)
    have n3 := number_range way (b := 2) (by omega)
    have n4 := number_range dir (b := 3) (by omega)
    refine vg_call (C := C_number) rfl rfl (xs := [.i frm, .i (64 : Int)]) rfl (fun hg => ?_) (fun rs hrs => ?_)
    ·
      refine number_mk ?_
      -- leaf 2 (pre)
      omega
    obtain ⟨r5, hr5, rfl⟩ := number_res hrs
    clear hrs
    change Fm.holds _ _ (lk [.i frm, .i to, .i dir, .i way, .b r4, .i r5])
    rw [← hr5] at n1
    refine vg_call (C := C_number) rfl rfl (xs := [.i to, .i (64 : Int)]) rfl (fun hg => ?_) (fun rs hrs => ?_)
    ·
      refine number_mk ?_
      -- leaf 3 (pre)
      omega
    obtain ⟨r6, hr6, rfl⟩ := number_res hrs
    clear hrs
    change Fm.holds _ _ (lk [.i frm, .i to, .i dir, .i way, .b r4, .i r5, .i r6])
    rw [← hr6] at n2
    refine vg_call (C := C_number) rfl rfl (xs := [.i way, .i (2 : Int)]) rfl (fun hg => ?_) (fun rs hrs => ?_)
    ·
      refine number_mk ?_
      -- leaf 4 (pre)
      omega
    obtain ⟨r7, hr7, rfl⟩ := number_res hrs
    clear hrs
    change Fm.holds _ _ (lk [.i frm, .i to, .i dir, .i way, .b r4, .i r5, .i r6, .i r7])
    rw [← hr7] at n3
    have e1 : IntKind.wrap .i64 (IntKind.wrap .i64 (2 * r7) - 1) = 2 * r7 - 1 := by rw [wrap_in (n := 2 * r7) (by omega) (by omega), wrap_in (by omega) (by omega)]
    have hw : 2 * r7 - 1 = 1 ∨ 2 * r7 - 1 = -1 := by omega
    refine vg_call (C := C_number) rfl rfl (xs := [.i dir, .i (3 : Int)]) rfl (fun hg => ?_) (fun rs hrs => ?_)
    ·
      refine number_mk ?_
      -- leaf 5 (pre)
      omega
    obtain ⟨r8, hr8, rfl⟩ := number_res hrs
    clear hrs
    change Fm.holds _ _ (lk [.i frm, .i to, .i dir, .i way, .b r4, .i r5, .i r6, .i r7, .i r8])
    rw [← hr8] at n4
    have e2 : IntKind.wrap .i64 (r8 - 1) = r8 - 1 := wrap_in (by omega) (by omega)
    refine vg_call (C := C_put) rfl rfl (xs := [.i (0 : Int), .i (0 : Int), .i (0 : Int), .i r6, .i (IntKind.wrap .i64 ((IntKind.wrap .i64 ((2 : Int) * r7)) - (1 : Int)))]) rfl (fun hg => ?_) (fun rs hrs => ?_)
    ·
      exact trivial
    obtain ⟨r9, r10, r11, hr9, hr10, hr11, rfl⟩ := put_res hrs
    clear hrs
    change Fm.holds _ _ (lk [.i frm, .i to, .i dir, .i way, .b r4, .i r5, .i r6, .i r7, .i r8, .i r9, .i r10, .i r11])
    refine vg_call (C := C_planat) rfl rfl (xs := [.i r9, .i r10, .i r11, .i r5, .i (IntKind.wrap .i64 (r8 - (1 : Int)))]) rfl (fun hg => ?_) (fun rs hrs => ?_)
    ·
      exact trivial
    obtain ⟨r12, r13, r14, hr12, hr13, hr14, rfl⟩ := planat_res hrs
    clear hrs
    change Fm.holds _ _ (lk [.i frm, .i to, .i dir, .i way, .b r4, .i r5, .i r6, .i r7, .i r8, .i r9, .i r10, .i r11, .b r12, .i r13, .i r14])
    rw [hr9, hr10, hr11, e1, e2] at hr12 hr13 hr14
    have hok : okP r5 (r8 - 1) = true := okP_iff.2 ⟨by omega, by omega⟩
    have hz : isb 0 r5 = false := by unfold isb; rw [B_zero]; simp
    simp only [stopP, dirP, moveP, hok, hz, Bool.true_and, if_true, Bool.false_or] at hr12 hr13 hr14
    refine ⟨fun hcond => ?_, fun hcond => ?_⟩
    ·
      have c3 : (r5 == r6) = true := hcond
      clear hcond
      suffices hfin : ((if (if r12 = true then (r13 == (IntKind.wrap .i64 ((IntKind.wrap .i64 ((2 : Int) * r7)) - (1 : Int)))) else false) = true then (r14 == (0 : Int)) else false)) = (true) from (c_b hfin rfl)
      -- leaf 6 (ret)
      have he : r5 = r6 := by simpa using c3
      rw [he, one_turn_at n2.1 n2.2 hw (by omega)] at hr12 hr13 hr14
      rw [one_hall n2.1 n2.2 hw] at hr12 hr14
      rw [e1, hr12, hr13, hr14]
      simp
    ·
      have c4 : (r5 == r6) = false := hcond
      clear hcond
      refine ⟨fun hcond => ?_, fun hcond => ?_⟩
      ·
        have c5 : (decide (r6 < r5)) = true := hcond
        clear hcond
        suffices hfin : ((if (if (!r12) = true then (r13 == (-1)) else false) = true then (r14 == (-1)) else false)) = (true) from (c_b hfin rfl)
        -- leaf 7 (ret)
        have he : r5 ≠ r6 := by simpa using c4
        rw [one_turn_off n2.1 n2.2 hw (by omega) n1.1 n1.2 he] at hr12 hr13 hr14
        rw [one_hall n2.1 n2.2 hw] at hr12 hr14
        have hl := of_decide_eq_true c5
        have hl2 : ¬ r5 < r6 := by omega
        rw [if_neg hl2] at hr12 hr13
        rw [decide_eq_false he] at hr12 hr14
        simp [hl2] at hr12 hr14
        simp [hr12, hr13, hr14]
      ·
        have c6 : (decide (r6 < r5)) = false := hcond
        clear hcond
        suffices hfin : ((if (if (!r12) = true then (r13 == (1 : Int)) else false) = true then (r14 == (1 : Int)) else false)) = (true) from (c_b hfin rfl)
        -- leaf 8 (ret)
        have he : r5 ≠ r6 := by simpa using c4
        rw [one_turn_off n2.1 n2.2 hw (by omega) n1.1 n1.2 he] at hr12 hr13 hr14
        rw [one_hall n2.1 n2.2 hw] at hr12 hr14
        have hl := of_decide_eq_false c6
        have hl2 : r5 < r6 := by omega
        rw [if_pos hl2] at hr12 hr13
        rw [decide_eq_false he] at hr12 hr14
        simp [hl2] at hr12 hr14
        simp [hr12, hr13, hr14]
end Go.Proofs.YtppnpmpocnpgaaaDoor
