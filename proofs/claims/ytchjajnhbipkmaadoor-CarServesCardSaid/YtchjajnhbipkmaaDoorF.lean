import Derived.Test.YtchjajnhbipkmaaDoorFa
namespace Go.Proofs.YtchjajnhbipkmaaDoor
open Go.Vg
set_option linter.unusedVariables false
set_option linter.unusedSimpArgs false
open Go
def C_rput : Ctr := ⟨[.agg [.int .u64, .int .u64, .int .u64], .agg [.int .i64, .int .i64]], [.agg [.int .u64, .int .u64, .int .u64]],
  fun | [.i s0, .i s1, .i s2, .i fl, .i dir] => N (B s1) = s1 ∧ N (B s2) = s2 | _ => False,
  fun | [.i s0, .i s1, .i s2, .i fl, .i dir] => [.i (s0), .i (put1 s1 fl (okf fl && dir == 1)), .i (put1 s2 fl (okf fl && dir == -1))] | _ => []⟩
theorem rput_pre {ls : List Leaf} (h_ : C_rput.pre ls) : ∃ (s0 : Int) (s1 : Int) (s2 : Int) (fl : Int) (dir : Int), ls = [.i s0, .i s1, .i s2, .i fl, .i dir] ∧ (N (B s1) = s1 ∧ N (B s2) = s2) := by
  unfold C_rput at h_; dsimp only at h_; split at h_
  · exact ⟨_, _, _, _, _, rfl, h_⟩
  · exact h_.elim
theorem rput_mk {s0 : Int} {s1 : Int} {s2 : Int} {fl : Int} {dir : Int} (h_ : N (B s1) = s1 ∧ N (B s2) = s2) : C_rput.pre [.i s0, .i s1, .i s2, .i fl, .i dir] := h_
theorem rput_res {s0 : Int} {s1 : Int} {s2 : Int} {fl : Int} {dir : Int} {rs_ : List Leaf} (h_ : rs_ = C_rput.fn [.i s0, .i s1, .i s2, .i fl, .i dir]) : ∃ (q0 : Int) (q1 : Int) (q2 : Int), q0 = (s0) ∧ q1 = (put1 s1 fl (okf fl && dir == 1)) ∧ q2 = (put1 s2 fl (okf fl && dir == -1)) ∧ rs_ = [.i q0, .i q1, .i q2] := ⟨_, _, _, rfl, rfl, rfl, h_⟩
def phi_rput : Fm := (.and (.imp (.eq (.v 4) (.i 1)) .true (.call 66 [] [(.i (.v 3))] 5 (.and (.imp (.eq (.v 4) (.i (Int.negSucc 0))) .true (.call 66 [] [(.i (.v 3))] 6 (.ret [(.i (.v 0)), (.i (.bit .or .u64 (.v 1) (.v 5))), (.i (.bit .or .u64 (.v 2) (.v 6)))]))) (.imp (.eq (.v 4) (.i (Int.negSucc 0))) .false (.ret [(.i (.v 0)), (.i (.bit .or .u64 (.v 1) (.v 5))), (.i (.v 2))]))))) (.imp (.eq (.v 4) (.i 1)) .false (.and (.imp (.eq (.v 4) (.i (Int.negSucc 0))) .true (.call 66 [] [(.i (.v 3))] 5 (.ret [(.i (.v 0)), (.i (.v 1)), (.i (.bit .or .u64 (.v 2) (.v 5)))]))) (.imp (.eq (.v 4) (.i (Int.negSucc 0))) .false (.ret [(.i (.v 0)), (.i (.v 1)), (.i (.v 2))])))))
def tbl_rput : List (Nat × Ctr) := [(66, C_rone)]
theorem vc_rput : vcg Tryd.prog (sigT tbl_rput) [] Tryd.f53 C_rput.params C_rput.res = some phi_rput := by kernel_rfl
--SPLIT
theorem rput_sound : C_rput.Sound Tryd.prog G 53 := by
  refine fn_ok mixed stable tbl_rput [] Tryd.func53 (by kernel_rfl) phi_rput vc_rput ⟨rone_sound, trivial⟩ (fun _ _ _ => False) (fun _ _ _ => 0) ?_
  intro ls hp
  obtain ⟨s0, s1, s2, fl, dir, rfl, hpre⟩ := rput_pre hp
  clear hp
  rw [envOf_lk]
  unfold phi_rput
  refine ⟨fun hcond => ?_, fun hcond => ?_⟩
  ·
    have c1 : (dir == (1 : Int)) = true := hcond
    clear hcond
    refine vg_call (C := C_rone) rfl rfl (xs := [.i fl]) rfl (fun hg => ?_) (fun rs hrs => ?_)
    ·
      exact trivial
    obtain ⟨r5, hr5, rfl⟩ := rone_res hrs
    clear hrs
    change Fm.holds _ _ (lk [.i s0, .i s1, .i s2, .i fl, .i dir, .i r5])
    refine ⟨fun hcond => ?_, fun hcond => ?_⟩
    ·
      have c2 : (dir == (-1)) = true := hcond
      clear hcond
      refine vg_call (C := C_rone) rfl rfl (xs := [.i fl]) rfl (fun hg => ?_) (fun rs hrs => ?_)
      ·
        exact trivial
      obtain ⟨r6, hr6, rfl⟩ := rone_res hrs
      clear hrs
      change Fm.holds _ _ (lk [.i s0, .i s1, .i s2, .i fl, .i dir, .i r5, .i r6])
      suffices hfin : (s0) = (s0) ∧ ((bitv .or .u64 s1 r5)) = (put1 s1 fl (okf fl && dir == 1)) ∧ ((bitv .or .u64 s2 r6)) = (put1 s2 fl (okf fl && dir == -1)) from (c_i hfin.1 (c_i hfin.2.1 (c_i hfin.2.2 rfl)))
      -- leaf 1 (ret)
      simp at c1 c2
      omega
    ·
      have c3 : (dir == (-1)) = false := hcond
      clear hcond
      suffices hfin : (s0) = (s0) ∧ ((bitv .or .u64 s1 r5)) = (put1 s1 fl (okf fl && dir == 1)) ∧ (s2) = (put1 s2 fl (okf fl && dir == -1)) from (c_i hfin.1 (c_i hfin.2.1 (c_i hfin.2.2 rfl)))
      -- leaf 2 (ret)
      rw [hr5, bv_or, B_N, put1_zero hpre.1 true, c1, c3]
      simp [put1]
  ·
    have c4 : (dir == (1 : Int)) = false := hcond
    clear hcond
    refine ⟨fun hcond => ?_, fun hcond => ?_⟩
    ·
      have c5 : (dir == (-1)) = true := hcond
      clear hcond
      refine vg_call (C := C_rone) rfl rfl (xs := [.i fl]) rfl (fun hg => ?_) (fun rs hrs => ?_)
      ·
        exact trivial
      obtain ⟨r5, hr5, rfl⟩ := rone_res hrs
      clear hrs
      change Fm.holds _ _ (lk [.i s0, .i s1, .i s2, .i fl, .i dir, .i r5])
      suffices hfin : (s0) = (s0) ∧ (s1) = (put1 s1 fl (okf fl && dir == 1)) ∧ ((bitv .or .u64 s2 r5)) = (put1 s2 fl (okf fl && dir == -1)) from (c_i hfin.1 (c_i hfin.2.1 (c_i hfin.2.2 rfl)))
      -- leaf 3 (ret)
      rw [hr5, bv_or, B_N, put1_zero hpre.2 true, c4, c5]
      simp [put1]
    ·
      have c6 : (dir == (-1)) = false := hcond
      clear hcond
      suffices hfin : (s0) = (s0) ∧ (s1) = (put1 s1 fl (okf fl && dir == 1)) ∧ (s2) = (put1 s2 fl (okf fl && dir == -1)) from (c_i hfin.1 (c_i hfin.2.1 (c_i hfin.2.2 rfl)))
      -- leaf 4 (ret)
      rw [c4, c6]
      simp [put1]
def C_rat : Ctr := ⟨[.agg [.int .u64, .int .u64, .int .u64], .one (.int .i64)], [.one (.bool)],
  fun | [.i _, .i _, .i _, .i _] => True | _ => False,
  fun | [.i s0, .i _, .i _, .i n] => [.b (isb s0 n)] | _ => []⟩
theorem rat_pre {ls : List Leaf} (h_ : C_rat.pre ls) : ∃ (s0 : Int) (s1 : Int) (s2 : Int) (n : Int), ls = [.i s0, .i s1, .i s2, .i n] := by
  unfold C_rat at h_; dsimp only at h_; split at h_
  · exact ⟨_, _, _, _, rfl⟩
  · exact h_.elim
theorem rat_res {s0 : Int} {s1 : Int} {s2 : Int} {n : Int} {rs_ : List Leaf} (h_ : rs_ = C_rat.fn [.i s0, .i s1, .i s2, .i n]) : ∃ (q0 : Bool), q0 = (isb s0 n) ∧ rs_ = [.b q0] := ⟨_, rfl, h_⟩
def phi_rat : Fm := (.call 66 [] [(.i (.v 3))] 4 (.ret [(.b (.not (.eq (.bit .and .u64 (.v 0) (.v 4)) (.i 0))))]))
def tbl_rat : List (Nat × Ctr) := [(66, C_rone)]
theorem vc_rat : vcg Tryd.prog (sigT tbl_rat) [] Tryd.f74 C_rat.params C_rat.res = some phi_rat := by kernel_rfl
--SPLIT
theorem rat_sound : C_rat.Sound Tryd.prog G 74 := by
  refine fn_ok mixed stable tbl_rat [] Tryd.func74 (by kernel_rfl) phi_rat vc_rat ⟨rone_sound, trivial⟩ (fun _ _ _ => False) (fun _ _ _ => 0) ?_
  intro ls hp
  obtain ⟨s0, s1, s2, n, rfl⟩ := rat_pre hp
  clear hp
  rw [envOf_lk]
  unfold phi_rat
  refine vg_call (C := C_rone) rfl rfl (xs := [.i n]) rfl (fun hg => ?_) (fun rs hrs => ?_)
  ·
    exact trivial
  obtain ⟨r4, hr4, rfl⟩ := rone_res hrs
  clear hrs
  change Fm.holds _ _ (lk [.i s0, .i s1, .i s2, .i n, .i r4])
  suffices hfin : ((!((bitv .and .u64 s0 r4) == (0 : Int)))) = (isb s0 n) from (c_b hfin rfl)
  -- leaf 1 (ret)
  subst_vars
  rw [bv_and, B_N]
  exact and_oneB_N _ _
def C_rhall : Ctr := ⟨[.agg [.int .u64, .int .u64, .int .u64], .one (.int .i64), .one (.int .i64)], [.one (.bool)],
  fun | [.i _, .i _, .i _, .i _, .i _] => True | _ => False,
  fun | [.i _, .i s1, .i s2, .i n, .i dir] => [.b (hallb s1 s2 n dir)] | _ => []⟩
theorem rhall_pre {ls : List Leaf} (h_ : C_rhall.pre ls) : ∃ (s0 : Int) (s1 : Int) (s2 : Int) (n : Int) (dir : Int), ls = [.i s0, .i s1, .i s2, .i n, .i dir] := by
  unfold C_rhall at h_; dsimp only at h_; split at h_
  · exact ⟨_, _, _, _, _, rfl⟩
  · exact h_.elim
theorem rhall_res {s0 : Int} {s1 : Int} {s2 : Int} {n : Int} {dir : Int} {rs_ : List Leaf} (h_ : rs_ = C_rhall.fn [.i s0, .i s1, .i s2, .i n, .i dir]) : ∃ (q0 : Bool), q0 = (hallb s1 s2 n dir) ∧ rs_ = [.b q0] := ⟨_, rfl, h_⟩
def phi_rhall : Fm := (.call 66 [((.eq (.v 4) (.i 1)), .true)] [(.i (.v 3))] 5 (.call 66 [((.eq (.v 4) (.i (Int.negSucc 0))), .true), ((.ite (.eq (.v 4) (.i 1)) (.not (.eq (.bit .and .u64 (.v 1) (.v 5)) (.i 0))) (.t .false)), .false)] [(.i (.v 3))] 6 (.ret [(.b (.ite (.ite (.eq (.v 4) (.i 1)) (.not (.eq (.bit .and .u64 (.v 1) (.v 5)) (.i 0))) (.t .false)) (.t .true) (.ite (.eq (.v 4) (.i (Int.negSucc 0))) (.not (.eq (.bit .and .u64 (.v 2) (.v 6)) (.i 0))) (.t .false))))])))
def tbl_rhall : List (Nat × Ctr) := [(66, C_rone)]
theorem vc_rhall : vcg Tryd.prog (sigT tbl_rhall) [] Tryd.f75 C_rhall.params C_rhall.res = some phi_rhall := by kernel_rfl
--SPLIT
theorem rhall_sound : C_rhall.Sound Tryd.prog G 75 := by
  refine fn_ok mixed stable tbl_rhall [] Tryd.func75 (by kernel_rfl) phi_rhall vc_rhall ⟨rone_sound, trivial⟩ (fun _ _ _ => False) (fun _ _ _ => 0) ?_
  intro ls hp
  obtain ⟨s0, s1, s2, n, dir, rfl⟩ := rhall_pre hp
  clear hp
  rw [envOf_lk]
  unfold phi_rhall
  refine vg_call (C := C_rone) rfl rfl (xs := [.i n]) rfl (fun hg => ?_) (fun rs hrs => ?_)
  ·
    exact trivial
  obtain ⟨r5, hr5, rfl⟩ := rone_res hrs
  clear hrs
  change Fm.holds _ _ (lk [.i s0, .i s1, .i s2, .i n, .i dir, .i r5])
  refine vg_call (C := C_rone) rfl rfl (xs := [.i n]) rfl (fun hg => ?_) (fun rs hrs => ?_)
  ·
    exact trivial
  obtain ⟨r6, hr6, rfl⟩ := rone_res hrs
  clear hrs
  change Fm.holds _ _ (lk [.i s0, .i s1, .i s2, .i n, .i dir, .i r5, .i r6])
  suffices hfin : ((if (if (dir == (1 : Int)) = true then (!((bitv .and .u64 s1 r5) == (0 : Int))) else false) = true then true else (if (dir == (-1)) = true then (!((bitv .and .u64 s2 r6) == (0 : Int))) else false))) = (hallb s1 s2 n dir) from (c_b hfin rfl)
  -- leaf 1 (ret)
  subst_vars
  simp only [bv_and, B_N, and_oneB_N, hallb]
  grind
def C_rany : Ctr := ⟨[.agg [.int .u64, .int .u64, .int .u64], .one (.int .i64)], [.one (.bool)],
  fun | [.i _, .i _, .i _, .i _] => True | _ => False,
  fun | [.i s0, .i s1, .i s2, .i n] => [.b (anyb s0 s1 s2 n)] | _ => []⟩
theorem rany_pre {ls : List Leaf} (h_ : C_rany.pre ls) : ∃ (s0 : Int) (s1 : Int) (s2 : Int) (n : Int), ls = [.i s0, .i s1, .i s2, .i n] := by
  unfold C_rany at h_; dsimp only at h_; split at h_
  · exact ⟨_, _, _, _, rfl⟩
  · exact h_.elim
theorem rany_res {s0 : Int} {s1 : Int} {s2 : Int} {n : Int} {rs_ : List Leaf} (h_ : rs_ = C_rany.fn [.i s0, .i s1, .i s2, .i n]) : ∃ (q0 : Bool), q0 = (anyb s0 s1 s2 n) ∧ rs_ = [.b q0] := ⟨_, rfl, h_⟩
def phi_rany : Fm := (.call 66 [] [(.i (.v 3))] 4 (.ret [(.b (.not (.eq (.bit .and .u64 (.bit .or .u64 (.bit .or .u64 (.v 0) (.v 1)) (.v 2)) (.v 4)) (.i 0))))]))
def tbl_rany : List (Nat × Ctr) := [(66, C_rone)]
theorem vc_rany : vcg Tryd.prog (sigT tbl_rany) [] Tryd.f91 C_rany.params C_rany.res = some phi_rany := by kernel_rfl
--SPLIT
theorem rany_sound : C_rany.Sound Tryd.prog G 91 := by
  refine fn_ok mixed stable tbl_rany [] Tryd.func91 (by kernel_rfl) phi_rany vc_rany ⟨rone_sound, trivial⟩ (fun _ _ _ => False) (fun _ _ _ => 0) ?_
  intro ls hp
  obtain ⟨s0, s1, s2, n, rfl⟩ := rany_pre hp
  clear hp
  rw [envOf_lk]
  unfold phi_rany
  refine vg_call (C := C_rone) rfl rfl (xs := [.i n]) rfl (fun hg => ?_) (fun rs hrs => ?_)
  ·
    exact trivial
  obtain ⟨r4, hr4, rfl⟩ := rone_res hrs
  clear hrs
  change Fm.holds _ _ (lk [.i s0, .i s1, .i s2, .i n, .i r4])
  suffices hfin : ((!((bitv .and .u64 (bitv .or .u64 (bitv .or .u64 s0 s1) s2) r4) == (0 : Int)))) = (anyb s0 s1 s2 n) from (c_b hfin rfl)
  -- leaf 1 (ret)
  subst_vars
  simp only [bv_or, bv_and, B_N]
  rw [N_ne]
  unfold bne
  rw [and_oneB, Bool.not_not]
  rfl
def C_rabove : Ctr := ⟨[.agg [.int .u64, .int .u64, .int .u64], .one (.int .i64)], [.one (.bool)],
  fun | [.i _, .i _, .i _, .i _] => True | _ => False,
  fun | [.i s0, .i s1, .i s2, .i n] => [.b (above s0 s1 s2 n)] | _ => []⟩
theorem rabove_pre {ls : List Leaf} (h_ : C_rabove.pre ls) : ∃ (s0 : Int) (s1 : Int) (s2 : Int) (n : Int), ls = [.i s0, .i s1, .i s2, .i n] := by
  unfold C_rabove at h_; dsimp only at h_; split at h_
  · exact ⟨_, _, _, _, rfl⟩
  · exact h_.elim
theorem rabove_res {s0 : Int} {s1 : Int} {s2 : Int} {n : Int} {rs_ : List Leaf} (h_ : rs_ = C_rabove.fn [.i s0, .i s1, .i s2, .i n]) : ∃ (q0 : Bool), q0 = (above s0 s1 s2 n) ∧ rs_ = [.b q0] := ⟨_, rfl, h_⟩
def inv_rabove_2 (s0 : Int) (s1 : Int) (s2 : Int) (n : Int) (f : Int) : Prop := 0 ≤ f ∧ f ≤ 64 ∧ ∀ m : Int, m < f → n < m → anyb s0 s1 s2 m = false
def meas_rabove_2 (s0 : Int) (s1 : Int) (s2 : Int) (n : Int) (f : Int) : Nat := (64 - f).toNat
def phi_rabove : Fm := (.loop 2 4 [0, 1, 2, 3] [(.i (.i 0))] [.i] (.and (.imp (.lt (.v 4) (.i 64)) .true (.call 91 [((.lt (.v 3) (.v 4)), .true)] [(.i (.v 0)), (.i (.v 1)), (.i (.v 2)), (.i (.v 4))] 5 (.and (.imp (.ite (.lt (.v 3) (.v 4)) (.v 5) (.t .false)) .true (.ret [(.b (.t .true))])) (.imp (.ite (.lt (.v 3) (.v 4)) (.v 5) (.t .false)) .false (.back 2 4 5 [0, 1, 2, 3] [(.i (.wrap .i64 (.add (.v 4) (.i 1))))]))))) (.imp (.lt (.v 4) (.i 64)) .false (.ret [(.b (.t .false))]))))
def tbl_rabove : List (Nat × Ctr) := [(91, C_rany)]
def inv_rabove : List Leaf → Nat → List Leaf → Prop := fun _ key xs => match key, xs with
  | 2, [.i s0, .i s1, .i s2, .i n, .i f] => inv_rabove_2 s0 s1 s2 n f
  | _, _ => False
def meas_rabove : List Leaf → Nat → List Leaf → Nat := fun _ key xs => match key, xs with
  | 2, [.i s0, .i s1, .i s2, .i n, .i f] => meas_rabove_2 s0 s1 s2 n f
  | _, _ => 0
theorem vc_rabove : vcg Tryd.prog (sigT tbl_rabove) [⟨2, [4, 6, 7, 8, 9, 10, 11, 12, 13, 14, 15, 16, 17], [5], [], [0, 1, 2, 3], some (3, [.i64]), []⟩] Tryd.f92 C_rabove.params C_rabove.res = some phi_rabove := by kernel_rfl
--SPLIT
theorem rabove_sound : C_rabove.Sound Tryd.prog G 92 := by
  refine fn_ok mixed stable tbl_rabove [⟨2, [4, 6, 7, 8, 9, 10, 11, 12, 13, 14, 15, 16, 17], [5], [], [0, 1, 2, 3], some (3, [.i64]), []⟩] Tryd.func92 (by kernel_rfl) phi_rabove vc_rabove ⟨rany_sound, trivial⟩ inv_rabove meas_rabove ?_
  intro ls hp
  obtain ⟨s0, s1, s2, n, rfl⟩ := rabove_pre hp
  clear hp
  rw [envOf_lk]
  unfold phi_rabove
  refine vg_loop rfl ?_ (fun xs hfit hi => ?_)
  ·
    show inv_rabove_2 s0 s1 s2 n (0 : Int)
    -- leaf 1 (init)
    refine ⟨by omega, by omega, fun m h1 h2 => ?_⟩
    cases h : anyb s0 s1 s2 m
    · rfl
    · have := anyb_range h; omega
  obtain ⟨x4, xs0, rfl, hfit0⟩ := fits_i hfit
  obtain rfl := fits_nil hfit0
  clear hfit hfit0
  replace hi : inv_rabove_2 s0 s1 s2 n x4 := hi
  have hi2 := hi; clear hi
  change Fm.holds _ _ (lk [.i s0, .i s1, .i s2, .i n, .i x4])
  obtain ⟨i0, i1, i2⟩ := hi2
  have e1 : IntKind.wrap .i64 (x4 + 1) = x4 + 1 := wrap_in (by omega) (by omega)
  refine ⟨fun hcond => ?_, fun hcond => ?_⟩
  ·
    have c1 : (decide (x4 < (64 : Int))) = true := hcond
    clear hcond
    refine vg_call (C := C_rany) rfl rfl (xs := [.i s0, .i s1, .i s2, .i x4]) rfl (fun hg => ?_) (fun rs hrs => ?_)
    ·
      exact trivial
    obtain ⟨r5, hr5, rfl⟩ := rany_res hrs
    clear hrs
    change Fm.holds _ _ (lk [.i s0, .i s1, .i s2, .i n, .i x4, .b r5])
    refine ⟨fun hcond => ?_, fun hcond => ?_⟩
    ·
      have c2 : (if (decide (n < x4)) = true then r5 else false) = true := hcond
      clear hcond
      suffices hfin : (true) = (above s0 s1 s2 n) from (c_b hfin rfl)
      -- leaf 2 (ret)
      rw [hr5] at c2
      have hn : n < x4 := by
        apply Classical.byContradiction
        intro h
        rw [decide_eq_false h] at c2
        simp at c2
      rw [decide_eq_true hn, if_pos rfl] at c2
      exact (above_iff.2 ⟨x4, hn, c2⟩).symm
    ·
      have c3 : (if (decide (n < x4)) = true then r5 else false) = false := hcond
      clear hcond
      refine ⟨?_, ?_⟩
      ·
        show inv_rabove_2 s0 s1 s2 n (IntKind.wrap .i64 (x4 + (1 : Int)))
        -- leaf 3 (back)
        have hlt := of_decide_eq_true c1
        rw [hr5] at c3
        rw [e1]
        refine ⟨by omega, by omega, fun m h1 h2 => ?_⟩
        by_cases hm : m = x4
        · subst hm
          rw [decide_eq_true h2, if_pos rfl] at c3
          exact c3
        · exact i2 m (by omega) h2
      ·
        show meas_rabove_2 s0 s1 s2 n (IntKind.wrap .i64 (x4 + (1 : Int))) < meas_rabove_2 s0 s1 s2 n x4
        -- leaf 4 (meas)
        have hlt := of_decide_eq_true c1
        unfold meas_rabove_2
        rw [e1]
        omega
  ·
    have c4 : (decide (x4 < (64 : Int))) = false := hcond
    clear hcond
    suffices hfin : (false) = (above s0 s1 s2 n) from (c_b hfin rfl)
    -- leaf 5 (ret)
    have hlt := of_decide_eq_false c4
    cases h : above s0 s1 s2 n
    · rfl
    · obtain ⟨m, h1, h2⟩ := above_iff.1 h
      have h3 := anyb_range h2
      rw [i2 m (by omega) h1] at h2
      cases h2
def C_rbelow : Ctr := ⟨[.agg [.int .u64, .int .u64, .int .u64], .one (.int .i64)], [.one (.bool)],
  fun | [.i _, .i _, .i _, .i _] => True | _ => False,
  fun | [.i s0, .i s1, .i s2, .i n] => [.b (below s0 s1 s2 n)] | _ => []⟩
theorem rbelow_pre {ls : List Leaf} (h_ : C_rbelow.pre ls) : ∃ (s0 : Int) (s1 : Int) (s2 : Int) (n : Int), ls = [.i s0, .i s1, .i s2, .i n] := by
  unfold C_rbelow at h_; dsimp only at h_; split at h_
  · exact ⟨_, _, _, _, rfl⟩
  · exact h_.elim
theorem rbelow_res {s0 : Int} {s1 : Int} {s2 : Int} {n : Int} {rs_ : List Leaf} (h_ : rs_ = C_rbelow.fn [.i s0, .i s1, .i s2, .i n]) : ∃ (q0 : Bool), q0 = (below s0 s1 s2 n) ∧ rs_ = [.b q0] := ⟨_, rfl, h_⟩
def inv_rbelow_2 (s0 : Int) (s1 : Int) (s2 : Int) (n : Int) (f : Int) : Prop := 0 ≤ f ∧ f ≤ 64 ∧ ∀ m : Int, m < f → m < n → anyb s0 s1 s2 m = false
def meas_rbelow_2 (s0 : Int) (s1 : Int) (s2 : Int) (n : Int) (f : Int) : Nat := (64 - f).toNat
def phi_rbelow : Fm := (.loop 2 4 [0, 1, 2, 3] [(.i (.i 0))] [.i] (.and (.imp (.lt (.v 4) (.i 64)) .true (.call 91 [((.lt (.v 4) (.v 3)), .true)] [(.i (.v 0)), (.i (.v 1)), (.i (.v 2)), (.i (.v 4))] 5 (.and (.imp (.ite (.lt (.v 4) (.v 3)) (.v 5) (.t .false)) .true (.ret [(.b (.t .true))])) (.imp (.ite (.lt (.v 4) (.v 3)) (.v 5) (.t .false)) .false (.back 2 4 5 [0, 1, 2, 3] [(.i (.wrap .i64 (.add (.v 4) (.i 1))))]))))) (.imp (.lt (.v 4) (.i 64)) .false (.ret [(.b (.t .false))]))))
def tbl_rbelow : List (Nat × Ctr) := [(91, C_rany)]
def inv_rbelow : List Leaf → Nat → List Leaf → Prop := fun _ key xs => match key, xs with
  | 2, [.i s0, .i s1, .i s2, .i n, .i f] => inv_rbelow_2 s0 s1 s2 n f
  | _, _ => False
def meas_rbelow : List Leaf → Nat → List Leaf → Nat := fun _ key xs => match key, xs with
  | 2, [.i s0, .i s1, .i s2, .i n, .i f] => meas_rbelow_2 s0 s1 s2 n f
  | _, _ => 0
theorem vc_rbelow : vcg Tryd.prog (sigT tbl_rbelow) [⟨2, [4, 6, 7, 8, 9, 10, 11, 12, 13, 14, 15, 16, 17], [5], [], [0, 1, 2, 3], some (3, [.i64]), []⟩] Tryd.f93 C_rbelow.params C_rbelow.res = some phi_rbelow := by kernel_rfl
--SPLIT
theorem rbelow_sound : C_rbelow.Sound Tryd.prog G 93 := by
  refine fn_ok mixed stable tbl_rbelow [⟨2, [4, 6, 7, 8, 9, 10, 11, 12, 13, 14, 15, 16, 17], [5], [], [0, 1, 2, 3], some (3, [.i64]), []⟩] Tryd.func93 (by kernel_rfl) phi_rbelow vc_rbelow ⟨rany_sound, trivial⟩ inv_rbelow meas_rbelow ?_
  intro ls hp
  obtain ⟨s0, s1, s2, n, rfl⟩ := rbelow_pre hp
  clear hp
  rw [envOf_lk]
  unfold phi_rbelow
  refine vg_loop rfl ?_ (fun xs hfit hi => ?_)
  ·
    show inv_rbelow_2 s0 s1 s2 n (0 : Int)
    -- leaf 1 (init)
    refine ⟨by omega, by omega, fun m h1 h2 => ?_⟩
    cases h : anyb s0 s1 s2 m
    · rfl
    · have := anyb_range h; omega
  obtain ⟨x4, xs0, rfl, hfit0⟩ := fits_i hfit
  obtain rfl := fits_nil hfit0
  clear hfit hfit0
  replace hi : inv_rbelow_2 s0 s1 s2 n x4 := hi
  have hi2 := hi; clear hi
  change Fm.holds _ _ (lk [.i s0, .i s1, .i s2, .i n, .i x4])
  obtain ⟨i0, i1, i2⟩ := hi2
  have e1 : IntKind.wrap .i64 (x4 + 1) = x4 + 1 := wrap_in (by omega) (by omega)
  refine ⟨fun hcond => ?_, fun hcond => ?_⟩
  ·
    have c1 : (decide (x4 < (64 : Int))) = true := hcond
    clear hcond
    refine vg_call (C := C_rany) rfl rfl (xs := [.i s0, .i s1, .i s2, .i x4]) rfl (fun hg => ?_) (fun rs hrs => ?_)
    ·
      exact trivial
    obtain ⟨r5, hr5, rfl⟩ := rany_res hrs
    clear hrs
    change Fm.holds _ _ (lk [.i s0, .i s1, .i s2, .i n, .i x4, .b r5])
    refine ⟨fun hcond => ?_, fun hcond => ?_⟩
    ·
      have c2 : (if (decide (x4 < n)) = true then r5 else false) = true := hcond
      clear hcond
      suffices hfin : (true) = (below s0 s1 s2 n) from (c_b hfin rfl)
      -- leaf 2 (ret)
      rw [hr5] at c2
      have hn : x4 < n := by
        apply Classical.byContradiction
        intro h
        rw [decide_eq_false h] at c2
        simp at c2
      rw [decide_eq_true hn, if_pos rfl] at c2
      exact (below_iff.2 ⟨x4, hn, c2⟩).symm
    ·
      have c3 : (if (decide (x4 < n)) = true then r5 else false) = false := hcond
      clear hcond
      refine ⟨?_, ?_⟩
      ·
        show inv_rbelow_2 s0 s1 s2 n (IntKind.wrap .i64 (x4 + (1 : Int)))
        -- leaf 3 (back)
        have hlt := of_decide_eq_true c1
        rw [hr5] at c3
        rw [e1]
        refine ⟨by omega, by omega, fun m h1 h2 => ?_⟩
        by_cases hm : m = x4
        · subst hm
          rw [decide_eq_true h2, if_pos rfl] at c3
          exact c3
        · exact i2 m (by omega) h2
      ·
        show meas_rbelow_2 s0 s1 s2 n (IntKind.wrap .i64 (x4 + (1 : Int))) < meas_rbelow_2 s0 s1 s2 n x4
        -- leaf 4 (meas)
        have hlt := of_decide_eq_true c1
        unfold meas_rbelow_2
        rw [e1]
        omega
  ·
    have c4 : (decide (x4 < (64 : Int))) = false := hcond
    clear hcond
    suffices hfin : (false) = (below s0 s1 s2 n) from (c_b hfin rfl)
    -- leaf 5 (ret)
    have hlt := of_decide_eq_false c4
    cases h : below s0 s1 s2 n
    · rfl
    · obtain ⟨m, h1, h2⟩ := below_iff.1 h
      have h3 := anyb_range h2
      rw [i2 m (by omega) h1] at h2
      cases h2
def C_rtoward : Ctr := ⟨[.agg [.int .u64, .int .u64, .int .u64], .one (.int .i64), .one (.int .i64)], [.one (.bool)],
  fun | [.i _, .i _, .i _, .i _, .i _] => True | _ => False,
  fun | [.i s0, .i s1, .i s2, .i n, .i dir] => [.b (toward s0 s1 s2 n dir)] | _ => []⟩
theorem rtoward_pre {ls : List Leaf} (h_ : C_rtoward.pre ls) : ∃ (s0 : Int) (s1 : Int) (s2 : Int) (n : Int) (dir : Int), ls = [.i s0, .i s1, .i s2, .i n, .i dir] := by
  unfold C_rtoward at h_; dsimp only at h_; split at h_
  · exact ⟨_, _, _, _, _, rfl⟩
  · exact h_.elim
theorem rtoward_res {s0 : Int} {s1 : Int} {s2 : Int} {n : Int} {dir : Int} {rs_ : List Leaf} (h_ : rs_ = C_rtoward.fn [.i s0, .i s1, .i s2, .i n, .i dir]) : ∃ (q0 : Bool), q0 = (toward s0 s1 s2 n dir) ∧ rs_ = [.b q0] := ⟨_, rfl, h_⟩
def phi_rtoward : Fm := (.call 92 [((.eq (.v 4) (.i 1)), .true)] [(.i (.v 0)), (.i (.v 1)), (.i (.v 2)), (.i (.v 3))] 5 (.call 93 [((.eq (.v 4) (.i (Int.negSucc 0))), .true), ((.ite (.eq (.v 4) (.i 1)) (.v 5) (.t .false)), .false)] [(.i (.v 0)), (.i (.v 1)), (.i (.v 2)), (.i (.v 3))] 6 (.ret [(.b (.ite (.ite (.eq (.v 4) (.i 1)) (.v 5) (.t .false)) (.t .true) (.ite (.eq (.v 4) (.i (Int.negSucc 0))) (.v 6) (.t .false))))])))
def tbl_rtoward : List (Nat × Ctr) := [(92, C_rabove), (93, C_rbelow)]
theorem vc_rtoward : vcg Tryd.prog (sigT tbl_rtoward) [] Tryd.f84 C_rtoward.params C_rtoward.res = some phi_rtoward := by kernel_rfl
--SPLIT
theorem rtoward_sound : C_rtoward.Sound Tryd.prog G 84 := by
  refine fn_ok mixed stable tbl_rtoward [] Tryd.func84 (by kernel_rfl) phi_rtoward vc_rtoward ⟨rabove_sound, rbelow_sound, trivial⟩ (fun _ _ _ => False) (fun _ _ _ => 0) ?_
  intro ls hp
  obtain ⟨s0, s1, s2, n, dir, rfl⟩ := rtoward_pre hp
  clear hp
  rw [envOf_lk]
  unfold phi_rtoward
  refine vg_call (C := C_rabove) rfl rfl (xs := [.i s0, .i s1, .i s2, .i n]) rfl (fun hg => ?_) (fun rs hrs => ?_)
  ·
    exact trivial
  obtain ⟨r5, hr5, rfl⟩ := rabove_res hrs
  clear hrs
  change Fm.holds _ _ (lk [.i s0, .i s1, .i s2, .i n, .i dir, .b r5])
  refine vg_call (C := C_rbelow) rfl rfl (xs := [.i s0, .i s1, .i s2, .i n]) rfl (fun hg => ?_) (fun rs hrs => ?_)
  ·
    exact trivial
  obtain ⟨r6, hr6, rfl⟩ := rbelow_res hrs
  clear hrs
  change Fm.holds _ _ (lk [.i s0, .i s1, .i s2, .i n, .i dir, .b r5, .b r6])
  suffices hfin : ((if (if (dir == (1 : Int)) = true then r5 else false) = true then true else (if (dir == (-1)) = true then r6 else false))) = (toward s0 s1 s2 n dir) from (c_b hfin rfl)
  -- leaf 1 (ret)
  subst_vars
  simp only [toward]
  grind
def C_rnear : Ctr := ⟨[.agg [.int .u64, .int .u64, .int .u64], .one (.int .i64)], [.one (.int .i64)],
  fun | [.i _, .i _, .i _, .i _] => True | _ => False,
  fun | [.i s0, .i s1, .i s2, .i n] => [.i (near s0 s1 s2 n)] | _ => []⟩
theorem rnear_pre {ls : List Leaf} (h_ : C_rnear.pre ls) : ∃ (s0 : Int) (s1 : Int) (s2 : Int) (n : Int), ls = [.i s0, .i s1, .i s2, .i n] := by
  unfold C_rnear at h_; dsimp only at h_; split at h_
  · exact ⟨_, _, _, _, rfl⟩
  · exact h_.elim
theorem rnear_res {s0 : Int} {s1 : Int} {s2 : Int} {n : Int} {rs_ : List Leaf} (h_ : rs_ = C_rnear.fn [.i s0, .i s1, .i s2, .i n]) : ∃ (q0 : Int), q0 = (near s0 s1 s2 n) ∧ rs_ = [.i q0] := ⟨_, rfl, h_⟩
def inv_rnear_5 (s0 : Int) (s1 : Int) (s2 : Int) (n : Int) (k : Int) : Prop := 1 ≤ k ∧ k ≤ 65 ∧ ∀ j : Int, 1 ≤ j → j < k → anyb s0 s1 s2 (max (-1) (min n 64) + j) = false ∧ anyb s0 s1 s2 (max (-1) (min n 64) - j) = false
def meas_rnear_5 (s0 : Int) (s1 : Int) (s2 : Int) (n : Int) (k : Int) : Nat := (65 - k).toNat
def phi_rnear : Fm := (.and (.imp (.lt (.v 3) (.i 0)) .true (.loop 5 4 [0, 1, 2, 3] [(.i (.i 1))] [.i] (.and (.imp (.le (.v 4) (.i 64)) .true (.call 91 [] [(.i (.v 0)), (.i (.v 1)), (.i (.v 2)), (.i (.wrap .i64 (.add (.i (Int.negSucc 0)) (.v 4))))] 5 (.and (.imp (.v 5) .true (.ret [(.i (.i 1))])) (.imp (.v 5) .false (.call 91 [] [(.i (.v 0)), (.i (.v 1)), (.i (.v 2)), (.i (.wrap .i64 (.sub (.i (Int.negSucc 0)) (.v 4))))] 6 (.and (.imp (.v 6) .true (.ret [(.i (.i (Int.negSucc 0)))])) (.imp (.v 6) .false (.back 5 4 5 [0, 1, 2, 3] [(.i (.wrap .i64 (.add (.v 4) (.i 1))))])))))))) (.imp (.le (.v 4) (.i 64)) .false (.ret [(.i (.i 0))]))))) (.imp (.lt (.v 3) (.i 0)) .false (.loop 5 4 [0, 1, 2, 3] [(.i (.i 1))] [.i] (.and (.imp (.le (.v 4) (.i 64)) .true (.call 91 [] [(.i (.v 0)), (.i (.v 1)), (.i (.v 2)), (.i (.wrap .i64 (.add (.ite (.lt (.i 64) (.v 3)) (.i 64) (.v 3)) (.v 4))))] 5 (.and (.imp (.v 5) .true (.ret [(.i (.i 1))])) (.imp (.v 5) .false (.call 91 [] [(.i (.v 0)), (.i (.v 1)), (.i (.v 2)), (.i (.wrap .i64 (.sub (.ite (.lt (.i 64) (.v 3)) (.i 64) (.v 3)) (.v 4))))] 6 (.and (.imp (.v 6) .true (.ret [(.i (.i (Int.negSucc 0)))])) (.imp (.v 6) .false (.back 5 4 5 [0, 1, 2, 3] [(.i (.wrap .i64 (.add (.v 4) (.i 1))))])))))))) (.imp (.le (.v 4) (.i 64)) .false (.ret [(.i (.i 0))]))))))
def tbl_rnear : List (Nat × Ctr) := [(91, C_rany)]
def inv_rnear : List Leaf → Nat → List Leaf → Prop := fun _ key xs => match key, xs with
  | 5, [.i s0, .i s1, .i s2, .i n, .i k] => inv_rnear_5 s0 s1 s2 n k
  | _, _ => False
def meas_rnear : List Leaf → Nat → List Leaf → Nat := fun _ key xs => match key, xs with
  | 5, [.i s0, .i s1, .i s2, .i n, .i k] => meas_rnear_5 s0 s1 s2 n k
  | _, _ => 0
theorem vc_rnear : vcg Tryd.prog (sigT tbl_rnear) [⟨5, [4, 10, 11, 12, 13, 14, 15, 16, 17, 18, 19, 20, 21, 22, 23], [5], [], [0, 1, 2, 3], some (3, [.i64]), []⟩] Tryd.f83 C_rnear.params C_rnear.res = some phi_rnear := by kernel_rfl
--SPLIT
theorem rnear_sound : C_rnear.Sound Tryd.prog G 83 := by
  refine fn_ok mixed stable tbl_rnear [⟨5, [4, 10, 11, 12, 13, 14, 15, 16, 17, 18, 19, 20, 21, 22, 23], [5], [], [0, 1, 2, 3], some (3, [.i64]), []⟩] Tryd.func83 (by kernel_rfl) phi_rnear vc_rnear ⟨rany_sound, trivial⟩ inv_rnear meas_rnear ?_
  intro ls hp
  obtain ⟨s0, s1, s2, n, rfl⟩ := rnear_pre hp
  clear hp
  rw [envOf_lk]
  unfold phi_rnear
  refine ⟨fun hcond => ?_, fun hcond => ?_⟩
  ·
    have c1 : (decide (n < (0 : Int))) = true := hcond
    clear hcond
    refine vg_loop rfl ?_ (fun xs hfit hi => ?_)
    ·
      show inv_rnear_5 s0 s1 s2 n (1 : Int)
      -- leaf 1 (init)
      exact ⟨by omega, by omega, fun j h1 h2 => by omega⟩
    obtain ⟨x4, xs0, rfl, hfit0⟩ := fits_i hfit
    obtain rfl := fits_nil hfit0
    clear hfit hfit0
    replace hi : inv_rnear_5 s0 s1 s2 n x4 := hi
    have hi5 := hi; clear hi
    change Fm.holds _ _ (lk [.i s0, .i s1, .i s2, .i n, .i x4])
    obtain ⟨k0, k1, k2⟩ := hi5
    have hn := of_decide_eq_true c1
    have ef : IntKind.wrap .i64 ((-1) + x4) = max (-1) (min n 64) + x4 := by rw [wrap_in (by omega) (by omega)]; omega
    have eg : IntKind.wrap .i64 ((-1) - x4) = max (-1) (min n 64) - x4 := by rw [wrap_in (by omega) (by omega)]; omega
    have ek : IntKind.wrap .i64 (x4 + 1) = x4 + 1 := wrap_in (by omega) (by omega)
    refine ⟨fun hcond => ?_, fun hcond => ?_⟩
    ·
      have c2 : (decide (x4 ≤ (64 : Int))) = true := hcond
      clear hcond
      refine vg_call (C := C_rany) rfl rfl (xs := [.i s0, .i s1, .i s2, .i (IntKind.wrap .i64 ((-1) + x4))]) rfl (fun hg => ?_) (fun rs hrs => ?_)
      ·
        exact trivial
      obtain ⟨r5, hr5, rfl⟩ := rany_res hrs
      clear hrs
      change Fm.holds _ _ (lk [.i s0, .i s1, .i s2, .i n, .i x4, .b r5])
      refine ⟨fun hcond => ?_, fun hcond => ?_⟩
      ·
        have c3 : r5 = true := hcond
        clear hcond
        suffices hfin : ((1 : Int)) = (near s0 s1 s2 n) from (c_i hfin rfl)
        -- leaf 2 (ret)
        rw [ef] at hr5
        exact (near_up k0 k2 (hr5.symm.trans c3)).symm
      ·
        have c4 : r5 = false := hcond
        clear hcond
        refine vg_call (C := C_rany) rfl rfl (xs := [.i s0, .i s1, .i s2, .i (IntKind.wrap .i64 ((-1) - x4))]) rfl (fun hg => ?_) (fun rs hrs => ?_)
        ·
          exact trivial
        obtain ⟨r6, hr6, rfl⟩ := rany_res hrs
        clear hrs
        change Fm.holds _ _ (lk [.i s0, .i s1, .i s2, .i n, .i x4, .b r5, .b r6])
        refine ⟨fun hcond => ?_, fun hcond => ?_⟩
        ·
          have c5 : r6 = true := hcond
          clear hcond
          suffices hfin : ((-1)) = (near s0 s1 s2 n) from (c_i hfin rfl)
          -- leaf 3 (ret)
          rw [ef] at hr5
          rw [eg] at hr6
          exact (near_dn k0 k2 (hr5.symm.trans c4) (hr6.symm.trans c5)).symm
        ·
          have c6 : r6 = false := hcond
          clear hcond
          refine ⟨?_, ?_⟩
          ·
            show inv_rnear_5 s0 s1 s2 n (IntKind.wrap .i64 (x4 + (1 : Int)))
            -- leaf 4 (back)
            have hlt := of_decide_eq_true c2
            rw [ef] at hr5
            rw [eg] at hr6
            rw [ek]
            refine ⟨by omega, by omega, fun j h1 h2 => ?_⟩
            by_cases hj : j = x4
            · subst hj
              exact ⟨hr5.symm.trans c4, hr6.symm.trans c6⟩
            · exact k2 j h1 (by omega)
          ·
            show meas_rnear_5 s0 s1 s2 n (IntKind.wrap .i64 (x4 + (1 : Int))) < meas_rnear_5 s0 s1 s2 n x4
            -- leaf 5 (meas)
            have hlt := of_decide_eq_true c2
            unfold meas_rnear_5
            rw [ek]
            omega
    ·
      have c7 : (decide (x4 ≤ (64 : Int))) = false := hcond
      clear hcond
      suffices hfin : ((0 : Int)) = (near s0 s1 s2 n) from (c_i hfin rfl)
      -- leaf 6 (ret)
      have hlt := of_decide_eq_false c7
      exact (near_none (fun j h1 h2 => k2 j h1 (by omega))).symm
  ·
    have c8 : (decide (n < (0 : Int))) = false := hcond
    clear hcond
    refine vg_loop rfl ?_ (fun xs hfit hi => ?_)
    ·
      show inv_rnear_5 s0 s1 s2 n (1 : Int)
      -- leaf 7 (init)
      exact ⟨by omega, by omega, fun j h1 h2 => by omega⟩
    obtain ⟨x4, xs0, rfl, hfit0⟩ := fits_i hfit
    obtain rfl := fits_nil hfit0
    clear hfit hfit0
    replace hi : inv_rnear_5 s0 s1 s2 n x4 := hi
    have hi5 := hi; clear hi
    change Fm.holds _ _ (lk [.i s0, .i s1, .i s2, .i n, .i x4])
    obtain ⟨k0, k1, k2⟩ := hi5
    have hn := of_decide_eq_false c8
    have eE : (if (decide ((64 : Int) < n)) = true then (64 : Int) else n) = max (-1) (min n 64) := by simp only [decide_eq_true_eq]; split <;> omega
    have ef : IntKind.wrap .i64 ((if (decide ((64 : Int) < n)) = true then (64 : Int) else n) + x4) = max (-1) (min n 64) + x4 := by rw [eE, wrap_in (by omega) (by omega)]
    have eg : IntKind.wrap .i64 ((if (decide ((64 : Int) < n)) = true then (64 : Int) else n) - x4) = max (-1) (min n 64) - x4 := by rw [eE, wrap_in (by omega) (by omega)]
    have ek : IntKind.wrap .i64 (x4 + 1) = x4 + 1 := wrap_in (by omega) (by omega)
    refine ⟨fun hcond => ?_, fun hcond => ?_⟩
    ·
      have c9 : (decide (x4 ≤ (64 : Int))) = true := hcond
      clear hcond
      refine vg_call (C := C_rany) rfl rfl (xs := [.i s0, .i s1, .i s2, .i (IntKind.wrap .i64 ((if (decide ((64 : Int) < n)) = true then (64 : Int) else n) + x4))]) rfl (fun hg => ?_) (fun rs hrs => ?_)
      ·
        exact trivial
      obtain ⟨r5, hr5, rfl⟩ := rany_res hrs
      clear hrs
      change Fm.holds _ _ (lk [.i s0, .i s1, .i s2, .i n, .i x4, .b r5])
      refine ⟨fun hcond => ?_, fun hcond => ?_⟩
      ·
        have c10 : r5 = true := hcond
        clear hcond
        suffices hfin : ((1 : Int)) = (near s0 s1 s2 n) from (c_i hfin rfl)
        -- leaf 8 (ret)
        rw [ef] at hr5
        exact (near_up k0 k2 (hr5.symm.trans c10)).symm
      ·
        have c11 : r5 = false := hcond
        clear hcond
        refine vg_call (C := C_rany) rfl rfl (xs := [.i s0, .i s1, .i s2, .i (IntKind.wrap .i64 ((if (decide ((64 : Int) < n)) = true then (64 : Int) else n) - x4))]) rfl (fun hg => ?_) (fun rs hrs => ?_)
        ·
          exact trivial
        obtain ⟨r6, hr6, rfl⟩ := rany_res hrs
        clear hrs
        change Fm.holds _ _ (lk [.i s0, .i s1, .i s2, .i n, .i x4, .b r5, .b r6])
        refine ⟨fun hcond => ?_, fun hcond => ?_⟩
        ·
          have c12 : r6 = true := hcond
          clear hcond
          suffices hfin : ((-1)) = (near s0 s1 s2 n) from (c_i hfin rfl)
          -- leaf 9 (ret)
          rw [ef] at hr5
          rw [eg] at hr6
          exact (near_dn k0 k2 (hr5.symm.trans c11) (hr6.symm.trans c12)).symm
        ·
          have c13 : r6 = false := hcond
          clear hcond
          refine ⟨?_, ?_⟩
          ·
            show inv_rnear_5 s0 s1 s2 n (IntKind.wrap .i64 (x4 + (1 : Int)))
            -- leaf 10 (back)
            have hlt := of_decide_eq_true c9
            rw [ef] at hr5
            rw [eg] at hr6
            rw [ek]
            refine ⟨by omega, by omega, fun j h1 h2 => ?_⟩
            by_cases hj : j = x4
            · subst hj
              exact ⟨hr5.symm.trans c11, hr6.symm.trans c13⟩
            · exact k2 j h1 (by omega)
          ·
            show meas_rnear_5 s0 s1 s2 n (IntKind.wrap .i64 (x4 + (1 : Int))) < meas_rnear_5 s0 s1 s2 n x4
            -- leaf 11 (meas)
            have hlt := of_decide_eq_true c9
            unfold meas_rnear_5
            rw [ek]
            omega
    ·
      have c14 : (decide (x4 ≤ (64 : Int))) = false := hcond
      clear hcond
      suffices hfin : ((0 : Int)) = (near s0 s1 s2 n) from (c_i hfin rfl)
      -- leaf 12 (ret)
      have hlt := of_decide_eq_false c14
      exact (near_none (fun j h1 h2 => k2 j h1 (by omega))).symm
def C_rplan : Ctr := ⟨[.agg [.int .u64, .int .u64, .int .u64], .one (.int .i64), .one (.int .i64)], [.agg [.bool, .int .i64, .int .i64]],
  fun | [.i _, .i _, .i _, .i _, .i _] => True | _ => False,
  fun | [.i s0, .i s1, .i s2, .i n, .i dir] => [.b (stopP s0 s1 s2 n dir), .i (dirP s0 s1 s2 n dir), .i (moveP s0 s1 s2 n dir)] | _ => []⟩
theorem rplan_pre {ls : List Leaf} (h_ : C_rplan.pre ls) : ∃ (s0 : Int) (s1 : Int) (s2 : Int) (n : Int) (dir : Int), ls = [.i s0, .i s1, .i s2, .i n, .i dir] := by
  unfold C_rplan at h_; dsimp only at h_; split at h_
  · exact ⟨_, _, _, _, _, rfl⟩
  · exact h_.elim
theorem rplan_res {s0 : Int} {s1 : Int} {s2 : Int} {n : Int} {dir : Int} {rs_ : List Leaf} (h_ : rs_ = C_rplan.fn [.i s0, .i s1, .i s2, .i n, .i dir]) : ∃ (q0 : Bool) (q1 : Int) (q2 : Int), q0 = (stopP s0 s1 s2 n dir) ∧ q1 = (dirP s0 s1 s2 n dir) ∧ q2 = (moveP s0 s1 s2 n dir) ∧ rs_ = [.b q0, .i q1, .i q2] := ⟨_, _, _, rfl, rfl, rfl, h_⟩
def phi_rplan : Fm := (.and (.imp (.ite (.ite (.ite (.lt (.v 3) (.i 0)) (.t .true) (.le (.i 64) (.v 3))) (.t .true) (.lt (.v 4) (.i (Int.negSucc 0)))) (.t .true) (.lt (.i 1) (.v 4))) .true (.ret [(.b (.t .false)), (.i (.i 0)), (.i (.i 0))])) (.imp (.ite (.ite (.ite (.lt (.v 3) (.i 0)) (.t .true) (.le (.i 64) (.v 3))) (.t .true) (.lt (.v 4) (.i (Int.negSucc 0)))) (.t .true) (.lt (.i 1) (.v 4))) .false (.call 75 [((.eq (.v 4) (.i 0)), .true)] [(.i (.v 0)), (.i (.v 1)), (.i (.v 2)), (.i (.v 3)), (.i (.i 1))] 5 (.and (.imp (.ite (.eq (.v 4) (.i 0)) (.v 5) (.t .false)) .true (.call 74 [] [(.i (.v 0)), (.i (.v 1)), (.i (.v 2)), (.i (.v 3))] 6 (.call 75 [((.v 6), .false)] [(.i (.v 0)), (.i (.v 1)), (.i (.v 2)), (.i (.v 3)), (.i (.i 1))] 7 (.and (.imp (.ite (.v 6) (.t .true) (.v 7)) .false (.ret [(.b (.ite (.v 6) (.t .true) (.v 7))), (.i (.i 1)), (.i (.i 1))])) (.imp (.ite (.v 6) (.t .true) (.v 7)) .true (.ret [(.b (.ite (.v 6) (.t .true) (.v 7))), (.i (.i 1)), (.i (.i 0))])))))) (.imp (.ite (.eq (.v 4) (.i 0)) (.v 5) (.t .false)) .false (.call 75 [((.eq (.v 4) (.i 0)), .true)] [(.i (.v 0)), (.i (.v 1)), (.i (.v 2)), (.i (.v 3)), (.i (.i (Int.negSucc 0)))] 6 (.and (.imp (.ite (.eq (.v 4) (.i 0)) (.v 6) (.t .false)) .true (.call 74 [] [(.i (.v 0)), (.i (.v 1)), (.i (.v 2)), (.i (.v 3))] 7 (.call 75 [((.v 7), .false)] [(.i (.v 0)), (.i (.v 1)), (.i (.v 2)), (.i (.v 3)), (.i (.i (Int.negSucc 0)))] 8 (.and (.imp (.ite (.v 7) (.t .true) (.v 8)) .false (.ret [(.b (.ite (.v 7) (.t .true) (.v 8))), (.i (.i (Int.negSucc 0))), (.i (.i (Int.negSucc 0)))])) (.imp (.ite (.v 7) (.t .true) (.v 8)) .true (.ret [(.b (.ite (.v 7) (.t .true) (.v 8))), (.i (.i (Int.negSucc 0))), (.i (.i 0))])))))) (.imp (.ite (.eq (.v 4) (.i 0)) (.v 6) (.t .false)) .false (.and (.imp (.eq (.v 4) (.i 0)) .true (.call 83 [] [(.i (.v 0)), (.i (.v 1)), (.i (.v 2)), (.i (.v 3))] 7 (.call 74 [] [(.i (.v 0)), (.i (.v 1)), (.i (.v 2)), (.i (.v 3))] 8 (.call 75 [((.v 8), .false)] [(.i (.v 0)), (.i (.v 1)), (.i (.v 2)), (.i (.v 3)), (.i (.v 7))] 9 (.and (.imp (.ite (.v 8) (.t .true) (.v 9)) .false (.ret [(.b (.ite (.v 8) (.t .true) (.v 9))), (.i (.v 7)), (.i (.v 7))])) (.imp (.ite (.v 8) (.t .true) (.v 9)) .true (.ret [(.b (.ite (.v 8) (.t .true) (.v 9))), (.i (.v 7)), (.i (.i 0))]))))))) (.imp (.eq (.v 4) (.i 0)) .false (.call 84 [] [(.i (.v 0)), (.i (.v 1)), (.i (.v 2)), (.i (.v 3)), (.i (.v 4))] 7 (.call 75 [((.v 7), .false)] [(.i (.v 0)), (.i (.v 1)), (.i (.v 2)), (.i (.v 3)), (.i (.v 4))] 8 (.and (.imp (.ite (.v 7) (.t .true) (.v 8)) .true (.call 74 [] [(.i (.v 0)), (.i (.v 1)), (.i (.v 2)), (.i (.v 3))] 9 (.call 75 [((.v 9), .false)] [(.i (.v 0)), (.i (.v 1)), (.i (.v 2)), (.i (.v 3)), (.i (.v 4))] 10 (.and (.imp (.ite (.v 9) (.t .true) (.v 10)) .false (.ret [(.b (.ite (.v 9) (.t .true) (.v 10))), (.i (.v 4)), (.i (.v 4))])) (.imp (.ite (.v 9) (.t .true) (.v 10)) .true (.ret [(.b (.ite (.v 9) (.t .true) (.v 10))), (.i (.v 4)), (.i (.i 0))])))))) (.imp (.ite (.v 7) (.t .true) (.v 8)) .false (.call 84 [] [(.i (.v 0)), (.i (.v 1)), (.i (.v 2)), (.i (.v 3)), (.i (.wrap .i64 (.sub (.i 0) (.v 4))))] 9 (.call 75 [((.v 9), .false)] [(.i (.v 0)), (.i (.v 1)), (.i (.v 2)), (.i (.v 3)), (.i (.wrap .i64 (.sub (.i 0) (.v 4))))] 10 (.and (.imp (.ite (.v 9) (.t .true) (.v 10)) .true (.call 74 [] [(.i (.v 0)), (.i (.v 1)), (.i (.v 2)), (.i (.v 3))] 11 (.call 75 [((.v 11), .false)] [(.i (.v 0)), (.i (.v 1)), (.i (.v 2)), (.i (.v 3)), (.i (.wrap .i64 (.sub (.i 0) (.v 4))))] 12 (.and (.imp (.ite (.v 11) (.t .true) (.v 12)) .false (.ret [(.b (.ite (.v 11) (.t .true) (.v 12))), (.i (.wrap .i64 (.sub (.i 0) (.v 4)))), (.i (.wrap .i64 (.sub (.i 0) (.v 4))))])) (.imp (.ite (.v 11) (.t .true) (.v 12)) .true (.ret [(.b (.ite (.v 11) (.t .true) (.v 12))), (.i (.wrap .i64 (.sub (.i 0) (.v 4)))), (.i (.i 0))])))))) (.imp (.ite (.v 9) (.t .true) (.v 10)) .false (.call 74 [] [(.i (.v 0)), (.i (.v 1)), (.i (.v 2)), (.i (.v 3))] 11 (.call 75 [((.v 11), .false)] [(.i (.v 0)), (.i (.v 1)), (.i (.v 2)), (.i (.v 3)), (.i (.i 0))] 12 (.and (.imp (.ite (.v 11) (.t .true) (.v 12)) .false (.ret [(.b (.ite (.v 11) (.t .true) (.v 12))), (.i (.i 0)), (.i (.i 0))])) (.imp (.ite (.v 11) (.t .true) (.v 12)) .true (.ret [(.b (.ite (.v 11) (.t .true) (.v 12))), (.i (.i 0)), (.i (.i 0))])))))))))))))))))))))))
def tbl_rplan : List (Nat × Ctr) := [(74, C_rat), (75, C_rhall), (83, C_rnear), (84, C_rtoward)]
theorem vc_rplan : vcg Tryd.prog (sigT tbl_rplan) [] Tryd.f71 C_rplan.params C_rplan.res = some phi_rplan := by kernel_rfl
--SPLIT
theorem rplan_sound : C_rplan.Sound Tryd.prog G 71 := by
  refine fn_ok mixed stable tbl_rplan [] Tryd.func71 (by kernel_rfl) phi_rplan vc_rplan ⟨rat_sound, rhall_sound, rnear_sound, rtoward_sound, trivial⟩ (fun _ _ _ => False) (fun _ _ _ => 0) ?_
  intro ls hp
  obtain ⟨s0, s1, s2, n, dir, rfl⟩ := rplan_pre hp
  clear hp
  rw [envOf_lk]
  unfold phi_rplan
  refine ⟨fun hcond => ?_, fun hcond => ?_⟩
  ·
    have c1 : (if (if (if (decide (n < (0 : Int))) = true then true else (decide ((64 : Int) ≤ n))) = true then true else (decide (dir < (-1)))) = true then true else (decide ((1 : Int) < dir))) = true := hcond
    clear hcond
    suffices hfin : (false) = (stopP s0 s1 s2 n dir) ∧ ((0 : Int)) = (dirP s0 s1 s2 n dir) ∧ ((0 : Int)) = (moveP s0 s1 s2 n dir) from (c_b hfin.1 (c_i hfin.2.1 (c_i hfin.2.2 rfl)))
    -- leaf 1 (ret)
    have hok : okP n dir = false := by
      rw [okP_niff]; simp at c1; omega
    simp [stopP, dirP, moveP, hok]
  ·
    have c2 : (if (if (if (decide (n < (0 : Int))) = true then true else (decide ((64 : Int) ≤ n))) = true then true else (decide (dir < (-1)))) = true then true else (decide ((1 : Int) < dir))) = false := hcond
    clear hcond
    have hok : okP n dir = true := by
      rw [okP_iff]; simp at c2; omega
    have hdr := (okP_iff.1 hok).2
    have e0 : IntKind.wrap .i64 (0 - dir) = -dir := by rw [wrap_in (by omega) (by omega)]; omega
    refine vg_call (C := C_rhall) rfl rfl (xs := [.i s0, .i s1, .i s2, .i n, .i (1 : Int)]) rfl (fun hg => ?_) (fun rs hrs => ?_)
    ·
      exact trivial
    obtain ⟨r5, hr5, rfl⟩ := rhall_res hrs
    clear hrs
    change Fm.holds _ _ (lk [.i s0, .i s1, .i s2, .i n, .i dir, .b r5])
    refine ⟨fun hcond => ?_, fun hcond => ?_⟩
    ·
      have c3 : (if (dir == (0 : Int)) = true then r5 else false) = true := hcond
      clear hcond
      refine vg_call (C := C_rat) rfl rfl (xs := [.i s0, .i s1, .i s2, .i n]) rfl (fun hg => ?_) (fun rs hrs => ?_)
      ·
        exact trivial
      obtain ⟨r6, hr6, rfl⟩ := rat_res hrs
      clear hrs
      change Fm.holds _ _ (lk [.i s0, .i s1, .i s2, .i n, .i dir, .b r5, .b r6])
      refine vg_call (C := C_rhall) rfl rfl (xs := [.i s0, .i s1, .i s2, .i n, .i (1 : Int)]) rfl (fun hg => ?_) (fun rs hrs => ?_)
      ·
        exact trivial
      obtain ⟨r7, hr7, rfl⟩ := rhall_res hrs
      clear hrs
      change Fm.holds _ _ (lk [.i s0, .i s1, .i s2, .i n, .i dir, .b r5, .b r6, .b r7])
      refine ⟨fun hcond => ?_, fun hcond => ?_⟩
      ·
        have c4 : (if r6 = true then true else r7) = false := hcond
        clear hcond
        suffices hfin : ((if r6 = true then true else r7)) = (stopP s0 s1 s2 n dir) ∧ ((1 : Int)) = (dirP s0 s1 s2 n dir) ∧ ((1 : Int)) = (moveP s0 s1 s2 n dir) from (c_b hfin.1 (c_i hfin.2.1 (c_i hfin.2.2 rfl)))
        -- leaf 2 (ret)
        clear c2
        simp only [e0] at *
        simp_all [stopP, dirP, moveP, turn, way] <;> grind
      ·
        have c5 : (if r6 = true then true else r7) = true := hcond
        clear hcond
        suffices hfin : ((if r6 = true then true else r7)) = (stopP s0 s1 s2 n dir) ∧ ((1 : Int)) = (dirP s0 s1 s2 n dir) ∧ ((0 : Int)) = (moveP s0 s1 s2 n dir) from (c_b hfin.1 (c_i hfin.2.1 (c_i hfin.2.2 rfl)))
        -- leaf 3 (ret)
        clear c2
        simp only [e0] at *
        simp_all [stopP, dirP, moveP, turn, way] <;> grind
    ·
      have c6 : (if (dir == (0 : Int)) = true then r5 else false) = false := hcond
      clear hcond
      refine vg_call (C := C_rhall) rfl rfl (xs := [.i s0, .i s1, .i s2, .i n, .i (-1)]) rfl (fun hg => ?_) (fun rs hrs => ?_)
      ·
        exact trivial
      obtain ⟨r6, hr6, rfl⟩ := rhall_res hrs
      clear hrs
      change Fm.holds _ _ (lk [.i s0, .i s1, .i s2, .i n, .i dir, .b r5, .b r6])
      refine ⟨fun hcond => ?_, fun hcond => ?_⟩
      ·
        have c7 : (if (dir == (0 : Int)) = true then r6 else false) = true := hcond
        clear hcond
        refine vg_call (C := C_rat) rfl rfl (xs := [.i s0, .i s1, .i s2, .i n]) rfl (fun hg => ?_) (fun rs hrs => ?_)
        ·
          exact trivial
        obtain ⟨r7, hr7, rfl⟩ := rat_res hrs
        clear hrs
        change Fm.holds _ _ (lk [.i s0, .i s1, .i s2, .i n, .i dir, .b r5, .b r6, .b r7])
        refine vg_call (C := C_rhall) rfl rfl (xs := [.i s0, .i s1, .i s2, .i n, .i (-1)]) rfl (fun hg => ?_) (fun rs hrs => ?_)
        ·
          exact trivial
        obtain ⟨r8, hr8, rfl⟩ := rhall_res hrs
        clear hrs
        change Fm.holds _ _ (lk [.i s0, .i s1, .i s2, .i n, .i dir, .b r5, .b r6, .b r7, .b r8])
        refine ⟨fun hcond => ?_, fun hcond => ?_⟩
        ·
          have c8 : (if r7 = true then true else r8) = false := hcond
          clear hcond
          suffices hfin : ((if r7 = true then true else r8)) = (stopP s0 s1 s2 n dir) ∧ ((-1)) = (dirP s0 s1 s2 n dir) ∧ ((-1)) = (moveP s0 s1 s2 n dir) from (c_b hfin.1 (c_i hfin.2.1 (c_i hfin.2.2 rfl)))
          -- leaf 4 (ret)
          clear c2
          simp only [e0] at *
          simp_all [stopP, dirP, moveP, turn, way] <;> grind
        ·
          have c9 : (if r7 = true then true else r8) = true := hcond
          clear hcond
          suffices hfin : ((if r7 = true then true else r8)) = (stopP s0 s1 s2 n dir) ∧ ((-1)) = (dirP s0 s1 s2 n dir) ∧ ((0 : Int)) = (moveP s0 s1 s2 n dir) from (c_b hfin.1 (c_i hfin.2.1 (c_i hfin.2.2 rfl)))
          -- leaf 5 (ret)
          clear c2
          simp only [e0] at *
          simp_all [stopP, dirP, moveP, turn, way] <;> grind
      ·
        have c10 : (if (dir == (0 : Int)) = true then r6 else false) = false := hcond
        clear hcond
        refine ⟨fun hcond => ?_, fun hcond => ?_⟩
        ·
          have c11 : (dir == (0 : Int)) = true := hcond
          clear hcond
          refine vg_call (C := C_rnear) rfl rfl (xs := [.i s0, .i s1, .i s2, .i n]) rfl (fun hg => ?_) (fun rs hrs => ?_)
          ·
            exact trivial
          obtain ⟨r7, hr7, rfl⟩ := rnear_res hrs
          clear hrs
          change Fm.holds _ _ (lk [.i s0, .i s1, .i s2, .i n, .i dir, .b r5, .b r6, .i r7])
          refine vg_call (C := C_rat) rfl rfl (xs := [.i s0, .i s1, .i s2, .i n]) rfl (fun hg => ?_) (fun rs hrs => ?_)
          ·
            exact trivial
          obtain ⟨r8, hr8, rfl⟩ := rat_res hrs
          clear hrs
          change Fm.holds _ _ (lk [.i s0, .i s1, .i s2, .i n, .i dir, .b r5, .b r6, .i r7, .b r8])
          refine vg_call (C := C_rhall) rfl rfl (xs := [.i s0, .i s1, .i s2, .i n, .i r7]) rfl (fun hg => ?_) (fun rs hrs => ?_)
          ·
            exact trivial
          obtain ⟨r9, hr9, rfl⟩ := rhall_res hrs
          clear hrs
          change Fm.holds _ _ (lk [.i s0, .i s1, .i s2, .i n, .i dir, .b r5, .b r6, .i r7, .b r8, .b r9])
          refine ⟨fun hcond => ?_, fun hcond => ?_⟩
          ·
            have c12 : (if r8 = true then true else r9) = false := hcond
            clear hcond
            suffices hfin : ((if r8 = true then true else r9)) = (stopP s0 s1 s2 n dir) ∧ (r7) = (dirP s0 s1 s2 n dir) ∧ (r7) = (moveP s0 s1 s2 n dir) from (c_b hfin.1 (c_i hfin.2.1 (c_i hfin.2.2 rfl)))
            -- leaf 6 (ret)
            clear c2
            simp only [e0] at *
            simp_all [stopP, dirP, moveP, turn, way] <;> grind
          ·
            have c13 : (if r8 = true then true else r9) = true := hcond
            clear hcond
            suffices hfin : ((if r8 = true then true else r9)) = (stopP s0 s1 s2 n dir) ∧ (r7) = (dirP s0 s1 s2 n dir) ∧ ((0 : Int)) = (moveP s0 s1 s2 n dir) from (c_b hfin.1 (c_i hfin.2.1 (c_i hfin.2.2 rfl)))
            -- leaf 7 (ret)
            clear c2
            simp only [e0] at *
            simp_all [stopP, dirP, moveP, turn, way] <;> grind
        ·
          have c14 : (dir == (0 : Int)) = false := hcond
          clear hcond
          refine vg_call (C := C_rtoward) rfl rfl (xs := [.i s0, .i s1, .i s2, .i n, .i dir]) rfl (fun hg => ?_) (fun rs hrs => ?_)
          ·
            exact trivial
          obtain ⟨r7, hr7, rfl⟩ := rtoward_res hrs
          clear hrs
          change Fm.holds _ _ (lk [.i s0, .i s1, .i s2, .i n, .i dir, .b r5, .b r6, .b r7])
          refine vg_call (C := C_rhall) rfl rfl (xs := [.i s0, .i s1, .i s2, .i n, .i dir]) rfl (fun hg => ?_) (fun rs hrs => ?_)
          ·
            exact trivial
          obtain ⟨r8, hr8, rfl⟩ := rhall_res hrs
          clear hrs
          change Fm.holds _ _ (lk [.i s0, .i s1, .i s2, .i n, .i dir, .b r5, .b r6, .b r7, .b r8])
          refine ⟨fun hcond => ?_, fun hcond => ?_⟩
          ·
            have c15 : (if r7 = true then true else r8) = true := hcond
            clear hcond
            refine vg_call (C := C_rat) rfl rfl (xs := [.i s0, .i s1, .i s2, .i n]) rfl (fun hg => ?_) (fun rs hrs => ?_)
            ·
              exact trivial
            obtain ⟨r9, hr9, rfl⟩ := rat_res hrs
            clear hrs
            change Fm.holds _ _ (lk [.i s0, .i s1, .i s2, .i n, .i dir, .b r5, .b r6, .b r7, .b r8, .b r9])
            refine vg_call (C := C_rhall) rfl rfl (xs := [.i s0, .i s1, .i s2, .i n, .i dir]) rfl (fun hg => ?_) (fun rs hrs => ?_)
            ·
              exact trivial
            obtain ⟨r10, hr10, rfl⟩ := rhall_res hrs
            clear hrs
            change Fm.holds _ _ (lk [.i s0, .i s1, .i s2, .i n, .i dir, .b r5, .b r6, .b r7, .b r8, .b r9, .b r10])
            refine ⟨fun hcond => ?_, fun hcond => ?_⟩
            ·
              have c16 : (if r9 = true then true else r10) = false := hcond
              clear hcond
              suffices hfin : ((if r9 = true then true else r10)) = (stopP s0 s1 s2 n dir) ∧ (dir) = (dirP s0 s1 s2 n dir) ∧ (dir) = (moveP s0 s1 s2 n dir) from (c_b hfin.1 (c_i hfin.2.1 (c_i hfin.2.2 rfl)))
              -- leaf 8 (ret)
              clear c2
              simp only [e0] at *
              simp_all [stopP, dirP, moveP, turn, way] <;> grind
            ·
              have c17 : (if r9 = true then true else r10) = true := hcond
              clear hcond
              suffices hfin : ((if r9 = true then true else r10)) = (stopP s0 s1 s2 n dir) ∧ (dir) = (dirP s0 s1 s2 n dir) ∧ ((0 : Int)) = (moveP s0 s1 s2 n dir) from (c_b hfin.1 (c_i hfin.2.1 (c_i hfin.2.2 rfl)))
              -- leaf 9 (ret)
              clear c2
              simp only [e0] at *
              simp_all [stopP, dirP, moveP, turn, way] <;> grind
          ·
            have c18 : (if r7 = true then true else r8) = false := hcond
            clear hcond
            refine vg_call (C := C_rtoward) rfl rfl (xs := [.i s0, .i s1, .i s2, .i n, .i (IntKind.wrap .i64 ((0 : Int) - dir))]) rfl (fun hg => ?_) (fun rs hrs => ?_)
            ·
              exact trivial
            obtain ⟨r9, hr9, rfl⟩ := rtoward_res hrs
            clear hrs
            change Fm.holds _ _ (lk [.i s0, .i s1, .i s2, .i n, .i dir, .b r5, .b r6, .b r7, .b r8, .b r9])
            refine vg_call (C := C_rhall) rfl rfl (xs := [.i s0, .i s1, .i s2, .i n, .i (IntKind.wrap .i64 ((0 : Int) - dir))]) rfl (fun hg => ?_) (fun rs hrs => ?_)
            ·
              exact trivial
            obtain ⟨r10, hr10, rfl⟩ := rhall_res hrs
            clear hrs
            change Fm.holds _ _ (lk [.i s0, .i s1, .i s2, .i n, .i dir, .b r5, .b r6, .b r7, .b r8, .b r9, .b r10])
            refine ⟨fun hcond => ?_, fun hcond => ?_⟩
            ·
              have c19 : (if r9 = true then true else r10) = true := hcond
              clear hcond
              refine vg_call (C := C_rat) rfl rfl (xs := [.i s0, .i s1, .i s2, .i n]) rfl (fun hg => ?_) (fun rs hrs => ?_)
              ·
                exact trivial
              obtain ⟨r11, hr11, rfl⟩ := rat_res hrs
              clear hrs
              change Fm.holds _ _ (lk [.i s0, .i s1, .i s2, .i n, .i dir, .b r5, .b r6, .b r7, .b r8, .b r9, .b r10, .b r11])
              refine vg_call (C := C_rhall) rfl rfl (xs := [.i s0, .i s1, .i s2, .i n, .i (IntKind.wrap .i64 ((0 : Int) - dir))]) rfl (fun hg => ?_) (fun rs hrs => ?_)
              ·
                exact trivial
              obtain ⟨r12, hr12, rfl⟩ := rhall_res hrs
              clear hrs
              change Fm.holds _ _ (lk [.i s0, .i s1, .i s2, .i n, .i dir, .b r5, .b r6, .b r7, .b r8, .b r9, .b r10, .b r11, .b r12])
              refine ⟨fun hcond => ?_, fun hcond => ?_⟩
              ·
                have c20 : (if r11 = true then true else r12) = false := hcond
                clear hcond
                suffices hfin : ((if r11 = true then true else r12)) = (stopP s0 s1 s2 n dir) ∧ ((IntKind.wrap .i64 ((0 : Int) - dir))) = (dirP s0 s1 s2 n dir) ∧ ((IntKind.wrap .i64 ((0 : Int) - dir))) = (moveP s0 s1 s2 n dir) from (c_b hfin.1 (c_i hfin.2.1 (c_i hfin.2.2 rfl)))
                -- leaf 10 (ret)
                clear c2
                simp only [e0] at *
                simp_all [stopP, dirP, moveP, turn, way] <;> grind
              ·
                have c21 : (if r11 = true then true else r12) = true := hcond
                clear hcond
                suffices hfin : ((if r11 = true then true else r12)) = (stopP s0 s1 s2 n dir) ∧ ((IntKind.wrap .i64 ((0 : Int) - dir))) = (dirP s0 s1 s2 n dir) ∧ ((0 : Int)) = (moveP s0 s1 s2 n dir) from (c_b hfin.1 (c_i hfin.2.1 (c_i hfin.2.2 rfl)))
                -- leaf 11 (ret)
                clear c2
                simp only [e0] at *
                simp_all [stopP, dirP, moveP, turn, way] <;> grind
            ·
              have c22 : (if r9 = true then true else r10) = false := hcond
              clear hcond
              refine vg_call (C := C_rat) rfl rfl (xs := [.i s0, .i s1, .i s2, .i n]) rfl (fun hg => ?_) (fun rs hrs => ?_)
              ·
                exact trivial
              obtain ⟨r11, hr11, rfl⟩ := rat_res hrs
              clear hrs
              change Fm.holds _ _ (lk [.i s0, .i s1, .i s2, .i n, .i dir, .b r5, .b r6, .b r7, .b r8, .b r9, .b r10, .b r11])
              refine vg_call (C := C_rhall) rfl rfl (xs := [.i s0, .i s1, .i s2, .i n, .i (0 : Int)]) rfl (fun hg => ?_) (fun rs hrs => ?_)
              ·
                exact trivial
              obtain ⟨r12, hr12, rfl⟩ := rhall_res hrs
              clear hrs
              change Fm.holds _ _ (lk [.i s0, .i s1, .i s2, .i n, .i dir, .b r5, .b r6, .b r7, .b r8, .b r9, .b r10, .b r11, .b r12])
              refine ⟨fun hcond => ?_, fun hcond => ?_⟩
              ·
                have c23 : (if r11 = true then true else r12) = false := hcond
                clear hcond
                suffices hfin : ((if r11 = true then true else r12)) = (stopP s0 s1 s2 n dir) ∧ ((0 : Int)) = (dirP s0 s1 s2 n dir) ∧ ((0 : Int)) = (moveP s0 s1 s2 n dir) from (c_b hfin.1 (c_i hfin.2.1 (c_i hfin.2.2 rfl)))
                -- leaf 12 (ret)
                clear c2
                simp only [e0] at *
                simp_all [stopP, dirP, moveP, turn, way] <;> grind
              ·
                have c24 : (if r11 = true then true else r12) = true := hcond
                clear hcond
                suffices hfin : ((if r11 = true then true else r12)) = (stopP s0 s1 s2 n dir) ∧ ((0 : Int)) = (dirP s0 s1 s2 n dir) ∧ ((0 : Int)) = (moveP s0 s1 s2 n dir) from (c_b hfin.1 (c_i hfin.2.1 (c_i hfin.2.2 rfl)))
                -- leaf 13 (ret)
                clear c2
                simp only [e0] at *
                simp_all [stopP, dirP, moveP, turn, way] <;> grind
def C_floors : Ctr := ⟨[.agg [.int .u64, .int .u64, .int .u64]], [.one (.lst [.int .i64])],
  fun | [.i _, .i _, .i _] => True | _ => False,
  fun | [.i s0, .i s1, .i s2] => [.l (floL s0 s1 s2)] | _ => []⟩
theorem floors_pre {ls : List Leaf} (h_ : C_floors.pre ls) : ∃ (s0 : Int) (s1 : Int) (s2 : Int), ls = [.i s0, .i s1, .i s2] := by
  unfold C_floors at h_; dsimp only at h_; split at h_
  · exact ⟨_, _, _, rfl⟩
  · exact h_.elim
theorem floors_res {s0 : Int} {s1 : Int} {s2 : Int} {rs_ : List Leaf} (h_ : rs_ = C_floors.fn [.i s0, .i s1, .i s2]) : ∃ (q0 : LV), q0 = (floL s0 s1 s2) ∧ rs_ = [.l q0] := ⟨_, rfl, h_⟩
def inv_floors_3 (s0 : Int) (s1 : Int) (s2 : Int) (x : LV) (n : Int) : Prop := 0 ≤ n ∧ n ≤ 64 ∧ x = lvOf (flo s0 s1 s2 n.toNat)
def meas_floors_3 (s0 : Int) (s1 : Int) (s2 : Int) (x : LV) (n : Int) : Nat := (64 - n).toNat
def phi_floors : Fm := (.loop 3 3 [0, 1, 2] [(.c 1 .nilsl []), (.i (.i 0))] [.l, .i] (.and (.imp (.lt (.v 4) (.i 64)) .true (.call 49 [] [(.i (.v 0)), (.i (.v 1)), (.i (.v 2))] 5 (.call 48 [] [(.i (.v 5)), (.i (.v 4))] 6 (.and (.imp (.v 6) .true (.app (.l 3) [(.v 4)] 7 (.back 3 3 5 [0, 1, 2] [(.l 7), (.i (.wrap .i64 (.add (.v 4) (.i 1))))]))) (.imp (.v 6) .false (.back 3 3 5 [0, 1, 2] [(.l 3), (.i (.wrap .i64 (.add (.v 4) (.i 1))))])))))) (.imp (.lt (.v 4) (.i 64)) .false (.ret [(.l 3)]))))
def tbl_floors : List (Nat × Ctr) := [(48, C_isb), (49, C_all)]
def inv_floors : List Leaf → Nat → List Leaf → Prop := fun _ key xs => match key, xs with
  | 3, [.i s0, .i s1, .i s2, .l x, .i n] => inv_floors_3 s0 s1 s2 x n
  | _, _ => False
def meas_floors : List Leaf → Nat → List Leaf → Nat := fun _ key xs => match key, xs with
  | 3, [.i s0, .i s1, .i s2, .l x, .i n] => meas_floors_3 s0 s1 s2 x n
  | _, _ => 0
theorem vc_floors : vcg Tryd.prog (sigT tbl_floors) [⟨3, [4, 6, 7, 8, 9, 10, 11, 12, 13, 14, 15, 16], [3, 5], [], [0, 1, 2], some (3, [.i64]), []⟩] Tryd.f32 C_floors.params C_floors.res = some phi_floors := by kernel_rfl
--SPLIT
theorem floors_sound : C_floors.Sound Tryd.prog G 32 := by
  refine fn_ok mixed stable tbl_floors [⟨3, [4, 6, 7, 8, 9, 10, 11, 12, 13, 14, 15, 16], [3, 5], [], [0, 1, 2], some (3, [.i64]), []⟩] Tryd.func32 (by kernel_rfl) phi_floors vc_floors ⟨isb_sound, all_sound, trivial⟩ inv_floors meas_floors ?_
  intro ls hp
  obtain ⟨s0, s1, s2, rfl⟩ := floors_pre hp
  clear hp
  rw [envOf_lk]
  unfold phi_floors
  refine vg_loop rfl ?_ (fun xs hfit hi => ?_)
  ·
    show inv_floors_3 s0 s1 s2 nilLV (0 : Int)
    -- leaf 1 (init)
    exact ⟨by omega, by omega, lvOf_nil⟩
  obtain ⟨x3, xs0, rfl, hfit0⟩ := fits_l hfit
  obtain ⟨x4, xs1, rfl, hfit1⟩ := fits_i hfit0
  obtain rfl := fits_nil hfit1
  clear hfit hfit0 hfit1
  replace hi : inv_floors_3 s0 s1 s2 x3 x4 := hi
  have hi3 := hi; clear hi
  change Fm.holds _ _ (lk [.i s0, .i s1, .i s2, .l x3, .i x4])
  obtain ⟨i0, i1, i2⟩ := hi3
  have ek : IntKind.wrap .i64 (x4 + 1) = x4 + 1 := wrap_in (by omega) (by omega)
  have hl := @flo_len s0 s1 s2 x4.toNat
  refine ⟨fun hcond => ?_, fun hcond => ?_⟩
  ·
    have c1 : (decide (x4 < (64 : Int))) = true := hcond
    clear hcond
    refine vg_call (C := C_all) rfl rfl (xs := [.i s0, .i s1, .i s2]) rfl (fun hg => ?_) (fun rs hrs => ?_)
    ·
      exact trivial
    obtain ⟨r5, hr5, rfl⟩ := all_res hrs
    clear hrs
    change Fm.holds _ _ (lk [.i s0, .i s1, .i s2, .l x3, .i x4, .i r5])
    refine vg_call (C := C_isb) rfl rfl (xs := [.i r5, .i x4]) rfl (fun hg => ?_) (fun rs hrs => ?_)
    ·
      exact trivial
    obtain ⟨r6, hr6, rfl⟩ := isb_res hrs
    clear hrs
    change Fm.holds _ _ (lk [.i s0, .i s1, .i s2, .l x3, .i x4, .i r5, .b r6])
    rw [hr5, isb_all] at hr6
    refine ⟨fun hcond => ?_, fun hcond => ?_⟩
    ·
      have c2 : r6 = true := hcond
      clear hcond
      refine vg_app rfl (x := x3) (y := [x4]) rfl rfl ?_ (fun r7 hr7 => ?_)
      ·
        show ((x3).len : Int) < 1000000000
        -- leaf 2 (app)
        rw [i2, lvOf_len]
        omega
      change Fm.holds _ _ (lk [.i s0, .i s1, .i s2, .l x3, .i x4, .i r5, .b r6, .l r7])
      refine ⟨?_, ?_⟩
      ·
        show inv_floors_3 s0 s1 s2 r7 (IntKind.wrap .i64 (x4 + (1 : Int)))
        -- leaf 3 (back)
        have hlt := of_decide_eq_true c1
        rw [ek]
        refine ⟨by omega, by omega, ?_⟩
        rw [hr7, i2, snoc_of, show (x4 + 1).toNat = x4.toNat + 1 by omega, flo_succ, show ((x4.toNat : Nat) : Int) = x4 by omega, ← hr6, if_pos c2]
      ·
        show meas_floors_3 s0 s1 s2 r7 (IntKind.wrap .i64 (x4 + (1 : Int))) < meas_floors_3 s0 s1 s2 x3 x4
        -- leaf 4 (meas)
        have hlt := of_decide_eq_true c1
        unfold meas_floors_3
        rw [ek]
        omega
    ·
      have c3 : r6 = false := hcond
      clear hcond
      refine ⟨?_, ?_⟩
      ·
        show inv_floors_3 s0 s1 s2 x3 (IntKind.wrap .i64 (x4 + (1 : Int)))
        -- leaf 5 (back)
        have hlt := of_decide_eq_true c1
        rw [ek]
        refine ⟨by omega, by omega, ?_⟩
        rw [i2, show (x4 + 1).toNat = x4.toNat + 1 by omega, flo_succ, show ((x4.toNat : Nat) : Int) = x4 by omega, ← hr6, if_neg (by rw [c3]; decide)]
      ·
        show meas_floors_3 s0 s1 s2 x3 (IntKind.wrap .i64 (x4 + (1 : Int))) < meas_floors_3 s0 s1 s2 x3 x4
        -- leaf 6 (meas)
        have hlt := of_decide_eq_true c1
        unfold meas_floors_3
        rw [ek]
        omega
  ·
    have c4 : (decide (x4 < (64 : Int))) = false := hcond
    clear hcond
    suffices hfin : (x3) = (floL s0 s1 s2) from (c_l hfin rfl)
    -- leaf 7 (ret)
    have hlt := of_decide_eq_false c4
    rw [i2, show x4.toNat = 64 by omega]
    rfl
def C_dopen : Ctr := ⟨[.one (.int .i64)], [.agg [.int .i64, .int .i64]],
  fun | [.i _] => True | _ => False,
  fun | [.i dwell] => [.i (openL dwell), .i (0)] | _ => []⟩
theorem dopen_pre {ls : List Leaf} (h_ : C_dopen.pre ls) : ∃ (dwell : Int), ls = [.i dwell] := by
  unfold C_dopen at h_; dsimp only at h_; split at h_
  · exact ⟨_, rfl⟩
  · exact h_.elim
theorem dopen_res {dwell : Int} {rs_ : List Leaf} (h_ : rs_ = C_dopen.fn [.i dwell]) : ∃ (q0 : Int) (q1 : Int), q0 = (openL dwell) ∧ q1 = (0) ∧ rs_ = [.i q0, .i q1] := ⟨_, _, rfl, rfl, h_⟩
def phi_dopen : Fm := (.ret [(.i (.ite (.lt (.i 8) (.ite (.lt (.v 0) (.i 1)) (.i 1) (.v 0))) (.i 8) (.ite (.lt (.v 0) (.i 1)) (.i 1) (.v 0)))), (.i (.i 0))])
def tbl_dopen : List (Nat × Ctr) := []
theorem vc_dopen : vcg Tryd.prog (sigT tbl_dopen) [] Tryd.f64 C_dopen.params C_dopen.res = some phi_dopen := by kernel_rfl
--SPLIT
theorem dopen_sound : C_dopen.Sound Tryd.prog G 64 := by
  refine fn_ok mixed stable tbl_dopen [] Tryd.func64 (by kernel_rfl) phi_dopen vc_dopen trivial (fun _ _ _ => False) (fun _ _ _ => 0) ?_
  intro ls hp
  obtain ⟨dwell, rfl⟩ := dopen_pre hp
  clear hp
  rw [envOf_lk]
  unfold phi_dopen
  suffices hfin : ((if (decide ((8 : Int) < (if (decide (dwell < (1 : Int))) = true then (1 : Int) else dwell))) = true then (8 : Int) else (if (decide (dwell < (1 : Int))) = true then (1 : Int) else dwell))) = (openL dwell) ∧ ((0 : Int)) = (0) from (c_i hfin.1 (c_i hfin.2 rfl))
  -- leaf 1 (ret)
  simp only [openL]
  grind
def C_dis : Ctr := ⟨[.agg [.int .i64, .int .i64]], [.one (.bool)],
  fun | [.i _, .i _] => True | _ => False,
  fun | [.i l, .i _] => [.b (decide (0 < l))] | _ => []⟩
theorem dis_pre {ls : List Leaf} (h_ : C_dis.pre ls) : ∃ (l : Int) (h : Int), ls = [.i l, .i h] := by
  unfold C_dis at h_; dsimp only at h_; split at h_
  · exact ⟨_, _, rfl⟩
  · exact h_.elim
theorem dis_res {l : Int} {h : Int} {rs_ : List Leaf} (h_ : rs_ = C_dis.fn [.i l, .i h]) : ∃ (q0 : Bool), q0 = (decide (0 < l)) ∧ rs_ = [.b q0] := ⟨_, rfl, h_⟩
def phi_dis : Fm := (.ret [(.b (.lt (.i 0) (.v 0)))])
def tbl_dis : List (Nat × Ctr) := []
theorem vc_dis : vcg Tryd.prog (sigT tbl_dis) [] Tryd.f61 C_dis.params C_dis.res = some phi_dis := by kernel_rfl
--SPLIT
theorem dis_sound : C_dis.Sound Tryd.prog G 61 := by
  refine fn_ok mixed stable tbl_dis [] Tryd.func61 (by kernel_rfl) phi_dis vc_dis trivial (fun _ _ _ => False) (fun _ _ _ => 0) ?_
  intro ls hp
  obtain ⟨l, h, rfl⟩ := dis_pre hp
  clear hp
  rw [envOf_lk]
  unfold phi_dis
  suffices hfin : ((decide ((0 : Int) < l))) = (decide (0 < l)) from (c_b hfin rfl)
  -- leaf 1 (ret)
  rfl
def C_dtick : Ctr := ⟨[.agg [.int .i64, .int .i64], .one (.bool)], [.agg [.int .i64, .int .i64], .one (.bool)],
  fun | [.i l, .i h, .b ob] => -9223372036854775808 ≤ l ∧ l < 9223372036854775808 | _ => False,
  fun | [.i l, .i h, .b ob] => [.i (tickL l ob), .i (tickH l h ob), .b (tickC l ob)] | _ => []⟩
theorem dtick_pre {ls : List Leaf} (h_ : C_dtick.pre ls) : ∃ (l : Int) (h : Int) (ob : Bool), ls = [.i l, .i h, .b ob] ∧ (-9223372036854775808 ≤ l ∧ l < 9223372036854775808) := by
  unfold C_dtick at h_; dsimp only at h_; split at h_
  · exact ⟨_, _, _, rfl, h_⟩
  · exact h_.elim
theorem dtick_mk {l : Int} {h : Int} {ob : Bool} (h_ : -9223372036854775808 ≤ l ∧ l < 9223372036854775808) : C_dtick.pre [.i l, .i h, .b ob] := h_
theorem dtick_res {l : Int} {h : Int} {ob : Bool} {rs_ : List Leaf} (h_ : rs_ = C_dtick.fn [.i l, .i h, .b ob]) : ∃ (q0 : Int) (q1 : Int) (q2 : Bool), q0 = (tickL l ob) ∧ q1 = (tickH l h ob) ∧ q2 = (tickC l ob) ∧ rs_ = [.i q0, .i q1, .b q2] := ⟨_, _, _, rfl, rfl, rfl, h_⟩
def phi_dtick : Fm := (.call 61 [] [(.i (.v 0)), (.i (.v 1))] 3 (.and (.imp (.v 3) .false (.ret [(.i (.i 0)), (.i (.i 0)), (.b (.t .false))])) (.imp (.v 3) .true (.and (.imp (.lt (.i 1) (.v 0)) .true (.ret [(.i (.wrap .i64 (.sub (.v 0) (.i 1)))), (.i (.v 1)), (.b (.t .false))])) (.imp (.lt (.i 1) (.v 0)) .false (.and (.imp (.v 2) .true (.ret [(.i (.v 0)), (.i (.wrap .i64 (.add (.v 1) (.i 1)))), (.b (.t .false))])) (.imp (.v 2) .false (.ret [(.i (.i 0)), (.i (.i 0)), (.b (.t .true))]))))))))
def tbl_dtick : List (Nat × Ctr) := [(61, C_dis)]
theorem vc_dtick : vcg Tryd.prog (sigT tbl_dtick) [] Tryd.f42 C_dtick.params C_dtick.res = some phi_dtick := by kernel_rfl
--SPLIT
theorem dtick_sound : C_dtick.Sound Tryd.prog G 42 := by
  refine fn_ok mixed stable tbl_dtick [] Tryd.func42 (by kernel_rfl) phi_dtick vc_dtick ⟨dis_sound, trivial⟩ (fun _ _ _ => False) (fun _ _ _ => 0) ?_
  intro ls hp
  obtain ⟨l, h, ob, rfl, hpre⟩ := dtick_pre hp
  clear hp
  rw [envOf_lk]
  unfold phi_dtick
  refine vg_call (C := C_dis) rfl rfl (xs := [.i l, .i h]) rfl (fun hg => ?_) (fun rs hrs => ?_)
  ·
    exact trivial
  obtain ⟨r3, hr3, rfl⟩ := dis_res hrs
  clear hrs
  change Fm.holds _ _ (lk [.i l, .i h, .b ob, .b r3])
  refine ⟨fun hcond => ?_, fun hcond => ?_⟩
  ·
    have c1 : r3 = false := hcond
    clear hcond
    suffices hfin : ((0 : Int)) = (tickL l ob) ∧ ((0 : Int)) = (tickH l h ob) ∧ (false) = (tickC l ob) from (c_i hfin.1 (c_i hfin.2.1 (c_b hfin.2.2 rfl)))
    -- leaf 1 (ret)
    simp only [tickL, tickH, tickC]
    subst_vars
    try simp only [decide_eq_true_eq, decide_eq_false_iff_not] at *
    try simp (disch := omega) only [wrap_in]
    grind
  ·
    have c2 : r3 = true := hcond
    clear hcond
    refine ⟨fun hcond => ?_, fun hcond => ?_⟩
    ·
      have c3 : (decide ((1 : Int) < l)) = true := hcond
      clear hcond
      suffices hfin : ((IntKind.wrap .i64 (l - (1 : Int)))) = (tickL l ob) ∧ (h) = (tickH l h ob) ∧ (false) = (tickC l ob) from (c_i hfin.1 (c_i hfin.2.1 (c_b hfin.2.2 rfl)))
      -- leaf 2 (ret)
      simp only [tickL, tickH, tickC]
      subst_vars
      try simp only [decide_eq_true_eq, decide_eq_false_iff_not] at *
      try simp (disch := omega) only [wrap_in]
      grind
    ·
      have c4 : (decide ((1 : Int) < l)) = false := hcond
      clear hcond
      refine ⟨fun hcond => ?_, fun hcond => ?_⟩
      ·
        have c5 : ob = true := hcond
        clear hcond
        suffices hfin : (l) = (tickL l ob) ∧ ((IntKind.wrap .i64 (h + (1 : Int)))) = (tickH l h ob) ∧ (false) = (tickC l ob) from (c_i hfin.1 (c_i hfin.2.1 (c_b hfin.2.2 rfl)))
        -- leaf 3 (ret)
        simp only [tickL, tickH, tickC]
        subst_vars
        try simp only [decide_eq_true_eq, decide_eq_false_iff_not] at *
        try simp (disch := omega) only [wrap_in]
        grind
      ·
        have c6 : ob = false := hcond
        clear hcond
        suffices hfin : ((0 : Int)) = (tickL l ob) ∧ ((0 : Int)) = (tickH l h ob) ∧ (true) = (tickC l ob) from (c_i hfin.1 (c_i hfin.2.1 (c_b hfin.2.2 rfl)))
        -- leaf 4 (ret)
        simp only [tickL, tickH, tickC]
        subst_vars
        try simp only [decide_eq_true_eq, decide_eq_false_iff_not] at *
        try simp (disch := omega) only [wrap_in]
        grind
def C_cstart : Ctr := ⟨[.agg [.int .i64, .int .i64, .int .i64, .int .i64], .one (.int .i64)], [.agg [.int .i64, .int .i64, .int .i64, .bool, .int .i64], .one (.bool)],
  fun | [.i _, .i _, .i _, .i _, .i _] => True | _ => False,
  fun | [.i hc, .i hf, .i hs, .i hd, .i p] => [.i ((startP hc hf hs hd p).pos), .i ((startP hc hf hs hd p).dir), .i ((startP hc hf hs hd p).door), .b ((startP hc hf hs hd p).rl), .i ((startP hc hf hs hd p).held), .b (startIs hc hf hs hd p)] | _ => []⟩
theorem cstart_pre {ls : List Leaf} (h_ : C_cstart.pre ls) : ∃ (hc : Int) (hf : Int) (hs : Int) (hd : Int) (p : Int), ls = [.i hc, .i hf, .i hs, .i hd, .i p] := by
  unfold C_cstart at h_; dsimp only at h_; split at h_
  · exact ⟨_, _, _, _, _, rfl⟩
  · exact h_.elim
theorem cstart_res {hc : Int} {hf : Int} {hs : Int} {hd : Int} {p : Int} {rs_ : List Leaf} (h_ : rs_ = C_cstart.fn [.i hc, .i hf, .i hs, .i hd, .i p]) : ∃ (q0 : Int) (q1 : Int) (q2 : Int) (q3 : Bool) (q4 : Int) (q5 : Bool), q0 = ((startP hc hf hs hd p).pos) ∧ q1 = ((startP hc hf hs hd p).dir) ∧ q2 = ((startP hc hf hs hd p).door) ∧ q3 = ((startP hc hf hs hd p).rl) ∧ q4 = ((startP hc hf hs hd p).held) ∧ q5 = (startIs hc hf hs hd p) ∧ rs_ = [.i q0, .i q1, .i q2, .b q3, .i q4, .b q5] := ⟨_, _, _, _, _, _, rfl, rfl, rfl, rfl, rfl, rfl, h_⟩
def phi_cstart : Fm := (.call 19 [] [(.i (.v 0)), (.i (.v 1)), (.i (.v 2)), (.i (.v 3))] 5 (.call 23 [((.ite (.not (.v 5)) (.t .true) (.lt (.v 4) (.i 0))), .false)] [(.i (.v 0)), (.i (.v 1)), (.i (.v 2)), (.i (.v 3))] 6 (.and (.imp (.ite (.ite (.not (.v 5)) (.t .true) (.lt (.v 4) (.i 0))) (.t .true) (.lt (.v 6) (.v 4))) .true (.ret [(.i (.i 0)), (.i (.i 0)), (.i (.i 0)), (.b (.t .false)), (.i (.i 0)), (.b (.t .false))])) (.imp (.ite (.ite (.not (.v 5)) (.t .true) (.lt (.v 4) (.i 0))) (.t .true) (.lt (.v 6) (.v 4))) .false (.call 25 [] [(.i (.v 0)), (.i (.v 1)), (.i (.v 2)), (.i (.v 3)), (.i (.v 4))] 7 (.ret [(.i (.v 4)), (.i (.i 0)), (.i (.i 0)), (.b (.not (.v 7))), (.i (.i 0)), (.b (.t .true))]))))))
def tbl_cstart : List (Nat × Ctr) := [(19, C_valid), (23, C_top), (25, C_level)]
theorem vc_cstart : vcg Tryd.prog (sigT tbl_cstart) [] Tryd.f21 C_cstart.params C_cstart.res = some phi_cstart := by kernel_rfl
--SPLIT
theorem cstart_sound : C_cstart.Sound Tryd.prog G 21 := by
  refine fn_ok mixed stable tbl_cstart [] Tryd.func21 (by kernel_rfl) phi_cstart vc_cstart ⟨valid_sound, top_sound, level_sound, trivial⟩ (fun _ _ _ => False) (fun _ _ _ => 0) ?_
  intro ls hp
  obtain ⟨hc, hf, hs, hd, p, rfl⟩ := cstart_pre hp
  clear hp
  rw [envOf_lk]
  unfold phi_cstart
  refine vg_call (C := C_valid) rfl rfl (xs := [.i hc, .i hf, .i hs, .i hd]) rfl (fun hg => ?_) (fun rs hrs => ?_)
  ·
    exact trivial
  obtain ⟨r5, hr5, rfl⟩ := valid_res hrs
  clear hrs
  change Fm.holds _ _ (lk [.i hc, .i hf, .i hs, .i hd, .i p, .b r5])
  refine vg_call (C := C_top) rfl rfl (xs := [.i hc, .i hf, .i hs, .i hd]) rfl (fun hg => ?_) (fun rs hrs => ?_)
  ·
    exact trivial
  obtain ⟨r6, hr6, rfl⟩ := top_res hrs
  clear hrs
  change Fm.holds _ _ (lk [.i hc, .i hf, .i hs, .i hd, .i p, .b r5, .i r6])
  refine ⟨fun hcond => ?_, fun hcond => ?_⟩
  ·
    have c1 : (if (if (!r5) = true then true else (decide (p < (0 : Int)))) = true then true else (decide (r6 < p))) = true := hcond
    clear hcond
    suffices hfin : ((0 : Int)) = ((startP hc hf hs hd p).pos) ∧ ((0 : Int)) = ((startP hc hf hs hd p).dir) ∧ ((0 : Int)) = ((startP hc hf hs hd p).door) ∧ (false) = ((startP hc hf hs hd p).rl) ∧ ((0 : Int)) = ((startP hc hf hs hd p).held) ∧ (false) = (startIs hc hf hs hd p) from (c_i hfin.1 (c_i hfin.2.1 (c_i hfin.2.2.1 (c_b hfin.2.2.2.1 (c_i hfin.2.2.2.2.1 (c_b hfin.2.2.2.2.2 rfl))))))
    -- leaf 1 (ret)
    subst_vars
    have hb := @between_iff p 0 (top hc hf hs hd)
    unfold startP startIs
    cases hv : valid hc hf hs hd <;> cases hb2 : between p 0 (top hc hf hs hd) <;> simp_all <;> omega
  ·
    have c2 : (if (if (!r5) = true then true else (decide (p < (0 : Int)))) = true then true else (decide (r6 < p))) = false := hcond
    clear hcond
    refine vg_call (C := C_level) rfl rfl (xs := [.i hc, .i hf, .i hs, .i hd, .i p]) rfl (fun hg => ?_) (fun rs hrs => ?_)
    ·
      exact trivial
    obtain ⟨r7, hr7, rfl⟩ := level_res hrs
    clear hrs
    change Fm.holds _ _ (lk [.i hc, .i hf, .i hs, .i hd, .i p, .b r5, .i r6, .b r7])
    suffices hfin : (p) = ((startP hc hf hs hd p).pos) ∧ ((0 : Int)) = ((startP hc hf hs hd p).dir) ∧ ((0 : Int)) = ((startP hc hf hs hd p).door) ∧ ((!r7)) = ((startP hc hf hs hd p).rl) ∧ ((0 : Int)) = ((startP hc hf hs hd p).held) ∧ (true) = (startIs hc hf hs hd p) from (c_i hfin.1 (c_i hfin.2.1 (c_i hfin.2.2.1 (c_b hfin.2.2.2.1 (c_i hfin.2.2.2.2.1 (c_b hfin.2.2.2.2.2 rfl))))))
    -- leaf 2 (ret)
    subst_vars
    have hb := @between_iff p 0 (top hc hf hs hd)
    unfold startP startIs
    cases hv : valid hc hf hs hd <;> cases hb2 : between p 0 (top hc hf hs hd) <;> simp_all <;> omega
def C_cright : Ctr := ⟨[.agg [.int .i64, .int .i64, .int .i64, .int .i64], .agg [.int .i64, .int .i64, .int .i64, .bool, .int .i64]], [.one (.bool)],
  fun | [.i _, .i _, .i _, .i _, .i _, .i _, .i _, .b _, .i _] => True | _ => False,
  fun | [.i hc, .i hf, .i hs, .i hd, .i cp, .i cdir, .i cdo, .b crl, .i ch] => [.b (carRight hc hf hs hd ⟨cp, cdir, cdo, crl, ch⟩)] | _ => []⟩
theorem cright_pre {ls : List Leaf} (h_ : C_cright.pre ls) : ∃ (hc : Int) (hf : Int) (hs : Int) (hd : Int) (cp : Int) (cdir : Int) (cdo : Int) (crl : Bool) (ch : Int), ls = [.i hc, .i hf, .i hs, .i hd, .i cp, .i cdir, .i cdo, .b crl, .i ch] := by
  unfold C_cright at h_; dsimp only at h_; split at h_
  · exact ⟨_, _, _, _, _, _, _, _, _, rfl⟩
  · exact h_.elim
theorem cright_res {hc : Int} {hf : Int} {hs : Int} {hd : Int} {cp : Int} {cdir : Int} {cdo : Int} {crl : Bool} {ch : Int} {rs_ : List Leaf} (h_ : rs_ = C_cright.fn [.i hc, .i hf, .i hs, .i hd, .i cp, .i cdir, .i cdo, .b crl, .i ch]) : ∃ (q0 : Bool), q0 = (carRight hc hf hs hd ⟨cp, cdir, cdo, crl, ch⟩) ∧ rs_ = [.b q0] := ⟨_, rfl, h_⟩
def phi_cright : Fm := (.call 45 [] [(.i (.v 0)), (.i (.v 1)), (.i (.v 2)), (.i (.v 3)), (.i (.v 4)), (.i (.v 5)), (.i (.v 6)), (.b (.v 7))] 9 (.ret [(.b (.ite (.v 9) (.ite (.eq (.v 8) (.i 0)) (.t .true) (.ite (.lt (.i 0) (.v 8)) (.eq (.v 6) (.i 1)) (.t .false))) (.t .false)))]))
def tbl_cright : List (Nat × Ctr) := [(45, C_right)]
theorem vc_cright : vcg Tryd.prog (sigT tbl_cright) [] Tryd.f24 C_cright.params C_cright.res = some phi_cright := by kernel_rfl
--SPLIT
theorem cright_sound : C_cright.Sound Tryd.prog G 24 := by
  refine fn_ok mixed stable tbl_cright [] Tryd.func24 (by kernel_rfl) phi_cright vc_cright ⟨right_sound, trivial⟩ (fun _ _ _ => False) (fun _ _ _ => 0) ?_
  intro ls hp
  obtain ⟨hc, hf, hs, hd, cp, cdir, cdo, crl, ch, rfl⟩ := cright_pre hp
  clear hp
  rw [envOf_lk]
  unfold phi_cright
  refine vg_call (C := C_right) rfl rfl (xs := [.i hc, .i hf, .i hs, .i hd, .i cp, .i cdir, .i cdo, .b crl]) rfl (fun hg => ?_) (fun rs hrs => ?_)
  ·
    exact trivial
  obtain ⟨r9, hr9, rfl⟩ := right_res hrs
  clear hrs
  change Fm.holds _ _ (lk [.i hc, .i hf, .i hs, .i hd, .i cp, .i cdir, .i cdo, .b crl, .i ch, .b r9])
  suffices hfin : ((if r9 = true then (if (ch == (0 : Int)) = true then true else (if (decide ((0 : Int) < ch)) = true then (cdo == (1 : Int)) else false)) else false)) = (carRight hc hf hs hd ⟨cp, cdir, cdo, crl, ch⟩) from (c_b hfin rfl)
  -- leaf 1 (ret)
  subst_vars
  simp only [carRight]
  grind
def C_clow : Ctr := ⟨[.one (.int .i64)], [.one (.int .u64)],
  fun | [.i n] => 0 ≤ n | _ => False,
  fun | [.i n] => [.i (N (lowB n))] | _ => []⟩
theorem clow_pre {ls : List Leaf} (h_ : C_clow.pre ls) : ∃ (n : Int), ls = [.i n] ∧ (0 ≤ n) := by
  unfold C_clow at h_; dsimp only at h_; split at h_
  · exact ⟨_, rfl, h_⟩
  · exact h_.elim
theorem clow_mk {n : Int} (h_ : 0 ≤ n) : C_clow.pre [.i n] := h_
theorem clow_res {n : Int} {rs_ : List Leaf} (h_ : rs_ = C_clow.fn [.i n]) : ∃ (q0 : Int), q0 = (N (lowB n)) ∧ rs_ = [.i q0] := ⟨_, rfl, h_⟩
def phi_clow : Fm := (.ob [] (.le (.i 0) (.v 0)) (.ret [(.i (.wrap .u64 (.sub (.shl .u64 (.i 1) (.v 0)) (.i 1))))]))
def tbl_clow : List (Nat × Ctr) := []
theorem vc_clow : vcg Tryd.prog (sigT tbl_clow) [] Tryd.f60 C_clow.params C_clow.res = some phi_clow := by kernel_rfl
--SPLIT
theorem clow_sound : C_clow.Sound Tryd.prog G 60 := by
  refine fn_ok mixed stable tbl_clow [] Tryd.func60 (by kernel_rfl) phi_clow vc_clow trivial (fun _ _ _ => False) (fun _ _ _ => 0) ?_
  intro ls hp
  obtain ⟨n, rfl, hpre⟩ := clow_pre hp
  clear hp
  rw [envOf_lk]
  unfold phi_clow
  refine ⟨fun hg => ?_, ?_⟩
  ·
    show (decide ((0 : Int) ≤ n)) = true
    -- leaf 1 (ob)
    simp; omega
  suffices hfin : ((IntKind.wrap .u64 ((IntKind.wrap .u64 ((1 : Int) * 2 ^ (min (Int.toNat n) (IntKind.bits .u64)))) - (1 : Int)))) = (N (lowB n)) from (c_i hfin rfl)
  -- leaf 2 (ret)
  rw [bv_shl, B_one, show (1 : Int) = N 1#64 from rfl, bv_sub, B_N, B_N]
  rfl
def C_chouse : Ctr := ⟨[.agg [.int .i64, .int .i64, .int .i64, .int .i64], .agg [.int .u64, .int .u64, .int .u64]], [.agg [.int .u64, .int .u64, .int .u64]],
  fun | [.i hc, .i hf, .i hs, .i hd, .i s0, .i s1, .i s2] => 1 ≤ hf ∧ hf ≤ 1000 | _ => False,
  fun | [.i _, .i hf, .i _, .i _, .i s0, .i s1, .i s2] => [.i ((houseP hf ⟨s0, s1, s2⟩).c), .i ((houseP hf ⟨s0, s1, s2⟩).u), .i ((houseP hf ⟨s0, s1, s2⟩).d)] | _ => []⟩
theorem chouse_pre {ls : List Leaf} (h_ : C_chouse.pre ls) : ∃ (hc : Int) (hf : Int) (hs : Int) (hd : Int) (s0 : Int) (s1 : Int) (s2 : Int), ls = [.i hc, .i hf, .i hs, .i hd, .i s0, .i s1, .i s2] ∧ (1 ≤ hf ∧ hf ≤ 1000) := by
  unfold C_chouse at h_; dsimp only at h_; split at h_
  · exact ⟨_, _, _, _, _, _, _, rfl, h_⟩
  · exact h_.elim
theorem chouse_mk {hc : Int} {hf : Int} {hs : Int} {hd : Int} {s0 : Int} {s1 : Int} {s2 : Int} (h_ : 1 ≤ hf ∧ hf ≤ 1000) : C_chouse.pre [.i hc, .i hf, .i hs, .i hd, .i s0, .i s1, .i s2] := h_
theorem chouse_res {hc : Int} {hf : Int} {hs : Int} {hd : Int} {s0 : Int} {s1 : Int} {s2 : Int} {rs_ : List Leaf} (h_ : rs_ = C_chouse.fn [.i hc, .i hf, .i hs, .i hd, .i s0, .i s1, .i s2]) : ∃ (q0 : Int) (q1 : Int) (q2 : Int), q0 = ((houseP hf ⟨s0, s1, s2⟩).c) ∧ q1 = ((houseP hf ⟨s0, s1, s2⟩).u) ∧ q2 = ((houseP hf ⟨s0, s1, s2⟩).d) ∧ rs_ = [.i q0, .i q1, .i q2] := ⟨_, _, _, rfl, rfl, rfl, h_⟩
def phi_chouse : Fm := (.call 60 [] [(.i (.v 1))] 7 (.call 60 [] [(.i (.wrap .i64 (.sub (.v 1) (.i 1))))] 8 (.call 60 [] [(.i (.v 1))] 9 (.ret [(.i (.bit .and .u64 (.v 4) (.v 7))), (.i (.bit .and .u64 (.v 5) (.v 8))), (.i (.bit .andNot .u64 (.bit .and .u64 (.v 6) (.v 9)) (.i 1)))]))))
def tbl_chouse : List (Nat × Ctr) := [(60, C_clow)]
theorem vc_chouse : vcg Tryd.prog (sigT tbl_chouse) [] Tryd.f41 C_chouse.params C_chouse.res = some phi_chouse := by kernel_rfl
--SPLIT
theorem chouse_sound : C_chouse.Sound Tryd.prog G 41 := by
  refine fn_ok mixed stable tbl_chouse [] Tryd.func41 (by kernel_rfl) phi_chouse vc_chouse ⟨clow_sound, trivial⟩ (fun _ _ _ => False) (fun _ _ _ => 0) ?_
  intro ls hp
  obtain ⟨hc, hf, hs, hd, s0, s1, s2, rfl, hpre⟩ := chouse_pre hp
  clear hp
  rw [envOf_lk]
  unfold phi_chouse
  refine vg_call (C := C_clow) rfl rfl (xs := [.i hf]) rfl (fun hg => ?_) (fun rs hrs => ?_)
  ·
    refine clow_mk ?_
    -- leaf 1 (pre)
    first | omega | (rw [wrap_in (by omega) (by omega)]; omega)
  obtain ⟨r7, hr7, rfl⟩ := clow_res hrs
  clear hrs
  change Fm.holds _ _ (lk [.i hc, .i hf, .i hs, .i hd, .i s0, .i s1, .i s2, .i r7])
  refine vg_call (C := C_clow) rfl rfl (xs := [.i (IntKind.wrap .i64 (hf - (1 : Int)))]) rfl (fun hg => ?_) (fun rs hrs => ?_)
  ·
    refine clow_mk ?_
    -- leaf 2 (pre)
    first | omega | (rw [wrap_in (by omega) (by omega)]; omega)
  obtain ⟨r8, hr8, rfl⟩ := clow_res hrs
  clear hrs
  change Fm.holds _ _ (lk [.i hc, .i hf, .i hs, .i hd, .i s0, .i s1, .i s2, .i r7, .i r8])
  refine vg_call (C := C_clow) rfl rfl (xs := [.i hf]) rfl (fun hg => ?_) (fun rs hrs => ?_)
  ·
    refine clow_mk ?_
    -- leaf 3 (pre)
    first | omega | (rw [wrap_in (by omega) (by omega)]; omega)
  obtain ⟨r9, hr9, rfl⟩ := clow_res hrs
  clear hrs
  change Fm.holds _ _ (lk [.i hc, .i hf, .i hs, .i hd, .i s0, .i s1, .i s2, .i r7, .i r8, .i r9])
  suffices hfin : ((bitv .and .u64 s0 r7)) = ((houseP hf ⟨s0, s1, s2⟩).c) ∧ ((bitv .and .u64 s1 r8)) = ((houseP hf ⟨s0, s1, s2⟩).u) ∧ ((bitv .andNot .u64 (bitv .and .u64 s2 r9) (1 : Int))) = ((houseP hf ⟨s0, s1, s2⟩).d) from (c_i hfin.1 (c_i hfin.2.1 (c_i hfin.2.2 rfl)))
  -- leaf 4 (ret)
  subst_vars
  refine ⟨?_, ?_, ?_⟩ <;> simp (disch := omega) only [wrap_in, bv_and, bv_andNot, B_N, houseP, B_one]
def C_cbetween : Ctr := ⟨[.agg [.int .i64, .int .i64, .int .i64, .int .i64], .agg [.int .i64, .int .i64, .int .i64, .bool, .int .i64]], [.agg [.int .i64, .int .i64, .int .i64, .bool, .int .i64], .agg [.bool, .bool, .int .i64, .int .i64, .int .i64, .int .u64, .int .u64, .int .u64]],
  fun | [.i hc, .i hf, .i hs, .i hd, .i cp, .i cdir, .i cdo, .b crl, .i ch] => carRight hc hf hs hd ⟨cp, cdir, cdo, crl, ch⟩ = true | _ => False,
  fun | [.i hc, .i hf, .i hs, .i hd, .i cp, .i cdir, .i cdo, .b crl, .i ch] => [.i ((betweenP hc hf hs hd ⟨cp, cdir, cdo, crl, ch⟩).1.pos), .i ((betweenP hc hf hs hd ⟨cp, cdir, cdo, crl, ch⟩).1.dir), .i ((betweenP hc hf hs hd ⟨cp, cdir, cdo, crl, ch⟩).1.door), .b ((betweenP hc hf hs hd ⟨cp, cdir, cdo, crl, ch⟩).1.rl), .i ((betweenP hc hf hs hd ⟨cp, cdir, cdo, crl, ch⟩).1.held), .b ((betweenP hc hf hs hd ⟨cp, cdir, cdo, crl, ch⟩).2.op), .b ((betweenP hc hf hs hd ⟨cp, cdir, cdo, crl, ch⟩).2.cl), .i ((betweenP hc hf hs hd ⟨cp, cdir, cdo, crl, ch⟩).2.fl), .i ((betweenP hc hf hs hd ⟨cp, cdir, cdo, crl, ch⟩).2.lan), .i ((betweenP hc hf hs hd ⟨cp, cdir, cdo, crl, ch⟩).2.mv), .i ((betweenP hc hf hs hd ⟨cp, cdir, cdo, crl, ch⟩).2.sc), .i ((betweenP hc hf hs hd ⟨cp, cdir, cdo, crl, ch⟩).2.su), .i ((betweenP hc hf hs hd ⟨cp, cdir, cdo, crl, ch⟩).2.sd)] | _ => []⟩
theorem cbetween_pre {ls : List Leaf} (h_ : C_cbetween.pre ls) : ∃ (hc : Int) (hf : Int) (hs : Int) (hd : Int) (cp : Int) (cdir : Int) (cdo : Int) (crl : Bool) (ch : Int), ls = [.i hc, .i hf, .i hs, .i hd, .i cp, .i cdir, .i cdo, .b crl, .i ch] ∧ (carRight hc hf hs hd ⟨cp, cdir, cdo, crl, ch⟩ = true) := by
  unfold C_cbetween at h_; dsimp only at h_; split at h_
  · exact ⟨_, _, _, _, _, _, _, _, _, rfl, h_⟩
  · exact h_.elim
theorem cbetween_mk {hc : Int} {hf : Int} {hs : Int} {hd : Int} {cp : Int} {cdir : Int} {cdo : Int} {crl : Bool} {ch : Int} (h_ : carRight hc hf hs hd ⟨cp, cdir, cdo, crl, ch⟩ = true) : C_cbetween.pre [.i hc, .i hf, .i hs, .i hd, .i cp, .i cdir, .i cdo, .b crl, .i ch] := h_
theorem cbetween_res {hc : Int} {hf : Int} {hs : Int} {hd : Int} {cp : Int} {cdir : Int} {cdo : Int} {crl : Bool} {ch : Int} {rs_ : List Leaf} (h_ : rs_ = C_cbetween.fn [.i hc, .i hf, .i hs, .i hd, .i cp, .i cdir, .i cdo, .b crl, .i ch]) : ∃ (q0 : Int) (q1 : Int) (q2 : Int) (q3 : Bool) (q4 : Int) (q5 : Bool) (q6 : Bool) (q7 : Int) (q8 : Int) (q9 : Int) (q10 : Int) (q11 : Int) (q12 : Int), q0 = ((betweenP hc hf hs hd ⟨cp, cdir, cdo, crl, ch⟩).1.pos) ∧ q1 = ((betweenP hc hf hs hd ⟨cp, cdir, cdo, crl, ch⟩).1.dir) ∧ q2 = ((betweenP hc hf hs hd ⟨cp, cdir, cdo, crl, ch⟩).1.door) ∧ q3 = ((betweenP hc hf hs hd ⟨cp, cdir, cdo, crl, ch⟩).1.rl) ∧ q4 = ((betweenP hc hf hs hd ⟨cp, cdir, cdo, crl, ch⟩).1.held) ∧ q5 = ((betweenP hc hf hs hd ⟨cp, cdir, cdo, crl, ch⟩).2.op) ∧ q6 = ((betweenP hc hf hs hd ⟨cp, cdir, cdo, crl, ch⟩).2.cl) ∧ q7 = ((betweenP hc hf hs hd ⟨cp, cdir, cdo, crl, ch⟩).2.fl) ∧ q8 = ((betweenP hc hf hs hd ⟨cp, cdir, cdo, crl, ch⟩).2.lan) ∧ q9 = ((betweenP hc hf hs hd ⟨cp, cdir, cdo, crl, ch⟩).2.mv) ∧ q10 = ((betweenP hc hf hs hd ⟨cp, cdir, cdo, crl, ch⟩).2.sc) ∧ q11 = ((betweenP hc hf hs hd ⟨cp, cdir, cdo, crl, ch⟩).2.su) ∧ q12 = ((betweenP hc hf hs hd ⟨cp, cdir, cdo, crl, ch⟩).2.sd) ∧ rs_ = [.i q0, .i q1, .i q2, .b q3, .i q4, .b q5, .b q6, .i q7, .i q8, .i q9, .i q10, .i q11, .i q12] := ⟨_, _, _, _, _, _, _, _, _, _, _, _, _, rfl, rfl, rfl, rfl, rfl, rfl, rfl, rfl, rfl, rfl, rfl, rfl, rfl, h_⟩
def phi_cbetween : Fm := (.and (.imp (.v 7) .true (.call 62 [] [(.i (.v 0)), (.i (.v 1)), (.i (.v 2)), (.i (.v 3)), (.i (.v 4)), (.i (.i (Int.negSucc 0)))] 9 (.and (.imp (.v 10) .false (.ret [(.i (.v 4)), (.i (.i (Int.negSucc 0))), (.i (.v 6)), (.b (.v 7)), (.i (.v 8)), (.b (.t .false)), (.b (.t .false)), (.i (.i 0)), (.i (.i 0)), (.i (.i 0)), (.i (.i 0)), (.i (.i 0)), (.i (.i 0))])) (.imp (.v 10) .true (.call 25 [] [(.i (.v 0)), (.i (.v 1)), (.i (.v 2)), (.i (.v 3)), (.i (.v 9))] 11 (.and (.imp (.v 11) .true (.ret [(.i (.v 9)), (.i (.i 0)), (.i (.v 6)), (.b (.t .false)), (.i (.v 8)), (.b (.t .false)), (.b (.t .false)), (.i (.i 0)), (.i (.i 0)), (.i (.wrap .i64 (.sub (.v 9) (.v 4)))), (.i (.i 0)), (.i (.i 0)), (.i (.i 0))])) (.imp (.v 11) .false (.ret [(.i (.v 9)), (.i (.i (Int.negSucc 0))), (.i (.v 6)), (.b (.v 7)), (.i (.v 8)), (.b (.t .false)), (.b (.t .false)), (.i (.i 0)), (.i (.i 0)), (.i (.wrap .i64 (.sub (.v 9) (.v 4)))), (.i (.i 0)), (.i (.i 0)), (.i (.i 0))])))))))) (.imp (.v 7) .false (.call 62 [] [(.i (.v 0)), (.i (.v 1)), (.i (.v 2)), (.i (.v 3)), (.i (.v 4)), (.i (.v 5))] 9 (.and (.imp (.v 10) .false (.ret [(.i (.v 4)), (.i (.v 5)), (.i (.v 6)), (.b (.v 7)), (.i (.v 8)), (.b (.t .false)), (.b (.t .false)), (.i (.i 0)), (.i (.i 0)), (.i (.i 0)), (.i (.i 0)), (.i (.i 0)), (.i (.i 0))])) (.imp (.v 10) .true (.ret [(.i (.v 9)), (.i (.v 5)), (.i (.v 6)), (.b (.v 7)), (.i (.v 8)), (.b (.t .false)), (.b (.t .false)), (.i (.i 0)), (.i (.i 0)), (.i (.wrap .i64 (.sub (.v 9) (.v 4)))), (.i (.i 0)), (.i (.i 0)), (.i (.i 0))]))))))
def tbl_cbetween : List (Nat × Ctr) := [(25, C_level), (62, C_go)]
theorem vc_cbetween : vcg Tryd.prog (sigT tbl_cbetween) [] Tryd.f43 C_cbetween.params C_cbetween.res = some phi_cbetween := by kernel_rfl
--SPLIT
theorem cbetween_sound : C_cbetween.Sound Tryd.prog G 43 := by
  refine fn_ok mixed stable tbl_cbetween [] Tryd.func43 (by kernel_rfl) phi_cbetween vc_cbetween ⟨level_sound, go_sound, trivial⟩ (fun _ _ _ => False) (fun _ _ _ => 0) ?_
  intro ls hp
  obtain ⟨hc, hf, hs, hd, cp, cdir, cdo, crl, ch, rfl, hpre⟩ := cbetween_pre hp
  clear hp
  rw [envOf_lk]
  unfold phi_cbetween
  refine ⟨fun hcond => ?_, fun hcond => ?_⟩
  ·
    have c1 : crl = true := hcond
    clear hcond
    refine vg_call (C := C_go) rfl rfl (xs := [.i hc, .i hf, .i hs, .i hd, .i cp, .i (-1)]) rfl (fun hg => ?_) (fun rs hrs => ?_)
    ·
      exact trivial
    obtain ⟨r9, r10, hr9, hr10, rfl⟩ := go_res hrs
    clear hrs
    change Fm.holds _ _ (lk [.i hc, .i hf, .i hs, .i hd, .i cp, .i cdir, .i cdo, .b crl, .i ch, .i r9, .b r10])
    refine ⟨fun hcond => ?_, fun hcond => ?_⟩
    ·
      have c2 : r10 = false := hcond
      clear hcond
      suffices hfin : (cp) = ((betweenP hc hf hs hd ⟨cp, cdir, cdo, crl, ch⟩).1.pos) ∧ ((-1)) = ((betweenP hc hf hs hd ⟨cp, cdir, cdo, crl, ch⟩).1.dir) ∧ (cdo) = ((betweenP hc hf hs hd ⟨cp, cdir, cdo, crl, ch⟩).1.door) ∧ (crl) = ((betweenP hc hf hs hd ⟨cp, cdir, cdo, crl, ch⟩).1.rl) ∧ (ch) = ((betweenP hc hf hs hd ⟨cp, cdir, cdo, crl, ch⟩).1.held) ∧ (false) = ((betweenP hc hf hs hd ⟨cp, cdir, cdo, crl, ch⟩).2.op) ∧ (false) = ((betweenP hc hf hs hd ⟨cp, cdir, cdo, crl, ch⟩).2.cl) ∧ ((0 : Int)) = ((betweenP hc hf hs hd ⟨cp, cdir, cdo, crl, ch⟩).2.fl) ∧ ((0 : Int)) = ((betweenP hc hf hs hd ⟨cp, cdir, cdo, crl, ch⟩).2.lan) ∧ ((0 : Int)) = ((betweenP hc hf hs hd ⟨cp, cdir, cdo, crl, ch⟩).2.mv) ∧ ((0 : Int)) = ((betweenP hc hf hs hd ⟨cp, cdir, cdo, crl, ch⟩).2.sc) ∧ ((0 : Int)) = ((betweenP hc hf hs hd ⟨cp, cdir, cdo, crl, ch⟩).2.su) ∧ ((0 : Int)) = ((betweenP hc hf hs hd ⟨cp, cdir, cdo, crl, ch⟩).2.sd) from (c_i hfin.1 (c_i hfin.2.1 (c_i hfin.2.2.1 (c_b hfin.2.2.2.1 (c_i hfin.2.2.2.2.1 (c_b hfin.2.2.2.2.2.1 (c_b hfin.2.2.2.2.2.2.1 (c_i hfin.2.2.2.2.2.2.2.1 (c_i hfin.2.2.2.2.2.2.2.2.1 (c_i hfin.2.2.2.2.2.2.2.2.2.1 (c_i hfin.2.2.2.2.2.2.2.2.2.2.1 (c_i hfin.2.2.2.2.2.2.2.2.2.2.2.1 (c_i hfin.2.2.2.2.2.2.2.2.2.2.2.2 rfl)))))))))))))
      -- leaf 1 (ret)
      rw [betweenP_no (x := -1) (by simp [betweenDir, c1]) (hr10.symm.trans c2)]
      exact ⟨rfl, rfl, rfl, rfl, rfl, rfl, rfl, rfl, rfl, rfl, rfl, rfl, rfl⟩
    ·
      have c3 : r10 = true := hcond
      clear hcond
      refine vg_call (C := C_level) rfl rfl (xs := [.i hc, .i hf, .i hs, .i hd, .i r9]) rfl (fun hg => ?_) (fun rs hrs => ?_)
      ·
        exact trivial
      obtain ⟨r11, hr11, rfl⟩ := level_res hrs
      clear hrs
      change Fm.holds _ _ (lk [.i hc, .i hf, .i hs, .i hd, .i cp, .i cdir, .i cdo, .b crl, .i ch, .i r9, .b r10, .b r11])
      refine ⟨fun hcond => ?_, fun hcond => ?_⟩
      ·
        have c4 : r11 = true := hcond
        clear hcond
        suffices hfin : (r9) = ((betweenP hc hf hs hd ⟨cp, cdir, cdo, crl, ch⟩).1.pos) ∧ ((0 : Int)) = ((betweenP hc hf hs hd ⟨cp, cdir, cdo, crl, ch⟩).1.dir) ∧ (cdo) = ((betweenP hc hf hs hd ⟨cp, cdir, cdo, crl, ch⟩).1.door) ∧ (false) = ((betweenP hc hf hs hd ⟨cp, cdir, cdo, crl, ch⟩).1.rl) ∧ (ch) = ((betweenP hc hf hs hd ⟨cp, cdir, cdo, crl, ch⟩).1.held) ∧ (false) = ((betweenP hc hf hs hd ⟨cp, cdir, cdo, crl, ch⟩).2.op) ∧ (false) = ((betweenP hc hf hs hd ⟨cp, cdir, cdo, crl, ch⟩).2.cl) ∧ ((0 : Int)) = ((betweenP hc hf hs hd ⟨cp, cdir, cdo, crl, ch⟩).2.fl) ∧ ((0 : Int)) = ((betweenP hc hf hs hd ⟨cp, cdir, cdo, crl, ch⟩).2.lan) ∧ ((IntKind.wrap .i64 (r9 - cp))) = ((betweenP hc hf hs hd ⟨cp, cdir, cdo, crl, ch⟩).2.mv) ∧ ((0 : Int)) = ((betweenP hc hf hs hd ⟨cp, cdir, cdo, crl, ch⟩).2.sc) ∧ ((0 : Int)) = ((betweenP hc hf hs hd ⟨cp, cdir, cdo, crl, ch⟩).2.su) ∧ ((0 : Int)) = ((betweenP hc hf hs hd ⟨cp, cdir, cdo, crl, ch⟩).2.sd) from (c_i hfin.1 (c_i hfin.2.1 (c_i hfin.2.2.1 (c_b hfin.2.2.2.1 (c_i hfin.2.2.2.2.1 (c_b hfin.2.2.2.2.2.1 (c_b hfin.2.2.2.2.2.2.1 (c_i hfin.2.2.2.2.2.2.2.1 (c_i hfin.2.2.2.2.2.2.2.2.1 (c_i hfin.2.2.2.2.2.2.2.2.2.1 (c_i hfin.2.2.2.2.2.2.2.2.2.2.1 (c_i hfin.2.2.2.2.2.2.2.2.2.2.2.1 (c_i hfin.2.2.2.2.2.2.2.2.2.2.2.2 rfl)))))))))))))
        -- leaf 2 (ret)
        have hv := carRight_valid hpre
        simp only at hv
        have ht := top_range hc hf hs hd
        have hk := clampM_range (-1)
        have hk2 := clampM_range cdir
        
        have hg := hr10.symm.trans c3
        have e9 : r9 = cp + clampM (-1) := hr9.trans (goPos_eq hg)
        have e1 : (crl && level hc hf hs hd (cp + clampM (-1))) = true := by
          rw [c1, Bool.true_and, ← e9]; exact hr11.symm.trans c4
        rw [betweenP_lv (x := -1) (by simp [betweenDir, c1]) hg e1]
        exact ⟨e9, rfl, rfl, rfl, rfl, rfl, rfl, rfl, rfl, by rw [e9, wrap_in (by omega) (by omega)]; show _ = clampM (-1); omega, rfl, rfl, rfl⟩
      ·
        have c5 : r11 = false := hcond
        clear hcond
        suffices hfin : (r9) = ((betweenP hc hf hs hd ⟨cp, cdir, cdo, crl, ch⟩).1.pos) ∧ ((-1)) = ((betweenP hc hf hs hd ⟨cp, cdir, cdo, crl, ch⟩).1.dir) ∧ (cdo) = ((betweenP hc hf hs hd ⟨cp, cdir, cdo, crl, ch⟩).1.door) ∧ (crl) = ((betweenP hc hf hs hd ⟨cp, cdir, cdo, crl, ch⟩).1.rl) ∧ (ch) = ((betweenP hc hf hs hd ⟨cp, cdir, cdo, crl, ch⟩).1.held) ∧ (false) = ((betweenP hc hf hs hd ⟨cp, cdir, cdo, crl, ch⟩).2.op) ∧ (false) = ((betweenP hc hf hs hd ⟨cp, cdir, cdo, crl, ch⟩).2.cl) ∧ ((0 : Int)) = ((betweenP hc hf hs hd ⟨cp, cdir, cdo, crl, ch⟩).2.fl) ∧ ((0 : Int)) = ((betweenP hc hf hs hd ⟨cp, cdir, cdo, crl, ch⟩).2.lan) ∧ ((IntKind.wrap .i64 (r9 - cp))) = ((betweenP hc hf hs hd ⟨cp, cdir, cdo, crl, ch⟩).2.mv) ∧ ((0 : Int)) = ((betweenP hc hf hs hd ⟨cp, cdir, cdo, crl, ch⟩).2.sc) ∧ ((0 : Int)) = ((betweenP hc hf hs hd ⟨cp, cdir, cdo, crl, ch⟩).2.su) ∧ ((0 : Int)) = ((betweenP hc hf hs hd ⟨cp, cdir, cdo, crl, ch⟩).2.sd) from (c_i hfin.1 (c_i hfin.2.1 (c_i hfin.2.2.1 (c_b hfin.2.2.2.1 (c_i hfin.2.2.2.2.1 (c_b hfin.2.2.2.2.2.1 (c_b hfin.2.2.2.2.2.2.1 (c_i hfin.2.2.2.2.2.2.2.1 (c_i hfin.2.2.2.2.2.2.2.2.1 (c_i hfin.2.2.2.2.2.2.2.2.2.1 (c_i hfin.2.2.2.2.2.2.2.2.2.2.1 (c_i hfin.2.2.2.2.2.2.2.2.2.2.2.1 (c_i hfin.2.2.2.2.2.2.2.2.2.2.2.2 rfl)))))))))))))
        -- leaf 3 (ret)
        have hv := carRight_valid hpre
        simp only at hv
        have ht := top_range hc hf hs hd
        have hk := clampM_range (-1)
        have hk2 := clampM_range cdir
        
        have hg := hr10.symm.trans c3
        have e9 : r9 = cp + clampM (-1) := hr9.trans (goPos_eq hg)
        have e1 : (crl && level hc hf hs hd (cp + clampM (-1))) = false := by
          rw [c1, Bool.true_and, ← e9]; exact hr11.symm.trans c5
        rw [betweenP_mv (x := -1) (by simp [betweenDir, c1]) hg e1]
        exact ⟨e9, rfl, rfl, rfl, rfl, rfl, rfl, rfl, rfl, by rw [e9, wrap_in (by omega) (by omega)]; show _ = clampM (-1); omega, rfl, rfl, rfl⟩
  ·
    have c6 : crl = false := hcond
    clear hcond
    refine vg_call (C := C_go) rfl rfl (xs := [.i hc, .i hf, .i hs, .i hd, .i cp, .i cdir]) rfl (fun hg => ?_) (fun rs hrs => ?_)
    ·
      exact trivial
    obtain ⟨r9, r10, hr9, hr10, rfl⟩ := go_res hrs
    clear hrs
    change Fm.holds _ _ (lk [.i hc, .i hf, .i hs, .i hd, .i cp, .i cdir, .i cdo, .b crl, .i ch, .i r9, .b r10])
    refine ⟨fun hcond => ?_, fun hcond => ?_⟩
    ·
      have c7 : r10 = false := hcond
      clear hcond
      suffices hfin : (cp) = ((betweenP hc hf hs hd ⟨cp, cdir, cdo, crl, ch⟩).1.pos) ∧ (cdir) = ((betweenP hc hf hs hd ⟨cp, cdir, cdo, crl, ch⟩).1.dir) ∧ (cdo) = ((betweenP hc hf hs hd ⟨cp, cdir, cdo, crl, ch⟩).1.door) ∧ (crl) = ((betweenP hc hf hs hd ⟨cp, cdir, cdo, crl, ch⟩).1.rl) ∧ (ch) = ((betweenP hc hf hs hd ⟨cp, cdir, cdo, crl, ch⟩).1.held) ∧ (false) = ((betweenP hc hf hs hd ⟨cp, cdir, cdo, crl, ch⟩).2.op) ∧ (false) = ((betweenP hc hf hs hd ⟨cp, cdir, cdo, crl, ch⟩).2.cl) ∧ ((0 : Int)) = ((betweenP hc hf hs hd ⟨cp, cdir, cdo, crl, ch⟩).2.fl) ∧ ((0 : Int)) = ((betweenP hc hf hs hd ⟨cp, cdir, cdo, crl, ch⟩).2.lan) ∧ ((0 : Int)) = ((betweenP hc hf hs hd ⟨cp, cdir, cdo, crl, ch⟩).2.mv) ∧ ((0 : Int)) = ((betweenP hc hf hs hd ⟨cp, cdir, cdo, crl, ch⟩).2.sc) ∧ ((0 : Int)) = ((betweenP hc hf hs hd ⟨cp, cdir, cdo, crl, ch⟩).2.su) ∧ ((0 : Int)) = ((betweenP hc hf hs hd ⟨cp, cdir, cdo, crl, ch⟩).2.sd) from (c_i hfin.1 (c_i hfin.2.1 (c_i hfin.2.2.1 (c_b hfin.2.2.2.1 (c_i hfin.2.2.2.2.1 (c_b hfin.2.2.2.2.2.1 (c_b hfin.2.2.2.2.2.2.1 (c_i hfin.2.2.2.2.2.2.2.1 (c_i hfin.2.2.2.2.2.2.2.2.1 (c_i hfin.2.2.2.2.2.2.2.2.2.1 (c_i hfin.2.2.2.2.2.2.2.2.2.2.1 (c_i hfin.2.2.2.2.2.2.2.2.2.2.2.1 (c_i hfin.2.2.2.2.2.2.2.2.2.2.2.2 rfl)))))))))))))
      -- leaf 4 (ret)
      rw [betweenP_no (x := cdir) (by simp [betweenDir, c6]) (hr10.symm.trans c7)]
      exact ⟨rfl, rfl, rfl, rfl, rfl, rfl, rfl, rfl, rfl, rfl, rfl, rfl, rfl⟩
    ·
      have c8 : r10 = true := hcond
      clear hcond
      suffices hfin : (r9) = ((betweenP hc hf hs hd ⟨cp, cdir, cdo, crl, ch⟩).1.pos) ∧ (cdir) = ((betweenP hc hf hs hd ⟨cp, cdir, cdo, crl, ch⟩).1.dir) ∧ (cdo) = ((betweenP hc hf hs hd ⟨cp, cdir, cdo, crl, ch⟩).1.door) ∧ (crl) = ((betweenP hc hf hs hd ⟨cp, cdir, cdo, crl, ch⟩).1.rl) ∧ (ch) = ((betweenP hc hf hs hd ⟨cp, cdir, cdo, crl, ch⟩).1.held) ∧ (false) = ((betweenP hc hf hs hd ⟨cp, cdir, cdo, crl, ch⟩).2.op) ∧ (false) = ((betweenP hc hf hs hd ⟨cp, cdir, cdo, crl, ch⟩).2.cl) ∧ ((0 : Int)) = ((betweenP hc hf hs hd ⟨cp, cdir, cdo, crl, ch⟩).2.fl) ∧ ((0 : Int)) = ((betweenP hc hf hs hd ⟨cp, cdir, cdo, crl, ch⟩).2.lan) ∧ ((IntKind.wrap .i64 (r9 - cp))) = ((betweenP hc hf hs hd ⟨cp, cdir, cdo, crl, ch⟩).2.mv) ∧ ((0 : Int)) = ((betweenP hc hf hs hd ⟨cp, cdir, cdo, crl, ch⟩).2.sc) ∧ ((0 : Int)) = ((betweenP hc hf hs hd ⟨cp, cdir, cdo, crl, ch⟩).2.su) ∧ ((0 : Int)) = ((betweenP hc hf hs hd ⟨cp, cdir, cdo, crl, ch⟩).2.sd) from (c_i hfin.1 (c_i hfin.2.1 (c_i hfin.2.2.1 (c_b hfin.2.2.2.1 (c_i hfin.2.2.2.2.1 (c_b hfin.2.2.2.2.2.1 (c_b hfin.2.2.2.2.2.2.1 (c_i hfin.2.2.2.2.2.2.2.1 (c_i hfin.2.2.2.2.2.2.2.2.1 (c_i hfin.2.2.2.2.2.2.2.2.2.1 (c_i hfin.2.2.2.2.2.2.2.2.2.2.1 (c_i hfin.2.2.2.2.2.2.2.2.2.2.2.1 (c_i hfin.2.2.2.2.2.2.2.2.2.2.2.2 rfl)))))))))))))
      -- leaf 5 (ret)
      have hv := carRight_valid hpre
      simp only at hv
      have ht := top_range hc hf hs hd
      have hk := clampM_range (-1)
      have hk2 := clampM_range cdir
      
      have hg := hr10.symm.trans c8
      have e9 : r9 = cp + clampM (cdir) := hr9.trans (goPos_eq hg)
      have e1 : (crl && level hc hf hs hd (cp + clampM (cdir))) = false := by
        rw [c6]; rfl
      rw [betweenP_mv (x := cdir) (by simp [betweenDir, c6]) hg e1]
      exact ⟨e9, rfl, rfl, rfl, rfl, rfl, rfl, rfl, rfl, by rw [e9, wrap_in (by omega) (by omega)]; show _ = clampM (cdir); omega, rfl, rfl, rfl⟩
def C_clevel : Ctr := ⟨[.agg [.int .i64, .int .i64, .int .i64, .int .i64], .agg [.int .i64, .int .i64, .int .i64, .bool, .int .i64], .agg [.int .u64, .int .u64, .int .u64]], [.agg [.int .i64, .int .i64, .int .i64, .bool, .int .i64], .agg [.bool, .bool, .int .i64, .int .i64, .int .i64, .int .u64, .int .u64, .int .u64]],
  fun | [.i hc, .i hf, .i hs, .i hd, .i cp, .i cdir, .i cdo, .b crl, .i ch, .i s0, .i s1, .i s2] => carRight hc hf hs hd ⟨cp, cdir, cdo, crl, ch⟩ = true | _ => False,
  fun | [.i hc, .i hf, .i hs, .i hd, .i cp, .i cdir, .i cdo, .b crl, .i ch, .i s0, .i s1, .i s2] => [.i ((levelP hc hf hs hd ⟨cp, cdir, cdo, crl, ch⟩ ⟨s0, s1, s2⟩).1.pos), .i ((levelP hc hf hs hd ⟨cp, cdir, cdo, crl, ch⟩ ⟨s0, s1, s2⟩).1.dir), .i ((levelP hc hf hs hd ⟨cp, cdir, cdo, crl, ch⟩ ⟨s0, s1, s2⟩).1.door), .b ((levelP hc hf hs hd ⟨cp, cdir, cdo, crl, ch⟩ ⟨s0, s1, s2⟩).1.rl), .i ((levelP hc hf hs hd ⟨cp, cdir, cdo, crl, ch⟩ ⟨s0, s1, s2⟩).1.held), .b ((levelP hc hf hs hd ⟨cp, cdir, cdo, crl, ch⟩ ⟨s0, s1, s2⟩).2.op), .b ((levelP hc hf hs hd ⟨cp, cdir, cdo, crl, ch⟩ ⟨s0, s1, s2⟩).2.cl), .i ((levelP hc hf hs hd ⟨cp, cdir, cdo, crl, ch⟩ ⟨s0, s1, s2⟩).2.fl), .i ((levelP hc hf hs hd ⟨cp, cdir, cdo, crl, ch⟩ ⟨s0, s1, s2⟩).2.lan), .i ((levelP hc hf hs hd ⟨cp, cdir, cdo, crl, ch⟩ ⟨s0, s1, s2⟩).2.mv), .i ((levelP hc hf hs hd ⟨cp, cdir, cdo, crl, ch⟩ ⟨s0, s1, s2⟩).2.sc), .i ((levelP hc hf hs hd ⟨cp, cdir, cdo, crl, ch⟩ ⟨s0, s1, s2⟩).2.su), .i ((levelP hc hf hs hd ⟨cp, cdir, cdo, crl, ch⟩ ⟨s0, s1, s2⟩).2.sd)] | _ => []⟩
theorem clevel_pre {ls : List Leaf} (h_ : C_clevel.pre ls) : ∃ (hc : Int) (hf : Int) (hs : Int) (hd : Int) (cp : Int) (cdir : Int) (cdo : Int) (crl : Bool) (ch : Int) (s0 : Int) (s1 : Int) (s2 : Int), ls = [.i hc, .i hf, .i hs, .i hd, .i cp, .i cdir, .i cdo, .b crl, .i ch, .i s0, .i s1, .i s2] ∧ (carRight hc hf hs hd ⟨cp, cdir, cdo, crl, ch⟩ = true) := by
  unfold C_clevel at h_; dsimp only at h_; split at h_
  · exact ⟨_, _, _, _, _, _, _, _, _, _, _, _, rfl, h_⟩
  · exact h_.elim
theorem clevel_mk {hc : Int} {hf : Int} {hs : Int} {hd : Int} {cp : Int} {cdir : Int} {cdo : Int} {crl : Bool} {ch : Int} {s0 : Int} {s1 : Int} {s2 : Int} (h_ : carRight hc hf hs hd ⟨cp, cdir, cdo, crl, ch⟩ = true) : C_clevel.pre [.i hc, .i hf, .i hs, .i hd, .i cp, .i cdir, .i cdo, .b crl, .i ch, .i s0, .i s1, .i s2] := h_
theorem clevel_res {hc : Int} {hf : Int} {hs : Int} {hd : Int} {cp : Int} {cdir : Int} {cdo : Int} {crl : Bool} {ch : Int} {s0 : Int} {s1 : Int} {s2 : Int} {rs_ : List Leaf} (h_ : rs_ = C_clevel.fn [.i hc, .i hf, .i hs, .i hd, .i cp, .i cdir, .i cdo, .b crl, .i ch, .i s0, .i s1, .i s2]) : ∃ (q0 : Int) (q1 : Int) (q2 : Int) (q3 : Bool) (q4 : Int) (q5 : Bool) (q6 : Bool) (q7 : Int) (q8 : Int) (q9 : Int) (q10 : Int) (q11 : Int) (q12 : Int), q0 = ((levelP hc hf hs hd ⟨cp, cdir, cdo, crl, ch⟩ ⟨s0, s1, s2⟩).1.pos) ∧ q1 = ((levelP hc hf hs hd ⟨cp, cdir, cdo, crl, ch⟩ ⟨s0, s1, s2⟩).1.dir) ∧ q2 = ((levelP hc hf hs hd ⟨cp, cdir, cdo, crl, ch⟩ ⟨s0, s1, s2⟩).1.door) ∧ q3 = ((levelP hc hf hs hd ⟨cp, cdir, cdo, crl, ch⟩ ⟨s0, s1, s2⟩).1.rl) ∧ q4 = ((levelP hc hf hs hd ⟨cp, cdir, cdo, crl, ch⟩ ⟨s0, s1, s2⟩).1.held) ∧ q5 = ((levelP hc hf hs hd ⟨cp, cdir, cdo, crl, ch⟩ ⟨s0, s1, s2⟩).2.op) ∧ q6 = ((levelP hc hf hs hd ⟨cp, cdir, cdo, crl, ch⟩ ⟨s0, s1, s2⟩).2.cl) ∧ q7 = ((levelP hc hf hs hd ⟨cp, cdir, cdo, crl, ch⟩ ⟨s0, s1, s2⟩).2.fl) ∧ q8 = ((levelP hc hf hs hd ⟨cp, cdir, cdo, crl, ch⟩ ⟨s0, s1, s2⟩).2.lan) ∧ q9 = ((levelP hc hf hs hd ⟨cp, cdir, cdo, crl, ch⟩ ⟨s0, s1, s2⟩).2.mv) ∧ q10 = ((levelP hc hf hs hd ⟨cp, cdir, cdo, crl, ch⟩ ⟨s0, s1, s2⟩).2.sc) ∧ q11 = ((levelP hc hf hs hd ⟨cp, cdir, cdo, crl, ch⟩ ⟨s0, s1, s2⟩).2.su) ∧ q12 = ((levelP hc hf hs hd ⟨cp, cdir, cdo, crl, ch⟩ ⟨s0, s1, s2⟩).2.sd) ∧ rs_ = [.i q0, .i q1, .i q2, .b q3, .i q4, .b q5, .b q6, .i q7, .i q8, .i q9, .i q10, .i q11, .i q12] := ⟨_, _, _, _, _, _, _, _, _, _, _, _, _, rfl, rfl, rfl, rfl, rfl, rfl, rfl, rfl, rfl, rfl, rfl, rfl, rfl, h_⟩
def phi_clevel : Fm := (.call 26 [] [(.i (.v 0)), (.i (.v 1)), (.i (.v 2)), (.i (.v 3)), (.i (.v 4))] 12 (.call 63 [] [(.i (.v 9)), (.i (.v 10)), (.i (.v 11)), (.i (.v 12)), (.i (.v 5))] 13 (.and (.imp (.v 13) .true (.call 64 [] [(.i (.v 3))] 16 (.call 30 [] [(.i (.v 9)), (.i (.v 10)), (.i (.v 11)), (.i (.v 12))] 18 (.and (.imp (.v 18) .true (.ob [] (.le (.i 0) (.v 12)) (.call 31 [] [(.i (.v 9)), (.i (.v 10)), (.i (.v 11)), (.i (.v 12)), (.i (.v 14))] 19 (.and (.imp (.v 19) .true (.call 29 [] [(.i (.shl .u64 (.i 1) (.v 12))), (.i (.i 0)), (.i (.i 0)), (.i (.v 12)), (.i (.v 14))] 20 (.ret [(.i (.v 4)), (.i (.v 14)), (.i (.v 16)), (.b (.t .false)), (.i (.v 17)), (.b (.t .true)), (.b (.t .false)), (.i (.i 0)), (.i (.v 14)), (.i (.i 0)), (.i (.v 20)), (.i (.v 21)), (.i (.v 22))]))) (.imp (.v 19) .false (.ret [(.i (.v 4)), (.i (.v 14)), (.i (.v 16)), (.b (.t .false)), (.i (.v 17)), (.b (.t .true)), (.b (.t .false)), (.i (.i 0)), (.i (.v 14)), (.i (.i 0)), (.i (.shl .u64 (.i 1) (.v 12))), (.i (.i 0)), (.i (.i 0))])))))) (.imp (.v 18) .false (.call 31 [] [(.i (.v 9)), (.i (.v 10)), (.i (.v 11)), (.i (.v 12)), (.i (.v 14))] 19 (.and (.imp (.v 19) .true (.call 29 [] [(.i (.i 0)), (.i (.i 0)), (.i (.i 0)), (.i (.v 12)), (.i (.v 14))] 20 (.ret [(.i (.v 4)), (.i (.v 14)), (.i (.v 16)), (.b (.t .false)), (.i (.v 17)), (.b (.t .true)), (.b (.t .false)), (.i (.i 0)), (.i (.v 14)), (.i (.i 0)), (.i (.v 20)), (.i (.v 21)), (.i (.v 22))]))) (.imp (.v 19) .false (.ret [(.i (.v 4)), (.i (.v 14)), (.i (.v 16)), (.b (.t .false)), (.i (.v 17)), (.b (.t .true)), (.b (.t .false)), (.i (.i 0)), (.i (.v 14)), (.i (.i 0)), (.i (.i 0)), (.i (.i 0)), (.i (.i 0))]))))))))) (.imp (.v 13) .false (.call 62 [] [(.i (.v 0)), (.i (.v 1)), (.i (.v 2)), (.i (.v 3)), (.i (.v 4)), (.i (.v 15))] 16 (.and (.imp (.ite (.not (.v 17)) (.t .true) (.eq (.v 15) (.i 0))) .true (.ret [(.i (.v 4)), (.i (.v 14)), (.i (.v 6)), (.b (.t .false)), (.i (.v 8)), (.b (.t .false)), (.b (.t .false)), (.i (.i 0)), (.i (.i 0)), (.i (.i 0)), (.i (.i 0)), (.i (.i 0)), (.i (.i 0))])) (.imp (.ite (.not (.v 17)) (.t .true) (.eq (.v 15) (.i 0))) .false (.ret [(.i (.v 16)), (.i (.v 14)), (.i (.v 6)), (.b (.t .false)), (.i (.v 8)), (.b (.t .false)), (.b (.t .false)), (.i (.i 0)), (.i (.i 0)), (.i (.v 15)), (.i (.i 0)), (.i (.i 0)), (.i (.i 0))]))))))))
def tbl_clevel : List (Nat × Ctr) := [(26, C_floor), (29, C_put), (30, C_at), (31, C_hall), (62, C_go), (63, C_planat), (64, C_dopen)]
theorem vc_clevel : vcg Tryd.prog (sigT tbl_clevel) [] Tryd.f44 C_clevel.params C_clevel.res = some phi_clevel := by kernel_rfl
--SPLIT
theorem clevel_sound : C_clevel.Sound Tryd.prog G 44 := by
  refine fn_ok mixed stable tbl_clevel [] Tryd.func44 (by kernel_rfl) phi_clevel vc_clevel ⟨floor_sound, put_sound, at_sound, hall_sound, go_sound, planat_sound, dopen_sound, trivial⟩ (fun _ _ _ => False) (fun _ _ _ => 0) ?_
  intro ls hp
  obtain ⟨hc, hf, hs, hd, cp, cdir, cdo, crl, ch, s0, s1, s2, rfl, hpre⟩ := clevel_pre hp
  clear hp
  rw [envOf_lk]
  unfold phi_clevel
  refine vg_call (C := C_floor) rfl rfl (xs := [.i hc, .i hf, .i hs, .i hd, .i cp]) rfl (fun hg => ?_) (fun rs hrs => ?_)
  ·
    exact trivial
  obtain ⟨r12, hr12, rfl⟩ := floor_res hrs
  clear hrs
  change Fm.holds _ _ (lk [.i hc, .i hf, .i hs, .i hd, .i cp, .i cdir, .i cdo, .b crl, .i ch, .i s0, .i s1, .i s2, .i r12])
  refine vg_call (C := C_planat) rfl rfl (xs := [.i s0, .i s1, .i s2, .i r12, .i cdir]) rfl (fun hg => ?_) (fun rs hrs => ?_)
  ·
    exact trivial
  obtain ⟨r13, r14, r15, hr13, hr14, hr15, rfl⟩ := planat_res hrs
  clear hrs
  change Fm.holds _ _ (lk [.i hc, .i hf, .i hs, .i hd, .i cp, .i cdir, .i cdo, .b crl, .i ch, .i s0, .i s1, .i s2, .i r12, .b r13, .i r14, .i r15])
  refine ⟨fun hcond => ?_, fun hcond => ?_⟩
  ·
    have c1 : r13 = true := hcond
    clear hcond
    refine vg_call (C := C_dopen) rfl rfl (xs := [.i hd]) rfl (fun hg => ?_) (fun rs hrs => ?_)
    ·
      exact trivial
    obtain ⟨r16, r17, hr16, hr17, rfl⟩ := dopen_res hrs
    clear hrs
    change Fm.holds _ _ (lk [.i hc, .i hf, .i hs, .i hd, .i cp, .i cdir, .i cdo, .b crl, .i ch, .i s0, .i s1, .i s2, .i r12, .b r13, .i r14, .i r15, .i r16, .i r17])
    refine vg_call (C := C_at) rfl rfl (xs := [.i s0, .i s1, .i s2, .i r12]) rfl (fun hg => ?_) (fun rs hrs => ?_)
    ·
      exact trivial
    obtain ⟨r18, hr18, rfl⟩ := at_res hrs
    clear hrs
    change Fm.holds _ _ (lk [.i hc, .i hf, .i hs, .i hd, .i cp, .i cdir, .i cdo, .b crl, .i ch, .i s0, .i s1, .i s2, .i r12, .b r13, .i r14, .i r15, .i r16, .i r17, .b r18])
    refine ⟨fun hcond => ?_, fun hcond => ?_⟩
    ·
      have c2 : r18 = true := hcond
      clear hcond
      refine ⟨fun hg => ?_, ?_⟩
      ·
        show (decide ((0 : Int) ≤ r12)) = true
        -- leaf 1 (ob)
        have hv := carRight_valid hpre
        have hf0 := floor_ok (p := cp) hv.1
        rw [hr12]
        simp; omega
      refine vg_call (C := C_hall) rfl rfl (xs := [.i s0, .i s1, .i s2, .i r12, .i r14]) rfl (fun hg => ?_) (fun rs hrs => ?_)
      ·
        exact trivial
      obtain ⟨r19, hr19, rfl⟩ := hall_res hrs
      clear hrs
      change Fm.holds _ _ (lk [.i hc, .i hf, .i hs, .i hd, .i cp, .i cdir, .i cdo, .b crl, .i ch, .i s0, .i s1, .i s2, .i r12, .b r13, .i r14, .i r15, .i r16, .i r17, .b r18, .b r19])
      refine ⟨fun hcond => ?_, fun hcond => ?_⟩
      ·
        have c3 : r19 = true := hcond
        clear hcond
        refine vg_call (C := C_put) rfl rfl (xs := [.i (IntKind.wrap .u64 ((1 : Int) * 2 ^ (min (Int.toNat r12) (IntKind.bits .u64)))), .i (0 : Int), .i (0 : Int), .i r12, .i r14]) rfl (fun hg => ?_) (fun rs hrs => ?_)
        ·
          exact trivial
        obtain ⟨r20, r21, r22, hr20, hr21, hr22, rfl⟩ := put_res hrs
        clear hrs
        change Fm.holds _ _ (lk [.i hc, .i hf, .i hs, .i hd, .i cp, .i cdir, .i cdo, .b crl, .i ch, .i s0, .i s1, .i s2, .i r12, .b r13, .i r14, .i r15, .i r16, .i r17, .b r18, .b r19, .i r20, .i r21, .i r22])
        suffices hfin : (cp) = ((levelP hc hf hs hd ⟨cp, cdir, cdo, crl, ch⟩ ⟨s0, s1, s2⟩).1.pos) ∧ (r14) = ((levelP hc hf hs hd ⟨cp, cdir, cdo, crl, ch⟩ ⟨s0, s1, s2⟩).1.dir) ∧ (r16) = ((levelP hc hf hs hd ⟨cp, cdir, cdo, crl, ch⟩ ⟨s0, s1, s2⟩).1.door) ∧ (false) = ((levelP hc hf hs hd ⟨cp, cdir, cdo, crl, ch⟩ ⟨s0, s1, s2⟩).1.rl) ∧ (r17) = ((levelP hc hf hs hd ⟨cp, cdir, cdo, crl, ch⟩ ⟨s0, s1, s2⟩).1.held) ∧ (true) = ((levelP hc hf hs hd ⟨cp, cdir, cdo, crl, ch⟩ ⟨s0, s1, s2⟩).2.op) ∧ (false) = ((levelP hc hf hs hd ⟨cp, cdir, cdo, crl, ch⟩ ⟨s0, s1, s2⟩).2.cl) ∧ ((0 : Int)) = ((levelP hc hf hs hd ⟨cp, cdir, cdo, crl, ch⟩ ⟨s0, s1, s2⟩).2.fl) ∧ (r14) = ((levelP hc hf hs hd ⟨cp, cdir, cdo, crl, ch⟩ ⟨s0, s1, s2⟩).2.lan) ∧ ((0 : Int)) = ((levelP hc hf hs hd ⟨cp, cdir, cdo, crl, ch⟩ ⟨s0, s1, s2⟩).2.mv) ∧ (r20) = ((levelP hc hf hs hd ⟨cp, cdir, cdo, crl, ch⟩ ⟨s0, s1, s2⟩).2.sc) ∧ (r21) = ((levelP hc hf hs hd ⟨cp, cdir, cdo, crl, ch⟩ ⟨s0, s1, s2⟩).2.su) ∧ (r22) = ((levelP hc hf hs hd ⟨cp, cdir, cdo, crl, ch⟩ ⟨s0, s1, s2⟩).2.sd) from (c_i hfin.1 (c_i hfin.2.1 (c_i hfin.2.2.1 (c_b hfin.2.2.2.1 (c_i hfin.2.2.2.2.1 (c_b hfin.2.2.2.2.2.1 (c_b hfin.2.2.2.2.2.2.1 (c_i hfin.2.2.2.2.2.2.2.1 (c_i hfin.2.2.2.2.2.2.2.2.1 (c_i hfin.2.2.2.2.2.2.2.2.2.1 (c_i hfin.2.2.2.2.2.2.2.2.2.2.1 (c_i hfin.2.2.2.2.2.2.2.2.2.2.2.1 (c_i hfin.2.2.2.2.2.2.2.2.2.2.2.2 rfl)))))))))))))
        -- leaf 2 (ret)
        subst hr12
        have hst : stopP s0 s1 s2 (floor hc hf hs hd cp) cdir = true := hr13.symm.trans c1
        rw [levelP_stop (c := ⟨cp, cdir, cdo, crl, ch⟩) (s := ⟨s0, s1, s2⟩) hst]
        have h18 := hr18.symm.trans c2
        have h19 := hr19.symm.trans c3
        refine ⟨rfl, hr14, hr16, rfl, hr17, rfl, rfl, rfl, hr14, rfl, ?_, ?_, ?_⟩
        · show _ = if isb s0 (floor hc hf hs hd cp) = true then N (1#64 <<< (floor hc hf hs hd cp).toNat) else 0
          rw [hr20, shl1, if_pos h18]
        · show _ = put1 0 (floor hc hf hs hd cp) (hallb s1 s2 (floor hc hf hs hd cp) (dirP s0 s1 s2 (floor hc hf hs hd cp) cdir) && (okf (floor hc hf hs hd cp) && dirP s0 s1 s2 (floor hc hf hs hd cp) cdir == 1))
          rw [← hr14, h19]
          rw [hr21, Bool.true_and]
        · show _ = put1 0 (floor hc hf hs hd cp) (hallb s1 s2 (floor hc hf hs hd cp) (dirP s0 s1 s2 (floor hc hf hs hd cp) cdir) && (okf (floor hc hf hs hd cp) && dirP s0 s1 s2 (floor hc hf hs hd cp) cdir == -1))
          rw [← hr14, h19]
          rw [hr22, Bool.true_and]
      ·
        have c4 : r19 = false := hcond
        clear hcond
        suffices hfin : (cp) = ((levelP hc hf hs hd ⟨cp, cdir, cdo, crl, ch⟩ ⟨s0, s1, s2⟩).1.pos) ∧ (r14) = ((levelP hc hf hs hd ⟨cp, cdir, cdo, crl, ch⟩ ⟨s0, s1, s2⟩).1.dir) ∧ (r16) = ((levelP hc hf hs hd ⟨cp, cdir, cdo, crl, ch⟩ ⟨s0, s1, s2⟩).1.door) ∧ (false) = ((levelP hc hf hs hd ⟨cp, cdir, cdo, crl, ch⟩ ⟨s0, s1, s2⟩).1.rl) ∧ (r17) = ((levelP hc hf hs hd ⟨cp, cdir, cdo, crl, ch⟩ ⟨s0, s1, s2⟩).1.held) ∧ (true) = ((levelP hc hf hs hd ⟨cp, cdir, cdo, crl, ch⟩ ⟨s0, s1, s2⟩).2.op) ∧ (false) = ((levelP hc hf hs hd ⟨cp, cdir, cdo, crl, ch⟩ ⟨s0, s1, s2⟩).2.cl) ∧ ((0 : Int)) = ((levelP hc hf hs hd ⟨cp, cdir, cdo, crl, ch⟩ ⟨s0, s1, s2⟩).2.fl) ∧ (r14) = ((levelP hc hf hs hd ⟨cp, cdir, cdo, crl, ch⟩ ⟨s0, s1, s2⟩).2.lan) ∧ ((0 : Int)) = ((levelP hc hf hs hd ⟨cp, cdir, cdo, crl, ch⟩ ⟨s0, s1, s2⟩).2.mv) ∧ ((IntKind.wrap .u64 ((1 : Int) * 2 ^ (min (Int.toNat r12) (IntKind.bits .u64))))) = ((levelP hc hf hs hd ⟨cp, cdir, cdo, crl, ch⟩ ⟨s0, s1, s2⟩).2.sc) ∧ ((0 : Int)) = ((levelP hc hf hs hd ⟨cp, cdir, cdo, crl, ch⟩ ⟨s0, s1, s2⟩).2.su) ∧ ((0 : Int)) = ((levelP hc hf hs hd ⟨cp, cdir, cdo, crl, ch⟩ ⟨s0, s1, s2⟩).2.sd) from (c_i hfin.1 (c_i hfin.2.1 (c_i hfin.2.2.1 (c_b hfin.2.2.2.1 (c_i hfin.2.2.2.2.1 (c_b hfin.2.2.2.2.2.1 (c_b hfin.2.2.2.2.2.2.1 (c_i hfin.2.2.2.2.2.2.2.1 (c_i hfin.2.2.2.2.2.2.2.2.1 (c_i hfin.2.2.2.2.2.2.2.2.2.1 (c_i hfin.2.2.2.2.2.2.2.2.2.2.1 (c_i hfin.2.2.2.2.2.2.2.2.2.2.2.1 (c_i hfin.2.2.2.2.2.2.2.2.2.2.2.2 rfl)))))))))))))
        -- leaf 3 (ret)
        subst hr12
        have hst : stopP s0 s1 s2 (floor hc hf hs hd cp) cdir = true := hr13.symm.trans c1
        rw [levelP_stop (c := ⟨cp, cdir, cdo, crl, ch⟩) (s := ⟨s0, s1, s2⟩) hst]
        have h18 := hr18.symm.trans c2
        have h19 := hr19.symm.trans c4
        refine ⟨rfl, hr14, hr16, rfl, hr17, rfl, rfl, rfl, hr14, rfl, ?_, ?_, ?_⟩
        · show _ = if isb s0 (floor hc hf hs hd cp) = true then N (1#64 <<< (floor hc hf hs hd cp).toNat) else 0
          rw [shl1, if_pos h18]
        · show _ = put1 0 (floor hc hf hs hd cp) (hallb s1 s2 (floor hc hf hs hd cp) (dirP s0 s1 s2 (floor hc hf hs hd cp) cdir) && (okf (floor hc hf hs hd cp) && dirP s0 s1 s2 (floor hc hf hs hd cp) cdir == 1))
          rw [← hr14, h19]
          rw [Bool.false_and]; rfl
        · show _ = put1 0 (floor hc hf hs hd cp) (hallb s1 s2 (floor hc hf hs hd cp) (dirP s0 s1 s2 (floor hc hf hs hd cp) cdir) && (okf (floor hc hf hs hd cp) && dirP s0 s1 s2 (floor hc hf hs hd cp) cdir == -1))
          rw [← hr14, h19]
          rw [Bool.false_and]; rfl
    ·
      have c5 : r18 = false := hcond
      clear hcond
      refine vg_call (C := C_hall) rfl rfl (xs := [.i s0, .i s1, .i s2, .i r12, .i r14]) rfl (fun hg => ?_) (fun rs hrs => ?_)
      ·
        exact trivial
      obtain ⟨r19, hr19, rfl⟩ := hall_res hrs
      clear hrs
      change Fm.holds _ _ (lk [.i hc, .i hf, .i hs, .i hd, .i cp, .i cdir, .i cdo, .b crl, .i ch, .i s0, .i s1, .i s2, .i r12, .b r13, .i r14, .i r15, .i r16, .i r17, .b r18, .b r19])
      refine ⟨fun hcond => ?_, fun hcond => ?_⟩
      ·
        have c6 : r19 = true := hcond
        clear hcond
        refine vg_call (C := C_put) rfl rfl (xs := [.i (0 : Int), .i (0 : Int), .i (0 : Int), .i r12, .i r14]) rfl (fun hg => ?_) (fun rs hrs => ?_)
        ·
          exact trivial
        obtain ⟨r20, r21, r22, hr20, hr21, hr22, rfl⟩ := put_res hrs
        clear hrs
        change Fm.holds _ _ (lk [.i hc, .i hf, .i hs, .i hd, .i cp, .i cdir, .i cdo, .b crl, .i ch, .i s0, .i s1, .i s2, .i r12, .b r13, .i r14, .i r15, .i r16, .i r17, .b r18, .b r19, .i r20, .i r21, .i r22])
        suffices hfin : (cp) = ((levelP hc hf hs hd ⟨cp, cdir, cdo, crl, ch⟩ ⟨s0, s1, s2⟩).1.pos) ∧ (r14) = ((levelP hc hf hs hd ⟨cp, cdir, cdo, crl, ch⟩ ⟨s0, s1, s2⟩).1.dir) ∧ (r16) = ((levelP hc hf hs hd ⟨cp, cdir, cdo, crl, ch⟩ ⟨s0, s1, s2⟩).1.door) ∧ (false) = ((levelP hc hf hs hd ⟨cp, cdir, cdo, crl, ch⟩ ⟨s0, s1, s2⟩).1.rl) ∧ (r17) = ((levelP hc hf hs hd ⟨cp, cdir, cdo, crl, ch⟩ ⟨s0, s1, s2⟩).1.held) ∧ (true) = ((levelP hc hf hs hd ⟨cp, cdir, cdo, crl, ch⟩ ⟨s0, s1, s2⟩).2.op) ∧ (false) = ((levelP hc hf hs hd ⟨cp, cdir, cdo, crl, ch⟩ ⟨s0, s1, s2⟩).2.cl) ∧ ((0 : Int)) = ((levelP hc hf hs hd ⟨cp, cdir, cdo, crl, ch⟩ ⟨s0, s1, s2⟩).2.fl) ∧ (r14) = ((levelP hc hf hs hd ⟨cp, cdir, cdo, crl, ch⟩ ⟨s0, s1, s2⟩).2.lan) ∧ ((0 : Int)) = ((levelP hc hf hs hd ⟨cp, cdir, cdo, crl, ch⟩ ⟨s0, s1, s2⟩).2.mv) ∧ (r20) = ((levelP hc hf hs hd ⟨cp, cdir, cdo, crl, ch⟩ ⟨s0, s1, s2⟩).2.sc) ∧ (r21) = ((levelP hc hf hs hd ⟨cp, cdir, cdo, crl, ch⟩ ⟨s0, s1, s2⟩).2.su) ∧ (r22) = ((levelP hc hf hs hd ⟨cp, cdir, cdo, crl, ch⟩ ⟨s0, s1, s2⟩).2.sd) from (c_i hfin.1 (c_i hfin.2.1 (c_i hfin.2.2.1 (c_b hfin.2.2.2.1 (c_i hfin.2.2.2.2.1 (c_b hfin.2.2.2.2.2.1 (c_b hfin.2.2.2.2.2.2.1 (c_i hfin.2.2.2.2.2.2.2.1 (c_i hfin.2.2.2.2.2.2.2.2.1 (c_i hfin.2.2.2.2.2.2.2.2.2.1 (c_i hfin.2.2.2.2.2.2.2.2.2.2.1 (c_i hfin.2.2.2.2.2.2.2.2.2.2.2.1 (c_i hfin.2.2.2.2.2.2.2.2.2.2.2.2 rfl)))))))))))))
        -- leaf 4 (ret)
        subst hr12
        have hst : stopP s0 s1 s2 (floor hc hf hs hd cp) cdir = true := hr13.symm.trans c1
        rw [levelP_stop (c := ⟨cp, cdir, cdo, crl, ch⟩) (s := ⟨s0, s1, s2⟩) hst]
        have h18 := hr18.symm.trans c5
        have h19 := hr19.symm.trans c6
        refine ⟨rfl, hr14, hr16, rfl, hr17, rfl, rfl, rfl, hr14, rfl, ?_, ?_, ?_⟩
        · show _ = if isb s0 (floor hc hf hs hd cp) = true then N (1#64 <<< (floor hc hf hs hd cp).toNat) else 0
          rw [hr20, if_neg (by rw [h18]; decide)]
        · show _ = put1 0 (floor hc hf hs hd cp) (hallb s1 s2 (floor hc hf hs hd cp) (dirP s0 s1 s2 (floor hc hf hs hd cp) cdir) && (okf (floor hc hf hs hd cp) && dirP s0 s1 s2 (floor hc hf hs hd cp) cdir == 1))
          rw [← hr14, h19]
          rw [hr21, Bool.true_and]
        · show _ = put1 0 (floor hc hf hs hd cp) (hallb s1 s2 (floor hc hf hs hd cp) (dirP s0 s1 s2 (floor hc hf hs hd cp) cdir) && (okf (floor hc hf hs hd cp) && dirP s0 s1 s2 (floor hc hf hs hd cp) cdir == -1))
          rw [← hr14, h19]
          rw [hr22, Bool.true_and]
      ·
        have c7 : r19 = false := hcond
        clear hcond
        suffices hfin : (cp) = ((levelP hc hf hs hd ⟨cp, cdir, cdo, crl, ch⟩ ⟨s0, s1, s2⟩).1.pos) ∧ (r14) = ((levelP hc hf hs hd ⟨cp, cdir, cdo, crl, ch⟩ ⟨s0, s1, s2⟩).1.dir) ∧ (r16) = ((levelP hc hf hs hd ⟨cp, cdir, cdo, crl, ch⟩ ⟨s0, s1, s2⟩).1.door) ∧ (false) = ((levelP hc hf hs hd ⟨cp, cdir, cdo, crl, ch⟩ ⟨s0, s1, s2⟩).1.rl) ∧ (r17) = ((levelP hc hf hs hd ⟨cp, cdir, cdo, crl, ch⟩ ⟨s0, s1, s2⟩).1.held) ∧ (true) = ((levelP hc hf hs hd ⟨cp, cdir, cdo, crl, ch⟩ ⟨s0, s1, s2⟩).2.op) ∧ (false) = ((levelP hc hf hs hd ⟨cp, cdir, cdo, crl, ch⟩ ⟨s0, s1, s2⟩).2.cl) ∧ ((0 : Int)) = ((levelP hc hf hs hd ⟨cp, cdir, cdo, crl, ch⟩ ⟨s0, s1, s2⟩).2.fl) ∧ (r14) = ((levelP hc hf hs hd ⟨cp, cdir, cdo, crl, ch⟩ ⟨s0, s1, s2⟩).2.lan) ∧ ((0 : Int)) = ((levelP hc hf hs hd ⟨cp, cdir, cdo, crl, ch⟩ ⟨s0, s1, s2⟩).2.mv) ∧ ((0 : Int)) = ((levelP hc hf hs hd ⟨cp, cdir, cdo, crl, ch⟩ ⟨s0, s1, s2⟩).2.sc) ∧ ((0 : Int)) = ((levelP hc hf hs hd ⟨cp, cdir, cdo, crl, ch⟩ ⟨s0, s1, s2⟩).2.su) ∧ ((0 : Int)) = ((levelP hc hf hs hd ⟨cp, cdir, cdo, crl, ch⟩ ⟨s0, s1, s2⟩).2.sd) from (c_i hfin.1 (c_i hfin.2.1 (c_i hfin.2.2.1 (c_b hfin.2.2.2.1 (c_i hfin.2.2.2.2.1 (c_b hfin.2.2.2.2.2.1 (c_b hfin.2.2.2.2.2.2.1 (c_i hfin.2.2.2.2.2.2.2.1 (c_i hfin.2.2.2.2.2.2.2.2.1 (c_i hfin.2.2.2.2.2.2.2.2.2.1 (c_i hfin.2.2.2.2.2.2.2.2.2.2.1 (c_i hfin.2.2.2.2.2.2.2.2.2.2.2.1 (c_i hfin.2.2.2.2.2.2.2.2.2.2.2.2 rfl)))))))))))))
        -- leaf 5 (ret)
        subst hr12
        have hst : stopP s0 s1 s2 (floor hc hf hs hd cp) cdir = true := hr13.symm.trans c1
        rw [levelP_stop (c := ⟨cp, cdir, cdo, crl, ch⟩) (s := ⟨s0, s1, s2⟩) hst]
        have h18 := hr18.symm.trans c5
        have h19 := hr19.symm.trans c7
        refine ⟨rfl, hr14, hr16, rfl, hr17, rfl, rfl, rfl, hr14, rfl, ?_, ?_, ?_⟩
        · show _ = if isb s0 (floor hc hf hs hd cp) = true then N (1#64 <<< (floor hc hf hs hd cp).toNat) else 0
          rw [if_neg (by rw [h18]; decide)]
        · show _ = put1 0 (floor hc hf hs hd cp) (hallb s1 s2 (floor hc hf hs hd cp) (dirP s0 s1 s2 (floor hc hf hs hd cp) cdir) && (okf (floor hc hf hs hd cp) && dirP s0 s1 s2 (floor hc hf hs hd cp) cdir == 1))
          rw [← hr14, h19]
          rw [Bool.false_and]; rfl
        · show _ = put1 0 (floor hc hf hs hd cp) (hallb s1 s2 (floor hc hf hs hd cp) (dirP s0 s1 s2 (floor hc hf hs hd cp) cdir) && (okf (floor hc hf hs hd cp) && dirP s0 s1 s2 (floor hc hf hs hd cp) cdir == -1))
          rw [← hr14, h19]
          rw [Bool.false_and]; rfl
  ·
    have c8 : r13 = false := hcond
    clear hcond
    refine vg_call (C := C_go) rfl rfl (xs := [.i hc, .i hf, .i hs, .i hd, .i cp, .i r15]) rfl (fun hg => ?_) (fun rs hrs => ?_)
    ·
      exact trivial
    obtain ⟨r16, r17, hr16, hr17, rfl⟩ := go_res hrs
    clear hrs
    change Fm.holds _ _ (lk [.i hc, .i hf, .i hs, .i hd, .i cp, .i cdir, .i cdo, .b crl, .i ch, .i s0, .i s1, .i s2, .i r12, .b r13, .i r14, .i r15, .i r16, .b r17])
    refine ⟨fun hcond => ?_, fun hcond => ?_⟩
    ·
      have c9 : (if (!r17) = true then true else (r15 == (0 : Int))) = true := hcond
      clear hcond
      suffices hfin : (cp) = ((levelP hc hf hs hd ⟨cp, cdir, cdo, crl, ch⟩ ⟨s0, s1, s2⟩).1.pos) ∧ (r14) = ((levelP hc hf hs hd ⟨cp, cdir, cdo, crl, ch⟩ ⟨s0, s1, s2⟩).1.dir) ∧ (cdo) = ((levelP hc hf hs hd ⟨cp, cdir, cdo, crl, ch⟩ ⟨s0, s1, s2⟩).1.door) ∧ (false) = ((levelP hc hf hs hd ⟨cp, cdir, cdo, crl, ch⟩ ⟨s0, s1, s2⟩).1.rl) ∧ (ch) = ((levelP hc hf hs hd ⟨cp, cdir, cdo, crl, ch⟩ ⟨s0, s1, s2⟩).1.held) ∧ (false) = ((levelP hc hf hs hd ⟨cp, cdir, cdo, crl, ch⟩ ⟨s0, s1, s2⟩).2.op) ∧ (false) = ((levelP hc hf hs hd ⟨cp, cdir, cdo, crl, ch⟩ ⟨s0, s1, s2⟩).2.cl) ∧ ((0 : Int)) = ((levelP hc hf hs hd ⟨cp, cdir, cdo, crl, ch⟩ ⟨s0, s1, s2⟩).2.fl) ∧ ((0 : Int)) = ((levelP hc hf hs hd ⟨cp, cdir, cdo, crl, ch⟩ ⟨s0, s1, s2⟩).2.lan) ∧ ((0 : Int)) = ((levelP hc hf hs hd ⟨cp, cdir, cdo, crl, ch⟩ ⟨s0, s1, s2⟩).2.mv) ∧ ((0 : Int)) = ((levelP hc hf hs hd ⟨cp, cdir, cdo, crl, ch⟩ ⟨s0, s1, s2⟩).2.sc) ∧ ((0 : Int)) = ((levelP hc hf hs hd ⟨cp, cdir, cdo, crl, ch⟩ ⟨s0, s1, s2⟩).2.su) ∧ ((0 : Int)) = ((levelP hc hf hs hd ⟨cp, cdir, cdo, crl, ch⟩ ⟨s0, s1, s2⟩).2.sd) from (c_i hfin.1 (c_i hfin.2.1 (c_i hfin.2.2.1 (c_b hfin.2.2.2.1 (c_i hfin.2.2.2.2.1 (c_b hfin.2.2.2.2.2.1 (c_b hfin.2.2.2.2.2.2.1 (c_i hfin.2.2.2.2.2.2.2.1 (c_i hfin.2.2.2.2.2.2.2.2.1 (c_i hfin.2.2.2.2.2.2.2.2.2.1 (c_i hfin.2.2.2.2.2.2.2.2.2.2.1 (c_i hfin.2.2.2.2.2.2.2.2.2.2.2.1 (c_i hfin.2.2.2.2.2.2.2.2.2.2.2.2 rfl)))))))))))))
      -- leaf 6 (ret)
      subst hr12
      have hst : stopP s0 s1 s2 (floor hc hf hs hd cp) cdir = false := hr13.symm.trans c8
      have e : (goIs hc hf hs hd cp r15 && !(r15 == 0)) = false := by
        rw [← hr17]
        revert c9
        cases r17 <;> cases (r15 == 0) <;> simp
      
      rw [hr15] at e
      rw [levelP_stay (c := ⟨cp, cdir, cdo, crl, ch⟩) (s := ⟨s0, s1, s2⟩) hst e]
      exact ⟨rfl, hr14, rfl, rfl, rfl, rfl, rfl, rfl, rfl, rfl, rfl, rfl, rfl⟩
    ·
      have c10 : (if (!r17) = true then true else (r15 == (0 : Int))) = false := hcond
      clear hcond
      suffices hfin : (r16) = ((levelP hc hf hs hd ⟨cp, cdir, cdo, crl, ch⟩ ⟨s0, s1, s2⟩).1.pos) ∧ (r14) = ((levelP hc hf hs hd ⟨cp, cdir, cdo, crl, ch⟩ ⟨s0, s1, s2⟩).1.dir) ∧ (cdo) = ((levelP hc hf hs hd ⟨cp, cdir, cdo, crl, ch⟩ ⟨s0, s1, s2⟩).1.door) ∧ (false) = ((levelP hc hf hs hd ⟨cp, cdir, cdo, crl, ch⟩ ⟨s0, s1, s2⟩).1.rl) ∧ (ch) = ((levelP hc hf hs hd ⟨cp, cdir, cdo, crl, ch⟩ ⟨s0, s1, s2⟩).1.held) ∧ (false) = ((levelP hc hf hs hd ⟨cp, cdir, cdo, crl, ch⟩ ⟨s0, s1, s2⟩).2.op) ∧ (false) = ((levelP hc hf hs hd ⟨cp, cdir, cdo, crl, ch⟩ ⟨s0, s1, s2⟩).2.cl) ∧ ((0 : Int)) = ((levelP hc hf hs hd ⟨cp, cdir, cdo, crl, ch⟩ ⟨s0, s1, s2⟩).2.fl) ∧ ((0 : Int)) = ((levelP hc hf hs hd ⟨cp, cdir, cdo, crl, ch⟩ ⟨s0, s1, s2⟩).2.lan) ∧ (r15) = ((levelP hc hf hs hd ⟨cp, cdir, cdo, crl, ch⟩ ⟨s0, s1, s2⟩).2.mv) ∧ ((0 : Int)) = ((levelP hc hf hs hd ⟨cp, cdir, cdo, crl, ch⟩ ⟨s0, s1, s2⟩).2.sc) ∧ ((0 : Int)) = ((levelP hc hf hs hd ⟨cp, cdir, cdo, crl, ch⟩ ⟨s0, s1, s2⟩).2.su) ∧ ((0 : Int)) = ((levelP hc hf hs hd ⟨cp, cdir, cdo, crl, ch⟩ ⟨s0, s1, s2⟩).2.sd) from (c_i hfin.1 (c_i hfin.2.1 (c_i hfin.2.2.1 (c_b hfin.2.2.2.1 (c_i hfin.2.2.2.2.1 (c_b hfin.2.2.2.2.2.1 (c_b hfin.2.2.2.2.2.2.1 (c_i hfin.2.2.2.2.2.2.2.1 (c_i hfin.2.2.2.2.2.2.2.2.1 (c_i hfin.2.2.2.2.2.2.2.2.2.1 (c_i hfin.2.2.2.2.2.2.2.2.2.2.1 (c_i hfin.2.2.2.2.2.2.2.2.2.2.2.1 (c_i hfin.2.2.2.2.2.2.2.2.2.2.2.2 rfl)))))))))))))
      -- leaf 7 (ret)
      subst hr12
      have hst : stopP s0 s1 s2 (floor hc hf hs hd cp) cdir = false := hr13.symm.trans c8
      have e : (goIs hc hf hs hd cp r15 && !(r15 == 0)) = true := by
        rw [← hr17]
        revert c10
        cases r17 <;> cases (r15 == 0) <;> simp
      
      have hg : goIs hc hf hs hd cp r15 = true := by
        revert e
        cases goIs hc hf hs hd cp r15 <;> simp
      have hm := moveP_range s0 s1 s2 (floor hc hf hs hd cp) cdir
      rw [← hr15] at hm
      have e2 : r16 = cp + r15 := by
        rw [hr16, goPos_eq hg]
        unfold clampM
        omega
      rw [hr15] at e
      rw [levelP_go (c := ⟨cp, cdir, cdo, crl, ch⟩) (s := ⟨s0, s1, s2⟩) hst e]
      exact ⟨by rw [e2, hr15], hr14, rfl, rfl, rfl, rfl, rfl, rfl, rfl, hr15, rfl, rfl, rfl⟩
def C_ctick : Ctr := ⟨[.agg [.int .i64, .int .i64, .int .i64, .int .i64], .agg [.int .i64, .int .i64, .int .i64, .bool, .int .i64], .agg [.int .u64, .int .u64, .int .u64], .one (.bool)], [.agg [.int .i64, .int .i64, .int .i64, .bool, .int .i64], .agg [.bool, .bool, .int .i64, .int .i64, .int .i64, .int .u64, .int .u64, .int .u64]],
  fun | [.i hc, .i hf, .i hs, .i hd, .i cp, .i cdir, .i cdo, .b crl, .i ch, .i s0, .i s1, .i s2, .b ob] => -9223372036854775808 ≤ cdo ∧ cdo < 9223372036854775808 | _ => False,
  fun | [.i hc, .i hf, .i hs, .i hd, .i cp, .i cdir, .i cdo, .b crl, .i ch, .i s0, .i s1, .i s2, .b ob] => [.i ((tickP hc hf hs hd ⟨cp, cdir, cdo, crl, ch⟩ ⟨s0, s1, s2⟩ ob).1.pos), .i ((tickP hc hf hs hd ⟨cp, cdir, cdo, crl, ch⟩ ⟨s0, s1, s2⟩ ob).1.dir), .i ((tickP hc hf hs hd ⟨cp, cdir, cdo, crl, ch⟩ ⟨s0, s1, s2⟩ ob).1.door), .b ((tickP hc hf hs hd ⟨cp, cdir, cdo, crl, ch⟩ ⟨s0, s1, s2⟩ ob).1.rl), .i ((tickP hc hf hs hd ⟨cp, cdir, cdo, crl, ch⟩ ⟨s0, s1, s2⟩ ob).1.held), .b ((tickP hc hf hs hd ⟨cp, cdir, cdo, crl, ch⟩ ⟨s0, s1, s2⟩ ob).2.op), .b ((tickP hc hf hs hd ⟨cp, cdir, cdo, crl, ch⟩ ⟨s0, s1, s2⟩ ob).2.cl), .i ((tickP hc hf hs hd ⟨cp, cdir, cdo, crl, ch⟩ ⟨s0, s1, s2⟩ ob).2.fl), .i ((tickP hc hf hs hd ⟨cp, cdir, cdo, crl, ch⟩ ⟨s0, s1, s2⟩ ob).2.lan), .i ((tickP hc hf hs hd ⟨cp, cdir, cdo, crl, ch⟩ ⟨s0, s1, s2⟩ ob).2.mv), .i ((tickP hc hf hs hd ⟨cp, cdir, cdo, crl, ch⟩ ⟨s0, s1, s2⟩ ob).2.sc), .i ((tickP hc hf hs hd ⟨cp, cdir, cdo, crl, ch⟩ ⟨s0, s1, s2⟩ ob).2.su), .i ((tickP hc hf hs hd ⟨cp, cdir, cdo, crl, ch⟩ ⟨s0, s1, s2⟩ ob).2.sd)] | _ => []⟩
theorem ctick_pre {ls : List Leaf} (h_ : C_ctick.pre ls) : ∃ (hc : Int) (hf : Int) (hs : Int) (hd : Int) (cp : Int) (cdir : Int) (cdo : Int) (crl : Bool) (ch : Int) (s0 : Int) (s1 : Int) (s2 : Int) (ob : Bool), ls = [.i hc, .i hf, .i hs, .i hd, .i cp, .i cdir, .i cdo, .b crl, .i ch, .i s0, .i s1, .i s2, .b ob] ∧ (-9223372036854775808 ≤ cdo ∧ cdo < 9223372036854775808) := by
  unfold C_ctick at h_; dsimp only at h_; split at h_
  · exact ⟨_, _, _, _, _, _, _, _, _, _, _, _, _, rfl, h_⟩
  · exact h_.elim
theorem ctick_mk {hc : Int} {hf : Int} {hs : Int} {hd : Int} {cp : Int} {cdir : Int} {cdo : Int} {crl : Bool} {ch : Int} {s0 : Int} {s1 : Int} {s2 : Int} {ob : Bool} (h_ : -9223372036854775808 ≤ cdo ∧ cdo < 9223372036854775808) : C_ctick.pre [.i hc, .i hf, .i hs, .i hd, .i cp, .i cdir, .i cdo, .b crl, .i ch, .i s0, .i s1, .i s2, .b ob] := h_
theorem ctick_res {hc : Int} {hf : Int} {hs : Int} {hd : Int} {cp : Int} {cdir : Int} {cdo : Int} {crl : Bool} {ch : Int} {s0 : Int} {s1 : Int} {s2 : Int} {ob : Bool} {rs_ : List Leaf} (h_ : rs_ = C_ctick.fn [.i hc, .i hf, .i hs, .i hd, .i cp, .i cdir, .i cdo, .b crl, .i ch, .i s0, .i s1, .i s2, .b ob]) : ∃ (q0 : Int) (q1 : Int) (q2 : Int) (q3 : Bool) (q4 : Int) (q5 : Bool) (q6 : Bool) (q7 : Int) (q8 : Int) (q9 : Int) (q10 : Int) (q11 : Int) (q12 : Int), q0 = ((tickP hc hf hs hd ⟨cp, cdir, cdo, crl, ch⟩ ⟨s0, s1, s2⟩ ob).1.pos) ∧ q1 = ((tickP hc hf hs hd ⟨cp, cdir, cdo, crl, ch⟩ ⟨s0, s1, s2⟩ ob).1.dir) ∧ q2 = ((tickP hc hf hs hd ⟨cp, cdir, cdo, crl, ch⟩ ⟨s0, s1, s2⟩ ob).1.door) ∧ q3 = ((tickP hc hf hs hd ⟨cp, cdir, cdo, crl, ch⟩ ⟨s0, s1, s2⟩ ob).1.rl) ∧ q4 = ((tickP hc hf hs hd ⟨cp, cdir, cdo, crl, ch⟩ ⟨s0, s1, s2⟩ ob).1.held) ∧ q5 = ((tickP hc hf hs hd ⟨cp, cdir, cdo, crl, ch⟩ ⟨s0, s1, s2⟩ ob).2.op) ∧ q6 = ((tickP hc hf hs hd ⟨cp, cdir, cdo, crl, ch⟩ ⟨s0, s1, s2⟩ ob).2.cl) ∧ q7 = ((tickP hc hf hs hd ⟨cp, cdir, cdo, crl, ch⟩ ⟨s0, s1, s2⟩ ob).2.fl) ∧ q8 = ((tickP hc hf hs hd ⟨cp, cdir, cdo, crl, ch⟩ ⟨s0, s1, s2⟩ ob).2.lan) ∧ q9 = ((tickP hc hf hs hd ⟨cp, cdir, cdo, crl, ch⟩ ⟨s0, s1, s2⟩ ob).2.mv) ∧ q10 = ((tickP hc hf hs hd ⟨cp, cdir, cdo, crl, ch⟩ ⟨s0, s1, s2⟩ ob).2.sc) ∧ q11 = ((tickP hc hf hs hd ⟨cp, cdir, cdo, crl, ch⟩ ⟨s0, s1, s2⟩ ob).2.su) ∧ q12 = ((tickP hc hf hs hd ⟨cp, cdir, cdo, crl, ch⟩ ⟨s0, s1, s2⟩ ob).2.sd) ∧ rs_ = [.i q0, .i q1, .i q2, .b q3, .i q4, .b q5, .b q6, .i q7, .i q8, .i q9, .i q10, .i q11, .i q12] := ⟨_, _, _, _, _, _, _, _, _, _, _, _, _, rfl, rfl, rfl, rfl, rfl, rfl, rfl, rfl, rfl, rfl, rfl, rfl, rfl, h_⟩
def phi_ctick : Fm := (.call 24 [] [(.i (.v 0)), (.i (.v 1)), (.i (.v 2)), (.i (.v 3)), (.i (.v 4)), (.i (.v 5)), (.i (.v 6)), (.b (.v 7)), (.i (.v 8))] 13 (.and (.imp (.v 13) .false (.ret [(.i (.v 4)), (.i (.v 5)), (.i (.v 6)), (.b (.v 7)), (.i (.v 8)), (.b (.t .false)), (.b (.t .false)), (.i (.i 0)), (.i (.i 0)), (.i (.i 0)), (.i (.i 0)), (.i (.i 0)), (.i (.i 0))])) (.imp (.v 13) .true (.call 41 [] [(.i (.v 0)), (.i (.v 1)), (.i (.v 2)), (.i (.v 3)), (.i (.v 9)), (.i (.v 10)), (.i (.v 11))] 14 (.and (.imp (.lt (.i 0) (.v 6)) .true (.call 42 [] [(.i (.v 6)), (.i (.v 8)), (.b (.v 12))] 17 (.call 26 [] [(.i (.v 0)), (.i (.v 1)), (.i (.v 2)), (.i (.v 3)), (.i (.v 4))] 20 (.ret [(.i (.v 4)), (.i (.v 5)), (.i (.v 17)), (.b (.v 7)), (.i (.v 18)), (.b (.t .false)), (.b (.v 19)), (.i (.v 20)), (.i (.i 0)), (.i (.i 0)), (.i (.i 0)), (.i (.i 0)), (.i (.i 0))])))) (.imp (.lt (.i 0) (.v 6)) .false (.call 25 [] [(.i (.v 0)), (.i (.v 1)), (.i (.v 2)), (.i (.v 3)), (.i (.v 4))] 17 (.and (.imp (.v 17) .false (.call 43 [] [(.i (.v 0)), (.i (.v 1)), (.i (.v 2)), (.i (.v 3)), (.i (.v 4)), (.i (.v 5)), (.i (.v 6)), (.b (.v 7)), (.i (.v 8))] 18 (.call 26 [] [(.i (.v 0)), (.i (.v 1)), (.i (.v 2)), (.i (.v 3)), (.i (.v 18))] 31 (.ret [(.i (.v 18)), (.i (.v 19)), (.i (.v 20)), (.b (.v 21)), (.i (.v 22)), (.b (.v 23)), (.b (.v 24)), (.i (.v 31)), (.i (.v 26)), (.i (.v 27)), (.i (.v 28)), (.i (.v 29)), (.i (.v 30))])))) (.imp (.v 17) .true (.call 44 [] [(.i (.v 0)), (.i (.v 1)), (.i (.v 2)), (.i (.v 3)), (.i (.v 4)), (.i (.v 5)), (.i (.v 6)), (.b (.v 7)), (.i (.v 8)), (.i (.v 14)), (.i (.v 15)), (.i (.v 16))] 18 (.call 26 [] [(.i (.v 0)), (.i (.v 1)), (.i (.v 2)), (.i (.v 3)), (.i (.v 18))] 31 (.ret [(.i (.v 18)), (.i (.v 19)), (.i (.v 20)), (.b (.v 21)), (.i (.v 22)), (.b (.v 23)), (.b (.v 24)), (.i (.v 31)), (.i (.v 26)), (.i (.v 27)), (.i (.v 28)), (.i (.v 29)), (.i (.v 30))]))))))))))))
def tbl_ctick : List (Nat × Ctr) := [(24, C_cright), (25, C_level), (26, C_floor), (41, C_chouse), (42, C_dtick), (43, C_cbetween), (44, C_clevel)]
theorem vc_ctick : vcg Tryd.prog (sigT tbl_ctick) [] Tryd.f20 C_ctick.params C_ctick.res = some phi_ctick := by kernel_rfl
--SPLIT
theorem ctick_sound : C_ctick.Sound Tryd.prog G 20 := by
  refine fn_ok mixed stable tbl_ctick [] Tryd.func20 (by kernel_rfl) phi_ctick vc_ctick ⟨cright_sound, level_sound, floor_sound, chouse_sound, dtick_sound, cbetween_sound, clevel_sound, trivial⟩ (fun _ _ _ => False) (fun _ _ _ => 0) ?_
  intro ls hp
  obtain ⟨hc, hf, hs, hd, cp, cdir, cdo, crl, ch, s0, s1, s2, ob, rfl, hpre⟩ := ctick_pre hp
  clear hp
  rw [envOf_lk]
  unfold phi_ctick
  refine vg_call (C := C_cright) rfl rfl (xs := [.i hc, .i hf, .i hs, .i hd, .i cp, .i cdir, .i cdo, .b crl, .i ch]) rfl (fun hg => ?_) (fun rs hrs => ?_)
  ·
    exact trivial
  obtain ⟨r13, hr13, rfl⟩ := cright_res hrs
  clear hrs
  change Fm.holds _ _ (lk [.i hc, .i hf, .i hs, .i hd, .i cp, .i cdir, .i cdo, .b crl, .i ch, .i s0, .i s1, .i s2, .b ob, .b r13])
  refine ⟨fun hcond => ?_, fun hcond => ?_⟩
  ·
    have c1 : r13 = false := hcond
    clear hcond
    suffices hfin : (cp) = ((tickP hc hf hs hd ⟨cp, cdir, cdo, crl, ch⟩ ⟨s0, s1, s2⟩ ob).1.pos) ∧ (cdir) = ((tickP hc hf hs hd ⟨cp, cdir, cdo, crl, ch⟩ ⟨s0, s1, s2⟩ ob).1.dir) ∧ (cdo) = ((tickP hc hf hs hd ⟨cp, cdir, cdo, crl, ch⟩ ⟨s0, s1, s2⟩ ob).1.door) ∧ (crl) = ((tickP hc hf hs hd ⟨cp, cdir, cdo, crl, ch⟩ ⟨s0, s1, s2⟩ ob).1.rl) ∧ (ch) = ((tickP hc hf hs hd ⟨cp, cdir, cdo, crl, ch⟩ ⟨s0, s1, s2⟩ ob).1.held) ∧ (false) = ((tickP hc hf hs hd ⟨cp, cdir, cdo, crl, ch⟩ ⟨s0, s1, s2⟩ ob).2.op) ∧ (false) = ((tickP hc hf hs hd ⟨cp, cdir, cdo, crl, ch⟩ ⟨s0, s1, s2⟩ ob).2.cl) ∧ ((0 : Int)) = ((tickP hc hf hs hd ⟨cp, cdir, cdo, crl, ch⟩ ⟨s0, s1, s2⟩ ob).2.fl) ∧ ((0 : Int)) = ((tickP hc hf hs hd ⟨cp, cdir, cdo, crl, ch⟩ ⟨s0, s1, s2⟩ ob).2.lan) ∧ ((0 : Int)) = ((tickP hc hf hs hd ⟨cp, cdir, cdo, crl, ch⟩ ⟨s0, s1, s2⟩ ob).2.mv) ∧ ((0 : Int)) = ((tickP hc hf hs hd ⟨cp, cdir, cdo, crl, ch⟩ ⟨s0, s1, s2⟩ ob).2.sc) ∧ ((0 : Int)) = ((tickP hc hf hs hd ⟨cp, cdir, cdo, crl, ch⟩ ⟨s0, s1, s2⟩ ob).2.su) ∧ ((0 : Int)) = ((tickP hc hf hs hd ⟨cp, cdir, cdo, crl, ch⟩ ⟨s0, s1, s2⟩ ob).2.sd) from (c_i hfin.1 (c_i hfin.2.1 (c_i hfin.2.2.1 (c_b hfin.2.2.2.1 (c_i hfin.2.2.2.2.1 (c_b hfin.2.2.2.2.2.1 (c_b hfin.2.2.2.2.2.2.1 (c_i hfin.2.2.2.2.2.2.2.1 (c_i hfin.2.2.2.2.2.2.2.2.1 (c_i hfin.2.2.2.2.2.2.2.2.2.1 (c_i hfin.2.2.2.2.2.2.2.2.2.2.1 (c_i hfin.2.2.2.2.2.2.2.2.2.2.2.1 (c_i hfin.2.2.2.2.2.2.2.2.2.2.2.2 rfl)))))))))))))
    -- leaf 1 (ret)
    rw [tickP_no (hr13.symm.trans c1)]
    exact ⟨rfl, rfl, rfl, rfl, rfl, rfl, rfl, rfl, rfl, rfl, rfl, rfl, rfl⟩
  ·
    have c2 : r13 = true := hcond
    clear hcond
    refine vg_call (C := C_chouse) rfl rfl (xs := [.i hc, .i hf, .i hs, .i hd, .i s0, .i s1, .i s2]) rfl (fun hg => ?_) (fun rs hrs => ?_)
    ·
      refine chouse_mk ?_
      -- leaf 2 (pre)
      have hv := carRight_valid (hr13.symm.trans c2)
      have hv2 := valid_iff.1 hv.1
      omega
    obtain ⟨r14, r15, r16, hr14, hr15, hr16, rfl⟩ := chouse_res hrs
    clear hrs
    change Fm.holds _ _ (lk [.i hc, .i hf, .i hs, .i hd, .i cp, .i cdir, .i cdo, .b crl, .i ch, .i s0, .i s1, .i s2, .b ob, .b r13, .i r14, .i r15, .i r16])
    refine ⟨fun hcond => ?_, fun hcond => ?_⟩
    ·
      have c3 : (decide ((0 : Int) < cdo)) = true := hcond
      clear hcond
      refine vg_call (C := C_dtick) rfl rfl (xs := [.i cdo, .i ch, .b ob]) rfl (fun hg => ?_) (fun rs hrs => ?_)
      ·
        refine dtick_mk ?_
        -- leaf 3 (pre)
        exact hpre
      obtain ⟨r17, r18, r19, hr17, hr18, hr19, rfl⟩ := dtick_res hrs
      clear hrs
      change Fm.holds _ _ (lk [.i hc, .i hf, .i hs, .i hd, .i cp, .i cdir, .i cdo, .b crl, .i ch, .i s0, .i s1, .i s2, .b ob, .b r13, .i r14, .i r15, .i r16, .i r17, .i r18, .b r19])
      refine vg_call (C := C_floor) rfl rfl (xs := [.i hc, .i hf, .i hs, .i hd, .i cp]) rfl (fun hg => ?_) (fun rs hrs => ?_)
      ·
        exact trivial
      obtain ⟨r20, hr20, rfl⟩ := floor_res hrs
      clear hrs
      change Fm.holds _ _ (lk [.i hc, .i hf, .i hs, .i hd, .i cp, .i cdir, .i cdo, .b crl, .i ch, .i s0, .i s1, .i s2, .b ob, .b r13, .i r14, .i r15, .i r16, .i r17, .i r18, .b r19, .i r20])
      suffices hfin : (cp) = ((tickP hc hf hs hd ⟨cp, cdir, cdo, crl, ch⟩ ⟨s0, s1, s2⟩ ob).1.pos) ∧ (cdir) = ((tickP hc hf hs hd ⟨cp, cdir, cdo, crl, ch⟩ ⟨s0, s1, s2⟩ ob).1.dir) ∧ (r17) = ((tickP hc hf hs hd ⟨cp, cdir, cdo, crl, ch⟩ ⟨s0, s1, s2⟩ ob).1.door) ∧ (crl) = ((tickP hc hf hs hd ⟨cp, cdir, cdo, crl, ch⟩ ⟨s0, s1, s2⟩ ob).1.rl) ∧ (r18) = ((tickP hc hf hs hd ⟨cp, cdir, cdo, crl, ch⟩ ⟨s0, s1, s2⟩ ob).1.held) ∧ (false) = ((tickP hc hf hs hd ⟨cp, cdir, cdo, crl, ch⟩ ⟨s0, s1, s2⟩ ob).2.op) ∧ (r19) = ((tickP hc hf hs hd ⟨cp, cdir, cdo, crl, ch⟩ ⟨s0, s1, s2⟩ ob).2.cl) ∧ (r20) = ((tickP hc hf hs hd ⟨cp, cdir, cdo, crl, ch⟩ ⟨s0, s1, s2⟩ ob).2.fl) ∧ ((0 : Int)) = ((tickP hc hf hs hd ⟨cp, cdir, cdo, crl, ch⟩ ⟨s0, s1, s2⟩ ob).2.lan) ∧ ((0 : Int)) = ((tickP hc hf hs hd ⟨cp, cdir, cdo, crl, ch⟩ ⟨s0, s1, s2⟩ ob).2.mv) ∧ ((0 : Int)) = ((tickP hc hf hs hd ⟨cp, cdir, cdo, crl, ch⟩ ⟨s0, s1, s2⟩ ob).2.sc) ∧ ((0 : Int)) = ((tickP hc hf hs hd ⟨cp, cdir, cdo, crl, ch⟩ ⟨s0, s1, s2⟩ ob).2.su) ∧ ((0 : Int)) = ((tickP hc hf hs hd ⟨cp, cdir, cdo, crl, ch⟩ ⟨s0, s1, s2⟩ ob).2.sd) from (c_i hfin.1 (c_i hfin.2.1 (c_i hfin.2.2.1 (c_b hfin.2.2.2.1 (c_i hfin.2.2.2.2.1 (c_b hfin.2.2.2.2.2.1 (c_b hfin.2.2.2.2.2.2.1 (c_i hfin.2.2.2.2.2.2.2.1 (c_i hfin.2.2.2.2.2.2.2.2.1 (c_i hfin.2.2.2.2.2.2.2.2.2.1 (c_i hfin.2.2.2.2.2.2.2.2.2.2.1 (c_i hfin.2.2.2.2.2.2.2.2.2.2.2.1 (c_i hfin.2.2.2.2.2.2.2.2.2.2.2.2 rfl)))))))))))))
      -- leaf 4 (ret)
      rw [tickP_yes (c := ⟨cp, cdir, cdo, crl, ch⟩) (hr13.symm.trans c2), stepP_door (of_decide_eq_true c3)]
      exact ⟨rfl, rfl, hr17, rfl, hr18, rfl, hr19, hr20, rfl, rfl, rfl, rfl, rfl⟩
    ·
      have c4 : (decide ((0 : Int) < cdo)) = false := hcond
      clear hcond
      refine vg_call (C := C_level) rfl rfl (xs := [.i hc, .i hf, .i hs, .i hd, .i cp]) rfl (fun hg => ?_) (fun rs hrs => ?_)
      ·
        exact trivial
      obtain ⟨r17, hr17, rfl⟩ := level_res hrs
      clear hrs
      change Fm.holds _ _ (lk [.i hc, .i hf, .i hs, .i hd, .i cp, .i cdir, .i cdo, .b crl, .i ch, .i s0, .i s1, .i s2, .b ob, .b r13, .i r14, .i r15, .i r16, .b r17])
      refine ⟨fun hcond => ?_, fun hcond => ?_⟩
      ·
        have c5 : r17 = false := hcond
        clear hcond
        refine vg_call (C := C_cbetween) rfl rfl (xs := [.i hc, .i hf, .i hs, .i hd, .i cp, .i cdir, .i cdo, .b crl, .i ch]) rfl (fun hg => ?_) (fun rs hrs => ?_)
        ·
          refine cbetween_mk ?_
          -- leaf 5 (pre)
          exact hr13.symm.trans c2
        obtain ⟨r18, r19, r20, r21, r22, r23, r24, r25, r26, r27, r28, r29, r30, hr18, hr19, hr20, hr21, hr22, hr23, hr24, hr25, hr26, hr27, hr28, hr29, hr30, rfl⟩ := cbetween_res hrs
        clear hrs
        change Fm.holds _ _ (lk [.i hc, .i hf, .i hs, .i hd, .i cp, .i cdir, .i cdo, .b crl, .i ch, .i s0, .i s1, .i s2, .b ob, .b r13, .i r14, .i r15, .i r16, .b r17, .i r18, .i r19, .i r20, .b r21, .i r22, .b r23, .b r24, .i r25, .i r26, .i r27, .i r28, .i r29, .i r30])
        refine vg_call (C := C_floor) rfl rfl (xs := [.i hc, .i hf, .i hs, .i hd, .i r18]) rfl (fun hg => ?_) (fun rs hrs => ?_)
        ·
          exact trivial
        obtain ⟨r31, hr31, rfl⟩ := floor_res hrs
        clear hrs
        change Fm.holds _ _ (lk [.i hc, .i hf, .i hs, .i hd, .i cp, .i cdir, .i cdo, .b crl, .i ch, .i s0, .i s1, .i s2, .b ob, .b r13, .i r14, .i r15, .i r16, .b r17, .i r18, .i r19, .i r20, .b r21, .i r22, .b r23, .b r24, .i r25, .i r26, .i r27, .i r28, .i r29, .i r30, .i r31])
        suffices hfin : (r18) = ((tickP hc hf hs hd ⟨cp, cdir, cdo, crl, ch⟩ ⟨s0, s1, s2⟩ ob).1.pos) ∧ (r19) = ((tickP hc hf hs hd ⟨cp, cdir, cdo, crl, ch⟩ ⟨s0, s1, s2⟩ ob).1.dir) ∧ (r20) = ((tickP hc hf hs hd ⟨cp, cdir, cdo, crl, ch⟩ ⟨s0, s1, s2⟩ ob).1.door) ∧ (r21) = ((tickP hc hf hs hd ⟨cp, cdir, cdo, crl, ch⟩ ⟨s0, s1, s2⟩ ob).1.rl) ∧ (r22) = ((tickP hc hf hs hd ⟨cp, cdir, cdo, crl, ch⟩ ⟨s0, s1, s2⟩ ob).1.held) ∧ (r23) = ((tickP hc hf hs hd ⟨cp, cdir, cdo, crl, ch⟩ ⟨s0, s1, s2⟩ ob).2.op) ∧ (r24) = ((tickP hc hf hs hd ⟨cp, cdir, cdo, crl, ch⟩ ⟨s0, s1, s2⟩ ob).2.cl) ∧ (r31) = ((tickP hc hf hs hd ⟨cp, cdir, cdo, crl, ch⟩ ⟨s0, s1, s2⟩ ob).2.fl) ∧ (r26) = ((tickP hc hf hs hd ⟨cp, cdir, cdo, crl, ch⟩ ⟨s0, s1, s2⟩ ob).2.lan) ∧ (r27) = ((tickP hc hf hs hd ⟨cp, cdir, cdo, crl, ch⟩ ⟨s0, s1, s2⟩ ob).2.mv) ∧ (r28) = ((tickP hc hf hs hd ⟨cp, cdir, cdo, crl, ch⟩ ⟨s0, s1, s2⟩ ob).2.sc) ∧ (r29) = ((tickP hc hf hs hd ⟨cp, cdir, cdo, crl, ch⟩ ⟨s0, s1, s2⟩ ob).2.su) ∧ (r30) = ((tickP hc hf hs hd ⟨cp, cdir, cdo, crl, ch⟩ ⟨s0, s1, s2⟩ ob).2.sd) from (c_i hfin.1 (c_i hfin.2.1 (c_i hfin.2.2.1 (c_b hfin.2.2.2.1 (c_i hfin.2.2.2.2.1 (c_b hfin.2.2.2.2.2.1 (c_b hfin.2.2.2.2.2.2.1 (c_i hfin.2.2.2.2.2.2.2.1 (c_i hfin.2.2.2.2.2.2.2.2.1 (c_i hfin.2.2.2.2.2.2.2.2.2.1 (c_i hfin.2.2.2.2.2.2.2.2.2.2.1 (c_i hfin.2.2.2.2.2.2.2.2.2.2.2.1 (c_i hfin.2.2.2.2.2.2.2.2.2.2.2.2 rfl)))))))))))))
        -- leaf 6 (ret)
        rw [tickP_yes (c := ⟨cp, cdir, cdo, crl, ch⟩) (hr13.symm.trans c2), stepP_btw (of_decide_eq_false c4) (hr17.symm.trans c5)]
        exact ⟨hr18, hr19, hr20, hr21, hr22, hr23, hr24, by rw [hr31, hr18], hr26, hr27, hr28, hr29, hr30⟩
      ·
        have c6 : r17 = true := hcond
        clear hcond
        refine vg_call (C := C_clevel) rfl rfl (xs := [.i hc, .i hf, .i hs, .i hd, .i cp, .i cdir, .i cdo, .b crl, .i ch, .i r14, .i r15, .i r16]) rfl (fun hg => ?_) (fun rs hrs => ?_)
        ·
          refine clevel_mk ?_
          -- leaf 7 (pre)
          exact hr13.symm.trans c2
        obtain ⟨r18, r19, r20, r21, r22, r23, r24, r25, r26, r27, r28, r29, r30, hr18, hr19, hr20, hr21, hr22, hr23, hr24, hr25, hr26, hr27, hr28, hr29, hr30, rfl⟩ := clevel_res hrs
        clear hrs
        change Fm.holds _ _ (lk [.i hc, .i hf, .i hs, .i hd, .i cp, .i cdir, .i cdo, .b crl, .i ch, .i s0, .i s1, .i s2, .b ob, .b r13, .i r14, .i r15, .i r16, .b r17, .i r18, .i r19, .i r20, .b r21, .i r22, .b r23, .b r24, .i r25, .i r26, .i r27, .i r28, .i r29, .i r30])
        refine vg_call (C := C_floor) rfl rfl (xs := [.i hc, .i hf, .i hs, .i hd, .i r18]) rfl (fun hg => ?_) (fun rs hrs => ?_)
        ·
          exact trivial
        obtain ⟨r31, hr31, rfl⟩ := floor_res hrs
        clear hrs
        change Fm.holds _ _ (lk [.i hc, .i hf, .i hs, .i hd, .i cp, .i cdir, .i cdo, .b crl, .i ch, .i s0, .i s1, .i s2, .b ob, .b r13, .i r14, .i r15, .i r16, .b r17, .i r18, .i r19, .i r20, .b r21, .i r22, .b r23, .b r24, .i r25, .i r26, .i r27, .i r28, .i r29, .i r30, .i r31])
        suffices hfin : (r18) = ((tickP hc hf hs hd ⟨cp, cdir, cdo, crl, ch⟩ ⟨s0, s1, s2⟩ ob).1.pos) ∧ (r19) = ((tickP hc hf hs hd ⟨cp, cdir, cdo, crl, ch⟩ ⟨s0, s1, s2⟩ ob).1.dir) ∧ (r20) = ((tickP hc hf hs hd ⟨cp, cdir, cdo, crl, ch⟩ ⟨s0, s1, s2⟩ ob).1.door) ∧ (r21) = ((tickP hc hf hs hd ⟨cp, cdir, cdo, crl, ch⟩ ⟨s0, s1, s2⟩ ob).1.rl) ∧ (r22) = ((tickP hc hf hs hd ⟨cp, cdir, cdo, crl, ch⟩ ⟨s0, s1, s2⟩ ob).1.held) ∧ (r23) = ((tickP hc hf hs hd ⟨cp, cdir, cdo, crl, ch⟩ ⟨s0, s1, s2⟩ ob).2.op) ∧ (r24) = ((tickP hc hf hs hd ⟨cp, cdir, cdo, crl, ch⟩ ⟨s0, s1, s2⟩ ob).2.cl) ∧ (r31) = ((tickP hc hf hs hd ⟨cp, cdir, cdo, crl, ch⟩ ⟨s0, s1, s2⟩ ob).2.fl) ∧ (r26) = ((tickP hc hf hs hd ⟨cp, cdir, cdo, crl, ch⟩ ⟨s0, s1, s2⟩ ob).2.lan) ∧ (r27) = ((tickP hc hf hs hd ⟨cp, cdir, cdo, crl, ch⟩ ⟨s0, s1, s2⟩ ob).2.mv) ∧ (r28) = ((tickP hc hf hs hd ⟨cp, cdir, cdo, crl, ch⟩ ⟨s0, s1, s2⟩ ob).2.sc) ∧ (r29) = ((tickP hc hf hs hd ⟨cp, cdir, cdo, crl, ch⟩ ⟨s0, s1, s2⟩ ob).2.su) ∧ (r30) = ((tickP hc hf hs hd ⟨cp, cdir, cdo, crl, ch⟩ ⟨s0, s1, s2⟩ ob).2.sd) from (c_i hfin.1 (c_i hfin.2.1 (c_i hfin.2.2.1 (c_b hfin.2.2.2.1 (c_i hfin.2.2.2.2.1 (c_b hfin.2.2.2.2.2.1 (c_b hfin.2.2.2.2.2.2.1 (c_i hfin.2.2.2.2.2.2.2.1 (c_i hfin.2.2.2.2.2.2.2.2.1 (c_i hfin.2.2.2.2.2.2.2.2.2.1 (c_i hfin.2.2.2.2.2.2.2.2.2.2.1 (c_i hfin.2.2.2.2.2.2.2.2.2.2.2.1 (c_i hfin.2.2.2.2.2.2.2.2.2.2.2.2 rfl)))))))))))))
        -- leaf 8 (ret)
        rw [tickP_yes (c := ⟨cp, cdir, cdo, crl, ch⟩) (hr13.symm.trans c2), stepP_lvl (of_decide_eq_false c4) (hr17.symm.trans c6)]
        subst hr14 hr15 hr16
        exact ⟨hr18, hr19, hr20, hr21, hr22, hr23, hr24, by rw [hr31, hr18], hr26, hr27, hr28, hr29, hr30⟩
def C_may : Ctr := ⟨[.one (.int .i64), .agg [.int .i64, .int .i64]], [.one (.bool)],
  fun | [.i fs, .i fl, .i dr] => -9223372036854775808 < fs ∧ fs < 9223372036854775808 | _ => False,
  fun | [.i fs, .i fl, .i dr] => [.b (mayP fs fl dr)] | _ => []⟩
theorem may_pre {ls : List Leaf} (h_ : C_may.pre ls) : ∃ (fs : Int) (fl : Int) (dr : Int), ls = [.i fs, .i fl, .i dr] ∧ (-9223372036854775808 < fs ∧ fs < 9223372036854775808) := by
  unfold C_may at h_; dsimp only at h_; split at h_
  · exact ⟨_, _, _, rfl, h_⟩
  · exact h_.elim
theorem may_mk {fs : Int} {fl : Int} {dr : Int} (h_ : -9223372036854775808 < fs ∧ fs < 9223372036854775808) : C_may.pre [.i fs, .i fl, .i dr] := h_
theorem may_res {fs : Int} {fl : Int} {dr : Int} {rs_ : List Leaf} (h_ : rs_ = C_may.fn [.i fs, .i fl, .i dr]) : ∃ (q0 : Bool), q0 = (mayP fs fl dr) ∧ rs_ = [.b q0] := ⟨_, rfl, h_⟩
def phi_may : Fm := (.and (.imp (.ite (.lt (.v 1) (.i 0)) (.t .true) (.le (.v 0) (.v 1))) .true (.ret [(.b (.t .false))])) (.imp (.ite (.lt (.v 1) (.i 0)) (.t .true) (.le (.v 0) (.v 1))) .false (.ret [(.b (.ite (.ite (.eq (.v 2) (.i 1)) (.lt (.v 1) (.wrap .i64 (.sub (.v 0) (.i 1)))) (.t .false)) (.t .true) (.ite (.eq (.v 2) (.i (Int.negSucc 0))) (.lt (.i 0) (.v 1)) (.t .false))))])))
def tbl_may : List (Nat × Ctr) := []
theorem vc_may : vcg Tryd.prog (sigT tbl_may) [] Tryd.f50 C_may.params C_may.res = some phi_may := by kernel_rfl
--SPLIT
theorem may_sound : C_may.Sound Tryd.prog G 50 := by
  refine fn_ok mixed stable tbl_may [] Tryd.func50 (by kernel_rfl) phi_may vc_may trivial (fun _ _ _ => False) (fun _ _ _ => 0) ?_
  intro ls hp
  obtain ⟨fs, fl, dr, rfl, hpre⟩ := may_pre hp
  clear hp
  rw [envOf_lk]
  unfold phi_may
  refine ⟨fun hcond => ?_, fun hcond => ?_⟩
  ·
    have c1 : (if (decide (fl < (0 : Int))) = true then true else (decide (fs ≤ fl))) = true := hcond
    clear hcond
    suffices hfin : (false) = (mayP fs fl dr) from (c_b hfin rfl)
    -- leaf 1 (ret)
    simp only [mayP]
    try simp (disch := omega) only [wrap_in] at *
    grind
  ·
    have c2 : (if (decide (fl < (0 : Int))) = true then true else (decide (fs ≤ fl))) = false := hcond
    clear hcond
    suffices hfin : ((if (if (dr == (1 : Int)) = true then (decide (fl < (IntKind.wrap .i64 (fs - (1 : Int))))) else false) = true then true else (if (dr == (-1)) = true then (decide ((0 : Int) < fl)) else false))) = (mayP fs fl dr) from (c_b hfin rfl)
    -- leaf 2 (ret)
    simp only [mayP]
    try simp (disch := omega) only [wrap_in] at *
    grind
def C_rmay : Ctr := ⟨[.one (.int .i64), .agg [.int .i64, .int .i64]], [.one (.bool)],
  fun | [.i fs, .i fl, .i dr] => -9223372036854775808 < fs ∧ fs < 9223372036854775808 | _ => False,
  fun | [.i fs, .i fl, .i dr] => [.b (mayP fs fl dr)] | _ => []⟩
theorem rmay_pre {ls : List Leaf} (h_ : C_rmay.pre ls) : ∃ (fs : Int) (fl : Int) (dr : Int), ls = [.i fs, .i fl, .i dr] ∧ (-9223372036854775808 < fs ∧ fs < 9223372036854775808) := by
  unfold C_rmay at h_; dsimp only at h_; split at h_
  · exact ⟨_, _, _, rfl, h_⟩
  · exact h_.elim
theorem rmay_mk {fs : Int} {fl : Int} {dr : Int} (h_ : -9223372036854775808 < fs ∧ fs < 9223372036854775808) : C_rmay.pre [.i fs, .i fl, .i dr] := h_
theorem rmay_res {fs : Int} {fl : Int} {dr : Int} {rs_ : List Leaf} (h_ : rs_ = C_rmay.fn [.i fs, .i fl, .i dr]) : ∃ (q0 : Bool), q0 = (mayP fs fl dr) ∧ rs_ = [.b q0] := ⟨_, rfl, h_⟩
def phi_rmay : Fm := (.ret [(.b (.ite (.ite (.le (.i 0) (.v 1)) (.lt (.v 1) (.v 0)) (.t .false)) (.ite (.ite (.eq (.v 2) (.i 1)) (.lt (.v 1) (.wrap .i64 (.sub (.v 0) (.i 1)))) (.t .false)) (.t .true) (.ite (.eq (.v 2) (.i (Int.negSucc 0))) (.lt (.i 0) (.v 1)) (.t .false))) (.t .false)))])
def tbl_rmay : List (Nat × Ctr) := []
theorem vc_rmay : vcg Tryd.prog (sigT tbl_rmay) [] Tryd.f34 C_rmay.params C_rmay.res = some phi_rmay := by kernel_rfl
--SPLIT
theorem rmay_sound : C_rmay.Sound Tryd.prog G 34 := by
  refine fn_ok mixed stable tbl_rmay [] Tryd.func34 (by kernel_rfl) phi_rmay vc_rmay trivial (fun _ _ _ => False) (fun _ _ _ => 0) ?_
  intro ls hp
  obtain ⟨fs, fl, dr, rfl, hpre⟩ := rmay_pre hp
  clear hp
  rw [envOf_lk]
  unfold phi_rmay
  suffices hfin : ((if (if (decide ((0 : Int) ≤ fl)) = true then (decide (fl < fs)) else false) = true then (if (if (dr == (1 : Int)) = true then (decide (fl < (IntKind.wrap .i64 (fs - (1 : Int))))) else false) = true then true else (if (dr == (-1)) = true then (decide ((0 : Int) < fl)) else false)) else false)) = (mayP fs fl dr) from (c_b hfin rfl)
  -- leaf 1 (ret)
  simp only [mayP]
  try simp (disch := omega) only [wrap_in] at *
  grind
def C_first16 : Ctr := ⟨[], [.one (.bool)],
  fun | [] => True | _ => False,
  fun | [] => [.b (true)] | _ => []⟩
theorem first16_pre {ls : List Leaf} (h_ : C_first16.pre ls) : ls = [] := by
  unfold C_first16 at h_; dsimp only at h_; split at h_
  · rfl
  · exact h_.elim
theorem first16_res  {rs_ : List Leaf} (h_ : rs_ = C_first16.fn []) : ∃ (q0 : Bool), q0 = (true) ∧ rs_ = [.b q0] := ⟨_, rfl, h_⟩
def phi_first16 : Fm := (.call 21 [] [(.i (.i 1)), (.i (.i 4)), (.i (.i 2)), (.i (.i 2)), (.i (.i 2))] 0 (.and (.imp (.v 5) .false (.ret [(.b (.t .false))])) (.imp (.v 5) .true (.call 28 [] [(.c 1 (.osl 2 1) [(.int .i64 (.i 1))]), (.c 3 .nilsl [])] 6 (.call 20 [] [(.i (.i 1)), (.i (.i 4)), (.i (.i 2)), (.i (.i 2)), (.i (.v 0)), (.i (.v 1)), (.i (.v 2)), (.b (.v 3)), (.i (.v 4)), (.i (.v 6)), (.i (.v 7)), (.i (.v 8)), (.b (.t .false))] 9 (.ret [(.b (.ite (.ite (.v 14) (.eq (.v 11) (.i 2)) (.t .false)) (.eq (.v 16) (.i 1)) (.t .false)))]))))))
def tbl_first16 : List (Nat × Ctr) := [(20, C_ctick), (21, C_cstart), (28, C_of)]
theorem vc_first16 : vcg Tryd.prog (sigT tbl_first16) [] Tryd.f18 C_first16.params C_first16.res = some phi_first16 := by kernel_rfl
--SPLIT
theorem first16_sound : C_first16.Sound Tryd.prog G 18 := by
  refine fn_ok mixed stable tbl_first16 [] Tryd.func18 (by kernel_rfl) phi_first16 vc_first16 ⟨ctick_sound, cstart_sound, of_sound, trivial⟩ (fun _ _ _ => False) (fun _ _ _ => 0) ?_
  intro ls hp
  obtain rfl := first16_pre hp
  clear hp
  rw [envOf_lk]
  unfold phi_first16
  refine vg_call (C := C_cstart) rfl rfl (xs := [.i (1 : Int), .i (4 : Int), .i (2 : Int), .i (2 : Int), .i (2 : Int)]) rfl (fun hg => ?_) (fun rs hrs => ?_)
  ·
    exact trivial
  obtain ⟨r0, r1, r2, r3, r4, r5, hr0, hr1, hr2, hr3, hr4, hr5, rfl⟩ := cstart_res hrs
  clear hrs
  change Fm.holds _ _ (lk [.i r0, .i r1, .i r2, .b r3, .i r4, .b r5])
  refine ⟨fun hcond => ?_, fun hcond => ?_⟩
  ·
    have c1 : r5 = false := hcond
    clear hcond
    suffices hfin : (false) = (true) from (c_b hfin rfl)
    -- leaf 1 (ret)
    rw [hr5] at c1
    exact absurd c1 (by decide +kernel)
  ·
    have c2 : r5 = true := hcond
    clear hcond
    refine vg_call (C := C_of) rfl rfl (xs := [_, _]) rfl (fun hg => ?_) (fun rs hrs => ?_)
    ·
      refine of_mk ?_
      -- leaf 2 (pre)
      constructor <;> simp [cellsLV]
    obtain ⟨r6, r7, r8, hr6, hr7, hr8, rfl⟩ := of_res hrs
    clear hrs
    change Fm.holds _ _ (lk [.i r0, .i r1, .i r2, .b r3, .i r4, .b r5, .i r6, .i r7, .i r8])
    refine vg_call (C := C_ctick) rfl rfl (xs := [.i (1 : Int), .i (4 : Int), .i (2 : Int), .i (2 : Int), .i r0, .i r1, .i r2, .b r3, .i r4, .i r6, .i r7, .i r8, .b false]) rfl (fun hg => ?_) (fun rs hrs => ?_)
    ·
      refine ctick_mk ?_
      -- leaf 3 (pre)
      rw [hr2]
      decide +kernel
    obtain ⟨r9, r10, r11, r12, r13, r14, r15, r16, r17, r18, r19, r20, r21, hr9, hr10, hr11, hr12, hr13, hr14, hr15, hr16, hr17, hr18, hr19, hr20, hr21, rfl⟩ := ctick_res hrs
    clear hrs
    change Fm.holds _ _ (lk [.i r0, .i r1, .i r2, .b r3, .i r4, .b r5, .i r6, .i r7, .i r8, .i r9, .i r10, .i r11, .b r12, .i r13, .b r14, .b r15, .i r16, .i r17, .i r18, .i r19, .i r20, .i r21])
    suffices hfin : ((if (if r14 = true then (r11 == (2 : Int)) else false) = true then (r16 == (1 : Int)) else false)) = (true) from (c_b hfin rfl)
    -- leaf 4 (ret)
    subst_vars
    decide +kernel
end Go.Proofs.YtchjajnhbipkmaaDoor
