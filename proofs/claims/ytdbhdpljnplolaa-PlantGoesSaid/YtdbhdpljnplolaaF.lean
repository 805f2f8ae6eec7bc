import Derived.Test.YtdbhdpljnplolaaVg
import Derived.Test.YtdbhdpljnplolaaProg
namespace Go.Proofs.Ytdbhdpljnplolaa
open Go.Vg
set_option linter.unusedVariables false
set_option linter.unusedSimpArgs false
theorem mixed : Try.prog.follows .mixedOrders = true := by kernel_rfl
def G : World → Prop := fun _ => True
theorem stable : Stable G := fun _ _ _ _ => trivial

def between (n lo hi : Int) : Bool := decide (lo ≤ n ∧ n ≤ hi)
def valid (c f s d : Int) : Bool := between c 1 16 && between f 2 64 && between s 1 8 && between d 1 8
def top (c f s d : Int) : Int := if valid c f s d = true then (f - 1) * s else 0
def level (c f s d p : Int) : Bool := valid c f s d && between p 0 (top c f s d) && decide (p % s = 0)
def floor (c f s d p : Int) : Int := if valid c f s d = true then (min (max p 0) (top c f s d)) / s else 0
def clampM (m : Int) : Int := min (max m (-1)) 1
def goIs (c f s d p m : Int) : Bool := valid c f s d && between p (-1) (top c f s d + 1) && between (p + clampM m) 0 (top c f s d)
def goPos (c f s d p m : Int) : Int := if goIs c f s d p m = true then p + clampM m else 0
def right (c f s d p dir door : Int) (rl : Bool) : Bool :=
  valid c f s d && between p 0 (top c f s d) && between dir (-1) 1 && between door 0 d && !(decide (0 < door) && (!(level c f s d p) || rl)) && (level c f s d p || decide (dir ≠ 0) || rl)
def number (n b : Int) : Int := n % b

theorem between_iff {n lo hi : Int} : between n lo hi = true ↔ lo ≤ n ∧ n ≤ hi := by simp [between]
theorem between_niff {n lo hi : Int} : between n lo hi = false ↔ n < lo ∨ hi < n := by simp [between]; omega
theorem valid_iff {c f s d : Int} : valid c f s d = true ↔ (1 ≤ c ∧ c ≤ 16) ∧ (2 ≤ f ∧ f ≤ 64) ∧ (1 ≤ s ∧ s ≤ 8) ∧ (1 ≤ d ∧ d ≤ 8) := by
  simp [valid, between]; grind
theorem mul_range {f s : Int} (h1 : 2 ≤ f) (h2 : f ≤ 64) (h3 : 1 ≤ s) (h4 : s ≤ 8) : 1 ≤ (f - 1) * s ∧ (f - 1) * s ≤ 504 := by
  constructor
  · have := Int.mul_le_mul (show (1:Int) ≤ f - 1 by omega) h3 (by omega) (by omega); omega
  · have := Int.mul_le_mul (show f - 1 ≤ (63:Int) by omega) h4 (by omega) (by omega); omega
theorem top_eq {c f s d : Int} (h : valid c f s d = true) : top c f s d = (f - 1) * s := by unfold top; rw [if_pos h]
theorem top_no {c f s d : Int} (h : valid c f s d = false) : top c f s d = 0 := by unfold top; rw [if_neg (by rw [h]; decide)]
theorem top_range (c f s d : Int) : 0 ≤ top c f s d ∧ top c f s d ≤ 504 := by
  unfold top; split
  · rename_i h; rw [valid_iff] at h; have := @mul_range f s (by omega) (by omega) (by omega) (by omega); omega
  · omega
theorem clampM_range (m : Int) : -1 ≤ clampM m ∧ clampM m ≤ 1 := by unfold clampM; omega
theorem clamp_if (m : Int) : (if (1 : Int) < (if m < -1 then -1 else m) then 1 else (if m < -1 then -1 else m)) = clampM m := by unfold clampM; omega
theorem tmod_emod {p s : Int} (h : 0 ≤ p) : Int.tmod p s = p % s := Int.tmod_eq_emod_of_nonneg h
theorem tdiv_ediv {p s : Int} (h : 0 ≤ p) : Int.tdiv p s = p / s := Int.tdiv_eq_ediv_of_nonneg h
theorem number_cases (n b : Int) (h : 0 < b) : (Int.tmod n b = n % b ∧ True) ∨ (Int.tmod n b = n % b - b ∧ True) := by
  have h1 := @Int.tmod_eq_emod n b
  split at h1
  · exact .inl ⟨by omega, trivial⟩
  · exact .inr ⟨by rw [h1, Int.natAbs_of_nonneg (by omega)], trivial⟩
theorem div_range {p s : Int} (h : 0 ≤ p) (h2 : p ≤ 504) (h3 : 1 ≤ s) : 0 ≤ p / s ∧ p / s ≤ 504 := by
  constructor
  · exact Int.ediv_nonneg h (by omega)
  · have := Int.ediv_le_self s h; omega


def tickL (l : Int) (ob : Bool) : Int := if l ≤ 0 then 0 else if 1 < l then l - 1 else if ob = true then 1 else 0
def tickH (l h : Int) (ob : Bool) : Int := if l ≤ 0 then 0 else if 1 < l then h else if ob = true then h + 1 else 0
def tickC (l : Int) (ob : Bool) : Bool := decide (l = 1) && !ob
def stuck (l h dwell : Int) : Bool := decide (0 < l) && decide (3 * dwell < h)
def openL (dwell : Int) : Int := min (max dwell 1) 8


theorem go_in {c f s d p m : Int} (hv : valid c f s d = true) (h0 : 0 ≤ p) (h1 : p ≤ top c f s d) (h2 : 0 ≤ p + clampM m) (h3 : p + clampM m ≤ top c f s d) :
    goIs c f s d p m = true ∧ goPos c f s d p m = p + clampM m := by
  have : goIs c f s d p m = true := by simp only [goIs, hv, between]; simp; omega
  exact ⟨this, by simp [goPos, this]⟩
theorem go_out {c f s d p m : Int} (h : p + clampM m < 0 ∨ top c f s d < p + clampM m) : goIs c f s d p m = false := by
  simp only [goIs, between]
  cases valid c f s d <;> simp
  omega
theorem clampM_pos {m : Int} (h : 0 < m) : clampM m = 1 := by unfold clampM; omega
theorem clampM_neg {m : Int} (h : m < 0) : clampM m = -1 := by unfold clampM; omega
theorem clampM_zero : clampM 0 = 0 := by unfold clampM; omega
theorem speed_cases {s : Int} (h : 1 ≤ s) (h2 : s ≤ 8) : s = 1 ∨ s = 2 ∨ s = 3 ∨ s = 4 ∨ s = 5 ∨ s = 6 ∨ s = 7 ∨ s = 8 := by omega
theorem level_up {c f s d j : Int} (hv : valid c f s d = true) (h0 : 0 ≤ j) (h1 : j ≤ top c f s d) : level c f s d j = decide (j % s = 0) := by
  simp only [level, hv, between]; simp; omega
theorem level_dn {c f s d j : Int} (hv : valid c f s d = true) (h0 : 0 ≤ j) (h1 : j ≤ top c f s d) : level c f s d (top c f s d - j) = decide (j % s = 0) := by
  have h2 := valid_iff.1 hv
  have h3 : decide ((top c f s d - j) % s = 0) = decide (j % s = 0) := by
    rw [top_eq hv] at h1 ⊢
    rcases speed_cases h2.2.2.1.1 h2.2.2.1.2 with h | h | h | h | h | h | h | h <;> subst h <;> (apply decide_eq_decide.2; omega)
  rw [level_up hv (by omega) (by omega), h3]
theorem div_step {s i : Int} (h : 1 ≤ s) (h2 : s ≤ 8) (h0 : 0 ≤ i) : ((i + 1) % s = 0 → (i + 1) / s = i / s + 1) ∧ ((i + 1) % s ≠ 0 → (i + 1) / s = i / s) := by
  rcases speed_cases h h2 with h | h | h | h | h | h | h | h <;> subst h <;> omega
theorem top_div {c f s d : Int} (hv : valid c f s d = true) : top c f s d / s = f - 1 := by
  have h2 := valid_iff.1 hv
  rw [top_eq hv]
  exact Int.mul_ediv_cancel _ (by omega)
theorem wrap_top {c f s d : Int} (hv : valid c f s d = true) : IntKind.wrap .i64 (IntKind.wrap .i64 (f - 1) * s) = top c f s d := by
  have h := valid_iff.1 hv
  have := @mul_range f s (by omega) (by omega) (by omega) (by omega)
  rw [top_eq hv]
  simp (disch := omega) only [wrap_in]
theorem number_range (n : Int) {b : Int} (h : 0 < b) : 0 ≤ number n b ∧ number n b < b := ⟨Int.emod_nonneg _ (by omega), Int.emod_lt_of_pos _ h⟩
theorem floor_facts {c f s d p : Int} (hv : valid c f s d = true) (h0 : 0 ≤ p) (h1 : p ≤ top c f s d) :
    floor c f s d p = p / s ∧ 0 ≤ p / s ∧ p / s < f ∧ p / s * s ≤ p ∧ p - p / s * s < s ∧ 0 ≤ p / s * s ∧ decide (p % s = 0) = (p / s * s == p) := by
  have h2 := valid_iff.1 hv
  have h3 : floor c f s d p = p / s := by
    rw [floor, if_pos hv]
    have : min (max p 0) (top c f s d) = p := by omega
    rw [this]
  rw [top_eq hv] at h1
  refine ⟨h3, ?_⟩
  clear h3
  rcases speed_cases h2.2.2.1.1 h2.2.2.1.2 with h | h | h | h | h | h | h | h <;> subst h <;> (refine ⟨by omega, by omega, by omega, by omega, by omega, ?_⟩ <;> rw [Bool.eq_iff_iff] <;> simp <;> omega)
theorem number12 : number 1 2 = 1 := by decide

def C_between : Ctr := ⟨[.one (.int .i64), .one (.int .i64), .one (.int .i64)], [.one (.bool)],
  fun | [.i _, .i _, .i _] => True | _ => False,
  fun | [.i n, .i lo, .i hi] => [.b (between n lo hi)] | _ => []⟩
theorem between_pre {ls : List Leaf} (h_ : C_between.pre ls) : ∃ (n : Int) (lo : Int) (hi : Int), ls = [.i n, .i lo, .i hi] := by
  unfold C_between at h_; dsimp only at h_; split at h_
  · exact ⟨_, _, _, rfl⟩
  · exact h_.elim
theorem between_res {n : Int} {lo : Int} {hi : Int} {rs_ : List Leaf} (h_ : rs_ = C_between.fn [.i n, .i lo, .i hi]) : ∃ (q0 : Bool), q0 = (between n lo hi) ∧ rs_ = [.b q0] := ⟨_, rfl, h_⟩
def phi_between : Fm := (.ret [(.b (.ite (.le (.v 1) (.v 0)) (.le (.v 0) (.v 2)) (.t .false)))])
def tbl_between : List (Nat × Ctr) := []
theorem vc_between : vcg Try.prog (sigT tbl_between) [] Try.f33 C_between.params C_between.res = some phi_between := by kernel_rfl
--SPLIT
theorem between_sound : C_between.Sound Try.prog G 33 := by
  refine fn_ok mixed stable tbl_between [] Try.func33 (by kernel_rfl) phi_between vc_between trivial (fun _ _ _ => False) (fun _ _ _ => 0) ?_
  intro ls hp
  obtain ⟨n, lo, hi, rfl⟩ := between_pre hp
  clear hp
  rw [envOf_lk]
  unfold phi_between
  suffices hfin : ((if (decide (lo ≤ n)) = true then (decide (n ≤ hi)) else false)) = (between n lo hi) from (c_b hfin rfl)
  -- leaf 1 (ret)
  simp only [between]
  grind
def C_valid : Ctr := ⟨[.agg [.int .i64, .int .i64, .int .i64, .int .i64]], [.one (.bool)],
  fun | [.i _, .i _, .i _, .i _] => True | _ => False,
  fun | [.i hc, .i hf, .i hs, .i hd] => [.b (valid hc hf hs hd)] | _ => []⟩
theorem valid_pre {ls : List Leaf} (h_ : C_valid.pre ls) : ∃ (hc : Int) (hf : Int) (hs : Int) (hd : Int), ls = [.i hc, .i hf, .i hs, .i hd] := by
  unfold C_valid at h_; dsimp only at h_; split at h_
  · exact ⟨_, _, _, _, rfl⟩
  · exact h_.elim
theorem valid_res {hc : Int} {hf : Int} {hs : Int} {hd : Int} {rs_ : List Leaf} (h_ : rs_ = C_valid.fn [.i hc, .i hf, .i hs, .i hd]) : ∃ (q0 : Bool), q0 = (valid hc hf hs hd) ∧ rs_ = [.b q0] := ⟨_, rfl, h_⟩
def phi_valid : Fm := (.call 33 [] [(.i (.v 0)), (.i (.i 1)), (.i (.i 16))] 4 (.call 33 [((.v 4), .true)] [(.i (.v 1)), (.i (.i 2)), (.i (.i 64))] 5 (.call 33 [((.ite (.v 4) (.v 5) (.t .false)), .true)] [(.i (.v 2)), (.i (.i 1)), (.i (.i 8))] 6 (.call 33 [((.ite (.ite (.v 4) (.v 5) (.t .false)) (.v 6) (.t .false)), .true)] [(.i (.v 3)), (.i (.i 1)), (.i (.i 8))] 7 (.ret [(.b (.ite (.ite (.ite (.v 4) (.v 5) (.t .false)) (.v 6) (.t .false)) (.v 7) (.t .false)))])))))
def tbl_valid : List (Nat × Ctr) := [(33, C_between)]
theorem vc_valid : vcg Try.prog (sigT tbl_valid) [] Try.f12 C_valid.params C_valid.res = some phi_valid := by kernel_rfl
--SPLIT
theorem valid_sound : C_valid.Sound Try.prog G 12 := by
  refine fn_ok mixed stable tbl_valid [] Try.func12 (by kernel_rfl) phi_valid vc_valid ⟨between_sound, trivial⟩ (fun _ _ _ => False) (fun _ _ _ => 0) ?_
  intro ls hp
  obtain ⟨hc, hf, hs, hd, rfl⟩ := valid_pre hp
  clear hp
  rw [envOf_lk]
  unfold phi_valid
  refine vg_call (C := C_between) rfl rfl (xs := [.i hc, .i (1 : Int), .i (16 : Int)]) rfl (fun hg => ?_) (fun rs hrs => ?_)
  ·
    exact trivial
  obtain ⟨r4, hr4, rfl⟩ := between_res hrs
  clear hrs
  change Fm.holds _ _ (lk [.i hc, .i hf, .i hs, .i hd, .b r4])
  refine vg_call (C := C_between) rfl rfl (xs := [.i hf, .i (2 : Int), .i (64 : Int)]) rfl (fun hg => ?_) (fun rs hrs => ?_)
  ·
    exact trivial
  obtain ⟨r5, hr5, rfl⟩ := between_res hrs
  clear hrs
  change Fm.holds _ _ (lk [.i hc, .i hf, .i hs, .i hd, .b r4, .b r5])
  refine vg_call (C := C_between) rfl rfl (xs := [.i hs, .i (1 : Int), .i (8 : Int)]) rfl (fun hg => ?_) (fun rs hrs => ?_)
  ·
    exact trivial
  obtain ⟨r6, hr6, rfl⟩ := between_res hrs
  clear hrs
  change Fm.holds _ _ (lk [.i hc, .i hf, .i hs, .i hd, .b r4, .b r5, .b r6])
  refine vg_call (C := C_between) rfl rfl (xs := [.i hd, .i (1 : Int), .i (8 : Int)]) rfl (fun hg => ?_) (fun rs hrs => ?_)
  ·
    exact trivial
  obtain ⟨r7, hr7, rfl⟩ := between_res hrs
  clear hrs
  change Fm.holds _ _ (lk [.i hc, .i hf, .i hs, .i hd, .b r4, .b r5, .b r6, .b r7])
  suffices hfin : ((if (if (if r4 = true then r5 else false) = true then r6 else false) = true then r7 else false)) = (valid hc hf hs hd) from (c_b hfin rfl)
  -- leaf 1 (ret)
  subst hr4 hr5 hr6 hr7
  simp only [valid]
  grind
def C_top : Ctr := ⟨[.agg [.int .i64, .int .i64, .int .i64, .int .i64]], [.one (.int .i64)],
  fun | [.i _, .i _, .i _, .i _] => True | _ => False,
  fun | [.i hc, .i hf, .i hs, .i hd] => [.i (top hc hf hs hd)] | _ => []⟩
theorem top_pre {ls : List Leaf} (h_ : C_top.pre ls) : ∃ (hc : Int) (hf : Int) (hs : Int) (hd : Int), ls = [.i hc, .i hf, .i hs, .i hd] := by
  unfold C_top at h_; dsimp only at h_; split at h_
  · exact ⟨_, _, _, _, rfl⟩
  · exact h_.elim
theorem top_res {hc : Int} {hf : Int} {hs : Int} {hd : Int} {rs_ : List Leaf} (h_ : rs_ = C_top.fn [.i hc, .i hf, .i hs, .i hd]) : ∃ (q0 : Int), q0 = (top hc hf hs hd) ∧ rs_ = [.i q0] := ⟨_, rfl, h_⟩
def phi_top : Fm := (.call 12 [] [(.i (.v 0)), (.i (.v 1)), (.i (.v 2)), (.i (.v 3))] 4 (.and (.imp (.v 4) .false (.ret [(.i (.i 0))])) (.imp (.v 4) .true (.ret [(.i (.wrap .i64 (.mul (.wrap .i64 (.sub (.v 1) (.i 1))) (.v 2))))]))))
def tbl_top : List (Nat × Ctr) := [(12, C_valid)]
theorem vc_top : vcg Try.prog (sigT tbl_top) [] Try.f13 C_top.params C_top.res = some phi_top := by kernel_rfl
--SPLIT
theorem top_sound : C_top.Sound Try.prog G 13 := by
  refine fn_ok mixed stable tbl_top [] Try.func13 (by kernel_rfl) phi_top vc_top ⟨valid_sound, trivial⟩ (fun _ _ _ => False) (fun _ _ _ => 0) ?_
  intro ls hp
  obtain ⟨hc, hf, hs, hd, rfl⟩ := top_pre hp
  clear hp
  rw [envOf_lk]
  unfold phi_top
  refine vg_call (C := C_valid) rfl rfl (xs := [.i hc, .i hf, .i hs, .i hd]) rfl (fun hg => ?_) (fun rs hrs => ?_)
  ·
    exact trivial
  obtain ⟨r4, hr4, rfl⟩ := valid_res hrs
  clear hrs
  change Fm.holds _ _ (lk [.i hc, .i hf, .i hs, .i hd, .b r4])
  refine ⟨fun hcond => ?_, fun hcond => ?_⟩
  ·
    have c1 : r4 = false := hcond
    clear hcond
    suffices hfin : ((0 : Int)) = (top hc hf hs hd) from (c_i hfin rfl)
    -- leaf 1 (ret)
    subst hr4
    rw [top_no c1]
  ·
    have c2 : r4 = true := hcond
    clear hcond
    suffices hfin : ((IntKind.wrap .i64 ((IntKind.wrap .i64 (hf - (1 : Int))) * hs))) = (top hc hf hs hd) from (c_i hfin rfl)
    -- leaf 2 (ret)
    subst hr4
    rw [top_eq c2]
    have h := valid_iff.1 c2
    have := @mul_range hf hs (by omega) (by omega) (by omega) (by omega)
    simp (disch := omega) only [wrap_in]
def C_level : Ctr := ⟨[.agg [.int .i64, .int .i64, .int .i64, .int .i64], .one (.int .i64)], [.one (.bool)],
  fun | [.i _, .i _, .i _, .i _, .i _] => True | _ => False,
  fun | [.i hc, .i hf, .i hs, .i hd, .i p] => [.b (level hc hf hs hd p)] | _ => []⟩
theorem level_pre {ls : List Leaf} (h_ : C_level.pre ls) : ∃ (hc : Int) (hf : Int) (hs : Int) (hd : Int) (p : Int), ls = [.i hc, .i hf, .i hs, .i hd, .i p] := by
  unfold C_level at h_; dsimp only at h_; split at h_
  · exact ⟨_, _, _, _, _, rfl⟩
  · exact h_.elim
theorem level_res {hc : Int} {hf : Int} {hs : Int} {hd : Int} {p : Int} {rs_ : List Leaf} (h_ : rs_ = C_level.fn [.i hc, .i hf, .i hs, .i hd, .i p]) : ∃ (q0 : Bool), q0 = (level hc hf hs hd p) ∧ rs_ = [.b q0] := ⟨_, rfl, h_⟩
def phi_level : Fm := (.call 12 [] [(.i (.v 0)), (.i (.v 1)), (.i (.v 2)), (.i (.v 3))] 5 (.call 13 [((.v 5), .true)] [(.i (.v 0)), (.i (.v 1)), (.i (.v 2)), (.i (.v 3))] 6 (.call 33 [((.v 5), .true)] [(.i (.v 4)), (.i (.i 0)), (.i (.v 6))] 7 (.ob [((.ite (.v 5) (.v 7) (.t .false)), .true)] (.not (.eq (.v 2) (.i 0))) (.ret [(.b (.ite (.ite (.v 5) (.v 7) (.t .false)) (.eq (.rem (.v 4) (.v 2)) (.i 0)) (.t .false)))])))))
def tbl_level : List (Nat × Ctr) := [(12, C_valid), (13, C_top), (33, C_between)]
theorem vc_level : vcg Try.prog (sigT tbl_level) [] Try.f15 C_level.params C_level.res = some phi_level := by kernel_rfl
--SPLIT
theorem level_sound : C_level.Sound Try.prog G 15 := by
  refine fn_ok mixed stable tbl_level [] Try.func15 (by kernel_rfl) phi_level vc_level ⟨valid_sound, top_sound, between_sound, trivial⟩ (fun _ _ _ => False) (fun _ _ _ => 0) ?_
  intro ls hp
  obtain ⟨hc, hf, hs, hd, p, rfl⟩ := level_pre hp
  clear hp
  rw [envOf_lk]
  unfold phi_level
  refine vg_call (C := C_valid) rfl rfl (xs := [.i hc, .i hf, .i hs, .i hd]) rfl (fun hg => ?_) (fun rs hrs => ?_)
  ·
    exact trivial
  obtain ⟨r5, hr5, rfl⟩ := valid_res hrs
  clear hrs
  change Fm.holds _ _ (lk [.i hc, .i hf, .i hs, .i hd, .i p, .b r5])
  refine vg_call (C := C_top) rfl rfl (xs := [.i hc, .i hf, .i hs, .i hd]) rfl (fun hg => ?_) (fun rs hrs => ?_)
  ·
    exact trivial
  obtain ⟨r6, hr6, rfl⟩ := top_res hrs
  clear hrs
  change Fm.holds _ _ (lk [.i hc, .i hf, .i hs, .i hd, .i p, .b r5, .i r6])
  refine vg_call (C := C_between) rfl rfl (xs := [.i p, .i (0 : Int), .i r6]) rfl (fun hg => ?_) (fun rs hrs => ?_)
  ·
    exact trivial
  obtain ⟨r7, hr7, rfl⟩ := between_res hrs
  clear hrs
  change Fm.holds _ _ (lk [.i hc, .i hf, .i hs, .i hd, .i p, .b r5, .i r6, .b r7])
  refine ⟨fun hg => ?_, ?_⟩
  ·
    simp only [gd_cons, gd_nil, and_true] at hg
    replace hg : (if r5 = true then r7 else false) = true := hg
    show (!(hs == (0 : Int))) = true
    -- leaf 1 (ob)
    subst hr5 hr6 hr7
    have h : valid hc hf hs hd = true := by revert hg; cases valid hc hf hs hd <;> simp
    rw [valid_iff] at h
    simp; omega
  suffices hfin : ((if (if r5 = true then r7 else false) = true then ((Int.tmod p hs) == (0 : Int)) else false)) = (level hc hf hs hd p) from (c_b hfin rfl)
  -- leaf 2 (ret)
  subst hr5 hr6 hr7
  simp only [level]
  cases h : valid hc hf hs hd <;> simp
  cases h2 : between p 0 (top hc hf hs hd) <;> simp
  rw [between_iff] at h2
  rw [tmod_emod h2.1, Bool.eq_iff_iff]
  simp
def C_floor : Ctr := ⟨[.agg [.int .i64, .int .i64, .int .i64, .int .i64], .one (.int .i64)], [.one (.int .i64)],
  fun | [.i _, .i _, .i _, .i _, .i _] => True | _ => False,
  fun | [.i hc, .i hf, .i hs, .i hd, .i p] => [.i (floor hc hf hs hd p)] | _ => []⟩
theorem floor_pre {ls : List Leaf} (h_ : C_floor.pre ls) : ∃ (hc : Int) (hf : Int) (hs : Int) (hd : Int) (p : Int), ls = [.i hc, .i hf, .i hs, .i hd, .i p] := by
  unfold C_floor at h_; dsimp only at h_; split at h_
  · exact ⟨_, _, _, _, _, rfl⟩
  · exact h_.elim
theorem floor_res {hc : Int} {hf : Int} {hs : Int} {hd : Int} {p : Int} {rs_ : List Leaf} (h_ : rs_ = C_floor.fn [.i hc, .i hf, .i hs, .i hd, .i p]) : ∃ (q0 : Int), q0 = (floor hc hf hs hd p) ∧ rs_ = [.i q0] := ⟨_, rfl, h_⟩
def phi_floor : Fm := (.call 12 [] [(.i (.v 0)), (.i (.v 1)), (.i (.v 2)), (.i (.v 3))] 5 (.and (.imp (.v 5) .false (.ret [(.i (.i 0))])) (.imp (.v 5) .true (.call 13 [] [(.i (.v 0)), (.i (.v 1)), (.i (.v 2)), (.i (.v 3))] 6 (.ob [] (.not (.eq (.v 2) (.i 0))) (.ret [(.i (.wrap .i64 (.quo (.ite (.lt (.v 6) (.ite (.lt (.v 4) (.i 0)) (.i 0) (.v 4))) (.v 6) (.ite (.lt (.v 4) (.i 0)) (.i 0) (.v 4))) (.v 2))))]))))))
def tbl_floor : List (Nat × Ctr) := [(12, C_valid), (13, C_top)]
theorem vc_floor : vcg Try.prog (sigT tbl_floor) [] Try.f25 C_floor.params C_floor.res = some phi_floor := by kernel_rfl
--SPLIT
theorem floor_sound : C_floor.Sound Try.prog G 25 := by
  refine fn_ok mixed stable tbl_floor [] Try.func25 (by kernel_rfl) phi_floor vc_floor ⟨valid_sound, top_sound, trivial⟩ (fun _ _ _ => False) (fun _ _ _ => 0) ?_
  intro ls hp
  obtain ⟨hc, hf, hs, hd, p, rfl⟩ := floor_pre hp
  clear hp
  rw [envOf_lk]
  unfold phi_floor
  refine vg_call (C := C_valid) rfl rfl (xs := [.i hc, .i hf, .i hs, .i hd]) rfl (fun hg => ?_) (fun rs hrs => ?_)
  ·
    exact trivial
  obtain ⟨r5, hr5, rfl⟩ := valid_res hrs
  clear hrs
  change Fm.holds _ _ (lk [.i hc, .i hf, .i hs, .i hd, .i p, .b r5])
  refine ⟨fun hcond => ?_, fun hcond => ?_⟩
  ·
    have c1 : r5 = false := hcond
    clear hcond
    suffices hfin : ((0 : Int)) = (floor hc hf hs hd p) from (c_i hfin rfl)
    -- leaf 1 (ret)
    subst hr5
    simp [floor, c1]
  ·
    have c2 : r5 = true := hcond
    clear hcond
    refine vg_call (C := C_top) rfl rfl (xs := [.i hc, .i hf, .i hs, .i hd]) rfl (fun hg => ?_) (fun rs hrs => ?_)
    ·
      exact trivial
    obtain ⟨r6, hr6, rfl⟩ := top_res hrs
    clear hrs
    change Fm.holds _ _ (lk [.i hc, .i hf, .i hs, .i hd, .i p, .b r5, .i r6])
    refine ⟨fun hg => ?_, ?_⟩
    ·
      show (!(hs == (0 : Int))) = true
      -- leaf 2 (ob)
      subst hr5
      have h := valid_iff.1 c2
      simp; omega
    suffices hfin : ((IntKind.wrap .i64 (Int.tdiv (if (decide (r6 < (if (decide (p < (0 : Int))) = true then (0 : Int) else p))) = true then r6 else (if (decide (p < (0 : Int))) = true then (0 : Int) else p)) hs))) = (floor hc hf hs hd p) from (c_i hfin rfl)
    -- leaf 3 (ret)
    subst hr5 hr6
    have h := valid_iff.1 c2
    have ht := top_range hc hf hs hd
    have e : (if top hc hf hs hd < (if p < (0 : Int) then (0 : Int) else p) then top hc hf hs hd else (if p < (0 : Int) then (0 : Int) else p)) = min (max p 0) (top hc hf hs hd) := by omega
    simp only [decide_eq_true_eq]
    rw [e, tdiv_ediv (by omega)]
    have := div_range (p := min (max p 0) (top hc hf hs hd)) (s := hs) (by omega) (by omega) (by omega)
    rw [wrap_in (by omega) (by omega)]
    simp [floor, c2]
def C_go : Ctr := ⟨[.agg [.int .i64, .int .i64, .int .i64, .int .i64], .one (.int .i64), .one (.int .i64)], [.one (.int .i64), .one (.bool)],
  fun | [.i _, .i _, .i _, .i _, .i _, .i _] => True | _ => False,
  fun | [.i hc, .i hf, .i hs, .i hd, .i p, .i m] => [.i (goPos hc hf hs hd p m), .b (goIs hc hf hs hd p m)] | _ => []⟩
theorem go_pre {ls : List Leaf} (h_ : C_go.pre ls) : ∃ (hc : Int) (hf : Int) (hs : Int) (hd : Int) (p : Int) (m : Int), ls = [.i hc, .i hf, .i hs, .i hd, .i p, .i m] := by
  unfold C_go at h_; dsimp only at h_; split at h_
  · exact ⟨_, _, _, _, _, _, rfl⟩
  · exact h_.elim
theorem go_res {hc : Int} {hf : Int} {hs : Int} {hd : Int} {p : Int} {m : Int} {rs_ : List Leaf} (h_ : rs_ = C_go.fn [.i hc, .i hf, .i hs, .i hd, .i p, .i m]) : ∃ (q0 : Int) (q1 : Bool), q0 = (goPos hc hf hs hd p m) ∧ q1 = (goIs hc hf hs hd p m) ∧ rs_ = [.i q0, .b q1] := ⟨_, _, rfl, rfl, h_⟩
def phi_go : Fm := (.call 12 [] [(.i (.v 0)), (.i (.v 1)), (.i (.v 2)), (.i (.v 3))] 6 (.call 13 [((.not (.v 6)), .false)] [(.i (.v 0)), (.i (.v 1)), (.i (.v 2)), (.i (.v 3))] 7 (.call 33 [((.not (.v 6)), .false)] [(.i (.v 4)), (.i (.i (Int.negSucc 0))), (.i (.wrap .i64 (.add (.v 7) (.i 1))))] 8 (.and (.imp (.ite (.not (.v 6)) (.t .true) (.not (.v 8))) .true (.ret [(.i (.i 0)), (.b (.t .false))])) (.imp (.ite (.not (.v 6)) (.t .true) (.not (.v 8))) .false (.call 13 [] [(.i (.v 0)), (.i (.v 1)), (.i (.v 2)), (.i (.v 3))] 9 (.call 33 [] [(.i (.wrap .i64 (.add (.v 4) (.ite (.lt (.i 1) (.ite (.lt (.v 5) (.i (Int.negSucc 0))) (.i (Int.negSucc 0)) (.v 5))) (.i 1) (.ite (.lt (.v 5) (.i (Int.negSucc 0))) (.i (Int.negSucc 0)) (.v 5)))))), (.i (.i 0)), (.i (.v 9))] 10 (.and (.imp (.v 10) .false (.ret [(.i (.i 0)), (.b (.t .false))])) (.imp (.v 10) .true (.ret [(.i (.wrap .i64 (.add (.v 4) (.ite (.lt (.i 1) (.ite (.lt (.v 5) (.i (Int.negSucc 0))) (.i (Int.negSucc 0)) (.v 5))) (.i 1) (.ite (.lt (.v 5) (.i (Int.negSucc 0))) (.i (Int.negSucc 0)) (.v 5)))))), (.b (.t .true))]))))))))))
def tbl_go : List (Nat × Ctr) := [(12, C_valid), (13, C_top), (33, C_between)]
theorem vc_go : vcg Try.prog (sigT tbl_go) [] Try.f14 C_go.params C_go.res = some phi_go := by kernel_rfl
--SPLIT
theorem go_sound : C_go.Sound Try.prog G 14 := by
  refine fn_ok mixed stable tbl_go [] Try.func14 (by kernel_rfl) phi_go vc_go ⟨valid_sound, top_sound, between_sound, trivial⟩ (fun _ _ _ => False) (fun _ _ _ => 0) ?_
  intro ls hp
  obtain ⟨hc, hf, hs, hd, p, m, rfl⟩ := go_pre hp
  clear hp
  rw [envOf_lk]
  unfold phi_go
  refine vg_call (C := C_valid) rfl rfl (xs := [.i hc, .i hf, .i hs, .i hd]) rfl (fun hg => ?_) (fun rs hrs => ?_)
  ·
    exact trivial
  obtain ⟨r6, hr6, rfl⟩ := valid_res hrs
  clear hrs
  change Fm.holds _ _ (lk [.i hc, .i hf, .i hs, .i hd, .i p, .i m, .b r6])
  refine vg_call (C := C_top) rfl rfl (xs := [.i hc, .i hf, .i hs, .i hd]) rfl (fun hg => ?_) (fun rs hrs => ?_)
  ·
    exact trivial
  obtain ⟨r7, hr7, rfl⟩ := top_res hrs
  clear hrs
  change Fm.holds _ _ (lk [.i hc, .i hf, .i hs, .i hd, .i p, .i m, .b r6, .i r7])
  refine vg_call (C := C_between) rfl rfl (xs := [.i p, .i (-1), .i (IntKind.wrap .i64 (r7 + (1 : Int)))]) rfl (fun hg => ?_) (fun rs hrs => ?_)
  ·
    exact trivial
  obtain ⟨r8, hr8, rfl⟩ := between_res hrs
  clear hrs
  change Fm.holds _ _ (lk [.i hc, .i hf, .i hs, .i hd, .i p, .i m, .b r6, .i r7, .b r8])
  refine ⟨fun hcond => ?_, fun hcond => ?_⟩
  ·
    have c1 : (if (!r6) = true then true else (!r8)) = true := hcond
    clear hcond
    suffices hfin : ((0 : Int)) = (goPos hc hf hs hd p m) ∧ (false) = (goIs hc hf hs hd p m) from (c_i hfin.1 (c_b hfin.2 rfl))
    -- leaf 1 (ret)
    subst hr6 hr7 hr8
    have ht := top_range hc hf hs hd
    rw [wrap_in (by omega) (by omega)] at c1
    have : goIs hc hf hs hd p m = false := by
      simp only [goIs]; revert c1; cases valid hc hf hs hd <;> cases between p (-1) (top hc hf hs hd + 1) <;> simp
    simp [goPos, this]
  ·
    have c2 : (if (!r6) = true then true else (!r8)) = false := hcond
    clear hcond
    refine vg_call (C := C_top) rfl rfl (xs := [.i hc, .i hf, .i hs, .i hd]) rfl (fun hg => ?_) (fun rs hrs => ?_)
    ·
      exact trivial
    obtain ⟨r9, hr9, rfl⟩ := top_res hrs
    clear hrs
    change Fm.holds _ _ (lk [.i hc, .i hf, .i hs, .i hd, .i p, .i m, .b r6, .i r7, .b r8, .i r9])
    refine vg_call (C := C_between) rfl rfl (xs := [.i (IntKind.wrap .i64 (p + (if (decide ((1 : Int) < (if (decide (m < (-1))) = true then (-1) else m))) = true then (1 : Int) else (if (decide (m < (-1))) = true then (-1) else m)))), .i (0 : Int), .i r9]) rfl (fun hg => ?_) (fun rs hrs => ?_)
    ·
      exact trivial
    obtain ⟨r10, hr10, rfl⟩ := between_res hrs
    clear hrs
    change Fm.holds _ _ (lk [.i hc, .i hf, .i hs, .i hd, .i p, .i m, .b r6, .i r7, .b r8, .i r9, .b r10])
    refine ⟨fun hcond => ?_, fun hcond => ?_⟩
    ·
      have c3 : r10 = false := hcond
      clear hcond
      suffices hfin : ((0 : Int)) = (goPos hc hf hs hd p m) ∧ (false) = (goIs hc hf hs hd p m) from (c_i hfin.1 (c_b hfin.2 rfl))
      -- leaf 2 (ret)
      subst hr6 hr7 hr8 hr9 hr10
      have ht := top_range hc hf hs hd
      have hk := clampM_range m
      rw [wrap_in (by omega) (by omega)] at c2
      simp only [decide_eq_true_eq, clamp_if] at c3
      have hb : between p (-1) (top hc hf hs hd + 1) = true ∧ valid hc hf hs hd = true := by
        revert c2; cases valid hc hf hs hd <;> cases between p (-1) (top hc hf hs hd + 1) <;> simp
      have hb2 := between_iff.1 hb.1
      rw [wrap_in (by omega) (by omega)] at c3
      have : goIs hc hf hs hd p m = false := by simp [goIs, c3]
      simp [goPos, this]
    ·
      have c4 : r10 = true := hcond
      clear hcond
      suffices hfin : ((IntKind.wrap .i64 (p + (if (decide ((1 : Int) < (if (decide (m < (-1))) = true then (-1) else m))) = true then (1 : Int) else (if (decide (m < (-1))) = true then (-1) else m))))) = (goPos hc hf hs hd p m) ∧ (true) = (goIs hc hf hs hd p m) from (c_i hfin.1 (c_b hfin.2 rfl))
      -- leaf 3 (ret)
      subst hr6 hr7 hr8 hr9 hr10
      have ht := top_range hc hf hs hd
      have hk := clampM_range m
      rw [wrap_in (by omega) (by omega)] at c2
      simp only [decide_eq_true_eq, clamp_if] at c4 ⊢
      have hb : between p (-1) (top hc hf hs hd + 1) = true ∧ valid hc hf hs hd = true := by
        revert c2; cases valid hc hf hs hd <;> cases between p (-1) (top hc hf hs hd + 1) <;> simp
      have hb2 := between_iff.1 hb.1
      rw [wrap_in (by omega) (by omega)] at c4 ⊢
      have : goIs hc hf hs hd p m = true := by simp [goIs, c4, hb]
      simp [goPos, this]
def C_right : Ctr := ⟨[.agg [.int .i64, .int .i64, .int .i64, .int .i64], .agg [.int .i64, .int .i64, .int .i64, .bool]], [.one (.bool)],
  fun | [.i _, .i _, .i _, .i _, .i _, .i _, .i _, .b _] => True | _ => False,
  fun | [.i hc, .i hf, .i hs, .i hd, .i sp, .i sdir, .i sdo, .b srl] => [.b (right hc hf hs hd sp sdir sdo srl)] | _ => []⟩
theorem right_pre {ls : List Leaf} (h_ : C_right.pre ls) : ∃ (hc : Int) (hf : Int) (hs : Int) (hd : Int) (sp : Int) (sdir : Int) (sdo : Int) (srl : Bool), ls = [.i hc, .i hf, .i hs, .i hd, .i sp, .i sdir, .i sdo, .b srl] := by
  unfold C_right at h_; dsimp only at h_; split at h_
  · exact ⟨_, _, _, _, _, _, _, _, rfl⟩
  · exact h_.elim
theorem right_res {hc : Int} {hf : Int} {hs : Int} {hd : Int} {sp : Int} {sdir : Int} {sdo : Int} {srl : Bool} {rs_ : List Leaf} (h_ : rs_ = C_right.fn [.i hc, .i hf, .i hs, .i hd, .i sp, .i sdir, .i sdo, .b srl]) : ∃ (q0 : Bool), q0 = (right hc hf hs hd sp sdir sdo srl) ∧ rs_ = [.b q0] := ⟨_, rfl, h_⟩
def phi_right : Fm := (.call 15 [] [(.i (.v 0)), (.i (.v 1)), (.i (.v 2)), (.i (.v 3)), (.i (.v 4))] 8 (.call 12 [] [(.i (.v 0)), (.i (.v 1)), (.i (.v 2)), (.i (.v 3))] 9 (.call 13 [((.not (.v 9)), .false)] [(.i (.v 0)), (.i (.v 1)), (.i (.v 2)), (.i (.v 3))] 10 (.call 33 [((.not (.v 9)), .false)] [(.i (.v 4)), (.i (.i 0)), (.i (.v 10))] 11 (.call 33 [((.ite (.not (.v 9)) (.t .true) (.not (.v 11))), .false)] [(.i (.v 5)), (.i (.i (Int.negSucc 0))), (.i (.i 1))] 12 (.call 33 [((.ite (.ite (.not (.v 9)) (.t .true) (.not (.v 11))) (.t .true) (.not (.v 12))), .false)] [(.i (.v 6)), (.i (.i 0)), (.i (.v 3))] 13 (.and (.imp (.ite (.ite (.ite (.not (.v 9)) (.t .true) (.not (.v 11))) (.t .true) (.not (.v 12))) (.t .true) (.not (.v 13))) .true (.ret [(.b (.t .false))])) (.imp (.ite (.ite (.ite (.not (.v 9)) (.t .true) (.not (.v 11))) (.t .true) (.not (.v 12))) (.t .true) (.not (.v 13))) .false (.and (.imp (.ite (.lt (.i 0) (.v 6)) (.ite (.not (.v 8)) (.t .true) (.v 7)) (.t .false)) .true (.ret [(.b (.t .false))])) (.imp (.ite (.lt (.i 0) (.v 6)) (.ite (.not (.v 8)) (.t .true) (.v 7)) (.t .false)) .false (.ret [(.b (.ite (.ite (.v 8) (.t .true) (.not (.eq (.v 5) (.i 0)))) (.t .true) (.v 7)))])))))))))))
def tbl_right : List (Nat × Ctr) := [(12, C_valid), (13, C_top), (15, C_level), (33, C_between)]
theorem vc_right : vcg Try.prog (sigT tbl_right) [] Try.f26 C_right.params C_right.res = some phi_right := by kernel_rfl
--SPLIT
theorem right_sound : C_right.Sound Try.prog G 26 := by
  refine fn_ok mixed stable tbl_right [] Try.func26 (by kernel_rfl) phi_right vc_right ⟨valid_sound, top_sound, level_sound, between_sound, trivial⟩ (fun _ _ _ => False) (fun _ _ _ => 0) ?_
  intro ls hp
  obtain ⟨hc, hf, hs, hd, sp, sdir, sdo, srl, rfl⟩ := right_pre hp
  clear hp
  rw [envOf_lk]
  unfold phi_right
  refine vg_call (C := C_level) rfl rfl (xs := [.i hc, .i hf, .i hs, .i hd, .i sp]) rfl (fun hg => ?_) (fun rs hrs => ?_)
  ·
    exact trivial
  obtain ⟨r8, hr8, rfl⟩ := level_res hrs
  clear hrs
  change Fm.holds _ _ (lk [.i hc, .i hf, .i hs, .i hd, .i sp, .i sdir, .i sdo, .b srl, .b r8])
  refine vg_call (C := C_valid) rfl rfl (xs := [.i hc, .i hf, .i hs, .i hd]) rfl (fun hg => ?_) (fun rs hrs => ?_)
  ·
    exact trivial
  obtain ⟨r9, hr9, rfl⟩ := valid_res hrs
  clear hrs
  change Fm.holds _ _ (lk [.i hc, .i hf, .i hs, .i hd, .i sp, .i sdir, .i sdo, .b srl, .b r8, .b r9])
  refine vg_call (C := C_top) rfl rfl (xs := [.i hc, .i hf, .i hs, .i hd]) rfl (fun hg => ?_) (fun rs hrs => ?_)
  ·
    exact trivial
  obtain ⟨r10, hr10, rfl⟩ := top_res hrs
  clear hrs
  change Fm.holds _ _ (lk [.i hc, .i hf, .i hs, .i hd, .i sp, .i sdir, .i sdo, .b srl, .b r8, .b r9, .i r10])
  refine vg_call (C := C_between) rfl rfl (xs := [.i sp, .i (0 : Int), .i r10]) rfl (fun hg => ?_) (fun rs hrs => ?_)
  ·
    exact trivial
  obtain ⟨r11, hr11, rfl⟩ := between_res hrs
  clear hrs
  change Fm.holds _ _ (lk [.i hc, .i hf, .i hs, .i hd, .i sp, .i sdir, .i sdo, .b srl, .b r8, .b r9, .i r10, .b r11])
  refine vg_call (C := C_between) rfl rfl (xs := [.i sdir, .i (-1), .i (1 : Int)]) rfl (fun hg => ?_) (fun rs hrs => ?_)
  ·
    exact trivial
  obtain ⟨r12, hr12, rfl⟩ := between_res hrs
  clear hrs
  change Fm.holds _ _ (lk [.i hc, .i hf, .i hs, .i hd, .i sp, .i sdir, .i sdo, .b srl, .b r8, .b r9, .i r10, .b r11, .b r12])
  refine vg_call (C := C_between) rfl rfl (xs := [.i sdo, .i (0 : Int), .i hd]) rfl (fun hg => ?_) (fun rs hrs => ?_)
  ·
    exact trivial
  obtain ⟨r13, hr13, rfl⟩ := between_res hrs
  clear hrs
  change Fm.holds _ _ (lk [.i hc, .i hf, .i hs, .i hd, .i sp, .i sdir, .i sdo, .b srl, .b r8, .b r9, .i r10, .b r11, .b r12, .b r13])
  refine ⟨fun hcond => ?_, fun hcond => ?_⟩
  ·
    have c1 : (if (if (if (!r9) = true then true else (!r11)) = true then true else (!r12)) = true then true else (!r13)) = true := hcond
    clear hcond
    suffices hfin : (false) = (right hc hf hs hd sp sdir sdo srl) from (c_b hfin rfl)
    -- leaf 1 (ret)
    subst_vars
    simp only [right]
    grind
  ·
    have c2 : (if (if (if (!r9) = true then true else (!r11)) = true then true else (!r12)) = true then true else (!r13)) = false := hcond
    clear hcond
    refine ⟨fun hcond => ?_, fun hcond => ?_⟩
    ·
      have c3 : (if (decide ((0 : Int) < sdo)) = true then (if (!r8) = true then true else srl) else false) = true := hcond
      clear hcond
      suffices hfin : (false) = (right hc hf hs hd sp sdir sdo srl) from (c_b hfin rfl)
      -- leaf 2 (ret)
      subst_vars
      simp only [right]
      grind
    ·
      have c4 : (if (decide ((0 : Int) < sdo)) = true then (if (!r8) = true then true else srl) else false) = false := hcond
      clear hcond
      suffices hfin : ((if (if r8 = true then true else (!(sdir == (0 : Int)))) = true then true else srl)) = (right hc hf hs hd sp sdir sdo srl) from (c_b hfin rfl)
      -- leaf 3 (ret)
      subst_vars
      simp only [right]
      grind
def C_number : Ctr := ⟨[.one (.int .i64), .one (.int .i64)], [.one (.int .i64)],
  fun | [.i n, .i b] => 0 < b ∧ b ≤ 4611686018427387904 | _ => False,
  fun | [.i n, .i b] => [.i (number n b)] | _ => []⟩
theorem number_pre {ls : List Leaf} (h_ : C_number.pre ls) : ∃ (n : Int) (b : Int), ls = [.i n, .i b] ∧ (0 < b ∧ b ≤ 4611686018427387904) := by
  unfold C_number at h_; dsimp only at h_; split at h_
  · exact ⟨_, _, rfl, h_⟩
  · exact h_.elim
theorem number_mk {n : Int} {b : Int} (h_ : 0 < b ∧ b ≤ 4611686018427387904) : C_number.pre [.i n, .i b] := h_
theorem number_res {n : Int} {b : Int} {rs_ : List Leaf} (h_ : rs_ = C_number.fn [.i n, .i b]) : ∃ (q0 : Int), q0 = (number n b) ∧ rs_ = [.i q0] := ⟨_, rfl, h_⟩
def phi_number : Fm := (.ob [] (.not (.eq (.v 1) (.i 0))) (.and (.imp (.lt (.rem (.v 0) (.v 1)) (.i 0)) .true (.ret [(.i (.wrap .i64 (.add (.rem (.v 0) (.v 1)) (.v 1))))])) (.imp (.lt (.rem (.v 0) (.v 1)) (.i 0)) .false (.ret [(.i (.rem (.v 0) (.v 1)))]))))
def tbl_number : List (Nat × Ctr) := []
theorem vc_number : vcg Try.prog (sigT tbl_number) [] Try.f16 C_number.params C_number.res = some phi_number := by kernel_rfl
--SPLIT
theorem number_sound : C_number.Sound Try.prog G 16 := by
  refine fn_ok mixed stable tbl_number [] Try.func16 (by kernel_rfl) phi_number vc_number trivial (fun _ _ _ => False) (fun _ _ _ => 0) ?_
  intro ls hp
  obtain ⟨n, b, rfl, hpre⟩ := number_pre hp
  clear hp
  rw [envOf_lk]
  unfold phi_number
  refine ⟨fun hg => ?_, ?_⟩
  ·
    show (!(b == (0 : Int))) = true
    -- leaf 1 (ob)
    simp; omega
  refine ⟨fun hcond => ?_, fun hcond => ?_⟩
  ·
    have c1 : (decide ((Int.tmod n b) < (0 : Int))) = true := hcond
    clear hcond
    suffices hfin : ((IntKind.wrap .i64 ((Int.tmod n b) + b))) = (number n b) from (c_i hfin rfl)
    -- leaf 2 (ret)
    simp only [number]
    have h1 := Int.emod_nonneg n (show b ≠ 0 by omega)
    have h2 := Int.emod_lt_of_pos n (show 0 < b by omega)
    rcases number_cases n b hpre.1 with ⟨h3, _⟩ | ⟨h3, _⟩ <;> rw [h3] at c1 ⊢ <;> simp at c1 <;> (try simp (disch := omega) only [wrap_in]) <;> omega
  ·
    have c2 : (decide ((Int.tmod n b) < (0 : Int))) = false := hcond
    clear hcond
    suffices hfin : ((Int.tmod n b)) = (number n b) from (c_i hfin rfl)
    -- leaf 3 (ret)
    simp only [number]
    have h1 := Int.emod_nonneg n (show b ≠ 0 by omega)
    have h2 := Int.emod_lt_of_pos n (show 0 < b by omega)
    rcases number_cases n b hpre.1 with ⟨h3, _⟩ | ⟨h3, _⟩ <;> rw [h3] at c2 ⊢ <;> simp at c2 <;> (try simp (disch := omega) only [wrap_in]) <;> omega
def C_rvalid : Ctr := ⟨[.agg [.int .i64, .int .i64, .int .i64, .int .i64]], [.one (.bool)],
  fun | [.i _, .i _, .i _, .i _] => True | _ => False,
  fun | [.i hc, .i hf, .i hs, .i hd] => [.b (valid hc hf hs hd)] | _ => []⟩
theorem rvalid_pre {ls : List Leaf} (h_ : C_rvalid.pre ls) : ∃ (hc : Int) (hf : Int) (hs : Int) (hd : Int), ls = [.i hc, .i hf, .i hs, .i hd] := by
  unfold C_rvalid at h_; dsimp only at h_; split at h_
  · exact ⟨_, _, _, _, rfl⟩
  · exact h_.elim
theorem rvalid_res {hc : Int} {hf : Int} {hs : Int} {hd : Int} {rs_ : List Leaf} (h_ : rs_ = C_rvalid.fn [.i hc, .i hf, .i hs, .i hd]) : ∃ (q0 : Bool), q0 = (valid hc hf hs hd) ∧ rs_ = [.b q0] := ⟨_, rfl, h_⟩
def phi_rvalid : Fm := (.ret [(.b (.ite (.ite (.ite (.ite (.ite (.ite (.ite (.le (.i 1) (.v 0)) (.le (.v 0) (.i 16)) (.t .false)) (.le (.i 2) (.v 1)) (.t .false)) (.le (.v 1) (.i 64)) (.t .false)) (.le (.i 1) (.v 2)) (.t .false)) (.le (.v 2) (.i 8)) (.t .false)) (.le (.i 1) (.v 3)) (.t .false)) (.le (.v 3) (.i 8)) (.t .false)))])
def tbl_rvalid : List (Nat × Ctr) := []
theorem vc_rvalid : vcg Try.prog (sigT tbl_rvalid) [] Try.f28 C_rvalid.params C_rvalid.res = some phi_rvalid := by kernel_rfl
--SPLIT
theorem rvalid_sound : C_rvalid.Sound Try.prog G 28 := by
  refine fn_ok mixed stable tbl_rvalid [] Try.func28 (by kernel_rfl) phi_rvalid vc_rvalid trivial (fun _ _ _ => False) (fun _ _ _ => 0) ?_
  intro ls hp
  obtain ⟨hc, hf, hs, hd, rfl⟩ := rvalid_pre hp
  clear hp
  rw [envOf_lk]
  unfold phi_rvalid
  suffices hfin : ((if (if (if (if (if (if (if (decide ((1 : Int) ≤ hc)) = true then (decide (hc ≤ (16 : Int))) else false) = true then (decide ((2 : Int) ≤ hf)) else false) = true then (decide (hf ≤ (64 : Int))) else false) = true then (decide ((1 : Int) ≤ hs)) else false) = true then (decide (hs ≤ (8 : Int))) else false) = true then (decide ((1 : Int) ≤ hd)) else false) = true then (decide (hd ≤ (8 : Int))) else false)) = (valid hc hf hs hd) from (c_b hfin rfl)
  -- leaf 1 (ret)
  simp only [valid, between]
  grind
def C_rtop : Ctr := ⟨[.agg [.int .i64, .int .i64, .int .i64, .int .i64]], [.one (.int .i64)],
  fun | [.i _, .i _, .i _, .i _] => True | _ => False,
  fun | [.i hc, .i hf, .i hs, .i hd] => [.i (top hc hf hs hd)] | _ => []⟩
theorem rtop_pre {ls : List Leaf} (h_ : C_rtop.pre ls) : ∃ (hc : Int) (hf : Int) (hs : Int) (hd : Int), ls = [.i hc, .i hf, .i hs, .i hd] := by
  unfold C_rtop at h_; dsimp only at h_; split at h_
  · exact ⟨_, _, _, _, rfl⟩
  · exact h_.elim
theorem rtop_res {hc : Int} {hf : Int} {hs : Int} {hd : Int} {rs_ : List Leaf} (h_ : rs_ = C_rtop.fn [.i hc, .i hf, .i hs, .i hd]) : ∃ (q0 : Int), q0 = (top hc hf hs hd) ∧ rs_ = [.i q0] := ⟨_, rfl, h_⟩
def phi_rtop : Fm := (.call 28 [] [(.i (.v 0)), (.i (.v 1)), (.i (.v 2)), (.i (.v 3))] 4 (.and (.imp (.v 4) .false (.ret [(.i (.i 0))])) (.imp (.v 4) .true (.ret [(.i (.wrap .i64 (.mul (.wrap .i64 (.sub (.v 1) (.i 1))) (.v 2))))]))))
def tbl_rtop : List (Nat × Ctr) := [(28, C_rvalid)]
theorem vc_rtop : vcg Try.prog (sigT tbl_rtop) [] Try.f29 C_rtop.params C_rtop.res = some phi_rtop := by kernel_rfl
--SPLIT
theorem rtop_sound : C_rtop.Sound Try.prog G 29 := by
  refine fn_ok mixed stable tbl_rtop [] Try.func29 (by kernel_rfl) phi_rtop vc_rtop ⟨rvalid_sound, trivial⟩ (fun _ _ _ => False) (fun _ _ _ => 0) ?_
  intro ls hp
  obtain ⟨hc, hf, hs, hd, rfl⟩ := rtop_pre hp
  clear hp
  rw [envOf_lk]
  unfold phi_rtop
  refine vg_call (C := C_rvalid) rfl rfl (xs := [.i hc, .i hf, .i hs, .i hd]) rfl (fun hg => ?_) (fun rs hrs => ?_)
  ·
    exact trivial
  obtain ⟨r4, hr4, rfl⟩ := rvalid_res hrs
  clear hrs
  change Fm.holds _ _ (lk [.i hc, .i hf, .i hs, .i hd, .b r4])
  refine ⟨fun hcond => ?_, fun hcond => ?_⟩
  ·
    have c1 : r4 = false := hcond
    clear hcond
    suffices hfin : ((0 : Int)) = (top hc hf hs hd) from (c_i hfin rfl)
    -- leaf 1 (ret)
    subst hr4
    rw [top_no c1]
  ·
    have c2 : r4 = true := hcond
    clear hcond
    suffices hfin : ((IntKind.wrap .i64 ((IntKind.wrap .i64 (hf - (1 : Int))) * hs))) = (top hc hf hs hd) from (c_i hfin rfl)
    -- leaf 2 (ret)
    subst hr4
    rw [top_eq c2]
    have h := valid_iff.1 c2
    have := @mul_range hf hs (by omega) (by omega) (by omega) (by omega)
    simp (disch := omega) only [wrap_in]
def C_rin : Ctr := ⟨[.agg [.int .i64, .int .i64, .int .i64, .int .i64], .one (.int .i64)], [.one (.bool)],
  fun | [.i _, .i _, .i _, .i _, .i _] => True | _ => False,
  fun | [.i hc, .i hf, .i hs, .i hd, .i p] => [.b (valid hc hf hs hd && between p 0 (top hc hf hs hd))] | _ => []⟩
theorem rin_pre {ls : List Leaf} (h_ : C_rin.pre ls) : ∃ (hc : Int) (hf : Int) (hs : Int) (hd : Int) (p : Int), ls = [.i hc, .i hf, .i hs, .i hd, .i p] := by
  unfold C_rin at h_; dsimp only at h_; split at h_
  · exact ⟨_, _, _, _, _, rfl⟩
  · exact h_.elim
theorem rin_res {hc : Int} {hf : Int} {hs : Int} {hd : Int} {p : Int} {rs_ : List Leaf} (h_ : rs_ = C_rin.fn [.i hc, .i hf, .i hs, .i hd, .i p]) : ∃ (q0 : Bool), q0 = (valid hc hf hs hd && between p 0 (top hc hf hs hd)) ∧ rs_ = [.b q0] := ⟨_, rfl, h_⟩
def phi_rin : Fm := (.call 28 [] [(.i (.v 0)), (.i (.v 1)), (.i (.v 2)), (.i (.v 3))] 5 (.call 29 [((.ite (.v 5) (.le (.i 0) (.v 4)) (.t .false)), .true)] [(.i (.v 0)), (.i (.v 1)), (.i (.v 2)), (.i (.v 3))] 6 (.ret [(.b (.ite (.ite (.v 5) (.le (.i 0) (.v 4)) (.t .false)) (.le (.v 4) (.v 6)) (.t .false)))])))
def tbl_rin : List (Nat × Ctr) := [(28, C_rvalid), (29, C_rtop)]
theorem vc_rin : vcg Try.prog (sigT tbl_rin) [] Try.f34 C_rin.params C_rin.res = some phi_rin := by kernel_rfl
--SPLIT
theorem rin_sound : C_rin.Sound Try.prog G 34 := by
  refine fn_ok mixed stable tbl_rin [] Try.func34 (by kernel_rfl) phi_rin vc_rin ⟨rvalid_sound, rtop_sound, trivial⟩ (fun _ _ _ => False) (fun _ _ _ => 0) ?_
  intro ls hp
  obtain ⟨hc, hf, hs, hd, p, rfl⟩ := rin_pre hp
  clear hp
  rw [envOf_lk]
  unfold phi_rin
  refine vg_call (C := C_rvalid) rfl rfl (xs := [.i hc, .i hf, .i hs, .i hd]) rfl (fun hg => ?_) (fun rs hrs => ?_)
  ·
    exact trivial
  obtain ⟨r5, hr5, rfl⟩ := rvalid_res hrs
  clear hrs
  change Fm.holds _ _ (lk [.i hc, .i hf, .i hs, .i hd, .i p, .b r5])
  refine vg_call (C := C_rtop) rfl rfl (xs := [.i hc, .i hf, .i hs, .i hd]) rfl (fun hg => ?_) (fun rs hrs => ?_)
  ·
    exact trivial
  obtain ⟨r6, hr6, rfl⟩ := rtop_res hrs
  clear hrs
  change Fm.holds _ _ (lk [.i hc, .i hf, .i hs, .i hd, .i p, .b r5, .i r6])
  suffices hfin : ((if (if r5 = true then (decide ((0 : Int) ≤ p)) else false) = true then (decide (p ≤ r6)) else false)) = (valid hc hf hs hd && between p 0 (top hc hf hs hd)) from (c_b hfin rfl)
  -- leaf 1 (ret)
  subst_vars
  simp only [between]
  grind
def C_rlevel : Ctr := ⟨[.agg [.int .i64, .int .i64, .int .i64, .int .i64], .one (.int .i64)], [.one (.bool)],
  fun | [.i _, .i _, .i _, .i _, .i _] => True | _ => False,
  fun | [.i hc, .i hf, .i hs, .i hd, .i p] => [.b (level hc hf hs hd p)] | _ => []⟩
theorem rlevel_pre {ls : List Leaf} (h_ : C_rlevel.pre ls) : ∃ (hc : Int) (hf : Int) (hs : Int) (hd : Int) (p : Int), ls = [.i hc, .i hf, .i hs, .i hd, .i p] := by
  unfold C_rlevel at h_; dsimp only at h_; split at h_
  · exact ⟨_, _, _, _, _, rfl⟩
  · exact h_.elim
theorem rlevel_res {hc : Int} {hf : Int} {hs : Int} {hd : Int} {p : Int} {rs_ : List Leaf} (h_ : rs_ = C_rlevel.fn [.i hc, .i hf, .i hs, .i hd, .i p]) : ∃ (q0 : Bool), q0 = (level hc hf hs hd p) ∧ rs_ = [.b q0] := ⟨_, rfl, h_⟩
def phi_rlevel : Fm := (.call 34 [] [(.i (.v 0)), (.i (.v 1)), (.i (.v 2)), (.i (.v 3)), (.i (.v 4))] 5 (.ob [((.v 5), .true)] (.not (.eq (.v 2) (.i 0))) (.ret [(.b (.ite (.v 5) (.eq (.rem (.v 4) (.v 2)) (.i 0)) (.t .false)))])))
def tbl_rlevel : List (Nat × Ctr) := [(34, C_rin)]
theorem vc_rlevel : vcg Try.prog (sigT tbl_rlevel) [] Try.f30 C_rlevel.params C_rlevel.res = some phi_rlevel := by kernel_rfl
--SPLIT
theorem rlevel_sound : C_rlevel.Sound Try.prog G 30 := by
  refine fn_ok mixed stable tbl_rlevel [] Try.func30 (by kernel_rfl) phi_rlevel vc_rlevel ⟨rin_sound, trivial⟩ (fun _ _ _ => False) (fun _ _ _ => 0) ?_
  intro ls hp
  obtain ⟨hc, hf, hs, hd, p, rfl⟩ := rlevel_pre hp
  clear hp
  rw [envOf_lk]
  unfold phi_rlevel
  refine vg_call (C := C_rin) rfl rfl (xs := [.i hc, .i hf, .i hs, .i hd, .i p]) rfl (fun hg => ?_) (fun rs hrs => ?_)
  ·
    exact trivial
  obtain ⟨r5, hr5, rfl⟩ := rin_res hrs
  clear hrs
  change Fm.holds _ _ (lk [.i hc, .i hf, .i hs, .i hd, .i p, .b r5])
  refine ⟨fun hg => ?_, ?_⟩
  ·
    simp only [gd_cons, gd_nil, and_true] at hg
    replace hg : r5 = true := hg
    show (!(hs == (0 : Int))) = true
    -- leaf 1 (ob)
    subst hr5
    simp at hg
    have h := valid_iff.1 hg.1
    simp; omega
  suffices hfin : ((if r5 = true then ((Int.tmod p hs) == (0 : Int)) else false)) = (level hc hf hs hd p) from (c_b hfin rfl)
  -- leaf 2 (ret)
  subst hr5
  simp only [level]
  cases h : valid hc hf hs hd <;> simp
  cases h2 : between p 0 (top hc hf hs hd) <;> simp
  rw [between_iff] at h2
  rw [tmod_emod h2.1, Bool.eq_iff_iff]
  simp
def C_rfloor : Ctr := ⟨[.agg [.int .i64, .int .i64, .int .i64, .int .i64], .one (.int .i64)], [.one (.int .i64)],
  fun | [.i _, .i _, .i _, .i _, .i _] => True | _ => False,
  fun | [.i hc, .i hf, .i hs, .i hd, .i p] => [.i (floor hc hf hs hd p)] | _ => []⟩
theorem rfloor_pre {ls : List Leaf} (h_ : C_rfloor.pre ls) : ∃ (hc : Int) (hf : Int) (hs : Int) (hd : Int) (p : Int), ls = [.i hc, .i hf, .i hs, .i hd, .i p] := by
  unfold C_rfloor at h_; dsimp only at h_; split at h_
  · exact ⟨_, _, _, _, _, rfl⟩
  · exact h_.elim
theorem rfloor_res {hc : Int} {hf : Int} {hs : Int} {hd : Int} {p : Int} {rs_ : List Leaf} (h_ : rs_ = C_rfloor.fn [.i hc, .i hf, .i hs, .i hd, .i p]) : ∃ (q0 : Int), q0 = (floor hc hf hs hd p) ∧ rs_ = [.i q0] := ⟨_, rfl, h_⟩
def phi_rfloor : Fm := (.call 28 [] [(.i (.v 0)), (.i (.v 1)), (.i (.v 2)), (.i (.v 3))] 5 (.and (.imp (.ite (.not (.v 5)) (.t .true) (.lt (.v 4) (.i 0))) .true (.ret [(.i (.i 0))])) (.imp (.ite (.not (.v 5)) (.t .true) (.lt (.v 4) (.i 0))) .false (.call 29 [] [(.i (.v 0)), (.i (.v 1)), (.i (.v 2)), (.i (.v 3))] 6 (.ob [] (.not (.eq (.v 2) (.i 0))) (.ret [(.i (.wrap .i64 (.quo (.ite (.lt (.v 6) (.v 4)) (.v 6) (.v 4)) (.v 2))))]))))))
def tbl_rfloor : List (Nat × Ctr) := [(28, C_rvalid), (29, C_rtop)]
theorem vc_rfloor : vcg Try.prog (sigT tbl_rfloor) [] Try.f31 C_rfloor.params C_rfloor.res = some phi_rfloor := by kernel_rfl
--SPLIT
theorem rfloor_sound : C_rfloor.Sound Try.prog G 31 := by
  refine fn_ok mixed stable tbl_rfloor [] Try.func31 (by kernel_rfl) phi_rfloor vc_rfloor ⟨rvalid_sound, rtop_sound, trivial⟩ (fun _ _ _ => False) (fun _ _ _ => 0) ?_
  intro ls hp
  obtain ⟨hc, hf, hs, hd, p, rfl⟩ := rfloor_pre hp
  clear hp
  rw [envOf_lk]
  unfold phi_rfloor
  refine vg_call (C := C_rvalid) rfl rfl (xs := [.i hc, .i hf, .i hs, .i hd]) rfl (fun hg => ?_) (fun rs hrs => ?_)
  ·
    exact trivial
  obtain ⟨r5, hr5, rfl⟩ := rvalid_res hrs
  clear hrs
  change Fm.holds _ _ (lk [.i hc, .i hf, .i hs, .i hd, .i p, .b r5])
  refine ⟨fun hcond => ?_, fun hcond => ?_⟩
  ·
    have c1 : (if (!r5) = true then true else (decide (p < (0 : Int)))) = true := hcond
    clear hcond
    suffices hfin : ((0 : Int)) = (floor hc hf hs hd p) from (c_i hfin rfl)
    -- leaf 1 (ret)
    subst hr5
    have ht := top_range hc hf hs hd
    simp only [floor]
    split
    · rename_i h
      simp [h] at c1
      rw [show min (max p 0) (top hc hf hs hd) = 0 by omega]; simp
    · rfl
  ·
    have c2 : (if (!r5) = true then true else (decide (p < (0 : Int)))) = false := hcond
    clear hcond
    refine vg_call (C := C_rtop) rfl rfl (xs := [.i hc, .i hf, .i hs, .i hd]) rfl (fun hg => ?_) (fun rs hrs => ?_)
    ·
      exact trivial
    obtain ⟨r6, hr6, rfl⟩ := rtop_res hrs
    clear hrs
    change Fm.holds _ _ (lk [.i hc, .i hf, .i hs, .i hd, .i p, .b r5, .i r6])
    refine ⟨fun hg => ?_, ?_⟩
    ·
      show (!(hs == (0 : Int))) = true
      -- leaf 2 (ob)
      subst hr5
      simp at c2
      have h := valid_iff.1 c2.1
      simp; omega
    suffices hfin : ((IntKind.wrap .i64 (Int.tdiv (if (decide (r6 < p)) = true then r6 else p) hs))) = (floor hc hf hs hd p) from (c_i hfin rfl)
    -- leaf 3 (ret)
    subst hr5 hr6
    simp at c2
    have h := valid_iff.1 c2.1
    have ht := top_range hc hf hs hd
    simp only [decide_eq_true_eq, floor, c2.1, if_true]
    have e : (if top hc hf hs hd < p then top hc hf hs hd else p) = min p (top hc hf hs hd) := by omega
    rw [e, tdiv_ediv (by omega)]
    have := div_range (p := min p (top hc hf hs hd)) (s := hs) (by omega) (by omega) (by omega)
    rw [wrap_in (by omega) (by omega), show max p 0 = p by omega]
def C_rgo : Ctr := ⟨[.agg [.int .i64, .int .i64, .int .i64, .int .i64], .one (.int .i64), .one (.int .i64)], [.one (.int .i64), .one (.bool)],
  fun | [.i _, .i _, .i _, .i _, .i _, .i _] => True | _ => False,
  fun | [.i hc, .i hf, .i hs, .i hd, .i p, .i m] => [.i (goPos hc hf hs hd p m), .b (goIs hc hf hs hd p m)] | _ => []⟩
theorem rgo_pre {ls : List Leaf} (h_ : C_rgo.pre ls) : ∃ (hc : Int) (hf : Int) (hs : Int) (hd : Int) (p : Int) (m : Int), ls = [.i hc, .i hf, .i hs, .i hd, .i p, .i m] := by
  unfold C_rgo at h_; dsimp only at h_; split at h_
  · exact ⟨_, _, _, _, _, _, rfl⟩
  · exact h_.elim
theorem rgo_res {hc : Int} {hf : Int} {hs : Int} {hd : Int} {p : Int} {m : Int} {rs_ : List Leaf} (h_ : rs_ = C_rgo.fn [.i hc, .i hf, .i hs, .i hd, .i p, .i m]) : ∃ (q0 : Int) (q1 : Bool), q0 = (goPos hc hf hs hd p m) ∧ q1 = (goIs hc hf hs hd p m) ∧ rs_ = [.i q0, .b q1] := ⟨_, _, rfl, rfl, h_⟩
def phi_rgo : Fm := (.call 28 [] [(.i (.v 0)), (.i (.v 1)), (.i (.v 2)), (.i (.v 3))] 6 (.call 29 [((.ite (.not (.v 6)) (.t .true) (.lt (.v 4) (.i (Int.negSucc 0)))), .false)] [(.i (.v 0)), (.i (.v 1)), (.i (.v 2)), (.i (.v 3))] 7 (.and (.imp (.ite (.ite (.not (.v 6)) (.t .true) (.lt (.v 4) (.i (Int.negSucc 0)))) (.t .true) (.lt (.wrap .i64 (.add (.v 7) (.i 1))) (.v 4))) .true (.ret [(.i (.i 0)), (.b (.t .false))])) (.imp (.ite (.ite (.not (.v 6)) (.t .true) (.lt (.v 4) (.i (Int.negSucc 0)))) (.t .true) (.lt (.wrap .i64 (.add (.v 7) (.i 1))) (.v 4))) .false (.and (.imp (.lt (.i 0) (.v 5)) .true (.and (.imp (.lt (.v 5) (.i 0)) .true (.call 34 [] [(.i (.v 0)), (.i (.v 1)), (.i (.v 2)), (.i (.v 3)), (.i (.wrap .i64 (.sub (.wrap .i64 (.add (.v 4) (.i 1))) (.i 1))))] 8 (.and (.imp (.v 8) .false (.ret [(.i (.i 0)), (.b (.t .false))])) (.imp (.v 8) .true (.ret [(.i (.wrap .i64 (.sub (.wrap .i64 (.add (.v 4) (.i 1))) (.i 1)))), (.b (.t .true))]))))) (.imp (.lt (.v 5) (.i 0)) .false (.call 34 [] [(.i (.v 0)), (.i (.v 1)), (.i (.v 2)), (.i (.v 3)), (.i (.wrap .i64 (.add (.v 4) (.i 1))))] 8 (.and (.imp (.v 8) .false (.ret [(.i (.i 0)), (.b (.t .false))])) (.imp (.v 8) .true (.ret [(.i (.wrap .i64 (.add (.v 4) (.i 1)))), (.b (.t .true))]))))))) (.imp (.lt (.i 0) (.v 5)) .false (.and (.imp (.lt (.v 5) (.i 0)) .true (.call 34 [] [(.i (.v 0)), (.i (.v 1)), (.i (.v 2)), (.i (.v 3)), (.i (.wrap .i64 (.sub (.v 4) (.i 1))))] 8 (.and (.imp (.v 8) .false (.ret [(.i (.i 0)), (.b (.t .false))])) (.imp (.v 8) .true (.ret [(.i (.wrap .i64 (.sub (.v 4) (.i 1)))), (.b (.t .true))]))))) (.imp (.lt (.v 5) (.i 0)) .false (.call 34 [] [(.i (.v 0)), (.i (.v 1)), (.i (.v 2)), (.i (.v 3)), (.i (.v 4))] 8 (.and (.imp (.v 8) .false (.ret [(.i (.i 0)), (.b (.t .false))])) (.imp (.v 8) .true (.ret [(.i (.v 4)), (.b (.t .true))]))))))))))))
def tbl_rgo : List (Nat × Ctr) := [(28, C_rvalid), (29, C_rtop), (34, C_rin)]
theorem vc_rgo : vcg Try.prog (sigT tbl_rgo) [] Try.f27 C_rgo.params C_rgo.res = some phi_rgo := by kernel_rfl
--SPLIT
theorem rgo_sound : C_rgo.Sound Try.prog G 27 := by
  refine fn_ok mixed stable tbl_rgo [] Try.func27 (by kernel_rfl) phi_rgo vc_rgo ⟨rvalid_sound, rtop_sound, rin_sound, trivial⟩ (fun _ _ _ => False) (fun _ _ _ => 0) ?_
  intro ls hp
  obtain ⟨hc, hf, hs, hd, p, m, rfl⟩ := rgo_pre hp
  clear hp
  rw [envOf_lk]
  unfold phi_rgo
  refine vg_call (C := C_rvalid) rfl rfl (xs := [.i hc, .i hf, .i hs, .i hd]) rfl (fun hg => ?_) (fun rs hrs => ?_)
  ·
    exact trivial
  obtain ⟨r6, hr6, rfl⟩ := rvalid_res hrs
  clear hrs
  change Fm.holds _ _ (lk [.i hc, .i hf, .i hs, .i hd, .i p, .i m, .b r6])
  refine vg_call (C := C_rtop) rfl rfl (xs := [.i hc, .i hf, .i hs, .i hd]) rfl (fun hg => ?_) (fun rs hrs => ?_)
  ·
    exact trivial
  obtain ⟨r7, hr7, rfl⟩ := rtop_res hrs
  clear hrs
  change Fm.holds _ _ (lk [.i hc, .i hf, .i hs, .i hd, .i p, .i m, .b r6, .i r7])
  refine ⟨fun hcond => ?_, fun hcond => ?_⟩
  ·
    have c1 : (if (if (!r6) = true then true else (decide (p < (-1)))) = true then true else (decide ((IntKind.wrap .i64 (r7 + (1 : Int))) < p))) = true := hcond
    clear hcond
    suffices hfin : ((0 : Int)) = (goPos hc hf hs hd p m) ∧ (false) = (goIs hc hf hs hd p m) from (c_i hfin.1 (c_b hfin.2 rfl))
    -- leaf 1 (ret)
    subst hr6 hr7
    have ht := top_range hc hf hs hd
    rw [wrap_in (n := top hc hf hs hd + 1) (by omega) (by omega)] at c1
    have hb : goIs hc hf hs hd p m = false := by
      simp only [goIs, between]
      cases h : valid hc hf hs hd <;> simp [h] at c1 ⊢
      omega
    simp [goPos, hb]
  ·
    have c2 : (if (if (!r6) = true then true else (decide (p < (-1)))) = true then true else (decide ((IntKind.wrap .i64 (r7 + (1 : Int))) < p))) = false := hcond
    clear hcond
    refine ⟨fun hcond => ?_, fun hcond => ?_⟩
    ·
      have c3 : (decide ((0 : Int) < m)) = true := hcond
      clear hcond
      refine ⟨fun hcond => ?_, fun hcond => ?_⟩
      ·
        have c4 : (decide (m < (0 : Int))) = true := hcond
        clear hcond
        refine vg_call (C := C_rin) rfl rfl (xs := [.i hc, .i hf, .i hs, .i hd, .i (IntKind.wrap .i64 ((IntKind.wrap .i64 (p + (1 : Int))) - (1 : Int)))]) rfl (fun hg => ?_) (fun rs hrs => ?_)
        ·
          exact trivial
        obtain ⟨r8, hr8, rfl⟩ := rin_res hrs
        clear hrs
        change Fm.holds _ _ (lk [.i hc, .i hf, .i hs, .i hd, .i p, .i m, .b r6, .i r7, .b r8])
        refine ⟨fun hcond => ?_, fun hcond => ?_⟩
        ·
          have c5 : r8 = false := hcond
          clear hcond
          suffices hfin : ((0 : Int)) = (goPos hc hf hs hd p m) ∧ (false) = (goIs hc hf hs hd p m) from (c_i hfin.1 (c_b hfin.2 rfl))
          -- leaf 2 (ret)
          subst hr6 hr7 hr8
          have ht := top_range hc hf hs hd
          rw [wrap_in (n := top hc hf hs hd + 1) (by omega) (by omega)] at c2
          have hb : valid hc hf hs hd = true ∧ -1 ≤ p ∧ p ≤ top hc hf hs hd + 1 := by
            cases h : valid hc hf hs hd <;> simp [h] at c2 ⊢ <;> omega
          clear c2
          have e1 := wrap_in (n := p + 1) (by omega) (by omega)
          have e2 := wrap_in (n := p - 1) (by omega) (by omega)
          simp only [goPos, goIs, clampM]
          simp only [e1, e2, between, decide_eq_true_eq, decide_eq_false_iff_not] at *
          clear e1 e2
          grind
        ·
          have c6 : r8 = true := hcond
          clear hcond
          suffices hfin : ((IntKind.wrap .i64 ((IntKind.wrap .i64 (p + (1 : Int))) - (1 : Int)))) = (goPos hc hf hs hd p m) ∧ (true) = (goIs hc hf hs hd p m) from (c_i hfin.1 (c_b hfin.2 rfl))
          -- leaf 3 (ret)
          subst hr6 hr7 hr8
          have ht := top_range hc hf hs hd
          rw [wrap_in (n := top hc hf hs hd + 1) (by omega) (by omega)] at c2
          have hb : valid hc hf hs hd = true ∧ -1 ≤ p ∧ p ≤ top hc hf hs hd + 1 := by
            cases h : valid hc hf hs hd <;> simp [h] at c2 ⊢ <;> omega
          clear c2
          have e1 := wrap_in (n := p + 1) (by omega) (by omega)
          have e2 := wrap_in (n := p - 1) (by omega) (by omega)
          simp only [goPos, goIs, clampM]
          simp only [e1, e2, between, decide_eq_true_eq, decide_eq_false_iff_not] at *
          clear e1 e2
          grind
      ·
        have c7 : (decide (m < (0 : Int))) = false := hcond
        clear hcond
        refine vg_call (C := C_rin) rfl rfl (xs := [.i hc, .i hf, .i hs, .i hd, .i (IntKind.wrap .i64 (p + (1 : Int)))]) rfl (fun hg => ?_) (fun rs hrs => ?_)
        ·
          exact trivial
        obtain ⟨r8, hr8, rfl⟩ := rin_res hrs
        clear hrs
        change Fm.holds _ _ (lk [.i hc, .i hf, .i hs, .i hd, .i p, .i m, .b r6, .i r7, .b r8])
        refine ⟨fun hcond => ?_, fun hcond => ?_⟩
        ·
          have c8 : r8 = false := hcond
          clear hcond
          suffices hfin : ((0 : Int)) = (goPos hc hf hs hd p m) ∧ (false) = (goIs hc hf hs hd p m) from (c_i hfin.1 (c_b hfin.2 rfl))
          -- leaf 4 (ret)
          subst hr6 hr7 hr8
          have ht := top_range hc hf hs hd
          rw [wrap_in (n := top hc hf hs hd + 1) (by omega) (by omega)] at c2
          have hb : valid hc hf hs hd = true ∧ -1 ≤ p ∧ p ≤ top hc hf hs hd + 1 := by
            cases h : valid hc hf hs hd <;> simp [h] at c2 ⊢ <;> omega
          clear c2
          have e1 := wrap_in (n := p + 1) (by omega) (by omega)
          have e2 := wrap_in (n := p - 1) (by omega) (by omega)
          simp only [goPos, goIs, clampM]
          simp only [e1, e2, between, decide_eq_true_eq, decide_eq_false_iff_not] at *
          clear e1 e2
          grind
        ·
          have c9 : r8 = true := hcond
          clear hcond
          suffices hfin : ((IntKind.wrap .i64 (p + (1 : Int)))) = (goPos hc hf hs hd p m) ∧ (true) = (goIs hc hf hs hd p m) from (c_i hfin.1 (c_b hfin.2 rfl))
          -- leaf 5 (ret)
          subst hr6 hr7 hr8
          have ht := top_range hc hf hs hd
          rw [wrap_in (n := top hc hf hs hd + 1) (by omega) (by omega)] at c2
          have hb : valid hc hf hs hd = true ∧ -1 ≤ p ∧ p ≤ top hc hf hs hd + 1 := by
            cases h : valid hc hf hs hd <;> simp [h] at c2 ⊢ <;> omega
          clear c2
          have e1 := wrap_in (n := p + 1) (by omega) (by omega)
          have e2 := wrap_in (n := p - 1) (by omega) (by omega)
          simp only [goPos, goIs, clampM]
          simp only [e1, e2, between, decide_eq_true_eq, decide_eq_false_iff_not] at *
          clear e1 e2
          grind
    ·
      have c10 : (decide ((0 : Int) < m)) = false := hcond
      clear hcond
      refine ⟨fun hcond => ?_, fun hcond => ?_⟩
      ·
        have c11 : (decide (m < (0 : Int))) = true := hcond
        clear hcond
        refine vg_call (C := C_rin) rfl rfl (xs := [.i hc, .i hf, .i hs, .i hd, .i (IntKind.wrap .i64 (p - (1 : Int)))]) rfl (fun hg => ?_) (fun rs hrs => ?_)
        ·
          exact trivial
        obtain ⟨r8, hr8, rfl⟩ := rin_res hrs
        clear hrs
        change Fm.holds _ _ (lk [.i hc, .i hf, .i hs, .i hd, .i p, .i m, .b r6, .i r7, .b r8])
        refine ⟨fun hcond => ?_, fun hcond => ?_⟩
        ·
          have c12 : r8 = false := hcond
          clear hcond
          suffices hfin : ((0 : Int)) = (goPos hc hf hs hd p m) ∧ (false) = (goIs hc hf hs hd p m) from (c_i hfin.1 (c_b hfin.2 rfl))
          -- leaf 6 (ret)
          subst hr6 hr7 hr8
          have ht := top_range hc hf hs hd
          rw [wrap_in (n := top hc hf hs hd + 1) (by omega) (by omega)] at c2
          have hb : valid hc hf hs hd = true ∧ -1 ≤ p ∧ p ≤ top hc hf hs hd + 1 := by
            cases h : valid hc hf hs hd <;> simp [h] at c2 ⊢ <;> omega
          clear c2
          have e1 := wrap_in (n := p + 1) (by omega) (by omega)
          have e2 := wrap_in (n := p - 1) (by omega) (by omega)
          simp only [goPos, goIs, clampM]
          simp only [e1, e2, between, decide_eq_true_eq, decide_eq_false_iff_not] at *
          clear e1 e2
          grind
        ·
          have c13 : r8 = true := hcond
          clear hcond
          suffices hfin : ((IntKind.wrap .i64 (p - (1 : Int)))) = (goPos hc hf hs hd p m) ∧ (true) = (goIs hc hf hs hd p m) from (c_i hfin.1 (c_b hfin.2 rfl))
          -- leaf 7 (ret)
          subst hr6 hr7 hr8
          have ht := top_range hc hf hs hd
          rw [wrap_in (n := top hc hf hs hd + 1) (by omega) (by omega)] at c2
          have hb : valid hc hf hs hd = true ∧ -1 ≤ p ∧ p ≤ top hc hf hs hd + 1 := by
            cases h : valid hc hf hs hd <;> simp [h] at c2 ⊢ <;> omega
          clear c2
          have e1 := wrap_in (n := p + 1) (by omega) (by omega)
          have e2 := wrap_in (n := p - 1) (by omega) (by omega)
          simp only [goPos, goIs, clampM]
          simp only [e1, e2, between, decide_eq_true_eq, decide_eq_false_iff_not] at *
          clear e1 e2
          grind
      ·
        have c14 : (decide (m < (0 : Int))) = false := hcond
        clear hcond
        refine vg_call (C := C_rin) rfl rfl (xs := [.i hc, .i hf, .i hs, .i hd, .i p]) rfl (fun hg => ?_) (fun rs hrs => ?_)
        ·
          exact trivial
        obtain ⟨r8, hr8, rfl⟩ := rin_res hrs
        clear hrs
        change Fm.holds _ _ (lk [.i hc, .i hf, .i hs, .i hd, .i p, .i m, .b r6, .i r7, .b r8])
        refine ⟨fun hcond => ?_, fun hcond => ?_⟩
        ·
          have c15 : r8 = false := hcond
          clear hcond
          suffices hfin : ((0 : Int)) = (goPos hc hf hs hd p m) ∧ (false) = (goIs hc hf hs hd p m) from (c_i hfin.1 (c_b hfin.2 rfl))
          -- leaf 8 (ret)
          subst hr6 hr7 hr8
          have ht := top_range hc hf hs hd
          rw [wrap_in (n := top hc hf hs hd + 1) (by omega) (by omega)] at c2
          have hb : valid hc hf hs hd = true ∧ -1 ≤ p ∧ p ≤ top hc hf hs hd + 1 := by
            cases h : valid hc hf hs hd <;> simp [h] at c2 ⊢ <;> omega
          clear c2
          have e1 := wrap_in (n := p + 1) (by omega) (by omega)
          have e2 := wrap_in (n := p - 1) (by omega) (by omega)
          simp only [goPos, goIs, clampM]
          simp only [e1, e2, between, decide_eq_true_eq, decide_eq_false_iff_not] at *
          clear e1 e2
          grind
        ·
          have c16 : r8 = true := hcond
          clear hcond
          suffices hfin : (p) = (goPos hc hf hs hd p m) ∧ (true) = (goIs hc hf hs hd p m) from (c_i hfin.1 (c_b hfin.2 rfl))
          -- leaf 9 (ret)
          subst hr6 hr7 hr8
          have ht := top_range hc hf hs hd
          rw [wrap_in (n := top hc hf hs hd + 1) (by omega) (by omega)] at c2
          have hb : valid hc hf hs hd = true ∧ -1 ≤ p ∧ p ≤ top hc hf hs hd + 1 := by
            cases h : valid hc hf hs hd <;> simp [h] at c2 ⊢ <;> omega
          clear c2
          have e1 := wrap_in (n := p + 1) (by omega) (by omega)
          have e2 := wrap_in (n := p - 1) (by omega) (by omega)
          simp only [goPos, goIs, clampM]
          simp only [e1, e2, between, decide_eq_true_eq, decide_eq_false_iff_not] at *
          clear e1 e2
          grind
def C_rright : Ctr := ⟨[.agg [.int .i64, .int .i64, .int .i64, .int .i64], .agg [.int .i64, .int .i64, .int .i64, .bool]], [.one (.bool)],
  fun | [.i _, .i _, .i _, .i _, .i _, .i _, .i _, .b _] => True | _ => False,
  fun | [.i hc, .i hf, .i hs, .i hd, .i sp, .i sdir, .i sdo, .b srl] => [.b (right hc hf hs hd sp sdir sdo srl)] | _ => []⟩
theorem rright_pre {ls : List Leaf} (h_ : C_rright.pre ls) : ∃ (hc : Int) (hf : Int) (hs : Int) (hd : Int) (sp : Int) (sdir : Int) (sdo : Int) (srl : Bool), ls = [.i hc, .i hf, .i hs, .i hd, .i sp, .i sdir, .i sdo, .b srl] := by
  unfold C_rright at h_; dsimp only at h_; split at h_
  · exact ⟨_, _, _, _, _, _, _, _, rfl⟩
  · exact h_.elim
theorem rright_res {hc : Int} {hf : Int} {hs : Int} {hd : Int} {sp : Int} {sdir : Int} {sdo : Int} {srl : Bool} {rs_ : List Leaf} (h_ : rs_ = C_rright.fn [.i hc, .i hf, .i hs, .i hd, .i sp, .i sdir, .i sdo, .b srl]) : ∃ (q0 : Bool), q0 = (right hc hf hs hd sp sdir sdo srl) ∧ rs_ = [.b q0] := ⟨_, rfl, h_⟩
def phi_rright : Fm := (.call 34 [] [(.i (.v 0)), (.i (.v 1)), (.i (.v 2)), (.i (.v 3)), (.i (.v 4))] 8 (.and (.imp (.ite (.ite (.ite (.ite (.not (.v 8)) (.t .true) (.lt (.v 5) (.i (Int.negSucc 0)))) (.t .true) (.lt (.i 1) (.v 5))) (.t .true) (.lt (.v 6) (.i 0))) (.t .true) (.lt (.v 3) (.v 6))) .true (.ret [(.b (.t .false))])) (.imp (.ite (.ite (.ite (.ite (.not (.v 8)) (.t .true) (.lt (.v 5) (.i (Int.negSucc 0)))) (.t .true) (.lt (.i 1) (.v 5))) (.t .true) (.lt (.v 6) (.i 0))) (.t .true) (.lt (.v 3) (.v 6))) .false (.call 30 [((.lt (.i 0) (.v 6)), .true)] [(.i (.v 0)), (.i (.v 1)), (.i (.v 2)), (.i (.v 3)), (.i (.v 4))] 9 (.and (.imp (.ite (.lt (.i 0) (.v 6)) (.ite (.not (.v 9)) (.t .true) (.v 7)) (.t .false)) .true (.ret [(.b (.t .false))])) (.imp (.ite (.lt (.i 0) (.v 6)) (.ite (.not (.v 9)) (.t .true) (.v 7)) (.t .false)) .false (.call 30 [] [(.i (.v 0)), (.i (.v 1)), (.i (.v 2)), (.i (.v 3)), (.i (.v 4))] 10 (.ret [(.b (.ite (.ite (.v 10) (.t .true) (.not (.eq (.v 5) (.i 0)))) (.t .true) (.v 7)))]))))))))
def tbl_rright : List (Nat × Ctr) := [(30, C_rlevel), (34, C_rin)]
theorem vc_rright : vcg Try.prog (sigT tbl_rright) [] Try.f32 C_rright.params C_rright.res = some phi_rright := by kernel_rfl
--SPLIT
theorem rright_sound : C_rright.Sound Try.prog G 32 := by
  refine fn_ok mixed stable tbl_rright [] Try.func32 (by kernel_rfl) phi_rright vc_rright ⟨rlevel_sound, rin_sound, trivial⟩ (fun _ _ _ => False) (fun _ _ _ => 0) ?_
  intro ls hp
  obtain ⟨hc, hf, hs, hd, sp, sdir, sdo, srl, rfl⟩ := rright_pre hp
  clear hp
  rw [envOf_lk]
  unfold phi_rright
  refine vg_call (C := C_rin) rfl rfl (xs := [.i hc, .i hf, .i hs, .i hd, .i sp]) rfl (fun hg => ?_) (fun rs hrs => ?_)
  ·
    exact trivial
  obtain ⟨r8, hr8, rfl⟩ := rin_res hrs
  clear hrs
  change Fm.holds _ _ (lk [.i hc, .i hf, .i hs, .i hd, .i sp, .i sdir, .i sdo, .b srl, .b r8])
  refine ⟨fun hcond => ?_, fun hcond => ?_⟩
  ·
    have c1 : (if (if (if (if (!r8) = true then true else (decide (sdir < (-1)))) = true then true else (decide ((1 : Int) < sdir))) = true then true else (decide (sdo < (0 : Int)))) = true then true else (decide (hd < sdo))) = true := hcond
    clear hcond
    suffices hfin : (false) = (right hc hf hs hd sp sdir sdo srl) from (c_b hfin rfl)
    -- leaf 1 (ret)
    subst_vars
    have hv := @valid_iff hc hf hs hd
    simp only [right, between]
    simp only [between] at *
    grind
  ·
    have c2 : (if (if (if (if (!r8) = true then true else (decide (sdir < (-1)))) = true then true else (decide ((1 : Int) < sdir))) = true then true else (decide (sdo < (0 : Int)))) = true then true else (decide (hd < sdo))) = false := hcond
    clear hcond
    refine vg_call (C := C_rlevel) rfl rfl (xs := [.i hc, .i hf, .i hs, .i hd, .i sp]) rfl (fun hg => ?_) (fun rs hrs => ?_)
    ·
      exact trivial
    obtain ⟨r9, hr9, rfl⟩ := rlevel_res hrs
    clear hrs
    change Fm.holds _ _ (lk [.i hc, .i hf, .i hs, .i hd, .i sp, .i sdir, .i sdo, .b srl, .b r8, .b r9])
    refine ⟨fun hcond => ?_, fun hcond => ?_⟩
    ·
      have c3 : (if (decide ((0 : Int) < sdo)) = true then (if (!r9) = true then true else srl) else false) = true := hcond
      clear hcond
      suffices hfin : (false) = (right hc hf hs hd sp sdir sdo srl) from (c_b hfin rfl)
      -- leaf 2 (ret)
      subst_vars
      have hv := @valid_iff hc hf hs hd
      simp only [right, between]
      simp only [between] at *
      grind
    ·
      have c4 : (if (decide ((0 : Int) < sdo)) = true then (if (!r9) = true then true else srl) else false) = false := hcond
      clear hcond
      refine vg_call (C := C_rlevel) rfl rfl (xs := [.i hc, .i hf, .i hs, .i hd, .i sp]) rfl (fun hg => ?_) (fun rs hrs => ?_)
      ·
        exact trivial
      obtain ⟨r10, hr10, rfl⟩ := rlevel_res hrs
      clear hrs
      change Fm.holds _ _ (lk [.i hc, .i hf, .i hs, .i hd, .i sp, .i sdir, .i sdo, .b srl, .b r8, .b r9, .b r10])
      suffices hfin : ((if (if r10 = true then true else (!(sdir == (0 : Int)))) = true then true else srl)) = (right hc hf hs hd sp sdir sdo srl) from (c_b hfin rfl)
      -- leaf 3 (ret)
      subst_vars
      have hv := @valid_iff hc hf hs hd
      simp only [right, between]
      simp only [between] at *
      grind
def C_dopen : Ctr := ⟨[.one (.int .i64)], [.agg [.int .i64, .int .i64]],
  fun | [.i _] => True | _ => False,
  fun | [.i dwell] => [.i (openL dwell), .i (0)] | _ => []⟩
theorem dopen_pre {ls : List Leaf} (h_ : C_dopen.pre ls) : ∃ (dwell : Int), ls = [.i dwell] := by
  unfold C_dopen at h_; dsimp only at h_; split at h_
  · exact ⟨_, rfl⟩
  · exact h_.elim
theorem dopen_res {dwell : Int} {rs_ : List Leaf} (h_ : rs_ = C_dopen.fn [.i dwell]) : ∃ (q0 : Int) (q1 : Int), q0 = (openL dwell) ∧ q1 = (0) ∧ rs_ = [.i q0, .i q1] := ⟨_, _, rfl, rfl, h_⟩
def phi_dopen : Fm := (.ret [(.i (.ite (.lt (.i 8) (.ite (.lt (.v 0) (.i 1)) (.i 1) (.v 0))) (.i 8) (.ite (.lt (.v 0) (.i 1)) (.i 1) (.v 0)))), (.i (.i 0))])
def tbl_dopen : List (Nat × Ctr) := []
theorem vc_dopen : vcg Try.prog (sigT tbl_dopen) [] Try.f18 C_dopen.params C_dopen.res = some phi_dopen := by kernel_rfl
--SPLIT
theorem dopen_sound : C_dopen.Sound Try.prog G 18 := by
  refine fn_ok mixed stable tbl_dopen [] Try.func18 (by kernel_rfl) phi_dopen vc_dopen trivial (fun _ _ _ => False) (fun _ _ _ => 0) ?_
  intro ls hp
  obtain ⟨dwell, rfl⟩ := dopen_pre hp
  clear hp
  rw [envOf_lk]
  unfold phi_dopen
  suffices hfin : ((if (decide ((8 : Int) < (if (decide (dwell < (1 : Int))) = true then (1 : Int) else dwell))) = true then (8 : Int) else (if (decide (dwell < (1 : Int))) = true then (1 : Int) else dwell))) = (openL dwell) ∧ ((0 : Int)) = (0) from (c_i hfin.1 (c_i hfin.2 rfl))
  -- leaf 1 (ret)
  simp only [openL]
  grind
def C_dis : Ctr := ⟨[.agg [.int .i64, .int .i64]], [.one (.bool)],
  fun | [.i _, .i _] => True | _ => False,
  fun | [.i l, .i _] => [.b (decide (0 < l))] | _ => []⟩
theorem dis_pre {ls : List Leaf} (h_ : C_dis.pre ls) : ∃ (l : Int) (h : Int), ls = [.i l, .i h] := by
  unfold C_dis at h_; dsimp only at h_; split at h_
  · exact ⟨_, _, rfl⟩
  · exact h_.elim
theorem dis_res {l : Int} {h : Int} {rs_ : List Leaf} (h_ : rs_ = C_dis.fn [.i l, .i h]) : ∃ (q0 : Bool), q0 = (decide (0 < l)) ∧ rs_ = [.b q0] := ⟨_, rfl, h_⟩
def phi_dis : Fm := (.ret [(.b (.lt (.i 0) (.v 0)))])
def tbl_dis : List (Nat × Ctr) := []
theorem vc_dis : vcg Try.prog (sigT tbl_dis) [] Try.f23 C_dis.params C_dis.res = some phi_dis := by kernel_rfl
--SPLIT
theorem dis_sound : C_dis.Sound Try.prog G 23 := by
  refine fn_ok mixed stable tbl_dis [] Try.func23 (by kernel_rfl) phi_dis vc_dis trivial (fun _ _ _ => False) (fun _ _ _ => 0) ?_
  intro ls hp
  obtain ⟨l, h, rfl⟩ := dis_pre hp
  clear hp
  rw [envOf_lk]
  unfold phi_dis
  suffices hfin : ((decide ((0 : Int) < l))) = (decide (0 < l)) from (c_b hfin rfl)
  -- leaf 1 (ret)
  rfl
def C_dtick : Ctr := ⟨[.agg [.int .i64, .int .i64], .one (.bool)], [.agg [.int .i64, .int .i64], .one (.bool)],
  fun | [.i l, .i h, .b ob] => -9223372036854775808 ≤ l ∧ l < 9223372036854775808 ∧ -4611686018427387904 ≤ h ∧ h < 4611686018427387904 | _ => False,
  fun | [.i l, .i h, .b ob] => [.i (tickL l ob), .i (tickH l h ob), .b (tickC l ob)] | _ => []⟩
theorem dtick_pre {ls : List Leaf} (h_ : C_dtick.pre ls) : ∃ (l : Int) (h : Int) (ob : Bool), ls = [.i l, .i h, .b ob] ∧ (-9223372036854775808 ≤ l ∧ l < 9223372036854775808 ∧ -4611686018427387904 ≤ h ∧ h < 4611686018427387904) := by
  unfold C_dtick at h_; dsimp only at h_; split at h_
  · exact ⟨_, _, _, rfl, h_⟩
  · exact h_.elim
theorem dtick_mk {l : Int} {h : Int} {ob : Bool} (h_ : -9223372036854775808 ≤ l ∧ l < 9223372036854775808 ∧ -4611686018427387904 ≤ h ∧ h < 4611686018427387904) : C_dtick.pre [.i l, .i h, .b ob] := h_
theorem dtick_res {l : Int} {h : Int} {ob : Bool} {rs_ : List Leaf} (h_ : rs_ = C_dtick.fn [.i l, .i h, .b ob]) : ∃ (q0 : Int) (q1 : Int) (q2 : Bool), q0 = (tickL l ob) ∧ q1 = (tickH l h ob) ∧ q2 = (tickC l ob) ∧ rs_ = [.i q0, .i q1, .b q2] := ⟨_, _, _, rfl, rfl, rfl, h_⟩
def phi_dtick : Fm := (.call 23 [] [(.i (.v 0)), (.i (.v 1))] 3 (.and (.imp (.v 3) .false (.ret [(.i (.i 0)), (.i (.i 0)), (.b (.t .false))])) (.imp (.v 3) .true (.and (.imp (.lt (.i 1) (.v 0)) .true (.ret [(.i (.wrap .i64 (.sub (.v 0) (.i 1)))), (.i (.v 1)), (.b (.t .false))])) (.imp (.lt (.i 1) (.v 0)) .false (.and (.imp (.v 2) .true (.ret [(.i (.v 0)), (.i (.wrap .i64 (.add (.v 1) (.i 1)))), (.b (.t .false))])) (.imp (.v 2) .false (.ret [(.i (.i 0)), (.i (.i 0)), (.b (.t .true))]))))))))
def tbl_dtick : List (Nat × Ctr) := [(23, C_dis)]
theorem vc_dtick : vcg Try.prog (sigT tbl_dtick) [] Try.f19 C_dtick.params C_dtick.res = some phi_dtick := by kernel_rfl
--SPLIT
theorem dtick_sound : C_dtick.Sound Try.prog G 19 := by
  refine fn_ok mixed stable tbl_dtick [] Try.func19 (by kernel_rfl) phi_dtick vc_dtick ⟨dis_sound, trivial⟩ (fun _ _ _ => False) (fun _ _ _ => 0) ?_
  intro ls hp
  obtain ⟨l, h, ob, rfl, hpre⟩ := dtick_pre hp
  clear hp
  rw [envOf_lk]
  unfold phi_dtick
  refine vg_call (C := C_dis) rfl rfl (xs := [.i l, .i h]) rfl (fun hg => ?_) (fun rs hrs => ?_)
  ·
    exact trivial
  obtain ⟨r3, hr3, rfl⟩ := dis_res hrs
  clear hrs
  change Fm.holds _ _ (lk [.i l, .i h, .b ob, .b r3])
  refine ⟨fun hcond => ?_, fun hcond => ?_⟩
  ·
    have c1 : r3 = false := hcond
    clear hcond
    suffices hfin : ((0 : Int)) = (tickL l ob) ∧ ((0 : Int)) = (tickH l h ob) ∧ (false) = (tickC l ob) from (c_i hfin.1 (c_i hfin.2.1 (c_b hfin.2.2 rfl)))
    -- leaf 1 (ret)
    simp only [tickL, tickH, tickC]
    subst_vars
    try simp only [decide_eq_true_eq, decide_eq_false_iff_not] at *
    try simp (disch := omega) only [wrap_in]
    grind
  ·
    have c2 : r3 = true := hcond
    clear hcond
    refine ⟨fun hcond => ?_, fun hcond => ?_⟩
    ·
      have c3 : (decide ((1 : Int) < l)) = true := hcond
      clear hcond
      suffices hfin : ((IntKind.wrap .i64 (l - (1 : Int)))) = (tickL l ob) ∧ (h) = (tickH l h ob) ∧ (false) = (tickC l ob) from (c_i hfin.1 (c_i hfin.2.1 (c_b hfin.2.2 rfl)))
      -- leaf 2 (ret)
      simp only [tickL, tickH, tickC]
      subst_vars
      try simp only [decide_eq_true_eq, decide_eq_false_iff_not] at *
      try simp (disch := omega) only [wrap_in]
      grind
    ·
      have c4 : (decide ((1 : Int) < l)) = false := hcond
      clear hcond
      refine ⟨fun hcond => ?_, fun hcond => ?_⟩
      ·
        have c5 : ob = true := hcond
        clear hcond
        suffices hfin : (l) = (tickL l ob) ∧ ((IntKind.wrap .i64 (h + (1 : Int)))) = (tickH l h ob) ∧ (false) = (tickC l ob) from (c_i hfin.1 (c_i hfin.2.1 (c_b hfin.2.2 rfl)))
        -- leaf 3 (ret)
        simp only [tickL, tickH, tickC]
        subst_vars
        try simp only [decide_eq_true_eq, decide_eq_false_iff_not] at *
        try simp (disch := omega) only [wrap_in]
        grind
      ·
        have c6 : ob = false := hcond
        clear hcond
        suffices hfin : ((0 : Int)) = (tickL l ob) ∧ ((0 : Int)) = (tickH l h ob) ∧ (true) = (tickC l ob) from (c_i hfin.1 (c_i hfin.2.1 (c_b hfin.2.2 rfl)))
        -- leaf 4 (ret)
        simp only [tickL, tickH, tickC]
        subst_vars
        try simp only [decide_eq_true_eq, decide_eq_false_iff_not] at *
        try simp (disch := omega) only [wrap_in]
        grind
def C_dstuck : Ctr := ⟨[.agg [.int .i64, .int .i64], .one (.int .i64)], [.one (.bool)],
  fun | [.i l, .i h, .i dwell] => -1099511627776 ≤ dwell ∧ dwell ≤ 1099511627776 | _ => False,
  fun | [.i l, .i h, .i dwell] => [.b (stuck l h dwell)] | _ => []⟩
theorem dstuck_pre {ls : List Leaf} (h_ : C_dstuck.pre ls) : ∃ (l : Int) (h : Int) (dwell : Int), ls = [.i l, .i h, .i dwell] ∧ (-1099511627776 ≤ dwell ∧ dwell ≤ 1099511627776) := by
  unfold C_dstuck at h_; dsimp only at h_; split at h_
  · exact ⟨_, _, _, rfl, h_⟩
  · exact h_.elim
theorem dstuck_mk {l : Int} {h : Int} {dwell : Int} (h_ : -1099511627776 ≤ dwell ∧ dwell ≤ 1099511627776) : C_dstuck.pre [.i l, .i h, .i dwell] := h_
theorem dstuck_res {l : Int} {h : Int} {dwell : Int} {rs_ : List Leaf} (h_ : rs_ = C_dstuck.fn [.i l, .i h, .i dwell]) : ∃ (q0 : Bool), q0 = (stuck l h dwell) ∧ rs_ = [.b q0] := ⟨_, rfl, h_⟩
def phi_dstuck : Fm := (.call 23 [] [(.i (.v 0)), (.i (.v 1))] 3 (.and (.imp (.ite (.not (.v 3)) (.t .true) (.lt (.i 3074457345618258602) (.v 2))) .true (.ret [(.b (.t .false))])) (.imp (.ite (.not (.v 3)) (.t .true) (.lt (.i 3074457345618258602) (.v 2))) .false (.and (.imp (.lt (.v 2) (.i (Int.negSucc 3074457345618258601))) .true (.ret [(.b (.t .true))])) (.imp (.lt (.v 2) (.i (Int.negSucc 3074457345618258601))) .false (.ret [(.b (.lt (.wrap .i64 (.mul (.i 3) (.v 2))) (.v 1)))]))))))
def tbl_dstuck : List (Nat × Ctr) := [(23, C_dis)]
theorem vc_dstuck : vcg Try.prog (sigT tbl_dstuck) [] Try.f20 C_dstuck.params C_dstuck.res = some phi_dstuck := by kernel_rfl
--SPLIT
theorem dstuck_sound : C_dstuck.Sound Try.prog G 20 := by
  refine fn_ok mixed stable tbl_dstuck [] Try.func20 (by kernel_rfl) phi_dstuck vc_dstuck ⟨dis_sound, trivial⟩ (fun _ _ _ => False) (fun _ _ _ => 0) ?_
  intro ls hp
  obtain ⟨l, h, dwell, rfl, hpre⟩ := dstuck_pre hp
  clear hp
  rw [envOf_lk]
  unfold phi_dstuck
  refine vg_call (C := C_dis) rfl rfl (xs := [.i l, .i h]) rfl (fun hg => ?_) (fun rs hrs => ?_)
  ·
    exact trivial
  obtain ⟨r3, hr3, rfl⟩ := dis_res hrs
  clear hrs
  change Fm.holds _ _ (lk [.i l, .i h, .i dwell, .b r3])
  refine ⟨fun hcond => ?_, fun hcond => ?_⟩
  ·
    have c1 : (if (!r3) = true then true else (decide ((3074457345618258602 : Int) < dwell))) = true := hcond
    clear hcond
    suffices hfin : (false) = (stuck l h dwell) from (c_b hfin rfl)
    -- leaf 1 (ret)
    simp only [stuck]
    subst_vars
    try simp only [decide_eq_true_eq, decide_eq_false_iff_not] at *
    try simp (disch := omega) only [wrap_in]
    grind
  ·
    have c2 : (if (!r3) = true then true else (decide ((3074457345618258602 : Int) < dwell))) = false := hcond
    clear hcond
    refine ⟨fun hcond => ?_, fun hcond => ?_⟩
    ·
      have c3 : (decide (dwell < (-3074457345618258602))) = true := hcond
      clear hcond
      suffices hfin : (true) = (stuck l h dwell) from (c_b hfin rfl)
      -- leaf 2 (ret)
      simp only [stuck]
      subst_vars
      try simp only [decide_eq_true_eq, decide_eq_false_iff_not] at *
      try simp (disch := omega) only [wrap_in]
      grind
    ·
      have c4 : (decide (dwell < (-3074457345618258602))) = false := hcond
      clear hcond
      suffices hfin : ((decide ((IntKind.wrap .i64 ((3 : Int) * dwell)) < h))) = (stuck l h dwell) from (c_b hfin rfl)
      -- leaf 3 (ret)
      simp only [stuck]
      subst_vars
      try simp only [decide_eq_true_eq, decide_eq_false_iff_not] at *
      try simp (disch := omega) only [wrap_in]
      grind
def C_ropen : Ctr := ⟨[.one (.int .i64)], [.agg [.int .i64, .int .i64]],
  fun | [.i _] => True | _ => False,
  fun | [.i dwell] => [.i (openL dwell), .i (0)] | _ => []⟩
theorem ropen_pre {ls : List Leaf} (h_ : C_ropen.pre ls) : ∃ (dwell : Int), ls = [.i dwell] := by
  unfold C_ropen at h_; dsimp only at h_; split at h_
  · exact ⟨_, rfl⟩
  · exact h_.elim
theorem ropen_res {dwell : Int} {rs_ : List Leaf} (h_ : rs_ = C_ropen.fn [.i dwell]) : ∃ (q0 : Int) (q1 : Int), q0 = (openL dwell) ∧ q1 = (0) ∧ rs_ = [.i q0, .i q1] := ⟨_, _, rfl, rfl, h_⟩
def phi_ropen : Fm := (.ret [(.i (.ite (.lt (.i 8) (.ite (.lt (.v 0) (.i 1)) (.i 1) (.v 0))) (.i 8) (.ite (.lt (.v 0) (.i 1)) (.i 1) (.v 0)))), (.i (.i 0))])
def tbl_ropen : List (Nat × Ctr) := []
theorem vc_ropen : vcg Try.prog (sigT tbl_ropen) [] Try.f21 C_ropen.params C_ropen.res = some phi_ropen := by kernel_rfl
--SPLIT
theorem ropen_sound : C_ropen.Sound Try.prog G 21 := by
  refine fn_ok mixed stable tbl_ropen [] Try.func21 (by kernel_rfl) phi_ropen vc_ropen trivial (fun _ _ _ => False) (fun _ _ _ => 0) ?_
  intro ls hp
  obtain ⟨dwell, rfl⟩ := ropen_pre hp
  clear hp
  rw [envOf_lk]
  unfold phi_ropen
  suffices hfin : ((if (decide ((8 : Int) < (if (decide (dwell < (1 : Int))) = true then (1 : Int) else dwell))) = true then (8 : Int) else (if (decide (dwell < (1 : Int))) = true then (1 : Int) else dwell))) = (openL dwell) ∧ ((0 : Int)) = (0) from (c_i hfin.1 (c_i hfin.2 rfl))
  -- leaf 1 (ret)
  simp only [openL]
  grind
def C_rtickd : Ctr := ⟨[.agg [.int .i64, .int .i64], .one (.bool)], [.agg [.int .i64, .int .i64], .one (.bool)],
  fun | [.i l, .i h, .b ob] => -9223372036854775808 ≤ l ∧ l < 9223372036854775808 ∧ -4611686018427387904 ≤ h ∧ h < 4611686018427387904 | _ => False,
  fun | [.i l, .i h, .b ob] => [.i (tickL l ob), .i (tickH l h ob), .b (tickC l ob)] | _ => []⟩
theorem rtickd_pre {ls : List Leaf} (h_ : C_rtickd.pre ls) : ∃ (l : Int) (h : Int) (ob : Bool), ls = [.i l, .i h, .b ob] ∧ (-9223372036854775808 ≤ l ∧ l < 9223372036854775808 ∧ -4611686018427387904 ≤ h ∧ h < 4611686018427387904) := by
  unfold C_rtickd at h_; dsimp only at h_; split at h_
  · exact ⟨_, _, _, rfl, h_⟩
  · exact h_.elim
theorem rtickd_mk {l : Int} {h : Int} {ob : Bool} (h_ : -9223372036854775808 ≤ l ∧ l < 9223372036854775808 ∧ -4611686018427387904 ≤ h ∧ h < 4611686018427387904) : C_rtickd.pre [.i l, .i h, .b ob] := h_
theorem rtickd_res {l : Int} {h : Int} {ob : Bool} {rs_ : List Leaf} (h_ : rs_ = C_rtickd.fn [.i l, .i h, .b ob]) : ∃ (q0 : Int) (q1 : Int) (q2 : Bool), q0 = (tickL l ob) ∧ q1 = (tickH l h ob) ∧ q2 = (tickC l ob) ∧ rs_ = [.i q0, .i q1, .b q2] := ⟨_, _, _, rfl, rfl, rfl, h_⟩
def phi_rtickd : Fm := (.and (.imp (.le (.v 0) (.i 0)) .true (.ret [(.i (.i 0)), (.i (.i 0)), (.b (.t .false))])) (.imp (.le (.v 0) (.i 0)) .false (.and (.imp (.lt (.i 1) (.v 0)) .true (.ret [(.i (.wrap .i64 (.sub (.v 0) (.i 1)))), (.i (.v 1)), (.b (.t .false))])) (.imp (.lt (.i 1) (.v 0)) .false (.and (.imp (.v 2) .true (.ret [(.i (.i 1)), (.i (.wrap .i64 (.add (.v 1) (.i 1)))), (.b (.t .false))])) (.imp (.v 2) .false (.ret [(.i (.i 0)), (.i (.i 0)), (.b (.t .true))])))))))
def tbl_rtickd : List (Nat × Ctr) := []
theorem vc_rtickd : vcg Try.prog (sigT tbl_rtickd) [] Try.f22 C_rtickd.params C_rtickd.res = some phi_rtickd := by kernel_rfl
--SPLIT
theorem rtickd_sound : C_rtickd.Sound Try.prog G 22 := by
  refine fn_ok mixed stable tbl_rtickd [] Try.func22 (by kernel_rfl) phi_rtickd vc_rtickd trivial (fun _ _ _ => False) (fun _ _ _ => 0) ?_
  intro ls hp
  obtain ⟨l, h, ob, rfl, hpre⟩ := rtickd_pre hp
  clear hp
  rw [envOf_lk]
  unfold phi_rtickd
  refine ⟨fun hcond => ?_, fun hcond => ?_⟩
  ·
    have c1 : (decide (l ≤ (0 : Int))) = true := hcond
    clear hcond
    suffices hfin : ((0 : Int)) = (tickL l ob) ∧ ((0 : Int)) = (tickH l h ob) ∧ (false) = (tickC l ob) from (c_i hfin.1 (c_i hfin.2.1 (c_b hfin.2.2 rfl)))
    -- leaf 1 (ret)
    simp only [tickL, tickH, tickC]
    subst_vars
    try simp only [decide_eq_true_eq, decide_eq_false_iff_not] at *
    try simp (disch := omega) only [wrap_in]
    grind
  ·
    have c2 : (decide (l ≤ (0 : Int))) = false := hcond
    clear hcond
    refine ⟨fun hcond => ?_, fun hcond => ?_⟩
    ·
      have c3 : (decide ((1 : Int) < l)) = true := hcond
      clear hcond
      suffices hfin : ((IntKind.wrap .i64 (l - (1 : Int)))) = (tickL l ob) ∧ (h) = (tickH l h ob) ∧ (false) = (tickC l ob) from (c_i hfin.1 (c_i hfin.2.1 (c_b hfin.2.2 rfl)))
      -- leaf 2 (ret)
      simp only [tickL, tickH, tickC]
      subst_vars
      try simp only [decide_eq_true_eq, decide_eq_false_iff_not] at *
      try simp (disch := omega) only [wrap_in]
      grind
    ·
      have c4 : (decide ((1 : Int) < l)) = false := hcond
      clear hcond
      refine ⟨fun hcond => ?_, fun hcond => ?_⟩
      ·
        have c5 : ob = true := hcond
        clear hcond
        suffices hfin : ((1 : Int)) = (tickL l ob) ∧ ((IntKind.wrap .i64 (h + (1 : Int)))) = (tickH l h ob) ∧ (false) = (tickC l ob) from (c_i hfin.1 (c_i hfin.2.1 (c_b hfin.2.2 rfl)))
        -- leaf 3 (ret)
        simp only [tickL, tickH, tickC]
        subst_vars
        try simp only [decide_eq_true_eq, decide_eq_false_iff_not] at *
        try simp (disch := omega) only [wrap_in]
        grind
      ·
        have c6 : ob = false := hcond
        clear hcond
        suffices hfin : ((0 : Int)) = (tickL l ob) ∧ ((0 : Int)) = (tickH l h ob) ∧ (true) = (tickC l ob) from (c_i hfin.1 (c_i hfin.2.1 (c_b hfin.2.2 rfl)))
        -- leaf 4 (ret)
        simp only [tickL, tickH, tickC]
        subst_vars
        try simp only [decide_eq_true_eq, decide_eq_false_iff_not] at *
        try simp (disch := omega) only [wrap_in]
        grind
def C_rstuck : Ctr := ⟨[.agg [.int .i64, .int .i64], .one (.int .i64)], [.one (.bool)],
  fun | [.i l, .i h, .i dwell] => -1099511627776 ≤ dwell ∧ dwell ≤ 1099511627776 | _ => False,
  fun | [.i l, .i h, .i dwell] => [.b (stuck l h dwell)] | _ => []⟩
theorem rstuck_pre {ls : List Leaf} (h_ : C_rstuck.pre ls) : ∃ (l : Int) (h : Int) (dwell : Int), ls = [.i l, .i h, .i dwell] ∧ (-1099511627776 ≤ dwell ∧ dwell ≤ 1099511627776) := by
  unfold C_rstuck at h_; dsimp only at h_; split at h_
  · exact ⟨_, _, _, rfl, h_⟩
  · exact h_.elim
theorem rstuck_mk {l : Int} {h : Int} {dwell : Int} (h_ : -1099511627776 ≤ dwell ∧ dwell ≤ 1099511627776) : C_rstuck.pre [.i l, .i h, .i dwell] := h_
theorem rstuck_res {l : Int} {h : Int} {dwell : Int} {rs_ : List Leaf} (h_ : rs_ = C_rstuck.fn [.i l, .i h, .i dwell]) : ∃ (q0 : Bool), q0 = (stuck l h dwell) ∧ rs_ = [.b q0] := ⟨_, rfl, h_⟩
def phi_rstuck : Fm := (.ret [(.b (.ite (.lt (.i 0) (.v 0)) (.lt (.wrap .i64 (.mul (.i 3) (.v 2))) (.v 1)) (.t .false)))])
def tbl_rstuck : List (Nat × Ctr) := []
theorem vc_rstuck : vcg Try.prog (sigT tbl_rstuck) [] Try.f24 C_rstuck.params C_rstuck.res = some phi_rstuck := by kernel_rfl
--SPLIT
theorem rstuck_sound : C_rstuck.Sound Try.prog G 24 := by
  refine fn_ok mixed stable tbl_rstuck [] Try.func24 (by kernel_rfl) phi_rstuck vc_rstuck trivial (fun _ _ _ => False) (fun _ _ _ => 0) ?_
  intro ls hp
  obtain ⟨l, h, dwell, rfl, hpre⟩ := rstuck_pre hp
  clear hp
  rw [envOf_lk]
  unfold phi_rstuck
  suffices hfin : ((if (decide ((0 : Int) < l)) = true then (decide ((IntKind.wrap .i64 ((3 : Int) * dwell)) < h)) else false)) = (stuck l h dwell) from (c_b hfin rfl)
  -- leaf 1 (ret)
  simp only [stuck]
  subst_vars
  try simp only [decide_eq_true_eq, decide_eq_false_iff_not] at *
  try simp (disch := omega) only [wrap_in]
  grind
def C_first12 : Ctr := ⟨[], [.one (.bool)],
  fun | [] => True | _ => False,
  fun | [] => [.b (true)] | _ => []⟩
theorem first12_pre {ls : List Leaf} (h_ : C_first12.pre ls) : ls = [] := by
  unfold C_first12 at h_; dsimp only at h_; split at h_
  · rfl
  · exact h_.elim
theorem first12_res  {rs_ : List Leaf} (h_ : rs_ = C_first12.fn []) : ∃ (q0 : Bool), q0 = (true) ∧ rs_ = [.b q0] := ⟨_, rfl, h_⟩
def phi_first12 : Fm := (.call 13 [] [(.i (.i 1)), (.i (.i 5)), (.i (.i 3)), (.i (.i 1))] 0 (.ret [(.b (.eq (.v 0) (.i 12)))]))
def tbl_first12 : List (Nat × Ctr) := [(13, C_top)]
theorem vc_first12 : vcg Try.prog (sigT tbl_first12) [] Try.f11 C_first12.params C_first12.res = some phi_first12 := by kernel_rfl
--SPLIT
theorem first12_sound : C_first12.Sound Try.prog G 11 := by
  refine fn_ok mixed stable tbl_first12 [] Try.func11 (by kernel_rfl) phi_first12 vc_first12 ⟨top_sound, trivial⟩ (fun _ _ _ => False) (fun _ _ _ => 0) ?_
  intro ls hp
  obtain rfl := first12_pre hp
  clear hp
  rw [envOf_lk]
  unfold phi_first12
  refine vg_call (C := C_top) rfl rfl (xs := [.i (1 : Int), .i (5 : Int), .i (3 : Int), .i (1 : Int)]) rfl (fun hg => ?_) (fun rs hrs => ?_)
  ·
    exact trivial
  obtain ⟨r0, hr0, rfl⟩ := top_res hrs
  clear hrs
  change Fm.holds _ _ (lk [.i r0])
  suffices hfin : ((r0 == (12 : Int))) = (true) from (c_b hfin rfl)
  -- leaf 1 (ret)
  subst_vars
  decide
def C_first13 : Ctr := ⟨[], [.one (.bool)],
  fun | [] => True | _ => False,
  fun | [] => [.b (true)] | _ => []⟩
theorem first13_pre {ls : List Leaf} (h_ : C_first13.pre ls) : ls = [] := by
  unfold C_first13 at h_; dsimp only at h_; split at h_
  · rfl
  · exact h_.elim
theorem first13_res  {rs_ : List Leaf} (h_ : rs_ = C_first13.fn []) : ∃ (q0 : Bool), q0 = (true) ∧ rs_ = [.b q0] := ⟨_, rfl, h_⟩
def phi_first13 : Fm := (.call 18 [] [(.i (.i 1))] 0 (.call 19 [] [(.i (.v 0)), (.i (.v 1)), (.b (.t .false))] 2 (.call 23 [((.v 4), .true)] [(.i (.v 2)), (.i (.v 3))] 5 (.ret [(.b (.ite (.v 4) (.not (.v 5)) (.t .false)))]))))
def tbl_first13 : List (Nat × Ctr) := [(18, C_dopen), (19, C_dtick), (23, C_dis)]
theorem vc_first13 : vcg Try.prog (sigT tbl_first13) [] Try.f17 C_first13.params C_first13.res = some phi_first13 := by kernel_rfl
--SPLIT
theorem first13_sound : C_first13.Sound Try.prog G 17 := by
  refine fn_ok mixed stable tbl_first13 [] Try.func17 (by kernel_rfl) phi_first13 vc_first13 ⟨dopen_sound, dtick_sound, dis_sound, trivial⟩ (fun _ _ _ => False) (fun _ _ _ => 0) ?_
  intro ls hp
  obtain rfl := first13_pre hp
  clear hp
  rw [envOf_lk]
  unfold phi_first13
  refine vg_call (C := C_dopen) rfl rfl (xs := [.i (1 : Int)]) rfl (fun hg => ?_) (fun rs hrs => ?_)
  ·
    exact trivial
  obtain ⟨r0, r1, hr0, hr1, rfl⟩ := dopen_res hrs
  clear hrs
  change Fm.holds _ _ (lk [.i r0, .i r1])
  refine vg_call (C := C_dtick) rfl rfl (xs := [.i r0, .i r1, .b false]) rfl (fun hg => ?_) (fun rs hrs => ?_)
  ·
    refine dtick_mk ?_
    -- leaf 1 (pre)
    subst_vars
    decide
  obtain ⟨r2, r3, r4, hr2, hr3, hr4, rfl⟩ := dtick_res hrs
  clear hrs
  change Fm.holds _ _ (lk [.i r0, .i r1, .i r2, .i r3, .b r4])
  refine vg_call (C := C_dis) rfl rfl (xs := [.i r2, .i r3]) rfl (fun hg => ?_) (fun rs hrs => ?_)
  ·
    exact trivial
  obtain ⟨r5, hr5, rfl⟩ := dis_res hrs
  clear hrs
  change Fm.holds _ _ (lk [.i r0, .i r1, .i r2, .i r3, .b r4, .b r5])
  suffices hfin : ((if r4 = true then (!r5) else false)) = (true) from (c_b hfin rfl)
  -- leaf 2 (ret)
  subst_vars
  decide
end Go.Proofs.Ytdbhdpljnplolaa
