import Derived.Test.YtppnpmpocnpgaaaDoorF
namespace Go.Proofs.YtppnpmpocnpgaaaDoor
open Go.Vg
set_option linter.unusedVariables false
set_option linter.unusedSimpArgs false
def C_PlanNone : Ctr := ⟨[.agg [.int .u64, .int .u64, .int .u64], .one (.int .i64), .one (.int .i64)], [.one (.bool)],
  fun | [.i s0, .i s1, .i s2, .i fl, .i dir] => (0 ≤ s0 ∧ s0 < 18446744073709551616) ∧ (0 ≤ s1 ∧ s1 < 18446744073709551616) ∧ (0 ≤ s2 ∧ s2 < 18446744073709551616) ∧ (-9223372036854775808 ≤ fl ∧ fl < 9223372036854775808) ∧ (-9223372036854775808 ≤ dir ∧ dir < 9223372036854775808) ∧ True | _ => False,
  fun | [.i _, .i _, .i _, .i _, .i _] => [.b (true)] | _ => []⟩
theorem PlanNone_pre {ls : List Leaf} (h_ : C_PlanNone.pre ls) : ∃ (s0 : Int) (s1 : Int) (s2 : Int) (fl : Int) (dir : Int), ls = [.i s0, .i s1, .i s2, .i fl, .i dir] ∧ ((0 ≤ s0 ∧ s0 < 18446744073709551616) ∧ (0 ≤ s1 ∧ s1 < 18446744073709551616) ∧ (0 ≤ s2 ∧ s2 < 18446744073709551616) ∧ (-9223372036854775808 ≤ fl ∧ fl < 9223372036854775808) ∧ (-9223372036854775808 ≤ dir ∧ dir < 9223372036854775808) ∧ True) := by
  unfold C_PlanNone at h_; dsimp only at h_; split at h_
  · exact ⟨_, _, _, _, _, rfl, h_⟩
  · exact h_.elim
theorem PlanNone_mk {s0 : Int} {s1 : Int} {s2 : Int} {fl : Int} {dir : Int} (h_ : (0 ≤ s0 ∧ s0 < 18446744073709551616) ∧ (0 ≤ s1 ∧ s1 < 18446744073709551616) ∧ (0 ≤ s2 ∧ s2 < 18446744073709551616) ∧ (-9223372036854775808 ≤ fl ∧ fl < 9223372036854775808) ∧ (-9223372036854775808 ≤ dir ∧ dir < 9223372036854775808) ∧ True) : C_PlanNone.pre [.i s0, .i s1, .i s2, .i fl, .i dir] := h_
theorem PlanNone_res {s0 : Int} {s1 : Int} {s2 : Int} {fl : Int} {dir : Int} {rs_ : List Leaf} (h_ : rs_ = C_PlanNone.fn [.i s0, .i s1, .i s2, .i fl, .i dir]) : ∃ (q0 : Bool), q0 = (true) ∧ rs_ = [.b q0] := ⟨_, rfl, h_⟩
def phi_PlanNone : Fm := (.call 35 [] [] 5 (.and (.imp (.v 5) .false (.ret [(.b (.t .false))])) (.imp (.v 5) .true (.and (.imp (.ite (.ite (.ite (.le (.i 0) (.v 3)) (.lt (.v 3) (.i 64)) (.t .false)) (.le (.i (Int.negSucc 0)) (.v 4)) (.t .false)) (.le (.v 4) (.i 1)) (.t .false)) .true (.ret [(.b (.v 5))])) (.imp (.ite (.ite (.ite (.le (.i 0) (.v 3)) (.lt (.v 3) (.i 64)) (.t .false)) (.le (.i (Int.negSucc 0)) (.v 4)) (.t .false)) (.le (.v 4) (.i 1)) (.t .false)) .false (.call 36 [] [(.i (.v 0)), (.i (.v 1)), (.i (.v 2)), (.i (.v 3)), (.i (.v 4))] 6 (.ret [(.b (.ite (.ite (.not (.v 6)) (.eq (.v 7) (.i 0)) (.t .false)) (.eq (.v 8) (.i 0)) (.t .false)))])))))))
def tbl_PlanNone : List (Nat × Ctr) := [(35, C_first15), (36, C_planat)]
theorem vc_PlanNone : vcg Tryd.prog (sigT tbl_PlanNone) [] Tryd.f7 C_PlanNone.params C_PlanNone.res = some phi_PlanNone := by kernel_rfl

end Go.Proofs.YtppnpmpocnpgaaaDoor
