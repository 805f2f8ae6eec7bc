import Derived.Test.YtppnpmpocnpgaaaDoorF
namespace Go.Proofs.YtppnpmpocnpgaaaDoor
open Go.Vg
set_option linter.unusedVariables false
set_option linter.unusedSimpArgs false
def C_PlanSays : Ctr := ⟨[.agg [.int .u64, .int .u64, .int .u64], .one (.int .i64), .one (.int .i64)], [.one (.bool)],
  fun | [.i s0, .i s1, .i s2, .i fl, .i dir] => (0 ≤ s0 ∧ s0 < 18446744073709551616) ∧ (0 ≤ s1 ∧ s1 < 18446744073709551616) ∧ (0 ≤ s2 ∧ s2 < 18446744073709551616) ∧ (-9223372036854775808 ≤ fl ∧ fl < 9223372036854775808) ∧ (-9223372036854775808 ≤ dir ∧ dir < 9223372036854775808) ∧ True | _ => False,
  fun | [.i _, .i _, .i _, .i _, .i _] => [.b (true)] | _ => []⟩
theorem PlanSays_pre {ls : List Leaf} (h_ : C_PlanSays.pre ls) : ∃ (s0 : Int) (s1 : Int) (s2 : Int) (fl : Int) (dir : Int), ls = [.i s0, .i s1, .i s2, .i fl, .i dir] ∧ ((0 ≤ s0 ∧ s0 < 18446744073709551616) ∧ (0 ≤ s1 ∧ s1 < 18446744073709551616) ∧ (0 ≤ s2 ∧ s2 < 18446744073709551616) ∧ (-9223372036854775808 ≤ fl ∧ fl < 9223372036854775808) ∧ (-9223372036854775808 ≤ dir ∧ dir < 9223372036854775808) ∧ True) := by
  unfold C_PlanSays at h_; dsimp only at h_; split at h_
  · exact ⟨_, _, _, _, _, rfl, h_⟩
  · exact h_.elim
theorem PlanSays_mk {s0 : Int} {s1 : Int} {s2 : Int} {fl : Int} {dir : Int} (h_ : (0 ≤ s0 ∧ s0 < 18446744073709551616) ∧ (0 ≤ s1 ∧ s1 < 18446744073709551616) ∧ (0 ≤ s2 ∧ s2 < 18446744073709551616) ∧ (-9223372036854775808 ≤ fl ∧ fl < 9223372036854775808) ∧ (-9223372036854775808 ≤ dir ∧ dir < 9223372036854775808) ∧ True) : C_PlanSays.pre [.i s0, .i s1, .i s2, .i fl, .i dir] := h_
theorem PlanSays_res {s0 : Int} {s1 : Int} {s2 : Int} {fl : Int} {dir : Int} {rs_ : List Leaf} (h_ : rs_ = C_PlanSays.fn [.i s0, .i s1, .i s2, .i fl, .i dir]) : ∃ (q0 : Bool), q0 = (true) ∧ rs_ = [.b q0] := ⟨_, rfl, h_⟩
def phi_PlanSays : Fm := (.call 35 [] [] 5 (.and (.imp (.v 5) .false (.ret [(.b (.t .false))])) (.imp (.v 5) .true (.call 36 [] [(.i (.v 0)), (.i (.v 1)), (.i (.v 2)), (.i (.v 3)), (.i (.v 4))] 6 (.call 37 [] [(.i (.v 0)), (.i (.v 1)), (.i (.v 2)), (.i (.v 3)), (.i (.v 4))] 9 (.ret [(.b (.ite (.ite (.beq (.v 6) (.v 9)) (.eq (.v 7) (.v 10)) (.t .false)) (.eq (.v 8) (.v 11)) (.t .false)))]))))))
def tbl_PlanSays : List (Nat × Ctr) := [(35, C_first15), (36, C_planat), (37, C_rplan)]
theorem vc_PlanSays : vcg Tryd.prog (sigT tbl_PlanSays) [] Tryd.f8 C_PlanSays.params C_PlanSays.res = some phi_PlanSays := by kernel_rfl

end Go.Proofs.YtppnpmpocnpgaaaDoor
