import Derived.Test.YtppnpmpocnpgaaaDoorF
namespace Go.Proofs.YtppnpmpocnpgaaaDoor
open Go.Vg
set_option linter.unusedVariables false
set_option linter.unusedSimpArgs false
def C_PlanOne : Ctr := ⟨[.one (.int .i64), .one (.int .i64), .one (.int .i64), .one (.int .i64)], [.one (.bool)],
  fun | [.i frm, .i to, .i dir, .i way] => (-9223372036854775808 ≤ frm ∧ frm < 9223372036854775808) ∧ (-9223372036854775808 ≤ to ∧ to < 9223372036854775808) ∧ (-9223372036854775808 ≤ dir ∧ dir < 9223372036854775808) ∧ (-9223372036854775808 ≤ way ∧ way < 9223372036854775808) ∧ True | _ => False,
  fun | [.i _, .i _, .i _, .i _] => [.b (true)] | _ => []⟩
theorem PlanOne_pre {ls : List Leaf} (h_ : C_PlanOne.pre ls) : ∃ (frm : Int) (to : Int) (dir : Int) (way : Int), ls = [.i frm, .i to, .i dir, .i way] ∧ ((-9223372036854775808 ≤ frm ∧ frm < 9223372036854775808) ∧ (-9223372036854775808 ≤ to ∧ to < 9223372036854775808) ∧ (-9223372036854775808 ≤ dir ∧ dir < 9223372036854775808) ∧ (-9223372036854775808 ≤ way ∧ way < 9223372036854775808) ∧ True) := by
  unfold C_PlanOne at h_; dsimp only at h_; split at h_
  · exact ⟨_, _, _, _, rfl, h_⟩
  · exact h_.elim
theorem PlanOne_mk {frm : Int} {to : Int} {dir : Int} {way : Int} (h_ : (-9223372036854775808 ≤ frm ∧ frm < 9223372036854775808) ∧ (-9223372036854775808 ≤ to ∧ to < 9223372036854775808) ∧ (-9223372036854775808 ≤ dir ∧ dir < 9223372036854775808) ∧ (-9223372036854775808 ≤ way ∧ way < 9223372036854775808) ∧ True) : C_PlanOne.pre [.i frm, .i to, .i dir, .i way] := h_
theorem PlanOne_res {frm : Int} {to : Int} {dir : Int} {way : Int} {rs_ : List Leaf} (h_ : rs_ = C_PlanOne.fn [.i frm, .i to, .i dir, .i way]) : ∃ (q0 : Bool), q0 = (true) ∧ rs_ = [.b q0] := ⟨_, rfl, h_⟩
def phi_PlanOne : Fm := (.call 35 [] [] 4 (.and (.imp (.v 4) .false (.ret [(.b (.t .false))])) (.imp (.v 4) .true (.call 13 [] [(.i (.v 0)), (.i (.i 64))] 5 (.call 13 [] [(.i (.v 1)), (.i (.i 64))] 6 (.call 13 [] [(.i (.v 3)), (.i (.i 2))] 7 (.call 13 [] [(.i (.v 2)), (.i (.i 3))] 8 (.call 25 [] [(.i (.i 0)), (.i (.i 0)), (.i (.i 0)), (.i (.v 6)), (.i (.wrap .i64 (.sub (.wrap .i64 (.mul (.i 2) (.v 7))) (.i 1))))] 9 (.call 36 [] [(.i (.v 9)), (.i (.v 10)), (.i (.v 11)), (.i (.v 5)), (.i (.wrap .i64 (.sub (.v 8) (.i 1))))] 12 (.and (.imp (.eq (.v 5) (.v 6)) .true (.ret [(.b (.ite (.ite (.v 12) (.eq (.v 13) (.wrap .i64 (.sub (.wrap .i64 (.mul (.i 2) (.v 7))) (.i 1)))) (.t .false)) (.eq (.v 14) (.i 0)) (.t .false)))])) (.imp (.eq (.v 5) (.v 6)) .false (.and (.imp (.lt (.v 6) (.v 5)) .true (.ret [(.b (.ite (.ite (.not (.v 12)) (.eq (.v 13) (.i (Int.negSucc 0))) (.t .false)) (.eq (.v 14) (.i (Int.negSucc 0))) (.t .false)))])) (.imp (.lt (.v 6) (.v 5)) .false (.ret [(.b (.ite (.ite (.not (.v 12)) (.eq (.v 13) (.i 1)) (.t .false)) (.eq (.v 14) (.i 1)) (.t .false)))]))))))))))))))
def tbl_PlanOne : List (Nat × Ctr) := [(13, C_number), (25, C_put), (35, C_first15), (36, C_planat)]
theorem vc_PlanOne : vcg Tryd.prog (sigT tbl_PlanOne) [] Tryd.f9 C_PlanOne.params C_PlanOne.res = some phi_PlanOne := by kernel_rfl

end Go.Proofs.YtppnpmpocnpgaaaDoor
