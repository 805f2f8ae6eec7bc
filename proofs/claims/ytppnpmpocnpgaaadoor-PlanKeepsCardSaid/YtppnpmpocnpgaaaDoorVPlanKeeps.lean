import Derived.Test.YtppnpmpocnpgaaaDoorF
namespace Go.Proofs.YtppnpmpocnpgaaaDoor
open Go.Vg
set_option linter.unusedVariables false
set_option linter.unusedSimpArgs false
open Go

def C_PlanKeeps : Ctr := ⟨[.agg [.int .u64, .int .u64, .int .u64], .one (.int .i64), .one (.int .i64)], [.one (.bool)],
  fun | [.i s0, .i s1, .i s2, .i fl, .i dir] => (0 ≤ s0 ∧ s0 < 18446744073709551616) ∧ (0 ≤ s1 ∧ s1 < 18446744073709551616) ∧ (0 ≤ s2 ∧ s2 < 18446744073709551616) ∧ (-9223372036854775808 ≤ fl ∧ fl < 9223372036854775808) ∧ (-9223372036854775808 ≤ dir ∧ dir < 9223372036854775808) ∧ True | _ => False,
  fun | [.i _, .i _, .i _, .i _, .i _] => [.b (true)] | _ => []⟩
theorem PlanKeeps_pre {ls : List Leaf} (h_ : C_PlanKeeps.pre ls) : ∃ (s0 : Int) (s1 : Int) (s2 : Int) (fl : Int) (dir : Int), ls = [.i s0, .i s1, .i s2, .i fl, .i dir] ∧ ((0 ≤ s0 ∧ s0 < 18446744073709551616) ∧ (0 ≤ s1 ∧ s1 < 18446744073709551616) ∧ (0 ≤ s2 ∧ s2 < 18446744073709551616) ∧ (-9223372036854775808 ≤ fl ∧ fl < 9223372036854775808) ∧ (-9223372036854775808 ≤ dir ∧ dir < 9223372036854775808) ∧ True) := by
  unfold C_PlanKeeps at h_; dsimp only at h_; split at h_
  · exact ⟨_, _, _, _, _, rfl, h_⟩
  · exact h_.elim
theorem PlanKeeps_mk {s0 : Int} {s1 : Int} {s2 : Int} {fl : Int} {dir : Int} (h_ : (0 ≤ s0 ∧ s0 < 18446744073709551616) ∧ (0 ≤ s1 ∧ s1 < 18446744073709551616) ∧ (0 ≤ s2 ∧ s2 < 18446744073709551616) ∧ (-9223372036854775808 ≤ fl ∧ fl < 9223372036854775808) ∧ (-9223372036854775808 ≤ dir ∧ dir < 9223372036854775808) ∧ True) : C_PlanKeeps.pre [.i s0, .i s1, .i s2, .i fl, .i dir] := h_
theorem PlanKeeps_res {s0 : Int} {s1 : Int} {s2 : Int} {fl : Int} {dir : Int} {rs_ : List Leaf} (h_ : rs_ = C_PlanKeeps.fn [.i s0, .i s1, .i s2, .i fl, .i dir]) : ∃ (q0 : Bool), q0 = (true) ∧ rs_ = [.b q0] := ⟨_, rfl, h_⟩
def phi_PlanKeeps : Fm := (.call 35 [] [] 5 (.and (.imp (.v 5) .false (.ret [(.b (.t .false))])) (.imp (.v 5) .true (.call 13 [] [(.i (.v 3)), (.i (.i 64))] 6 (.call 13 [] [(.i (.v 4)), (.i (.i 3))] 7 (.call 36 [] [(.i (.v 0)), (.i (.v 1)), (.i (.v 2)), (.i (.v 6)), (.i (.wrap .i64 (.sub (.v 7) (.i 1))))] 8 (.call 31 [((.not (.eq (.wrap .i64 (.sub (.v 7) (.i 1))) (.i 0))), .true)] [(.i (.v 0)), (.i (.v 1)), (.i (.v 2)), (.i (.v 6)), (.i (.wrap .i64 (.sub (.v 7) (.i 1))))] 11 (.and (.imp (.ite (.ite (.not (.eq (.wrap .i64 (.sub (.v 7) (.i 1))) (.i 0))) (.v 11) (.t .false)) (.not (.eq (.v 9) (.wrap .i64 (.sub (.v 7) (.i 1))))) (.t .false)) .true (.ret [(.b (.t .false))])) (.imp (.ite (.ite (.not (.eq (.wrap .i64 (.sub (.v 7) (.i 1))) (.i 0))) (.v 11) (.t .false)) (.not (.eq (.v 9) (.wrap .i64 (.sub (.v 7) (.i 1))))) (.t .false)) .false (.call 31 [((.ite (.v 8) (.t .true) (.not (.eq (.v 10) (.v 9)))), .false), ((.not (.eq (.v 10) (.i 0))), .true)] [(.i (.v 0)), (.i (.v 1)), (.i (.v 2)), (.i (.v 6)), (.i (.v 10))] 12 (.and (.imp (.ite (.not (.eq (.v 10) (.i 0))) (.ite (.ite (.v 8) (.t .true) (.not (.eq (.v 10) (.v 9)))) (.t .true) (.not (.v 12))) (.t .false)) .true (.ret [(.b (.t .false))])) (.imp (.ite (.not (.eq (.v 10) (.i 0))) (.ite (.ite (.v 8) (.t .true) (.not (.eq (.v 10) (.v 9)))) (.t .true) (.not (.v 12))) (.t .false)) .false (.call 16 [] [(.i (.v 0)), (.i (.v 1)), (.i (.v 2)), (.i (.v 6))] 13 (.call 17 [((.not (.eq (.v 9) (.i 0))), .true), ((.v 13), .false)] [(.i (.v 0)), (.i (.v 1)), (.i (.v 2)), (.i (.v 6)), (.i (.v 9))] 14 (.and (.imp (.beq (.v 8) (.ite (.v 13) (.t .true) (.ite (.not (.eq (.v 9) (.i 0))) (.v 14) (.t .false)))) .false (.ret [(.b (.t .false))])) (.imp (.beq (.v 8) (.ite (.v 13) (.t .true) (.ite (.not (.eq (.v 9) (.i 0))) (.v 14) (.t .false)))) .true (.call 14 [] [(.i (.v 0)), (.i (.v 1)), (.i (.v 2))] 15 (.ret [(.b (.ite (.beq (.ite (.v 8) (.t .true) (.not (.eq (.v 10) (.i 0)))) (.not (.eq (.len 15) (.i 0)))) (.ite (.not (.eq (.len 15) (.i 0))) (.t .true) (.eq (.v 9) (.i 0))) (.t .false)))]))))))))))))))))))
def tbl_PlanKeeps : List (Nat × Ctr) := [(13, C_number), (14, C_floors), (16, C_at), (17, C_hall), (31, C_toward), (35, C_first15), (36, C_planat)]
theorem vc_PlanKeeps : vcg Tryd.prog (sigT tbl_PlanKeeps) [] Tryd.f10 C_PlanKeeps.params C_PlanKeeps.res = some phi_PlanKeeps := by kernel_rfl

end Go.Proofs.YtppnpmpocnpgaaaDoor
