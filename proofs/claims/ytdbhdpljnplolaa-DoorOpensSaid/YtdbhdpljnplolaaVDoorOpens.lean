import Derived.Test.YtdbhdpljnplolaaF
namespace Go.Proofs.Ytdbhdpljnplolaa
open Go.Vg
set_option linter.unusedVariables false
set_option linter.unusedSimpArgs false
def C_DoorOpens : Ctr := ⟨[.one (.int .i64), .one (.int .i64)], [.one (.bool)],
  fun | [.i dwell, .i n] => (-9223372036854775808 ≤ dwell ∧ dwell < 9223372036854775808) ∧ (-9223372036854775808 ≤ n ∧ n < 9223372036854775808) ∧ True | _ => False,
  fun | [.i _, .i _] => [.b (true)] | _ => []⟩
theorem DoorOpens_pre {ls : List Leaf} (h_ : C_DoorOpens.pre ls) : ∃ (dwell : Int) (n : Int), ls = [.i dwell, .i n] ∧ ((-9223372036854775808 ≤ dwell ∧ dwell < 9223372036854775808) ∧ (-9223372036854775808 ≤ n ∧ n < 9223372036854775808) ∧ True) := by
  unfold C_DoorOpens at h_; dsimp only at h_; split at h_
  · exact ⟨_, _, rfl, h_⟩
  · exact h_.elim
theorem DoorOpens_mk {dwell : Int} {n : Int} (h_ : (-9223372036854775808 ≤ dwell ∧ dwell < 9223372036854775808) ∧ (-9223372036854775808 ≤ n ∧ n < 9223372036854775808) ∧ True) : C_DoorOpens.pre [.i dwell, .i n] := h_
theorem DoorOpens_res {dwell : Int} {n : Int} {rs_ : List Leaf} (h_ : rs_ = C_DoorOpens.fn [.i dwell, .i n]) : ∃ (q0 : Bool), q0 = (true) ∧ rs_ = [.b q0] := ⟨_, rfl, h_⟩
def inv_DoorOpens_10 (dwell : Int) (r7 : Int) (c : Int) (i : Int) (l : Int) (h : Int) : Prop := 0 ≤ i ∧ i ≤ r7 ∧ h = 0 ∧ l = max (openL dwell - i) 0 ∧ c = (if openL dwell ≤ i then 1 else 0)
def meas_DoorOpens_10 (dwell : Int) (r7 : Int) (c : Int) (i : Int) (l : Int) (h : Int) : Nat := (r7 - i).toNat
def phi_DoorOpens : Fm := (.call 17 [] [] 2 (.and (.imp (.v 2) .false (.ret [(.b (.t .false))])) (.imp (.v 2) .true (.call 18 [] [(.i (.v 0))] 3 (.call 23 [((.ite (.not (.eq (.v 3) (.ite (.lt (.i 8) (.ite (.lt (.v 0) (.i 1)) (.i 1) (.v 0))) (.i 8) (.ite (.lt (.v 0) (.i 1)) (.i 1) (.v 0))))) (.t .true) (.not (.eq (.v 4) (.i 0)))), .false)] [(.i (.v 3)), (.i (.v 4))] 5 (.call 20 [((.ite (.ite (.not (.eq (.v 3) (.ite (.lt (.i 8) (.ite (.lt (.v 0) (.i 1)) (.i 1) (.v 0))) (.i 8) (.ite (.lt (.v 0) (.i 1)) (.i 1) (.v 0))))) (.t .true) (.not (.eq (.v 4) (.i 0)))) (.t .true) (.not (.v 5))), .false)] [(.i (.v 3)), (.i (.v 4)), (.i (.i 8))] 6 (.and (.imp (.ite (.ite (.ite (.not (.eq (.v 3) (.ite (.lt (.i 8) (.ite (.lt (.v 0) (.i 1)) (.i 1) (.v 0))) (.i 8) (.ite (.lt (.v 0) (.i 1)) (.i 1) (.v 0))))) (.t .true) (.not (.eq (.v 4) (.i 0)))) (.t .true) (.not (.v 5))) (.t .true) (.v 6)) .true (.ret [(.b (.t .false))])) (.imp (.ite (.ite (.ite (.not (.eq (.v 3) (.ite (.lt (.i 8) (.ite (.lt (.v 0) (.i 1)) (.i 1) (.v 0))) (.i 8) (.ite (.lt (.v 0) (.i 1)) (.i 1) (.v 0))))) (.t .true) (.not (.eq (.v 4) (.i 0)))) (.t .true) (.not (.v 5))) (.t .true) (.v 6)) .false (.call 16 [] [(.i (.v 1)), (.i (.i 12))] 7 (.loop 10 8 [0, 7] [(.i (.i 0)), (.i (.i 0)), (.i (.v 3)), (.i (.v 4))] [.false, .false, .false, .false] (.and (.imp (.lt (.v 9) (.v 7)) .true (.call 19 [] [(.i (.v 10)), (.i (.v 11)), (.b (.t .false))] 12 (.and (.imp (.v 14) .true (.back 10 8 12 [0, 7] [(.i (.wrap .i64 (.add (.v 8) (.i 1)))), (.i (.wrap .i64 (.add (.v 9) (.i 1)))), (.i (.v 12)), (.i (.v 13))])) (.imp (.v 14) .false (.back 10 8 12 [0, 7] [(.i (.v 8)), (.i (.wrap .i64 (.add (.v 9) (.i 1)))), (.i (.v 12)), (.i (.v 13))]))))) (.imp (.lt (.v 9) (.v 7)) .false (.call 19 [] [(.i (.i 0)), (.i (.i 5)), (.b (.t .true))] 12 (.call 23 [((.ite (.v 2) (.le (.v 8) (.i 1)) (.t .false)), .true)] [(.i (.v 10)), (.i (.v 11))] 15 (.call 23 [((.ite (.ite (.ite (.v 2) (.le (.v 8) (.i 1)) (.t .false)) (.beq (.v 15) (.lt (.v 7) (.ite (.lt (.i 8) (.ite (.lt (.v 0) (.i 1)) (.i 1) (.v 0))) (.i 8) (.ite (.lt (.v 0) (.i 1)) (.i 1) (.v 0))))) (.t .false)) (.not (.v 14)) (.t .false)), .true)] [(.i (.v 12)), (.i (.v 13))] 16 (.ret [(.b (.ite (.ite (.ite (.ite (.ite (.v 2) (.le (.v 8) (.i 1)) (.t .false)) (.beq (.v 15) (.lt (.v 7) (.ite (.lt (.i 8) (.ite (.lt (.v 0) (.i 1)) (.i 1) (.v 0))) (.i 8) (.ite (.lt (.v 0) (.i 1)) (.i 1) (.v 0))))) (.t .false)) (.not (.v 14)) (.t .false)) (.not (.v 16)) (.t .false)) (.eq (.v 13) (.i 0)) (.t .false)))]))))))))))))))))
def tbl_DoorOpens : List (Nat × Ctr) := [(16, C_number), (17, C_first13), (18, C_dopen), (19, C_dtick), (20, C_dstuck), (23, C_dis)]
def inv_DoorOpens : List Leaf → Nat → List Leaf → Prop := fun _ key xs => match key, xs with
  | 10, [.i dwell, .i r7, .i c, .i i, .i l, .i h] => inv_DoorOpens_10 dwell r7 c i l h
  | _, _ => False
def meas_DoorOpens : List Leaf → Nat → List Leaf → Nat := fun _ key xs => match key, xs with
  | 10, [.i dwell, .i r7, .i c, .i i, .i l, .i h] => meas_DoorOpens_10 dwell r7 c i l h
  | _, _ => 0
theorem vc_DoorOpens : vcg Try.prog (sigT tbl_DoorOpens) [⟨10, [9, 10, 40, 41, 42, 43, 44, 45, 46, 47, 48, 49, 50, 51, 52, 53], [7, 8], [(0, 0), (0, 1)], [0, 7]⟩] Try.f7 C_DoorOpens.params C_DoorOpens.res = some phi_DoorOpens := by kernel_rfl

end Go.Proofs.Ytdbhdpljnplolaa
