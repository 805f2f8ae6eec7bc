import Derived.Test.YtdbhdpljnplolaaF
namespace Go.Proofs.Ytdbhdpljnplolaa
open Go.Vg
set_option linter.unusedVariables false
set_option linter.unusedSimpArgs false
def C_DoorCounts : Ctr := ⟨[.one (.int .i64), .one (.int .i64), .one (.int .i64)], [.one (.bool)],
  fun | [.i dwell, .i a, .i b] => (-9223372036854775808 ≤ dwell ∧ dwell < 9223372036854775808) ∧ (-9223372036854775808 ≤ a ∧ a < 9223372036854775808) ∧ (-9223372036854775808 ≤ b ∧ b < 9223372036854775808) ∧ True | _ => False,
  fun | [.i _, .i _, .i _] => [.b (true)] | _ => []⟩
theorem DoorCounts_pre {ls : List Leaf} (h_ : C_DoorCounts.pre ls) : ∃ (dwell : Int) (a : Int) (b : Int), ls = [.i dwell, .i a, .i b] ∧ ((-9223372036854775808 ≤ dwell ∧ dwell < 9223372036854775808) ∧ (-9223372036854775808 ≤ a ∧ a < 9223372036854775808) ∧ (-9223372036854775808 ≤ b ∧ b < 9223372036854775808) ∧ True) := by
  unfold C_DoorCounts at h_; dsimp only at h_; split at h_
  · exact ⟨_, _, _, rfl, h_⟩
  · exact h_.elim
theorem DoorCounts_mk {dwell : Int} {a : Int} {b : Int} (h_ : (-9223372036854775808 ≤ dwell ∧ dwell < 9223372036854775808) ∧ (-9223372036854775808 ≤ a ∧ a < 9223372036854775808) ∧ (-9223372036854775808 ≤ b ∧ b < 9223372036854775808) ∧ True) : C_DoorCounts.pre [.i dwell, .i a, .i b] := h_
theorem DoorCounts_res {dwell : Int} {a : Int} {b : Int} {rs_ : List Leaf} (h_ : rs_ = C_DoorCounts.fn [.i dwell, .i a, .i b]) : ∃ (q0 : Bool), q0 = (true) ∧ rs_ = [.b q0] := ⟨_, rfl, h_⟩
def inv_DoorCounts_9 (r4 : Int) (i : Int) (l : Int) (h : Int) : Prop := 0 ≤ i ∧ i ≤ r4 ∧ l = r4 + 1 - i ∧ h = 0
def meas_DoorCounts_9 (r4 : Int) (i : Int) (l : Int) (h : Int) : Nat := (r4 - i).toNat
def inv_DoorCounts_16 (r5 : Int) (r6 : Int) (i : Int) (l : Int) (h : Int) : Prop := 1 ≤ i ∧ i ≤ r5 + r6 + 1 ∧ l = 1 ∧ h = i - 1
def meas_DoorCounts_16 (r5 : Int) (r6 : Int) (i : Int) (l : Int) (h : Int) : Nat := (r5 + r6 + 1 - i).toNat
def phi_DoorCounts : Fm := (.call 17 [] [] 3 (.and (.imp (.v 3) .false (.ret [(.b (.t .false))])) (.imp (.v 3) .true (.call 16 [] [(.i (.v 0)), (.i (.i 8))] 4 (.call 16 [] [(.i (.v 1)), (.i (.i 20))] 5 (.call 16 [] [(.i (.v 2)), (.i (.i 20))] 6 (.call 18 [] [(.i (.wrap .i64 (.add (.v 4) (.i 1))))] 7 (.loop 9 9 [4] [(.i (.i 0)), (.i (.v 7)), (.i (.v 8))] [.false, .false, .false] (.and (.imp (.lt (.v 9) (.wrap .i64 (.sub (.wrap .i64 (.add (.v 4) (.i 1))) (.i 1)))) .true (.call 19 [] [(.i (.v 10)), (.i (.v 11)), (.b (.t .true))] 12 (.back 9 9 12 [4] [(.i (.wrap .i64 (.add (.v 9) (.i 1)))), (.i (.v 12)), (.i (.v 13))]))) (.imp (.lt (.v 9) (.wrap .i64 (.sub (.wrap .i64 (.add (.v 4) (.i 1))) (.i 1)))) .false (.and (.imp (.ite (.not (.eq (.v 11) (.i 0))) (.t .true) (.not (.eq (.v 10) (.i 1)))) .true (.ret [(.b (.t .false))])) (.imp (.ite (.not (.eq (.v 11) (.i 0))) (.t .true) (.not (.eq (.v 10) (.i 1)))) .false (.loop 16 12 [5, 6] [(.i (.i 1)), (.i (.v 10)), (.i (.v 11))] [.false, .false, .false] (.and (.imp (.le (.v 12) (.wrap .i64 (.add (.v 5) (.v 6)))) .true (.call 19 [] [(.i (.v 13)), (.i (.v 14)), (.b (.t .true))] 15 (.and (.imp (.ite (.ite (.v 17) (.t .true) (.not (.eq (.v 16) (.v 12)))) (.t .true) (.not (.eq (.v 15) (.i 1)))) .true (.ret [(.b (.t .false))])) (.imp (.ite (.ite (.v 17) (.t .true) (.not (.eq (.v 16) (.v 12)))) (.t .true) (.not (.eq (.v 15) (.i 1)))) .false (.back 16 12 15 [5, 6] [(.i (.wrap .i64 (.add (.v 12) (.i 1)))), (.i (.v 15)), (.i (.v 16))]))))) (.imp (.le (.v 12) (.wrap .i64 (.add (.v 5) (.v 6)))) .false (.call 19 [] [(.i (.v 13)), (.i (.v 14)), (.b (.t .false))] 15 (.call 20 [((.ite (.ite (.ite (.v 3) (.v 17) (.t .false)) (.eq (.v 16) (.i 0)) (.t .false)) (.eq (.v 15) (.i 0)) (.t .false)), .true)] [(.i (.v 15)), (.i (.v 16)), (.i (.wrap .i64 (.add (.v 4) (.i 1))))] 18 (.ret [(.b (.ite (.ite (.ite (.ite (.v 3) (.v 17) (.t .false)) (.eq (.v 16) (.i 0)) (.t .false)) (.eq (.v 15) (.i 0)) (.t .false)) (.not (.v 18)) (.t .false)))]))))))))))))))))))
def tbl_DoorCounts : List (Nat × Ctr) := [(16, C_number), (17, C_first13), (18, C_dopen), (19, C_dtick), (20, C_dstuck)]
def inv_DoorCounts : List Leaf → Nat → List Leaf → Prop := fun _ key xs => match key, xs with
  | 9, [.i r4, .i i, .i l, .i h] => inv_DoorCounts_9 r4 i l h
  | 16, [.i r5, .i r6, .i i, .i l, .i h] => inv_DoorCounts_16 r5 r6 i l h
  | _, _ => False
def meas_DoorCounts : List Leaf → Nat → List Leaf → Nat := fun _ key xs => match key, xs with
  | 9, [.i r4, .i i, .i l, .i h] => meas_DoorCounts_9 r4 i l h
  | 16, [.i r5, .i r6, .i i, .i l, .i h] => meas_DoorCounts_16 r5 r6 i l h
  | _, _ => 0
theorem vc_DoorCounts : vcg Try.prog (sigT tbl_DoorCounts) [⟨9, [10, 11, 29, 30, 31, 32, 33, 34, 35, 36, 37, 38, 39, 40], [9], [(0, 0), (0, 1)], [4]⟩, ⟨16, [6, 13, 14, 49, 50, 51, 52, 53, 54, 55, 56, 57, 58, 59, 60, 61, 62, 63, 64, 65, 66, 67, 68, 69, 70, 71, 72, 73], [12], [(0, 0), (0, 1)], [5, 6]⟩] Try.f4 C_DoorCounts.params C_DoorCounts.res = some phi_DoorCounts := by kernel_rfl

end Go.Proofs.Ytdbhdpljnplolaa
