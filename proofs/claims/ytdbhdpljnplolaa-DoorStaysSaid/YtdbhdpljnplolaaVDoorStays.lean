import Derived.Test.YtdbhdpljnplolaaF
namespace Go.Proofs.Ytdbhdpljnplolaa
open Go.Vg
set_option linter.unusedVariables false
set_option linter.unusedSimpArgs false
def C_DoorStays : Ctr := ⟨[.one (.int .i64), .one (.int .i64)], [.one (.bool)],
  fun | [.i dwell, .i held] => (-9223372036854775808 ≤ dwell ∧ dwell < 9223372036854775808) ∧ (-9223372036854775808 ≤ held ∧ held < 9223372036854775808) ∧ True | _ => False,
  fun | [.i _, .i _] => [.b (true)] | _ => []⟩
theorem DoorStays_pre {ls : List Leaf} (h_ : C_DoorStays.pre ls) : ∃ (dwell : Int) (held : Int), ls = [.i dwell, .i held] ∧ ((-9223372036854775808 ≤ dwell ∧ dwell < 9223372036854775808) ∧ (-9223372036854775808 ≤ held ∧ held < 9223372036854775808) ∧ True) := by
  unfold C_DoorStays at h_; dsimp only at h_; split at h_
  · exact ⟨_, _, rfl, h_⟩
  · exact h_.elim
theorem DoorStays_mk {dwell : Int} {held : Int} (h_ : (-9223372036854775808 ≤ dwell ∧ dwell < 9223372036854775808) ∧ (-9223372036854775808 ≤ held ∧ held < 9223372036854775808) ∧ True) : C_DoorStays.pre [.i dwell, .i held] := h_
theorem DoorStays_res {dwell : Int} {held : Int} {rs_ : List Leaf} (h_ : rs_ = C_DoorStays.fn [.i dwell, .i held]) : ∃ (q0 : Bool), q0 = (true) ∧ rs_ = [.b q0] := ⟨_, rfl, h_⟩
def inv_DoorStays_8 (r3 : Int) (i : Int) (l : Int) (h : Int) : Prop := 1 ≤ i ∧ i ≤ r3 + 1 ∧ l = r3 + 2 - i ∧ h = 0
def meas_DoorStays_8 (r3 : Int) (i : Int) (l : Int) (h : Int) : Nat := (r3 + 1 - i).toNat
def inv_DoorStays_15 (r4 : Int) (i : Int) (l : Int) (h : Int) : Prop := 1 ≤ i ∧ i ≤ r4 + 1 ∧ l = 1 ∧ h = i - 1
def meas_DoorStays_15 (r4 : Int) (i : Int) (l : Int) (h : Int) : Nat := (r4 + 1 - i).toNat
def phi_DoorStays : Fm := (.call 17 [] [] 2 (.and (.imp (.v 2) .false (.ret [(.b (.t .false))])) (.imp (.v 2) .true (.call 16 [] [(.i (.v 0)), (.i (.i 8))] 3 (.call 16 [] [(.i (.v 1)), (.i (.i 40))] 4 (.call 18 [] [(.i (.wrap .i64 (.add (.v 3) (.i 1))))] 5 (.loop 8 7 [3] [(.i (.i 1)), (.i (.v 5)), (.i (.v 6))] [.false, .false, .false] (.and (.imp (.lt (.v 7) (.wrap .i64 (.add (.v 3) (.i 1)))) .true (.call 19 [] [(.i (.v 8)), (.i (.v 9)), (.b (.eq (.rem (.v 7) (.i 2)) (.i 0)))] 10 (.call 23 [((.v 12), .false)] [(.i (.v 10)), (.i (.v 11))] 13 (.and (.imp (.ite (.v 12) (.t .true) (.not (.v 13))) .true (.ret [(.b (.t .false))])) (.imp (.ite (.v 12) (.t .true) (.not (.v 13))) .false (.back 8 7 10 [3] [(.i (.wrap .i64 (.add (.v 7) (.i 1)))), (.i (.v 10)), (.i (.v 11))])))))) (.imp (.lt (.v 7) (.wrap .i64 (.add (.v 3) (.i 1)))) .false (.loop 15 10 [4] [(.i (.i 1)), (.i (.v 8)), (.i (.v 9))] [.false, .false, .false] (.and (.imp (.le (.v 10) (.v 4)) .true (.call 19 [] [(.i (.v 11)), (.i (.v 12)), (.b (.t .true))] 13 (.call 23 [((.v 15), .false)] [(.i (.v 13)), (.i (.v 14))] 16 (.call 20 [((.ite (.v 15) (.t .true) (.not (.v 16))), .false)] [(.i (.v 13)), (.i (.v 14)), (.i (.wrap .i64 (.add (.v 3) (.i 1))))] 17 (.and (.imp (.ite (.ite (.v 15) (.t .true) (.not (.v 16))) (.t .true) (.not (.beq (.v 17) (.lt (.wrap .i64 (.mul (.i 3) (.wrap .i64 (.add (.v 3) (.i 1))))) (.v 10))))) .true (.ret [(.b (.t .false))])) (.imp (.ite (.ite (.v 15) (.t .true) (.not (.v 16))) (.t .true) (.not (.beq (.v 17) (.lt (.wrap .i64 (.mul (.i 3) (.wrap .i64 (.add (.v 3) (.i 1))))) (.v 10))))) .false (.back 15 10 13 [4] [(.i (.wrap .i64 (.add (.v 10) (.i 1)))), (.i (.v 13)), (.i (.v 14))]))))))) (.imp (.le (.v 10) (.v 4)) .false (.call 19 [] [(.i (.v 11)), (.i (.v 12)), (.b (.t .false))] 13 (.call 19 [] [(.i (.v 13)), (.i (.v 14)), (.b (.t .false))] 16 (.call 23 [((.ite (.v 2) (.v 15) (.t .false)), .true)] [(.i (.v 13)), (.i (.v 14))] 19 (.ret [(.b (.ite (.ite (.ite (.ite (.v 2) (.v 15) (.t .false)) (.not (.v 19)) (.t .false)) (.not (.v 18)) (.t .false)) (.eq (.v 14) (.i 0)) (.t .false)))]))))))))))))))))
def tbl_DoorStays : List (Nat × Ctr) := [(16, C_number), (17, C_first13), (18, C_dopen), (19, C_dtick), (20, C_dstuck), (23, C_dis)]
def inv_DoorStays : List Leaf → Nat → List Leaf → Prop := fun _ key xs => match key, xs with
  | 8, [.i r3, .i i, .i l, .i h] => inv_DoorStays_8 r3 i l h
  | 15, [.i r4, .i i, .i l, .i h] => inv_DoorStays_15 r4 i l h
  | _, _ => False
def meas_DoorStays : List Leaf → Nat → List Leaf → Nat := fun _ key xs => match key, xs with
  | 8, [.i r3, .i i, .i l, .i h] => meas_DoorStays_8 r3 i l h
  | 15, [.i r4, .i i, .i l, .i h] => meas_DoorStays_15 r4 i l h
  | _, _ => 0
theorem vc_DoorStays : vcg Try.prog (sigT tbl_DoorStays) [⟨8, [4, 8, 9, 27, 28, 29, 30, 31, 32, 33, 34, 35, 36, 37, 38, 39, 40, 41, 42, 43, 44, 45, 46], [7], [(0, 0), (0, 1)], [3]⟩, ⟨15, [4, 11, 12, 47, 48, 49, 50, 51, 52, 53, 54, 55, 56, 57, 58, 59, 60, 61, 62, 63, 64, 65, 66, 67, 68, 69, 70, 71, 72, 73], [10], [(0, 0), (0, 1)], [4]⟩] Try.f6 C_DoorStays.params C_DoorStays.res = some phi_DoorStays := by kernel_rfl

end Go.Proofs.Ytdbhdpljnplolaa
