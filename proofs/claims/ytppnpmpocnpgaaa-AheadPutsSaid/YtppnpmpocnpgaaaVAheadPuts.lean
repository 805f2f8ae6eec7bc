import Derived.Test.YtppnpmpocnpgaaaF
namespace Go.Proofs.Ytppnpmpocnpgaaa
open Go.Vg
set_option linter.unusedVariables false
set_option linter.unusedSimpArgs false
def C_AheadPuts : Ctr := ⟨[.agg [.int .u64, .int .u64, .int .u64], .agg [.int .i64, .int .i64]], [.one (.bool)],
  fun | [.i s0, .i s1, .i s2, .i fl, .i dir] => (0 ≤ s0 ∧ s0 < 18446744073709551616) ∧ (0 ≤ s1 ∧ s1 < 18446744073709551616) ∧ (0 ≤ s2 ∧ s2 < 18446744073709551616) ∧ (-9223372036854775808 ≤ fl ∧ fl < 9223372036854775808) ∧ (-9223372036854775808 ≤ dir ∧ dir < 9223372036854775808) ∧ True | _ => False,
  fun | [.i _, .i _, .i _, .i _, .i _] => [.b (true)] | _ => []⟩
theorem AheadPuts_pre {ls : List Leaf} (h_ : C_AheadPuts.pre ls) : ∃ (s0 : Int) (s1 : Int) (s2 : Int) (fl : Int) (dir : Int), ls = [.i s0, .i s1, .i s2, .i fl, .i dir] ∧ ((0 ≤ s0 ∧ s0 < 18446744073709551616) ∧ (0 ≤ s1 ∧ s1 < 18446744073709551616) ∧ (0 ≤ s2 ∧ s2 < 18446744073709551616) ∧ (-9223372036854775808 ≤ fl ∧ fl < 9223372036854775808) ∧ (-9223372036854775808 ≤ dir ∧ dir < 9223372036854775808) ∧ True) := by
  unfold C_AheadPuts at h_; dsimp only at h_; split at h_
  · exact ⟨_, _, _, _, _, rfl, h_⟩
  · exact h_.elim
theorem AheadPuts_mk {s0 : Int} {s1 : Int} {s2 : Int} {fl : Int} {dir : Int} (h_ : (0 ≤ s0 ∧ s0 < 18446744073709551616) ∧ (0 ≤ s1 ∧ s1 < 18446744073709551616) ∧ (0 ≤ s2 ∧ s2 < 18446744073709551616) ∧ (-9223372036854775808 ≤ fl ∧ fl < 9223372036854775808) ∧ (-9223372036854775808 ≤ dir ∧ dir < 9223372036854775808) ∧ True) : C_AheadPuts.pre [.i s0, .i s1, .i s2, .i fl, .i dir] := h_
theorem AheadPuts_res {s0 : Int} {s1 : Int} {s2 : Int} {fl : Int} {dir : Int} {rs_ : List Leaf} (h_ : rs_ = C_AheadPuts.fn [.i s0, .i s1, .i s2, .i fl, .i dir]) : ∃ (q0 : Bool), q0 = (true) ∧ rs_ = [.b q0] := ⟨_, rfl, h_⟩
def inv_AheadPuts_9 (f : Int) : Prop := 0 ≤ f ∧ f ≤ 64
def meas_AheadPuts_9 (f : Int) : Nat := (64 - f).toNat
def inv_AheadPuts_12 (d : Int) : Prop := -1 ≤ d ∧ d ≤ 2
def meas_AheadPuts_12 (d : Int) : Nat := (2 - d).toNat
def phi_AheadPuts : Fm := (.call 4 [] [] 5 (.and (.imp (.v 5) .false (.ret [(.b (.t .false))])) (.imp (.v 5) .true (.call 5 [] [(.i (.v 0)), (.i (.v 1)), (.i (.v 2)), (.i (.v 3)), (.i (.v 4))] 6 (.call 6 [] [(.i (.v 6)), (.i (.v 7)), (.i (.v 8)), (.i (.v 3)), (.i (.v 4))] 9 (.and (.imp (.beq (.v 9) (.ite (.ite (.le (.i 0) (.v 3)) (.lt (.v 3) (.i 64)) (.t .false)) (.ite (.eq (.v 4) (.i 1)) (.t .true) (.eq (.v 4) (.i (Int.negSucc 0)))) (.t .false))) .false (.ret [(.b (.t .false))])) (.imp (.beq (.v 9) (.ite (.ite (.le (.i 0) (.v 3)) (.lt (.v 3) (.i 64)) (.t .false)) (.ite (.eq (.v 4) (.i 1)) (.t .true) (.eq (.v 4) (.i (Int.negSucc 0)))) (.t .false))) .true (.loop 9 10 [] [(.i (.i 0))] [.false] (.and (.imp (.lt (.v 10) (.i 64)) .true (.loop 12 11 [] [(.i (.i (Int.negSucc 0)))] [.false] (.and (.imp (.le (.v 11) (.i 1)) .true (.call 6 [((.ite (.not (.eq (.v 10) (.v 3))) (.t .true) (.not (.eq (.v 11) (.v 4)))), .true)] [(.i (.v 6)), (.i (.v 7)), (.i (.v 8)), (.i (.v 10)), (.i (.v 11))] 12 (.call 6 [((.ite (.not (.eq (.v 10) (.v 3))) (.t .true) (.not (.eq (.v 11) (.v 4)))), .true)] [(.i (.v 0)), (.i (.v 1)), (.i (.v 2)), (.i (.v 10)), (.i (.v 11))] 13 (.and (.imp (.ite (.ite (.not (.eq (.v 10) (.v 3))) (.t .true) (.not (.eq (.v 11) (.v 4)))) (.not (.beq (.v 12) (.v 13))) (.t .false)) .true (.ret [(.b (.t .false))])) (.imp (.ite (.ite (.not (.eq (.v 10) (.v 3))) (.t .true) (.not (.eq (.v 11) (.v 4)))) (.not (.beq (.v 12) (.v 13))) (.t .false)) .false (.back 12 11 12 [] [(.i (.wrap .i64 (.add (.v 11) (.i 1))))])))))) (.imp (.le (.v 11) (.i 1)) .false (.call 7 [] [(.i (.v 6)), (.i (.v 7)), (.i (.v 8)), (.i (.v 10))] 12 (.call 7 [] [(.i (.v 0)), (.i (.v 1)), (.i (.v 2)), (.i (.v 10))] 13 (.and (.imp (.beq (.v 12) (.v 13)) .false (.ret [(.b (.t .false))])) (.imp (.beq (.v 12) (.v 13)) .true (.back 9 10 11 [] [(.i (.wrap .i64 (.add (.v 10) (.i 1))))]))))))))) (.imp (.lt (.v 10) (.i 64)) .false (.call 5 [] [(.i (.v 6)), (.i (.v 7)), (.i (.v 8)), (.i (.v 3)), (.i (.v 4))] 11 (.call 6 [((.ite (.ite (.ite (.v 5) (.eq (.v 12) (.v 7)) (.t .false)) (.eq (.v 13) (.v 8)) (.t .false)) (.eq (.v 11) (.v 6)) (.t .false)), .true)] [(.i (.v 0)), (.i (.v 1)), (.i (.v 2)), (.i (.i 3)), (.i (.i 0))] 14 (.ret [(.b (.ite (.ite (.ite (.ite (.v 5) (.eq (.v 12) (.v 7)) (.t .false)) (.eq (.v 13) (.v 8)) (.t .false)) (.eq (.v 11) (.v 6)) (.t .false)) (.not (.v 14)) (.t .false)))])))))))))))))
def tbl_AheadPuts : List (Nat × Ctr) := [(4, C_first14), (5, C_put), (6, C_hall), (7, C_at)]
def inv_AheadPuts : List Leaf → Nat → List Leaf → Prop := fun _ key xs => match key, xs with
  | 9, [.i f] => inv_AheadPuts_9 f
  | 12, [.i d] => inv_AheadPuts_12 d
  | _, _ => False
def meas_AheadPuts : List Leaf → Nat → List Leaf → Nat := fun _ key xs => match key, xs with
  | 9, [.i f] => meas_AheadPuts_9 f
  | 12, [.i d] => meas_AheadPuts_12 d
  | _, _ => 0
theorem vc_AheadPuts : vcg Try.prog (sigT tbl_AheadPuts) [⟨9, [4, 9, 43, 44, 45, 46, 47, 48, 49, 50, 51, 52, 53, 54, 55, 56, 57, 58, 59, 60, 61, 62, 63, 64, 65, 66, 67, 68, 69, 70, 71, 72, 73, 74, 75, 76, 77, 78], [8], [], []⟩, ⟨12, [4, 47, 48, 49, 50, 51, 52, 53, 54, 55, 56, 57, 58, 59, 60, 61, 62, 63, 64, 65, 66, 67, 68, 69, 70, 71], [9], [], []⟩] Try.f3 C_AheadPuts.params C_AheadPuts.res = some phi_AheadPuts := by kernel_rfl

end Go.Proofs.Ytppnpmpocnpgaaa
