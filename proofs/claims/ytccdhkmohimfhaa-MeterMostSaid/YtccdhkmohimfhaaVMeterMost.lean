import Derived.Test.YtccdhkmohimfhaaF
namespace Go.Proofs.Ytccdhkmohimfhaa
open Go.Vg
set_option linter.unusedVariables false
set_option linter.unusedSimpArgs false
open Go

def C_MeterMost : Ctr := ⟨[.one (.lst [.int .i64])], [.one (.bool)],
  fun | [.l _] => True | _ => False,
  fun | [.l _] => [.b (true)] | _ => []⟩
theorem MeterMost_pre {ls : List Leaf} (h_ : C_MeterMost.pre ls) : ∃ (l : LV), ls = [.l l] := by
  unfold C_MeterMost at h_; dsimp only at h_; split at h_
  · exact ⟨_, rfl⟩
  · exact h_.elim
theorem MeterMost_res {l : LV} {rs_ : List Leaf} (h_ : rs_ = C_MeterMost.fn [.l l]) : ∃ (q0 : Bool), q0 = (true) ∧ rs_ = [.b q0] := ⟨_, rfl, h_⟩
def inv_MeterMost_8 (l : LV) (i : Int) (m : LV) : Prop := 0 ≤ i ∧ i ≤ (l.len : Int) ∧ okM m i ∧ psum m 12 = i
def meas_MeterMost_8 (l : LV) (i : Int) (m : LV) : Nat := ((l.len : Int) - i).toNat
def inv_MeterMost_15 (m : LV) (s : Int) (i : Int) : Prop := 1 ≤ i ∧ i ≤ 12 ∧ s = psum m i.toNat
def meas_MeterMost_15 (m : LV) (s : Int) (i : Int) : Nat := (12 - i).toNat
def phi_MeterMost : Fm := (.call 6 [] [] 1 (.and (.imp (.v 1) .false (.ret [(.b (.t .false))])) (.imp (.v 1) .true (.and (.imp (.lt (.i 60) (.len 0)) .true (.ret [(.b (.v 1))])) (.imp (.lt (.i 60) (.len 0)) .false (.lett (.c 1 .nilp [(.int .i64 (.i 0)), (.int .i64 (.i 0)), (.int .i64 (.i 0)), (.int .i64 (.i 0)), (.int .i64 (.i 0)), (.int .i64 (.i 0)), (.int .i64 (.i 0)), (.int .i64 (.i 0)), (.int .i64 (.i 0)), (.int .i64 (.i 0)), (.int .i64 (.i 0)), (.int .i64 (.i 0))]) 2 (.loop 8 3 [0] [(.i (.i 0)), (.l 2)] [.i, .l] (.and (.imp (.lt (.v 3) (.len 0)) .true (.ob [] (.le (.i 0) (.v 3)) (.call 7 [] [(.i (.gi 0 0 (.v 3))), (.i (.i 11))] 5 (.call 8 [] [(.o 4 (.ptr 0 0)), (.i (.wrap .i64 (.add (.v 5) (.i 1))))] 6 (.and (.imp (.v 7) .false (.ret [(.b (.t .false))])) (.imp (.v 7) .true (.back 8 3 5 [0] [(.i (.wrap .i64 (.add (.v 3) (.i 1)))), (.l 6)]))))))) (.imp (.lt (.v 3) (.len 0)) .false (.call 9 [] [(.o 4 (.ptr 0 0))] 5 (.loop 15 7 [4] [(.i (.i 0)), (.i (.i 1))] [.i, .i] (.and (.imp (.le (.v 8) (.i 11)) .true (.call 10 [] [(.o 4 (.ptr 0 0)), (.i (.v 8))] 9 (.call 10 [((.v 6), .true)] [(.o 4 (.ptr 0 0)), (.i (.v 5))] 10 (.call 10 [((.lt (.v 10) (.v 9)), .false), ((.v 6), .true)] [(.o 4 (.ptr 0 0)), (.i (.v 5))] 11 (.and (.imp (.ite (.v 6) (.ite (.lt (.v 10) (.v 9)) (.t .true) (.ite (.eq (.v 9) (.v 11)) (.lt (.v 8) (.v 5)) (.t .false))) (.t .false)) .true (.ret [(.b (.t .false))])) (.imp (.ite (.v 6) (.ite (.lt (.v 10) (.v 9)) (.t .true) (.ite (.eq (.v 9) (.v 11)) (.lt (.v 8) (.v 5)) (.t .false))) (.t .false)) .false (.back 15 7 9 [4] [(.i (.wrap .i64 (.add (.v 7) (.v 9)))), (.i (.wrap .i64 (.add (.v 8) (.i 1))))]))))))) (.imp (.le (.v 8) (.i 11)) .false (.call 11 [((.ite (.not (.beq (.v 6) (.lt (.i 0) (.len 0)))) (.t .true) (.not (.eq (.v 7) (.len 0)))), .false)] [(.o 4 (.ptr 0 0))] 9 (.call 10 [((.ite (.ite (.not (.beq (.v 6) (.lt (.i 0) (.len 0)))) (.t .true) (.not (.eq (.v 7) (.len 0)))) (.t .true) (.not (.eq (.v 9) (.v 7)))), .false)] [(.o 4 (.ptr 0 0)), (.i (.i 0))] 10 (.call 10 [((.ite (.ite (.ite (.not (.beq (.v 6) (.lt (.i 0) (.len 0)))) (.t .true) (.not (.eq (.v 7) (.len 0)))) (.t .true) (.not (.eq (.v 9) (.v 7)))) (.t .true) (.not (.eq (.v 10) (.i 0)))), .false)] [(.o 4 (.ptr 0 0)), (.i (.i 12))] 11 (.and (.imp (.ite (.ite (.ite (.ite (.not (.beq (.v 6) (.lt (.i 0) (.len 0)))) (.t .true) (.not (.eq (.v 7) (.len 0)))) (.t .true) (.not (.eq (.v 9) (.v 7)))) (.t .true) (.not (.eq (.v 10) (.i 0)))) (.t .true) (.not (.eq (.v 11) (.i 0)))) .true (.ret [(.b (.t .false))])) (.imp (.ite (.ite (.ite (.ite (.not (.beq (.v 6) (.lt (.i 0) (.len 0)))) (.t .true) (.not (.eq (.v 7) (.len 0)))) (.t .true) (.not (.eq (.v 9) (.v 7)))) (.t .true) (.not (.eq (.v 10) (.i 0)))) (.t .true) (.not (.eq (.v 11) (.i 0)))) .false (.call 12 [] [(.o 4 (.ptr 0 0))] 12 (.call 9 [] [(.o 12 (.ptr 0 0))] 13 (.call 11 [((.not (.v 14)), .true)] [(.o 12 (.ptr 0 0))] 15 (.ret [(.b (.ite (.not (.v 14)) (.eq (.v 15) (.i 0)) (.t .false)))]))))))))))))))))))))))
def tbl_MeterMost : List (Nat × Ctr) := [(6, C_first20), (7, C_number), (8, C_madd), (9, C_mmost), (10, C_mget), (11, C_msum), (12, C_mreset)]
def inv_MeterMost : List Leaf → Nat → List Leaf → Prop := fun _ key xs => match key, xs with
  | 8, [.l l, .i i, .l m] => inv_MeterMost_8 l i m
  | 15, [.l m, .i s, .i i] => inv_MeterMost_15 m s i
  | _, _ => False
def meas_MeterMost : List Leaf → Nat → List Leaf → Nat := fun _ key xs => match key, xs with
  | 8, [.l l, .i i, .l m] => meas_MeterMost_8 l i m
  | 15, [.l m, .i s, .i i] => meas_MeterMost_15 m s i
  | _, _ => 0
theorem vc_MeterMost : vcg Try.prog (sigT tbl_MeterMost) [⟨8, [2, 20, 21, 22, 23, 24, 25, 26, 27, 28, 29, 30, 31, 32, 33], [5], [(0, 0)], [0], some (3, [.i64]), []⟩, ⟨15, [2, 10, 38, 39, 40, 41, 42, 43, 44, 45, 46, 47, 48, 49, 50, 51, 52, 53, 54, 55, 56, 57, 58, 59, 60, 61, 62, 63, 64], [8, 9], [], [4], some (3, [.i64]), []⟩, ⟨6, [], [], [], [], none, [(0, 1)]⟩] Try.f5 C_MeterMost.params C_MeterMost.res = some phi_MeterMost := by kernel_rfl

end Go.Proofs.Ytccdhkmohimfhaa
