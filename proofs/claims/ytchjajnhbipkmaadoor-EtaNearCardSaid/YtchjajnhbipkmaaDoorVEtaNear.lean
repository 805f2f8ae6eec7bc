import Derived.Test.YtchjajnhbipkmaaDoorE
namespace Go.Proofs.YtchjajnhbipkmaaDoor
open Go.Vg
set_option linter.unusedVariables false
set_option linter.unusedSimpArgs false
open Go

def C_EtaNear : Ctr := ⟨[.agg [.int .i64, .int .i64, .int .i64, .int .i64], .one (.int .i64), .one (.int .i64), .one (.int .i64)], [.one (.bool)],
  fun | [.i hc, .i hf, .i hs, .i hd, .i fr, .i fl0, .i dir] => (-9223372036854775808 ≤ hc ∧ hc < 9223372036854775808) ∧ (-9223372036854775808 ≤ hf ∧ hf < 9223372036854775808) ∧ (-9223372036854775808 ≤ hs ∧ hs < 9223372036854775808) ∧ (-9223372036854775808 ≤ hd ∧ hd < 9223372036854775808) ∧ (-9223372036854775808 ≤ fr ∧ fr < 9223372036854775808) ∧ (-9223372036854775808 ≤ fl0 ∧ fl0 < 9223372036854775808) ∧ (-9223372036854775808 ≤ dir ∧ dir < 9223372036854775808) ∧ True | _ => False,
  fun | [.i _, .i _, .i _, .i _, .i _, .i _, .i _] => [.b (true)] | _ => []⟩
theorem EtaNear_pre {ls : List Leaf} (h_ : C_EtaNear.pre ls) : ∃ (hc : Int) (hf : Int) (hs : Int) (hd : Int) (fr : Int) (fl0 : Int) (dir : Int), ls = [.i hc, .i hf, .i hs, .i hd, .i fr, .i fl0, .i dir] ∧ ((-9223372036854775808 ≤ hc ∧ hc < 9223372036854775808) ∧ (-9223372036854775808 ≤ hf ∧ hf < 9223372036854775808) ∧ (-9223372036854775808 ≤ hs ∧ hs < 9223372036854775808) ∧ (-9223372036854775808 ≤ hd ∧ hd < 9223372036854775808) ∧ (-9223372036854775808 ≤ fr ∧ fr < 9223372036854775808) ∧ (-9223372036854775808 ≤ fl0 ∧ fl0 < 9223372036854775808) ∧ (-9223372036854775808 ≤ dir ∧ dir < 9223372036854775808) ∧ True) := by
  unfold C_EtaNear at h_; dsimp only at h_; split at h_
  · exact ⟨_, _, _, _, _, _, _, rfl, h_⟩
  · exact h_.elim
theorem EtaNear_mk {hc : Int} {hf : Int} {hs : Int} {hd : Int} {fr : Int} {fl0 : Int} {dir : Int} (h_ : (-9223372036854775808 ≤ hc ∧ hc < 9223372036854775808) ∧ (-9223372036854775808 ≤ hf ∧ hf < 9223372036854775808) ∧ (-9223372036854775808 ≤ hs ∧ hs < 9223372036854775808) ∧ (-9223372036854775808 ≤ hd ∧ hd < 9223372036854775808) ∧ (-9223372036854775808 ≤ fr ∧ fr < 9223372036854775808) ∧ (-9223372036854775808 ≤ fl0 ∧ fl0 < 9223372036854775808) ∧ (-9223372036854775808 ≤ dir ∧ dir < 9223372036854775808) ∧ True) : C_EtaNear.pre [.i hc, .i hf, .i hs, .i hd, .i fr, .i fl0, .i dir] := h_
theorem EtaNear_res {hc : Int} {hf : Int} {hs : Int} {hd : Int} {fr : Int} {fl0 : Int} {dir : Int} {rs_ : List Leaf} (h_ : rs_ = C_EtaNear.fn [.i hc, .i hf, .i hs, .i hd, .i fr, .i fl0, .i dir]) : ∃ (q0 : Bool), q0 = (true) ∧ rs_ = [.b q0] := ⟨_, rfl, h_⟩
def phi_EtaNear : Fm := (.call 33 [] [] 7 (.and (.imp (.v 7) .false (.ret [(.b (.t .false))])) (.imp (.v 7) .true (.call 19 [] [(.i (.v 0)), (.i (.v 1)), (.i (.v 2)), (.i (.v 3))] 8 (.and (.imp (.v 8) .false (.ret [(.b (.v 7))])) (.imp (.v 8) .true (.call 22 [] [(.i (.v 4)), (.i (.v 1))] 9 (.call 22 [] [(.i (.v 5)), (.i (.v 1))] 10 (.call 22 [] [(.i (.v 6)), (.i (.i 2))] 11 (.call 21 [] [(.i (.v 0)), (.i (.v 1)), (.i (.v 2)), (.i (.v 3)), (.i (.wrap .i64 (.mul (.v 9) (.v 2))))] 12 (.and (.imp (.v 17) .false (.ret [(.b (.t .false))])) (.imp (.v 17) .true (.call 35 [] [(.i (.v 0)), (.i (.v 1)), (.i (.v 2)), (.i (.v 3)), (.i (.v 12)), (.i (.v 13)), (.i (.v 14)), (.b (.v 15)), (.i (.v 16)), (.i (.i 0)), (.i (.i 0)), (.i (.i 0)), (.i (.v 10)), (.i (.wrap .i64 (.sub (.wrap .i64 (.mul (.i 2) (.v 11))) (.i 1))))] 18 (.call 34 [] [(.i (.v 1)), (.i (.v 10)), (.i (.wrap .i64 (.sub (.wrap .i64 (.mul (.i 2) (.v 11))) (.i 1))))] 19 (.and (.imp (.v 19) .false (.ret [(.b (.eq (.v 18) (.i 1048576)))])) (.imp (.v 19) .true (.and (.imp (.lt (.wrap .i64 (.sub (.v 10) (.v 9))) (.i 0)) .true (.ret [(.b (.eq (.v 18) (.wrap .i64 (.add (.wrap .i64 (.mul (.wrap .i64 (.sub (.i 0) (.wrap .i64 (.sub (.v 10) (.v 9))))) (.v 2))) (.i 1)))))])) (.imp (.lt (.wrap .i64 (.sub (.v 10) (.v 9))) (.i 0)) .false (.ret [(.b (.eq (.v 18) (.wrap .i64 (.add (.wrap .i64 (.mul (.wrap .i64 (.sub (.v 10) (.v 9))) (.v 2))) (.i 1)))))])))))))))))))))))))
def tbl_EtaNear : List (Nat × Ctr) := [(19, C_valid), (21, C_cstart), (22, C_number), (33, C_first17), (34, C_rmay), (35, C_eta)]
theorem vc_EtaNear : vcg Tryd.prog (sigT tbl_EtaNear) [] Tryd.f13 C_EtaNear.params C_EtaNear.res = some phi_EtaNear := by kernel_rfl

end Go.Proofs.YtchjajnhbipkmaaDoor
