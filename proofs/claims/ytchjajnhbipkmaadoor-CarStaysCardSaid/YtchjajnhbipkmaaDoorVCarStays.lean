import Derived.Test.YtchjajnhbipkmaaDoorF
namespace Go.Proofs.YtchjajnhbipkmaaDoor
open Go.Vg
set_option linter.unusedVariables false
set_option linter.unusedSimpArgs false
open Go

def C_CarStays : Ctr := ⟨[.agg [.int .i64, .int .i64, .int .i64, .int .i64], .one (.int .i64), .one (.int .i64), .one (.int .i64)], [.one (.bool)],
  fun | [.i hc, .i hf, .i hs, .i hd, .i fl, .i dir, .i n] => (-9223372036854775808 ≤ hc ∧ hc < 9223372036854775808) ∧ (-9223372036854775808 ≤ hf ∧ hf < 9223372036854775808) ∧ (-9223372036854775808 ≤ hs ∧ hs < 9223372036854775808) ∧ (-9223372036854775808 ≤ hd ∧ hd < 9223372036854775808) ∧ (-9223372036854775808 ≤ fl ∧ fl < 9223372036854775808) ∧ (-9223372036854775808 ≤ dir ∧ dir < 9223372036854775808) ∧ (-9223372036854775808 ≤ n ∧ n < 9223372036854775808) ∧ True | _ => False,
  fun | [.i _, .i _, .i _, .i _, .i _, .i _, .i _] => [.b (true)] | _ => []⟩
theorem CarStays_pre {ls : List Leaf} (h_ : C_CarStays.pre ls) : ∃ (hc : Int) (hf : Int) (hs : Int) (hd : Int) (fl : Int) (dir : Int) (n : Int), ls = [.i hc, .i hf, .i hs, .i hd, .i fl, .i dir, .i n] ∧ ((-9223372036854775808 ≤ hc ∧ hc < 9223372036854775808) ∧ (-9223372036854775808 ≤ hf ∧ hf < 9223372036854775808) ∧ (-9223372036854775808 ≤ hs ∧ hs < 9223372036854775808) ∧ (-9223372036854775808 ≤ hd ∧ hd < 9223372036854775808) ∧ (-9223372036854775808 ≤ fl ∧ fl < 9223372036854775808) ∧ (-9223372036854775808 ≤ dir ∧ dir < 9223372036854775808) ∧ (-9223372036854775808 ≤ n ∧ n < 9223372036854775808) ∧ True) := by
  unfold C_CarStays at h_; dsimp only at h_; split at h_
  · exact ⟨_, _, _, _, _, _, _, rfl, h_⟩
  · exact h_.elim
theorem CarStays_mk {hc : Int} {hf : Int} {hs : Int} {hd : Int} {fl : Int} {dir : Int} {n : Int} (h_ : (-9223372036854775808 ≤ hc ∧ hc < 9223372036854775808) ∧ (-9223372036854775808 ≤ hf ∧ hf < 9223372036854775808) ∧ (-9223372036854775808 ≤ hs ∧ hs < 9223372036854775808) ∧ (-9223372036854775808 ≤ hd ∧ hd < 9223372036854775808) ∧ (-9223372036854775808 ≤ fl ∧ fl < 9223372036854775808) ∧ (-9223372036854775808 ≤ dir ∧ dir < 9223372036854775808) ∧ (-9223372036854775808 ≤ n ∧ n < 9223372036854775808) ∧ True) : C_CarStays.pre [.i hc, .i hf, .i hs, .i hd, .i fl, .i dir, .i n] := h_
theorem CarStays_res {hc : Int} {hf : Int} {hs : Int} {hd : Int} {fl : Int} {dir : Int} {n : Int} {rs_ : List Leaf} (h_ : rs_ = C_CarStays.fn [.i hc, .i hf, .i hs, .i hd, .i fl, .i dir, .i n]) : ∃ (q0 : Bool), q0 = (true) ∧ rs_ = [.b q0] := ⟨_, rfl, h_⟩
def inv_CarStays_9 (hc : Int) (hf : Int) (hs : Int) (hd : Int) (f : Int) (i : Int) (p : Int) (dr : Int) (do_ : Int) (rl : Bool) (he : Int) : Prop := 0 ≤ i ∧ i ≤ 31 ∧ p = f * hs ∧ -1 ≤ dr ∧ dr ≤ 1 ∧ do_ = 0 ∧ rl = false ∧ he = 0
def meas_CarStays_9 (hc : Int) (hf : Int) (hs : Int) (hd : Int) (f : Int) (i : Int) (p : Int) (dr : Int) (do_ : Int) (rl : Bool) (he : Int) : Nat := (40 - i).toNat
def phi_CarStays : Fm := (.call 18 [] [] 7 (.and (.imp (.v 7) .false (.ret [(.b (.t .false))])) (.imp (.v 7) .true (.call 19 [] [(.i (.v 0)), (.i (.v 1)), (.i (.v 2)), (.i (.v 3))] 8 (.and (.imp (.v 8) .false (.ret [(.b (.v 7))])) (.imp (.v 8) .true (.call 22 [] [(.i (.v 4)), (.i (.v 1))] 9 (.call 22 [] [(.i (.v 5)), (.i (.i 3))] 10 (.loop 9 11 [0, 1, 2, 3, 9] [(.i (.i 0)), (.i (.wrap .i64 (.mul (.v 9) (.v 2)))), (.i (.wrap .i64 (.sub (.v 10) (.i 1)))), (.i (.i 0)), (.b (.t .false)), (.i (.i 0))] [.i, .i, .i, .i, .b, .i] (.call 22 [] [(.i (.v 6)), (.i (.i 30))] 17 (.and (.imp (.lt (.v 11) (.wrap .i64 (.add (.v 17) (.i 1)))) .true (.call 20 [] [(.i (.v 0)), (.i (.v 1)), (.i (.v 2)), (.i (.v 3)), (.i (.v 12)), (.i (.v 13)), (.i (.v 14)), (.b (.v 15)), (.i (.v 16)), (.i (.i 0)), (.i (.i 0)), (.i (.i 0)), (.b (.eq (.rem (.v 11) (.i 2)) (.i 0)))] 18 (.and (.imp (.ite (.ite (.ite (.ite (.ite (.v 23) (.t .true) (.v 24)) (.t .true) (.not (.eq (.v 27) (.i 0)))) (.t .true) (.not (.eq (.v 25) (.v 9)))) (.t .true) (.not (.eq (.v 18) (.v 12)))) (.t .true) (.not (.eq (.v 19) (.i 0)))) .true (.ret [(.b (.t .false))])) (.imp (.ite (.ite (.ite (.ite (.ite (.v 23) (.t .true) (.v 24)) (.t .true) (.not (.eq (.v 27) (.i 0)))) (.t .true) (.not (.eq (.v 25) (.v 9)))) (.t .true) (.not (.eq (.v 18) (.v 12)))) (.t .true) (.not (.eq (.v 19) (.i 0)))) .false (.back 9 11 17 [0, 1, 2, 3, 9] [(.i (.wrap .i64 (.add (.v 11) (.i 1)))), (.i (.v 18)), (.i (.v 19)), (.i (.v 20)), (.b (.v 21)), (.i (.v 22))]))))) (.imp (.lt (.v 11) (.wrap .i64 (.add (.v 17) (.i 1)))) .false (.ret [(.b (.v 7))])))))))))))))
def tbl_CarStays : List (Nat × Ctr) := [(18, C_first16), (19, C_valid), (20, C_ctick), (22, C_number)]
def inv_CarStays : List Leaf → Nat → List Leaf → Prop := fun _ key xs => match key, xs with
  | 9, [.i hc, .i hf, .i hs, .i hd, .i f, .i i, .i p, .i dr, .i do_, .b rl, .i he] => inv_CarStays_9 hc hf hs hd f i p dr do_ rl he
  | _, _ => False
def meas_CarStays : List Leaf → Nat → List Leaf → Nat := fun _ key xs => match key, xs with
  | 9, [.i hc, .i hf, .i hs, .i hd, .i f, .i i, .i p, .i dr, .i do_, .b rl, .i he] => meas_CarStays_9 hc hf hs hd f i p dr do_ rl he
  | _, _ => 0
theorem vc_CarStays : vcg Tryd.prog (sigT tbl_CarStays) [⟨9, [8, 12, 13, 34, 35, 36, 37, 38, 39, 40, 41, 42, 43, 44, 45, 46, 47, 48, 49, 50, 51, 52, 53, 54, 55, 56, 57, 58, 59, 60, 61, 62, 63, 64, 65, 66, 67, 68, 69, 70, 71, 72, 73, 74, 75, 76, 77, 78, 79, 80, 81, 82, 83], [11], [(1, 0), (1, 1), (1, 2), (1, 3), (1, 4)], [0, 1, 2, 3, 9], some (3, .i64)⟩] Tryd.f7 C_CarStays.params C_CarStays.res = some phi_CarStays := by kernel_rfl

end Go.Proofs.YtchjajnhbipkmaaDoor
