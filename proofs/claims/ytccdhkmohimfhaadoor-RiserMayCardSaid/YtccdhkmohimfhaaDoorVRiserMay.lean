import Derived.Test.YtccdhkmohimfhaaDoorF2
namespace Go.Proofs.YtccdhkmohimfhaaDoor
open Go.Vg
set_option linter.unusedVariables false
set_option linter.unusedSimpArgs false
open Go
def mayN (F f : Int) : Int := if F - 1 ≤ f then 0 else if 0 ≤ f then 2 * (F - 1 - f) - 1 else 2 * F - 2
def mayD (F f d : Int) : Int := (if d < 1 ∧ mayP F f 1 = true then 1 else 0) + (if d < -1 ∧ mayP F f (-1) = true then 1 else 0)
def C_RiserMay : Ctr := ⟨[.one (.int .i64)], [.one (.bool)],
  fun | [.i fs] => (-9223372036854775808 ≤ fs ∧ fs < 9223372036854775808) ∧ True | _ => False,
  fun | [.i _] => [.b (true)] | _ => []⟩
theorem RiserMay_pre {ls : List Leaf} (h_ : C_RiserMay.pre ls) : ∃ (fs : Int), ls = [.i fs] ∧ ((-9223372036854775808 ≤ fs ∧ fs < 9223372036854775808) ∧ True) := by
  unfold C_RiserMay at h_; dsimp only at h_; split at h_
  · exact ⟨_, rfl, h_⟩
  · exact h_.elim
theorem RiserMay_mk {fs : Int} (h_ : (-9223372036854775808 ≤ fs ∧ fs < 9223372036854775808) ∧ True) : C_RiserMay.pre [.i fs] := h_
theorem RiserMay_res {fs : Int} {rs_ : List Leaf} (h_ : rs_ = C_RiserMay.fn [.i fs]) : ∃ (q0 : Bool), q0 = (true) ∧ rs_ = [.b q0] := ⟨_, rfl, h_⟩
def inv_RiserMay_10 (fs : Int) (n : Int) (f : Int) (x : LV) : Prop := -3 ≤ f ∧ f ≤ fs + 3 ∧ x.gi 0 0 = fs + 2 ∧ n = mayN (fs + 2) f ∧ ∀ g e, i64R g → i64R e → litR x g e = (if mayP (fs + 2) g e = true ∧ f < g then 1 else 0) ∧ genR x g e = (if mayP (fs + 2) g e = true ∧ f < g then 1 else 0)
def meas_RiserMay_10 (fs : Int) (n : Int) (f : Int) (x : LV) : Nat := (f + 3).toNat
def inv_RiserMay_13 (fs : Int) (f : Int) (n : Int) (d : Int) (x : LV) : Prop := -3 ≤ d ∧ d ≤ 2 ∧ x.gi 0 0 = fs + 2 ∧ n = mayN (fs + 2) f + mayD (fs + 2) f d ∧ ∀ g e, i64R g → i64R e → litR x g e = (if mayP (fs + 2) g e = true ∧ (f < g ∨ f = g ∧ d < e) then 1 else 0) ∧ genR x g e = (if mayP (fs + 2) g e = true ∧ (f < g ∨ f = g ∧ d < e) then 1 else 0)
def meas_RiserMay_13 (fs : Int) (f : Int) (n : Int) (d : Int) (x : LV) : Nat := (d + 3).toNat
def inv_RiserMay_26 (l : LV) (i : Int) : Prop := 1 ≤ i
def meas_RiserMay_26 (l : LV) (i : Int) : Nat := ((l.len : Int) - i).toNat
def phi_RiserMay : Fm := (.call 10 [] [] 1 (.and (.imp (.v 1) .false (.ret [(.b (.t .false))])) (.imp (.v 1) .true (.call 11 [] [(.i (.v 0)), (.i (.i 63))] 2 (.call 12 [] [(.i (.wrap .i64 (.add (.v 2) (.i 2))))] 3 (.and (.imp (.vnil 4) .false (.ret [(.b (.t .false))])) (.imp (.vnil 4) .true (.loop 10 5 [2] [(.i (.i 0)), (.i (.wrap .i64 (.add (.wrap .i64 (.add (.v 2) (.i 2))) (.i 1)))), (.l 3)] [.i, .i, .l] (.and (.imp (.le (.i (Int.negSucc 1)) (.v 6)) .true (.loop 13 8 [2, 6] [(.i (.v 5)), (.i (.i 2)), (.l 7)] [.i, .i, .l] (.and (.imp (.le (.i (Int.negSucc 1)) (.v 9)) .true (.call 13 [] [(.i (.wrap .i64 (.add (.v 2) (.i 2)))), (.i (.v 6)), (.i (.v 9))] 11 (.call 14 [] [(.o 10 (.ptr 0 0)), (.i (.v 6)), (.i (.v 9))] 12 (.and (.imp (.ite (.not (.beq (.v 16) (.v 11))) (.t .true) (.ite (.v 11) (.ite (.ite (.ite (.not (.eq (.v 9) (.i 1))) (.not (.eq (.v 9) (.i (Int.negSucc 0)))) (.t .false)) (.t .true) (.lt (.v 6) (.i 0))) (.t .true) (.le (.wrap .i64 (.add (.v 2) (.i 2))) (.v 6))) (.t .false))) .true (.ret [(.b (.t .false))])) (.imp (.ite (.not (.beq (.v 16) (.v 11))) (.t .true) (.ite (.v 11) (.ite (.ite (.ite (.not (.eq (.v 9) (.i 1))) (.not (.eq (.v 9) (.i (Int.negSucc 0)))) (.t .false)) (.t .true) (.lt (.v 6) (.i 0))) (.t .true) (.le (.wrap .i64 (.add (.v 2) (.i 2))) (.v 6))) (.t .false))) .false (.and (.imp (.v 11) .true (.back 13 8 11 [2, 6] [(.i (.wrap .i64 (.add (.v 8) (.i 1)))), (.i (.wrap .i64 (.sub (.v 9) (.i 1)))), (.l 12)])) (.imp (.v 11) .false (.back 13 8 11 [2, 6] [(.i (.v 8)), (.i (.wrap .i64 (.sub (.v 9) (.i 1)))), (.l 12)])))))))) (.imp (.le (.i (Int.negSucc 1)) (.v 9)) .false (.back 10 5 8 [2] [(.i (.v 8)), (.i (.wrap .i64 (.sub (.v 6) (.i 1)))), (.l 10)]))))) (.imp (.le (.i (Int.negSucc 1)) (.v 6)) .false (.call 15 [] [(.o 7 (.ptr 0 0))] 8 (.and (.imp (.ite (.not (.eq (.v 5) (.wrap .i64 (.sub (.wrap .i64 (.mul (.i 2) (.wrap .i64 (.add (.v 2) (.i 2))))) (.i 2))))) (.t .true) (.not (.eq (.len 8) (.v 5)))) .true (.ret [(.b (.t .false))])) (.imp (.ite (.not (.eq (.v 5) (.wrap .i64 (.sub (.wrap .i64 (.mul (.i 2) (.wrap .i64 (.add (.v 2) (.i 2))))) (.i 2))))) (.t .true) (.not (.eq (.len 8) (.v 5)))) .false (.loop 26 9 [8] [(.i (.i 1))] [.i] (.and (.imp (.lt (.v 9) (.len 8)) .true (.ob [] (.le (.i 0) (.wrap .i64 (.sub (.v 9) (.i 1)))) (.ob [] (.lt (.wrap .i64 (.sub (.v 9) (.i 1))) (.len 8)) (.ob [] (.le (.i 0) (.v 9)) (.and (.imp (.ite (.ite (.lt (.gi 8 0 (.v 9)) (.gi 8 0 (.wrap .i64 (.sub (.v 9) (.i 1))))) (.t .true) (.ite (.eq (.gi 8 0 (.wrap .i64 (.sub (.v 9) (.i 1)))) (.gi 8 0 (.v 9))) (.le (.gi 8 1 (.v 9)) (.gi 8 1 (.wrap .i64 (.sub (.v 9) (.i 1))))) (.t .false))) (.t .true) (.not (.eq (.gi 8 2 (.v 9)) (.i 1)))) .true (.ret [(.b (.t .false))])) (.imp (.ite (.ite (.lt (.gi 8 0 (.v 9)) (.gi 8 0 (.wrap .i64 (.sub (.v 9) (.i 1))))) (.t .true) (.ite (.eq (.gi 8 0 (.wrap .i64 (.sub (.v 9) (.i 1)))) (.gi 8 0 (.v 9))) (.le (.gi 8 1 (.v 9)) (.gi 8 1 (.wrap .i64 (.sub (.v 9) (.i 1))))) (.t .false))) (.t .true) (.not (.eq (.gi 8 2 (.v 9)) (.i 1)))) .false (.back 26 9 10 [8] [(.i (.wrap .i64 (.add (.v 9) (.i 1))))]))))))) (.imp (.lt (.v 9) (.len 8)) .false (.call 17 [] [(.o 7 (.ptr 0 0))] 10 (.call 15 [] [(.o 10 (.ptr 3 0))] 11 (.call 16 [] [(.l 8), (.l 11)] 12 (.ret [(.b (.v 12))]))))))))))))))))))))
def tbl_RiserMay : List (Nat × Ctr) := [(10, C_first10), (11, C_number), (12, C_rnew), (13, C_may), (14, C_rpress), (15, C_rlit), (16, C_sameLatchs), (17, C_rclone)]
def inv_RiserMay : List Leaf → Nat → List Leaf → Prop := fun _ key xs => match key, xs with
  | 10, [.i fs, .i n, .i f, .l x] => inv_RiserMay_10 fs n f x
  | 13, [.i fs, .i f, .i n, .i d, .l x] => inv_RiserMay_13 fs f n d x
  | 26, [.l l, .i i] => inv_RiserMay_26 l i
  | _, _ => False
def meas_RiserMay : List Leaf → Nat → List Leaf → Nat := fun _ key xs => match key, xs with
  | 10, [.i fs, .i n, .i f, .l x] => meas_RiserMay_10 fs n f x
  | 13, [.i fs, .i f, .i n, .i d, .l x] => meas_RiserMay_13 fs f n d x
  | 26, [.l l, .i i] => meas_RiserMay_26 l i
  | _, _ => 0
theorem vc_RiserMay : vcg Tryd.prog (sigT tbl_RiserMay) [⟨10, [2, 8, 9, 10, 11, 12, 36, 37, 38, 39, 40, 41, 42, 43, 44, 45, 46, 47, 48, 49, 50, 51, 52, 53, 54, 55, 56, 57, 58, 59, 60, 61, 62, 63, 64, 65, 66, 67, 68, 69, 70, 71, 72, 73, 74, 75, 76, 77, 78, 79, 80, 81], [6, 7], [(0, 0)], [2], some (3, [.i64]), []⟩, ⟨13, [2, 9, 10, 11, 12, 40, 41, 42, 43, 44, 45, 46, 47, 48, 49, 50, 51, 52, 53, 54, 55, 56, 57, 58, 59, 60, 61, 62, 63, 64, 65, 66, 67, 68, 69, 70, 71, 72, 73, 74, 75, 76, 77, 78, 79, 80, 81], [6, 8], [(0, 0)], [2, 6], some (3, [.i64]), []⟩, ⟨26, [2, 15, 16, 95, 96, 97, 98, 99, 100, 101, 102, 103, 104, 105, 106, 107, 108, 109, 110, 111, 112, 113, 114, 115, 116, 117, 118, 119, 120, 121, 122, 123, 124, 125, 126, 127, 128, 129, 130, 131, 132, 133, 134, 135, 136, 137, 138], [14], [], [8], some (3, [.i64]), []⟩] Tryd.f3 C_RiserMay.params C_RiserMay.res = some phi_RiserMay := by kernel_rfl

end Go.Proofs.YtccdhkmohimfhaaDoor
