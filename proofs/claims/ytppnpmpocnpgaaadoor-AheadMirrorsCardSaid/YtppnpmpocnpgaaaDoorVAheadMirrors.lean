import Derived.Test.YtppnpmpocnpgaaaDoorF
namespace Go.Proofs.YtppnpmpocnpgaaaDoor
open Go.Vg
set_option linter.unusedVariables false
set_option linter.unusedSimpArgs false
open Go

def mirB (b : Int) : Nat → BitVec 64
  | 0 => 0#64
  | k + 1 => if isb b k = true then mirB b k ||| oneB (63 - (k : Int)) else mirB b k
theorem mir_no {b x : Int} (h0 : 0 ≤ x) (hx : x < 64) (h : isb b x = false) : N (mirB b (x + 1).toNat) = N (mirB b x.toNat) := by
  rw [show (x + 1).toNat = x.toNat + 1 by omega, mirB, show ((x.toNat : Nat) : Int) = x by omega, h]
  rfl
theorem mir_yes {b x : Int} (h0 : 0 ≤ x) (hx : x < 64) (h : isb b x = true) :
    N (mirB b (x + 1).toNat) = bitv .or .u64 (N (mirB b x.toNat)) (IntKind.wrap .u64 ((1 : Int) * 2 ^ (min (Int.toNat (IntKind.wrap .u64 (IntKind.wrap .i64 ((63 : Int) - x)))) (IntKind.bits .u64)))) := by
  have e1 : IntKind.wrap .i64 (63 - x) = 63 - x := wrap_in (by omega) (by omega)
  have e2 : IntKind.wrap .u64 (63 - x) = 63 - x := by rw [wrap_u64]; omega
  rw [e1, e2, bv_shl, bv_or, B_N, B_N, B_one, show (x + 1).toNat = x.toNat + 1 by omega, mirB, show ((x.toNat : Nat) : Int) = x by omega, h, if_pos rfl, oneB, if_pos (okf_iff.2 (by omega))]
theorem mir_bit {b : Int} {j : Nat} : ∀ {k : Nat}, k ≤ 64 → (mirB b k).getLsbD j = (decide (63 - (j : Int) < k) && isb b (63 - (j : Int)))
  | 0, _ => by
    rw [mirB]
    by_cases h : 63 - (j : Int) < (0 : Nat)
    · rw [isb_no (by omega)]; simp
    · rw [decide_eq_false h]; simp
  | k + 1, hk => by
    rw [mirB]
    have ih := mir_bit (b := b) (j := j) (k := k) (by omega)
    by_cases hj : 63 - (j : Int) = k
    · have e : j = (63 - (k : Int)).toNat := by omega
      rw [decide_eq_true (show 63 - (j : Int) < ((k + 1 : Nat) : Int) by omega), Bool.true_and, hj]
      rw [decide_eq_false (show ¬ 63 - (j : Int) < (k : Int) by omega), Bool.false_and] at ih
      split
      · rename_i h
        rw [BitVec.getLsbD_or, oneB_bit, okf_iff.2 (by omega), h]
        simp [e]
      · rename_i h
        rw [ih]
        simpa using h
    · have hd : decide (63 - (j : Int) < ((k + 1 : Nat) : Int)) = decide (63 - (j : Int) < (k : Int)) := by apply decide_eq_decide.2; omega
      rw [hd, ← ih]
      split
      · rw [BitVec.getLsbD_or, oneB_bit]
        have : decide (j = (63 - (k : Int)).toNat) = false := decide_eq_false (by omega)
        rw [this]; simp
      · rfl
theorem mir_isb {b n : Int} : isb (N (mirB b 64)) n = isb b (63 - n) := by
  by_cases h : 0 ≤ n ∧ n < 64
  · rw [isb_bit h.1 h.2, B_N, mir_bit (Nat.le_refl _), show ((n.toNat : Nat) : Int) = n by omega, decide_eq_true (by omega), Bool.true_and]
  · rw [isb_no (by omega), isb_no (by omega)]
theorem anyb_isb {c u d n : Int} : anyb c u d n = (isb c n || isb u n || isb d n) := by
  unfold anyb allB isb
  rw [BitVec.getLsbD_or, BitVec.getLsbD_or]
  cases okf n <;> simp
theorem mir_any {c u d n : Int} : anyb (N (mirB c 64)) (N (mirB d 64)) (N (mirB u 64)) n = anyb c u d (63 - n) := by
  rw [anyb_isb, anyb_isb, mir_isb, mir_isb, mir_isb]
  cases isb c (63 - n) <;> cases isb u (63 - n) <;> cases isb d (63 - n) <;> rfl
theorem mir_above {c u d n : Int} : above (N (mirB c 64)) (N (mirB d 64)) (N (mirB u 64)) (63 - n) = below c u d n := by
  rw [Bool.eq_iff_iff, above_iff, below_iff]
  constructor
  · rintro ⟨m, h, e⟩
    rw [mir_any] at e
    exact ⟨63 - m, by omega, e⟩
  · rintro ⟨m, h, e⟩
    exact ⟨63 - m, by omega, by rw [mir_any, show 63 - (63 - m) = m by omega]; exact e⟩
theorem mir_below {c u d n : Int} : below (N (mirB c 64)) (N (mirB d 64)) (N (mirB u 64)) (63 - n) = above c u d n := by
  rw [Bool.eq_iff_iff, above_iff, below_iff]
  constructor
  · rintro ⟨m, h, e⟩
    rw [mir_any] at e
    exact ⟨63 - m, by omega, e⟩
  · rintro ⟨m, h, e⟩
    exact ⟨63 - m, by omega, by rw [mir_any, show 63 - (63 - m) = m by omega]; exact e⟩
theorem hall_up {u d n : Int} : hallb u d n 1 = isb u n := by simp [hallb]
theorem hall_dn {u d n : Int} : hallb u d n (-1) = isb d n := by simp [hallb]
theorem hall_zero {u d n : Int} : hallb u d n 0 = false := by simp [hallb]
theorem mir_hall {u d n x : Int} : hallb (N (mirB d 64)) (N (mirB u 64)) (63 - n) (-x) = hallb u d n x := by
  unfold hallb
  rw [mir_isb, mir_isb, show 63 - (63 - n) = n by omega]
  by_cases h1 : x = 1
  · subst h1; simp
  · by_cases h2 : x = -1
    · subst h2; simp
    · have e1 : (-x == (1 : Int)) = false := by simp; omega
      have e2 : (-x == (-1 : Int)) = false := by simp; omega
      have e3 : (x == (1 : Int)) = false := by simp [h1]
      have e4 : (x == (-1 : Int)) = false := by simp [h2]
      rw [e1, e2, e3, e4]; rfl
theorem mir_toward {c u d n x : Int} : toward (N (mirB c 64)) (N (mirB d 64)) (N (mirB u 64)) (63 - n) (-x) = toward c u d n x := by
  unfold toward
  rw [mir_above, mir_below]
  by_cases h1 : x = 1
  · subst h1; simp
  · by_cases h2 : x = -1
    · subst h2; simp
    · have e1 : (-x == (1 : Int)) = false := by simp; omega
      have e2 : (-x == (-1 : Int)) = false := by simp; omega
      have e3 : (x == (1 : Int)) = false := by simp [h1]
      have e4 : (x == (-1 : Int)) = false := by simp [h2]
      rw [e1, e2, e3, e4]; rfl
theorem mir_way {c u d n x : Int} : way (N (mirB c 64)) (N (mirB d 64)) (N (mirB u 64)) (63 - n) (-x) = way c u d n x := by
  unfold way
  rw [mir_toward, mir_hall]
theorem mir_turn {c u d n x : Int} (hx : x ≠ 0) : turn (N (mirB c 64)) (N (mirB d 64)) (N (mirB u 64)) (63 - n) (-x) = -turn c u d n x := by
  unfold turn
  rw [mir_way]
  have h2 : way (N (mirB c 64)) (N (mirB d 64)) (N (mirB u 64)) (63 - n) (- -x) = way c u d n (-x) := mir_way
  rw [h2]
  have e1 : (x == 0) = false := by simp [hx]
  have e2 : (-x == 0) = false := by simp; omega
  rw [e1, e2]
  cases way c u d n x <;> cases way c u d n (-x) <;> simp

def C_AheadMirrors : Ctr := ⟨[.agg [.int .u64, .int .u64, .int .u64], .one (.int .i64)], [.one (.bool)],
  fun | [.i s0, .i s1, .i s2, .i fl] => (0 ≤ s0 ∧ s0 < 18446744073709551616) ∧ (0 ≤ s1 ∧ s1 < 18446744073709551616) ∧ (0 ≤ s2 ∧ s2 < 18446744073709551616) ∧ (-9223372036854775808 ≤ fl ∧ fl < 9223372036854775808) ∧ True | _ => False,
  fun | [.i _, .i _, .i _, .i _] => [.b (true)] | _ => []⟩
theorem AheadMirrors_pre {ls : List Leaf} (h_ : C_AheadMirrors.pre ls) : ∃ (s0 : Int) (s1 : Int) (s2 : Int) (fl : Int), ls = [.i s0, .i s1, .i s2, .i fl] ∧ ((0 ≤ s0 ∧ s0 < 18446744073709551616) ∧ (0 ≤ s1 ∧ s1 < 18446744073709551616) ∧ (0 ≤ s2 ∧ s2 < 18446744073709551616) ∧ (-9223372036854775808 ≤ fl ∧ fl < 9223372036854775808) ∧ True) := by
  unfold C_AheadMirrors at h_; dsimp only at h_; split at h_
  · exact ⟨_, _, _, _, rfl, h_⟩
  · exact h_.elim
theorem AheadMirrors_mk {s0 : Int} {s1 : Int} {s2 : Int} {fl : Int} (h_ : (0 ≤ s0 ∧ s0 < 18446744073709551616) ∧ (0 ≤ s1 ∧ s1 < 18446744073709551616) ∧ (0 ≤ s2 ∧ s2 < 18446744073709551616) ∧ (-9223372036854775808 ≤ fl ∧ fl < 9223372036854775808) ∧ True) : C_AheadMirrors.pre [.i s0, .i s1, .i s2, .i fl] := h_
theorem AheadMirrors_res {s0 : Int} {s1 : Int} {s2 : Int} {fl : Int} {rs_ : List Leaf} (h_ : rs_ = C_AheadMirrors.fn [.i s0, .i s1, .i s2, .i fl]) : ∃ (q0 : Bool), q0 = (true) ∧ rs_ = [.b q0] := ⟨_, rfl, h_⟩
def inv_AheadMirrors_7 (s0 : Int) (s1 : Int) (s2 : Int) (f : Int) (c : Int) (u : Int) (d : Int) : Prop := 0 ≤ f ∧ f ≤ 64 ∧ c = N (mirB s0 f.toNat) ∧ u = N (mirB s2 f.toNat) ∧ d = N (mirB s1 f.toNat)
def meas_AheadMirrors_7 (s0 : Int) (s1 : Int) (s2 : Int) (f : Int) (c : Int) (u : Int) (d : Int) : Nat := (64 - f).toNat
def inv_AheadMirrors_22 (l : LV) (i : Int) : Prop := 0 ≤ i ∧ i ≤ (l.len : Int)
def meas_AheadMirrors_22 (l : LV) (i : Int) : Nat := ((l.len : Int) - i).toNat
def phi_AheadMirrors : Fm := (.call 12 [] [] 4 (.and (.imp (.v 4) .false (.ret [(.b (.t .false))])) (.imp (.v 4) .true (.call 13 [] [(.i (.v 3)), (.i (.i 64))] 5 (.loop 7 6 [0, 1, 2] [(.i (.i 0)), (.i (.i 0)), (.i (.i 0)), (.i (.i 0))] [.i, .i, .i, .i] (.and (.imp (.lt (.v 6) (.i 64)) .true (.call 16 [] [(.i (.v 0)), (.i (.v 1)), (.i (.v 2)), (.i (.v 6))] 10 (.and (.imp (.v 10) .true (.ob [] (.le (.i 0) (.wrap .u64 (.wrap .i64 (.sub (.i 63) (.v 6))))) (.call 17 [] [(.i (.v 0)), (.i (.v 1)), (.i (.v 2)), (.i (.v 6)), (.i (.i 1))] 11 (.and (.imp (.v 11) .true (.call 17 [] [(.i (.v 0)), (.i (.v 1)), (.i (.v 2)), (.i (.v 6)), (.i (.i (Int.negSucc 0)))] 12 (.and (.imp (.v 12) .true (.back 7 6 10 [0, 1, 2] [(.i (.wrap .i64 (.add (.v 6) (.i 1)))), (.i (.bit .or .u64 (.v 7) (.shl .u64 (.i 1) (.wrap .u64 (.wrap .i64 (.sub (.i 63) (.v 6))))))), (.i (.bit .or .u64 (.v 8) (.shl .u64 (.i 1) (.wrap .u64 (.wrap .i64 (.sub (.i 63) (.v 6))))))), (.i (.bit .or .u64 (.v 9) (.shl .u64 (.i 1) (.wrap .u64 (.wrap .i64 (.sub (.i 63) (.v 6)))))))])) (.imp (.v 12) .false (.back 7 6 10 [0, 1, 2] [(.i (.wrap .i64 (.add (.v 6) (.i 1)))), (.i (.bit .or .u64 (.v 7) (.shl .u64 (.i 1) (.wrap .u64 (.wrap .i64 (.sub (.i 63) (.v 6))))))), (.i (.v 8)), (.i (.bit .or .u64 (.v 9) (.shl .u64 (.i 1) (.wrap .u64 (.wrap .i64 (.sub (.i 63) (.v 6)))))))]))))) (.imp (.v 11) .false (.call 17 [] [(.i (.v 0)), (.i (.v 1)), (.i (.v 2)), (.i (.v 6)), (.i (.i (Int.negSucc 0)))] 12 (.and (.imp (.v 12) .true (.back 7 6 10 [0, 1, 2] [(.i (.wrap .i64 (.add (.v 6) (.i 1)))), (.i (.bit .or .u64 (.v 7) (.shl .u64 (.i 1) (.wrap .u64 (.wrap .i64 (.sub (.i 63) (.v 6))))))), (.i (.bit .or .u64 (.v 8) (.shl .u64 (.i 1) (.wrap .u64 (.wrap .i64 (.sub (.i 63) (.v 6))))))), (.i (.v 9))])) (.imp (.v 12) .false (.back 7 6 10 [0, 1, 2] [(.i (.wrap .i64 (.add (.v 6) (.i 1)))), (.i (.bit .or .u64 (.v 7) (.shl .u64 (.i 1) (.wrap .u64 (.wrap .i64 (.sub (.i 63) (.v 6))))))), (.i (.v 8)), (.i (.v 9))]))))))))) (.imp (.v 10) .false (.call 17 [] [(.i (.v 0)), (.i (.v 1)), (.i (.v 2)), (.i (.v 6)), (.i (.i 1))] 11 (.and (.imp (.v 11) .true (.ob [] (.le (.i 0) (.wrap .u64 (.wrap .i64 (.sub (.i 63) (.v 6))))) (.call 17 [] [(.i (.v 0)), (.i (.v 1)), (.i (.v 2)), (.i (.v 6)), (.i (.i (Int.negSucc 0)))] 12 (.and (.imp (.v 12) .true (.back 7 6 10 [0, 1, 2] [(.i (.wrap .i64 (.add (.v 6) (.i 1)))), (.i (.v 7)), (.i (.bit .or .u64 (.v 8) (.shl .u64 (.i 1) (.wrap .u64 (.wrap .i64 (.sub (.i 63) (.v 6))))))), (.i (.bit .or .u64 (.v 9) (.shl .u64 (.i 1) (.wrap .u64 (.wrap .i64 (.sub (.i 63) (.v 6)))))))])) (.imp (.v 12) .false (.back 7 6 10 [0, 1, 2] [(.i (.wrap .i64 (.add (.v 6) (.i 1)))), (.i (.v 7)), (.i (.v 8)), (.i (.bit .or .u64 (.v 9) (.shl .u64 (.i 1) (.wrap .u64 (.wrap .i64 (.sub (.i 63) (.v 6)))))))])))))) (.imp (.v 11) .false (.call 17 [] [(.i (.v 0)), (.i (.v 1)), (.i (.v 2)), (.i (.v 6)), (.i (.i (Int.negSucc 0)))] 12 (.and (.imp (.v 12) .true (.ob [] (.le (.i 0) (.wrap .u64 (.wrap .i64 (.sub (.i 63) (.v 6))))) (.back 7 6 10 [0, 1, 2] [(.i (.wrap .i64 (.add (.v 6) (.i 1)))), (.i (.v 7)), (.i (.bit .or .u64 (.v 8) (.shl .u64 (.i 1) (.wrap .u64 (.wrap .i64 (.sub (.i 63) (.v 6))))))), (.i (.v 9))]))) (.imp (.v 12) .false (.back 7 6 10 [0, 1, 2] [(.i (.wrap .i64 (.add (.v 6) (.i 1)))), (.i (.v 7)), (.i (.v 8)), (.i (.v 9))]))))))))))) (.imp (.lt (.v 6) (.i 64)) .false (.call 15 [] [(.i (.v 0)), (.i (.v 1)), (.i (.v 2)), (.i (.v 5))] 10 (.call 15 [] [(.i (.v 7)), (.i (.v 8)), (.i (.v 9)), (.i (.wrap .i64 (.sub (.i 63) (.v 5))))] 11 (.call 14 [] [(.i (.v 0)), (.i (.v 1)), (.i (.v 2))] 12 (.call 14 [] [(.i (.v 7)), (.i (.v 8)), (.i (.v 9))] 13 (.and (.imp (.eq (.len 12) (.len 13)) .false (.ret [(.b (.t .false))])) (.imp (.eq (.len 12) (.len 13)) .true (.loop 22 14 [12] [(.i (.i 0))] [.i] (.and (.imp (.lt (.v 14) (.len 12)) .true (.ob [] (.le (.i 0) (.wrap .i64 (.sub (.wrap .i64 (.sub (.len 13) (.i 1))) (.v 14)))) (.ob [] (.lt (.wrap .i64 (.sub (.wrap .i64 (.sub (.len 13) (.i 1))) (.v 14))) (.len 13)) (.ob [] (.le (.i 0) (.v 14)) (.and (.imp (.eq (.gi 13 0 (.wrap .i64 (.sub (.wrap .i64 (.sub (.len 13) (.i 1))) (.v 14)))) (.wrap .i64 (.sub (.i 63) (.gi 12 0 (.v 14))))) .false (.ret [(.b (.t .false))])) (.imp (.eq (.gi 13 0 (.wrap .i64 (.sub (.wrap .i64 (.sub (.len 13) (.i 1))) (.v 14)))) (.wrap .i64 (.sub (.i 63) (.gi 12 0 (.v 14))))) .true (.back 22 14 15 [12] [(.i (.wrap .i64 (.add (.v 14) (.i 1))))]))))))) (.imp (.lt (.v 14) (.len 12)) .false (.call 18 [((.v 4), .true)] [(.i (.v 0)), (.i (.v 1)), (.i (.v 2)), (.i (.v 5))] 15 (.call 19 [((.v 4), .true)] [(.i (.v 7)), (.i (.v 8)), (.i (.v 9)), (.i (.wrap .i64 (.sub (.i 63) (.v 5))))] 16 (.call 19 [((.beq (.v 15) (.v 16)), .true)] [(.i (.v 0)), (.i (.v 1)), (.i (.v 2)), (.i (.v 5))] 17 (.call 18 [((.beq (.v 15) (.v 16)), .true)] [(.i (.v 7)), (.i (.v 8)), (.i (.v 9)), (.i (.wrap .i64 (.sub (.i 63) (.v 5))))] 18 (.ret [(.b (.ite (.ite (.beq (.v 15) (.v 16)) (.beq (.v 17) (.v 18)) (.t .false)) (.ite (.eq (.v 10) (.wrap .i64 (.sub (.i 0) (.v 11)))) (.t .true) (.ite (.eq (.v 10) (.i 1)) (.eq (.v 11) (.i 1)) (.t .false))) (.t .false)))])))))))))))))))))))))
def tbl_AheadMirrors : List (Nat × Ctr) := [(12, C_first14), (13, C_number), (14, C_floors), (15, C_near), (16, C_at), (17, C_hall), (18, C_above), (19, C_below)]
def inv_AheadMirrors : List Leaf → Nat → List Leaf → Prop := fun _ key xs => match key, xs with
  | 7, [.i s0, .i s1, .i s2, .i f, .i c, .i u, .i d] => inv_AheadMirrors_7 s0 s1 s2 f c u d
  | 22, [.l l, .i i] => inv_AheadMirrors_22 l i
  | _, _ => False
def meas_AheadMirrors : List Leaf → Nat → List Leaf → Nat := fun _ key xs => match key, xs with
  | 7, [.i s0, .i s1, .i s2, .i f, .i c, .i u, .i d] => meas_AheadMirrors_7 s0 s1 s2 f c u d
  | 22, [.l l, .i i] => meas_AheadMirrors_22 l i
  | _, _ => 0
theorem vc_AheadMirrors : vcg Tryd.prog (sigT tbl_AheadMirrors) [⟨7, [19, 20, 21, 22, 23, 24, 25, 26, 27, 28, 29, 30, 31, 32, 33, 34, 35, 36, 37, 38, 39, 40, 41, 42, 43, 44, 45, 46, 47, 48, 49, 50, 51, 52, 53, 54, 55], [7], [(1, 0), (1, 1), (1, 2)], [0, 1, 2], some (3, .i64)⟩, ⟨22, [4, 72, 73, 74, 75, 76, 77, 78, 79, 80, 81, 82, 83, 84, 85, 86, 87, 88, 89, 90, 91], [12], [], [12], some (3, .i64)⟩] Tryd.f4 C_AheadMirrors.params C_AheadMirrors.res = some phi_AheadMirrors := by kernel_rfl

end Go.Proofs.YtppnpmpocnpgaaaDoor
