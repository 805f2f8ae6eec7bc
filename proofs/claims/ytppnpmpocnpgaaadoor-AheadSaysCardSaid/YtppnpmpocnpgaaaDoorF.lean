import Derived.Test.YtppnpmpocnpgaaaDoorVg
import Derived.Test.YtppnpmpocnpgaaaDoorProg
import Derived.Test.YtppnpmpocnpgaaaDoorShelf
import Derived.Lib.ItoaNum
namespace Go.Proofs.YtppnpmpocnpgaaaDoor
open Go.Vg
set_option linter.unusedVariables false
set_option linter.unusedSimpArgs false
theorem mixed : Tryd.prog.follows .mixedOrders = true := by kernel_rfl
def G : World → Prop := TabAt 0 Lib.deBruijn64tab
theorem stable : Stable G := fun w w' h hb j hj => by
  have h1 := h j hj
  rw [Go.RowKit.Below.cell hb (World.block_lt_of_cell? w _ h1)]
  exact h1
open Go

abbrev B (x : Int) : BitVec 64 := BitVec.ofInt 64 x
def N (b : BitVec 64) : Int := (b.toNat : Int)
theorem N_range (b : BitVec 64) : 0 ≤ N b ∧ N b < 18446744073709551616 := by
  have := b.isLt
  unfold N; omega
theorem wrap_u64 {n : Int} : IntKind.wrap .u64 n = n % 18446744073709551616 := by
  simp [IntKind.wrap, IntKind.signed, IntKind.bits]
theorem wrap_N (b : BitVec 64) : IntKind.wrap .u64 (N b) = N b := by
  have := N_range b
  rw [wrap_u64]; omega
theorem B_N (b : BitVec 64) : B (N b) = b := by
  apply BitVec.eq_of_toNat_eq
  simp [B, N]
theorem N_B {x : Int} (h : 0 ≤ x) (h2 : x < 18446744073709551616) : N (B x) = x := by
  unfold N B
  rw [BitVec.toNat_ofInt]; omega
theorem N_inj {a b : BitVec 64} : N a = N b ↔ a = b := ⟨fun h => by rw [← B_N a, h, B_N], fun h => by rw [h]⟩
theorem bv_or (x y : Int) : bitv .or .u64 x y = N (B x ||| B y) := wrap_N _
theorem bv_and (x y : Int) : bitv .and .u64 x y = N (B x &&& B y) := wrap_N _
theorem bv_xor (x y : Int) : bitv .xor .u64 x y = N (B x ^^^ B y) := wrap_N _
theorem bv_andNot (x y : Int) : bitv .andNot .u64 x y = N (B x &&& ~~~ B y) := wrap_N _
theorem B_shl (x : Int) (n : Nat) : B (x * 2 ^ n) = B x <<< n := by
  apply BitVec.eq_of_toNat_eq
  rw [BitVec.toNat_shiftLeft, BitVec.toNat_ofInt, BitVec.toNat_ofInt, Nat.shiftLeft_eq]
  have e : ((2 ^ 64 : Nat) : Int) = 18446744073709551616 := by decide
  have e2 : (2 ^ 64 : Nat) = 18446744073709551616 := by decide
  have e3 : (2 : Int) ^ n = ((2 ^ n : Nat) : Int) := by simp
  rw [e, e2, e3]
  generalize 2 ^ n = m
  apply Int.ofNat_inj.1
  have h1 := Int.emod_nonneg x (show (18446744073709551616 : Int) ≠ 0 by decide)
  have h2 := Int.emod_nonneg (x * m) (show (18446744073709551616 : Int) ≠ 0 by decide)
  rw [Int.toNat_of_nonneg h2, Int.natCast_emod, Int.natCast_mul, Int.toNat_of_nonneg h1]
  show x * m % 18446744073709551616 = (x % 18446744073709551616) * m % 18446744073709551616
  rw [Int.mul_emod x m, Int.mul_emod (x % 18446744073709551616) m, Int.emod_emod_of_dvd x (Int.dvd_refl _)]
theorem bv_shl (x n : Int) : IntKind.wrap .u64 (x * 2 ^ (min n.toNat (IntKind.bits .u64))) = N (B x <<< n.toNat) := by
  have h : ∀ y : Int, IntKind.wrap .u64 y = N (B y) := fun y => by
    rw [wrap_u64]; unfold N B; rw [BitVec.toNat_ofInt]; omega
  rw [h, B_shl]
  congr 1
  simp only [IntKind.bits]
  by_cases hn : n.toNat ≤ 64
  · rw [Nat.min_eq_left hn]
  · rw [Nat.min_eq_right (by omega), BitVec.shiftLeft_eq_zero (by omega), BitVec.shiftLeft_eq_zero (by omega)]
theorem bv_shr (b : BitVec 64) (n : Int) : Int.fdiv (N b) (2 ^ (min n.toNat (IntKind.bits .u64))) = N (b >>> n.toNat) := by
  unfold N
  rw [BitVec.toNat_ushiftRight, Nat.shiftRight_eq_div_pow]
  simp only [IntKind.bits]
  have e3 : ∀ n : Nat, (2 : Int) ^ n = ((2 ^ n : Nat) : Int) := fun n => by simp
  rw [e3, Int.fdiv_eq_ediv_of_nonneg _ (Int.natCast_nonneg _)]
  by_cases hn : n.toNat ≤ 64
  · rw [Nat.min_eq_left hn]; rfl
  · rw [Nat.min_eq_right (by omega)]
    have := b.isLt
    have h2 : (2:Nat)^64 ≤ 2 ^ n.toNat := Nat.pow_le_pow_right (by omega) (by omega)
    rw [Nat.div_eq_of_lt (show b.toNat < 2 ^ n.toNat by omega)]
    have := Nat.div_eq_of_lt (show b.toNat < 2 ^ 64 by omega)
    omega
theorem shr_bit (x : Int) (n : Int) (h : 0 ≤ n) (h2 : n < 64) : (B (Int.fdiv x (2 ^ (min n.toNat (IntKind.bits .u64))))).getLsbD 0 = (B x).getLsbD n.toNat := by
  have e : min n.toNat (IntKind.bits .u64) = n.toNat := by simp [IntKind.bits]; omega
  rw [e]
  generalize hk : n.toNat = k
  have hk2 : k < 64 := by omega
  have e3 : (2 : Int) ^ k = ((2 ^ k : Nat) : Int) := by simp
  rw [e3, Int.fdiv_eq_ediv_of_nonneg _ (Int.natCast_nonneg _)]
  unfold B
  rw [← BitVec.testBit_toNat, ← BitVec.testBit_toNat, BitVec.toNat_ofInt, BitVec.toNat_ofInt, Nat.testBit_eq_decide_div_mod_eq, Nat.testBit_eq_decide_div_mod_eq]
  have e : ((2 ^ 64 : Nat) : Int) = 18446744073709551616 := by decide
  rw [e]
  have hp : 2 ^ k * 2 ^ (64 - k) = 2 ^ 64 := by rw [← Nat.pow_add]; congr 1; omega
  have hq : 2 ^ (64 - k) = 2 * 2 ^ (63 - k) := by rw [← Nat.pow_succ']; congr 1; omega
  have h0 : 0 < 2 ^ k := Nat.pos_of_ne_zero (by simp)
  generalize 2 ^ k = m at *
  generalize 2 ^ (63 - k) = q at *
  rw [hq] at hp
  have hx := Int.emod_add_mul_ediv x 18446744073709551616
  generalize x / 18446744073709551616 = c at hx
  have hr := Int.emod_nonneg x (show (18446744073709551616 : Int) ≠ 0 by decide)
  generalize x % 18446744073709551616 = r at *
  obtain ⟨r, rfl⟩ := Int.eq_ofNat_of_zero_le hr
  have hp2 : (m : Int) * (2 * q) = 18446744073709551616 := by
    have := congrArg (Int.ofNat) hp
    simpa using this
  have hd : x / (m : Int) = r / m + 2 * (q * c) := by
    rw [← hx, ← hp2, show (m : Int) * (2 * q) * c = m * (2 * (q * c)) by simp only [Int.mul_assoc], Int.add_mul_ediv_left _ _ (by omega)]
  rw [hd, show ((r : Int) / (m : Int)) = ((r / m : Nat) : Int) from rfl]
  generalize (q : Int) * c = z
  rw [Int.toNat_natCast, Nat.pow_zero, Nat.div_one]
  generalize r / m = w
  congr 1
  apply propext
  omega

def okf (n : Int) : Bool := decide (0 ≤ n) && decide (n < 64)
theorem okf_iff {n : Int} : okf n = true ↔ 0 ≤ n ∧ n < 64 := by simp [okf]
def isb (b n : Int) : Bool := okf n && (B b).getLsbD n.toNat
def oneB (n : Int) : BitVec 64 := if okf n = true then 1#64 <<< n.toNat else 0#64
def put1 (u fl : Int) (c : Bool) : Int := if c = true then N (B u ||| oneB fl) else u
def hallb (u d n dir : Int) : Bool := (dir == 1 && isb u n) || (dir == -1 && isb d n)
def allB (c u d : Int) : BitVec 64 := B c ||| B u ||| B d
def upB (c u d n : Int) : BitVec 64 := if n < 0 then allB c u d else if 63 ≤ n then 0#64 else allB c u d >>> (n + 1).toNat <<< (n + 1).toNat
def dnB (c u d n : Int) : BitVec 64 := if n < 0 then 0#64 else if 64 ≤ n then allB c u d else allB c u d &&& (1#64 <<< n.toNat - 1#64)
def above (c u d n : Int) : Bool := upB c u d n != 0#64
def below (c u d n : Int) : Bool := dnB c u d n != 0#64
def toward (c u d n dir : Int) : Bool := (dir == 1 && above c u d n) || (dir == -1 && below c u d n)
theorem B_one : B 1 = 1#64 := rfl
theorem B_zero : B 0 = 0#64 := rfl
theorem N_zero : N 0#64 = 0 := rfl
theorem N_eq_zero {b : BitVec 64} : (N b == (0 : Int)) = (b == 0#64) := by
  rw [Bool.eq_iff_iff]; simp only [beq_iff_eq]
  rw [← N_zero, N_inj]
theorem one_bit {k j : Nat} (h : k < 64) : (1#64 <<< k).getLsbD j = decide (j = k) := by
  rw [BitVec.getLsbD_shiftLeft, BitVec.getLsbD_one]
  rw [Bool.eq_iff_iff]; simp; omega
theorem oneB_bit {n : Int} {j : Nat} : (oneB n).getLsbD j = (okf n && decide (j = n.toNat)) := by
  unfold oneB
  split
  · rename_i h
    rw [okf_iff] at h
    rw [one_bit (by omega), (okf_iff).2 h, Bool.true_and]
  · rename_i h
    simp at h
    simp [h]
theorem and_oneB {b : BitVec 64} {n : Int} : (b &&& oneB n == 0#64) = !(okf n && b.getLsbD n.toNat) := by
  rw [Bool.eq_iff_iff]
  simp only [beq_iff_eq, Bool.not_eq_true']
  constructor
  · intro h
    have := congrArg (fun x => x.getLsbD n.toNat) h
    simp only [BitVec.getLsbD_and, oneB_bit, BitVec.getLsbD_zero] at this
    revert this
    cases okf n <;> simp
  · intro h
    apply BitVec.eq_of_getLsbD_eq
    intro i hi
    rw [BitVec.getLsbD_and, oneB_bit, BitVec.getLsbD_zero]
    by_cases hk : i = n.toNat
    · subst hk; revert h; cases okf n <;> simp
    · simp [hk]
theorem and_one_eq (b : BitVec 64) : (N (b &&& 1#64) == (1 : Int)) = b.getLsbD 0 := by
  rw [show ((1 : Int) = N 1#64) from rfl, Bool.eq_iff_iff]
  simp only [beq_iff_eq]
  rw [N_inj]
  constructor
  · intro h
    have := congrArg (fun x => x.getLsbD 0) h
    simpa [BitVec.getLsbD_and] using this
  · intro h
    apply BitVec.eq_of_getLsbD_eq
    intro i hi
    rw [BitVec.getLsbD_and, BitVec.getLsbD_one]
    by_cases hk : i = 0
    · subst hk; simp [h]
    · simp [hk]
theorem bv_sub (x y : Int) : IntKind.wrap .u64 (x - y) = N (B x - B y) := by
  rw [wrap_u64]
  unfold N
  have h := BitVec.toNat_sub (B x) (B y)
  rw [h]
  unfold B
  rw [BitVec.toNat_ofInt, BitVec.toNat_ofInt]; omega
theorem isb_bit {b : Int} {n : Int} (h : 0 ≤ n) (h2 : n < 64) : isb b n = (B b).getLsbD n.toNat := by simp [isb, okf, h, h2]
theorem isb_no {b : Int} {n : Int} (h : n < 0 ∨ 64 ≤ n) : isb b n = false := by simp [isb, okf]; omega
theorem put1_bit {u fl : Int} {c : Bool} {n : Int} : isb (put1 u fl c) n = (isb u n || (c && okf fl && decide (n = fl))) := by
  unfold put1 isb
  cases c <;> simp
  rw [B_N, BitVec.getLsbD_or, oneB_bit]
  rw [Bool.eq_iff_iff]; simp [okf]; grind
theorem put1_twice {u fl : Int} {c : Bool} : put1 (put1 u fl c) fl c = put1 u fl c := by
  unfold put1
  cases c <;> simp
  rw [B_N, N_inj]
  apply BitVec.eq_of_getLsbD_eq
  intro i hi
  simp [BitVec.getLsbD_or]
/-- The first k floors of a list, as car calls. -/
def ofCar (l : LV) : Nat → Int
  | 0 => 0
  | k + 1 => put1 (ofCar l k) (l.gi k 0) (okf (l.gi k 0))
def ofUp (l : LV) : Nat → Int
  | 0 => 0
  | k + 1 => put1 (ofUp l k) (l.gi k 0) (okf (l.gi k 0) && l.gi k 1 == 1)
def ofDn (l : LV) : Nat → Int
  | 0 => 0
  | k + 1 => put1 (ofDn l k) (l.gi k 0) (okf (l.gi k 0) && l.gi k 1 == -1)


open Go in
theorem ctz_bit {b : BitVec 64} (h : b ≠ 0#64) : b.getLsbD (Lib.ctz 64 b.toNat) = true ∧ (∀ i, i < Lib.ctz 64 b.toNat → b.getLsbD i = false) ∧ Lib.ctz 64 b.toNat < 64 := by
  have h0 : b.toNat ≠ 0 := fun e => h (BitVec.eq_of_toNat_eq (by simpa using e))
  obtain ⟨m, hm, hk⟩ := Lib.ctzFrom_spec 64 b.toNat (by omega) b.isLt
  have e : Lib.ctz 64 b.toNat = Lib.ctzFrom 64 b.toNat := by simp [Lib.ctz, h0]
  rw [e]
  generalize Lib.ctzFrom 64 b.toNat = k at *
  refine ⟨?_, fun i hi => ?_, hk⟩
  · rw [← BitVec.testBit_toNat, hm, Nat.testBit_eq_decide_div_mod_eq, Nat.mul_div_cancel_left _ (Nat.pos_of_ne_zero (by simp))]
    simp
  · rw [← BitVec.testBit_toNat, hm, Nat.testBit_eq_decide_div_mod_eq]
    obtain ⟨j, rfl⟩ : ∃ j, k = i + (j + 1) := ⟨k - i - 1, by omega⟩
    rw [Nat.pow_add, Nat.mul_assoc, Nat.mul_div_cancel_left _ (Nat.pos_of_ne_zero (by simp)), Nat.pow_succ]
    simp
    rw [show 2 ^ j * 2 * (2 * m + 1) = 2 * (2 ^ j * (2 * m + 1)) by rw [Nat.mul_comm (2 ^ j) 2, Nat.mul_assoc]]
    omega
theorem len_bit {b : BitVec 64} (h : b ≠ 0#64) : 1 ≤ Lib.bitLen b.toNat ∧ Lib.bitLen b.toNat ≤ 64 ∧ b.getLsbD (Lib.bitLen b.toNat - 1) = true ∧ ∀ i, Lib.bitLen b.toNat ≤ i → b.getLsbD i = false := by
  have h0 : b.toNat ≠ 0 := fun e => h (BitVec.eq_of_toNat_eq (by simpa using e))
  obtain ⟨h1, h2, h3⟩ := Lib.bitLenAux_bounds 64 b.toNat b.isLt h0
  have h4 := Lib.bitLen_le b.toNat 64 (Nat.le_refl _) b.isLt
  unfold Lib.bitLen at *
  generalize Lib.bitLenAux 64 b.toNat = k at *
  refine ⟨h1, h4, ?_, fun i hi => ?_⟩
  · rw [← BitVec.testBit_toNat]
    obtain ⟨j, rfl⟩ : ∃ j, k = j + 1 := ⟨k - 1, by omega⟩
    exact Nat.testBit_of_two_pow_le_and_two_pow_add_one_gt h2 (by simpa using h3)
  · rw [← BitVec.testBit_toNat]
    exact Nat.testBit_lt_two_pow (Nat.lt_of_lt_of_le h3 (Nat.pow_le_pow_right (by omega) hi))
theorem low_bit {n i : Nat} (h : n < 64) : (1#64 <<< n - 1#64).getLsbD i = decide (i < n) := by
  rw [← BitVec.testBit_toNat, BitVec.toNat_sub, BitVec.toNat_shiftLeft]
  have h1 : 2 ^ n < 2 ^ 64 := Nat.pow_lt_pow_right (by omega) h
  have h2 : 0 < 2 ^ n := Nat.pos_of_ne_zero (by simp)
  have e : (2 ^ 64 - (1#64).toNat + (1#64).toNat <<< n % 2 ^ 64) % 2 ^ 64 = 2 ^ n - 1 := by
    rw [show (1#64).toNat = 1 from rfl, Nat.shiftLeft_eq, Nat.one_mul, Nat.mod_eq_of_lt h1]
    omega
  rw [e, Nat.testBit_two_pow_sub_one]
theorem up_bit {c u d n : Int} {i : Nat} : (upB c u d n).getLsbD i = (decide (n < i) && (allB c u d).getLsbD i) := by
  unfold upB
  split
  · rw [decide_eq_true (by omega)]; simp
  · split
    · by_cases h : i < 64
      · rw [decide_eq_false (by omega)]; simp
      · rw [BitVec.getLsbD_of_ge (allB c u d) i (by omega)]; simp
    · rw [BitVec.getLsbD_shiftLeft, BitVec.getLsbD_ushiftRight]
      by_cases h : i < (n + 1).toNat
      · rw [decide_eq_false (show ¬ n < (i : Int) by omega)]; simp [h]
      · rw [decide_eq_true (show n < (i : Int) by omega), show (n + 1).toNat + (i - (n + 1).toNat) = i by omega]
        simp [h]
        intro h2
        have := BitVec.lt_of_getLsbD h2
        exact this
theorem dn_bit {c u d n : Int} {i : Nat} : (dnB c u d n).getLsbD i = (decide ((i : Int) < n) && (allB c u d).getLsbD i) := by
  unfold dnB
  split
  · rw [decide_eq_false (by omega)]; simp
  · split
    · by_cases h : i < 64
      · rw [decide_eq_true (by omega)]; simp
      · rw [BitVec.getLsbD_of_ge (allB c u d) i (by omega)]; simp
    · rw [BitVec.getLsbD_and, low_bit (by omega), Bool.and_comm]
      congr 1
      apply decide_eq_decide.2
      omega
def anyb (c u d n : Int) : Bool := okf n && (allB c u d).getLsbD n.toNat
theorem anyb_nat {c u d : Int} {i : Nat} : anyb c u d i = (allB c u d).getLsbD i := by
  unfold anyb
  by_cases h : i < 64
  · rw [okf_iff.2 (by omega)]; simp
  · rw [BitVec.getLsbD_of_ge (allB c u d) i (by omega)]
    have : okf i = false := by simp [okf]; omega
    rw [this]; rfl
theorem anyb_range {c u d n : Int} (h : anyb c u d n = true) : 0 ≤ n ∧ n < 64 := by
  unfold anyb at h
  rw [Bool.and_eq_true] at h
  exact okf_iff.1 h.1
theorem ne_zero_iff {b : BitVec 64} : b ≠ 0#64 ↔ ∃ i, b.getLsbD i = true := by
  constructor
  · intro h
    exact ⟨_, (ctz_bit h).1⟩
  · rintro ⟨i, h⟩ rfl
    simp at h
theorem above_iff {c u d n : Int} : above c u d n = true ↔ ∃ m : Int, n < m ∧ anyb c u d m = true := by
  unfold above
  rw [bne_iff_ne, ne_zero_iff]
  constructor
  · rintro ⟨i, h⟩
    rw [up_bit, Bool.and_eq_true] at h
    exact ⟨i, of_decide_eq_true h.1, by rw [anyb_nat]; exact h.2⟩
  · rintro ⟨m, h1, h2⟩
    have := anyb_range h2
    refine ⟨m.toNat, ?_⟩
    rw [up_bit, ← anyb_nat, show ((m.toNat : Nat) : Int) = m by omega, h2]
    simpa using h1
theorem below_iff {c u d n : Int} : below c u d n = true ↔ ∃ m : Int, m < n ∧ anyb c u d m = true := by
  unfold below
  rw [bne_iff_ne, ne_zero_iff]
  constructor
  · rintro ⟨i, h⟩
    rw [dn_bit, Bool.and_eq_true] at h
    exact ⟨i, of_decide_eq_true h.1, by rw [anyb_nat]; exact h.2⟩
  · rintro ⟨m, h1, h2⟩
    have := anyb_range h2
    refine ⟨m.toNat, ?_⟩
    rw [dn_bit, ← anyb_nat, show ((m.toNat : Nat) : Int) = m by omega, h2]
    simpa using h1
def near (c u d n : Int) : Int :=
  if upB c u d n = 0#64 then (if dnB c u d n = 0#64 then 0 else -1) else if dnB c u d n = 0#64 then 1
  else if (Lib.ctz 64 (upB c u d n).toNat : Int) - n ≤ n - ((Lib.bitLen (dnB c u d n).toNat : Int) - 1) then 1 else -1
theorem up_low {c u d n : Int} (h : upB c u d n ≠ 0#64) : n < (Lib.ctz 64 (upB c u d n).toNat : Int) ∧ anyb c u d (Lib.ctz 64 (upB c u d n).toNat : Int) = true ∧ ∀ m : Int, n < m → anyb c u d m = true → (Lib.ctz 64 (upB c u d n).toNat : Int) ≤ m := by
  obtain ⟨h1, h2, h3⟩ := ctz_bit h
  generalize Lib.ctz 64 (upB c u d n).toNat = k at *
  rw [up_bit, Bool.and_eq_true] at h1
  refine ⟨of_decide_eq_true h1.1, by rw [anyb_nat]; exact h1.2, fun m hm ha => ?_⟩
  have hr := anyb_range ha
  by_cases hc : m.toNat < k
  · have h4 := h2 _ hc
    rw [up_bit, ← anyb_nat, show ((m.toNat : Nat) : Int) = m by omega, ha, decide_eq_true hm] at h4
    cases h4
  · omega
theorem dn_high {c u d n : Int} (h : dnB c u d n ≠ 0#64) : ((Lib.bitLen (dnB c u d n).toNat : Int) - 1) < n ∧ anyb c u d ((Lib.bitLen (dnB c u d n).toNat : Int) - 1) = true ∧ ∀ m : Int, m < n → anyb c u d m = true → m ≤ (Lib.bitLen (dnB c u d n).toNat : Int) - 1 := by
  obtain ⟨h1, h2, h3, h4⟩ := len_bit h
  generalize Lib.bitLen (dnB c u d n).toNat = k at *
  rw [dn_bit, Bool.and_eq_true] at h3
  have e : ((k - 1 : Nat) : Int) = (k : Int) - 1 := by omega
  rw [← anyb_nat, e] at h3
  refine ⟨of_decide_eq_true h3.1, h3.2, fun m hm ha => ?_⟩
  have hr := anyb_range ha
  by_cases hc : k ≤ m.toNat
  · have h5 := h4 _ hc
    rw [dn_bit, ← anyb_nat, show ((m.toNat : Nat) : Int) = m by omega, ha, decide_eq_true hm] at h5
    cases h5
  · omega
/-- Which way the nearer one lies, told by distances. -/
theorem near_up {c u d n k : Int} (hk : 1 ≤ k) (hj : ∀ j : Int, 1 ≤ j → j < k → anyb c u d (max (-1) (min n 64) + j) = false ∧ anyb c u d (max (-1) (min n 64) - j) = false)
    (h : anyb c u d (max (-1) (min n 64) + k) = true) : near c u d n = 1 := by
  have hr := anyb_range h
  have ha : upB c u d n ≠ 0#64 := bne_iff_ne.1 (above_iff.2 ⟨_, by omega, h⟩)
  unfold near
  rw [if_neg ha]
  split
  · rfl
  · rename_i hb
    obtain ⟨a1, a2, a3⟩ := up_low ha
    obtain ⟨b1, b2, b3⟩ := dn_high hb
    have hr2 := anyb_range a2
    have hr3 := anyb_range b2
    have h5 := a3 _ (show n < max (-1) (min n 64) + k by omega) h
    rw [if_pos]
    rcases Int.lt_or_le (n - ((Lib.bitLen (dnB c u d n).toNat : Int) - 1)) k with h6 | h6
    · have := (hj (n - ((Lib.bitLen (dnB c u d n).toNat : Int) - 1)) (by omega) h6).2
      rw [show max (-1) (min n 64) - (n - ((Lib.bitLen (dnB c u d n).toNat : Int) - 1)) = (Lib.bitLen (dnB c u d n).toNat : Int) - 1 by omega, b2] at this
      cases this
    · omega
theorem near_dn {c u d n k : Int} (hk : 1 ≤ k) (hj : ∀ j : Int, 1 ≤ j → j < k → anyb c u d (max (-1) (min n 64) + j) = false ∧ anyb c u d (max (-1) (min n 64) - j) = false)
    (h0 : anyb c u d (max (-1) (min n 64) + k) = false) (h : anyb c u d (max (-1) (min n 64) - k) = true) : near c u d n = -1 := by
  have hr := anyb_range h
  have hb : dnB c u d n ≠ 0#64 := bne_iff_ne.1 (below_iff.2 ⟨_, by omega, h⟩)
  unfold near
  split
  · rfl
  · rename_i ha
    obtain ⟨a1, a2, a3⟩ := up_low ha
    obtain ⟨b1, b2, b3⟩ := dn_high hb
    have hr2 := anyb_range a2
    have hr3 := anyb_range b2
    have h5 := b3 _ (show max (-1) (min n 64) - k < n by omega) h
    rw [if_neg]
    intro h6
    have h7 : (Lib.ctz 64 (upB c u d n).toNat : Int) - n ≤ k := by omega
    rcases Int.lt_or_le ((Lib.ctz 64 (upB c u d n).toNat : Int) - n) k with h8 | h8
    · have := (hj ((Lib.ctz 64 (upB c u d n).toNat : Int) - n) (by omega) h8).1
      rw [show max (-1) (min n 64) + ((Lib.ctz 64 (upB c u d n).toNat : Int) - n) = (Lib.ctz 64 (upB c u d n).toNat : Int) by omega, a2] at this
      cases this
    · rw [show max (-1) (min n 64) + k = (Lib.ctz 64 (upB c u d n).toNat : Int) by omega, a2] at h0
      cases h0
theorem near_none {c u d n : Int} (hj : ∀ j : Int, 1 ≤ j → j < 65 → anyb c u d (max (-1) (min n 64) + j) = false ∧ anyb c u d (max (-1) (min n 64) - j) = false) : near c u d n = 0 := by
  have ha : upB c u d n = 0#64 := by
    apply Classical.byContradiction
    intro ha
    obtain ⟨a1, a2, _⟩ := up_low ha
    have hr2 := anyb_range a2
    have := (hj ((Lib.ctz 64 (upB c u d n).toNat : Int) - max (-1) (min n 64)) (by omega) (by omega)).1
    rw [show max (-1) (min n 64) + ((Lib.ctz 64 (upB c u d n).toNat : Int) - max (-1) (min n 64)) = (Lib.ctz 64 (upB c u d n).toNat : Int) by omega, a2] at this
    cases this
  have hb : dnB c u d n = 0#64 := by
    apply Classical.byContradiction
    intro hb
    obtain ⟨b1, b2, _⟩ := dn_high hb
    have hr2 := anyb_range b2
    have := (hj (max (-1) (min n 64) - ((Lib.bitLen (dnB c u d n).toNat : Int) - 1)) (by omega) (by omega)).2
    rw [show max (-1) (min n 64) - (max (-1) (min n 64) - ((Lib.bitLen (dnB c u d n).toNat : Int) - 1)) = (Lib.bitLen (dnB c u d n).toNat : Int) - 1 by omega, b2] at this
    cases this
  unfold near
  rw [if_pos ha, if_pos hb]

def way (c u d n dir : Int) : Bool := toward c u d n dir || hallb u d n dir
def turn (c u d n dir : Int) : Int :=
  if (!(dir == 0) && way c u d n dir) = true then dir else if (!(dir == 0) && way c u d n (-dir)) = true then -dir else if (!(dir == 0)) = true then 0
  else if hallb u d n 1 = true then 1 else if hallb u d n (-1) = true then -1 else near c u d n
def okP (n dir : Int) : Bool := okf n && decide (-1 ≤ dir) && decide (dir ≤ 1)
def stopP (c u d n dir : Int) : Bool := okP n dir && (isb c n || hallb u d n (turn c u d n dir))
def dirP (c u d n dir : Int) : Int := if okP n dir = true then turn c u d n dir else 0
def moveP (c u d n dir : Int) : Int := if (okP n dir && !stopP c u d n dir) = true then turn c u d n dir else 0
theorem N_toNat (b : BitVec 64) : (N b).toNat = b.toNat := rfl
theorem okP_iff {n dir : Int} : okP n dir = true ↔ (0 ≤ n ∧ n < 64) ∧ -1 ≤ dir ∧ dir ≤ 1 := by simp [okP, okf, and_assoc]
theorem okP_niff {n dir : Int} : okP n dir = false ↔ ¬ ((0 ≤ n ∧ n < 64) ∧ -1 ≤ dir ∧ dir ≤ 1) := by rw [← okP_iff]; simp
theorem N_B_N {b : BitVec 64} : N (B (N b)) = N b := by rw [B_N]
theorem put1_zero {u fl : Int} (h : N (B u) = u) (c : Bool) : N (B u ||| oneB fl) = put1 u fl (okf fl) := by
  unfold put1 oneB
  cases okf fl <;> simp [h]
theorem ofCar_N (l : LV) : ∀ k, N (B (ofCar l k)) = ofCar l k
  | 0 => rfl
  | k + 1 => by
    rw [ofCar]; unfold put1
    split
    · rw [B_N]
    · exact ofCar_N l k
theorem ofUp_N (l : LV) : ∀ k, N (B (ofUp l k)) = ofUp l k
  | 0 => rfl
  | k + 1 => by
    rw [ofUp]; unfold put1
    split
    · rw [B_N]
    · exact ofUp_N l k
theorem ofDn_N (l : LV) : ∀ k, N (B (ofDn l k)) = ofDn l k
  | 0 => rfl
  | k + 1 => by
    rw [ofDn]; unfold put1
    split
    · rw [B_N]
    · exact ofDn_N l k
theorem N_ne {b : BitVec 64} : (!(N b == (0 : Int))) = (b != 0#64) := by rw [N_eq_zero]; rfl
theorem and_oneB_N (x n : Int) : (!(N (B x &&& oneB n) == (0 : Int))) = isb x n := by
  rw [N_ne]; unfold bne; rw [and_oneB, Bool.not_not]; rfl


def number (n b : Int) : Int := n % b
theorem number_cases (n b : Int) (h : 0 < b) : (Int.tmod n b = n % b ∧ True) ∨ (Int.tmod n b = n % b - b ∧ True) := by
  have h1 := @Int.tmod_eq_emod n b
  split at h1
  · exact .inl ⟨by omega, trivial⟩
  · exact .inr ⟨by rw [h1, Int.natAbs_of_nonneg (by omega)], trivial⟩
theorem number_range (n : Int) {b : Int} (h : 0 < b) : 0 ≤ number n b ∧ number n b < b := ⟨Int.emod_nonneg _ (by omega), Int.emod_lt_of_pos _ h⟩


theorem near_range {c u d n : Int} : -1 ≤ near c u d n ∧ near c u d n ≤ 1 := by
  unfold near
  split
  · split <;> omega
  · split
    · omega
    · split <;> omega
/-- The first k floors at which there is something. -/
def flo (c u d : Int) (k : Nat) : List Int := ((List.range k).map Int.ofNat).filter (anyb c u d)
theorem flo_succ {c u d : Int} {k : Nat} : flo c u d (k + 1) = if anyb c u d k = true then flo c u d k ++ [(k : Int)] else flo c u d k := by
  unfold flo
  rw [List.range_succ, List.map_append, List.filter_append]
  simp only [List.map_cons, List.map_nil, List.filter_cons, List.filter_nil]
  show _ ++ (if anyb c u d (k : Int) = true then [(k : Int)] else []) = _
  split <;> simp
theorem flo_zero {c u d : Int} : flo c u d 0 = [] := rfl
theorem flo_len {c u d : Int} {k : Nat} : (flo c u d k).length ≤ k := by
  unfold flo
  have := List.length_filter_le (anyb c u d) ((List.range k).map Int.ofNat)
  simpa using this
theorem flo_mem {c u d x : Int} {k : Nat} : x ∈ flo c u d k ↔ 0 ≤ x ∧ x < k ∧ anyb c u d x = true := by
  unfold flo
  rw [List.mem_filter, List.mem_map]
  constructor
  · rintro ⟨⟨i, hi, rfl⟩, h⟩
    have := List.mem_range.1 hi
    exact ⟨Int.natCast_nonneg i, Int.ofNat_lt.2 this, h⟩
  · rintro ⟨h1, h2, h3⟩
    exact ⟨⟨x.toNat, List.mem_range.2 (by omega), by show ((x.toNat : Nat) : Int) = x; omega⟩, h3⟩
theorem flo_any {c u d x : Int} : x ∈ flo c u d 64 ↔ anyb c u d x = true := by
  rw [flo_mem]
  constructor
  · exact fun h => h.2.2
  · intro h
    have := anyb_range h
    exact ⟨this.1, by omega, h⟩
theorem flo_get {c u d : Int} {i : Nat} (h : i < (flo c u d 64).length) : anyb c u d ((flo c u d 64).getD i 0) = true := by
  rw [← flo_any, List.getD_eq_getElem?_getD, List.getElem?_eq_getElem h]
  exact List.getElem_mem h
theorem flo_has {c u d x : Int} (h : anyb c u d x = true) : ∃ i, i < (flo c u d 64).length ∧ (flo c u d 64).getD i 0 = x := by
  obtain ⟨i, h1, h2⟩ := List.getElem_of_mem (flo_any.2 h)
  exact ⟨i, h1, by rw [List.getD_eq_getElem?_getD, List.getElem?_eq_getElem h1]; exact h2⟩
theorem flo_nil {c u d : Int} : (flo c u d 64).length = 0 ↔ ∀ x, anyb c u d x = false := by
  constructor
  · intro h x
    cases hx : anyb c u d x
    · rfl
    · obtain ⟨i, h1, _⟩ := flo_has hx
      omega
  · intro h
    cases hl : flo c u d 64 with
    | nil => rfl
    | cons y l =>
      have : y ∈ flo c u d 64 := by rw [hl]; exact List.mem_cons_self ..
      rw [flo_any, h y] at this
      cases this
def floL (c u d : Int) : LV := lvOf (flo c u d 64)
theorem floL_len {c u d : Int} : (floL c u d).len = (flo c u d 64).length := rfl
theorem floL_gi {c u d : Int} {i : Nat} : (floL c u d).gi i 0 = (flo c u d 64).getD i 0 := lvOf_gi _ _
theorem isb_all {c u d n : Int} : isb (N (allB c u d)) n = anyb c u d n := by unfold isb anyb; rw [B_N]
/-- Two slices of numbers that are the same. -/
def sameL (a b : LV) : Bool := a.len == b.len && (List.range a.len).all fun i => a.gi i 0 == b.gi i 0
theorem sameL_refl (a : LV) : sameL a a = true := by simp [sameL]

def C_okf : Ctr := ⟨[.one (.int .i64)], [.one (.bool)],
  fun | [.i _] => True | _ => False,
  fun | [.i n] => [.b (okf n)] | _ => []⟩
theorem okf_pre {ls : List Leaf} (h_ : C_okf.pre ls) : ∃ (n : Int), ls = [.i n] := by
  unfold C_okf at h_; dsimp only at h_; split at h_
  · exact ⟨_, rfl⟩
  · exact h_.elim
theorem okf_res {n : Int} {rs_ : List Leaf} (h_ : rs_ = C_okf.fn [.i n]) : ∃ (q0 : Bool), q0 = (okf n) ∧ rs_ = [.b q0] := ⟨_, rfl, h_⟩
def phi_okf : Fm := (.ret [(.b (.ite (.le (.i 0) (.v 0)) (.lt (.v 0) (.i 64)) (.t .false)))])
def tbl_okf : List (Nat × Ctr) := []
theorem vc_okf : vcg Tryd.prog (sigT tbl_okf) [] Tryd.f45 C_okf.params C_okf.res = some phi_okf := by kernel_rfl
--SPLIT
theorem okf_sound : C_okf.Sound Tryd.prog G 45 := by
  refine fn_ok mixed stable tbl_okf [] Tryd.func45 (by kernel_rfl) phi_okf vc_okf trivial (fun _ _ _ => False) (fun _ _ _ => 0) ?_
  intro ls hp
  obtain ⟨n, rfl⟩ := okf_pre hp
  clear hp
  rw [envOf_lk]
  unfold phi_okf
  suffices hfin : ((if (decide ((0 : Int) ≤ n)) = true then (decide (n < (64 : Int))) else false)) = (okf n) from (c_b hfin rfl)
  -- leaf 1 (ret)
  simp only [okf]
  grind
def C_isb : Ctr := ⟨[.one (.int .u64), .one (.int .i64)], [.one (.bool)],
  fun | [.i _, .i _] => True | _ => False,
  fun | [.i b, .i n] => [.b (isb b n)] | _ => []⟩
theorem isb_pre {ls : List Leaf} (h_ : C_isb.pre ls) : ∃ (b : Int) (n : Int), ls = [.i b, .i n] := by
  unfold C_isb at h_; dsimp only at h_; split at h_
  · exact ⟨_, _, rfl⟩
  · exact h_.elim
theorem isb_res {b : Int} {n : Int} {rs_ : List Leaf} (h_ : rs_ = C_isb.fn [.i b, .i n]) : ∃ (q0 : Bool), q0 = (isb b n) ∧ rs_ = [.b q0] := ⟨_, rfl, h_⟩
def phi_isb : Fm := (.call 45 [] [(.i (.v 1))] 2 (.ob [((.v 2), .true)] (.le (.i 0) (.v 1)) (.ret [(.b (.ite (.v 2) (.eq (.bit .and .u64 (.shr .u64 (.v 0) (.v 1)) (.i 1)) (.i 1)) (.t .false)))])))
def tbl_isb : List (Nat × Ctr) := [(45, C_okf)]
theorem vc_isb : vcg Tryd.prog (sigT tbl_isb) [] Tryd.f38 C_isb.params C_isb.res = some phi_isb := by kernel_rfl
--SPLIT
theorem isb_sound : C_isb.Sound Tryd.prog G 38 := by
  refine fn_ok mixed stable tbl_isb [] Tryd.func38 (by kernel_rfl) phi_isb vc_isb ⟨okf_sound, trivial⟩ (fun _ _ _ => False) (fun _ _ _ => 0) ?_
  intro ls hp
  obtain ⟨b, n, rfl⟩ := isb_pre hp
  clear hp
  rw [envOf_lk]
  unfold phi_isb
  refine vg_call (C := C_okf) rfl rfl (xs := [.i n]) rfl (fun hg => ?_) (fun rs hrs => ?_)
  ·
    exact trivial
  obtain ⟨r2, hr2, rfl⟩ := okf_res hrs
  clear hrs
  change Fm.holds _ _ (lk [.i b, .i n, .b r2])
  refine ⟨fun hg => ?_, ?_⟩
  ·
    simp only [gd_cons, gd_nil, and_true] at hg
    replace hg : r2 = true := hg
    show (decide ((0 : Int) ≤ n)) = true
    -- leaf 1 (ob)
    subst_vars
    rw [okf_iff] at *
    simp; omega
  suffices hfin : ((if r2 = true then ((bitv .and .u64 (Int.fdiv b (2 ^ (min (Int.toNat n) (IntKind.bits .u64)))) (1 : Int)) == (1 : Int)) else false)) = (isb b n) from (c_b hfin rfl)
  -- leaf 2 (ret)
  subst_vars
  unfold isb
  cases h : okf n
  · simp
  · rw [okf_iff] at h
    simp only [bv_and, and_one_eq, B_one, if_true, Bool.true_and]
    rw [shr_bit _ _ h.1 h.2]
def C_put : Ctr := ⟨[.agg [.int .u64, .int .u64, .int .u64], .agg [.int .i64, .int .i64]], [.agg [.int .u64, .int .u64, .int .u64]],
  fun | [.i _, .i _, .i _, .i _, .i _] => True | _ => False,
  fun | [.i s0, .i s1, .i s2, .i fl, .i dir] => [.i (s0), .i (put1 s1 fl (okf fl && dir == 1)), .i (put1 s2 fl (okf fl && dir == -1))] | _ => []⟩
theorem put_pre {ls : List Leaf} (h_ : C_put.pre ls) : ∃ (s0 : Int) (s1 : Int) (s2 : Int) (fl : Int) (dir : Int), ls = [.i s0, .i s1, .i s2, .i fl, .i dir] := by
  unfold C_put at h_; dsimp only at h_; split at h_
  · exact ⟨_, _, _, _, _, rfl⟩
  · exact h_.elim
theorem put_res {s0 : Int} {s1 : Int} {s2 : Int} {fl : Int} {dir : Int} {rs_ : List Leaf} (h_ : rs_ = C_put.fn [.i s0, .i s1, .i s2, .i fl, .i dir]) : ∃ (q0 : Int) (q1 : Int) (q2 : Int), q0 = (s0) ∧ q1 = (put1 s1 fl (okf fl && dir == 1)) ∧ q2 = (put1 s2 fl (okf fl && dir == -1)) ∧ rs_ = [.i q0, .i q1, .i q2] := ⟨_, _, _, rfl, rfl, rfl, h_⟩
def phi_put : Fm := (.call 45 [] [(.i (.v 3))] 5 (.and (.imp (.v 5) .false (.ret [(.i (.v 0)), (.i (.v 1)), (.i (.v 2))])) (.imp (.v 5) .true (.and (.imp (.eq (.v 4) (.i 1)) .true (.ob [] (.le (.i 0) (.v 3)) (.ret [(.i (.v 0)), (.i (.bit .or .u64 (.v 1) (.shl .u64 (.i 1) (.v 3)))), (.i (.v 2))]))) (.imp (.eq (.v 4) (.i 1)) .false (.and (.imp (.eq (.v 4) (.i (Int.negSucc 0))) .true (.ob [] (.le (.i 0) (.v 3)) (.ret [(.i (.v 0)), (.i (.v 1)), (.i (.bit .or .u64 (.v 2) (.shl .u64 (.i 1) (.v 3))))]))) (.imp (.eq (.v 4) (.i (Int.negSucc 0))) .false (.ret [(.i (.v 0)), (.i (.v 1)), (.i (.v 2))]))))))))
def tbl_put : List (Nat × Ctr) := [(45, C_okf)]
theorem vc_put : vcg Tryd.prog (sigT tbl_put) [] Tryd.f25 C_put.params C_put.res = some phi_put := by kernel_rfl
--SPLIT
theorem put_sound : C_put.Sound Tryd.prog G 25 := by
  refine fn_ok mixed stable tbl_put [] Tryd.func25 (by kernel_rfl) phi_put vc_put ⟨okf_sound, trivial⟩ (fun _ _ _ => False) (fun _ _ _ => 0) ?_
  intro ls hp
  obtain ⟨s0, s1, s2, fl, dir, rfl⟩ := put_pre hp
  clear hp
  rw [envOf_lk]
  unfold phi_put
  refine vg_call (C := C_okf) rfl rfl (xs := [.i fl]) rfl (fun hg => ?_) (fun rs hrs => ?_)
  ·
    exact trivial
  obtain ⟨r5, hr5, rfl⟩ := okf_res hrs
  clear hrs
  change Fm.holds _ _ (lk [.i s0, .i s1, .i s2, .i fl, .i dir, .b r5])
  refine ⟨fun hcond => ?_, fun hcond => ?_⟩
  ·
    have c1 : r5 = false := hcond
    clear hcond
    suffices hfin : (s0) = (s0) ∧ (s1) = (put1 s1 fl (okf fl && dir == 1)) ∧ (s2) = (put1 s2 fl (okf fl && dir == -1)) from (c_i hfin.1 (c_i hfin.2.1 (c_i hfin.2.2 rfl)))
    -- leaf 1 (ret)
    subst_vars
    simp only [put1, bv_or, bv_shl, B_N, B_one]
    simp_all [oneB]
  ·
    have c2 : r5 = true := hcond
    clear hcond
    refine ⟨fun hcond => ?_, fun hcond => ?_⟩
    ·
      have c3 : (dir == (1 : Int)) = true := hcond
      clear hcond
      refine ⟨fun hg => ?_, ?_⟩
      ·
        show (decide ((0 : Int) ≤ fl)) = true
        -- leaf 2 (ob)
        subst_vars
        rw [okf_iff] at *
        simp; omega
      suffices hfin : (s0) = (s0) ∧ ((bitv .or .u64 s1 (IntKind.wrap .u64 ((1 : Int) * 2 ^ (min (Int.toNat fl) (IntKind.bits .u64)))))) = (put1 s1 fl (okf fl && dir == 1)) ∧ (s2) = (put1 s2 fl (okf fl && dir == -1)) from (c_i hfin.1 (c_i hfin.2.1 (c_i hfin.2.2 rfl)))
      -- leaf 3 (ret)
      subst_vars
      simp only [put1, bv_or, bv_shl, B_N, B_one]
      simp_all [oneB]
    ·
      have c4 : (dir == (1 : Int)) = false := hcond
      clear hcond
      refine ⟨fun hcond => ?_, fun hcond => ?_⟩
      ·
        have c5 : (dir == (-1)) = true := hcond
        clear hcond
        refine ⟨fun hg => ?_, ?_⟩
        ·
          show (decide ((0 : Int) ≤ fl)) = true
          -- leaf 4 (ob)
          subst_vars
          rw [okf_iff] at *
          simp; omega
        suffices hfin : (s0) = (s0) ∧ (s1) = (put1 s1 fl (okf fl && dir == 1)) ∧ ((bitv .or .u64 s2 (IntKind.wrap .u64 ((1 : Int) * 2 ^ (min (Int.toNat fl) (IntKind.bits .u64)))))) = (put1 s2 fl (okf fl && dir == -1)) from (c_i hfin.1 (c_i hfin.2.1 (c_i hfin.2.2 rfl)))
        -- leaf 5 (ret)
        subst_vars
        simp only [put1, bv_or, bv_shl, B_N, B_one]
        simp_all [oneB]
      ·
        have c6 : (dir == (-1)) = false := hcond
        clear hcond
        suffices hfin : (s0) = (s0) ∧ (s1) = (put1 s1 fl (okf fl && dir == 1)) ∧ (s2) = (put1 s2 fl (okf fl && dir == -1)) from (c_i hfin.1 (c_i hfin.2.1 (c_i hfin.2.2 rfl)))
        -- leaf 6 (ret)
        subst_vars
        simp only [put1, bv_or, bv_shl, B_N, B_one]
        simp_all [oneB]
def C_at : Ctr := ⟨[.agg [.int .u64, .int .u64, .int .u64], .one (.int .i64)], [.one (.bool)],
  fun | [.i _, .i _, .i _, .i _] => True | _ => False,
  fun | [.i s0, .i _, .i _, .i n] => [.b (isb s0 n)] | _ => []⟩
theorem at_pre {ls : List Leaf} (h_ : C_at.pre ls) : ∃ (s0 : Int) (s1 : Int) (s2 : Int) (n : Int), ls = [.i s0, .i s1, .i s2, .i n] := by
  unfold C_at at h_; dsimp only at h_; split at h_
  · exact ⟨_, _, _, _, rfl⟩
  · exact h_.elim
theorem at_res {s0 : Int} {s1 : Int} {s2 : Int} {n : Int} {rs_ : List Leaf} (h_ : rs_ = C_at.fn [.i s0, .i s1, .i s2, .i n]) : ∃ (q0 : Bool), q0 = (isb s0 n) ∧ rs_ = [.b q0] := ⟨_, rfl, h_⟩
def phi_at : Fm := (.call 38 [] [(.i (.v 0)), (.i (.v 3))] 4 (.ret [(.b (.v 4))]))
def tbl_at : List (Nat × Ctr) := [(38, C_isb)]
theorem vc_at : vcg Tryd.prog (sigT tbl_at) [] Tryd.f16 C_at.params C_at.res = some phi_at := by kernel_rfl
--SPLIT
theorem at_sound : C_at.Sound Tryd.prog G 16 := by
  refine fn_ok mixed stable tbl_at [] Tryd.func16 (by kernel_rfl) phi_at vc_at ⟨isb_sound, trivial⟩ (fun _ _ _ => False) (fun _ _ _ => 0) ?_
  intro ls hp
  obtain ⟨s0, s1, s2, n, rfl⟩ := at_pre hp
  clear hp
  rw [envOf_lk]
  unfold phi_at
  refine vg_call (C := C_isb) rfl rfl (xs := [.i s0, .i n]) rfl (fun hg => ?_) (fun rs hrs => ?_)
  ·
    exact trivial
  obtain ⟨r4, hr4, rfl⟩ := isb_res hrs
  clear hrs
  change Fm.holds _ _ (lk [.i s0, .i s1, .i s2, .i n, .b r4])
  suffices hfin : (r4) = (isb s0 n) from (c_b hfin rfl)
  -- leaf 1 (ret)
  subst_vars
  simp
def C_hall : Ctr := ⟨[.agg [.int .u64, .int .u64, .int .u64], .one (.int .i64), .one (.int .i64)], [.one (.bool)],
  fun | [.i _, .i _, .i _, .i _, .i _] => True | _ => False,
  fun | [.i _, .i s1, .i s2, .i n, .i dir] => [.b (hallb s1 s2 n dir)] | _ => []⟩
theorem hall_pre {ls : List Leaf} (h_ : C_hall.pre ls) : ∃ (s0 : Int) (s1 : Int) (s2 : Int) (n : Int) (dir : Int), ls = [.i s0, .i s1, .i s2, .i n, .i dir] := by
  unfold C_hall at h_; dsimp only at h_; split at h_
  · exact ⟨_, _, _, _, _, rfl⟩
  · exact h_.elim
theorem hall_res {s0 : Int} {s1 : Int} {s2 : Int} {n : Int} {dir : Int} {rs_ : List Leaf} (h_ : rs_ = C_hall.fn [.i s0, .i s1, .i s2, .i n, .i dir]) : ∃ (q0 : Bool), q0 = (hallb s1 s2 n dir) ∧ rs_ = [.b q0] := ⟨_, rfl, h_⟩
def phi_hall : Fm := (.call 38 [((.eq (.v 4) (.i 1)), .true)] [(.i (.v 1)), (.i (.v 3))] 5 (.call 38 [((.eq (.v 4) (.i (Int.negSucc 0))), .true), ((.ite (.eq (.v 4) (.i 1)) (.v 5) (.t .false)), .false)] [(.i (.v 2)), (.i (.v 3))] 6 (.ret [(.b (.ite (.ite (.eq (.v 4) (.i 1)) (.v 5) (.t .false)) (.t .true) (.ite (.eq (.v 4) (.i (Int.negSucc 0))) (.v 6) (.t .false))))])))
def tbl_hall : List (Nat × Ctr) := [(38, C_isb)]
theorem vc_hall : vcg Tryd.prog (sigT tbl_hall) [] Tryd.f17 C_hall.params C_hall.res = some phi_hall := by kernel_rfl
--SPLIT
theorem hall_sound : C_hall.Sound Tryd.prog G 17 := by
  refine fn_ok mixed stable tbl_hall [] Tryd.func17 (by kernel_rfl) phi_hall vc_hall ⟨isb_sound, trivial⟩ (fun _ _ _ => False) (fun _ _ _ => 0) ?_
  intro ls hp
  obtain ⟨s0, s1, s2, n, dir, rfl⟩ := hall_pre hp
  clear hp
  rw [envOf_lk]
  unfold phi_hall
  refine vg_call (C := C_isb) rfl rfl (xs := [.i s1, .i n]) rfl (fun hg => ?_) (fun rs hrs => ?_)
  ·
    exact trivial
  obtain ⟨r5, hr5, rfl⟩ := isb_res hrs
  clear hrs
  change Fm.holds _ _ (lk [.i s0, .i s1, .i s2, .i n, .i dir, .b r5])
  refine vg_call (C := C_isb) rfl rfl (xs := [.i s2, .i n]) rfl (fun hg => ?_) (fun rs hrs => ?_)
  ·
    exact trivial
  obtain ⟨r6, hr6, rfl⟩ := isb_res hrs
  clear hrs
  change Fm.holds _ _ (lk [.i s0, .i s1, .i s2, .i n, .i dir, .b r5, .b r6])
  suffices hfin : ((if (if (dir == (1 : Int)) = true then r5 else false) = true then true else (if (dir == (-1)) = true then r6 else false))) = (hallb s1 s2 n dir) from (c_b hfin rfl)
  -- leaf 1 (ret)
  subst_vars
  simp only [hallb]
  grind
def C_all : Ctr := ⟨[.agg [.int .u64, .int .u64, .int .u64]], [.one (.int .u64)],
  fun | [.i _, .i _, .i _] => True | _ => False,
  fun | [.i s0, .i s1, .i s2] => [.i (N (allB s0 s1 s2))] | _ => []⟩
theorem all_pre {ls : List Leaf} (h_ : C_all.pre ls) : ∃ (s0 : Int) (s1 : Int) (s2 : Int), ls = [.i s0, .i s1, .i s2] := by
  unfold C_all at h_; dsimp only at h_; split at h_
  · exact ⟨_, _, _, rfl⟩
  · exact h_.elim
theorem all_res {s0 : Int} {s1 : Int} {s2 : Int} {rs_ : List Leaf} (h_ : rs_ = C_all.fn [.i s0, .i s1, .i s2]) : ∃ (q0 : Int), q0 = (N (allB s0 s1 s2)) ∧ rs_ = [.i q0] := ⟨_, rfl, h_⟩
def phi_all : Fm := (.ret [(.i (.bit .or .u64 (.bit .or .u64 (.v 0) (.v 1)) (.v 2)))])
def tbl_all : List (Nat × Ctr) := []
theorem vc_all : vcg Tryd.prog (sigT tbl_all) [] Tryd.f39 C_all.params C_all.res = some phi_all := by kernel_rfl
--SPLIT
theorem all_sound : C_all.Sound Tryd.prog G 39 := by
  refine fn_ok mixed stable tbl_all [] Tryd.func39 (by kernel_rfl) phi_all vc_all trivial (fun _ _ _ => False) (fun _ _ _ => 0) ?_
  intro ls hp
  obtain ⟨s0, s1, s2, rfl⟩ := all_pre hp
  clear hp
  rw [envOf_lk]
  unfold phi_all
  suffices hfin : ((bitv .or .u64 (bitv .or .u64 s0 s1) s2)) = (N (allB s0 s1 s2)) from (c_i hfin rfl)
  -- leaf 1 (ret)
  simp only [bv_or, B_N, allB]
def C_up : Ctr := ⟨[.agg [.int .u64, .int .u64, .int .u64], .one (.int .i64)], [.one (.int .u64)],
  fun | [.i _, .i _, .i _, .i _] => True | _ => False,
  fun | [.i s0, .i s1, .i s2, .i n] => [.i (N (upB s0 s1 s2 n))] | _ => []⟩
theorem up_pre {ls : List Leaf} (h_ : C_up.pre ls) : ∃ (s0 : Int) (s1 : Int) (s2 : Int) (n : Int), ls = [.i s0, .i s1, .i s2, .i n] := by
  unfold C_up at h_; dsimp only at h_; split at h_
  · exact ⟨_, _, _, _, rfl⟩
  · exact h_.elim
theorem up_res {s0 : Int} {s1 : Int} {s2 : Int} {n : Int} {rs_ : List Leaf} (h_ : rs_ = C_up.fn [.i s0, .i s1, .i s2, .i n]) : ∃ (q0 : Int), q0 = (N (upB s0 s1 s2 n)) ∧ rs_ = [.i q0] := ⟨_, rfl, h_⟩
def phi_up : Fm := (.and (.imp (.lt (.v 3) (.i 0)) .true (.call 39 [] [(.i (.v 0)), (.i (.v 1)), (.i (.v 2))] 4 (.ret [(.i (.v 4))]))) (.imp (.lt (.v 3) (.i 0)) .false (.and (.imp (.le (.i 63) (.v 3)) .true (.ret [(.i (.i 0))])) (.imp (.le (.i 63) (.v 3)) .false (.call 39 [] [(.i (.v 0)), (.i (.v 1)), (.i (.v 2))] 4 (.ob [] (.le (.i 0) (.wrap .i64 (.add (.v 3) (.i 1)))) (.ret [(.i (.shl .u64 (.shr .u64 (.v 4) (.wrap .i64 (.add (.v 3) (.i 1)))) (.wrap .i64 (.add (.v 3) (.i 1)))))])))))))
def tbl_up : List (Nat × Ctr) := [(39, C_all)]
theorem vc_up : vcg Tryd.prog (sigT tbl_up) [] Tryd.f40 C_up.params C_up.res = some phi_up := by kernel_rfl
--SPLIT
theorem up_sound : C_up.Sound Tryd.prog G 40 := by
  refine fn_ok mixed stable tbl_up [] Tryd.func40 (by kernel_rfl) phi_up vc_up ⟨all_sound, trivial⟩ (fun _ _ _ => False) (fun _ _ _ => 0) ?_
  intro ls hp
  obtain ⟨s0, s1, s2, n, rfl⟩ := up_pre hp
  clear hp
  rw [envOf_lk]
  unfold phi_up
  refine ⟨fun hcond => ?_, fun hcond => ?_⟩
  ·
    have c1 : (decide (n < (0 : Int))) = true := hcond
    clear hcond
    refine vg_call (C := C_all) rfl rfl (xs := [.i s0, .i s1, .i s2]) rfl (fun hg => ?_) (fun rs hrs => ?_)
    ·
      exact trivial
    obtain ⟨r4, hr4, rfl⟩ := all_res hrs
    clear hrs
    change Fm.holds _ _ (lk [.i s0, .i s1, .i s2, .i n, .i r4])
    suffices hfin : (r4) = (N (upB s0 s1 s2 n)) from (c_i hfin rfl)
    -- leaf 1 (ret)
    subst_vars
    simp_all [upB]
  ·
    have c2 : (decide (n < (0 : Int))) = false := hcond
    clear hcond
    refine ⟨fun hcond => ?_, fun hcond => ?_⟩
    ·
      have c3 : (decide ((63 : Int) ≤ n)) = true := hcond
      clear hcond
      suffices hfin : ((0 : Int)) = (N (upB s0 s1 s2 n)) from (c_i hfin rfl)
      -- leaf 2 (ret)
      subst_vars
      have c3 := of_decide_eq_true c3
      have : ¬ n < 0 := by omega
      simp [upB, this, c3, N_zero]
    ·
      have c4 : (decide ((63 : Int) ≤ n)) = false := hcond
      clear hcond
      refine vg_call (C := C_all) rfl rfl (xs := [.i s0, .i s1, .i s2]) rfl (fun hg => ?_) (fun rs hrs => ?_)
      ·
        exact trivial
      obtain ⟨r4, hr4, rfl⟩ := all_res hrs
      clear hrs
      change Fm.holds _ _ (lk [.i s0, .i s1, .i s2, .i n, .i r4])
      refine ⟨fun hg => ?_, ?_⟩
      ·
        show (decide ((0 : Int) ≤ (IntKind.wrap .i64 (n + (1 : Int))))) = true
        -- leaf 3 (ob)
        have c2 := of_decide_eq_false c2
        have c4 := of_decide_eq_false c4
        rw [wrap_in (by omega) (by omega)]
        simp; omega
      suffices hfin : ((IntKind.wrap .u64 ((Int.fdiv r4 (2 ^ (min (Int.toNat (IntKind.wrap .i64 (n + (1 : Int)))) (IntKind.bits .u64)))) * 2 ^ (min (Int.toNat (IntKind.wrap .i64 (n + (1 : Int)))) (IntKind.bits .u64))))) = (N (upB s0 s1 s2 n)) from (c_i hfin rfl)
      -- leaf 4 (ret)
      have c2 := of_decide_eq_false c2
      have c4 := of_decide_eq_false c4
      subst_vars
      rw [wrap_in (by omega) (by omega), bv_shr, bv_shl, B_N]
      simp [upB, show ¬ n < 0 by omega, show ¬ 63 ≤ n by omega]
def C_down : Ctr := ⟨[.agg [.int .u64, .int .u64, .int .u64], .one (.int .i64)], [.one (.int .u64)],
  fun | [.i _, .i _, .i _, .i _] => True | _ => False,
  fun | [.i s0, .i s1, .i s2, .i n] => [.i (N (dnB s0 s1 s2 n))] | _ => []⟩
theorem down_pre {ls : List Leaf} (h_ : C_down.pre ls) : ∃ (s0 : Int) (s1 : Int) (s2 : Int) (n : Int), ls = [.i s0, .i s1, .i s2, .i n] := by
  unfold C_down at h_; dsimp only at h_; split at h_
  · exact ⟨_, _, _, _, rfl⟩
  · exact h_.elim
theorem down_res {s0 : Int} {s1 : Int} {s2 : Int} {n : Int} {rs_ : List Leaf} (h_ : rs_ = C_down.fn [.i s0, .i s1, .i s2, .i n]) : ∃ (q0 : Int), q0 = (N (dnB s0 s1 s2 n)) ∧ rs_ = [.i q0] := ⟨_, rfl, h_⟩
def phi_down : Fm := (.and (.imp (.lt (.v 3) (.i 0)) .true (.ret [(.i (.i 0))])) (.imp (.lt (.v 3) (.i 0)) .false (.and (.imp (.le (.i 64) (.v 3)) .true (.call 39 [] [(.i (.v 0)), (.i (.v 1)), (.i (.v 2))] 4 (.ret [(.i (.v 4))]))) (.imp (.le (.i 64) (.v 3)) .false (.call 39 [] [(.i (.v 0)), (.i (.v 1)), (.i (.v 2))] 4 (.ob [] (.le (.i 0) (.v 3)) (.ret [(.i (.bit .and .u64 (.v 4) (.wrap .u64 (.sub (.shl .u64 (.i 1) (.v 3)) (.i 1)))))])))))))
def tbl_down : List (Nat × Ctr) := [(39, C_all)]
theorem vc_down : vcg Tryd.prog (sigT tbl_down) [] Tryd.f41 C_down.params C_down.res = some phi_down := by kernel_rfl
--SPLIT
theorem down_sound : C_down.Sound Tryd.prog G 41 := by
  refine fn_ok mixed stable tbl_down [] Tryd.func41 (by kernel_rfl) phi_down vc_down ⟨all_sound, trivial⟩ (fun _ _ _ => False) (fun _ _ _ => 0) ?_
  intro ls hp
  obtain ⟨s0, s1, s2, n, rfl⟩ := down_pre hp
  clear hp
  rw [envOf_lk]
  unfold phi_down
  refine ⟨fun hcond => ?_, fun hcond => ?_⟩
  ·
    have c1 : (decide (n < (0 : Int))) = true := hcond
    clear hcond
    suffices hfin : ((0 : Int)) = (N (dnB s0 s1 s2 n)) from (c_i hfin rfl)
    -- leaf 1 (ret)
    have c1 := of_decide_eq_true c1
    simp [dnB, c1, N_zero]
  ·
    have c2 : (decide (n < (0 : Int))) = false := hcond
    clear hcond
    refine ⟨fun hcond => ?_, fun hcond => ?_⟩
    ·
      have c3 : (decide ((64 : Int) ≤ n)) = true := hcond
      clear hcond
      refine vg_call (C := C_all) rfl rfl (xs := [.i s0, .i s1, .i s2]) rfl (fun hg => ?_) (fun rs hrs => ?_)
      ·
        exact trivial
      obtain ⟨r4, hr4, rfl⟩ := all_res hrs
      clear hrs
      change Fm.holds _ _ (lk [.i s0, .i s1, .i s2, .i n, .i r4])
      suffices hfin : (r4) = (N (dnB s0 s1 s2 n)) from (c_i hfin rfl)
      -- leaf 2 (ret)
      have c2 := of_decide_eq_false c2
      have c3 := of_decide_eq_true c3
      subst_vars
      simp [dnB, c2, c3]
    ·
      have c4 : (decide ((64 : Int) ≤ n)) = false := hcond
      clear hcond
      refine vg_call (C := C_all) rfl rfl (xs := [.i s0, .i s1, .i s2]) rfl (fun hg => ?_) (fun rs hrs => ?_)
      ·
        exact trivial
      obtain ⟨r4, hr4, rfl⟩ := all_res hrs
      clear hrs
      change Fm.holds _ _ (lk [.i s0, .i s1, .i s2, .i n, .i r4])
      refine ⟨fun hg => ?_, ?_⟩
      ·
        show (decide ((0 : Int) ≤ n)) = true
        -- leaf 3 (ob)
        have c2 := of_decide_eq_false c2
        simp; omega
      suffices hfin : ((bitv .and .u64 r4 (IntKind.wrap .u64 ((IntKind.wrap .u64 ((1 : Int) * 2 ^ (min (Int.toNat n) (IntKind.bits .u64)))) - (1 : Int))))) = (N (dnB s0 s1 s2 n)) from (c_i hfin rfl)
      -- leaf 4 (ret)
      have c2 := of_decide_eq_false c2
      have c4 := of_decide_eq_false c4
      subst_vars
      rw [bv_shl, B_one, show (1 : Int) = N 1#64 from rfl, bv_sub, bv_and, B_N, B_N, B_N, B_N]
      simp [dnB, show ¬ n < 0 by omega, show ¬ 64 ≤ n by omega]
def C_above : Ctr := ⟨[.agg [.int .u64, .int .u64, .int .u64], .one (.int .i64)], [.one (.bool)],
  fun | [.i _, .i _, .i _, .i _] => True | _ => False,
  fun | [.i s0, .i s1, .i s2, .i n] => [.b (above s0 s1 s2 n)] | _ => []⟩
theorem above_pre {ls : List Leaf} (h_ : C_above.pre ls) : ∃ (s0 : Int) (s1 : Int) (s2 : Int) (n : Int), ls = [.i s0, .i s1, .i s2, .i n] := by
  unfold C_above at h_; dsimp only at h_; split at h_
  · exact ⟨_, _, _, _, rfl⟩
  · exact h_.elim
theorem above_res {s0 : Int} {s1 : Int} {s2 : Int} {n : Int} {rs_ : List Leaf} (h_ : rs_ = C_above.fn [.i s0, .i s1, .i s2, .i n]) : ∃ (q0 : Bool), q0 = (above s0 s1 s2 n) ∧ rs_ = [.b q0] := ⟨_, rfl, h_⟩
def phi_above : Fm := (.call 40 [] [(.i (.v 0)), (.i (.v 1)), (.i (.v 2)), (.i (.v 3))] 4 (.ret [(.b (.not (.eq (.v 4) (.i 0))))]))
def tbl_above : List (Nat × Ctr) := [(40, C_up)]
theorem vc_above : vcg Tryd.prog (sigT tbl_above) [] Tryd.f18 C_above.params C_above.res = some phi_above := by kernel_rfl
--SPLIT
theorem above_sound : C_above.Sound Tryd.prog G 18 := by
  refine fn_ok mixed stable tbl_above [] Tryd.func18 (by kernel_rfl) phi_above vc_above ⟨up_sound, trivial⟩ (fun _ _ _ => False) (fun _ _ _ => 0) ?_
  intro ls hp
  obtain ⟨s0, s1, s2, n, rfl⟩ := above_pre hp
  clear hp
  rw [envOf_lk]
  unfold phi_above
  refine vg_call (C := C_up) rfl rfl (xs := [.i s0, .i s1, .i s2, .i n]) rfl (fun hg => ?_) (fun rs hrs => ?_)
  ·
    exact trivial
  obtain ⟨r4, hr4, rfl⟩ := up_res hrs
  clear hrs
  change Fm.holds _ _ (lk [.i s0, .i s1, .i s2, .i n, .i r4])
  suffices hfin : ((!(r4 == (0 : Int)))) = (above s0 s1 s2 n) from (c_b hfin rfl)
  -- leaf 1 (ret)
  subst_vars
  simp [above, N_eq_zero, bne]
def C_below : Ctr := ⟨[.agg [.int .u64, .int .u64, .int .u64], .one (.int .i64)], [.one (.bool)],
  fun | [.i _, .i _, .i _, .i _] => True | _ => False,
  fun | [.i s0, .i s1, .i s2, .i n] => [.b (below s0 s1 s2 n)] | _ => []⟩
theorem below_pre {ls : List Leaf} (h_ : C_below.pre ls) : ∃ (s0 : Int) (s1 : Int) (s2 : Int) (n : Int), ls = [.i s0, .i s1, .i s2, .i n] := by
  unfold C_below at h_; dsimp only at h_; split at h_
  · exact ⟨_, _, _, _, rfl⟩
  · exact h_.elim
theorem below_res {s0 : Int} {s1 : Int} {s2 : Int} {n : Int} {rs_ : List Leaf} (h_ : rs_ = C_below.fn [.i s0, .i s1, .i s2, .i n]) : ∃ (q0 : Bool), q0 = (below s0 s1 s2 n) ∧ rs_ = [.b q0] := ⟨_, rfl, h_⟩
def phi_below : Fm := (.call 41 [] [(.i (.v 0)), (.i (.v 1)), (.i (.v 2)), (.i (.v 3))] 4 (.ret [(.b (.not (.eq (.v 4) (.i 0))))]))
def tbl_below : List (Nat × Ctr) := [(41, C_down)]
theorem vc_below : vcg Tryd.prog (sigT tbl_below) [] Tryd.f19 C_below.params C_below.res = some phi_below := by kernel_rfl
--SPLIT
theorem below_sound : C_below.Sound Tryd.prog G 19 := by
  refine fn_ok mixed stable tbl_below [] Tryd.func19 (by kernel_rfl) phi_below vc_below ⟨down_sound, trivial⟩ (fun _ _ _ => False) (fun _ _ _ => 0) ?_
  intro ls hp
  obtain ⟨s0, s1, s2, n, rfl⟩ := below_pre hp
  clear hp
  rw [envOf_lk]
  unfold phi_below
  refine vg_call (C := C_down) rfl rfl (xs := [.i s0, .i s1, .i s2, .i n]) rfl (fun hg => ?_) (fun rs hrs => ?_)
  ·
    exact trivial
  obtain ⟨r4, hr4, rfl⟩ := down_res hrs
  clear hrs
  change Fm.holds _ _ (lk [.i s0, .i s1, .i s2, .i n, .i r4])
  suffices hfin : ((!(r4 == (0 : Int)))) = (below s0 s1 s2 n) from (c_b hfin rfl)
  -- leaf 1 (ret)
  subst_vars
  simp [below, N_eq_zero, bne]
def C_toward : Ctr := ⟨[.agg [.int .u64, .int .u64, .int .u64], .one (.int .i64), .one (.int .i64)], [.one (.bool)],
  fun | [.i _, .i _, .i _, .i _, .i _] => True | _ => False,
  fun | [.i s0, .i s1, .i s2, .i n, .i dir] => [.b (toward s0 s1 s2 n dir)] | _ => []⟩
theorem toward_pre {ls : List Leaf} (h_ : C_toward.pre ls) : ∃ (s0 : Int) (s1 : Int) (s2 : Int) (n : Int) (dir : Int), ls = [.i s0, .i s1, .i s2, .i n, .i dir] := by
  unfold C_toward at h_; dsimp only at h_; split at h_
  · exact ⟨_, _, _, _, _, rfl⟩
  · exact h_.elim
theorem toward_res {s0 : Int} {s1 : Int} {s2 : Int} {n : Int} {dir : Int} {rs_ : List Leaf} (h_ : rs_ = C_toward.fn [.i s0, .i s1, .i s2, .i n, .i dir]) : ∃ (q0 : Bool), q0 = (toward s0 s1 s2 n dir) ∧ rs_ = [.b q0] := ⟨_, rfl, h_⟩
def phi_toward : Fm := (.call 18 [((.eq (.v 4) (.i 1)), .true)] [(.i (.v 0)), (.i (.v 1)), (.i (.v 2)), (.i (.v 3))] 5 (.call 19 [((.eq (.v 4) (.i (Int.negSucc 0))), .true), ((.ite (.eq (.v 4) (.i 1)) (.v 5) (.t .false)), .false)] [(.i (.v 0)), (.i (.v 1)), (.i (.v 2)), (.i (.v 3))] 6 (.ret [(.b (.ite (.ite (.eq (.v 4) (.i 1)) (.v 5) (.t .false)) (.t .true) (.ite (.eq (.v 4) (.i (Int.negSucc 0))) (.v 6) (.t .false))))])))
def tbl_toward : List (Nat × Ctr) := [(18, C_above), (19, C_below)]
theorem vc_toward : vcg Tryd.prog (sigT tbl_toward) [] Tryd.f31 C_toward.params C_toward.res = some phi_toward := by kernel_rfl
--SPLIT
theorem toward_sound : C_toward.Sound Tryd.prog G 31 := by
  refine fn_ok mixed stable tbl_toward [] Tryd.func31 (by kernel_rfl) phi_toward vc_toward ⟨above_sound, below_sound, trivial⟩ (fun _ _ _ => False) (fun _ _ _ => 0) ?_
  intro ls hp
  obtain ⟨s0, s1, s2, n, dir, rfl⟩ := toward_pre hp
  clear hp
  rw [envOf_lk]
  unfold phi_toward
  refine vg_call (C := C_above) rfl rfl (xs := [.i s0, .i s1, .i s2, .i n]) rfl (fun hg => ?_) (fun rs hrs => ?_)
  ·
    exact trivial
  obtain ⟨r5, hr5, rfl⟩ := above_res hrs
  clear hrs
  change Fm.holds _ _ (lk [.i s0, .i s1, .i s2, .i n, .i dir, .b r5])
  refine vg_call (C := C_below) rfl rfl (xs := [.i s0, .i s1, .i s2, .i n]) rfl (fun hg => ?_) (fun rs hrs => ?_)
  ·
    exact trivial
  obtain ⟨r6, hr6, rfl⟩ := below_res hrs
  clear hrs
  change Fm.holds _ _ (lk [.i s0, .i s1, .i s2, .i n, .i dir, .b r5, .b r6])
  suffices hfin : ((if (if (dir == (1 : Int)) = true then r5 else false) = true then true else (if (dir == (-1)) = true then r6 else false))) = (toward s0 s1 s2 n dir) from (c_b hfin rfl)
  -- leaf 1 (ret)
  subst_vars
  simp only [toward]
  grind
def C_of : Ctr := ⟨[.one (.lst [.int .i64]), .one (.lst [.int .i64, .int .i64, .int .i64])], [.agg [.int .u64, .int .u64, .int .u64]],
  fun | [.l f, .l l] => (f.len : Int) ≤ 1000000 ∧ (l.len : Int) ≤ 1000000 | _ => False,
  fun | [.l f, .l l] => [.i (ofCar f f.len), .i (ofUp l l.len), .i (ofDn l l.len)] | _ => []⟩
theorem of_pre {ls : List Leaf} (h_ : C_of.pre ls) : ∃ (f : LV) (l : LV), ls = [.l f, .l l] ∧ ((f.len : Int) ≤ 1000000 ∧ (l.len : Int) ≤ 1000000) := by
  unfold C_of at h_; dsimp only at h_; split at h_
  · exact ⟨_, _, rfl, h_⟩
  · exact h_.elim
theorem of_mk {f : LV} {l : LV} (h_ : (f.len : Int) ≤ 1000000 ∧ (l.len : Int) ≤ 1000000) : C_of.pre [.l f, .l l] := h_
theorem of_res {f : LV} {l : LV} {rs_ : List Leaf} (h_ : rs_ = C_of.fn [.l f, .l l]) : ∃ (q0 : Int) (q1 : Int) (q2 : Int), q0 = (ofCar f f.len) ∧ q1 = (ofUp l l.len) ∧ q2 = (ofDn l l.len) ∧ rs_ = [.i q0, .i q1, .i q2] := ⟨_, _, _, rfl, rfl, rfl, h_⟩
def inv_of_3 (f : LV) (i : Int) (c : Int) : Prop := 0 ≤ i ∧ i ≤ (f.len : Int) ∧ c = ofCar f i.toNat
def meas_of_3 (f : LV) (i : Int) (c : Int) : Nat := ((f.len : Int) - i).toNat
def inv_of_9 (f : LV) (l : LV) (i : Int) (c : Int) (u : Int) (d : Int) : Prop := 0 ≤ i ∧ i ≤ (l.len : Int) ∧ c = ofCar f f.len ∧ u = ofUp l i.toNat ∧ d = ofDn l i.toNat
def meas_of_9 (f : LV) (l : LV) (i : Int) (c : Int) (u : Int) (d : Int) : Nat := ((l.len : Int) - i).toNat
def phi_of : Fm := (.loop 3 2 [0] [(.i (.i 0)), (.i (.i 0))] [.i, .i] (.and (.imp (.lt (.v 2) (.len 0)) .true (.ob [] (.le (.i 0) (.v 2)) (.call 45 [] [(.i (.gi 0 0 (.v 2)))] 4 (.and (.imp (.v 4) .true (.ob [] (.le (.i 0) (.gi 0 0 (.v 2))) (.back 3 2 4 [0] [(.i (.wrap .i64 (.add (.v 2) (.i 1)))), (.i (.bit .or .u64 (.v 3) (.shl .u64 (.i 1) (.gi 0 0 (.v 2)))))]))) (.imp (.v 4) .false (.back 3 2 4 [0] [(.i (.wrap .i64 (.add (.v 2) (.i 1)))), (.i (.v 3))])))))) (.imp (.lt (.v 2) (.len 0)) .false (.loop 9 4 [0, 1] [(.i (.i 0)), (.i (.v 3)), (.i (.i 0)), (.i (.i 0))] [.i, .i, .i, .i] (.and (.imp (.lt (.v 4) (.len 1)) .true (.ob [] (.le (.i 0) (.v 4)) (.call 25 [] [(.i (.v 5)), (.i (.v 6)), (.i (.v 7)), (.i (.gi 1 0 (.v 4))), (.i (.gi 1 1 (.v 4)))] 8 (.back 9 4 8 [0, 1] [(.i (.wrap .i64 (.add (.v 4) (.i 1)))), (.i (.v 8)), (.i (.v 9)), (.i (.v 10))])))) (.imp (.lt (.v 4) (.len 1)) .false (.ret [(.i (.v 5)), (.i (.v 6)), (.i (.v 7))])))))))
def tbl_of : List (Nat × Ctr) := [(25, C_put), (45, C_okf)]
def inv_of : List Leaf → Nat → List Leaf → Prop := fun _ key xs => match key, xs with
  | 3, [.l f, .i i, .i c] => inv_of_3 f i c
  | 9, [.l f, .l l, .i i, .i c, .i u, .i d] => inv_of_9 f l i c u d
  | _, _ => False
def meas_of : List Leaf → Nat → List Leaf → Nat := fun _ key xs => match key, xs with
  | 3, [.l f, .i i, .i c] => meas_of_3 f i c
  | 9, [.l f, .l l, .i i, .i c, .i u, .i d] => meas_of_9 f l i c u d
  | _, _ => 0
theorem vc_of : vcg Tryd.prog (sigT tbl_of) [⟨3, [7, 13, 14, 15, 16, 17, 18, 19, 20, 21, 22, 23, 24], [12], [(1, 0)], [0], some (3, .i64)⟩, ⟨9, [9, 28, 29, 30, 31, 32, 33, 34, 35], [27], [(1, 0), (1, 1), (1, 2)], [0, 1], some (3, .i64)⟩] Tryd.f23 C_of.params C_of.res = some phi_of := by kernel_rfl
--SPLIT
theorem of_sound : C_of.Sound Tryd.prog G 23 := by
  refine fn_ok mixed stable tbl_of [⟨3, [7, 13, 14, 15, 16, 17, 18, 19, 20, 21, 22, 23, 24], [12], [(1, 0)], [0], some (3, .i64)⟩, ⟨9, [9, 28, 29, 30, 31, 32, 33, 34, 35], [27], [(1, 0), (1, 1), (1, 2)], [0, 1], some (3, .i64)⟩] Tryd.func23 (by kernel_rfl) phi_of vc_of ⟨put_sound, okf_sound, trivial⟩ inv_of meas_of ?_
  intro ls hp
  obtain ⟨f, l, rfl, hpre⟩ := of_pre hp
  clear hp
  rw [envOf_lk]
  unfold phi_of
  refine vg_loop rfl ?_ (fun xs hfit hi => ?_)
  ·
    show inv_of_3 f (0 : Int) (0 : Int)
    -- leaf 1 (init)
    exact ⟨by omega, by omega, rfl⟩
  obtain ⟨x2, xs0, rfl, hfit0⟩ := fits_i hfit
  obtain ⟨x3, xs1, rfl, hfit1⟩ := fits_i hfit0
  obtain rfl := fits_nil hfit1
  clear hfit hfit0 hfit1
  replace hi : inv_of_3 f x2 x3 := hi
  have hi3 := hi; clear hi
  change Fm.holds _ _ (lk [.l f, .l l, .i x2, .i x3])
  obtain ⟨i0, i1, i2⟩ := hi3
  have e1 : IntKind.wrap .i64 (x2 + 1) = x2 + 1 := wrap_in (by omega) (by omega)
  have e2 : (x2 + 1).toNat = x2.toNat + 1 := by omega
  refine ⟨fun hcond => ?_, fun hcond => ?_⟩
  ·
    have c1 : (decide (x2 < (f.len : Int))) = true := hcond
    clear hcond
    refine ⟨fun hg => ?_, ?_⟩
    ·
      show (decide ((0 : Int) ≤ x2)) = true
      -- leaf 2 (ob)
      simp; omega
    refine vg_call (C := C_okf) rfl rfl (xs := [.i (f.gi (Int.toNat x2) 0)]) rfl (fun hg => ?_) (fun rs hrs => ?_)
    ·
      exact trivial
    obtain ⟨r4, hr4, rfl⟩ := okf_res hrs
    clear hrs
    change Fm.holds _ _ (lk [.l f, .l l, .i x2, .i x3, .b r4])
    refine ⟨fun hcond => ?_, fun hcond => ?_⟩
    ·
      have c2 : r4 = true := hcond
      clear hcond
      refine ⟨fun hg => ?_, ?_⟩
      ·
        show (decide ((0 : Int) ≤ (f.gi (Int.toNat x2) 0))) = true
        -- leaf 3 (ob)
        rw [hr4, okf_iff] at c2
        simp; omega
      refine ⟨?_, ?_⟩
      ·
        show inv_of_3 f (IntKind.wrap .i64 (x2 + (1 : Int))) (bitv .or .u64 x3 (IntKind.wrap .u64 ((1 : Int) * 2 ^ (min (Int.toNat (f.gi (Int.toNat x2) 0)) (IntKind.bits .u64)))))
        -- leaf 4 (back)
        have hlt := of_decide_eq_true c1
        rw [hr4] at c2
        rw [e1]
        refine ⟨by omega, by omega, ?_⟩
        rw [e2, ofCar, put1, oneB]
        rw [bv_shl, bv_or, B_N, B_one, ← i2]
        simp [c2]
      ·
        show meas_of_3 f (IntKind.wrap .i64 (x2 + (1 : Int))) (bitv .or .u64 x3 (IntKind.wrap .u64 ((1 : Int) * 2 ^ (min (Int.toNat (f.gi (Int.toNat x2) 0)) (IntKind.bits .u64))))) < meas_of_3 f x2 x3
        -- leaf 5 (meas)
        first
        | (have hlt := of_decide_eq_true c1; unfold meas_of_3; rw [e1]; omega)
        | (have hlt := of_decide_eq_true c5; unfold meas_of_9; rw [e3]; omega)
    ·
      have c3 : r4 = false := hcond
      clear hcond
      refine ⟨?_, ?_⟩
      ·
        show inv_of_3 f (IntKind.wrap .i64 (x2 + (1 : Int))) x3
        -- leaf 6 (back)
        have hlt := of_decide_eq_true c1
        rw [hr4] at c3
        rw [e1]
        refine ⟨by omega, by omega, ?_⟩
        rw [e2, ofCar, put1]
        simp [c3, i2]
      ·
        show meas_of_3 f (IntKind.wrap .i64 (x2 + (1 : Int))) x3 < meas_of_3 f x2 x3
        -- leaf 7 (meas)
        first
        | (have hlt := of_decide_eq_true c1; unfold meas_of_3; rw [e1]; omega)
        | (have hlt := of_decide_eq_true c5; unfold meas_of_9; rw [e3]; omega)
  ·
    have c4 : (decide (x2 < (f.len : Int))) = false := hcond
    clear hcond
    refine vg_loop rfl ?_ (fun xs hfit hi => ?_)
    ·
      show inv_of_9 f l (0 : Int) x3 (0 : Int) (0 : Int)
      -- leaf 8 (init)
      have hlt := of_decide_eq_false c4
      refine ⟨by omega, by omega, ?_, rfl, rfl⟩
      have : x2.toNat = f.len := by omega
      rw [i2, this]
    obtain ⟨x4, xs0, rfl, hfit0⟩ := fits_i hfit
    obtain ⟨x5, xs1, rfl, hfit1⟩ := fits_i hfit0
    obtain ⟨x6, xs2, rfl, hfit2⟩ := fits_i hfit1
    obtain ⟨x7, xs3, rfl, hfit3⟩ := fits_i hfit2
    obtain rfl := fits_nil hfit3
    clear hfit hfit0 hfit1 hfit2 hfit3
    replace hi : inv_of_9 f l x4 x5 x6 x7 := hi
    have hi9 := hi; clear hi
    change Fm.holds _ _ (lk [.l f, .l l, .i x2, .i x3, .i x4, .i x5, .i x6, .i x7])
    obtain ⟨k0, k1, k2, k3, k4⟩ := hi9
    have e3 : IntKind.wrap .i64 (x4 + 1) = x4 + 1 := wrap_in (by omega) (by omega)
    have e4 : (x4 + 1).toNat = x4.toNat + 1 := by omega
    refine ⟨fun hcond => ?_, fun hcond => ?_⟩
    ·
      have c5 : (decide (x4 < (l.len : Int))) = true := hcond
      clear hcond
      refine ⟨fun hg => ?_, ?_⟩
      ·
        show (decide ((0 : Int) ≤ x4)) = true
        -- leaf 9 (ob)
        simp; omega
      refine vg_call (C := C_put) rfl rfl (xs := [.i x5, .i x6, .i x7, .i (l.gi (Int.toNat x4) 0), .i (l.gi (Int.toNat x4) 1)]) rfl (fun hg => ?_) (fun rs hrs => ?_)
      ·
        exact trivial
      obtain ⟨r8, r9, r10, hr8, hr9, hr10, rfl⟩ := put_res hrs
      clear hrs
      change Fm.holds _ _ (lk [.l f, .l l, .i x2, .i x3, .i x4, .i x5, .i x6, .i x7, .i r8, .i r9, .i r10])
      refine ⟨?_, ?_⟩
      ·
        show inv_of_9 f l (IntKind.wrap .i64 (x4 + (1 : Int))) r8 r9 r10
        -- leaf 10 (back)
        have hlt := of_decide_eq_true c5
        rw [e3]
        refine ⟨by omega, by omega, by rw [hr8, k2], ?_, ?_⟩
        · rw [e4, ofUp, hr9, k3]
        · rw [e4, ofDn, hr10, k4]
      ·
        show meas_of_9 f l (IntKind.wrap .i64 (x4 + (1 : Int))) r8 r9 r10 < meas_of_9 f l x4 x5 x6 x7
        -- leaf 11 (meas)
        first
        | (have hlt := of_decide_eq_true c1; unfold meas_of_3; rw [e1]; omega)
        | (have hlt := of_decide_eq_true c5; unfold meas_of_9; rw [e3]; omega)
    ·
      have c6 : (decide (x4 < (l.len : Int))) = false := hcond
      clear hcond
      suffices hfin : (x5) = (ofCar f f.len) ∧ (x6) = (ofUp l l.len) ∧ (x7) = (ofDn l l.len) from (c_i hfin.1 (c_i hfin.2.1 (c_i hfin.2.2 rfl)))
      -- leaf 12 (ret)
      have hlt := of_decide_eq_false c6
      have : x4.toNat = l.len := by omega
      rw [k2, k3, k4, this]
      exact ⟨rfl, rfl, rfl⟩
def C_tz : Ctr := ⟨[.one (.int .u64)], [.one (.int .i64)],
  fun | [.i x] => 0 ≤ x ∧ x < 18446744073709551616 | _ => False,
  fun | [.i x] => [.i ((Lib.ctz 64 x.toNat : Int))] | _ => []⟩
theorem tz_pre {ls : List Leaf} (h_ : C_tz.pre ls) : ∃ (x : Int), ls = [.i x] ∧ (0 ≤ x ∧ x < 18446744073709551616) := by
  unfold C_tz at h_; dsimp only at h_; split at h_
  · exact ⟨_, rfl, h_⟩
  · exact h_.elim
theorem tz_mk {x : Int} (h_ : 0 ≤ x ∧ x < 18446744073709551616) : C_tz.pre [.i x] := h_
theorem tz_res {x : Int} {rs_ : List Leaf} (h_ : rs_ = C_tz.fn [.i x]) : ∃ (q0 : Int), q0 = ((Lib.ctz 64 x.toNat : Int)) ∧ rs_ = [.i q0] := ⟨_, rfl, h_⟩
theorem tz_sound : C_tz.Sound Tryd.prog G 42 := by
  refine ⟨⟨_, Tryd.func42, by kernel_rfl, by kernel_rfl⟩, ?_⟩
  intro ls S w hG hp _
  obtain ⟨x, rfl, h0, h1⟩ := tz_pre hp
  have h := Any7.bits_TrailingZeros64 Tryd.lays29 x.toNat (by omega) w (fun _ => hG)
  have e : ((x.toNat : Nat) : Int) = x := by omega
  rw [e] at h
  refine Calls.mono (show Calls Tryd.prog 42 #[.int .u64 x] w _ from h) ?_
  rintro e w' ⟨rfl, rfl⟩
  exact ⟨Go.RowKit.Below.refl _ _, _, rfl, fun _ => undef, rfl, fun p hp => by cases hp⟩
def C_len64 : Ctr := ⟨[.one (.int .u64)], [.one (.int .i64)],
  fun | [.i x] => 0 ≤ x ∧ x < 18446744073709551616 | _ => False,
  fun | [.i x] => [.i ((Lib.bitLen x.toNat : Int))] | _ => []⟩
theorem len64_pre {ls : List Leaf} (h_ : C_len64.pre ls) : ∃ (x : Int), ls = [.i x] ∧ (0 ≤ x ∧ x < 18446744073709551616) := by
  unfold C_len64 at h_; dsimp only at h_; split at h_
  · exact ⟨_, rfl, h_⟩
  · exact h_.elim
theorem len64_mk {x : Int} (h_ : 0 ≤ x ∧ x < 18446744073709551616) : C_len64.pre [.i x] := h_
theorem len64_res {x : Int} {rs_ : List Leaf} (h_ : rs_ = C_len64.fn [.i x]) : ∃ (q0 : Int), q0 = ((Lib.bitLen x.toNat : Int)) ∧ rs_ = [.i q0] := ⟨_, rfl, h_⟩
theorem len64_sound : C_len64.Sound Tryd.prog G 43 := by
  refine ⟨⟨_, Tryd.func43, by kernel_rfl, by kernel_rfl⟩, ?_⟩
  intro ls S w hG hp _
  obtain ⟨x, rfl, h0, h1⟩ := len64_pre hp
  have h := Tryd.bits_Len64 x w h0 (by omega)
  have e : ((x.toNat : Nat) : Int) = x := by omega
  skip
  refine Calls.mono (show Calls Tryd.prog 43 #[.int .u64 x] w _ from h) ?_
  rintro e w' ⟨rfl, rfl⟩
  exact ⟨Go.RowKit.Below.refl _ _, _, rfl, fun _ => undef, rfl, fun p hp => by cases hp⟩
def C_near : Ctr := ⟨[.agg [.int .u64, .int .u64, .int .u64], .one (.int .i64)], [.one (.int .i64)],
  fun | [.i _, .i _, .i _, .i _] => True | _ => False,
  fun | [.i s0, .i s1, .i s2, .i n] => [.i (near s0 s1 s2 n)] | _ => []⟩
theorem near_pre {ls : List Leaf} (h_ : C_near.pre ls) : ∃ (s0 : Int) (s1 : Int) (s2 : Int) (n : Int), ls = [.i s0, .i s1, .i s2, .i n] := by
  unfold C_near at h_; dsimp only at h_; split at h_
  · exact ⟨_, _, _, _, rfl⟩
  · exact h_.elim
theorem near_res {s0 : Int} {s1 : Int} {s2 : Int} {n : Int} {rs_ : List Leaf} (h_ : rs_ = C_near.fn [.i s0, .i s1, .i s2, .i n]) : ∃ (q0 : Int), q0 = (near s0 s1 s2 n) ∧ rs_ = [.i q0] := ⟨_, rfl, h_⟩
def phi_near : Fm := (.call 40 [] [(.i (.v 0)), (.i (.v 1)), (.i (.v 2)), (.i (.v 3))] 4 (.call 41 [] [(.i (.v 0)), (.i (.v 1)), (.i (.v 2)), (.i (.v 3))] 5 (.and (.imp (.ite (.eq (.v 4) (.i 0)) (.eq (.v 5) (.i 0)) (.t .false)) .true (.ret [(.i (.i 0))])) (.imp (.ite (.eq (.v 4) (.i 0)) (.eq (.v 5) (.i 0)) (.t .false)) .false (.and (.imp (.eq (.v 5) (.i 0)) .true (.ret [(.i (.i 1))])) (.imp (.eq (.v 5) (.i 0)) .false (.and (.imp (.eq (.v 4) (.i 0)) .true (.ret [(.i (.i (Int.negSucc 0)))])) (.imp (.eq (.v 4) (.i 0)) .false (.call 42 [] [(.i (.v 4))] 6 (.call 43 [] [(.i (.v 5))] 7 (.and (.imp (.le (.wrap .i64 (.sub (.v 6) (.v 3))) (.wrap .i64 (.sub (.v 3) (.wrap .i64 (.sub (.v 7) (.i 1)))))) .true (.ret [(.i (.i 1))])) (.imp (.le (.wrap .i64 (.sub (.v 6) (.v 3))) (.wrap .i64 (.sub (.v 3) (.wrap .i64 (.sub (.v 7) (.i 1)))))) .false (.ret [(.i (.i (Int.negSucc 0)))])))))))))))))
def tbl_near : List (Nat × Ctr) := [(40, C_up), (41, C_down), (42, C_tz), (43, C_len64)]
theorem vc_near : vcg Tryd.prog (sigT tbl_near) [] Tryd.f15 C_near.params C_near.res = some phi_near := by kernel_rfl
--SPLIT
theorem near_sound : C_near.Sound Tryd.prog G 15 := by
  refine fn_ok mixed stable tbl_near [] Tryd.func15 (by kernel_rfl) phi_near vc_near ⟨up_sound, down_sound, tz_sound, len64_sound, trivial⟩ (fun _ _ _ => False) (fun _ _ _ => 0) ?_
  intro ls hp
  obtain ⟨s0, s1, s2, n, rfl⟩ := near_pre hp
  clear hp
  rw [envOf_lk]
  unfold phi_near
  refine vg_call (C := C_up) rfl rfl (xs := [.i s0, .i s1, .i s2, .i n]) rfl (fun hg => ?_) (fun rs hrs => ?_)
  ·
    exact trivial
  obtain ⟨r4, hr4, rfl⟩ := up_res hrs
  clear hrs
  change Fm.holds _ _ (lk [.i s0, .i s1, .i s2, .i n, .i r4])
  refine vg_call (C := C_down) rfl rfl (xs := [.i s0, .i s1, .i s2, .i n]) rfl (fun hg => ?_) (fun rs hrs => ?_)
  ·
    exact trivial
  obtain ⟨r5, hr5, rfl⟩ := down_res hrs
  clear hrs
  change Fm.holds _ _ (lk [.i s0, .i s1, .i s2, .i n, .i r4, .i r5])
  refine ⟨fun hcond => ?_, fun hcond => ?_⟩
  ·
    have c1 : (if (r4 == (0 : Int)) = true then (r5 == (0 : Int)) else false) = true := hcond
    clear hcond
    suffices hfin : ((0 : Int)) = (near s0 s1 s2 n) from (c_i hfin rfl)
    -- leaf 1 (ret)
    simp [hr4, hr5, N_eq_zero] at c1
    simp [near, c1.1, c1.2]
  ·
    have c2 : (if (r4 == (0 : Int)) = true then (r5 == (0 : Int)) else false) = false := hcond
    clear hcond
    refine ⟨fun hcond => ?_, fun hcond => ?_⟩
    ·
      have c3 : (r5 == (0 : Int)) = true := hcond
      clear hcond
      suffices hfin : ((1 : Int)) = (near s0 s1 s2 n) from (c_i hfin rfl)
      -- leaf 2 (ret)
      simp [hr4, hr5, N_eq_zero] at c2 c3
      have : ¬ upB s0 s1 s2 n = 0#64 := fun h => c2 h c3
      simp [near, this, c3]
    ·
      have c4 : (r5 == (0 : Int)) = false := hcond
      clear hcond
      refine ⟨fun hcond => ?_, fun hcond => ?_⟩
      ·
        have c5 : (r4 == (0 : Int)) = true := hcond
        clear hcond
        suffices hfin : ((-1)) = (near s0 s1 s2 n) from (c_i hfin rfl)
        -- leaf 3 (ret)
        simp [hr4, hr5, N_eq_zero] at c4 c5
        simp [near, c4, c5]
      ·
        have c6 : (r4 == (0 : Int)) = false := hcond
        clear hcond
        refine vg_call (C := C_tz) rfl rfl (xs := [.i r4]) rfl (fun hg => ?_) (fun rs hrs => ?_)
        ·
          refine tz_mk ?_
          -- leaf 4 (pre)
          rw [hr4]; exact N_range _
        obtain ⟨r6, hr6, rfl⟩ := tz_res hrs
        clear hrs
        change Fm.holds _ _ (lk [.i s0, .i s1, .i s2, .i n, .i r4, .i r5, .i r6])
        refine vg_call (C := C_len64) rfl rfl (xs := [.i r5]) rfl (fun hg => ?_) (fun rs hrs => ?_)
        ·
          refine len64_mk ?_
          -- leaf 5 (pre)
          rw [hr5]; exact N_range _
        obtain ⟨r7, hr7, rfl⟩ := len64_res hrs
        clear hrs
        change Fm.holds _ _ (lk [.i s0, .i s1, .i s2, .i n, .i r4, .i r5, .i r6, .i r7])
        simp [hr4, hr5, N_eq_zero] at c4 c6
        obtain ⟨a1, a2, _⟩ := up_low c6
        obtain ⟨b1, b2, _⟩ := dn_high c4
        have a3 := anyb_range a2
        have b3 := anyb_range b2
        rw [hr4, N_toNat] at hr6
        rw [hr5, N_toNat] at hr7
        rw [← hr6] at a1 a3
        rw [← hr7] at b1 b3
        have e1 : IntKind.wrap .i64 (r6 - n) = r6 - n := wrap_in (by omega) (by omega)
        have e2 : IntKind.wrap .i64 (r7 - 1) = r7 - 1 := wrap_in (by omega) (by omega)
        have e3 : IntKind.wrap .i64 (n - (r7 - 1)) = n - (r7 - 1) := wrap_in (by omega) (by omega)
        refine ⟨fun hcond => ?_, fun hcond => ?_⟩
        ·
          have c7 : (decide ((IntKind.wrap .i64 (r6 - n)) ≤ (IntKind.wrap .i64 (n - (IntKind.wrap .i64 (r7 - (1 : Int))))))) = true := hcond
          clear hcond
          suffices hfin : ((1 : Int)) = (near s0 s1 s2 n) from (c_i hfin rfl)
          -- leaf 6 (ret)
          simp only [e1, e2, e3, decide_eq_true_eq, decide_eq_false_iff_not] at *
          simp only [near, if_neg c4, if_neg c6, ← hr6, ← hr7]
          first
          | rw [if_pos (by assumption)]
          | rw [if_neg (by assumption)]
        ·
          have c8 : (decide ((IntKind.wrap .i64 (r6 - n)) ≤ (IntKind.wrap .i64 (n - (IntKind.wrap .i64 (r7 - (1 : Int))))))) = false := hcond
          clear hcond
          suffices hfin : ((-1)) = (near s0 s1 s2 n) from (c_i hfin rfl)
          -- leaf 7 (ret)
          simp only [e1, e2, e3, decide_eq_true_eq, decide_eq_false_iff_not] at *
          simp only [near, if_neg c4, if_neg c6, ← hr6, ← hr7]
          first
          | rw [if_pos (by assumption)]
          | rw [if_neg (by assumption)]
def C_way : Ctr := ⟨[.agg [.int .u64, .int .u64, .int .u64], .one (.int .i64), .one (.int .i64)], [.one (.bool)],
  fun | [.i _, .i _, .i _, .i _, .i _] => True | _ => False,
  fun | [.i s0, .i s1, .i s2, .i n, .i dir] => [.b (way s0 s1 s2 n dir)] | _ => []⟩
theorem way_pre {ls : List Leaf} (h_ : C_way.pre ls) : ∃ (s0 : Int) (s1 : Int) (s2 : Int) (n : Int) (dir : Int), ls = [.i s0, .i s1, .i s2, .i n, .i dir] := by
  unfold C_way at h_; dsimp only at h_; split at h_
  · exact ⟨_, _, _, _, _, rfl⟩
  · exact h_.elim
theorem way_res {s0 : Int} {s1 : Int} {s2 : Int} {n : Int} {dir : Int} {rs_ : List Leaf} (h_ : rs_ = C_way.fn [.i s0, .i s1, .i s2, .i n, .i dir]) : ∃ (q0 : Bool), q0 = (way s0 s1 s2 n dir) ∧ rs_ = [.b q0] := ⟨_, rfl, h_⟩
def phi_way : Fm := (.call 31 [] [(.i (.v 0)), (.i (.v 1)), (.i (.v 2)), (.i (.v 3)), (.i (.v 4))] 5 (.call 17 [((.v 5), .false)] [(.i (.v 0)), (.i (.v 1)), (.i (.v 2)), (.i (.v 3)), (.i (.v 4))] 6 (.ret [(.b (.ite (.v 5) (.t .true) (.v 6)))])))
def tbl_way : List (Nat × Ctr) := [(17, C_hall), (31, C_toward)]
theorem vc_way : vcg Tryd.prog (sigT tbl_way) [] Tryd.f47 C_way.params C_way.res = some phi_way := by kernel_rfl
--SPLIT
theorem way_sound : C_way.Sound Tryd.prog G 47 := by
  refine fn_ok mixed stable tbl_way [] Tryd.func47 (by kernel_rfl) phi_way vc_way ⟨hall_sound, toward_sound, trivial⟩ (fun _ _ _ => False) (fun _ _ _ => 0) ?_
  intro ls hp
  obtain ⟨s0, s1, s2, n, dir, rfl⟩ := way_pre hp
  clear hp
  rw [envOf_lk]
  unfold phi_way
  refine vg_call (C := C_toward) rfl rfl (xs := [.i s0, .i s1, .i s2, .i n, .i dir]) rfl (fun hg => ?_) (fun rs hrs => ?_)
  ·
    exact trivial
  obtain ⟨r5, hr5, rfl⟩ := toward_res hrs
  clear hrs
  change Fm.holds _ _ (lk [.i s0, .i s1, .i s2, .i n, .i dir, .b r5])
  refine vg_call (C := C_hall) rfl rfl (xs := [.i s0, .i s1, .i s2, .i n, .i dir]) rfl (fun hg => ?_) (fun rs hrs => ?_)
  ·
    exact trivial
  obtain ⟨r6, hr6, rfl⟩ := hall_res hrs
  clear hrs
  change Fm.holds _ _ (lk [.i s0, .i s1, .i s2, .i n, .i dir, .b r5, .b r6])
  suffices hfin : ((if r5 = true then true else r6)) = (way s0 s1 s2 n dir) from (c_b hfin rfl)
  -- leaf 1 (ret)
  subst_vars
  simp only [way]
  grind
def C_turn : Ctr := ⟨[.agg [.int .u64, .int .u64, .int .u64], .one (.int .i64), .one (.int .i64)], [.one (.int .i64)],
  fun | [.i s0, .i s1, .i s2, .i n, .i dir] => -1 ≤ dir ∧ dir ≤ 1 | _ => False,
  fun | [.i s0, .i s1, .i s2, .i n, .i dir] => [.i (turn s0 s1 s2 n dir)] | _ => []⟩
theorem turn_pre {ls : List Leaf} (h_ : C_turn.pre ls) : ∃ (s0 : Int) (s1 : Int) (s2 : Int) (n : Int) (dir : Int), ls = [.i s0, .i s1, .i s2, .i n, .i dir] ∧ (-1 ≤ dir ∧ dir ≤ 1) := by
  unfold C_turn at h_; dsimp only at h_; split at h_
  · exact ⟨_, _, _, _, _, rfl, h_⟩
  · exact h_.elim
theorem turn_mk {s0 : Int} {s1 : Int} {s2 : Int} {n : Int} {dir : Int} (h_ : -1 ≤ dir ∧ dir ≤ 1) : C_turn.pre [.i s0, .i s1, .i s2, .i n, .i dir] := h_
theorem turn_res {s0 : Int} {s1 : Int} {s2 : Int} {n : Int} {dir : Int} {rs_ : List Leaf} (h_ : rs_ = C_turn.fn [.i s0, .i s1, .i s2, .i n, .i dir]) : ∃ (q0 : Int), q0 = (turn s0 s1 s2 n dir) ∧ rs_ = [.i q0] := ⟨_, rfl, h_⟩
def phi_turn : Fm := (.call 47 [((.not (.eq (.v 4) (.i 0))), .true)] [(.i (.v 0)), (.i (.v 1)), (.i (.v 2)), (.i (.v 3)), (.i (.v 4))] 5 (.and (.imp (.ite (.not (.eq (.v 4) (.i 0))) (.v 5) (.t .false)) .true (.ret [(.i (.v 4))])) (.imp (.ite (.not (.eq (.v 4) (.i 0))) (.v 5) (.t .false)) .false (.call 47 [((.not (.eq (.v 4) (.i 0))), .true)] [(.i (.v 0)), (.i (.v 1)), (.i (.v 2)), (.i (.v 3)), (.i (.wrap .i64 (.sub (.i 0) (.v 4))))] 6 (.and (.imp (.ite (.not (.eq (.v 4) (.i 0))) (.v 6) (.t .false)) .true (.ret [(.i (.wrap .i64 (.sub (.i 0) (.v 4))))])) (.imp (.ite (.not (.eq (.v 4) (.i 0))) (.v 6) (.t .false)) .false (.and (.imp (.eq (.v 4) (.i 0)) .false (.ret [(.i (.i 0))])) (.imp (.eq (.v 4) (.i 0)) .true (.call 17 [] [(.i (.v 0)), (.i (.v 1)), (.i (.v 2)), (.i (.v 3)), (.i (.i 1))] 7 (.and (.imp (.v 7) .true (.ret [(.i (.i 1))])) (.imp (.v 7) .false (.call 17 [] [(.i (.v 0)), (.i (.v 1)), (.i (.v 2)), (.i (.v 3)), (.i (.i (Int.negSucc 0)))] 8 (.and (.imp (.v 8) .true (.ret [(.i (.i (Int.negSucc 0)))])) (.imp (.v 8) .false (.call 15 [] [(.i (.v 0)), (.i (.v 1)), (.i (.v 2)), (.i (.v 3))] 9 (.ret [(.i (.v 9))]))))))))))))))))
def tbl_turn : List (Nat × Ctr) := [(15, C_near), (17, C_hall), (47, C_way)]
theorem vc_turn : vcg Tryd.prog (sigT tbl_turn) [] Tryd.f46 C_turn.params C_turn.res = some phi_turn := by kernel_rfl
--SPLIT
theorem turn_sound : C_turn.Sound Tryd.prog G 46 := by
  refine fn_ok mixed stable tbl_turn [] Tryd.func46 (by kernel_rfl) phi_turn vc_turn ⟨near_sound, hall_sound, way_sound, trivial⟩ (fun _ _ _ => False) (fun _ _ _ => 0) ?_
  intro ls hp
  obtain ⟨s0, s1, s2, n, dir, rfl, hpre⟩ := turn_pre hp
  clear hp
  rw [envOf_lk]
  unfold phi_turn
  refine vg_call (C := C_way) rfl rfl (xs := [.i s0, .i s1, .i s2, .i n, .i dir]) rfl (fun hg => ?_) (fun rs hrs => ?_)
  ·
    exact trivial
  obtain ⟨r5, hr5, rfl⟩ := way_res hrs
  clear hrs
  change Fm.holds _ _ (lk [.i s0, .i s1, .i s2, .i n, .i dir, .b r5])
  refine ⟨fun hcond => ?_, fun hcond => ?_⟩
  ·
    have c1 : (if (!(dir == (0 : Int))) = true then r5 else false) = true := hcond
    clear hcond
    suffices hfin : (dir) = (turn s0 s1 s2 n dir) from (c_i hfin rfl)
    -- leaf 1 (ret)
    have e0 : IntKind.wrap .i64 (0 - dir) = -dir := by rw [wrap_in (by omega) (by omega)]; omega
    try rw [e0] at hr6
    simp_all [turn]
  ·
    have c2 : (if (!(dir == (0 : Int))) = true then r5 else false) = false := hcond
    clear hcond
    refine vg_call (C := C_way) rfl rfl (xs := [.i s0, .i s1, .i s2, .i n, .i (IntKind.wrap .i64 ((0 : Int) - dir))]) rfl (fun hg => ?_) (fun rs hrs => ?_)
    ·
      exact trivial
    obtain ⟨r6, hr6, rfl⟩ := way_res hrs
    clear hrs
    change Fm.holds _ _ (lk [.i s0, .i s1, .i s2, .i n, .i dir, .b r5, .b r6])
    refine ⟨fun hcond => ?_, fun hcond => ?_⟩
    ·
      have c3 : (if (!(dir == (0 : Int))) = true then r6 else false) = true := hcond
      clear hcond
      suffices hfin : ((IntKind.wrap .i64 ((0 : Int) - dir))) = (turn s0 s1 s2 n dir) from (c_i hfin rfl)
      -- leaf 2 (ret)
      have e0 : IntKind.wrap .i64 (0 - dir) = -dir := by rw [wrap_in (by omega) (by omega)]; omega
      try rw [e0] at hr6
      simp_all [turn]
    ·
      have c4 : (if (!(dir == (0 : Int))) = true then r6 else false) = false := hcond
      clear hcond
      refine ⟨fun hcond => ?_, fun hcond => ?_⟩
      ·
        have c5 : (dir == (0 : Int)) = false := hcond
        clear hcond
        suffices hfin : ((0 : Int)) = (turn s0 s1 s2 n dir) from (c_i hfin rfl)
        -- leaf 3 (ret)
        have e0 : IntKind.wrap .i64 (0 - dir) = -dir := by rw [wrap_in (by omega) (by omega)]; omega
        try rw [e0] at hr6
        simp_all [turn]
      ·
        have c6 : (dir == (0 : Int)) = true := hcond
        clear hcond
        refine vg_call (C := C_hall) rfl rfl (xs := [.i s0, .i s1, .i s2, .i n, .i (1 : Int)]) rfl (fun hg => ?_) (fun rs hrs => ?_)
        ·
          exact trivial
        obtain ⟨r7, hr7, rfl⟩ := hall_res hrs
        clear hrs
        change Fm.holds _ _ (lk [.i s0, .i s1, .i s2, .i n, .i dir, .b r5, .b r6, .b r7])
        refine ⟨fun hcond => ?_, fun hcond => ?_⟩
        ·
          have c7 : r7 = true := hcond
          clear hcond
          suffices hfin : ((1 : Int)) = (turn s0 s1 s2 n dir) from (c_i hfin rfl)
          -- leaf 4 (ret)
          have e0 : IntKind.wrap .i64 (0 - dir) = -dir := by rw [wrap_in (by omega) (by omega)]; omega
          try rw [e0] at hr6
          simp_all [turn]
        ·
          have c8 : r7 = false := hcond
          clear hcond
          refine vg_call (C := C_hall) rfl rfl (xs := [.i s0, .i s1, .i s2, .i n, .i (-1)]) rfl (fun hg => ?_) (fun rs hrs => ?_)
          ·
            exact trivial
          obtain ⟨r8, hr8, rfl⟩ := hall_res hrs
          clear hrs
          change Fm.holds _ _ (lk [.i s0, .i s1, .i s2, .i n, .i dir, .b r5, .b r6, .b r7, .b r8])
          refine ⟨fun hcond => ?_, fun hcond => ?_⟩
          ·
            have c9 : r8 = true := hcond
            clear hcond
            suffices hfin : ((-1)) = (turn s0 s1 s2 n dir) from (c_i hfin rfl)
            -- leaf 5 (ret)
            have e0 : IntKind.wrap .i64 (0 - dir) = -dir := by rw [wrap_in (by omega) (by omega)]; omega
            try rw [e0] at hr6
            simp_all [turn]
          ·
            have c10 : r8 = false := hcond
            clear hcond
            refine vg_call (C := C_near) rfl rfl (xs := [.i s0, .i s1, .i s2, .i n]) rfl (fun hg => ?_) (fun rs hrs => ?_)
            ·
              exact trivial
            obtain ⟨r9, hr9, rfl⟩ := near_res hrs
            clear hrs
            change Fm.holds _ _ (lk [.i s0, .i s1, .i s2, .i n, .i dir, .b r5, .b r6, .b r7, .b r8, .i r9])
            suffices hfin : (r9) = (turn s0 s1 s2 n dir) from (c_i hfin rfl)
            -- leaf 6 (ret)
            have e0 : IntKind.wrap .i64 (0 - dir) = -dir := by rw [wrap_in (by omega) (by omega)]; omega
            try rw [e0] at hr6
            simp_all [turn]
def C_planat : Ctr := ⟨[.agg [.int .u64, .int .u64, .int .u64], .one (.int .i64), .one (.int .i64)], [.agg [.bool, .int .i64, .int .i64]],
  fun | [.i _, .i _, .i _, .i _, .i _] => True | _ => False,
  fun | [.i s0, .i s1, .i s2, .i n, .i dir] => [.b (stopP s0 s1 s2 n dir), .i (dirP s0 s1 s2 n dir), .i (moveP s0 s1 s2 n dir)] | _ => []⟩
theorem planat_pre {ls : List Leaf} (h_ : C_planat.pre ls) : ∃ (s0 : Int) (s1 : Int) (s2 : Int) (n : Int) (dir : Int), ls = [.i s0, .i s1, .i s2, .i n, .i dir] := by
  unfold C_planat at h_; dsimp only at h_; split at h_
  · exact ⟨_, _, _, _, _, rfl⟩
  · exact h_.elim
theorem planat_res {s0 : Int} {s1 : Int} {s2 : Int} {n : Int} {dir : Int} {rs_ : List Leaf} (h_ : rs_ = C_planat.fn [.i s0, .i s1, .i s2, .i n, .i dir]) : ∃ (q0 : Bool) (q1 : Int) (q2 : Int), q0 = (stopP s0 s1 s2 n dir) ∧ q1 = (dirP s0 s1 s2 n dir) ∧ q2 = (moveP s0 s1 s2 n dir) ∧ rs_ = [.b q0, .i q1, .i q2] := ⟨_, _, _, rfl, rfl, rfl, h_⟩
def phi_planat : Fm := (.and (.imp (.ite (.ite (.ite (.lt (.v 3) (.i 0)) (.t .true) (.le (.i 64) (.v 3))) (.t .true) (.lt (.v 4) (.i (Int.negSucc 0)))) (.t .true) (.lt (.i 1) (.v 4))) .true (.ret [(.b (.t .false)), (.i (.i 0)), (.i (.i 0))])) (.imp (.ite (.ite (.ite (.lt (.v 3) (.i 0)) (.t .true) (.le (.i 64) (.v 3))) (.t .true) (.lt (.v 4) (.i (Int.negSucc 0)))) (.t .true) (.lt (.i 1) (.v 4))) .false (.call 46 [] [(.i (.v 0)), (.i (.v 1)), (.i (.v 2)), (.i (.v 3)), (.i (.v 4))] 5 (.call 16 [] [(.i (.v 0)), (.i (.v 1)), (.i (.v 2)), (.i (.v 3))] 6 (.call 17 [((.v 6), .false)] [(.i (.v 0)), (.i (.v 1)), (.i (.v 2)), (.i (.v 3)), (.i (.v 5))] 7 (.and (.imp (.ite (.v 6) (.t .true) (.v 7)) .false (.ret [(.b (.ite (.v 6) (.t .true) (.v 7))), (.i (.v 5)), (.i (.v 5))])) (.imp (.ite (.v 6) (.t .true) (.v 7)) .true (.ret [(.b (.ite (.v 6) (.t .true) (.v 7))), (.i (.v 5)), (.i (.i 0))]))))))))
def tbl_planat : List (Nat × Ctr) := [(16, C_at), (17, C_hall), (46, C_turn)]
theorem vc_planat : vcg Tryd.prog (sigT tbl_planat) [] Tryd.f36 C_planat.params C_planat.res = some phi_planat := by kernel_rfl
--SPLIT
theorem planat_sound : C_planat.Sound Tryd.prog G 36 := by
  refine fn_ok mixed stable tbl_planat [] Tryd.func36 (by kernel_rfl) phi_planat vc_planat ⟨at_sound, hall_sound, turn_sound, trivial⟩ (fun _ _ _ => False) (fun _ _ _ => 0) ?_
  intro ls hp
  obtain ⟨s0, s1, s2, n, dir, rfl⟩ := planat_pre hp
  clear hp
  rw [envOf_lk]
  unfold phi_planat
  refine ⟨fun hcond => ?_, fun hcond => ?_⟩
  ·
    have c1 : (if (if (if (decide (n < (0 : Int))) = true then true else (decide ((64 : Int) ≤ n))) = true then true else (decide (dir < (-1)))) = true then true else (decide ((1 : Int) < dir))) = true := hcond
    clear hcond
    suffices hfin : (false) = (stopP s0 s1 s2 n dir) ∧ ((0 : Int)) = (dirP s0 s1 s2 n dir) ∧ ((0 : Int)) = (moveP s0 s1 s2 n dir) from (c_b hfin.1 (c_i hfin.2.1 (c_i hfin.2.2 rfl)))
    -- leaf 1 (ret)
    have hok : okP n dir = false := by
      rw [okP_niff]; simp at c1; omega
    simp [stopP, dirP, moveP, hok]
  ·
    have c2 : (if (if (if (decide (n < (0 : Int))) = true then true else (decide ((64 : Int) ≤ n))) = true then true else (decide (dir < (-1)))) = true then true else (decide ((1 : Int) < dir))) = false := hcond
    clear hcond
    refine vg_call (C := C_turn) rfl rfl (xs := [.i s0, .i s1, .i s2, .i n, .i dir]) rfl (fun hg => ?_) (fun rs hrs => ?_)
    ·
      refine turn_mk ?_
      -- leaf 2 (pre)
      simp at c2; omega
    obtain ⟨r5, hr5, rfl⟩ := turn_res hrs
    clear hrs
    change Fm.holds _ _ (lk [.i s0, .i s1, .i s2, .i n, .i dir, .i r5])
    refine vg_call (C := C_at) rfl rfl (xs := [.i s0, .i s1, .i s2, .i n]) rfl (fun hg => ?_) (fun rs hrs => ?_)
    ·
      exact trivial
    obtain ⟨r6, hr6, rfl⟩ := at_res hrs
    clear hrs
    change Fm.holds _ _ (lk [.i s0, .i s1, .i s2, .i n, .i dir, .i r5, .b r6])
    refine vg_call (C := C_hall) rfl rfl (xs := [.i s0, .i s1, .i s2, .i n, .i r5]) rfl (fun hg => ?_) (fun rs hrs => ?_)
    ·
      exact trivial
    obtain ⟨r7, hr7, rfl⟩ := hall_res hrs
    clear hrs
    change Fm.holds _ _ (lk [.i s0, .i s1, .i s2, .i n, .i dir, .i r5, .b r6, .b r7])
    refine ⟨fun hcond => ?_, fun hcond => ?_⟩
    ·
      have c3 : (if r6 = true then true else r7) = false := hcond
      clear hcond
      suffices hfin : ((if r6 = true then true else r7)) = (stopP s0 s1 s2 n dir) ∧ (r5) = (dirP s0 s1 s2 n dir) ∧ (r5) = (moveP s0 s1 s2 n dir) from (c_b hfin.1 (c_i hfin.2.1 (c_i hfin.2.2 rfl)))
      -- leaf 3 (ret)
      have hok : okP n dir = true := by
        rw [okP_iff]; simp at c2; omega
      subst_vars
      cases h1 : isb s0 n <;> cases h2 : hallb s1 s2 n (turn s0 s1 s2 n dir) <;> simp_all [stopP, dirP, moveP]
    ·
      have c4 : (if r6 = true then true else r7) = true := hcond
      clear hcond
      suffices hfin : ((if r6 = true then true else r7)) = (stopP s0 s1 s2 n dir) ∧ (r5) = (dirP s0 s1 s2 n dir) ∧ ((0 : Int)) = (moveP s0 s1 s2 n dir) from (c_b hfin.1 (c_i hfin.2.1 (c_i hfin.2.2 rfl)))
      -- leaf 4 (ret)
      have hok : okP n dir = true := by
        rw [okP_iff]; simp at c2; omega
      subst_vars
      cases h1 : isb s0 n <;> cases h2 : hallb s1 s2 n (turn s0 s1 s2 n dir) <;> simp_all [stopP, dirP, moveP]
def C_rone : Ctr := ⟨[.one (.int .i64)], [.one (.int .u64)],
  fun | [.i _] => True | _ => False,
  fun | [.i n] => [.i (N (oneB n))] | _ => []⟩
theorem rone_pre {ls : List Leaf} (h_ : C_rone.pre ls) : ∃ (n : Int), ls = [.i n] := by
  unfold C_rone at h_; dsimp only at h_; split at h_
  · exact ⟨_, rfl⟩
  · exact h_.elim
theorem rone_res {n : Int} {rs_ : List Leaf} (h_ : rs_ = C_rone.fn [.i n]) : ∃ (q0 : Int), q0 = (N (oneB n)) ∧ rs_ = [.i q0] := ⟨_, rfl, h_⟩
def phi_rone : Fm := (.and (.imp (.ite (.lt (.v 0) (.i 0)) (.t .true) (.le (.i 64) (.v 0))) .true (.ret [(.i (.i 0))])) (.imp (.ite (.lt (.v 0) (.i 0)) (.t .true) (.le (.i 64) (.v 0))) .false (.ob [] (.le (.i 0) (.wrap .u64 (.v 0))) (.ret [(.i (.shl .u64 (.i 1) (.wrap .u64 (.v 0))))]))))
def tbl_rone : List (Nat × Ctr) := []
theorem vc_rone : vcg Tryd.prog (sigT tbl_rone) [] Tryd.f44 C_rone.params C_rone.res = some phi_rone := by kernel_rfl
--SPLIT
theorem rone_sound : C_rone.Sound Tryd.prog G 44 := by
  refine fn_ok mixed stable tbl_rone [] Tryd.func44 (by kernel_rfl) phi_rone vc_rone trivial (fun _ _ _ => False) (fun _ _ _ => 0) ?_
  intro ls hp
  obtain ⟨n, rfl⟩ := rone_pre hp
  clear hp
  rw [envOf_lk]
  unfold phi_rone
  refine ⟨fun hcond => ?_, fun hcond => ?_⟩
  ·
    have c1 : (if (decide (n < (0 : Int))) = true then true else (decide ((64 : Int) ≤ n))) = true := hcond
    clear hcond
    suffices hfin : ((0 : Int)) = (N (oneB n)) from (c_i hfin rfl)
    -- leaf 1 (ret)
    have : okf n = false := by rw [← Bool.not_eq_true, okf_iff]; simp at c1; omega
    simp [oneB, this, N_zero]
  ·
    have c2 : (if (decide (n < (0 : Int))) = true then true else (decide ((64 : Int) ≤ n))) = false := hcond
    clear hcond
    refine ⟨fun hg => ?_, ?_⟩
    ·
      show (decide ((0 : Int) ≤ (IntKind.wrap .u64 n))) = true
      -- leaf 2 (ob)
      simp at c2
      rw [wrap_u64]
      simp; omega
    suffices hfin : ((IntKind.wrap .u64 ((1 : Int) * 2 ^ (min (Int.toNat (IntKind.wrap .u64 n)) (IntKind.bits .u64))))) = (N (oneB n)) from (c_i hfin rfl)
    -- leaf 3 (ret)
    simp at c2
    have e : IntKind.wrap .u64 n = n := by rw [wrap_u64]; omega
    have : okf n = true := by rw [okf_iff]; omega
    rw [e, bv_shl]
    simp [oneB, this, B_one]
def C_rput : Ctr := ⟨[.agg [.int .u64, .int .u64, .int .u64], .agg [.int .i64, .int .i64]], [.agg [.int .u64, .int .u64, .int .u64]],
  fun | [.i s0, .i s1, .i s2, .i fl, .i dir] => N (B s1) = s1 ∧ N (B s2) = s2 | _ => False,
  fun | [.i s0, .i s1, .i s2, .i fl, .i dir] => [.i (s0), .i (put1 s1 fl (okf fl && dir == 1)), .i (put1 s2 fl (okf fl && dir == -1))] | _ => []⟩
theorem rput_pre {ls : List Leaf} (h_ : C_rput.pre ls) : ∃ (s0 : Int) (s1 : Int) (s2 : Int) (fl : Int) (dir : Int), ls = [.i s0, .i s1, .i s2, .i fl, .i dir] ∧ (N (B s1) = s1 ∧ N (B s2) = s2) := by
  unfold C_rput at h_; dsimp only at h_; split at h_
  · exact ⟨_, _, _, _, _, rfl, h_⟩
  · exact h_.elim
theorem rput_mk {s0 : Int} {s1 : Int} {s2 : Int} {fl : Int} {dir : Int} (h_ : N (B s1) = s1 ∧ N (B s2) = s2) : C_rput.pre [.i s0, .i s1, .i s2, .i fl, .i dir] := h_
theorem rput_res {s0 : Int} {s1 : Int} {s2 : Int} {fl : Int} {dir : Int} {rs_ : List Leaf} (h_ : rs_ = C_rput.fn [.i s0, .i s1, .i s2, .i fl, .i dir]) : ∃ (q0 : Int) (q1 : Int) (q2 : Int), q0 = (s0) ∧ q1 = (put1 s1 fl (okf fl && dir == 1)) ∧ q2 = (put1 s2 fl (okf fl && dir == -1)) ∧ rs_ = [.i q0, .i q1, .i q2] := ⟨_, _, _, rfl, rfl, rfl, h_⟩
def phi_rput : Fm := (.and (.imp (.eq (.v 4) (.i 1)) .true (.call 44 [] [(.i (.v 3))] 5 (.and (.imp (.eq (.v 4) (.i (Int.negSucc 0))) .true (.call 44 [] [(.i (.v 3))] 6 (.ret [(.i (.v 0)), (.i (.bit .or .u64 (.v 1) (.v 5))), (.i (.bit .or .u64 (.v 2) (.v 6)))]))) (.imp (.eq (.v 4) (.i (Int.negSucc 0))) .false (.ret [(.i (.v 0)), (.i (.bit .or .u64 (.v 1) (.v 5))), (.i (.v 2))]))))) (.imp (.eq (.v 4) (.i 1)) .false (.and (.imp (.eq (.v 4) (.i (Int.negSucc 0))) .true (.call 44 [] [(.i (.v 3))] 5 (.ret [(.i (.v 0)), (.i (.v 1)), (.i (.bit .or .u64 (.v 2) (.v 5)))]))) (.imp (.eq (.v 4) (.i (Int.negSucc 0))) .false (.ret [(.i (.v 0)), (.i (.v 1)), (.i (.v 2))])))))
def tbl_rput : List (Nat × Ctr) := [(44, C_rone)]
theorem vc_rput : vcg Tryd.prog (sigT tbl_rput) [] Tryd.f26 C_rput.params C_rput.res = some phi_rput := by kernel_rfl
--SPLIT
theorem rput_sound : C_rput.Sound Tryd.prog G 26 := by
  refine fn_ok mixed stable tbl_rput [] Tryd.func26 (by kernel_rfl) phi_rput vc_rput ⟨rone_sound, trivial⟩ (fun _ _ _ => False) (fun _ _ _ => 0) ?_
  intro ls hp
  obtain ⟨s0, s1, s2, fl, dir, rfl, hpre⟩ := rput_pre hp
  clear hp
  rw [envOf_lk]
  unfold phi_rput
  refine ⟨fun hcond => ?_, fun hcond => ?_⟩
  ·
    have c1 : (dir == (1 : Int)) = true := hcond
    clear hcond
    refine vg_call (C := C_rone) rfl rfl (xs := [.i fl]) rfl (fun hg => ?_) (fun rs hrs => ?_)
    ·
      exact trivial
    obtain ⟨r5, hr5, rfl⟩ := rone_res hrs
    clear hrs
    change Fm.holds _ _ (lk [.i s0, .i s1, .i s2, .i fl, .i dir, .i r5])
    refine ⟨fun hcond => ?_, fun hcond => ?_⟩
    ·
      have c2 : (dir == (-1)) = true := hcond
      clear hcond
      refine vg_call (C := C_rone) rfl rfl (xs := [.i fl]) rfl (fun hg => ?_) (fun rs hrs => ?_)
      ·
        exact trivial
      obtain ⟨r6, hr6, rfl⟩ := rone_res hrs
      clear hrs
      change Fm.holds _ _ (lk [.i s0, .i s1, .i s2, .i fl, .i dir, .i r5, .i r6])
      suffices hfin : (s0) = (s0) ∧ ((bitv .or .u64 s1 r5)) = (put1 s1 fl (okf fl && dir == 1)) ∧ ((bitv .or .u64 s2 r6)) = (put1 s2 fl (okf fl && dir == -1)) from (c_i hfin.1 (c_i hfin.2.1 (c_i hfin.2.2 rfl)))
      -- leaf 1 (ret)
      simp at c1 c2
      omega
    ·
      have c3 : (dir == (-1)) = false := hcond
      clear hcond
      suffices hfin : (s0) = (s0) ∧ ((bitv .or .u64 s1 r5)) = (put1 s1 fl (okf fl && dir == 1)) ∧ (s2) = (put1 s2 fl (okf fl && dir == -1)) from (c_i hfin.1 (c_i hfin.2.1 (c_i hfin.2.2 rfl)))
      -- leaf 2 (ret)
      rw [hr5, bv_or, B_N, put1_zero hpre.1 true, c1, c3]
      simp [put1]
  ·
    have c4 : (dir == (1 : Int)) = false := hcond
    clear hcond
    refine ⟨fun hcond => ?_, fun hcond => ?_⟩
    ·
      have c5 : (dir == (-1)) = true := hcond
      clear hcond
      refine vg_call (C := C_rone) rfl rfl (xs := [.i fl]) rfl (fun hg => ?_) (fun rs hrs => ?_)
      ·
        exact trivial
      obtain ⟨r5, hr5, rfl⟩ := rone_res hrs
      clear hrs
      change Fm.holds _ _ (lk [.i s0, .i s1, .i s2, .i fl, .i dir, .i r5])
      suffices hfin : (s0) = (s0) ∧ (s1) = (put1 s1 fl (okf fl && dir == 1)) ∧ ((bitv .or .u64 s2 r5)) = (put1 s2 fl (okf fl && dir == -1)) from (c_i hfin.1 (c_i hfin.2.1 (c_i hfin.2.2 rfl)))
      -- leaf 3 (ret)
      rw [hr5, bv_or, B_N, put1_zero hpre.2 true, c4, c5]
      simp [put1]
    ·
      have c6 : (dir == (-1)) = false := hcond
      clear hcond
      suffices hfin : (s0) = (s0) ∧ (s1) = (put1 s1 fl (okf fl && dir == 1)) ∧ (s2) = (put1 s2 fl (okf fl && dir == -1)) from (c_i hfin.1 (c_i hfin.2.1 (c_i hfin.2.2 rfl)))
      -- leaf 4 (ret)
      rw [c4, c6]
      simp [put1]
def C_rof : Ctr := ⟨[.one (.lst [.int .i64]), .one (.lst [.int .i64, .int .i64, .int .i64])], [.agg [.int .u64, .int .u64, .int .u64]],
  fun | [.l f, .l l] => (f.len : Int) ≤ 1000000 ∧ (l.len : Int) ≤ 1000000 | _ => False,
  fun | [.l f, .l l] => [.i (ofCar f f.len), .i (ofUp l l.len), .i (ofDn l l.len)] | _ => []⟩
theorem rof_pre {ls : List Leaf} (h_ : C_rof.pre ls) : ∃ (f : LV) (l : LV), ls = [.l f, .l l] ∧ ((f.len : Int) ≤ 1000000 ∧ (l.len : Int) ≤ 1000000) := by
  unfold C_rof at h_; dsimp only at h_; split at h_
  · exact ⟨_, _, rfl, h_⟩
  · exact h_.elim
theorem rof_mk {f : LV} {l : LV} (h_ : (f.len : Int) ≤ 1000000 ∧ (l.len : Int) ≤ 1000000) : C_rof.pre [.l f, .l l] := h_
theorem rof_res {f : LV} {l : LV} {rs_ : List Leaf} (h_ : rs_ = C_rof.fn [.l f, .l l]) : ∃ (q0 : Int) (q1 : Int) (q2 : Int), q0 = (ofCar f f.len) ∧ q1 = (ofUp l l.len) ∧ q2 = (ofDn l l.len) ∧ rs_ = [.i q0, .i q1, .i q2] := ⟨_, _, _, rfl, rfl, rfl, h_⟩
def inv_rof_3 (f : LV) (i : Int) (c : Int) : Prop := 0 ≤ i ∧ i ≤ (f.len : Int) ∧ c = ofCar f i.toNat
def meas_rof_3 (f : LV) (i : Int) (c : Int) : Nat := ((f.len : Int) - i).toNat
def inv_rof_7 (f : LV) (l : LV) (i : Int) (c : Int) (u : Int) (d : Int) : Prop := 0 ≤ i ∧ i ≤ (l.len : Int) ∧ c = ofCar f f.len ∧ u = ofUp l i.toNat ∧ d = ofDn l i.toNat
def meas_rof_7 (f : LV) (l : LV) (i : Int) (c : Int) (u : Int) (d : Int) : Nat := ((l.len : Int) - i).toNat
def phi_rof : Fm := (.loop 3 2 [0] [(.i (.i 0)), (.i (.i 0))] [.i, .i] (.and (.imp (.lt (.v 2) (.len 0)) .true (.ob [] (.le (.i 0) (.v 2)) (.call 44 [] [(.i (.gi 0 0 (.v 2)))] 4 (.back 3 2 4 [0] [(.i (.wrap .i64 (.add (.v 2) (.i 1)))), (.i (.bit .or .u64 (.v 3) (.v 4)))])))) (.imp (.lt (.v 2) (.len 0)) .false (.loop 7 4 [0, 1] [(.i (.i 0)), (.i (.v 3)), (.i (.i 0)), (.i (.i 0))] [.i, .i, .i, .i] (.and (.imp (.lt (.v 4) (.len 1)) .true (.ob [] (.le (.i 0) (.v 4)) (.call 26 [] [(.i (.v 5)), (.i (.v 6)), (.i (.v 7)), (.i (.gi 1 0 (.v 4))), (.i (.gi 1 1 (.v 4)))] 8 (.back 7 4 8 [0, 1] [(.i (.wrap .i64 (.add (.v 4) (.i 1)))), (.i (.v 8)), (.i (.v 9)), (.i (.v 10))])))) (.imp (.lt (.v 4) (.len 1)) .false (.ret [(.i (.v 5)), (.i (.v 6)), (.i (.v 7))])))))))
def tbl_rof : List (Nat × Ctr) := [(26, C_rput), (44, C_rone)]
def inv_rof : List Leaf → Nat → List Leaf → Prop := fun _ key xs => match key, xs with
  | 3, [.l f, .i i, .i c] => inv_rof_3 f i c
  | 7, [.l f, .l l, .i i, .i c, .i u, .i d] => inv_rof_7 f l i c u d
  | _, _ => False
def meas_rof : List Leaf → Nat → List Leaf → Nat := fun _ key xs => match key, xs with
  | 3, [.l f, .i i, .i c] => meas_rof_3 f i c
  | 7, [.l f, .l l, .i i, .i c, .i u, .i d] => meas_rof_7 f l i c u d
  | _, _ => 0
theorem vc_rof : vcg Tryd.prog (sigT tbl_rof) [⟨3, [9, 10, 11, 12, 13, 14, 15, 16, 17, 18, 19, 20, 21, 22, 23], [6], [(1, 0)], [0], some (3, .i64)⟩, ⟨7, [24, 25, 26, 27, 28, 29, 30, 31, 32, 33, 34, 35, 36], [7], [(1, 0), (1, 1), (1, 2)], [0, 1], some (3, .i64)⟩] Tryd.f24 C_rof.params C_rof.res = some phi_rof := by kernel_rfl
--SPLIT
theorem rof_sound : C_rof.Sound Tryd.prog G 24 := by
  refine fn_ok mixed stable tbl_rof [⟨3, [9, 10, 11, 12, 13, 14, 15, 16, 17, 18, 19, 20, 21, 22, 23], [6], [(1, 0)], [0], some (3, .i64)⟩, ⟨7, [24, 25, 26, 27, 28, 29, 30, 31, 32, 33, 34, 35, 36], [7], [(1, 0), (1, 1), (1, 2)], [0, 1], some (3, .i64)⟩] Tryd.func24 (by kernel_rfl) phi_rof vc_rof ⟨rput_sound, rone_sound, trivial⟩ inv_rof meas_rof ?_
  intro ls hp
  obtain ⟨f, l, rfl, hpre⟩ := rof_pre hp
  clear hp
  rw [envOf_lk]
  unfold phi_rof
  refine vg_loop rfl ?_ (fun xs hfit hi => ?_)
  ·
    show inv_rof_3 f (0 : Int) (0 : Int)
    -- leaf 1 (init)
    exact ⟨by omega, by omega, rfl⟩
  obtain ⟨x2, xs0, rfl, hfit0⟩ := fits_i hfit
  obtain ⟨x3, xs1, rfl, hfit1⟩ := fits_i hfit0
  obtain rfl := fits_nil hfit1
  clear hfit hfit0 hfit1
  replace hi : inv_rof_3 f x2 x3 := hi
  have hi3 := hi; clear hi
  change Fm.holds _ _ (lk [.l f, .l l, .i x2, .i x3])
  obtain ⟨i0, i1, i2⟩ := hi3
  have e1 : IntKind.wrap .i64 (x2 + 1) = x2 + 1 := wrap_in (by omega) (by omega)
  have e2 : (x2 + 1).toNat = x2.toNat + 1 := by omega
  refine ⟨fun hcond => ?_, fun hcond => ?_⟩
  ·
    have c1 : (decide (x2 < (f.len : Int))) = true := hcond
    clear hcond
    refine ⟨fun hg => ?_, ?_⟩
    ·
      show (decide ((0 : Int) ≤ x2)) = true
      -- leaf 2 (ob)
      simp; omega
    refine vg_call (C := C_rone) rfl rfl (xs := [.i (f.gi (Int.toNat x2) 0)]) rfl (fun hg => ?_) (fun rs hrs => ?_)
    ·
      exact trivial
    obtain ⟨r4, hr4, rfl⟩ := rone_res hrs
    clear hrs
    change Fm.holds _ _ (lk [.l f, .l l, .i x2, .i x3, .i r4])
    refine ⟨?_, ?_⟩
    ·
      show inv_rof_3 f (IntKind.wrap .i64 (x2 + (1 : Int))) (bitv .or .u64 x3 r4)
      -- leaf 3 (back)
      have hlt := of_decide_eq_true c1
      rw [e1]
      refine ⟨by omega, by omega, ?_⟩
      rw [e2, ofCar, bv_or, hr4, B_N, i2, put1_zero (ofCar_N _ _) true]
    ·
      show meas_rof_3 f (IntKind.wrap .i64 (x2 + (1 : Int))) (bitv .or .u64 x3 r4) < meas_rof_3 f x2 x3
      -- leaf 4 (meas)
      first
      | (have hlt := of_decide_eq_true c1; unfold meas_rof_3; rw [e1]; omega)
      | (have hlt := of_decide_eq_true c3; unfold meas_rof_7; rw [e3]; omega)
  ·
    have c2 : (decide (x2 < (f.len : Int))) = false := hcond
    clear hcond
    refine vg_loop rfl ?_ (fun xs hfit hi => ?_)
    ·
      show inv_rof_7 f l (0 : Int) x3 (0 : Int) (0 : Int)
      -- leaf 5 (init)
      have hlt := of_decide_eq_false c2
      refine ⟨by omega, by omega, ?_, rfl, rfl⟩
      have : x2.toNat = f.len := by omega
      rw [i2, this]
    obtain ⟨x4, xs0, rfl, hfit0⟩ := fits_i hfit
    obtain ⟨x5, xs1, rfl, hfit1⟩ := fits_i hfit0
    obtain ⟨x6, xs2, rfl, hfit2⟩ := fits_i hfit1
    obtain ⟨x7, xs3, rfl, hfit3⟩ := fits_i hfit2
    obtain rfl := fits_nil hfit3
    clear hfit hfit0 hfit1 hfit2 hfit3
    replace hi : inv_rof_7 f l x4 x5 x6 x7 := hi
    have hi7 := hi; clear hi
    change Fm.holds _ _ (lk [.l f, .l l, .i x2, .i x3, .i x4, .i x5, .i x6, .i x7])
    obtain ⟨k0, k1, k2, k3, k4⟩ := hi7
    have e3 : IntKind.wrap .i64 (x4 + 1) = x4 + 1 := wrap_in (by omega) (by omega)
    have e4 : (x4 + 1).toNat = x4.toNat + 1 := by omega
    refine ⟨fun hcond => ?_, fun hcond => ?_⟩
    ·
      have c3 : (decide (x4 < (l.len : Int))) = true := hcond
      clear hcond
      refine ⟨fun hg => ?_, ?_⟩
      ·
        show (decide ((0 : Int) ≤ x4)) = true
        -- leaf 6 (ob)
        simp; omega
      refine vg_call (C := C_rput) rfl rfl (xs := [.i x5, .i x6, .i x7, .i (l.gi (Int.toNat x4) 0), .i (l.gi (Int.toNat x4) 1)]) rfl (fun hg => ?_) (fun rs hrs => ?_)
      ·
        refine rput_mk ?_
        -- leaf 7 (pre)
        rw [k3, k4]; exact ⟨ofUp_N _ _, ofDn_N _ _⟩
      obtain ⟨r8, r9, r10, hr8, hr9, hr10, rfl⟩ := rput_res hrs
      clear hrs
      change Fm.holds _ _ (lk [.l f, .l l, .i x2, .i x3, .i x4, .i x5, .i x6, .i x7, .i r8, .i r9, .i r10])
      refine ⟨?_, ?_⟩
      ·
        show inv_rof_7 f l (IntKind.wrap .i64 (x4 + (1 : Int))) r8 r9 r10
        -- leaf 8 (back)
        have hlt := of_decide_eq_true c3
        rw [e3]
        refine ⟨by omega, by omega, by rw [hr8, k2], ?_, ?_⟩
        · rw [e4, ofUp, hr9, k3]
        · rw [e4, ofDn, hr10, k4]
      ·
        show meas_rof_7 f l (IntKind.wrap .i64 (x4 + (1 : Int))) r8 r9 r10 < meas_rof_7 f l x4 x5 x6 x7
        -- leaf 9 (meas)
        first
        | (have hlt := of_decide_eq_true c1; unfold meas_rof_3; rw [e1]; omega)
        | (have hlt := of_decide_eq_true c3; unfold meas_rof_7; rw [e3]; omega)
    ·
      have c4 : (decide (x4 < (l.len : Int))) = false := hcond
      clear hcond
      suffices hfin : (x5) = (ofCar f f.len) ∧ (x6) = (ofUp l l.len) ∧ (x7) = (ofDn l l.len) from (c_i hfin.1 (c_i hfin.2.1 (c_i hfin.2.2 rfl)))
      -- leaf 10 (ret)
      have hlt := of_decide_eq_false c4
      have : x4.toNat = l.len := by omega
      rw [k2, k3, k4, this]
      exact ⟨rfl, rfl, rfl⟩
def C_rat : Ctr := ⟨[.agg [.int .u64, .int .u64, .int .u64], .one (.int .i64)], [.one (.bool)],
  fun | [.i _, .i _, .i _, .i _] => True | _ => False,
  fun | [.i s0, .i _, .i _, .i n] => [.b (isb s0 n)] | _ => []⟩
theorem rat_pre {ls : List Leaf} (h_ : C_rat.pre ls) : ∃ (s0 : Int) (s1 : Int) (s2 : Int) (n : Int), ls = [.i s0, .i s1, .i s2, .i n] := by
  unfold C_rat at h_; dsimp only at h_; split at h_
  · exact ⟨_, _, _, _, rfl⟩
  · exact h_.elim
theorem rat_res {s0 : Int} {s1 : Int} {s2 : Int} {n : Int} {rs_ : List Leaf} (h_ : rs_ = C_rat.fn [.i s0, .i s1, .i s2, .i n]) : ∃ (q0 : Bool), q0 = (isb s0 n) ∧ rs_ = [.b q0] := ⟨_, rfl, h_⟩
def phi_rat : Fm := (.call 44 [] [(.i (.v 3))] 4 (.ret [(.b (.not (.eq (.bit .and .u64 (.v 0) (.v 4)) (.i 0))))]))
def tbl_rat : List (Nat × Ctr) := [(44, C_rone)]
theorem vc_rat : vcg Tryd.prog (sigT tbl_rat) [] Tryd.f27 C_rat.params C_rat.res = some phi_rat := by kernel_rfl
--SPLIT
theorem rat_sound : C_rat.Sound Tryd.prog G 27 := by
  refine fn_ok mixed stable tbl_rat [] Tryd.func27 (by kernel_rfl) phi_rat vc_rat ⟨rone_sound, trivial⟩ (fun _ _ _ => False) (fun _ _ _ => 0) ?_
  intro ls hp
  obtain ⟨s0, s1, s2, n, rfl⟩ := rat_pre hp
  clear hp
  rw [envOf_lk]
  unfold phi_rat
  refine vg_call (C := C_rone) rfl rfl (xs := [.i n]) rfl (fun hg => ?_) (fun rs hrs => ?_)
  ·
    exact trivial
  obtain ⟨r4, hr4, rfl⟩ := rone_res hrs
  clear hrs
  change Fm.holds _ _ (lk [.i s0, .i s1, .i s2, .i n, .i r4])
  suffices hfin : ((!((bitv .and .u64 s0 r4) == (0 : Int)))) = (isb s0 n) from (c_b hfin rfl)
  -- leaf 1 (ret)
  subst_vars
  rw [bv_and, B_N]
  exact and_oneB_N _ _
def C_rhall : Ctr := ⟨[.agg [.int .u64, .int .u64, .int .u64], .one (.int .i64), .one (.int .i64)], [.one (.bool)],
  fun | [.i _, .i _, .i _, .i _, .i _] => True | _ => False,
  fun | [.i _, .i s1, .i s2, .i n, .i dir] => [.b (hallb s1 s2 n dir)] | _ => []⟩
theorem rhall_pre {ls : List Leaf} (h_ : C_rhall.pre ls) : ∃ (s0 : Int) (s1 : Int) (s2 : Int) (n : Int) (dir : Int), ls = [.i s0, .i s1, .i s2, .i n, .i dir] := by
  unfold C_rhall at h_; dsimp only at h_; split at h_
  · exact ⟨_, _, _, _, _, rfl⟩
  · exact h_.elim
theorem rhall_res {s0 : Int} {s1 : Int} {s2 : Int} {n : Int} {dir : Int} {rs_ : List Leaf} (h_ : rs_ = C_rhall.fn [.i s0, .i s1, .i s2, .i n, .i dir]) : ∃ (q0 : Bool), q0 = (hallb s1 s2 n dir) ∧ rs_ = [.b q0] := ⟨_, rfl, h_⟩
def phi_rhall : Fm := (.call 44 [((.eq (.v 4) (.i 1)), .true)] [(.i (.v 3))] 5 (.call 44 [((.eq (.v 4) (.i (Int.negSucc 0))), .true), ((.ite (.eq (.v 4) (.i 1)) (.not (.eq (.bit .and .u64 (.v 1) (.v 5)) (.i 0))) (.t .false)), .false)] [(.i (.v 3))] 6 (.ret [(.b (.ite (.ite (.eq (.v 4) (.i 1)) (.not (.eq (.bit .and .u64 (.v 1) (.v 5)) (.i 0))) (.t .false)) (.t .true) (.ite (.eq (.v 4) (.i (Int.negSucc 0))) (.not (.eq (.bit .and .u64 (.v 2) (.v 6)) (.i 0))) (.t .false))))])))
def tbl_rhall : List (Nat × Ctr) := [(44, C_rone)]
theorem vc_rhall : vcg Tryd.prog (sigT tbl_rhall) [] Tryd.f28 C_rhall.params C_rhall.res = some phi_rhall := by kernel_rfl
--SPLIT
theorem rhall_sound : C_rhall.Sound Tryd.prog G 28 := by
  refine fn_ok mixed stable tbl_rhall [] Tryd.func28 (by kernel_rfl) phi_rhall vc_rhall ⟨rone_sound, trivial⟩ (fun _ _ _ => False) (fun _ _ _ => 0) ?_
  intro ls hp
  obtain ⟨s0, s1, s2, n, dir, rfl⟩ := rhall_pre hp
  clear hp
  rw [envOf_lk]
  unfold phi_rhall
  refine vg_call (C := C_rone) rfl rfl (xs := [.i n]) rfl (fun hg => ?_) (fun rs hrs => ?_)
  ·
    exact trivial
  obtain ⟨r5, hr5, rfl⟩ := rone_res hrs
  clear hrs
  change Fm.holds _ _ (lk [.i s0, .i s1, .i s2, .i n, .i dir, .i r5])
  refine vg_call (C := C_rone) rfl rfl (xs := [.i n]) rfl (fun hg => ?_) (fun rs hrs => ?_)
  ·
    exact trivial
  obtain ⟨r6, hr6, rfl⟩ := rone_res hrs
  clear hrs
  change Fm.holds _ _ (lk [.i s0, .i s1, .i s2, .i n, .i dir, .i r5, .i r6])
  suffices hfin : ((if (if (dir == (1 : Int)) = true then (!((bitv .and .u64 s1 r5) == (0 : Int))) else false) = true then true else (if (dir == (-1)) = true then (!((bitv .and .u64 s2 r6) == (0 : Int))) else false))) = (hallb s1 s2 n dir) from (c_b hfin rfl)
  -- leaf 1 (ret)
  subst_vars
  simp only [bv_and, B_N, and_oneB_N, hallb]
  grind
def C_rany : Ctr := ⟨[.agg [.int .u64, .int .u64, .int .u64], .one (.int .i64)], [.one (.bool)],
  fun | [.i _, .i _, .i _, .i _] => True | _ => False,
  fun | [.i s0, .i s1, .i s2, .i n] => [.b (anyb s0 s1 s2 n)] | _ => []⟩
theorem rany_pre {ls : List Leaf} (h_ : C_rany.pre ls) : ∃ (s0 : Int) (s1 : Int) (s2 : Int) (n : Int), ls = [.i s0, .i s1, .i s2, .i n] := by
  unfold C_rany at h_; dsimp only at h_; split at h_
  · exact ⟨_, _, _, _, rfl⟩
  · exact h_.elim
theorem rany_res {s0 : Int} {s1 : Int} {s2 : Int} {n : Int} {rs_ : List Leaf} (h_ : rs_ = C_rany.fn [.i s0, .i s1, .i s2, .i n]) : ∃ (q0 : Bool), q0 = (anyb s0 s1 s2 n) ∧ rs_ = [.b q0] := ⟨_, rfl, h_⟩
def phi_rany : Fm := (.call 44 [] [(.i (.v 3))] 4 (.ret [(.b (.not (.eq (.bit .and .u64 (.bit .or .u64 (.bit .or .u64 (.v 0) (.v 1)) (.v 2)) (.v 4)) (.i 0))))]))
def tbl_rany : List (Nat × Ctr) := [(44, C_rone)]
theorem vc_rany : vcg Tryd.prog (sigT tbl_rany) [] Tryd.f21 C_rany.params C_rany.res = some phi_rany := by kernel_rfl
--SPLIT
theorem rany_sound : C_rany.Sound Tryd.prog G 21 := by
  refine fn_ok mixed stable tbl_rany [] Tryd.func21 (by kernel_rfl) phi_rany vc_rany ⟨rone_sound, trivial⟩ (fun _ _ _ => False) (fun _ _ _ => 0) ?_
  intro ls hp
  obtain ⟨s0, s1, s2, n, rfl⟩ := rany_pre hp
  clear hp
  rw [envOf_lk]
  unfold phi_rany
  refine vg_call (C := C_rone) rfl rfl (xs := [.i n]) rfl (fun hg => ?_) (fun rs hrs => ?_)
  ·
    exact trivial
  obtain ⟨r4, hr4, rfl⟩ := rone_res hrs
  clear hrs
  change Fm.holds _ _ (lk [.i s0, .i s1, .i s2, .i n, .i r4])
  suffices hfin : ((!((bitv .and .u64 (bitv .or .u64 (bitv .or .u64 s0 s1) s2) r4) == (0 : Int)))) = (anyb s0 s1 s2 n) from (c_b hfin rfl)
  -- leaf 1 (ret)
  subst_vars
  simp only [bv_or, bv_and, B_N]
  rw [N_ne]
  unfold bne
  rw [and_oneB, Bool.not_not]
  rfl
def C_rabove : Ctr := ⟨[.agg [.int .u64, .int .u64, .int .u64], .one (.int .i64)], [.one (.bool)],
  fun | [.i _, .i _, .i _, .i _] => True | _ => False,
  fun | [.i s0, .i s1, .i s2, .i n] => [.b (above s0 s1 s2 n)] | _ => []⟩
theorem rabove_pre {ls : List Leaf} (h_ : C_rabove.pre ls) : ∃ (s0 : Int) (s1 : Int) (s2 : Int) (n : Int), ls = [.i s0, .i s1, .i s2, .i n] := by
  unfold C_rabove at h_; dsimp only at h_; split at h_
  · exact ⟨_, _, _, _, rfl⟩
  · exact h_.elim
theorem rabove_res {s0 : Int} {s1 : Int} {s2 : Int} {n : Int} {rs_ : List Leaf} (h_ : rs_ = C_rabove.fn [.i s0, .i s1, .i s2, .i n]) : ∃ (q0 : Bool), q0 = (above s0 s1 s2 n) ∧ rs_ = [.b q0] := ⟨_, rfl, h_⟩
def inv_rabove_2 (s0 : Int) (s1 : Int) (s2 : Int) (n : Int) (f : Int) : Prop := 0 ≤ f ∧ f ≤ 64 ∧ ∀ m : Int, m < f → n < m → anyb s0 s1 s2 m = false
def meas_rabove_2 (s0 : Int) (s1 : Int) (s2 : Int) (n : Int) (f : Int) : Nat := (64 - f).toNat
def phi_rabove : Fm := (.loop 2 4 [0, 1, 2, 3] [(.i (.i 0))] [.i] (.and (.imp (.lt (.v 4) (.i 64)) .true (.call 21 [((.lt (.v 3) (.v 4)), .true)] [(.i (.v 0)), (.i (.v 1)), (.i (.v 2)), (.i (.v 4))] 5 (.and (.imp (.ite (.lt (.v 3) (.v 4)) (.v 5) (.t .false)) .true (.ret [(.b (.t .true))])) (.imp (.ite (.lt (.v 3) (.v 4)) (.v 5) (.t .false)) .false (.back 2 4 5 [0, 1, 2, 3] [(.i (.wrap .i64 (.add (.v 4) (.i 1))))]))))) (.imp (.lt (.v 4) (.i 64)) .false (.ret [(.b (.t .false))]))))
def tbl_rabove : List (Nat × Ctr) := [(21, C_rany)]
def inv_rabove : List Leaf → Nat → List Leaf → Prop := fun _ key xs => match key, xs with
  | 2, [.i s0, .i s1, .i s2, .i n, .i f] => inv_rabove_2 s0 s1 s2 n f
  | _, _ => False
def meas_rabove : List Leaf → Nat → List Leaf → Nat := fun _ key xs => match key, xs with
  | 2, [.i s0, .i s1, .i s2, .i n, .i f] => meas_rabove_2 s0 s1 s2 n f
  | _, _ => 0
theorem vc_rabove : vcg Tryd.prog (sigT tbl_rabove) [⟨2, [4, 6, 7, 8, 9, 10, 11, 12, 13, 14, 15, 16, 17], [5], [], [0, 1, 2, 3], some (3, .i64)⟩] Tryd.f29 C_rabove.params C_rabove.res = some phi_rabove := by kernel_rfl
--SPLIT
theorem rabove_sound : C_rabove.Sound Tryd.prog G 29 := by
  refine fn_ok mixed stable tbl_rabove [⟨2, [4, 6, 7, 8, 9, 10, 11, 12, 13, 14, 15, 16, 17], [5], [], [0, 1, 2, 3], some (3, .i64)⟩] Tryd.func29 (by kernel_rfl) phi_rabove vc_rabove ⟨rany_sound, trivial⟩ inv_rabove meas_rabove ?_
  intro ls hp
  obtain ⟨s0, s1, s2, n, rfl⟩ := rabove_pre hp
  clear hp
  rw [envOf_lk]
  unfold phi_rabove
  refine vg_loop rfl ?_ (fun xs hfit hi => ?_)
  ·
    show inv_rabove_2 s0 s1 s2 n (0 : Int)
    -- leaf 1 (init)
    refine ⟨by omega, by omega, fun m h1 h2 => ?_⟩
    cases h : anyb s0 s1 s2 m
    · rfl
    · have := anyb_range h; omega
  obtain ⟨x4, xs0, rfl, hfit0⟩ := fits_i hfit
  obtain rfl := fits_nil hfit0
  clear hfit hfit0
  replace hi : inv_rabove_2 s0 s1 s2 n x4 := hi
  have hi2 := hi; clear hi
  change Fm.holds _ _ (lk [.i s0, .i s1, .i s2, .i n, .i x4])
  obtain ⟨i0, i1, i2⟩ := hi2
  have e1 : IntKind.wrap .i64 (x4 + 1) = x4 + 1 := wrap_in (by omega) (by omega)
  refine ⟨fun hcond => ?_, fun hcond => ?_⟩
  ·
    have c1 : (decide (x4 < (64 : Int))) = true := hcond
    clear hcond
    refine vg_call (C := C_rany) rfl rfl (xs := [.i s0, .i s1, .i s2, .i x4]) rfl (fun hg => ?_) (fun rs hrs => ?_)
    ·
      exact trivial
    obtain ⟨r5, hr5, rfl⟩ := rany_res hrs
    clear hrs
    change Fm.holds _ _ (lk [.i s0, .i s1, .i s2, .i n, .i x4, .b r5])
    refine ⟨fun hcond => ?_, fun hcond => ?_⟩
    ·
      have c2 : (if (decide (n < x4)) = true then r5 else false) = true := hcond
      clear hcond
      suffices hfin : (true) = (above s0 s1 s2 n) from (c_b hfin rfl)
      -- leaf 2 (ret)
      rw [hr5] at c2
      have hn : n < x4 := by
        apply Classical.byContradiction
        intro h
        rw [decide_eq_false h] at c2
        simp at c2
      rw [decide_eq_true hn, if_pos rfl] at c2
      exact (above_iff.2 ⟨x4, hn, c2⟩).symm
    ·
      have c3 : (if (decide (n < x4)) = true then r5 else false) = false := hcond
      clear hcond
      refine ⟨?_, ?_⟩
      ·
        show inv_rabove_2 s0 s1 s2 n (IntKind.wrap .i64 (x4 + (1 : Int)))
        -- leaf 3 (back)
        have hlt := of_decide_eq_true c1
        rw [hr5] at c3
        rw [e1]
        refine ⟨by omega, by omega, fun m h1 h2 => ?_⟩
        by_cases hm : m = x4
        · subst hm
          rw [decide_eq_true h2, if_pos rfl] at c3
          exact c3
        · exact i2 m (by omega) h2
      ·
        show meas_rabove_2 s0 s1 s2 n (IntKind.wrap .i64 (x4 + (1 : Int))) < meas_rabove_2 s0 s1 s2 n x4
        -- leaf 4 (meas)
        have hlt := of_decide_eq_true c1
        unfold meas_rabove_2
        rw [e1]
        omega
  ·
    have c4 : (decide (x4 < (64 : Int))) = false := hcond
    clear hcond
    suffices hfin : (false) = (above s0 s1 s2 n) from (c_b hfin rfl)
    -- leaf 5 (ret)
    have hlt := of_decide_eq_false c4
    cases h : above s0 s1 s2 n
    · rfl
    · obtain ⟨m, h1, h2⟩ := above_iff.1 h
      have h3 := anyb_range h2
      rw [i2 m (by omega) h1] at h2
      cases h2
def C_rbelow : Ctr := ⟨[.agg [.int .u64, .int .u64, .int .u64], .one (.int .i64)], [.one (.bool)],
  fun | [.i _, .i _, .i _, .i _] => True | _ => False,
  fun | [.i s0, .i s1, .i s2, .i n] => [.b (below s0 s1 s2 n)] | _ => []⟩
theorem rbelow_pre {ls : List Leaf} (h_ : C_rbelow.pre ls) : ∃ (s0 : Int) (s1 : Int) (s2 : Int) (n : Int), ls = [.i s0, .i s1, .i s2, .i n] := by
  unfold C_rbelow at h_; dsimp only at h_; split at h_
  · exact ⟨_, _, _, _, rfl⟩
  · exact h_.elim
theorem rbelow_res {s0 : Int} {s1 : Int} {s2 : Int} {n : Int} {rs_ : List Leaf} (h_ : rs_ = C_rbelow.fn [.i s0, .i s1, .i s2, .i n]) : ∃ (q0 : Bool), q0 = (below s0 s1 s2 n) ∧ rs_ = [.b q0] := ⟨_, rfl, h_⟩
def inv_rbelow_2 (s0 : Int) (s1 : Int) (s2 : Int) (n : Int) (f : Int) : Prop := 0 ≤ f ∧ f ≤ 64 ∧ ∀ m : Int, m < f → m < n → anyb s0 s1 s2 m = false
def meas_rbelow_2 (s0 : Int) (s1 : Int) (s2 : Int) (n : Int) (f : Int) : Nat := (64 - f).toNat
def phi_rbelow : Fm := (.loop 2 4 [0, 1, 2, 3] [(.i (.i 0))] [.i] (.and (.imp (.lt (.v 4) (.i 64)) .true (.call 21 [((.lt (.v 4) (.v 3)), .true)] [(.i (.v 0)), (.i (.v 1)), (.i (.v 2)), (.i (.v 4))] 5 (.and (.imp (.ite (.lt (.v 4) (.v 3)) (.v 5) (.t .false)) .true (.ret [(.b (.t .true))])) (.imp (.ite (.lt (.v 4) (.v 3)) (.v 5) (.t .false)) .false (.back 2 4 5 [0, 1, 2, 3] [(.i (.wrap .i64 (.add (.v 4) (.i 1))))]))))) (.imp (.lt (.v 4) (.i 64)) .false (.ret [(.b (.t .false))]))))
def tbl_rbelow : List (Nat × Ctr) := [(21, C_rany)]
def inv_rbelow : List Leaf → Nat → List Leaf → Prop := fun _ key xs => match key, xs with
  | 2, [.i s0, .i s1, .i s2, .i n, .i f] => inv_rbelow_2 s0 s1 s2 n f
  | _, _ => False
def meas_rbelow : List Leaf → Nat → List Leaf → Nat := fun _ key xs => match key, xs with
  | 2, [.i s0, .i s1, .i s2, .i n, .i f] => meas_rbelow_2 s0 s1 s2 n f
  | _, _ => 0
theorem vc_rbelow : vcg Tryd.prog (sigT tbl_rbelow) [⟨2, [4, 6, 7, 8, 9, 10, 11, 12, 13, 14, 15, 16, 17], [5], [], [0, 1, 2, 3], some (3, .i64)⟩] Tryd.f30 C_rbelow.params C_rbelow.res = some phi_rbelow := by kernel_rfl
--SPLIT
theorem rbelow_sound : C_rbelow.Sound Tryd.prog G 30 := by
  refine fn_ok mixed stable tbl_rbelow [⟨2, [4, 6, 7, 8, 9, 10, 11, 12, 13, 14, 15, 16, 17], [5], [], [0, 1, 2, 3], some (3, .i64)⟩] Tryd.func30 (by kernel_rfl) phi_rbelow vc_rbelow ⟨rany_sound, trivial⟩ inv_rbelow meas_rbelow ?_
  intro ls hp
  obtain ⟨s0, s1, s2, n, rfl⟩ := rbelow_pre hp
  clear hp
  rw [envOf_lk]
  unfold phi_rbelow
  refine vg_loop rfl ?_ (fun xs hfit hi => ?_)
  ·
    show inv_rbelow_2 s0 s1 s2 n (0 : Int)
    -- leaf 1 (init)
    refine ⟨by omega, by omega, fun m h1 h2 => ?_⟩
    cases h : anyb s0 s1 s2 m
    · rfl
    · have := anyb_range h; omega
  obtain ⟨x4, xs0, rfl, hfit0⟩ := fits_i hfit
  obtain rfl := fits_nil hfit0
  clear hfit hfit0
  replace hi : inv_rbelow_2 s0 s1 s2 n x4 := hi
  have hi2 := hi; clear hi
  change Fm.holds _ _ (lk [.i s0, .i s1, .i s2, .i n, .i x4])
  obtain ⟨i0, i1, i2⟩ := hi2
  have e1 : IntKind.wrap .i64 (x4 + 1) = x4 + 1 := wrap_in (by omega) (by omega)
  refine ⟨fun hcond => ?_, fun hcond => ?_⟩
  ·
    have c1 : (decide (x4 < (64 : Int))) = true := hcond
    clear hcond
    refine vg_call (C := C_rany) rfl rfl (xs := [.i s0, .i s1, .i s2, .i x4]) rfl (fun hg => ?_) (fun rs hrs => ?_)
    ·
      exact trivial
    obtain ⟨r5, hr5, rfl⟩ := rany_res hrs
    clear hrs
    change Fm.holds _ _ (lk [.i s0, .i s1, .i s2, .i n, .i x4, .b r5])
    refine ⟨fun hcond => ?_, fun hcond => ?_⟩
    ·
      have c2 : (if (decide (x4 < n)) = true then r5 else false) = true := hcond
      clear hcond
      suffices hfin : (true) = (below s0 s1 s2 n) from (c_b hfin rfl)
      -- leaf 2 (ret)
      rw [hr5] at c2
      have hn : x4 < n := by
        apply Classical.byContradiction
        intro h
        rw [decide_eq_false h] at c2
        simp at c2
      rw [decide_eq_true hn, if_pos rfl] at c2
      exact (below_iff.2 ⟨x4, hn, c2⟩).symm
    ·
      have c3 : (if (decide (x4 < n)) = true then r5 else false) = false := hcond
      clear hcond
      refine ⟨?_, ?_⟩
      ·
        show inv_rbelow_2 s0 s1 s2 n (IntKind.wrap .i64 (x4 + (1 : Int)))
        -- leaf 3 (back)
        have hlt := of_decide_eq_true c1
        rw [hr5] at c3
        rw [e1]
        refine ⟨by omega, by omega, fun m h1 h2 => ?_⟩
        by_cases hm : m = x4
        · subst hm
          rw [decide_eq_true h2, if_pos rfl] at c3
          exact c3
        · exact i2 m (by omega) h2
      ·
        show meas_rbelow_2 s0 s1 s2 n (IntKind.wrap .i64 (x4 + (1 : Int))) < meas_rbelow_2 s0 s1 s2 n x4
        -- leaf 4 (meas)
        have hlt := of_decide_eq_true c1
        unfold meas_rbelow_2
        rw [e1]
        omega
  ·
    have c4 : (decide (x4 < (64 : Int))) = false := hcond
    clear hcond
    suffices hfin : (false) = (below s0 s1 s2 n) from (c_b hfin rfl)
    -- leaf 5 (ret)
    have hlt := of_decide_eq_false c4
    cases h : below s0 s1 s2 n
    · rfl
    · obtain ⟨m, h1, h2⟩ := below_iff.1 h
      have h3 := anyb_range h2
      rw [i2 m (by omega) h1] at h2
      cases h2
def C_rtoward : Ctr := ⟨[.agg [.int .u64, .int .u64, .int .u64], .one (.int .i64), .one (.int .i64)], [.one (.bool)],
  fun | [.i _, .i _, .i _, .i _, .i _] => True | _ => False,
  fun | [.i s0, .i s1, .i s2, .i n, .i dir] => [.b (toward s0 s1 s2 n dir)] | _ => []⟩
theorem rtoward_pre {ls : List Leaf} (h_ : C_rtoward.pre ls) : ∃ (s0 : Int) (s1 : Int) (s2 : Int) (n : Int) (dir : Int), ls = [.i s0, .i s1, .i s2, .i n, .i dir] := by
  unfold C_rtoward at h_; dsimp only at h_; split at h_
  · exact ⟨_, _, _, _, _, rfl⟩
  · exact h_.elim
theorem rtoward_res {s0 : Int} {s1 : Int} {s2 : Int} {n : Int} {dir : Int} {rs_ : List Leaf} (h_ : rs_ = C_rtoward.fn [.i s0, .i s1, .i s2, .i n, .i dir]) : ∃ (q0 : Bool), q0 = (toward s0 s1 s2 n dir) ∧ rs_ = [.b q0] := ⟨_, rfl, h_⟩
def phi_rtoward : Fm := (.call 29 [((.eq (.v 4) (.i 1)), .true)] [(.i (.v 0)), (.i (.v 1)), (.i (.v 2)), (.i (.v 3))] 5 (.call 30 [((.eq (.v 4) (.i (Int.negSucc 0))), .true), ((.ite (.eq (.v 4) (.i 1)) (.v 5) (.t .false)), .false)] [(.i (.v 0)), (.i (.v 1)), (.i (.v 2)), (.i (.v 3))] 6 (.ret [(.b (.ite (.ite (.eq (.v 4) (.i 1)) (.v 5) (.t .false)) (.t .true) (.ite (.eq (.v 4) (.i (Int.negSucc 0))) (.v 6) (.t .false))))])))
def tbl_rtoward : List (Nat × Ctr) := [(29, C_rabove), (30, C_rbelow)]
theorem vc_rtoward : vcg Tryd.prog (sigT tbl_rtoward) [] Tryd.f32 C_rtoward.params C_rtoward.res = some phi_rtoward := by kernel_rfl
--SPLIT
theorem rtoward_sound : C_rtoward.Sound Tryd.prog G 32 := by
  refine fn_ok mixed stable tbl_rtoward [] Tryd.func32 (by kernel_rfl) phi_rtoward vc_rtoward ⟨rabove_sound, rbelow_sound, trivial⟩ (fun _ _ _ => False) (fun _ _ _ => 0) ?_
  intro ls hp
  obtain ⟨s0, s1, s2, n, dir, rfl⟩ := rtoward_pre hp
  clear hp
  rw [envOf_lk]
  unfold phi_rtoward
  refine vg_call (C := C_rabove) rfl rfl (xs := [.i s0, .i s1, .i s2, .i n]) rfl (fun hg => ?_) (fun rs hrs => ?_)
  ·
    exact trivial
  obtain ⟨r5, hr5, rfl⟩ := rabove_res hrs
  clear hrs
  change Fm.holds _ _ (lk [.i s0, .i s1, .i s2, .i n, .i dir, .b r5])
  refine vg_call (C := C_rbelow) rfl rfl (xs := [.i s0, .i s1, .i s2, .i n]) rfl (fun hg => ?_) (fun rs hrs => ?_)
  ·
    exact trivial
  obtain ⟨r6, hr6, rfl⟩ := rbelow_res hrs
  clear hrs
  change Fm.holds _ _ (lk [.i s0, .i s1, .i s2, .i n, .i dir, .b r5, .b r6])
  suffices hfin : ((if (if (dir == (1 : Int)) = true then r5 else false) = true then true else (if (dir == (-1)) = true then r6 else false))) = (toward s0 s1 s2 n dir) from (c_b hfin rfl)
  -- leaf 1 (ret)
  subst_vars
  simp only [toward]
  grind
def C_rnear : Ctr := ⟨[.agg [.int .u64, .int .u64, .int .u64], .one (.int .i64)], [.one (.int .i64)],
  fun | [.i _, .i _, .i _, .i _] => True | _ => False,
  fun | [.i s0, .i s1, .i s2, .i n] => [.i (near s0 s1 s2 n)] | _ => []⟩
theorem rnear_pre {ls : List Leaf} (h_ : C_rnear.pre ls) : ∃ (s0 : Int) (s1 : Int) (s2 : Int) (n : Int), ls = [.i s0, .i s1, .i s2, .i n] := by
  unfold C_rnear at h_; dsimp only at h_; split at h_
  · exact ⟨_, _, _, _, rfl⟩
  · exact h_.elim
theorem rnear_res {s0 : Int} {s1 : Int} {s2 : Int} {n : Int} {rs_ : List Leaf} (h_ : rs_ = C_rnear.fn [.i s0, .i s1, .i s2, .i n]) : ∃ (q0 : Int), q0 = (near s0 s1 s2 n) ∧ rs_ = [.i q0] := ⟨_, rfl, h_⟩
def inv_rnear_5 (s0 : Int) (s1 : Int) (s2 : Int) (n : Int) (k : Int) : Prop := 1 ≤ k ∧ k ≤ 65 ∧ ∀ j : Int, 1 ≤ j → j < k → anyb s0 s1 s2 (max (-1) (min n 64) + j) = false ∧ anyb s0 s1 s2 (max (-1) (min n 64) - j) = false
def meas_rnear_5 (s0 : Int) (s1 : Int) (s2 : Int) (n : Int) (k : Int) : Nat := (65 - k).toNat
def phi_rnear : Fm := (.and (.imp (.lt (.v 3) (.i 0)) .true (.loop 5 4 [0, 1, 2, 3] [(.i (.i 1))] [.i] (.and (.imp (.le (.v 4) (.i 64)) .true (.call 21 [] [(.i (.v 0)), (.i (.v 1)), (.i (.v 2)), (.i (.wrap .i64 (.add (.i (Int.negSucc 0)) (.v 4))))] 5 (.and (.imp (.v 5) .true (.ret [(.i (.i 1))])) (.imp (.v 5) .false (.call 21 [] [(.i (.v 0)), (.i (.v 1)), (.i (.v 2)), (.i (.wrap .i64 (.sub (.i (Int.negSucc 0)) (.v 4))))] 6 (.and (.imp (.v 6) .true (.ret [(.i (.i (Int.negSucc 0)))])) (.imp (.v 6) .false (.back 5 4 5 [0, 1, 2, 3] [(.i (.wrap .i64 (.add (.v 4) (.i 1))))])))))))) (.imp (.le (.v 4) (.i 64)) .false (.ret [(.i (.i 0))]))))) (.imp (.lt (.v 3) (.i 0)) .false (.loop 5 4 [0, 1, 2, 3] [(.i (.i 1))] [.i] (.and (.imp (.le (.v 4) (.i 64)) .true (.call 21 [] [(.i (.v 0)), (.i (.v 1)), (.i (.v 2)), (.i (.wrap .i64 (.add (.ite (.lt (.i 64) (.v 3)) (.i 64) (.v 3)) (.v 4))))] 5 (.and (.imp (.v 5) .true (.ret [(.i (.i 1))])) (.imp (.v 5) .false (.call 21 [] [(.i (.v 0)), (.i (.v 1)), (.i (.v 2)), (.i (.wrap .i64 (.sub (.ite (.lt (.i 64) (.v 3)) (.i 64) (.v 3)) (.v 4))))] 6 (.and (.imp (.v 6) .true (.ret [(.i (.i (Int.negSucc 0)))])) (.imp (.v 6) .false (.back 5 4 5 [0, 1, 2, 3] [(.i (.wrap .i64 (.add (.v 4) (.i 1))))])))))))) (.imp (.le (.v 4) (.i 64)) .false (.ret [(.i (.i 0))]))))))
def tbl_rnear : List (Nat × Ctr) := [(21, C_rany)]
def inv_rnear : List Leaf → Nat → List Leaf → Prop := fun _ key xs => match key, xs with
  | 5, [.i s0, .i s1, .i s2, .i n, .i k] => inv_rnear_5 s0 s1 s2 n k
  | _, _ => False
def meas_rnear : List Leaf → Nat → List Leaf → Nat := fun _ key xs => match key, xs with
  | 5, [.i s0, .i s1, .i s2, .i n, .i k] => meas_rnear_5 s0 s1 s2 n k
  | _, _ => 0
theorem vc_rnear : vcg Tryd.prog (sigT tbl_rnear) [⟨5, [4, 10, 11, 12, 13, 14, 15, 16, 17, 18, 19, 20, 21, 22, 23], [5], [], [0, 1, 2, 3], some (3, .i64)⟩] Tryd.f33 C_rnear.params C_rnear.res = some phi_rnear := by kernel_rfl
--SPLIT
theorem rnear_sound : C_rnear.Sound Tryd.prog G 33 := by
  refine fn_ok mixed stable tbl_rnear [⟨5, [4, 10, 11, 12, 13, 14, 15, 16, 17, 18, 19, 20, 21, 22, 23], [5], [], [0, 1, 2, 3], some (3, .i64)⟩] Tryd.func33 (by kernel_rfl) phi_rnear vc_rnear ⟨rany_sound, trivial⟩ inv_rnear meas_rnear ?_
  intro ls hp
  obtain ⟨s0, s1, s2, n, rfl⟩ := rnear_pre hp
  clear hp
  rw [envOf_lk]
  unfold phi_rnear
  refine ⟨fun hcond => ?_, fun hcond => ?_⟩
  ·
    have c1 : (decide (n < (0 : Int))) = true := hcond
    clear hcond
    refine vg_loop rfl ?_ (fun xs hfit hi => ?_)
    ·
      show inv_rnear_5 s0 s1 s2 n (1 : Int)
      -- leaf 1 (init)
      exact ⟨by omega, by omega, fun j h1 h2 => by omega⟩
    obtain ⟨x4, xs0, rfl, hfit0⟩ := fits_i hfit
    obtain rfl := fits_nil hfit0
    clear hfit hfit0
    replace hi : inv_rnear_5 s0 s1 s2 n x4 := hi
    have hi5 := hi; clear hi
    change Fm.holds _ _ (lk [.i s0, .i s1, .i s2, .i n, .i x4])
    obtain ⟨k0, k1, k2⟩ := hi5
    have hn := of_decide_eq_true c1
    have ef : IntKind.wrap .i64 ((-1) + x4) = max (-1) (min n 64) + x4 := by rw [wrap_in (by omega) (by omega)]; omega
    have eg : IntKind.wrap .i64 ((-1) - x4) = max (-1) (min n 64) - x4 := by rw [wrap_in (by omega) (by omega)]; omega
    have ek : IntKind.wrap .i64 (x4 + 1) = x4 + 1 := wrap_in (by omega) (by omega)
    refine ⟨fun hcond => ?_, fun hcond => ?_⟩
    ·
      have c2 : (decide (x4 ≤ (64 : Int))) = true := hcond
      clear hcond
      refine vg_call (C := C_rany) rfl rfl (xs := [.i s0, .i s1, .i s2, .i (IntKind.wrap .i64 ((-1) + x4))]) rfl (fun hg => ?_) (fun rs hrs => ?_)
      ·
        exact trivial
      obtain ⟨r5, hr5, rfl⟩ := rany_res hrs
      clear hrs
      change Fm.holds _ _ (lk [.i s0, .i s1, .i s2, .i n, .i x4, .b r5])
      refine ⟨fun hcond => ?_, fun hcond => ?_⟩
      ·
        have c3 : r5 = true := hcond
        clear hcond
        suffices hfin : ((1 : Int)) = (near s0 s1 s2 n) from (c_i hfin rfl)
        -- leaf 2 (ret)
        rw [ef] at hr5
        exact (near_up k0 k2 (hr5.symm.trans c3)).symm
      ·
        have c4 : r5 = false := hcond
        clear hcond
        refine vg_call (C := C_rany) rfl rfl (xs := [.i s0, .i s1, .i s2, .i (IntKind.wrap .i64 ((-1) - x4))]) rfl (fun hg => ?_) (fun rs hrs => ?_)
        ·
          exact trivial
        obtain ⟨r6, hr6, rfl⟩ := rany_res hrs
        clear hrs
        change Fm.holds _ _ (lk [.i s0, .i s1, .i s2, .i n, .i x4, .b r5, .b r6])
        refine ⟨fun hcond => ?_, fun hcond => ?_⟩
        ·
          have c5 : r6 = true := hcond
          clear hcond
          suffices hfin : ((-1)) = (near s0 s1 s2 n) from (c_i hfin rfl)
          -- leaf 3 (ret)
          rw [ef] at hr5
          rw [eg] at hr6
          exact (near_dn k0 k2 (hr5.symm.trans c4) (hr6.symm.trans c5)).symm
        ·
          have c6 : r6 = false := hcond
          clear hcond
          refine ⟨?_, ?_⟩
          ·
            show inv_rnear_5 s0 s1 s2 n (IntKind.wrap .i64 (x4 + (1 : Int)))
            -- leaf 4 (back)
            have hlt := of_decide_eq_true c2
            rw [ef] at hr5
            rw [eg] at hr6
            rw [ek]
            refine ⟨by omega, by omega, fun j h1 h2 => ?_⟩
            by_cases hj : j = x4
            · subst hj
              exact ⟨hr5.symm.trans c4, hr6.symm.trans c6⟩
            · exact k2 j h1 (by omega)
          ·
            show meas_rnear_5 s0 s1 s2 n (IntKind.wrap .i64 (x4 + (1 : Int))) < meas_rnear_5 s0 s1 s2 n x4
            -- leaf 5 (meas)
            have hlt := of_decide_eq_true c2
            unfold meas_rnear_5
            rw [ek]
            omega
    ·
      have c7 : (decide (x4 ≤ (64 : Int))) = false := hcond
      clear hcond
      suffices hfin : ((0 : Int)) = (near s0 s1 s2 n) from (c_i hfin rfl)
      -- leaf 6 (ret)
      have hlt := of_decide_eq_false c7
      exact (near_none (fun j h1 h2 => k2 j h1 (by omega))).symm
  ·
    have c8 : (decide (n < (0 : Int))) = false := hcond
    clear hcond
    refine vg_loop rfl ?_ (fun xs hfit hi => ?_)
    ·
      show inv_rnear_5 s0 s1 s2 n (1 : Int)
      -- leaf 7 (init)
      exact ⟨by omega, by omega, fun j h1 h2 => by omega⟩
    obtain ⟨x4, xs0, rfl, hfit0⟩ := fits_i hfit
    obtain rfl := fits_nil hfit0
    clear hfit hfit0
    replace hi : inv_rnear_5 s0 s1 s2 n x4 := hi
    have hi5 := hi; clear hi
    change Fm.holds _ _ (lk [.i s0, .i s1, .i s2, .i n, .i x4])
    obtain ⟨k0, k1, k2⟩ := hi5
    have hn := of_decide_eq_false c8
    have eE : (if (decide ((64 : Int) < n)) = true then (64 : Int) else n) = max (-1) (min n 64) := by simp only [decide_eq_true_eq]; split <;> omega
    have ef : IntKind.wrap .i64 ((if (decide ((64 : Int) < n)) = true then (64 : Int) else n) + x4) = max (-1) (min n 64) + x4 := by rw [eE, wrap_in (by omega) (by omega)]
    have eg : IntKind.wrap .i64 ((if (decide ((64 : Int) < n)) = true then (64 : Int) else n) - x4) = max (-1) (min n 64) - x4 := by rw [eE, wrap_in (by omega) (by omega)]
    have ek : IntKind.wrap .i64 (x4 + 1) = x4 + 1 := wrap_in (by omega) (by omega)
    refine ⟨fun hcond => ?_, fun hcond => ?_⟩
    ·
      have c9 : (decide (x4 ≤ (64 : Int))) = true := hcond
      clear hcond
      refine vg_call (C := C_rany) rfl rfl (xs := [.i s0, .i s1, .i s2, .i (IntKind.wrap .i64 ((if (decide ((64 : Int) < n)) = true then (64 : Int) else n) + x4))]) rfl (fun hg => ?_) (fun rs hrs => ?_)
      ·
        exact trivial
      obtain ⟨r5, hr5, rfl⟩ := rany_res hrs
      clear hrs
      change Fm.holds _ _ (lk [.i s0, .i s1, .i s2, .i n, .i x4, .b r5])
      refine ⟨fun hcond => ?_, fun hcond => ?_⟩
      ·
        have c10 : r5 = true := hcond
        clear hcond
        suffices hfin : ((1 : Int)) = (near s0 s1 s2 n) from (c_i hfin rfl)
        -- leaf 8 (ret)
        rw [ef] at hr5
        exact (near_up k0 k2 (hr5.symm.trans c10)).symm
      ·
        have c11 : r5 = false := hcond
        clear hcond
        refine vg_call (C := C_rany) rfl rfl (xs := [.i s0, .i s1, .i s2, .i (IntKind.wrap .i64 ((if (decide ((64 : Int) < n)) = true then (64 : Int) else n) - x4))]) rfl (fun hg => ?_) (fun rs hrs => ?_)
        ·
          exact trivial
        obtain ⟨r6, hr6, rfl⟩ := rany_res hrs
        clear hrs
        change Fm.holds _ _ (lk [.i s0, .i s1, .i s2, .i n, .i x4, .b r5, .b r6])
        refine ⟨fun hcond => ?_, fun hcond => ?_⟩
        ·
          have c12 : r6 = true := hcond
          clear hcond
          suffices hfin : ((-1)) = (near s0 s1 s2 n) from (c_i hfin rfl)
          -- leaf 9 (ret)
          rw [ef] at hr5
          rw [eg] at hr6
          exact (near_dn k0 k2 (hr5.symm.trans c11) (hr6.symm.trans c12)).symm
        ·
          have c13 : r6 = false := hcond
          clear hcond
          refine ⟨?_, ?_⟩
          ·
            show inv_rnear_5 s0 s1 s2 n (IntKind.wrap .i64 (x4 + (1 : Int)))
            -- leaf 10 (back)
            have hlt := of_decide_eq_true c9
            rw [ef] at hr5
            rw [eg] at hr6
            rw [ek]
            refine ⟨by omega, by omega, fun j h1 h2 => ?_⟩
            by_cases hj : j = x4
            · subst hj
              exact ⟨hr5.symm.trans c11, hr6.symm.trans c13⟩
            · exact k2 j h1 (by omega)
          ·
            show meas_rnear_5 s0 s1 s2 n (IntKind.wrap .i64 (x4 + (1 : Int))) < meas_rnear_5 s0 s1 s2 n x4
            -- leaf 11 (meas)
            have hlt := of_decide_eq_true c9
            unfold meas_rnear_5
            rw [ek]
            omega
    ·
      have c14 : (decide (x4 ≤ (64 : Int))) = false := hcond
      clear hcond
      suffices hfin : ((0 : Int)) = (near s0 s1 s2 n) from (c_i hfin rfl)
      -- leaf 12 (ret)
      have hlt := of_decide_eq_false c14
      exact (near_none (fun j h1 h2 => k2 j h1 (by omega))).symm
def C_rplan : Ctr := ⟨[.agg [.int .u64, .int .u64, .int .u64], .one (.int .i64), .one (.int .i64)], [.agg [.bool, .int .i64, .int .i64]],
  fun | [.i _, .i _, .i _, .i _, .i _] => True | _ => False,
  fun | [.i s0, .i s1, .i s2, .i n, .i dir] => [.b (stopP s0 s1 s2 n dir), .i (dirP s0 s1 s2 n dir), .i (moveP s0 s1 s2 n dir)] | _ => []⟩
theorem rplan_pre {ls : List Leaf} (h_ : C_rplan.pre ls) : ∃ (s0 : Int) (s1 : Int) (s2 : Int) (n : Int) (dir : Int), ls = [.i s0, .i s1, .i s2, .i n, .i dir] := by
  unfold C_rplan at h_; dsimp only at h_; split at h_
  · exact ⟨_, _, _, _, _, rfl⟩
  · exact h_.elim
theorem rplan_res {s0 : Int} {s1 : Int} {s2 : Int} {n : Int} {dir : Int} {rs_ : List Leaf} (h_ : rs_ = C_rplan.fn [.i s0, .i s1, .i s2, .i n, .i dir]) : ∃ (q0 : Bool) (q1 : Int) (q2 : Int), q0 = (stopP s0 s1 s2 n dir) ∧ q1 = (dirP s0 s1 s2 n dir) ∧ q2 = (moveP s0 s1 s2 n dir) ∧ rs_ = [.b q0, .i q1, .i q2] := ⟨_, _, _, rfl, rfl, rfl, h_⟩
def phi_rplan : Fm := (.and (.imp (.ite (.ite (.ite (.lt (.v 3) (.i 0)) (.t .true) (.le (.i 64) (.v 3))) (.t .true) (.lt (.v 4) (.i (Int.negSucc 0)))) (.t .true) (.lt (.i 1) (.v 4))) .true (.ret [(.b (.t .false)), (.i (.i 0)), (.i (.i 0))])) (.imp (.ite (.ite (.ite (.lt (.v 3) (.i 0)) (.t .true) (.le (.i 64) (.v 3))) (.t .true) (.lt (.v 4) (.i (Int.negSucc 0)))) (.t .true) (.lt (.i 1) (.v 4))) .false (.call 28 [((.eq (.v 4) (.i 0)), .true)] [(.i (.v 0)), (.i (.v 1)), (.i (.v 2)), (.i (.v 3)), (.i (.i 1))] 5 (.and (.imp (.ite (.eq (.v 4) (.i 0)) (.v 5) (.t .false)) .true (.call 27 [] [(.i (.v 0)), (.i (.v 1)), (.i (.v 2)), (.i (.v 3))] 6 (.call 28 [((.v 6), .false)] [(.i (.v 0)), (.i (.v 1)), (.i (.v 2)), (.i (.v 3)), (.i (.i 1))] 7 (.and (.imp (.ite (.v 6) (.t .true) (.v 7)) .false (.ret [(.b (.ite (.v 6) (.t .true) (.v 7))), (.i (.i 1)), (.i (.i 1))])) (.imp (.ite (.v 6) (.t .true) (.v 7)) .true (.ret [(.b (.ite (.v 6) (.t .true) (.v 7))), (.i (.i 1)), (.i (.i 0))])))))) (.imp (.ite (.eq (.v 4) (.i 0)) (.v 5) (.t .false)) .false (.call 28 [((.eq (.v 4) (.i 0)), .true)] [(.i (.v 0)), (.i (.v 1)), (.i (.v 2)), (.i (.v 3)), (.i (.i (Int.negSucc 0)))] 6 (.and (.imp (.ite (.eq (.v 4) (.i 0)) (.v 6) (.t .false)) .true (.call 27 [] [(.i (.v 0)), (.i (.v 1)), (.i (.v 2)), (.i (.v 3))] 7 (.call 28 [((.v 7), .false)] [(.i (.v 0)), (.i (.v 1)), (.i (.v 2)), (.i (.v 3)), (.i (.i (Int.negSucc 0)))] 8 (.and (.imp (.ite (.v 7) (.t .true) (.v 8)) .false (.ret [(.b (.ite (.v 7) (.t .true) (.v 8))), (.i (.i (Int.negSucc 0))), (.i (.i (Int.negSucc 0)))])) (.imp (.ite (.v 7) (.t .true) (.v 8)) .true (.ret [(.b (.ite (.v 7) (.t .true) (.v 8))), (.i (.i (Int.negSucc 0))), (.i (.i 0))])))))) (.imp (.ite (.eq (.v 4) (.i 0)) (.v 6) (.t .false)) .false (.and (.imp (.eq (.v 4) (.i 0)) .true (.call 33 [] [(.i (.v 0)), (.i (.v 1)), (.i (.v 2)), (.i (.v 3))] 7 (.call 27 [] [(.i (.v 0)), (.i (.v 1)), (.i (.v 2)), (.i (.v 3))] 8 (.call 28 [((.v 8), .false)] [(.i (.v 0)), (.i (.v 1)), (.i (.v 2)), (.i (.v 3)), (.i (.v 7))] 9 (.and (.imp (.ite (.v 8) (.t .true) (.v 9)) .false (.ret [(.b (.ite (.v 8) (.t .true) (.v 9))), (.i (.v 7)), (.i (.v 7))])) (.imp (.ite (.v 8) (.t .true) (.v 9)) .true (.ret [(.b (.ite (.v 8) (.t .true) (.v 9))), (.i (.v 7)), (.i (.i 0))]))))))) (.imp (.eq (.v 4) (.i 0)) .false (.call 32 [] [(.i (.v 0)), (.i (.v 1)), (.i (.v 2)), (.i (.v 3)), (.i (.v 4))] 7 (.call 28 [((.v 7), .false)] [(.i (.v 0)), (.i (.v 1)), (.i (.v 2)), (.i (.v 3)), (.i (.v 4))] 8 (.and (.imp (.ite (.v 7) (.t .true) (.v 8)) .true (.call 27 [] [(.i (.v 0)), (.i (.v 1)), (.i (.v 2)), (.i (.v 3))] 9 (.call 28 [((.v 9), .false)] [(.i (.v 0)), (.i (.v 1)), (.i (.v 2)), (.i (.v 3)), (.i (.v 4))] 10 (.and (.imp (.ite (.v 9) (.t .true) (.v 10)) .false (.ret [(.b (.ite (.v 9) (.t .true) (.v 10))), (.i (.v 4)), (.i (.v 4))])) (.imp (.ite (.v 9) (.t .true) (.v 10)) .true (.ret [(.b (.ite (.v 9) (.t .true) (.v 10))), (.i (.v 4)), (.i (.i 0))])))))) (.imp (.ite (.v 7) (.t .true) (.v 8)) .false (.call 32 [] [(.i (.v 0)), (.i (.v 1)), (.i (.v 2)), (.i (.v 3)), (.i (.wrap .i64 (.sub (.i 0) (.v 4))))] 9 (.call 28 [((.v 9), .false)] [(.i (.v 0)), (.i (.v 1)), (.i (.v 2)), (.i (.v 3)), (.i (.wrap .i64 (.sub (.i 0) (.v 4))))] 10 (.and (.imp (.ite (.v 9) (.t .true) (.v 10)) .true (.call 27 [] [(.i (.v 0)), (.i (.v 1)), (.i (.v 2)), (.i (.v 3))] 11 (.call 28 [((.v 11), .false)] [(.i (.v 0)), (.i (.v 1)), (.i (.v 2)), (.i (.v 3)), (.i (.wrap .i64 (.sub (.i 0) (.v 4))))] 12 (.and (.imp (.ite (.v 11) (.t .true) (.v 12)) .false (.ret [(.b (.ite (.v 11) (.t .true) (.v 12))), (.i (.wrap .i64 (.sub (.i 0) (.v 4)))), (.i (.wrap .i64 (.sub (.i 0) (.v 4))))])) (.imp (.ite (.v 11) (.t .true) (.v 12)) .true (.ret [(.b (.ite (.v 11) (.t .true) (.v 12))), (.i (.wrap .i64 (.sub (.i 0) (.v 4)))), (.i (.i 0))])))))) (.imp (.ite (.v 9) (.t .true) (.v 10)) .false (.call 27 [] [(.i (.v 0)), (.i (.v 1)), (.i (.v 2)), (.i (.v 3))] 11 (.call 28 [((.v 11), .false)] [(.i (.v 0)), (.i (.v 1)), (.i (.v 2)), (.i (.v 3)), (.i (.i 0))] 12 (.and (.imp (.ite (.v 11) (.t .true) (.v 12)) .false (.ret [(.b (.ite (.v 11) (.t .true) (.v 12))), (.i (.i 0)), (.i (.i 0))])) (.imp (.ite (.v 11) (.t .true) (.v 12)) .true (.ret [(.b (.ite (.v 11) (.t .true) (.v 12))), (.i (.i 0)), (.i (.i 0))])))))))))))))))))))))))
def tbl_rplan : List (Nat × Ctr) := [(27, C_rat), (28, C_rhall), (32, C_rtoward), (33, C_rnear)]
theorem vc_rplan : vcg Tryd.prog (sigT tbl_rplan) [] Tryd.f37 C_rplan.params C_rplan.res = some phi_rplan := by kernel_rfl
--SPLIT
theorem rplan_sound : C_rplan.Sound Tryd.prog G 37 := by
  refine fn_ok mixed stable tbl_rplan [] Tryd.func37 (by kernel_rfl) phi_rplan vc_rplan ⟨rat_sound, rhall_sound, rtoward_sound, rnear_sound, trivial⟩ (fun _ _ _ => False) (fun _ _ _ => 0) ?_
  intro ls hp
  obtain ⟨s0, s1, s2, n, dir, rfl⟩ := rplan_pre hp
  clear hp
  rw [envOf_lk]
  unfold phi_rplan
  refine ⟨fun hcond => ?_, fun hcond => ?_⟩
  ·
    have c1 : (if (if (if (decide (n < (0 : Int))) = true then true else (decide ((64 : Int) ≤ n))) = true then true else (decide (dir < (-1)))) = true then true else (decide ((1 : Int) < dir))) = true := hcond
    clear hcond
    suffices hfin : (false) = (stopP s0 s1 s2 n dir) ∧ ((0 : Int)) = (dirP s0 s1 s2 n dir) ∧ ((0 : Int)) = (moveP s0 s1 s2 n dir) from (c_b hfin.1 (c_i hfin.2.1 (c_i hfin.2.2 rfl)))
    -- leaf 1 (ret)
    have hok : okP n dir = false := by
      rw [okP_niff]; simp at c1; omega
    simp [stopP, dirP, moveP, hok]
  ·
    have c2 : (if (if (if (decide (n < (0 : Int))) = true then true else (decide ((64 : Int) ≤ n))) = true then true else (decide (dir < (-1)))) = true then true else (decide ((1 : Int) < dir))) = false := hcond
    clear hcond
    have hok : okP n dir = true := by
      rw [okP_iff]; simp at c2; omega
    have hdr := (okP_iff.1 hok).2
    have e0 : IntKind.wrap .i64 (0 - dir) = -dir := by rw [wrap_in (by omega) (by omega)]; omega
    refine vg_call (C := C_rhall) rfl rfl (xs := [.i s0, .i s1, .i s2, .i n, .i (1 : Int)]) rfl (fun hg => ?_) (fun rs hrs => ?_)
    ·
      exact trivial
    obtain ⟨r5, hr5, rfl⟩ := rhall_res hrs
    clear hrs
    change Fm.holds _ _ (lk [.i s0, .i s1, .i s2, .i n, .i dir, .b r5])
    refine ⟨fun hcond => ?_, fun hcond => ?_⟩
    ·
      have c3 : (if (dir == (0 : Int)) = true then r5 else false) = true := hcond
      clear hcond
      refine vg_call (C := C_rat) rfl rfl (xs := [.i s0, .i s1, .i s2, .i n]) rfl (fun hg => ?_) (fun rs hrs => ?_)
      ·
        exact trivial
      obtain ⟨r6, hr6, rfl⟩ := rat_res hrs
      clear hrs
      change Fm.holds _ _ (lk [.i s0, .i s1, .i s2, .i n, .i dir, .b r5, .b r6])
      refine vg_call (C := C_rhall) rfl rfl (xs := [.i s0, .i s1, .i s2, .i n, .i (1 : Int)]) rfl (fun hg => ?_) (fun rs hrs => ?_)
      ·
        exact trivial
      obtain ⟨r7, hr7, rfl⟩ := rhall_res hrs
      clear hrs
      change Fm.holds _ _ (lk [.i s0, .i s1, .i s2, .i n, .i dir, .b r5, .b r6, .b r7])
      refine ⟨fun hcond => ?_, fun hcond => ?_⟩
      ·
        have c4 : (if r6 = true then true else r7) = false := hcond
        clear hcond
        suffices hfin : ((if r6 = true then true else r7)) = (stopP s0 s1 s2 n dir) ∧ ((1 : Int)) = (dirP s0 s1 s2 n dir) ∧ ((1 : Int)) = (moveP s0 s1 s2 n dir) from (c_b hfin.1 (c_i hfin.2.1 (c_i hfin.2.2 rfl)))
        -- leaf 2 (ret)
        clear c2
        simp only [e0] at *
        simp_all [stopP, dirP, moveP, turn, way] <;> grind
      ·
        have c5 : (if r6 = true then true else r7) = true := hcond
        clear hcond
        suffices hfin : ((if r6 = true then true else r7)) = (stopP s0 s1 s2 n dir) ∧ ((1 : Int)) = (dirP s0 s1 s2 n dir) ∧ ((0 : Int)) = (moveP s0 s1 s2 n dir) from (c_b hfin.1 (c_i hfin.2.1 (c_i hfin.2.2 rfl)))
        -- leaf 3 (ret)
        clear c2
        simp only [e0] at *
        simp_all [stopP, dirP, moveP, turn, way] <;> grind
    ·
      have c6 : (if (dir == (0 : Int)) = true then r5 else false) = false := hcond
      clear hcond
      refine vg_call (C := C_rhall) rfl rfl (xs := [.i s0, .i s1, .i s2, .i n, .i (-1)]) rfl (fun hg => ?_) (fun rs hrs => ?_)
      ·
        exact trivial
      obtain ⟨r6, hr6, rfl⟩ := rhall_res hrs
      clear hrs
      change Fm.holds _ _ (lk [.i s0, .i s1, .i s2, .i n, .i dir, .b r5, .b r6])
      refine ⟨fun hcond => ?_, fun hcond => ?_⟩
      ·
        have c7 : (if (dir == (0 : Int)) = true then r6 else false) = true := hcond
        clear hcond
        refine vg_call (C := C_rat) rfl rfl (xs := [.i s0, .i s1, .i s2, .i n]) rfl (fun hg => ?_) (fun rs hrs => ?_)
        ·
          exact trivial
        obtain ⟨r7, hr7, rfl⟩ := rat_res hrs
        clear hrs
        change Fm.holds _ _ (lk [.i s0, .i s1, .i s2, .i n, .i dir, .b r5, .b r6, .b r7])
        refine vg_call (C := C_rhall) rfl rfl (xs := [.i s0, .i s1, .i s2, .i n, .i (-1)]) rfl (fun hg => ?_) (fun rs hrs => ?_)
        ·
          exact trivial
        obtain ⟨r8, hr8, rfl⟩ := rhall_res hrs
        clear hrs
        change Fm.holds _ _ (lk [.i s0, .i s1, .i s2, .i n, .i dir, .b r5, .b r6, .b r7, .b r8])
        refine ⟨fun hcond => ?_, fun hcond => ?_⟩
        ·
          have c8 : (if r7 = true then true else r8) = false := hcond
          clear hcond
          suffices hfin : ((if r7 = true then true else r8)) = (stopP s0 s1 s2 n dir) ∧ ((-1)) = (dirP s0 s1 s2 n dir) ∧ ((-1)) = (moveP s0 s1 s2 n dir) from (c_b hfin.1 (c_i hfin.2.1 (c_i hfin.2.2 rfl)))
          -- leaf 4 (ret)
          clear c2
          simp only [e0] at *
          simp_all [stopP, dirP, moveP, turn, way] <;> grind
        ·
          have c9 : (if r7 = true then true else r8) = true := hcond
          clear hcond
          suffices hfin : ((if r7 = true then true else r8)) = (stopP s0 s1 s2 n dir) ∧ ((-1)) = (dirP s0 s1 s2 n dir) ∧ ((0 : Int)) = (moveP s0 s1 s2 n dir) from (c_b hfin.1 (c_i hfin.2.1 (c_i hfin.2.2 rfl)))
          -- leaf 5 (ret)
          clear c2
          simp only [e0] at *
          simp_all [stopP, dirP, moveP, turn, way] <;> grind
      ·
        have c10 : (if (dir == (0 : Int)) = true then r6 else false) = false := hcond
        clear hcond
        refine ⟨fun hcond => ?_, fun hcond => ?_⟩
        ·
          have c11 : (dir == (0 : Int)) = true := hcond
          clear hcond
          refine vg_call (C := C_rnear) rfl rfl (xs := [.i s0, .i s1, .i s2, .i n]) rfl (fun hg => ?_) (fun rs hrs => ?_)
          ·
            exact trivial
          obtain ⟨r7, hr7, rfl⟩ := rnear_res hrs
          clear hrs
          change Fm.holds _ _ (lk [.i s0, .i s1, .i s2, .i n, .i dir, .b r5, .b r6, .i r7])
          refine vg_call (C := C_rat) rfl rfl (xs := [.i s0, .i s1, .i s2, .i n]) rfl (fun hg => ?_) (fun rs hrs => ?_)
          ·
            exact trivial
          obtain ⟨r8, hr8, rfl⟩ := rat_res hrs
          clear hrs
          change Fm.holds _ _ (lk [.i s0, .i s1, .i s2, .i n, .i dir, .b r5, .b r6, .i r7, .b r8])
          refine vg_call (C := C_rhall) rfl rfl (xs := [.i s0, .i s1, .i s2, .i n, .i r7]) rfl (fun hg => ?_) (fun rs hrs => ?_)
          ·
            exact trivial
          obtain ⟨r9, hr9, rfl⟩ := rhall_res hrs
          clear hrs
          change Fm.holds _ _ (lk [.i s0, .i s1, .i s2, .i n, .i dir, .b r5, .b r6, .i r7, .b r8, .b r9])
          refine ⟨fun hcond => ?_, fun hcond => ?_⟩
          ·
            have c12 : (if r8 = true then true else r9) = false := hcond
            clear hcond
            suffices hfin : ((if r8 = true then true else r9)) = (stopP s0 s1 s2 n dir) ∧ (r7) = (dirP s0 s1 s2 n dir) ∧ (r7) = (moveP s0 s1 s2 n dir) from (c_b hfin.1 (c_i hfin.2.1 (c_i hfin.2.2 rfl)))
            -- leaf 6 (ret)
            clear c2
            simp only [e0] at *
            simp_all [stopP, dirP, moveP, turn, way] <;> grind
          ·
            have c13 : (if r8 = true then true else r9) = true := hcond
            clear hcond
            suffices hfin : ((if r8 = true then true else r9)) = (stopP s0 s1 s2 n dir) ∧ (r7) = (dirP s0 s1 s2 n dir) ∧ ((0 : Int)) = (moveP s0 s1 s2 n dir) from (c_b hfin.1 (c_i hfin.2.1 (c_i hfin.2.2 rfl)))
            -- leaf 7 (ret)
            clear c2
            simp only [e0] at *
            simp_all [stopP, dirP, moveP, turn, way] <;> grind
        ·
          have c14 : (dir == (0 : Int)) = false := hcond
          clear hcond
          refine vg_call (C := C_rtoward) rfl rfl (xs := [.i s0, .i s1, .i s2, .i n, .i dir]) rfl (fun hg => ?_) (fun rs hrs => ?_)
          ·
            exact trivial
          obtain ⟨r7, hr7, rfl⟩ := rtoward_res hrs
          clear hrs
          change Fm.holds _ _ (lk [.i s0, .i s1, .i s2, .i n, .i dir, .b r5, .b r6, .b r7])
          refine vg_call (C := C_rhall) rfl rfl (xs := [.i s0, .i s1, .i s2, .i n, .i dir]) rfl (fun hg => ?_) (fun rs hrs => ?_)
          ·
            exact trivial
          obtain ⟨r8, hr8, rfl⟩ := rhall_res hrs
          clear hrs
          change Fm.holds _ _ (lk [.i s0, .i s1, .i s2, .i n, .i dir, .b r5, .b r6, .b r7, .b r8])
          refine ⟨fun hcond => ?_, fun hcond => ?_⟩
          ·
            have c15 : (if r7 = true then true else r8) = true := hcond
            clear hcond
            refine vg_call (C := C_rat) rfl rfl (xs := [.i s0, .i s1, .i s2, .i n]) rfl (fun hg => ?_) (fun rs hrs => ?_)
            ·
              exact trivial
            obtain ⟨r9, hr9, rfl⟩ := rat_res hrs
            clear hrs
            change Fm.holds _ _ (lk [.i s0, .i s1, .i s2, .i n, .i dir, .b r5, .b r6, .b r7, .b r8, .b r9])
            refine vg_call (C := C_rhall) rfl rfl (xs := [.i s0, .i s1, .i s2, .i n, .i dir]) rfl (fun hg => ?_) (fun rs hrs => ?_)
            ·
              exact trivial
            obtain ⟨r10, hr10, rfl⟩ := rhall_res hrs
            clear hrs
            change Fm.holds _ _ (lk [.i s0, .i s1, .i s2, .i n, .i dir, .b r5, .b r6, .b r7, .b r8, .b r9, .b r10])
            refine ⟨fun hcond => ?_, fun hcond => ?_⟩
            ·
              have c16 : (if r9 = true then true else r10) = false := hcond
              clear hcond
              suffices hfin : ((if r9 = true then true else r10)) = (stopP s0 s1 s2 n dir) ∧ (dir) = (dirP s0 s1 s2 n dir) ∧ (dir) = (moveP s0 s1 s2 n dir) from (c_b hfin.1 (c_i hfin.2.1 (c_i hfin.2.2 rfl)))
              -- leaf 8 (ret)
              clear c2
              simp only [e0] at *
              simp_all [stopP, dirP, moveP, turn, way] <;> grind
            ·
              have c17 : (if r9 = true then true else r10) = true := hcond
              clear hcond
              suffices hfin : ((if r9 = true then true else r10)) = (stopP s0 s1 s2 n dir) ∧ (dir) = (dirP s0 s1 s2 n dir) ∧ ((0 : Int)) = (moveP s0 s1 s2 n dir) from (c_b hfin.1 (c_i hfin.2.1 (c_i hfin.2.2 rfl)))
              -- leaf 9 (ret)
              clear c2
              simp only [e0] at *
              simp_all [stopP, dirP, moveP, turn, way] <;> grind
          ·
            have c18 : (if r7 = true then true else r8) = false := hcond
            clear hcond
            refine vg_call (C := C_rtoward) rfl rfl (xs := [.i s0, .i s1, .i s2, .i n, .i (IntKind.wrap .i64 ((0 : Int) - dir))]) rfl (fun hg => ?_) (fun rs hrs => ?_)
            ·
              exact trivial
            obtain ⟨r9, hr9, rfl⟩ := rtoward_res hrs
            clear hrs
            change Fm.holds _ _ (lk [.i s0, .i s1, .i s2, .i n, .i dir, .b r5, .b r6, .b r7, .b r8, .b r9])
            refine vg_call (C := C_rhall) rfl rfl (xs := [.i s0, .i s1, .i s2, .i n, .i (IntKind.wrap .i64 ((0 : Int) - dir))]) rfl (fun hg => ?_) (fun rs hrs => ?_)
            ·
              exact trivial
            obtain ⟨r10, hr10, rfl⟩ := rhall_res hrs
            clear hrs
            change Fm.holds _ _ (lk [.i s0, .i s1, .i s2, .i n, .i dir, .b r5, .b r6, .b r7, .b r8, .b r9, .b r10])
            refine ⟨fun hcond => ?_, fun hcond => ?_⟩
            ·
              have c19 : (if r9 = true then true else r10) = true := hcond
              clear hcond
              refine vg_call (C := C_rat) rfl rfl (xs := [.i s0, .i s1, .i s2, .i n]) rfl (fun hg => ?_) (fun rs hrs => ?_)
              ·
                exact trivial
              obtain ⟨r11, hr11, rfl⟩ := rat_res hrs
              clear hrs
              change Fm.holds _ _ (lk [.i s0, .i s1, .i s2, .i n, .i dir, .b r5, .b r6, .b r7, .b r8, .b r9, .b r10, .b r11])
              refine vg_call (C := C_rhall) rfl rfl (xs := [.i s0, .i s1, .i s2, .i n, .i (IntKind.wrap .i64 ((0 : Int) - dir))]) rfl (fun hg => ?_) (fun rs hrs => ?_)
              ·
                exact trivial
              obtain ⟨r12, hr12, rfl⟩ := rhall_res hrs
              clear hrs
              change Fm.holds _ _ (lk [.i s0, .i s1, .i s2, .i n, .i dir, .b r5, .b r6, .b r7, .b r8, .b r9, .b r10, .b r11, .b r12])
              refine ⟨fun hcond => ?_, fun hcond => ?_⟩
              ·
                have c20 : (if r11 = true then true else r12) = false := hcond
                clear hcond
                suffices hfin : ((if r11 = true then true else r12)) = (stopP s0 s1 s2 n dir) ∧ ((IntKind.wrap .i64 ((0 : Int) - dir))) = (dirP s0 s1 s2 n dir) ∧ ((IntKind.wrap .i64 ((0 : Int) - dir))) = (moveP s0 s1 s2 n dir) from (c_b hfin.1 (c_i hfin.2.1 (c_i hfin.2.2 rfl)))
                -- leaf 10 (ret)
                clear c2
                simp only [e0] at *
                simp_all [stopP, dirP, moveP, turn, way] <;> grind
              ·
                have c21 : (if r11 = true then true else r12) = true := hcond
                clear hcond
                suffices hfin : ((if r11 = true then true else r12)) = (stopP s0 s1 s2 n dir) ∧ ((IntKind.wrap .i64 ((0 : Int) - dir))) = (dirP s0 s1 s2 n dir) ∧ ((0 : Int)) = (moveP s0 s1 s2 n dir) from (c_b hfin.1 (c_i hfin.2.1 (c_i hfin.2.2 rfl)))
                -- leaf 11 (ret)
                clear c2
                simp only [e0] at *
                simp_all [stopP, dirP, moveP, turn, way] <;> grind
            ·
              have c22 : (if r9 = true then true else r10) = false := hcond
              clear hcond
              refine vg_call (C := C_rat) rfl rfl (xs := [.i s0, .i s1, .i s2, .i n]) rfl (fun hg => ?_) (fun rs hrs => ?_)
              ·
                exact trivial
              obtain ⟨r11, hr11, rfl⟩ := rat_res hrs
              clear hrs
              change Fm.holds _ _ (lk [.i s0, .i s1, .i s2, .i n, .i dir, .b r5, .b r6, .b r7, .b r8, .b r9, .b r10, .b r11])
              refine vg_call (C := C_rhall) rfl rfl (xs := [.i s0, .i s1, .i s2, .i n, .i (0 : Int)]) rfl (fun hg => ?_) (fun rs hrs => ?_)
              ·
                exact trivial
              obtain ⟨r12, hr12, rfl⟩ := rhall_res hrs
              clear hrs
              change Fm.holds _ _ (lk [.i s0, .i s1, .i s2, .i n, .i dir, .b r5, .b r6, .b r7, .b r8, .b r9, .b r10, .b r11, .b r12])
              refine ⟨fun hcond => ?_, fun hcond => ?_⟩
              ·
                have c23 : (if r11 = true then true else r12) = false := hcond
                clear hcond
                suffices hfin : ((if r11 = true then true else r12)) = (stopP s0 s1 s2 n dir) ∧ ((0 : Int)) = (dirP s0 s1 s2 n dir) ∧ ((0 : Int)) = (moveP s0 s1 s2 n dir) from (c_b hfin.1 (c_i hfin.2.1 (c_i hfin.2.2 rfl)))
                -- leaf 12 (ret)
                clear c2
                simp only [e0] at *
                simp_all [stopP, dirP, moveP, turn, way] <;> grind
              ·
                have c24 : (if r11 = true then true else r12) = true := hcond
                clear hcond
                suffices hfin : ((if r11 = true then true else r12)) = (stopP s0 s1 s2 n dir) ∧ ((0 : Int)) = (dirP s0 s1 s2 n dir) ∧ ((0 : Int)) = (moveP s0 s1 s2 n dir) from (c_b hfin.1 (c_i hfin.2.1 (c_i hfin.2.2 rfl)))
                -- leaf 13 (ret)
                clear c2
                simp only [e0] at *
                simp_all [stopP, dirP, moveP, turn, way] <;> grind
def C_floors : Ctr := ⟨[.agg [.int .u64, .int .u64, .int .u64]], [.one (.lst [.int .i64])],
  fun | [.i _, .i _, .i _] => True | _ => False,
  fun | [.i s0, .i s1, .i s2] => [.l (floL s0 s1 s2)] | _ => []⟩
theorem floors_pre {ls : List Leaf} (h_ : C_floors.pre ls) : ∃ (s0 : Int) (s1 : Int) (s2 : Int), ls = [.i s0, .i s1, .i s2] := by
  unfold C_floors at h_; dsimp only at h_; split at h_
  · exact ⟨_, _, _, rfl⟩
  · exact h_.elim
theorem floors_res {s0 : Int} {s1 : Int} {s2 : Int} {rs_ : List Leaf} (h_ : rs_ = C_floors.fn [.i s0, .i s1, .i s2]) : ∃ (q0 : LV), q0 = (floL s0 s1 s2) ∧ rs_ = [.l q0] := ⟨_, rfl, h_⟩
def inv_floors_3 (s0 : Int) (s1 : Int) (s2 : Int) (x : LV) (n : Int) : Prop := 0 ≤ n ∧ n ≤ 64 ∧ x = lvOf (flo s0 s1 s2 n.toNat)
def meas_floors_3 (s0 : Int) (s1 : Int) (s2 : Int) (x : LV) (n : Int) : Nat := (64 - n).toNat
def phi_floors : Fm := (.loop 3 3 [0, 1, 2] [(.c 1 .nilsl []), (.i (.i 0))] [.l, .i] (.and (.imp (.lt (.v 4) (.i 64)) .true (.call 39 [] [(.i (.v 0)), (.i (.v 1)), (.i (.v 2))] 5 (.call 38 [] [(.i (.v 5)), (.i (.v 4))] 6 (.and (.imp (.v 6) .true (.app (.l 3) (.v 4) 7 (.back 3 3 5 [0, 1, 2] [(.l 7), (.i (.wrap .i64 (.add (.v 4) (.i 1))))]))) (.imp (.v 6) .false (.back 3 3 5 [0, 1, 2] [(.l 3), (.i (.wrap .i64 (.add (.v 4) (.i 1))))])))))) (.imp (.lt (.v 4) (.i 64)) .false (.ret [(.l 3)]))))
def tbl_floors : List (Nat × Ctr) := [(38, C_isb), (39, C_all)]
def inv_floors : List Leaf → Nat → List Leaf → Prop := fun _ key xs => match key, xs with
  | 3, [.i s0, .i s1, .i s2, .l x, .i n] => inv_floors_3 s0 s1 s2 x n
  | _, _ => False
def meas_floors : List Leaf → Nat → List Leaf → Nat := fun _ key xs => match key, xs with
  | 3, [.i s0, .i s1, .i s2, .l x, .i n] => meas_floors_3 s0 s1 s2 x n
  | _, _ => 0
theorem vc_floors : vcg Tryd.prog (sigT tbl_floors) [⟨3, [4, 6, 7, 8, 9, 10, 11, 12, 13, 14, 15, 16], [3, 5], [], [0, 1, 2], some (3, .i64)⟩] Tryd.f14 C_floors.params C_floors.res = some phi_floors := by kernel_rfl
--SPLIT
theorem floors_sound : C_floors.Sound Tryd.prog G 14 := by
  refine fn_ok mixed stable tbl_floors [⟨3, [4, 6, 7, 8, 9, 10, 11, 12, 13, 14, 15, 16], [3, 5], [], [0, 1, 2], some (3, .i64)⟩] Tryd.func14 (by kernel_rfl) phi_floors vc_floors ⟨isb_sound, all_sound, trivial⟩ inv_floors meas_floors ?_
  intro ls hp
  obtain ⟨s0, s1, s2, rfl⟩ := floors_pre hp
  clear hp
  rw [envOf_lk]
  unfold phi_floors
  refine vg_loop rfl ?_ (fun xs hfit hi => ?_)
  ·
    show inv_floors_3 s0 s1 s2 nilLV (0 : Int)
    -- leaf 1 (init)
    exact ⟨by omega, by omega, lvOf_nil⟩
  obtain ⟨x3, xs0, rfl, hfit0⟩ := fits_l hfit
  obtain ⟨x4, xs1, rfl, hfit1⟩ := fits_i hfit0
  obtain rfl := fits_nil hfit1
  clear hfit hfit0 hfit1
  replace hi : inv_floors_3 s0 s1 s2 x3 x4 := hi
  have hi3 := hi; clear hi
  change Fm.holds _ _ (lk [.i s0, .i s1, .i s2, .l x3, .i x4])
  obtain ⟨i0, i1, i2⟩ := hi3
  have ek : IntKind.wrap .i64 (x4 + 1) = x4 + 1 := wrap_in (by omega) (by omega)
  have hl := @flo_len s0 s1 s2 x4.toNat
  refine ⟨fun hcond => ?_, fun hcond => ?_⟩
  ·
    have c1 : (decide (x4 < (64 : Int))) = true := hcond
    clear hcond
    refine vg_call (C := C_all) rfl rfl (xs := [.i s0, .i s1, .i s2]) rfl (fun hg => ?_) (fun rs hrs => ?_)
    ·
      exact trivial
    obtain ⟨r5, hr5, rfl⟩ := all_res hrs
    clear hrs
    change Fm.holds _ _ (lk [.i s0, .i s1, .i s2, .l x3, .i x4, .i r5])
    refine vg_call (C := C_isb) rfl rfl (xs := [.i r5, .i x4]) rfl (fun hg => ?_) (fun rs hrs => ?_)
    ·
      exact trivial
    obtain ⟨r6, hr6, rfl⟩ := isb_res hrs
    clear hrs
    change Fm.holds _ _ (lk [.i s0, .i s1, .i s2, .l x3, .i x4, .i r5, .b r6])
    rw [hr5, isb_all] at hr6
    refine ⟨fun hcond => ?_, fun hcond => ?_⟩
    ·
      have c2 : r6 = true := hcond
      clear hcond
      refine vg_app rfl (x := x3) (y := x4) rfl rfl ?_ (fun r7 hr7 => ?_)
      ·
        show ((x3).len : Int) < 1000000000
        -- leaf 2 (app)
        rw [i2, lvOf_len]
        omega
      change Fm.holds _ _ (lk [.i s0, .i s1, .i s2, .l x3, .i x4, .i r5, .b r6, .l r7])
      refine ⟨?_, ?_⟩
      ·
        show inv_floors_3 s0 s1 s2 r7 (IntKind.wrap .i64 (x4 + (1 : Int)))
        -- leaf 3 (back)
        have hlt := of_decide_eq_true c1
        rw [ek]
        refine ⟨by omega, by omega, ?_⟩
        rw [hr7, i2, snoc_of, show (x4 + 1).toNat = x4.toNat + 1 by omega, flo_succ, show ((x4.toNat : Nat) : Int) = x4 by omega, ← hr6, if_pos c2]
      ·
        show meas_floors_3 s0 s1 s2 r7 (IntKind.wrap .i64 (x4 + (1 : Int))) < meas_floors_3 s0 s1 s2 x3 x4
        -- leaf 4 (meas)
        have hlt := of_decide_eq_true c1
        unfold meas_floors_3
        rw [ek]
        omega
    ·
      have c3 : r6 = false := hcond
      clear hcond
      refine ⟨?_, ?_⟩
      ·
        show inv_floors_3 s0 s1 s2 x3 (IntKind.wrap .i64 (x4 + (1 : Int)))
        -- leaf 5 (back)
        have hlt := of_decide_eq_true c1
        rw [ek]
        refine ⟨by omega, by omega, ?_⟩
        rw [i2, show (x4 + 1).toNat = x4.toNat + 1 by omega, flo_succ, show ((x4.toNat : Nat) : Int) = x4 by omega, ← hr6, if_neg (by rw [c3]; decide)]
      ·
        show meas_floors_3 s0 s1 s2 x3 (IntKind.wrap .i64 (x4 + (1 : Int))) < meas_floors_3 s0 s1 s2 x3 x4
        -- leaf 6 (meas)
        have hlt := of_decide_eq_true c1
        unfold meas_floors_3
        rw [ek]
        omega
  ·
    have c4 : (decide (x4 < (64 : Int))) = false := hcond
    clear hcond
    suffices hfin : (x3) = (floL s0 s1 s2) from (c_l hfin rfl)
    -- leaf 7 (ret)
    have hlt := of_decide_eq_false c4
    rw [i2, show x4.toNat = 64 by omega]
    rfl
def C_sameInts : Ctr := ⟨[.one (.lst [.int .i64]), .one (.lst [.int .i64])], [.one (.bool)],
  fun | [.l a, .l b] => (a.len : Int) ≤ 1000000 ∧ (b.len : Int) ≤ 1000000 | _ => False,
  fun | [.l a, .l b] => [.b (sameL a b)] | _ => []⟩
theorem sameInts_pre {ls : List Leaf} (h_ : C_sameInts.pre ls) : ∃ (a : LV) (b : LV), ls = [.l a, .l b] ∧ ((a.len : Int) ≤ 1000000 ∧ (b.len : Int) ≤ 1000000) := by
  unfold C_sameInts at h_; dsimp only at h_; split at h_
  · exact ⟨_, _, rfl, h_⟩
  · exact h_.elim
theorem sameInts_mk {a : LV} {b : LV} (h_ : (a.len : Int) ≤ 1000000 ∧ (b.len : Int) ≤ 1000000) : C_sameInts.pre [.l a, .l b] := h_
theorem sameInts_res {a : LV} {b : LV} {rs_ : List Leaf} (h_ : rs_ = C_sameInts.fn [.l a, .l b]) : ∃ (q0 : Bool), q0 = (sameL a b) ∧ rs_ = [.b q0] := ⟨_, rfl, h_⟩
def inv_sameInts_4 (a : LV) (b : LV) (i : Int) : Prop := 0 ≤ i ∧ i ≤ (a.len : Int) ∧ ∀ j : Nat, (j : Int) < i → a.gi j 0 = b.gi j 0
def meas_sameInts_4 (a : LV) (b : LV) (i : Int) : Nat := ((a.len : Int) - i).toNat
def phi_sameInts : Fm := (.and (.imp (.eq (.len 0) (.len 1)) .false (.ret [(.b (.t .false))])) (.imp (.eq (.len 0) (.len 1)) .true (.loop 4 2 [0, 1] [(.i (.i 0))] [.i] (.and (.imp (.lt (.v 2) (.len 0)) .true (.ob [] (.le (.i 0) (.v 2)) (.ob [] (.lt (.v 2) (.len 1)) (.and (.imp (.eq (.gi 0 0 (.v 2)) (.gi 1 0 (.v 2))) .false (.ret [(.b (.t .false))])) (.imp (.eq (.gi 0 0 (.v 2)) (.gi 1 0 (.v 2))) .true (.back 4 2 3 [0, 1] [(.i (.wrap .i64 (.add (.v 2) (.i 1))))])))))) (.imp (.lt (.v 2) (.len 0)) .false (.ret [(.b (.t .true))]))))))
def tbl_sameInts : List (Nat × Ctr) := []
def inv_sameInts : List Leaf → Nat → List Leaf → Prop := fun _ key xs => match key, xs with
  | 4, [.l a, .l b, .i i] => inv_sameInts_4 a b i
  | _, _ => False
def meas_sameInts : List Leaf → Nat → List Leaf → Nat := fun _ key xs => match key, xs with
  | 4, [.l a, .l b, .i i] => meas_sameInts_4 a b i
  | _, _ => 0
theorem vc_sameInts : vcg Tryd.prog (sigT tbl_sameInts) [⟨4, [4, 6, 12, 13, 14, 15, 16, 17, 18, 19, 20, 21, 22, 23, 24, 25, 26, 27, 28], [5], [], [0, 1], some (3, .i64)⟩] Tryd.f34 C_sameInts.params C_sameInts.res = some phi_sameInts := by kernel_rfl
--SPLIT
theorem sameInts_sound : C_sameInts.Sound Tryd.prog G 34 := by
  refine fn_ok mixed stable tbl_sameInts [⟨4, [4, 6, 12, 13, 14, 15, 16, 17, 18, 19, 20, 21, 22, 23, 24, 25, 26, 27, 28], [5], [], [0, 1], some (3, .i64)⟩] Tryd.func34 (by kernel_rfl) phi_sameInts vc_sameInts trivial inv_sameInts meas_sameInts ?_
  intro ls hp
  obtain ⟨a, b, rfl, hpre⟩ := sameInts_pre hp
  clear hp
  rw [envOf_lk]
  unfold phi_sameInts
  refine ⟨fun hcond => ?_, fun hcond => ?_⟩
  ·
    have c1 : ((a.len : Int) == (b.len : Int)) = false := hcond
    clear hcond
    suffices hfin : (false) = (sameL a b) from (c_b hfin rfl)
    -- leaf 1 (ret)
    have el : (a.len == b.len) = false := by
      rw [beq_eq_false_iff_ne]
      intro e
      rw [e] at c1
      simp at c1
    simp [sameL, el]
  ·
    have c2 : ((a.len : Int) == (b.len : Int)) = true := hcond
    clear hcond
    have el : a.len = b.len := by
      have h : (a.len : Int) = b.len := by simpa using c2
      omega
    refine vg_loop rfl ?_ (fun xs hfit hi => ?_)
    ·
      show inv_sameInts_4 a b (0 : Int)
      -- leaf 2 (init)
      exact ⟨by omega, by omega, fun j h => by omega⟩
    obtain ⟨x2, xs0, rfl, hfit0⟩ := fits_i hfit
    obtain rfl := fits_nil hfit0
    clear hfit hfit0
    replace hi : inv_sameInts_4 a b x2 := hi
    have hi4 := hi; clear hi
    change Fm.holds _ _ (lk [.l a, .l b, .i x2])
    obtain ⟨j0, j1, j2⟩ := hi4
    have ek : IntKind.wrap .i64 (x2 + 1) = x2 + 1 := wrap_in (by omega) (by omega)
    refine ⟨fun hcond => ?_, fun hcond => ?_⟩
    ·
      have c3 : (decide (x2 < (a.len : Int))) = true := hcond
      clear hcond
      refine ⟨fun hg => ?_, ?_⟩
      ·
        show (decide ((0 : Int) ≤ x2)) = true
        -- leaf 3 (ob)
        simp; omega
      refine ⟨fun hg => ?_, ?_⟩
      ·
        show (decide (x2 < (b.len : Int))) = true
        -- leaf 4 (ob)
        have h := of_decide_eq_true c3
        simp; omega
      refine ⟨fun hcond => ?_, fun hcond => ?_⟩
      ·
        have c4 : ((a.gi (Int.toNat x2) 0) == (b.gi (Int.toNat x2) 0)) = false := hcond
        clear hcond
        suffices hfin : (false) = (sameL a b) from (c_b hfin rfl)
        -- leaf 5 (ret)
        have h := of_decide_eq_true c3
        simp only [sameL, el, beq_self_eq_true, Bool.true_and]
        symm
        rw [List.all_eq_false]
        exact ⟨x2.toNat, List.mem_range.2 (by omega), by rw [c4]; decide⟩
      ·
        have c5 : ((a.gi (Int.toNat x2) 0) == (b.gi (Int.toNat x2) 0)) = true := hcond
        clear hcond
        refine ⟨?_, ?_⟩
        ·
          show inv_sameInts_4 a b (IntKind.wrap .i64 (x2 + (1 : Int)))
          -- leaf 6 (back)
          have h := of_decide_eq_true c3
          rw [ek]
          refine ⟨by omega, by omega, fun j hj => ?_⟩
          by_cases hjx : (j : Int) = x2
          · rw [show j = x2.toNat by omega]; simpa using c5
          · exact j2 j (by omega)
        ·
          show meas_sameInts_4 a b (IntKind.wrap .i64 (x2 + (1 : Int))) < meas_sameInts_4 a b x2
          -- leaf 7 (meas)
          have h := of_decide_eq_true c3
          unfold meas_sameInts_4
          rw [ek]
          omega
    ·
      have c6 : (decide (x2 < (a.len : Int))) = false := hcond
      clear hcond
      suffices hfin : (true) = (sameL a b) from (c_b hfin rfl)
      -- leaf 8 (ret)
      have h := of_decide_eq_false c6
      simp only [sameL, el, beq_self_eq_true, Bool.true_and]
      symm
      rw [List.all_eq_true]
      intro j hj
      have := List.mem_range.1 hj
      rw [j2 j (by omega)]
      simp
def C_number : Ctr := ⟨[.one (.int .i64), .one (.int .i64)], [.one (.int .i64)],
  fun | [.i n, .i b] => 0 < b ∧ b ≤ 4611686018427387904 | _ => False,
  fun | [.i n, .i b] => [.i (number n b)] | _ => []⟩
theorem number_pre {ls : List Leaf} (h_ : C_number.pre ls) : ∃ (n : Int) (b : Int), ls = [.i n, .i b] ∧ (0 < b ∧ b ≤ 4611686018427387904) := by
  unfold C_number at h_; dsimp only at h_; split at h_
  · exact ⟨_, _, rfl, h_⟩
  · exact h_.elim
theorem number_mk {n : Int} {b : Int} (h_ : 0 < b ∧ b ≤ 4611686018427387904) : C_number.pre [.i n, .i b] := h_
theorem number_res {n : Int} {b : Int} {rs_ : List Leaf} (h_ : rs_ = C_number.fn [.i n, .i b]) : ∃ (q0 : Int), q0 = (number n b) ∧ rs_ = [.i q0] := ⟨_, rfl, h_⟩
def phi_number : Fm := (.ob [] (.not (.eq (.v 1) (.i 0))) (.and (.imp (.lt (.rem (.v 0) (.v 1)) (.i 0)) .true (.ret [(.i (.wrap .i64 (.add (.rem (.v 0) (.v 1)) (.v 1))))])) (.imp (.lt (.rem (.v 0) (.v 1)) (.i 0)) .false (.ret [(.i (.rem (.v 0) (.v 1)))]))))
def tbl_number : List (Nat × Ctr) := []
theorem vc_number : vcg Tryd.prog (sigT tbl_number) [] Tryd.f13 C_number.params C_number.res = some phi_number := by kernel_rfl
--SPLIT
theorem number_sound : C_number.Sound Tryd.prog G 13 := by
  refine fn_ok mixed stable tbl_number [] Tryd.func13 (by kernel_rfl) phi_number vc_number trivial (fun _ _ _ => False) (fun _ _ _ => 0) ?_
  intro ls hp
  obtain ⟨n, b, rfl, hpre⟩ := number_pre hp
  clear hp
  rw [envOf_lk]
  unfold phi_number
  refine ⟨fun hg => ?_, ?_⟩
  ·
    show (!(b == (0 : Int))) = true
    -- leaf 1 (ob)
    simp; omega
  refine ⟨fun hcond => ?_, fun hcond => ?_⟩
  ·
    have c1 : (decide ((Int.tmod n b) < (0 : Int))) = true := hcond
    clear hcond
    suffices hfin : ((IntKind.wrap .i64 ((Int.tmod n b) + b))) = (number n b) from (c_i hfin rfl)
    -- leaf 2 (ret)
    simp only [number]
    have h1 := Int.emod_nonneg n (show b ≠ 0 by omega)
    have h2 := Int.emod_lt_of_pos n (show 0 < b by omega)
    rcases number_cases n b hpre.1 with ⟨h3, _⟩ | ⟨h3, _⟩ <;> rw [h3] at c1 ⊢ <;> simp at c1 <;> (try simp (disch := omega) only [wrap_in]) <;> omega
  ·
    have c2 : (decide ((Int.tmod n b) < (0 : Int))) = false := hcond
    clear hcond
    suffices hfin : ((Int.tmod n b)) = (number n b) from (c_i hfin rfl)
    -- leaf 3 (ret)
    simp only [number]
    have h1 := Int.emod_nonneg n (show b ≠ 0 by omega)
    have h2 := Int.emod_lt_of_pos n (show 0 < b by omega)
    rcases number_cases n b hpre.1 with ⟨h3, _⟩ | ⟨h3, _⟩ <;> rw [h3] at c2 ⊢ <;> simp at c2 <;> (try simp (disch := omega) only [wrap_in]) <;> omega
def C_first14 : Ctr := ⟨[], [.one (.bool)],
  fun | [] => True | _ => False,
  fun | [] => [.b (true)] | _ => []⟩
theorem first14_pre {ls : List Leaf} (h_ : C_first14.pre ls) : ls = [] := by
  unfold C_first14 at h_; dsimp only at h_; split at h_
  · rfl
  · exact h_.elim
theorem first14_res  {rs_ : List Leaf} (h_ : rs_ = C_first14.fn []) : ∃ (q0 : Bool), q0 = (true) ∧ rs_ = [.b q0] := ⟨_, rfl, h_⟩
def phi_first14 : Fm := (.call 23 [] [(.c 1 (.osl 0 1) [(.int .i64 (.i 3))]), (.c 3 .nilsl [])] 0 (.call 16 [] [(.i (.v 0)), (.i (.v 1)), (.i (.v 2)), (.i (.i 3))] 3 (.call 18 [((.v 3), .true)] [(.i (.v 0)), (.i (.v 1)), (.i (.v 2)), (.i (.i 2))] 4 (.call 18 [((.ite (.v 3) (.v 4) (.t .false)), .true)] [(.i (.v 0)), (.i (.v 1)), (.i (.v 2)), (.i (.i 3))] 5 (.ret [(.b (.ite (.ite (.v 3) (.v 4) (.t .false)) (.not (.v 5)) (.t .false)))])))))
def tbl_first14 : List (Nat × Ctr) := [(16, C_at), (18, C_above), (23, C_of)]
theorem vc_first14 : vcg Tryd.prog (sigT tbl_first14) [] Tryd.f12 C_first14.params C_first14.res = some phi_first14 := by kernel_rfl
--SPLIT
theorem first14_sound : C_first14.Sound Tryd.prog G 12 := by
  refine fn_ok mixed stable tbl_first14 [] Tryd.func12 (by kernel_rfl) phi_first14 vc_first14 ⟨at_sound, above_sound, of_sound, trivial⟩ (fun _ _ _ => False) (fun _ _ _ => 0) ?_
  intro ls hp
  obtain rfl := first14_pre hp
  clear hp
  rw [envOf_lk]
  unfold phi_first14
  refine vg_call (C := C_of) rfl rfl (xs := [_, _]) rfl (fun hg => ?_) (fun rs hrs => ?_)
  ·
    refine of_mk ?_
    -- leaf 1 (pre)
    constructor <;> decide
  obtain ⟨r0, r1, r2, hr0, hr1, hr2, rfl⟩ := of_res hrs
  clear hrs
  change Fm.holds _ _ (lk [.i r0, .i r1, .i r2])
  refine vg_call (C := C_at) rfl rfl (xs := [.i r0, .i r1, .i r2, .i (3 : Int)]) rfl (fun hg => ?_) (fun rs hrs => ?_)
  ·
    exact trivial
  obtain ⟨r3, hr3, rfl⟩ := at_res hrs
  clear hrs
  change Fm.holds _ _ (lk [.i r0, .i r1, .i r2, .b r3])
  refine vg_call (C := C_above) rfl rfl (xs := [.i r0, .i r1, .i r2, .i (2 : Int)]) rfl (fun hg => ?_) (fun rs hrs => ?_)
  ·
    exact trivial
  obtain ⟨r4, hr4, rfl⟩ := above_res hrs
  clear hrs
  change Fm.holds _ _ (lk [.i r0, .i r1, .i r2, .b r3, .b r4])
  refine vg_call (C := C_above) rfl rfl (xs := [.i r0, .i r1, .i r2, .i (3 : Int)]) rfl (fun hg => ?_) (fun rs hrs => ?_)
  ·
    exact trivial
  obtain ⟨r5, hr5, rfl⟩ := above_res hrs
  clear hrs
  change Fm.holds _ _ (lk [.i r0, .i r1, .i r2, .b r3, .b r4, .b r5])
  suffices hfin : ((if (if r3 = true then r4 else false) = true then (!r5) else false)) = (true) from (c_b hfin rfl)
  -- leaf 2 (ret)
  subst_vars
  decide +kernel
def C_first15 : Ctr := ⟨[], [.one (.bool)],
  fun | [] => True | _ => False,
  fun | [] => [.b (true)] | _ => []⟩
theorem first15_pre {ls : List Leaf} (h_ : C_first15.pre ls) : ls = [] := by
  unfold C_first15 at h_; dsimp only at h_; split at h_
  · rfl
  · exact h_.elim
theorem first15_res  {rs_ : List Leaf} (h_ : rs_ = C_first15.fn []) : ∃ (q0 : Bool), q0 = (true) ∧ rs_ = [.b q0] := ⟨_, rfl, h_⟩
def phi_first15 : Fm := (.call 23 [] [(.c 1 (.osl 0 1) [(.int .i64 (.i 3))]), (.c 3 .nilsl [])] 0 (.call 36 [] [(.i (.v 0)), (.i (.v 1)), (.i (.v 2)), (.i (.i 1)), (.i (.i 0))] 3 (.and (.imp (.ite (.not (.v 3)) (.eq (.v 5) (.i 1)) (.t .false)) .true (.call 23 [] [(.c 1 (.osl 2 1) [(.int .i64 (.i 3))]), (.c 3 .nilsl [])] 6 (.call 36 [] [(.i (.v 6)), (.i (.v 7)), (.i (.v 8)), (.i (.i 3)), (.i (.i 1))] 9 (.ret [(.b (.v 9))])))) (.imp (.ite (.not (.v 3)) (.eq (.v 5) (.i 1)) (.t .false)) .false (.ret [(.b (.t .false))])))))
def tbl_first15 : List (Nat × Ctr) := [(23, C_of), (36, C_planat)]
theorem vc_first15 : vcg Tryd.prog (sigT tbl_first15) [] Tryd.f35 C_first15.params C_first15.res = some phi_first15 := by kernel_rfl
--SPLIT
theorem first15_sound : C_first15.Sound Tryd.prog G 35 := by
  refine fn_ok mixed stable tbl_first15 [] Tryd.func35 (by kernel_rfl) phi_first15 vc_first15 ⟨of_sound, planat_sound, trivial⟩ (fun _ _ _ => False) (fun _ _ _ => 0) ?_
  intro ls hp
  obtain rfl := first15_pre hp
  clear hp
  rw [envOf_lk]
  unfold phi_first15
  refine vg_call (C := C_of) rfl rfl (xs := [_, _]) rfl (fun hg => ?_) (fun rs hrs => ?_)
  ·
    refine of_mk ?_
    -- leaf 1 (pre)
    constructor <;> exact (of_decide_eq_true rfl)
  obtain ⟨r0, r1, r2, hr0, hr1, hr2, rfl⟩ := of_res hrs
  clear hrs
  change Fm.holds _ _ (lk [.i r0, .i r1, .i r2])
  refine vg_call (C := C_planat) rfl rfl (xs := [.i r0, .i r1, .i r2, .i (1 : Int), .i (0 : Int)]) rfl (fun hg => ?_) (fun rs hrs => ?_)
  ·
    exact trivial
  obtain ⟨r3, r4, r5, hr3, hr4, hr5, rfl⟩ := planat_res hrs
  clear hrs
  change Fm.holds _ _ (lk [.i r0, .i r1, .i r2, .b r3, .i r4, .i r5])
  refine ⟨fun hcond => ?_, fun hcond => ?_⟩
  ·
    have c1 : (if (!r3) = true then (r5 == (1 : Int)) else false) = true := hcond
    clear hcond
    refine vg_call (C := C_of) rfl rfl (xs := [_, _]) rfl (fun hg => ?_) (fun rs hrs => ?_)
    ·
      refine of_mk ?_
      -- leaf 2 (pre)
      constructor <;> exact (of_decide_eq_true rfl)
    obtain ⟨r6, r7, r8, hr6, hr7, hr8, rfl⟩ := of_res hrs
    clear hrs
    change Fm.holds _ _ (lk [.i r0, .i r1, .i r2, .b r3, .i r4, .i r5, .i r6, .i r7, .i r8])
    refine vg_call (C := C_planat) rfl rfl (xs := [.i r6, .i r7, .i r8, .i (3 : Int), .i (1 : Int)]) rfl (fun hg => ?_) (fun rs hrs => ?_)
    ·
      exact trivial
    obtain ⟨r9, r10, r11, hr9, hr10, hr11, rfl⟩ := planat_res hrs
    clear hrs
    change Fm.holds _ _ (lk [.i r0, .i r1, .i r2, .b r3, .i r4, .i r5, .i r6, .i r7, .i r8, .b r9, .i r10, .i r11])
    suffices hfin : (r9) = (true) from (c_b hfin rfl)
    -- leaf 3 (ret)
    subst_vars
    first | decide +kernel | (exfalso; revert c1; decide +kernel) | (exfalso; revert c2; decide +kernel)
  ·
    have c2 : (if (!r3) = true then (r5 == (1 : Int)) else false) = false := hcond
    clear hcond
    suffices hfin : (false) = (true) from (c_b hfin rfl)
    -- leaf 4 (ret)
    subst_vars
    first | decide +kernel | (exfalso; revert c1; decide +kernel) | (exfalso; revert c2; decide +kernel)
def C_other14 : Ctr := ⟨[.agg [.int .u64, .int .u64, .int .u64]], [.agg [.int .u64, .int .u64, .int .u64]],
  fun | [.i _, .i _, .i _] => True | _ => False,
  fun | [.i s0, .i s1, .i s2] => [.i (s0), .i (s1), .i (s2)] | _ => []⟩
theorem other14_pre {ls : List Leaf} (h_ : C_other14.pre ls) : ∃ (s0 : Int) (s1 : Int) (s2 : Int), ls = [.i s0, .i s1, .i s2] := by
  unfold C_other14 at h_; dsimp only at h_; split at h_
  · exact ⟨_, _, _, rfl⟩
  · exact h_.elim
theorem other14_res {s0 : Int} {s1 : Int} {s2 : Int} {rs_ : List Leaf} (h_ : rs_ = C_other14.fn [.i s0, .i s1, .i s2]) : ∃ (q0 : Int) (q1 : Int) (q2 : Int), q0 = (s0) ∧ q1 = (s1) ∧ q2 = (s2) ∧ rs_ = [.i q0, .i q1, .i q2] := ⟨_, _, _, rfl, rfl, rfl, h_⟩
def phi_other14 : Fm := (.ret [(.i (.v 0)), (.i (.v 1)), (.i (.v 2))])
def tbl_other14 : List (Nat × Ctr) := []
theorem vc_other14 : vcg Tryd.prog (sigT tbl_other14) [] Tryd.f20 C_other14.params C_other14.res = some phi_other14 := by kernel_rfl
--SPLIT
theorem other14_sound : C_other14.Sound Tryd.prog G 20 := by
  refine fn_ok mixed stable tbl_other14 [] Tryd.func20 (by kernel_rfl) phi_other14 vc_other14 trivial (fun _ _ _ => False) (fun _ _ _ => 0) ?_
  intro ls hp
  obtain ⟨s0, s1, s2, rfl⟩ := other14_pre hp
  clear hp
  rw [envOf_lk]
  unfold phi_other14
  suffices hfin : (s0) = (s0) ∧ (s1) = (s1) ∧ (s2) = (s2) from (c_i hfin.1 (c_i hfin.2.1 (c_i hfin.2.2 rfl)))
  -- leaf 1 (ret)
  exact ⟨rfl, rfl, rfl⟩
def C_same14 : Ctr := ⟨[.agg [.int .u64, .int .u64, .int .u64], .agg [.int .u64, .int .u64, .int .u64]], [.one (.bool)],
  fun | [.i _, .i _, .i _, .i _, .i _, .i _] => True | _ => False,
  fun | [.i s0, .i s1, .i s2, .i t0, .i t1, .i t2] => [.b (s0 == t0 && (s1 == t1 && s2 == t2))] | _ => []⟩
theorem same14_pre {ls : List Leaf} (h_ : C_same14.pre ls) : ∃ (s0 : Int) (s1 : Int) (s2 : Int) (t0 : Int) (t1 : Int) (t2 : Int), ls = [.i s0, .i s1, .i s2, .i t0, .i t1, .i t2] := by
  unfold C_same14 at h_; dsimp only at h_; split at h_
  · exact ⟨_, _, _, _, _, _, rfl⟩
  · exact h_.elim
theorem same14_res {s0 : Int} {s1 : Int} {s2 : Int} {t0 : Int} {t1 : Int} {t2 : Int} {rs_ : List Leaf} (h_ : rs_ = C_same14.fn [.i s0, .i s1, .i s2, .i t0, .i t1, .i t2]) : ∃ (q0 : Bool), q0 = (s0 == t0 && (s1 == t1 && s2 == t2)) ∧ rs_ = [.b q0] := ⟨_, rfl, h_⟩
def phi_same14 : Fm := (.ret [(.b (.ite (.ite (.eq (.v 0) (.v 3)) (.eq (.v 1) (.v 4)) (.t .false)) (.eq (.v 2) (.v 5)) (.t .false)))])
def tbl_same14 : List (Nat × Ctr) := []
theorem vc_same14 : vcg Tryd.prog (sigT tbl_same14) [] Tryd.f22 C_same14.params C_same14.res = some phi_same14 := by kernel_rfl
--SPLIT
theorem same14_sound : C_same14.Sound Tryd.prog G 22 := by
  refine fn_ok mixed stable tbl_same14 [] Tryd.func22 (by kernel_rfl) phi_same14 vc_same14 trivial (fun _ _ _ => False) (fun _ _ _ => 0) ?_
  intro ls hp
  obtain ⟨s0, s1, s2, t0, t1, t2, rfl⟩ := same14_pre hp
  clear hp
  rw [envOf_lk]
  unfold phi_same14
  suffices hfin : ((if (if (s0 == t0) = true then (s1 == t1) else false) = true then (s2 == t2) else false)) = (s0 == t0 && (s1 == t1 && s2 == t2)) from (c_b hfin rfl)
  -- leaf 1 (ret)
  subst_vars
  grind
end Go.Proofs.YtppnpmpocnpgaaaDoor
