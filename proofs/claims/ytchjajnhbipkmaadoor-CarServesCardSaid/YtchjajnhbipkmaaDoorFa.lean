import Derived.Test.YtchjajnhbipkmaaDoorVg
import Derived.Test.YtchjajnhbipkmaaDoorProg
import Derived.Test.YtchjajnhbipkmaaDoorShelf
import Derived.Lib.ItoaNum
namespace Go.Proofs.YtchjajnhbipkmaaDoor
open Go.Vg
set_option linter.unusedVariables false
set_option linter.unusedSimpArgs false
theorem mixed : Tryd.prog.follows .mixedOrders = true := by kernel_rfl
def G : World → Prop := TabAt 0 Lib.deBruijn64tab
theorem stable : Stable G := fun w w' h hb j hj => by
  have h1 := h j hj
  rw [Go.RowKit.Below.cell hb (World.block_lt_of_cell? w _ h1)]
  exact h1
open Go

def between (n lo hi : Int) : Bool := decide (lo ≤ n ∧ n ≤ hi)
def valid (c f s d : Int) : Bool := between c 1 16 && between f 2 64 && between s 1 8 && between d 1 8
def top (c f s d : Int) : Int := if valid c f s d = true then (f - 1) * s else 0
def level (c f s d p : Int) : Bool := valid c f s d && between p 0 (top c f s d) && decide (p % s = 0)
def floor (c f s d p : Int) : Int := if valid c f s d = true then (min (max p 0) (top c f s d)) / s else 0
def clampM (m : Int) : Int := min (max m (-1)) 1
def goIs (c f s d p m : Int) : Bool := valid c f s d && between p (-1) (top c f s d + 1) && between (p + clampM m) 0 (top c f s d)
def goPos (c f s d p m : Int) : Int := if goIs c f s d p m = true then p + clampM m else 0
def right (c f s d p dir door : Int) (rl : Bool) : Bool :=
  valid c f s d && between p 0 (top c f s d) && between dir (-1) 1 && between door 0 d && !(decide (0 < door) && (!(level c f s d p) || rl)) && (level c f s d p || decide (dir ≠ 0) || rl)
def number (n b : Int) : Int := n % b

theorem between_iff {n lo hi : Int} : between n lo hi = true ↔ lo ≤ n ∧ n ≤ hi := by simp [between]
theorem between_niff {n lo hi : Int} : between n lo hi = false ↔ n < lo ∨ hi < n := by simp [between]; omega
theorem valid_iff {c f s d : Int} : valid c f s d = true ↔ (1 ≤ c ∧ c ≤ 16) ∧ (2 ≤ f ∧ f ≤ 64) ∧ (1 ≤ s ∧ s ≤ 8) ∧ (1 ≤ d ∧ d ≤ 8) := by
  simp [valid, between]; grind
theorem mul_range {f s : Int} (h1 : 2 ≤ f) (h2 : f ≤ 64) (h3 : 1 ≤ s) (h4 : s ≤ 8) : 1 ≤ (f - 1) * s ∧ (f - 1) * s ≤ 504 := by
  constructor
  · have := Int.mul_le_mul (show (1:Int) ≤ f - 1 by omega) h3 (by omega) (by omega); omega
  · have := Int.mul_le_mul (show f - 1 ≤ (63:Int) by omega) h4 (by omega) (by omega); omega
theorem top_eq {c f s d : Int} (h : valid c f s d = true) : top c f s d = (f - 1) * s := by unfold top; rw [if_pos h]
theorem top_no {c f s d : Int} (h : valid c f s d = false) : top c f s d = 0 := by unfold top; rw [if_neg (by rw [h]; decide)]
theorem top_range (c f s d : Int) : 0 ≤ top c f s d ∧ top c f s d ≤ 504 := by
  unfold top; split
  · rename_i h; rw [valid_iff] at h; have := @mul_range f s (by omega) (by omega) (by omega) (by omega); omega
  · omega
theorem clampM_range (m : Int) : -1 ≤ clampM m ∧ clampM m ≤ 1 := by unfold clampM; omega
theorem clamp_if (m : Int) : (if (1 : Int) < (if m < -1 then -1 else m) then 1 else (if m < -1 then -1 else m)) = clampM m := by unfold clampM; omega
theorem tmod_emod {p s : Int} (h : 0 ≤ p) : Int.tmod p s = p % s := Int.tmod_eq_emod_of_nonneg h
theorem tdiv_ediv {p s : Int} (h : 0 ≤ p) : Int.tdiv p s = p / s := Int.tdiv_eq_ediv_of_nonneg h
theorem number_cases (n b : Int) (h : 0 < b) : (Int.tmod n b = n % b ∧ True) ∨ (Int.tmod n b = n % b - b ∧ True) := by
  have h1 := @Int.tmod_eq_emod n b
  split at h1
  · exact .inl ⟨by omega, trivial⟩
  · exact .inr ⟨by rw [h1, Int.natAbs_of_nonneg (by omega)], trivial⟩
theorem div_range {p s : Int} (h : 0 ≤ p) (h2 : p ≤ 504) (h3 : 1 ≤ s) : 0 ≤ p / s ∧ p / s ≤ 504 := by
  constructor
  · exact Int.ediv_nonneg h (by omega)
  · have := Int.ediv_le_self s h; omega


abbrev B (x : Int) : BitVec 64 := BitVec.ofInt 64 x
def N (b : BitVec 64) : Int := (b.toNat : Int)
theorem N_range (b : BitVec 64) : 0 ≤ N b ∧ N b < 18446744073709551616 := by
  have := b.isLt
  unfold N; omega
theorem wrap_u64 {n : Int} : IntKind.wrap .u64 n = n % 18446744073709551616 := by
  simp [IntKind.wrap, IntKind.signed, IntKind.bits]
theorem wrap_N (b : BitVec 64) : IntKind.wrap .u64 (N b) = N b := by
  have := N_range b
  rw [wrap_u64]; omega
theorem B_N (b : BitVec 64) : B (N b) = b := by
  apply BitVec.eq_of_toNat_eq
  simp [B, N]
theorem N_B {x : Int} (h : 0 ≤ x) (h2 : x < 18446744073709551616) : N (B x) = x := by
  unfold N B
  rw [BitVec.toNat_ofInt]; omega
theorem N_inj {a b : BitVec 64} : N a = N b ↔ a = b := ⟨fun h => by rw [← B_N a, h, B_N], fun h => by rw [h]⟩
theorem bv_or (x y : Int) : bitv .or .u64 x y = N (B x ||| B y) := wrap_N _
theorem bv_and (x y : Int) : bitv .and .u64 x y = N (B x &&& B y) := wrap_N _
theorem bv_xor (x y : Int) : bitv .xor .u64 x y = N (B x ^^^ B y) := wrap_N _
theorem bv_andNot (x y : Int) : bitv .andNot .u64 x y = N (B x &&& ~~~ B y) := wrap_N _
theorem B_shl (x : Int) (n : Nat) : B (x * 2 ^ n) = B x <<< n := by
  apply BitVec.eq_of_toNat_eq
  rw [BitVec.toNat_shiftLeft, BitVec.toNat_ofInt, BitVec.toNat_ofInt, Nat.shiftLeft_eq]
  have e : ((2 ^ 64 : Nat) : Int) = 18446744073709551616 := by decide
  have e2 : (2 ^ 64 : Nat) = 18446744073709551616 := by decide
  have e3 : (2 : Int) ^ n = ((2 ^ n : Nat) : Int) := by simp
  rw [e, e2, e3]
  generalize 2 ^ n = m
  apply Int.ofNat_inj.1
  have h1 := Int.emod_nonneg x (show (18446744073709551616 : Int) ≠ 0 by decide)
  have h2 := Int.emod_nonneg (x * m) (show (18446744073709551616 : Int) ≠ 0 by decide)
  rw [Int.toNat_of_nonneg h2, Int.natCast_emod, Int.natCast_mul, Int.toNat_of_nonneg h1]
  show x * m % 18446744073709551616 = (x % 18446744073709551616) * m % 18446744073709551616
  rw [Int.mul_emod x m, Int.mul_emod (x % 18446744073709551616) m, Int.emod_emod_of_dvd x (Int.dvd_refl _)]
theorem bv_shl (x n : Int) : IntKind.wrap .u64 (x * 2 ^ (min n.toNat (IntKind.bits .u64))) = N (B x <<< n.toNat) := by
  have h : ∀ y : Int, IntKind.wrap .u64 y = N (B y) := fun y => by
    rw [wrap_u64]; unfold N B; rw [BitVec.toNat_ofInt]; omega
  rw [h, B_shl]
  congr 1
  simp only [IntKind.bits]
  by_cases hn : n.toNat ≤ 64
  · rw [Nat.min_eq_left hn]
  · rw [Nat.min_eq_right (by omega), BitVec.shiftLeft_eq_zero (by omega), BitVec.shiftLeft_eq_zero (by omega)]
theorem bv_shr (b : BitVec 64) (n : Int) : Int.fdiv (N b) (2 ^ (min n.toNat (IntKind.bits .u64))) = N (b >>> n.toNat) := by
  unfold N
  rw [BitVec.toNat_ushiftRight, Nat.shiftRight_eq_div_pow]
  simp only [IntKind.bits]
  have e3 : ∀ n : Nat, (2 : Int) ^ n = ((2 ^ n : Nat) : Int) := fun n => by simp
  rw [e3, Int.fdiv_eq_ediv_of_nonneg _ (Int.natCast_nonneg _)]
  by_cases hn : n.toNat ≤ 64
  · rw [Nat.min_eq_left hn]; rfl
  · rw [Nat.min_eq_right (by omega)]
    have := b.isLt
    have h2 : (2:Nat)^64 ≤ 2 ^ n.toNat := Nat.pow_le_pow_right (by omega) (by omega)
    rw [Nat.div_eq_of_lt (show b.toNat < 2 ^ n.toNat by omega)]
    have := Nat.div_eq_of_lt (show b.toNat < 2 ^ 64 by omega)
    omega
theorem shr_bit (x : Int) (n : Int) (h : 0 ≤ n) (h2 : n < 64) : (B (Int.fdiv x (2 ^ (min n.toNat (IntKind.bits .u64))))).getLsbD 0 = (B x).getLsbD n.toNat := by
  have e : min n.toNat (IntKind.bits .u64) = n.toNat := by simp [IntKind.bits]; omega
  rw [e]
  generalize hk : n.toNat = k
  have hk2 : k < 64 := by omega
  have e3 : (2 : Int) ^ k = ((2 ^ k : Nat) : Int) := by simp
  rw [e3, Int.fdiv_eq_ediv_of_nonneg _ (Int.natCast_nonneg _)]
  unfold B
  rw [← BitVec.testBit_toNat, ← BitVec.testBit_toNat, BitVec.toNat_ofInt, BitVec.toNat_ofInt, Nat.testBit_eq_decide_div_mod_eq, Nat.testBit_eq_decide_div_mod_eq]
  have e : ((2 ^ 64 : Nat) : Int) = 18446744073709551616 := by decide
  rw [e]
  have hp : 2 ^ k * 2 ^ (64 - k) = 2 ^ 64 := by rw [← Nat.pow_add]; congr 1; omega
  have hq : 2 ^ (64 - k) = 2 * 2 ^ (63 - k) := by rw [← Nat.pow_succ']; congr 1; omega
  have h0 : 0 < 2 ^ k := Nat.pos_of_ne_zero (by simp)
  generalize 2 ^ k = m at *
  generalize 2 ^ (63 - k) = q at *
  rw [hq] at hp
  have hx := Int.emod_add_mul_ediv x 18446744073709551616
  generalize x / 18446744073709551616 = c at hx
  have hr := Int.emod_nonneg x (show (18446744073709551616 : Int) ≠ 0 by decide)
  generalize x % 18446744073709551616 = r at *
  obtain ⟨r, rfl⟩ := Int.eq_ofNat_of_zero_le hr
  have hp2 : (m : Int) * (2 * q) = 18446744073709551616 := by
    have := congrArg (Int.ofNat) hp
    simpa using this
  have hd : x / (m : Int) = r / m + 2 * (q * c) := by
    rw [← hx, ← hp2, show (m : Int) * (2 * q) * c = m * (2 * (q * c)) by simp only [Int.mul_assoc], Int.add_mul_ediv_left _ _ (by omega)]
  rw [hd, show ((r : Int) / (m : Int)) = ((r / m : Nat) : Int) from rfl]
  generalize (q : Int) * c = z
  rw [Int.toNat_natCast, Nat.pow_zero, Nat.div_one]
  generalize r / m = w
  congr 1
  apply propext
  omega

def okf (n : Int) : Bool := decide (0 ≤ n) && decide (n < 64)
theorem okf_iff {n : Int} : okf n = true ↔ 0 ≤ n ∧ n < 64 := by simp [okf]
def isb (b n : Int) : Bool := okf n && (B b).getLsbD n.toNat
def oneB (n : Int) : BitVec 64 := if okf n = true then 1#64 <<< n.toNat else 0#64
def put1 (u fl : Int) (c : Bool) : Int := if c = true then N (B u ||| oneB fl) else u
def hallb (u d n dir : Int) : Bool := (dir == 1 && isb u n) || (dir == -1 && isb d n)
def allB (c u d : Int) : BitVec 64 := B c ||| B u ||| B d
def upB (c u d n : Int) : BitVec 64 := if n < 0 then allB c u d else if 63 ≤ n then 0#64 else allB c u d >>> (n + 1).toNat <<< (n + 1).toNat
def dnB (c u d n : Int) : BitVec 64 := if n < 0 then 0#64 else if 64 ≤ n then allB c u d else allB c u d &&& (1#64 <<< n.toNat - 1#64)
def above (c u d n : Int) : Bool := upB c u d n != 0#64
def below (c u d n : Int) : Bool := dnB c u d n != 0#64
def toward (c u d n dir : Int) : Bool := (dir == 1 && above c u d n) || (dir == -1 && below c u d n)
theorem B_one : B 1 = 1#64 := rfl
theorem B_zero : B 0 = 0#64 := rfl
theorem N_zero : N 0#64 = 0 := rfl
theorem N_eq_zero {b : BitVec 64} : (N b == (0 : Int)) = (b == 0#64) := by
  rw [Bool.eq_iff_iff]; simp only [beq_iff_eq]
  rw [← N_zero, N_inj]
theorem one_bit {k j : Nat} (h : k < 64) : (1#64 <<< k).getLsbD j = decide (j = k) := by
  rw [BitVec.getLsbD_shiftLeft, BitVec.getLsbD_one]
  rw [Bool.eq_iff_iff]; simp; omega
theorem oneB_bit {n : Int} {j : Nat} : (oneB n).getLsbD j = (okf n && decide (j = n.toNat)) := by
  unfold oneB
  split
  · rename_i h
    rw [okf_iff] at h
    rw [one_bit (by omega), (okf_iff).2 h, Bool.true_and]
  · rename_i h
    simp at h
    simp [h]
theorem and_oneB {b : BitVec 64} {n : Int} : (b &&& oneB n == 0#64) = !(okf n && b.getLsbD n.toNat) := by
  rw [Bool.eq_iff_iff]
  simp only [beq_iff_eq, Bool.not_eq_true']
  constructor
  · intro h
    have := congrArg (fun x => x.getLsbD n.toNat) h
    simp only [BitVec.getLsbD_and, oneB_bit, BitVec.getLsbD_zero] at this
    revert this
    cases okf n <;> simp
  · intro h
    apply BitVec.eq_of_getLsbD_eq
    intro i hi
    rw [BitVec.getLsbD_and, oneB_bit, BitVec.getLsbD_zero]
    by_cases hk : i = n.toNat
    · subst hk; revert h; cases okf n <;> simp
    · simp [hk]
theorem and_one_eq (b : BitVec 64) : (N (b &&& 1#64) == (1 : Int)) = b.getLsbD 0 := by
  rw [show ((1 : Int) = N 1#64) from rfl, Bool.eq_iff_iff]
  simp only [beq_iff_eq]
  rw [N_inj]
  constructor
  · intro h
    have := congrArg (fun x => x.getLsbD 0) h
    simpa [BitVec.getLsbD_and] using this
  · intro h
    apply BitVec.eq_of_getLsbD_eq
    intro i hi
    rw [BitVec.getLsbD_and, BitVec.getLsbD_one]
    by_cases hk : i = 0
    · subst hk; simp [h]
    · simp [hk]
theorem bv_sub (x y : Int) : IntKind.wrap .u64 (x - y) = N (B x - B y) := by
  rw [wrap_u64]
  unfold N
  have h := BitVec.toNat_sub (B x) (B y)
  rw [h]
  unfold B
  rw [BitVec.toNat_ofInt, BitVec.toNat_ofInt]; omega
theorem isb_bit {b : Int} {n : Int} (h : 0 ≤ n) (h2 : n < 64) : isb b n = (B b).getLsbD n.toNat := by simp [isb, okf, h, h2]
theorem isb_no {b : Int} {n : Int} (h : n < 0 ∨ 64 ≤ n) : isb b n = false := by simp [isb, okf]; omega
theorem put1_bit {u fl : Int} {c : Bool} {n : Int} : isb (put1 u fl c) n = (isb u n || (c && okf fl && decide (n = fl))) := by
  unfold put1 isb
  cases c <;> simp
  rw [B_N, BitVec.getLsbD_or, oneB_bit]
  rw [Bool.eq_iff_iff]; simp [okf]; grind
theorem put1_twice {u fl : Int} {c : Bool} : put1 (put1 u fl c) fl c = put1 u fl c := by
  unfold put1
  cases c <;> simp
  rw [B_N, N_inj]
  apply BitVec.eq_of_getLsbD_eq
  intro i hi
  simp [BitVec.getLsbD_or]
/-- The first k floors of a list, as car calls. -/
def ofCar (l : LV) : Nat → Int
  | 0 => 0
  | k + 1 => put1 (ofCar l k) (l.gi k 0) (okf (l.gi k 0))
def ofUp (l : LV) : Nat → Int
  | 0 => 0
  | k + 1 => put1 (ofUp l k) (l.gi k 0) (okf (l.gi k 0) && l.gi k 1 == 1)
def ofDn (l : LV) : Nat → Int
  | 0 => 0
  | k + 1 => put1 (ofDn l k) (l.gi k 0) (okf (l.gi k 0) && l.gi k 1 == -1)


open Go in
theorem ctz_bit {b : BitVec 64} (h : b ≠ 0#64) : b.getLsbD (Lib.ctz 64 b.toNat) = true ∧ (∀ i, i < Lib.ctz 64 b.toNat → b.getLsbD i = false) ∧ Lib.ctz 64 b.toNat < 64 := by
  have h0 : b.toNat ≠ 0 := fun e => h (BitVec.eq_of_toNat_eq (by simpa using e))
  obtain ⟨m, hm, hk⟩ := Lib.ctzFrom_spec 64 b.toNat (by omega) b.isLt
  have e : Lib.ctz 64 b.toNat = Lib.ctzFrom 64 b.toNat := by simp [Lib.ctz, h0]
  rw [e]
  generalize Lib.ctzFrom 64 b.toNat = k at *
  refine ⟨?_, fun i hi => ?_, hk⟩
  · rw [← BitVec.testBit_toNat, hm, Nat.testBit_eq_decide_div_mod_eq, Nat.mul_div_cancel_left _ (Nat.pos_of_ne_zero (by simp))]
    simp
  · rw [← BitVec.testBit_toNat, hm, Nat.testBit_eq_decide_div_mod_eq]
    obtain ⟨j, rfl⟩ : ∃ j, k = i + (j + 1) := ⟨k - i - 1, by omega⟩
    rw [Nat.pow_add, Nat.mul_assoc, Nat.mul_div_cancel_left _ (Nat.pos_of_ne_zero (by simp)), Nat.pow_succ]
    simp
    rw [show 2 ^ j * 2 * (2 * m + 1) = 2 * (2 ^ j * (2 * m + 1)) by rw [Nat.mul_comm (2 ^ j) 2, Nat.mul_assoc]]
    omega
theorem len_bit {b : BitVec 64} (h : b ≠ 0#64) : 1 ≤ Lib.bitLen b.toNat ∧ Lib.bitLen b.toNat ≤ 64 ∧ b.getLsbD (Lib.bitLen b.toNat - 1) = true ∧ ∀ i, Lib.bitLen b.toNat ≤ i → b.getLsbD i = false := by
  have h0 : b.toNat ≠ 0 := fun e => h (BitVec.eq_of_toNat_eq (by simpa using e))
  obtain ⟨h1, h2, h3⟩ := Lib.bitLenAux_bounds 64 b.toNat b.isLt h0
  have h4 := Lib.bitLen_le b.toNat 64 (Nat.le_refl _) b.isLt
  unfold Lib.bitLen at *
  generalize Lib.bitLenAux 64 b.toNat = k at *
  refine ⟨h1, h4, ?_, fun i hi => ?_⟩
  · rw [← BitVec.testBit_toNat]
    obtain ⟨j, rfl⟩ : ∃ j, k = j + 1 := ⟨k - 1, by omega⟩
    exact Nat.testBit_of_two_pow_le_and_two_pow_add_one_gt h2 (by simpa using h3)
  · rw [← BitVec.testBit_toNat]
    exact Nat.testBit_lt_two_pow (Nat.lt_of_lt_of_le h3 (Nat.pow_le_pow_right (by omega) hi))
theorem low_bit {n i : Nat} (h : n < 64) : (1#64 <<< n - 1#64).getLsbD i = decide (i < n) := by
  rw [← BitVec.testBit_toNat, BitVec.toNat_sub, BitVec.toNat_shiftLeft]
  have h1 : 2 ^ n < 2 ^ 64 := Nat.pow_lt_pow_right (by omega) h
  have h2 : 0 < 2 ^ n := Nat.pos_of_ne_zero (by simp)
  have e : (2 ^ 64 - (1#64).toNat + (1#64).toNat <<< n % 2 ^ 64) % 2 ^ 64 = 2 ^ n - 1 := by
    rw [show (1#64).toNat = 1 from rfl, Nat.shiftLeft_eq, Nat.one_mul, Nat.mod_eq_of_lt h1]
    omega
  rw [e, Nat.testBit_two_pow_sub_one]
theorem up_bit {c u d n : Int} {i : Nat} : (upB c u d n).getLsbD i = (decide (n < i) && (allB c u d).getLsbD i) := by
  unfold upB
  split
  · rw [decide_eq_true (by omega)]; simp
  · split
    · by_cases h : i < 64
      · rw [decide_eq_false (by omega)]; simp
      · rw [BitVec.getLsbD_of_ge (allB c u d) i (by omega)]; simp
    · rw [BitVec.getLsbD_shiftLeft, BitVec.getLsbD_ushiftRight]
      by_cases h : i < (n + 1).toNat
      · rw [decide_eq_false (show ¬ n < (i : Int) by omega)]; simp [h]
      · rw [decide_eq_true (show n < (i : Int) by omega), show (n + 1).toNat + (i - (n + 1).toNat) = i by omega]
        simp [h]
        intro h2
        have := BitVec.lt_of_getLsbD h2
        exact this
theorem dn_bit {c u d n : Int} {i : Nat} : (dnB c u d n).getLsbD i = (decide ((i : Int) < n) && (allB c u d).getLsbD i) := by
  unfold dnB
  split
  · rw [decide_eq_false (by omega)]; simp
  · split
    · by_cases h : i < 64
      · rw [decide_eq_true (by omega)]; simp
      · rw [BitVec.getLsbD_of_ge (allB c u d) i (by omega)]; simp
    · rw [BitVec.getLsbD_and, low_bit (by omega), Bool.and_comm]
      congr 1
      apply decide_eq_decide.2
      omega
def anyb (c u d n : Int) : Bool := okf n && (allB c u d).getLsbD n.toNat
theorem anyb_nat {c u d : Int} {i : Nat} : anyb c u d i = (allB c u d).getLsbD i := by
  unfold anyb
  by_cases h : i < 64
  · rw [okf_iff.2 (by omega)]; simp
  · rw [BitVec.getLsbD_of_ge (allB c u d) i (by omega)]
    have : okf i = false := by simp [okf]; omega
    rw [this]; rfl
theorem anyb_range {c u d n : Int} (h : anyb c u d n = true) : 0 ≤ n ∧ n < 64 := by
  unfold anyb at h
  rw [Bool.and_eq_true] at h
  exact okf_iff.1 h.1
theorem ne_zero_iff {b : BitVec 64} : b ≠ 0#64 ↔ ∃ i, b.getLsbD i = true := by
  constructor
  · intro h
    exact ⟨_, (ctz_bit h).1⟩
  · rintro ⟨i, h⟩ rfl
    simp at h
theorem above_iff {c u d n : Int} : above c u d n = true ↔ ∃ m : Int, n < m ∧ anyb c u d m = true := by
  unfold above
  rw [bne_iff_ne, ne_zero_iff]
  constructor
  · rintro ⟨i, h⟩
    rw [up_bit, Bool.and_eq_true] at h
    exact ⟨i, of_decide_eq_true h.1, by rw [anyb_nat]; exact h.2⟩
  · rintro ⟨m, h1, h2⟩
    have := anyb_range h2
    refine ⟨m.toNat, ?_⟩
    rw [up_bit, ← anyb_nat, show ((m.toNat : Nat) : Int) = m by omega, h2]
    simpa using h1
theorem below_iff {c u d n : Int} : below c u d n = true ↔ ∃ m : Int, m < n ∧ anyb c u d m = true := by
  unfold below
  rw [bne_iff_ne, ne_zero_iff]
  constructor
  · rintro ⟨i, h⟩
    rw [dn_bit, Bool.and_eq_true] at h
    exact ⟨i, of_decide_eq_true h.1, by rw [anyb_nat]; exact h.2⟩
  · rintro ⟨m, h1, h2⟩
    have := anyb_range h2
    refine ⟨m.toNat, ?_⟩
    rw [dn_bit, ← anyb_nat, show ((m.toNat : Nat) : Int) = m by omega, h2]
    simpa using h1
def near (c u d n : Int) : Int :=
  if upB c u d n = 0#64 then (if dnB c u d n = 0#64 then 0 else -1) else if dnB c u d n = 0#64 then 1
  else if (Lib.ctz 64 (upB c u d n).toNat : Int) - n ≤ n - ((Lib.bitLen (dnB c u d n).toNat : Int) - 1) then 1 else -1
theorem up_low {c u d n : Int} (h : upB c u d n ≠ 0#64) : n < (Lib.ctz 64 (upB c u d n).toNat : Int) ∧ anyb c u d (Lib.ctz 64 (upB c u d n).toNat : Int) = true ∧ ∀ m : Int, n < m → anyb c u d m = true → (Lib.ctz 64 (upB c u d n).toNat : Int) ≤ m := by
  obtain ⟨h1, h2, h3⟩ := ctz_bit h
  generalize Lib.ctz 64 (upB c u d n).toNat = k at *
  rw [up_bit, Bool.and_eq_true] at h1
  refine ⟨of_decide_eq_true h1.1, by rw [anyb_nat]; exact h1.2, fun m hm ha => ?_⟩
  have hr := anyb_range ha
  by_cases hc : m.toNat < k
  · have h4 := h2 _ hc
    rw [up_bit, ← anyb_nat, show ((m.toNat : Nat) : Int) = m by omega, ha, decide_eq_true hm] at h4
    cases h4
  · omega
theorem dn_high {c u d n : Int} (h : dnB c u d n ≠ 0#64) : ((Lib.bitLen (dnB c u d n).toNat : Int) - 1) < n ∧ anyb c u d ((Lib.bitLen (dnB c u d n).toNat : Int) - 1) = true ∧ ∀ m : Int, m < n → anyb c u d m = true → m ≤ (Lib.bitLen (dnB c u d n).toNat : Int) - 1 := by
  obtain ⟨h1, h2, h3, h4⟩ := len_bit h
  generalize Lib.bitLen (dnB c u d n).toNat = k at *
  rw [dn_bit, Bool.and_eq_true] at h3
  have e : ((k - 1 : Nat) : Int) = (k : Int) - 1 := by omega
  rw [← anyb_nat, e] at h3
  refine ⟨of_decide_eq_true h3.1, h3.2, fun m hm ha => ?_⟩
  have hr := anyb_range ha
  by_cases hc : k ≤ m.toNat
  · have h5 := h4 _ hc
    rw [dn_bit, ← anyb_nat, show ((m.toNat : Nat) : Int) = m by omega, ha, decide_eq_true hm] at h5
    cases h5
  · omega
/-- Which way the nearer one lies, told by distances. -/
theorem near_up {c u d n k : Int} (hk : 1 ≤ k) (hj : ∀ j : Int, 1 ≤ j → j < k → anyb c u d (max (-1) (min n 64) + j) = false ∧ anyb c u d (max (-1) (min n 64) - j) = false)
    (h : anyb c u d (max (-1) (min n 64) + k) = true) : near c u d n = 1 := by
  have hr := anyb_range h
  have ha : upB c u d n ≠ 0#64 := bne_iff_ne.1 (above_iff.2 ⟨_, by omega, h⟩)
  unfold near
  rw [if_neg ha]
  split
  · rfl
  · rename_i hb
    obtain ⟨a1, a2, a3⟩ := up_low ha
    obtain ⟨b1, b2, b3⟩ := dn_high hb
    have hr2 := anyb_range a2
    have hr3 := anyb_range b2
    have h5 := a3 _ (show n < max (-1) (min n 64) + k by omega) h
    rw [if_pos]
    rcases Int.lt_or_le (n - ((Lib.bitLen (dnB c u d n).toNat : Int) - 1)) k with h6 | h6
    · have := (hj (n - ((Lib.bitLen (dnB c u d n).toNat : Int) - 1)) (by omega) h6).2
      rw [show max (-1) (min n 64) - (n - ((Lib.bitLen (dnB c u d n).toNat : Int) - 1)) = (Lib.bitLen (dnB c u d n).toNat : Int) - 1 by omega, b2] at this
      cases this
    · omega
theorem near_dn {c u d n k : Int} (hk : 1 ≤ k) (hj : ∀ j : Int, 1 ≤ j → j < k → anyb c u d (max (-1) (min n 64) + j) = false ∧ anyb c u d (max (-1) (min n 64) - j) = false)
    (h0 : anyb c u d (max (-1) (min n 64) + k) = false) (h : anyb c u d (max (-1) (min n 64) - k) = true) : near c u d n = -1 := by
  have hr := anyb_range h
  have hb : dnB c u d n ≠ 0#64 := bne_iff_ne.1 (below_iff.2 ⟨_, by omega, h⟩)
  unfold near
  split
  · rfl
  · rename_i ha
    obtain ⟨a1, a2, a3⟩ := up_low ha
    obtain ⟨b1, b2, b3⟩ := dn_high hb
    have hr2 := anyb_range a2
    have hr3 := anyb_range b2
    have h5 := b3 _ (show max (-1) (min n 64) - k < n by omega) h
    rw [if_neg]
    intro h6
    have h7 : (Lib.ctz 64 (upB c u d n).toNat : Int) - n ≤ k := by omega
    rcases Int.lt_or_le ((Lib.ctz 64 (upB c u d n).toNat : Int) - n) k with h8 | h8
    · have := (hj ((Lib.ctz 64 (upB c u d n).toNat : Int) - n) (by omega) h8).1
      rw [show max (-1) (min n 64) + ((Lib.ctz 64 (upB c u d n).toNat : Int) - n) = (Lib.ctz 64 (upB c u d n).toNat : Int) by omega, a2] at this
      cases this
    · rw [show max (-1) (min n 64) + k = (Lib.ctz 64 (upB c u d n).toNat : Int) by omega, a2] at h0
      cases h0
theorem near_none {c u d n : Int} (hj : ∀ j : Int, 1 ≤ j → j < 65 → anyb c u d (max (-1) (min n 64) + j) = false ∧ anyb c u d (max (-1) (min n 64) - j) = false) : near c u d n = 0 := by
  have ha : upB c u d n = 0#64 := by
    apply Classical.byContradiction
    intro ha
    obtain ⟨a1, a2, _⟩ := up_low ha
    have hr2 := anyb_range a2
    have := (hj ((Lib.ctz 64 (upB c u d n).toNat : Int) - max (-1) (min n 64)) (by omega) (by omega)).1
    rw [show max (-1) (min n 64) + ((Lib.ctz 64 (upB c u d n).toNat : Int) - max (-1) (min n 64)) = (Lib.ctz 64 (upB c u d n).toNat : Int) by omega, a2] at this
    cases this
  have hb : dnB c u d n = 0#64 := by
    apply Classical.byContradiction
    intro hb
    obtain ⟨b1, b2, _⟩ := dn_high hb
    have hr2 := anyb_range b2
    have := (hj (max (-1) (min n 64) - ((Lib.bitLen (dnB c u d n).toNat : Int) - 1)) (by omega) (by omega)).2
    rw [show max (-1) (min n 64) - (max (-1) (min n 64) - ((Lib.bitLen (dnB c u d n).toNat : Int) - 1)) = (Lib.bitLen (dnB c u d n).toNat : Int) - 1 by omega, b2] at this
    cases this
  unfold near
  rw [if_pos ha, if_pos hb]

def way (c u d n dir : Int) : Bool := toward c u d n dir || hallb u d n dir
def turn (c u d n dir : Int) : Int :=
  if (!(dir == 0) && way c u d n dir) = true then dir else if (!(dir == 0) && way c u d n (-dir)) = true then -dir else if (!(dir == 0)) = true then 0
  else if hallb u d n 1 = true then 1 else if hallb u d n (-1) = true then -1 else near c u d n
def okP (n dir : Int) : Bool := okf n && decide (-1 ≤ dir) && decide (dir ≤ 1)
def stopP (c u d n dir : Int) : Bool := okP n dir && (isb c n || hallb u d n (turn c u d n dir))
def dirP (c u d n dir : Int) : Int := if okP n dir = true then turn c u d n dir else 0
def moveP (c u d n dir : Int) : Int := if (okP n dir && !stopP c u d n dir) = true then turn c u d n dir else 0
theorem N_toNat (b : BitVec 64) : (N b).toNat = b.toNat := rfl
theorem okP_iff {n dir : Int} : okP n dir = true ↔ (0 ≤ n ∧ n < 64) ∧ -1 ≤ dir ∧ dir ≤ 1 := by simp [okP, okf, and_assoc]
theorem okP_niff {n dir : Int} : okP n dir = false ↔ ¬ ((0 ≤ n ∧ n < 64) ∧ -1 ≤ dir ∧ dir ≤ 1) := by rw [← okP_iff]; simp
theorem N_B_N {b : BitVec 64} : N (B (N b)) = N b := by rw [B_N]
theorem put1_zero {u fl : Int} (h : N (B u) = u) (c : Bool) : N (B u ||| oneB fl) = put1 u fl (okf fl) := by
  unfold put1 oneB
  cases okf fl <;> simp [h]
theorem ofCar_N (l : LV) : ∀ k, N (B (ofCar l k)) = ofCar l k
  | 0 => rfl
  | k + 1 => by
    rw [ofCar]; unfold put1
    split
    · rw [B_N]
    · exact ofCar_N l k
theorem ofUp_N (l : LV) : ∀ k, N (B (ofUp l k)) = ofUp l k
  | 0 => rfl
  | k + 1 => by
    rw [ofUp]; unfold put1
    split
    · rw [B_N]
    · exact ofUp_N l k
theorem ofDn_N (l : LV) : ∀ k, N (B (ofDn l k)) = ofDn l k
  | 0 => rfl
  | k + 1 => by
    rw [ofDn]; unfold put1
    split
    · rw [B_N]
    · exact ofDn_N l k
theorem N_ne {b : BitVec 64} : (!(N b == (0 : Int))) = (b != 0#64) := by rw [N_eq_zero]; rfl
theorem and_oneB_N (x n : Int) : (!(N (B x &&& oneB n) == (0 : Int))) = isb x n := by
  rw [N_ne]; unfold bne; rw [and_oneB, Bool.not_not]; rfl


theorem number_range (n : Int) {b : Int} (h : 0 < b) : 0 ≤ number n b ∧ number n b < b := ⟨Int.emod_nonneg _ (by omega), Int.emod_lt_of_pos _ h⟩


theorem near_range {c u d n : Int} : -1 ≤ near c u d n ∧ near c u d n ≤ 1 := by
  unfold near
  split
  · split <;> omega
  · split
    · omega
    · split <;> omega
/-- The first k floors at which there is something. -/
def flo (c u d : Int) (k : Nat) : List Int := ((List.range k).map Int.ofNat).filter (anyb c u d)
theorem flo_succ {c u d : Int} {k : Nat} : flo c u d (k + 1) = if anyb c u d k = true then flo c u d k ++ [(k : Int)] else flo c u d k := by
  unfold flo
  rw [List.range_succ, List.map_append, List.filter_append]
  simp only [List.map_cons, List.map_nil, List.filter_cons, List.filter_nil]
  show _ ++ (if anyb c u d (k : Int) = true then [(k : Int)] else []) = _
  split <;> simp
theorem flo_zero {c u d : Int} : flo c u d 0 = [] := rfl
theorem flo_len {c u d : Int} {k : Nat} : (flo c u d k).length ≤ k := by
  unfold flo
  have := List.length_filter_le (anyb c u d) ((List.range k).map Int.ofNat)
  simpa using this
theorem flo_mem {c u d x : Int} {k : Nat} : x ∈ flo c u d k ↔ 0 ≤ x ∧ x < k ∧ anyb c u d x = true := by
  unfold flo
  rw [List.mem_filter, List.mem_map]
  constructor
  · rintro ⟨⟨i, hi, rfl⟩, h⟩
    have := List.mem_range.1 hi
    exact ⟨Int.natCast_nonneg i, Int.ofNat_lt.2 this, h⟩
  · rintro ⟨h1, h2, h3⟩
    exact ⟨⟨x.toNat, List.mem_range.2 (by omega), by show ((x.toNat : Nat) : Int) = x; omega⟩, h3⟩
theorem flo_any {c u d x : Int} : x ∈ flo c u d 64 ↔ anyb c u d x = true := by
  rw [flo_mem]
  constructor
  · exact fun h => h.2.2
  · intro h
    have := anyb_range h
    exact ⟨this.1, by omega, h⟩
theorem flo_get {c u d : Int} {i : Nat} (h : i < (flo c u d 64).length) : anyb c u d ((flo c u d 64).getD i 0) = true := by
  rw [← flo_any, List.getD_eq_getElem?_getD, List.getElem?_eq_getElem h]
  exact List.getElem_mem h
theorem flo_has {c u d x : Int} (h : anyb c u d x = true) : ∃ i, i < (flo c u d 64).length ∧ (flo c u d 64).getD i 0 = x := by
  obtain ⟨i, h1, h2⟩ := List.getElem_of_mem (flo_any.2 h)
  exact ⟨i, h1, by rw [List.getD_eq_getElem?_getD, List.getElem?_eq_getElem h1]; exact h2⟩
theorem flo_nil {c u d : Int} : (flo c u d 64).length = 0 ↔ ∀ x, anyb c u d x = false := by
  constructor
  · intro h x
    cases hx : anyb c u d x
    · rfl
    · obtain ⟨i, h1, _⟩ := flo_has hx
      omega
  · intro h
    cases hl : flo c u d 64 with
    | nil => rfl
    | cons y l =>
      have : y ∈ flo c u d 64 := by rw [hl]; exact List.mem_cons_self ..
      rw [flo_any, h y] at this
      cases this
def floL (c u d : Int) : LV := lvOf (flo c u d 64)
theorem floL_len {c u d : Int} : (floL c u d).len = (flo c u d 64).length := rfl
theorem floL_gi {c u d : Int} {i : Nat} : (floL c u d).gi i 0 = (flo c u d 64).getD i 0 := lvOf_gi _ _
theorem isb_all {c u d n : Int} : isb (N (allB c u d)) n = anyb c u d n := by unfold isb anyb; rw [B_N]
/-- Two slices of numbers that are the same. -/
def sameL (a b : LV) : Bool := a.len == b.len && (List.range a.len).all fun i => a.gi i 0 == b.gi i 0
theorem sameL_refl (a : LV) : sameL a a = true := by simp [sameL]


theorem near_zero {c u d n : Int} : near c u d n = 0 ↔ above c u d n = false ∧ below c u d n = false := by
  unfold near above below
  by_cases h1 : upB c u d n = 0#64 <;> by_cases h2 : dnB c u d n = 0#64 <;> simp [h1, h2] <;> split <;> simp
theorem near_one {c u d n : Int} (h : near c u d n = 1) : above c u d n = true := by
  unfold near at h; unfold above
  by_cases h1 : upB c u d n = 0#64 <;> by_cases h2 : dnB c u d n = 0#64 <;> simp [h1, h2] at h ⊢
theorem near_neg {c u d n : Int} (h : near c u d n = -1) : below c u d n = true := by
  unfold near at h; unfold below
  by_cases h1 : upB c u d n = 0#64 <;> by_cases h2 : dnB c u d n = 0#64 <;> simp [h1, h2] at h ⊢
theorem hallb_up {u d n : Int} : hallb u d n 1 = isb u n := by simp [hallb]
theorem hallb_dn {u d n : Int} : hallb u d n (-1) = isb d n := by simp [hallb]
theorem hallb_zero {u d n : Int} : hallb u d n 0 = false := by simp [hallb]
theorem toward_up {c u d n : Int} : toward c u d n 1 = above c u d n := by simp [toward]
theorem toward_dn {c u d n : Int} : toward c u d n (-1) = below c u d n := by simp [toward]
theorem anyb_or {c u d n : Int} : anyb c u d n = (isb c n || isb u n || isb d n) := by
  unfold anyb allB isb
  rw [BitVec.getLsbD_or, BitVec.getLsbD_or]
  cases okf n <;> simp
theorem turn_range {c u d n dir : Int} (hd : -1 ≤ dir ∧ dir ≤ 1) : -1 ≤ turn c u d n dir ∧ turn c u d n dir ≤ 1 := by
  have hn := @near_range c u d n
  unfold turn
  split
  · exact hd
  · split
    · omega
    · split
      · omega
      · split
        · omega
        · split <;> omega
theorem turn_zero {c u d n dir : Int} (hd : -1 ≤ dir ∧ dir ≤ 1) (h : turn c u d n dir = 0) : above c u d n = false ∧ below c u d n = false ∧ isb u n = false ∧ isb d n = false := by
  have : dir = -1 ∨ dir = 0 ∨ dir = 1 := by omega
  unfold turn way at h
  rcases this with rfl | rfl | rfl
  · simp only [Int.reduceNeg, Int.neg_neg, toward_dn, toward_up, hallb_dn, hallb_up] at h
    cases h1 : below c u d n <;> cases h2 : isb d n <;> cases h3 : above c u d n <;> cases h4 : isb u n <;> simp [h1, h2, h3, h4] at h <;> simp
  · simp only [hallb_up, hallb_dn] at h
    cases h2 : isb d n <;> cases h4 : isb u n <;> simp [h2, h4] at h
    have := near_zero.1 h
    simp [this]
  · simp only [Int.reduceNeg, toward_dn, toward_up, hallb_dn, hallb_up] at h
    cases h1 : below c u d n <;> cases h2 : isb d n <;> cases h3 : above c u d n <;> cases h4 : isb u n <;> simp [h1, h2, h3, h4] at h <;> simp
theorem turn_move {c u d n dir : Int} (hd : -1 ≤ dir ∧ dir ≤ 1) (h : turn c u d n dir ≠ 0) (hs : hallb u d n (turn c u d n dir) = false) : toward c u d n (turn c u d n dir) = true := by
  have hdd : dir = -1 ∨ dir = 0 ∨ dir = 1 := by omega
  generalize ht : turn c u d n dir = t at *
  unfold turn way at ht
  split at ht
  · rename_i h1
    subst ht
    simp only [Bool.and_eq_true, Bool.or_eq_true] at h1
    rcases h1.2 with h2 | h2
    · exact h2
    · rw [hs] at h2; cases h2
  · split at ht
    · rename_i h1
      subst ht
      simp only [Bool.and_eq_true, Bool.or_eq_true] at h1
      rcases h1.2 with h2 | h2
      · exact h2
      · rw [hs] at h2; cases h2
    · split at ht
      · exact absurd ht.symm h
      · split at ht
        · rename_i h1
          subst ht
          rw [hs] at h1; cases h1
        · split at ht
          · rename_i h1
            subst ht
            rw [hs] at h1; cases h1
          · have hn := @near_range c u d n
            have : t = 1 ∨ t = -1 := by omega
            rcases this with rfl | rfl
            · rw [toward_up]; exact near_one ht
            · rw [toward_dn]; exact near_neg ht
theorem turn_keeps {c u d n dir : Int} (h0 : dir ≠ 0) (h : toward c u d n dir = true) : turn c u d n dir = dir := by
  unfold turn way
  rw [h]
  simp [h0]
theorem nothing {c u d : Int} (h : ∀ x, anyb c u d x = false) (n : Int) : above c u d n = false ∧ below c u d n = false ∧ isb c n = false ∧ isb u n = false ∧ isb d n = false := by
  refine ⟨?_, ?_, ?_⟩
  · cases ha : above c u d n
    · rfl
    · obtain ⟨m, _, hm⟩ := above_iff.1 ha
      rw [h m] at hm; cases hm
  · cases ha : below c u d n
    · rfl
    · obtain ⟨m, _, hm⟩ := below_iff.1 ha
      rw [h m] at hm; cases hm
  · have := h n
    rw [anyb_or] at this
    revert this
    cases isb c n <;> cases isb u n <;> cases isb d n <;> simp
theorem turn_nothing {c u d n dir : Int} (h : ∀ x, anyb c u d x = false) : turn c u d n dir = 0 := by
  obtain ⟨h1, h2, h3, h4, h5⟩ := nothing h n
  have h6 := near_zero.2 ⟨h1, h2⟩
  unfold turn way toward
  simp [hallb, h1, h2, h4, h5, h6]
theorem something {c u d n : Int} (h : ∃ x, anyb c u d x = true) : above c u d n = true ∨ below c u d n = true ∨ isb c n = true ∨ isb u n = true ∨ isb d n = true := by
  obtain ⟨x, hx⟩ := h
  rcases Int.lt_trichotomy n x with h1 | h1 | h1
  · exact .inl (above_iff.2 ⟨x, h1, hx⟩)
  · subst h1
    rw [anyb_or] at hx
    revert hx
    cases isb c n <;> cases isb u n <;> cases isb d n <;> simp
  · exact .inr (.inl (below_iff.2 ⟨x, h1, hx⟩))


def tickL (l : Int) (ob : Bool) : Int := if l ≤ 0 then 0 else if 1 < l then l - 1 else if ob = true then 1 else 0
def tickH (l h : Int) (ob : Bool) : Int := if l ≤ 0 then 0 else if 1 < l then h else if ob = true then IntKind.wrap .i64 (h + 1) else 0
def tickC (l : Int) (ob : Bool) : Bool := decide (l = 1) && !ob
def openL (dwell : Int) : Int := min (max dwell 1) 8

structure CarP where
  pos : Int
  dir : Int
  door : Int
  rl : Bool
  held : Int
structure DeedP where
  op : Bool
  cl : Bool
  fl : Int
  lan : Int
  mv : Int
  sc : Int
  su : Int
  sd : Int
structure StP where
  c : Int
  u : Int
  d : Int
def noDeed : DeedP := ⟨false, false, 0, 0, 0, 0, 0, 0⟩
def startIs (hc hf hs hd p : Int) : Bool := valid hc hf hs hd && between p 0 (top hc hf hs hd)
def startP (hc hf hs hd p : Int) : CarP := if startIs hc hf hs hd p = true then ⟨p, 0, 0, !level hc hf hs hd p, 0⟩ else ⟨0, 0, 0, false, 0⟩
def carRight (hc hf hs hd : Int) (c : CarP) : Bool := right hc hf hs hd c.pos c.dir c.door c.rl && (decide (c.held = 0) || decide (0 < c.held) && decide (c.door = 1))
def lowB (n : Int) : BitVec 64 := 1#64 <<< n.toNat - 1#64
def houseP (hf : Int) (s : StP) : StP := ⟨N (B s.c &&& lowB hf), N (B s.u &&& lowB (hf - 1)), N (B s.d &&& lowB hf &&& ~~~1#64)⟩
def betweenDir (c : CarP) : Int := if c.rl = true then -1 else c.dir
def betweenP (hc hf hs hd : Int) (c : CarP) : CarP × DeedP :=
  if goIs hc hf hs hd c.pos (betweenDir c) = true then
    if (c.rl && level hc hf hs hd (c.pos + clampM (betweenDir c))) = true then (⟨c.pos + clampM (betweenDir c), 0, c.door, false, c.held⟩, ⟨false, false, 0, 0, clampM (betweenDir c), 0, 0, 0⟩)
    else (⟨c.pos + clampM (betweenDir c), betweenDir c, c.door, c.rl, c.held⟩, ⟨false, false, 0, 0, clampM (betweenDir c), 0, 0, 0⟩)
  else (⟨c.pos, betweenDir c, c.door, c.rl, c.held⟩, noDeed)
def levelP (hc hf hs hd : Int) (c : CarP) (s : StP) : CarP × DeedP :=
  let fl := floor hc hf hs hd c.pos
  let dr := dirP s.c s.u s.d fl c.dir
  let mv := moveP s.c s.u s.d fl c.dir
  if stopP s.c s.u s.d fl c.dir = true then
    (⟨c.pos, dr, openL hd, false, 0⟩, ⟨true, false, 0, dr, 0, if isb s.c fl = true then N (1#64 <<< fl.toNat) else 0, put1 0 fl (hallb s.u s.d fl dr && (okf fl && dr == 1)), put1 0 fl (hallb s.u s.d fl dr && (okf fl && dr == -1))⟩)
  else if (goIs hc hf hs hd c.pos mv && !(mv == 0)) = true then (⟨c.pos + mv, dr, c.door, false, c.held⟩, ⟨false, false, 0, 0, mv, 0, 0, 0⟩)
  else (⟨c.pos, dr, c.door, false, c.held⟩, noDeed)
def doorP (c : CarP) (ob : Bool) : CarP × DeedP := (⟨c.pos, c.dir, tickL c.door ob, c.rl, tickH c.door c.held ob⟩, ⟨false, tickC c.door ob, 0, 0, 0, 0, 0, 0⟩)
def stepP (hc hf hs hd : Int) (c : CarP) (s : StP) (ob : Bool) : CarP × DeedP :=
  if 0 < c.door then doorP c ob else if level hc hf hs hd c.pos = true then levelP hc hf hs hd c (houseP hf s) else betweenP hc hf hs hd c
def tickP (hc hf hs hd : Int) (c : CarP) (s : StP) (ob : Bool) : CarP × DeedP :=
  if carRight hc hf hs hd c = true then
    ((stepP hc hf hs hd c s ob).1, { (stepP hc hf hs hd c s ob).2 with fl := floor hc hf hs hd (stepP hc hf hs hd c s ob).1.pos })
  else (c, noDeed)
def mayP (fs fl dr : Int) : Bool := decide (0 ≤ fl) && decide (fl < fs) && ((dr == 1 && decide (fl < fs - 1)) || (dr == -1 && decide (0 < fl)))
def clearP (s : StP) (d : DeedP) : StP := ⟨N (B s.c &&& ~~~B d.sc), N (B s.u &&& ~~~B d.su), N (B s.d &&& ~~~B d.sd)⟩
def putP (s : StP) (fl dr : Int) : StP := ⟨s.c, put1 s.u fl (okf fl && dr == 1), put1 s.d fl (okf fl && dr == -1)⟩
def hitP (d : DeedP) (fl dr : Int) : Bool := d.op && d.fl == fl && d.lan == dr
def etaGo (hc hf hs hd fl dr : Int) : Nat → CarP → StP → Int → Int
  | 0, _, _, _ => 1048576
  | k + 1, c, s, n =>
    if hitP (tickP hc hf hs hd c s false).2 fl dr = true then n
    else etaGo hc hf hs hd fl dr k (tickP hc hf hs hd c s false).1 (clearP s (tickP hc hf hs hd c s false).2) (n + 1)
def etaP (hc hf hs hd : Int) (c : CarP) (s : StP) (fl dr : Int) : Int :=
  if (carRight hc hf hs hd c && mayP hf fl dr) = true then etaGo hc hf hs hd fl dr 1048575 c (putP s fl dr) 1 else 1048576
theorem shl1 (n : Int) : IntKind.wrap .u64 ((1 : Int) * 2 ^ (min n.toNat (IntKind.bits .u64))) = N (1#64 <<< n.toNat) := by rw [bv_shl, B_one]
section
variable {hc hf hs hd : Int} {c : CarP} {s : StP}
theorem goPos_eq {p m : Int} (h : goIs hc hf hs hd p m = true) : goPos hc hf hs hd p m = p + clampM m := by unfold goPos; rw [if_pos h]
theorem levelP_stop (h : stopP s.c s.u s.d (floor hc hf hs hd c.pos) c.dir = true) : levelP hc hf hs hd c s =
    (⟨c.pos, dirP s.c s.u s.d (floor hc hf hs hd c.pos) c.dir, openL hd, false, 0⟩, ⟨true, false, 0, dirP s.c s.u s.d (floor hc hf hs hd c.pos) c.dir, 0, if isb s.c (floor hc hf hs hd c.pos) = true then N (1#64 <<< (floor hc hf hs hd c.pos).toNat) else 0,
      put1 0 (floor hc hf hs hd c.pos) (hallb s.u s.d (floor hc hf hs hd c.pos) (dirP s.c s.u s.d (floor hc hf hs hd c.pos) c.dir) && (okf (floor hc hf hs hd c.pos) && dirP s.c s.u s.d (floor hc hf hs hd c.pos) c.dir == 1)),
      put1 0 (floor hc hf hs hd c.pos) (hallb s.u s.d (floor hc hf hs hd c.pos) (dirP s.c s.u s.d (floor hc hf hs hd c.pos) c.dir) && (okf (floor hc hf hs hd c.pos) && dirP s.c s.u s.d (floor hc hf hs hd c.pos) c.dir == -1))⟩) := by
  unfold levelP; simp only []; rw [if_pos h]
theorem levelP_go (h : stopP s.c s.u s.d (floor hc hf hs hd c.pos) c.dir = false) (h2 : (goIs hc hf hs hd c.pos (moveP s.c s.u s.d (floor hc hf hs hd c.pos) c.dir) && !(moveP s.c s.u s.d (floor hc hf hs hd c.pos) c.dir == 0)) = true) : levelP hc hf hs hd c s =
    (⟨c.pos + moveP s.c s.u s.d (floor hc hf hs hd c.pos) c.dir, dirP s.c s.u s.d (floor hc hf hs hd c.pos) c.dir, c.door, false, c.held⟩, ⟨false, false, 0, 0, moveP s.c s.u s.d (floor hc hf hs hd c.pos) c.dir, 0, 0, 0⟩) := by
  unfold levelP; simp only []; rw [if_neg (by rw [h]; decide), if_pos h2]
theorem levelP_stay (h : stopP s.c s.u s.d (floor hc hf hs hd c.pos) c.dir = false) (h2 : (goIs hc hf hs hd c.pos (moveP s.c s.u s.d (floor hc hf hs hd c.pos) c.dir) && !(moveP s.c s.u s.d (floor hc hf hs hd c.pos) c.dir == 0)) = false) : levelP hc hf hs hd c s =
    (⟨c.pos, dirP s.c s.u s.d (floor hc hf hs hd c.pos) c.dir, c.door, false, c.held⟩, noDeed) := by
  unfold levelP; simp only []; rw [if_neg (by rw [h]; decide), if_neg (by rw [h2]; decide)]
theorem betweenP_no {x : Int} (e : betweenDir c = x) (h : goIs hc hf hs hd c.pos x = false) : betweenP hc hf hs hd c = (⟨c.pos, x, c.door, c.rl, c.held⟩, noDeed) := by
  subst e; unfold betweenP; rw [if_neg (by rw [h]; decide)]
theorem betweenP_lv {x : Int} (e : betweenDir c = x) (h : goIs hc hf hs hd c.pos x = true) (h2 : (c.rl && level hc hf hs hd (c.pos + clampM x)) = true) :
    betweenP hc hf hs hd c = (⟨c.pos + clampM x, 0, c.door, false, c.held⟩, ⟨false, false, 0, 0, clampM x, 0, 0, 0⟩) := by
  subst e; unfold betweenP; rw [if_pos h, if_pos h2]
theorem betweenP_mv {x : Int} (e : betweenDir c = x) (h : goIs hc hf hs hd c.pos x = true) (h2 : (c.rl && level hc hf hs hd (c.pos + clampM x)) = false) :
    betweenP hc hf hs hd c = (⟨c.pos + clampM x, x, c.door, c.rl, c.held⟩, ⟨false, false, 0, 0, clampM x, 0, 0, 0⟩) := by
  subst e; unfold betweenP; rw [if_pos h, if_neg (by rw [h2]; decide)]
theorem stepP_door {ob : Bool} (h : 0 < c.door) : stepP hc hf hs hd c s ob = doorP c ob := by unfold stepP; rw [if_pos h]
theorem stepP_lvl {ob : Bool} (h : ¬ 0 < c.door) (h2 : level hc hf hs hd c.pos = true) : stepP hc hf hs hd c s ob = levelP hc hf hs hd c (houseP hf s) := by unfold stepP; rw [if_neg h, if_pos h2]
theorem stepP_btw {ob : Bool} (h : ¬ 0 < c.door) (h2 : level hc hf hs hd c.pos = false) : stepP hc hf hs hd c s ob = betweenP hc hf hs hd c := by unfold stepP; rw [if_neg h, if_neg (by rw [h2]; decide)]
theorem tickP_no {ob : Bool} (h : carRight hc hf hs hd c = false) : tickP hc hf hs hd c s ob = (c, noDeed) := by unfold tickP; rw [if_neg (by rw [h]; decide)]
theorem tickP_yes {ob : Bool} (h : carRight hc hf hs hd c = true) : tickP hc hf hs hd c s ob = ((stepP hc hf hs hd c s ob).1, { (stepP hc hf hs hd c s ob).2 with fl := floor hc hf hs hd (stepP hc hf hs hd c s ob).1.pos }) := by unfold tickP; rw [if_pos h]
end
theorem carRight_valid {hc hf hs hd : Int} {c : CarP} (h : carRight hc hf hs hd c = true) : valid hc hf hs hd = true ∧ 0 ≤ c.pos ∧ c.pos ≤ top hc hf hs hd ∧ -1 ≤ c.dir ∧ c.dir ≤ 1 ∧ 0 ≤ c.door ∧ c.door ≤ hd := by
  simp only [carRight, right, Bool.and_eq_true, between_iff] at h
  obtain ⟨⟨⟨⟨⟨⟨h1, h2⟩, h3⟩, h4⟩, _⟩, _⟩, _⟩ := h
  exact ⟨h1, h2.1, h2.2, h3.1, h3.2, h4.1, h4.2⟩
theorem floor_ok {hc hf hs hd p : Int} (h : valid hc hf hs hd = true) : 0 ≤ floor hc hf hs hd p ∧ floor hc hf hs hd p < hf := by
  have hv := valid_iff.1 h
  have ht := top_range hc hf hs hd
  unfold floor
  rw [if_pos h, top_eq h] at *
  have hm := @mul_range hf hs (by omega) (by omega) (by omega) (by omega)
  constructor
  · exact Int.ediv_nonneg (by omega) (by omega)
  · have h1 : min (max p 0) ((hf - 1) * hs) / hs ≤ (hf - 1) * hs / hs := Int.ediv_le_ediv (by omega) (by omega)
    rw [Int.mul_ediv_cancel _ (by omega)] at h1
    omega
theorem moveP_range (c u d n dir : Int) : -1 ≤ moveP c u d n dir ∧ moveP c u d n dir ≤ 1 := by
  unfold moveP
  split
  · rename_i h
    simp only [Bool.and_eq_true, okP_iff] at h
    have h2 := h.1.2
    have hn : -1 ≤ near c u d n ∧ near c u d n ≤ 1 := near_range
    unfold turn
    split
    · omega
    · split
      · omega
      · split
        · omega
        · split
          · omega
          · split <;> omega
  · omega

section
variable {hc hf hs hd : Int} {c : CarP} {s : StP}
theorem level_mul {fl : Int} (hv : valid hc hf hs hd = true) (h0 : 0 ≤ fl) (h1 : fl < hf) : 0 ≤ fl * hs ∧ fl * hs ≤ top hc hf hs hd ∧ level hc hf hs hd (fl * hs) = true ∧ floor hc hf hs hd (fl * hs) = fl := by
  have v := valid_iff.1 hv
  have h2 : 0 ≤ fl * hs := Int.mul_nonneg h0 (by omega)
  have h3 : fl * hs ≤ (hf - 1) * hs := Int.mul_le_mul_of_nonneg_right (by omega) (by omega)
  have ht := top_eq hv
  refine ⟨h2, by omega, ?_, ?_⟩
  · unfold level
    rw [hv, between_iff.2 ⟨h2, by omega⟩]
    simp
  · unfold floor
    rw [if_pos hv, show min (max (fl * hs) 0) (top hc hf hs hd) = fl * hs by omega, Int.mul_ediv_cancel _ (by omega)]
theorem level_iff {p : Int} (hv : valid hc hf hs hd = true) (h0 : 0 ≤ p) (h1 : p ≤ top hc hf hs hd) : level hc hf hs hd p = decide (p % hs = 0) := by
  unfold level
  rw [hv, between_iff.2 ⟨h0, h1⟩]
  simp
theorem level_range {p : Int} (h : level hc hf hs hd p = true) : 0 ≤ p ∧ p ≤ top hc hf hs hd ∧ p % hs = 0 := by
  unfold level at h
  simp only [Bool.and_eq_true, decide_eq_true_eq, between_iff] at h
  exact ⟨h.1.2.1, h.1.2.2, h.2⟩
theorem level_floor {p : Int} (hv : valid hc hf hs hd = true) (h : level hc hf hs hd p = true) : p = floor hc hf hs hd p * hs := by
  obtain ⟨h1, h2, h3⟩ := level_range h
  have v := valid_iff.1 hv
  unfold floor
  rw [if_pos hv, show min (max p 0) (top hc hf hs hd) = p by omega]
  have := Int.mul_ediv_add_emod p hs
  rw [h3, Int.mul_comm] at this
  omega
theorem right_iff : carRight hc hf hs hd c = true ↔ valid hc hf hs hd = true ∧ (0 ≤ c.pos ∧ c.pos ≤ top hc hf hs hd) ∧ (-1 ≤ c.dir ∧ c.dir ≤ 1) ∧ (0 ≤ c.door ∧ c.door ≤ hd) ∧ (0 < c.door → level hc hf hs hd c.pos = true ∧ c.rl = false) ∧
    (level hc hf hs hd c.pos = true ∨ c.dir ≠ 0 ∨ c.rl = true) ∧ (c.held = 0 ∨ 0 < c.held ∧ c.door = 1) := by
  simp only [carRight, right, Bool.and_eq_true, between_iff, Bool.or_eq_true, decide_eq_true_eq, Bool.not_eq_true']
  constructor
  · rintro ⟨⟨⟨⟨⟨⟨h1, h2⟩, h3⟩, h4⟩, h5⟩, h6⟩, h7⟩
    refine ⟨h1, h2, h3, h4, fun h => ?_, ?_, h7⟩
    · rw [decide_eq_true h] at h5
      revert h5
      cases level hc hf hs hd c.pos <;> cases c.rl <;> simp
    · rcases h6 with (h6 | h6) | h6
      · exact .inl h6
      · exact .inr (.inl h6)
      · exact .inr (.inr h6)
  · rintro ⟨h1, h2, h3, h4, h5, h6, h7⟩
    refine ⟨⟨⟨⟨⟨⟨h1, h2⟩, h3⟩, h4⟩, ?_⟩, ?_⟩, h7⟩
    · by_cases h : 0 < c.door
      · rw [(h5 h).1, (h5 h).2]; simp
      · rw [decide_eq_false h]; rfl
    · rcases h6 with h6 | h6 | h6
      · exact .inl (.inl h6)
      · exact .inl (.inr h6)
      · exact .inr h6
theorem okP_floor {p dir : Int} (hv : valid hc hf hs hd = true) (hdd : -1 ≤ dir ∧ dir ≤ 1) : okP (floor hc hf hs hd p) dir = true := by
  have h := floor_ok (p := p) hv
  have v := valid_iff.1 hv
  exact okP_iff.2 ⟨⟨h.1, by omega⟩, hdd⟩
/-- Nothing is to be done. -/
theorem tick_empty {ob : Bool} (hr : carRight hc hf hs hd c = true) (hd0 : c.door = 0) (hlv : level hc hf hs hd c.pos = true) (hn : ∀ x, anyb (houseP hf s).c (houseP hf s).u (houseP hf s).d x = false) :
    tickP hc hf hs hd c s ob = (⟨c.pos, 0, 0, false, c.held⟩, ⟨false, false, floor hc hf hs hd c.pos, 0, 0, 0, 0, 0⟩) := by
  have hr' := right_iff.1 hr
  have hok := okP_floor (p := c.pos) hr'.1 hr'.2.2.1
  obtain ⟨_, _, h3, h4, h5⟩ := nothing hn (floor hc hf hs hd c.pos)
  have ht := turn_nothing (n := floor hc hf hs hd c.pos) (dir := c.dir) hn
  have hst : stopP (houseP hf s).c (houseP hf s).u (houseP hf s).d (floor hc hf hs hd c.pos) c.dir = false := by
    unfold stopP
    rw [ht, hallb_zero, h3]
    simp
  have hdr : dirP (houseP hf s).c (houseP hf s).u (houseP hf s).d (floor hc hf hs hd c.pos) c.dir = 0 := by
    unfold dirP
    rw [ht]
    split <;> rfl
  have hmv : moveP (houseP hf s).c (houseP hf s).u (houseP hf s).d (floor hc hf hs hd c.pos) c.dir = 0 := by
    unfold moveP
    rw [ht]
    split <;> rfl
  rw [tickP_yes hr, stepP_lvl (by omega) hlv, levelP_stay hst (by rw [hmv]; simp), hdr, hd0]
  rfl
theorem house_empty : houseP hf ⟨0, 0, 0⟩ = ⟨0, 0, 0⟩ := by
  unfold houseP
  simp only [B_zero, BitVec.zero_and, N_zero]
theorem any_zero (x : Int) : anyb 0 0 0 x = false := by
  unfold anyb allB
  simp [B_zero]
theorem tick_house {s' : StP} {ob : Bool} (h : houseP hf s = houseP hf s') : tickP hc hf hs hd c s ob = tickP hc hf hs hd c s' ob := by
  unfold tickP stepP
  rw [h]
/-- The door is open. -/
theorem tick_door {ob : Bool} (hr : carRight hc hf hs hd c = true) (h : 0 < c.door) : tickP hc hf hs hd c s ob = (⟨c.pos, c.dir, tickL c.door ob, c.rl, tickH c.door c.held ob⟩, ⟨false, tickC c.door ob, floor hc hf hs hd c.pos, 0, 0, 0, 0, 0⟩) := by
  rw [tickP_yes hr, stepP_door h]
  rfl
theorem start_at {p : Int} (hv : valid hc hf hs hd = true) (h0 : 0 ≤ p) (h1 : p ≤ top hc hf hs hd) : startIs hc hf hs hd p = true ∧ startP hc hf hs hd p = ⟨p, 0, 0, !level hc hf hs hd p, 0⟩ := by
  have h : startIs hc hf hs hd p = true := by unfold startIs; rw [hv, between_iff.2 ⟨h0, h1⟩]; rfl
  exact ⟨h, by unfold startP; rw [if_pos h]⟩
theorem openL_eq (hv : valid hc hf hs hd = true) : openL hd = hd := by
  have v := valid_iff.1 hv
  unfold openL
  omega
theorem low_bit' {n : Int} (h0 : 0 ≤ n) (h : n < 64) {i : Nat} : (lowB n).getLsbD i = decide ((i : Int) < n) := by
  unfold lowB
  rw [low_bit (by omega)]
  apply decide_eq_decide.2
  omega
theorem low_bit64 {i : Nat} (hi : i < 64) : (lowB 64).getLsbD i = true := by
  have : lowB 64 = BitVec.allOnes 64 := by decide
  rw [this, BitVec.getLsbD_allOnes]
  simp [hi]
theorem lowB_bit {n : Int} (h0 : 0 ≤ n) (h : n ≤ 64) {i : Nat} (hi : i < 64) : (lowB n).getLsbD i = decide ((i : Int) < n) := by
  by_cases h64 : n = 64
  · subst h64
    rw [low_bit64 hi]
    simp; omega
  · exact low_bit' h0 (by omega)
/-- What a house's stops are. -/
theorem house_c (hv : valid hc hf hs hd = true) {x : Int} : isb (houseP hf s).c x = (isb s.c x && decide (x < hf)) := by
  have v := valid_iff.1 hv
  unfold houseP isb
  simp only [B_N]
  by_cases h : okf x = true
  · have hx := okf_iff.1 h
    rw [h, BitVec.getLsbD_and, lowB_bit (by omega) (by omega) (by omega), show ((x.toNat : Nat) : Int) = x by omega]
    try simp
  · have : okf x = false := by simpa using h
    rw [this]; simp
theorem house_u (hv : valid hc hf hs hd = true) {x : Int} : isb (houseP hf s).u x = (isb s.u x && decide (x < hf - 1)) := by
  have v := valid_iff.1 hv
  unfold houseP isb
  simp only [B_N]
  by_cases h : okf x = true
  · have hx := okf_iff.1 h
    rw [h, BitVec.getLsbD_and, lowB_bit (by omega) (by omega) (by omega), show ((x.toNat : Nat) : Int) = x by omega]
    try simp
  · have : okf x = false := by simpa using h
    rw [this]; simp
theorem house_d (hv : valid hc hf hs hd = true) {x : Int} : isb (houseP hf s).d x = (isb s.d x && decide (x < hf) && decide (0 < x)) := by
  have v := valid_iff.1 hv
  unfold houseP isb
  simp only [B_N]
  by_cases h : okf x = true
  · have hx := okf_iff.1 h
    rw [h, BitVec.getLsbD_and, BitVec.getLsbD_and, BitVec.getLsbD_not, lowB_bit (by omega) (by omega) (by omega), show ((x.toNat : Nat) : Int) = x by omega, BitVec.getLsbD_one]
    have e1 : decide (x.toNat < 64) = true := decide_eq_true (by omega)
    have e2 : (!(decide (0 < 64) && decide (x.toNat = 0))) = decide (0 < x) := by
      rw [Bool.eq_iff_iff]; simp
    rw [e1, e2]
    simp
  · have : okf x = false := by simpa using h
    rw [this]; simp
/-- What a tick is bound to. -/
theorem tick_right {ob : Bool} (hr : carRight hc hf hs hd c = true) (hheld : c.held < 9223372036854775807) :
    carRight hc hf hs hd (tickP hc hf hs hd c s ob).1 = true ∧ (tickP hc hf hs hd c s ob).1.pos = c.pos + (tickP hc hf hs hd c s ob).2.mv ∧ -1 ≤ (tickP hc hf hs hd c s ob).2.mv ∧ (tickP hc hf hs hd c s ob).2.mv ≤ 1 ∧
    (0 < (tickP hc hf hs hd c s ob).1.door → (tickP hc hf hs hd c s ob).2.mv = 0) ∧ (0 < c.door → (tickP hc hf hs hd c s ob).2.mv = 0 ∧ (tickP hc hf hs hd c s ob).2.op = false) ∧
    ((tickP hc hf hs hd c s ob).2.op = true → 0 < (tickP hc hf hs hd c s ob).1.door ∧ level hc hf hs hd (tickP hc hf hs hd c s ob).1.pos = true ∧
      ¬ ((tickP hc hf hs hd c s ob).2.sc = 0 ∧ (tickP hc hf hs hd c s ob).2.su = 0 ∧ (tickP hc hf hs hd c s ob).2.sd = 0)) ∧
    ((tickP hc hf hs hd c s ob).2.cl = true → ¬ 0 < (tickP hc hf hs hd c s ob).1.door ∧ 0 < c.door) ∧ (tickP hc hf hs hd c s ob).2.fl = floor hc hf hs hd (tickP hc hf hs hd c s ob).1.pos ∧
    (tickP hc hf hs hd c s ob).1.held ≤ max c.held 0 + 1 := by
  obtain ⟨hv, hp, hdr, hdo, h5, h6, h7⟩ := right_iff.1 hr
  have v := valid_iff.1 hv
  have ht := top_range hc hf hs hd
  by_cases h : 0 < c.door
  · rw [tick_door hr h]
    obtain ⟨h8, h9⟩ := h5 h
    dsimp only
    have hH : tickH c.door c.held ob = if 1 < c.door then c.held else if ob = true then c.held + 1 else 0 := by
      unfold tickH
      rw [if_neg (by omega), wrap_in (by omega) (by omega)]
    have hL : tickL c.door ob = if 1 < c.door then c.door - 1 else if ob = true then 1 else 0 := by
      unfold tickL
      rw [if_neg (by omega)]
    have hC : tickC c.door ob = true → c.door = 1 ∧ ob = false := by
      unfold tickC; simp
    refine ⟨right_iff.2 ⟨hv, hp, hdr, ?_, fun _ => ⟨h8, h9⟩, .inl h8, ?_⟩, by omega, by omega, by omega, fun _ => rfl, fun _ => ⟨rfl, rfl⟩, fun h => (by cases h), fun hc => ?_, rfl, ?_⟩
    · simp only [hL]; split
      · omega
      · split <;> omega
    · simp only [hL, hH]
      by_cases h1 : 1 < c.door
      · rw [if_pos h1, if_pos h1]; omega
      · rw [if_neg h1, if_neg h1]; cases ob <;> simp <;> omega
    · obtain ⟨e1, e2⟩ := hC hc
      rw [hL, if_neg (by omega), e2]
      simp; omega
    · rw [hH]; split
      · omega
      · split <;> omega
  · have hd0 : c.door = 0 := by omega
    have hh0 : c.held = 0 := by omega
    by_cases hl : level hc hf hs hd c.pos = true
    · rw [tickP_yes hr, stepP_lvl h hl]
      have hok := okP_floor (p := c.pos) hv hdr
      have hT := turn_range (c := (houseP hf s).c) (u := (houseP hf s).u) (d := (houseP hf s).d) (n := floor hc hf hs hd c.pos) hdr
      have hdP : dirP (houseP hf s).c (houseP hf s).u (houseP hf s).d (floor hc hf hs hd c.pos) c.dir = turn (houseP hf s).c (houseP hf s).u (houseP hf s).d (floor hc hf hs hd c.pos) c.dir := by unfold dirP; rw [if_pos hok]
      have hfo := floor_ok (p := c.pos) hv
      by_cases hst : stopP (houseP hf s).c (houseP hf s).u (houseP hf s).d (floor hc hf hs hd c.pos) c.dir = true
      · rw [levelP_stop hst]
        dsimp only
        rw [openL_eq hv, hdP]
        refine ⟨right_iff.2 ⟨hv, hp, hT, by simp only; omega, fun _ => ⟨hl, rfl⟩, .inl hl, .inl rfl⟩, by omega, by omega, by omega, fun _ => rfl, fun h' => absurd h' h, fun _ => ⟨by omega, hl, ?_⟩, fun h => (by cases h), rfl, by omega⟩
        have hone : ∀ b : Bool, put1 0 (floor hc hf hs hd c.pos) b = 0 → b = false := by
          intro b hb
          cases b
          · rfl
          · exfalso
            have h1 := put1_bit (u := 0) (fl := floor hc hf hs hd c.pos) (c := true) (n := floor hc hf hs hd c.pos)
            rw [hb, okf_iff.2 ⟨hfo.1, by omega⟩] at h1
            unfold isb at h1
            rw [B_zero] at h1
            simp at h1
        rintro ⟨z1, z2, z3⟩
        have y2 := hone _ z2
        have y3 := hone _ z3
        unfold stopP at hst
        rw [hok, Bool.true_and, Bool.or_eq_true] at hst
        rcases hst with h1 | h1
        · rw [if_pos h1] at z1
          have hb := one_bit (k := (floor hc hf hs hd c.pos).toNat) (j := (floor hc hf hs hd c.pos).toNat) (by omega)
          rw [← N_zero, N_inj] at z1
          rw [z1] at hb
          simp at hb
        · rw [h1, okf_iff.2 ⟨hfo.1, by omega⟩] at y2 y3
          generalize turn (houseP hf s).c (houseP hf s).u (houseP hf s).d (floor hc hf hs hd c.pos) c.dir = T at *
          have : T = 0 := by
            have e1 : T ≠ 1 := fun e => by rw [e] at y2; simp at y2
            have e2 : T ≠ -1 := fun e => by rw [e] at y3; simp at y3
            omega
          rw [this, hallb_zero] at h1
          cases h1
      · have hst : stopP (houseP hf s).c (houseP hf s).u (houseP hf s).d (floor hc hf hs hd c.pos) c.dir = false := by simpa using hst
        have hmv := moveP_range (houseP hf s).c (houseP hf s).u (houseP hf s).d (floor hc hf hs hd c.pos) c.dir
        have hmT : moveP (houseP hf s).c (houseP hf s).u (houseP hf s).d (floor hc hf hs hd c.pos) c.dir = turn (houseP hf s).c (houseP hf s).u (houseP hf s).d (floor hc hf hs hd c.pos) c.dir := by
          unfold moveP; rw [hok, hst]; rfl
        by_cases hgo : (goIs hc hf hs hd c.pos (moveP (houseP hf s).c (houseP hf s).u (houseP hf s).d (floor hc hf hs hd c.pos) c.dir) && !(moveP (houseP hf s).c (houseP hf s).u (houseP hf s).d (floor hc hf hs hd c.pos) c.dir == 0)) = true
        · rw [levelP_go hst hgo]
          dsimp only
          rw [Bool.and_eq_true] at hgo
          have hgi := hgo.1
          have hne : moveP (houseP hf s).c (houseP hf s).u (houseP hf s).d (floor hc hf hs hd c.pos) c.dir ≠ 0 := by simpa using hgo.2
          simp only [goIs, Bool.and_eq_true, between_iff] at hgi
          generalize moveP (houseP hf s).c (houseP hf s).u (houseP hf s).d (floor hc hf hs hd c.pos) c.dir = M at *
          have hcl : clampM M = M := by unfold clampM; omega
          rw [hcl] at hgi
          refine ⟨right_iff.2 ⟨hv, by simp only; omega, by rw [hdP]; exact hT, by simp only; omega, fun h' => absurd h' h, .inr (.inl (by rw [hdP, ← hmT]; exact hne)), .inl hh0⟩, by omega, by omega, by omega, fun h' => absurd h' h, fun h' => absurd h' h, fun h => (by cases h), fun h => (by cases h), rfl, by omega⟩
        · have hgo : (goIs hc hf hs hd c.pos (moveP (houseP hf s).c (houseP hf s).u (houseP hf s).d (floor hc hf hs hd c.pos) c.dir) && !(moveP (houseP hf s).c (houseP hf s).u (houseP hf s).d (floor hc hf hs hd c.pos) c.dir == 0)) = false := by simpa using hgo
          rw [levelP_stay hst hgo]
          dsimp only [noDeed]
          refine ⟨right_iff.2 ⟨hv, hp, by rw [hdP]; exact hT, by simp only; omega, fun h' => absurd h' h, .inl hl, .inl hh0⟩, by omega, by omega, by omega, fun h' => absurd h' h, fun h' => absurd h' h, fun h => (by cases h), fun h => (by cases h), rfl, by omega⟩
    · have hl : level hc hf hs hd c.pos = false := by simpa using hl
      rw [tickP_yes hr, stepP_btw h hl]
      have hbd : -1 ≤ betweenDir c ∧ betweenDir c ≤ 1 := by unfold betweenDir; split <;> omega
      have hbn : betweenDir c ≠ 0 := by
        unfold betweenDir
        rcases h6 with h6 | h6 | h6
        · rw [hl] at h6; cases h6
        · split <;> omega
        · rw [if_pos h6]; omega
      have hcl : clampM (betweenDir c) = betweenDir c := by unfold clampM; omega
      by_cases hgi : goIs hc hf hs hd c.pos (betweenDir c) = true
      · have hgi' := hgi
        simp only [goIs, Bool.and_eq_true, between_iff, hcl] at hgi'
        by_cases hrl : (c.rl && level hc hf hs hd (c.pos + clampM (betweenDir c))) = true
        · rw [betweenP_lv rfl hgi hrl]
          rw [Bool.and_eq_true, hcl] at hrl
          rw [hcl]
          dsimp only
          refine ⟨right_iff.2 ⟨hv, by simp only; omega, by simp only; omega, by simp only; omega, fun h' => absurd h' h, .inl hrl.2, .inl hh0⟩, by omega, by omega, by omega, fun h' => absurd h' h, fun h' => absurd h' h, fun h => (by cases h), fun h => (by cases h), rfl, by omega⟩
        · have hrl : (c.rl && level hc hf hs hd (c.pos + clampM (betweenDir c))) = false := by simpa using hrl
          rw [betweenP_mv rfl hgi hrl]
          rw [hcl] at hrl
          rw [hcl]
          dsimp only
          refine ⟨right_iff.2 ⟨hv, by simp only; omega, by simp only; omega, by simp only; omega, fun h' => absurd h' h, .inr (.inl hbn), .inl hh0⟩, by omega, by omega, by omega, fun h' => absurd h' h, fun h' => absurd h' h, fun h => (by cases h), fun h => (by cases h), rfl, by omega⟩
      · have hgi : goIs hc hf hs hd c.pos (betweenDir c) = false := by simpa using hgi
        rw [betweenP_no rfl hgi]
        dsimp only [noDeed]
        refine ⟨right_iff.2 ⟨hv, hp, by simp only; omega, by simp only; omega, fun h' => absurd h' h, .inr (.inl hbn), .inl hh0⟩, by omega, by omega, by omega, fun h' => absurd h' h, fun h' => absurd h' h, fun h => (by cases h), fun h => (by cases h), rfl, by omega⟩
end

def C_between : Ctr := ⟨[.one (.int .i64), .one (.int .i64), .one (.int .i64)], [.one (.bool)],
  fun | [.i _, .i _, .i _] => True | _ => False,
  fun | [.i n, .i lo, .i hi] => [.b (between n lo hi)] | _ => []⟩
theorem between_pre {ls : List Leaf} (h_ : C_between.pre ls) : ∃ (n : Int) (lo : Int) (hi : Int), ls = [.i n, .i lo, .i hi] := by
  unfold C_between at h_; dsimp only at h_; split at h_
  · exact ⟨_, _, _, rfl⟩
  · exact h_.elim
theorem between_res {n : Int} {lo : Int} {hi : Int} {rs_ : List Leaf} (h_ : rs_ = C_between.fn [.i n, .i lo, .i hi]) : ∃ (q0 : Bool), q0 = (between n lo hi) ∧ rs_ = [.b q0] := ⟨_, rfl, h_⟩
def phi_between : Fm := (.ret [(.b (.ite (.le (.v 1) (.v 0)) (.le (.v 0) (.v 2)) (.t .false)))])
def tbl_between : List (Nat × Ctr) := []
theorem vc_between : vcg Tryd.prog (sigT tbl_between) [] Tryd.f40 C_between.params C_between.res = some phi_between := by kernel_rfl
--SPLIT
theorem between_sound : C_between.Sound Tryd.prog G 40 := by
  refine fn_ok mixed stable tbl_between [] Tryd.func40 (by kernel_rfl) phi_between vc_between trivial (fun _ _ _ => False) (fun _ _ _ => 0) ?_
  intro ls hp
  obtain ⟨n, lo, hi, rfl⟩ := between_pre hp
  clear hp
  rw [envOf_lk]
  unfold phi_between
  suffices hfin : ((if (decide (lo ≤ n)) = true then (decide (n ≤ hi)) else false)) = (between n lo hi) from (c_b hfin rfl)
  -- leaf 1 (ret)
  simp only [between]
  grind
def C_valid : Ctr := ⟨[.agg [.int .i64, .int .i64, .int .i64, .int .i64]], [.one (.bool)],
  fun | [.i _, .i _, .i _, .i _] => True | _ => False,
  fun | [.i hc, .i hf, .i hs, .i hd] => [.b (valid hc hf hs hd)] | _ => []⟩
theorem valid_pre {ls : List Leaf} (h_ : C_valid.pre ls) : ∃ (hc : Int) (hf : Int) (hs : Int) (hd : Int), ls = [.i hc, .i hf, .i hs, .i hd] := by
  unfold C_valid at h_; dsimp only at h_; split at h_
  · exact ⟨_, _, _, _, rfl⟩
  · exact h_.elim
theorem valid_res {hc : Int} {hf : Int} {hs : Int} {hd : Int} {rs_ : List Leaf} (h_ : rs_ = C_valid.fn [.i hc, .i hf, .i hs, .i hd]) : ∃ (q0 : Bool), q0 = (valid hc hf hs hd) ∧ rs_ = [.b q0] := ⟨_, rfl, h_⟩
def phi_valid : Fm := (.call 40 [] [(.i (.v 0)), (.i (.i 1)), (.i (.i 16))] 4 (.call 40 [((.v 4), .true)] [(.i (.v 1)), (.i (.i 2)), (.i (.i 64))] 5 (.call 40 [((.ite (.v 4) (.v 5) (.t .false)), .true)] [(.i (.v 2)), (.i (.i 1)), (.i (.i 8))] 6 (.call 40 [((.ite (.ite (.v 4) (.v 5) (.t .false)) (.v 6) (.t .false)), .true)] [(.i (.v 3)), (.i (.i 1)), (.i (.i 8))] 7 (.ret [(.b (.ite (.ite (.ite (.v 4) (.v 5) (.t .false)) (.v 6) (.t .false)) (.v 7) (.t .false)))])))))
def tbl_valid : List (Nat × Ctr) := [(40, C_between)]
theorem vc_valid : vcg Tryd.prog (sigT tbl_valid) [] Tryd.f19 C_valid.params C_valid.res = some phi_valid := by kernel_rfl
--SPLIT
theorem valid_sound : C_valid.Sound Tryd.prog G 19 := by
  refine fn_ok mixed stable tbl_valid [] Tryd.func19 (by kernel_rfl) phi_valid vc_valid ⟨between_sound, trivial⟩ (fun _ _ _ => False) (fun _ _ _ => 0) ?_
  intro ls hp
  obtain ⟨hc, hf, hs, hd, rfl⟩ := valid_pre hp
  clear hp
  rw [envOf_lk]
  unfold phi_valid
  refine vg_call (C := C_between) rfl rfl (xs := [.i hc, .i (1 : Int), .i (16 : Int)]) rfl (fun hg => ?_) (fun rs hrs => ?_)
  ·
    exact trivial
  obtain ⟨r4, hr4, rfl⟩ := between_res hrs
  clear hrs
  change Fm.holds _ _ (lk [.i hc, .i hf, .i hs, .i hd, .b r4])
  refine vg_call (C := C_between) rfl rfl (xs := [.i hf, .i (2 : Int), .i (64 : Int)]) rfl (fun hg => ?_) (fun rs hrs => ?_)
  ·
    exact trivial
  obtain ⟨r5, hr5, rfl⟩ := between_res hrs
  clear hrs
  change Fm.holds _ _ (lk [.i hc, .i hf, .i hs, .i hd, .b r4, .b r5])
  refine vg_call (C := C_between) rfl rfl (xs := [.i hs, .i (1 : Int), .i (8 : Int)]) rfl (fun hg => ?_) (fun rs hrs => ?_)
  ·
    exact trivial
  obtain ⟨r6, hr6, rfl⟩ := between_res hrs
  clear hrs
  change Fm.holds _ _ (lk [.i hc, .i hf, .i hs, .i hd, .b r4, .b r5, .b r6])
  refine vg_call (C := C_between) rfl rfl (xs := [.i hd, .i (1 : Int), .i (8 : Int)]) rfl (fun hg => ?_) (fun rs hrs => ?_)
  ·
    exact trivial
  obtain ⟨r7, hr7, rfl⟩ := between_res hrs
  clear hrs
  change Fm.holds _ _ (lk [.i hc, .i hf, .i hs, .i hd, .b r4, .b r5, .b r6, .b r7])
  suffices hfin : ((if (if (if r4 = true then r5 else false) = true then r6 else false) = true then r7 else false)) = (valid hc hf hs hd) from (c_b hfin rfl)
  -- leaf 1 (ret)
  subst hr4 hr5 hr6 hr7
  simp only [valid]
  grind
def C_top : Ctr := ⟨[.agg [.int .i64, .int .i64, .int .i64, .int .i64]], [.one (.int .i64)],
  fun | [.i _, .i _, .i _, .i _] => True | _ => False,
  fun | [.i hc, .i hf, .i hs, .i hd] => [.i (top hc hf hs hd)] | _ => []⟩
theorem top_pre {ls : List Leaf} (h_ : C_top.pre ls) : ∃ (hc : Int) (hf : Int) (hs : Int) (hd : Int), ls = [.i hc, .i hf, .i hs, .i hd] := by
  unfold C_top at h_; dsimp only at h_; split at h_
  · exact ⟨_, _, _, _, rfl⟩
  · exact h_.elim
theorem top_res {hc : Int} {hf : Int} {hs : Int} {hd : Int} {rs_ : List Leaf} (h_ : rs_ = C_top.fn [.i hc, .i hf, .i hs, .i hd]) : ∃ (q0 : Int), q0 = (top hc hf hs hd) ∧ rs_ = [.i q0] := ⟨_, rfl, h_⟩
def phi_top : Fm := (.call 19 [] [(.i (.v 0)), (.i (.v 1)), (.i (.v 2)), (.i (.v 3))] 4 (.and (.imp (.v 4) .false (.ret [(.i (.i 0))])) (.imp (.v 4) .true (.ret [(.i (.wrap .i64 (.mul (.wrap .i64 (.sub (.v 1) (.i 1))) (.v 2))))]))))
def tbl_top : List (Nat × Ctr) := [(19, C_valid)]
theorem vc_top : vcg Tryd.prog (sigT tbl_top) [] Tryd.f23 C_top.params C_top.res = some phi_top := by kernel_rfl
--SPLIT
theorem top_sound : C_top.Sound Tryd.prog G 23 := by
  refine fn_ok mixed stable tbl_top [] Tryd.func23 (by kernel_rfl) phi_top vc_top ⟨valid_sound, trivial⟩ (fun _ _ _ => False) (fun _ _ _ => 0) ?_
  intro ls hp
  obtain ⟨hc, hf, hs, hd, rfl⟩ := top_pre hp
  clear hp
  rw [envOf_lk]
  unfold phi_top
  refine vg_call (C := C_valid) rfl rfl (xs := [.i hc, .i hf, .i hs, .i hd]) rfl (fun hg => ?_) (fun rs hrs => ?_)
  ·
    exact trivial
  obtain ⟨r4, hr4, rfl⟩ := valid_res hrs
  clear hrs
  change Fm.holds _ _ (lk [.i hc, .i hf, .i hs, .i hd, .b r4])
  refine ⟨fun hcond => ?_, fun hcond => ?_⟩
  ·
    have c1 : r4 = false := hcond
    clear hcond
    suffices hfin : ((0 : Int)) = (top hc hf hs hd) from (c_i hfin rfl)
    -- leaf 1 (ret)
    subst hr4
    rw [top_no c1]
  ·
    have c2 : r4 = true := hcond
    clear hcond
    suffices hfin : ((IntKind.wrap .i64 ((IntKind.wrap .i64 (hf - (1 : Int))) * hs))) = (top hc hf hs hd) from (c_i hfin rfl)
    -- leaf 2 (ret)
    subst hr4
    rw [top_eq c2]
    have h := valid_iff.1 c2
    have := @mul_range hf hs (by omega) (by omega) (by omega) (by omega)
    simp (disch := omega) only [wrap_in]
def C_level : Ctr := ⟨[.agg [.int .i64, .int .i64, .int .i64, .int .i64], .one (.int .i64)], [.one (.bool)],
  fun | [.i _, .i _, .i _, .i _, .i _] => True | _ => False,
  fun | [.i hc, .i hf, .i hs, .i hd, .i p] => [.b (level hc hf hs hd p)] | _ => []⟩
theorem level_pre {ls : List Leaf} (h_ : C_level.pre ls) : ∃ (hc : Int) (hf : Int) (hs : Int) (hd : Int) (p : Int), ls = [.i hc, .i hf, .i hs, .i hd, .i p] := by
  unfold C_level at h_; dsimp only at h_; split at h_
  · exact ⟨_, _, _, _, _, rfl⟩
  · exact h_.elim
theorem level_res {hc : Int} {hf : Int} {hs : Int} {hd : Int} {p : Int} {rs_ : List Leaf} (h_ : rs_ = C_level.fn [.i hc, .i hf, .i hs, .i hd, .i p]) : ∃ (q0 : Bool), q0 = (level hc hf hs hd p) ∧ rs_ = [.b q0] := ⟨_, rfl, h_⟩
def phi_level : Fm := (.call 19 [] [(.i (.v 0)), (.i (.v 1)), (.i (.v 2)), (.i (.v 3))] 5 (.call 23 [((.v 5), .true)] [(.i (.v 0)), (.i (.v 1)), (.i (.v 2)), (.i (.v 3))] 6 (.call 40 [((.v 5), .true)] [(.i (.v 4)), (.i (.i 0)), (.i (.v 6))] 7 (.ob [((.ite (.v 5) (.v 7) (.t .false)), .true)] (.not (.eq (.v 2) (.i 0))) (.ret [(.b (.ite (.ite (.v 5) (.v 7) (.t .false)) (.eq (.rem (.v 4) (.v 2)) (.i 0)) (.t .false)))])))))
def tbl_level : List (Nat × Ctr) := [(19, C_valid), (23, C_top), (40, C_between)]
theorem vc_level : vcg Tryd.prog (sigT tbl_level) [] Tryd.f25 C_level.params C_level.res = some phi_level := by kernel_rfl
--SPLIT
theorem level_sound : C_level.Sound Tryd.prog G 25 := by
  refine fn_ok mixed stable tbl_level [] Tryd.func25 (by kernel_rfl) phi_level vc_level ⟨valid_sound, top_sound, between_sound, trivial⟩ (fun _ _ _ => False) (fun _ _ _ => 0) ?_
  intro ls hp
  obtain ⟨hc, hf, hs, hd, p, rfl⟩ := level_pre hp
  clear hp
  rw [envOf_lk]
  unfold phi_level
  refine vg_call (C := C_valid) rfl rfl (xs := [.i hc, .i hf, .i hs, .i hd]) rfl (fun hg => ?_) (fun rs hrs => ?_)
  ·
    exact trivial
  obtain ⟨r5, hr5, rfl⟩ := valid_res hrs
  clear hrs
  change Fm.holds _ _ (lk [.i hc, .i hf, .i hs, .i hd, .i p, .b r5])
  refine vg_call (C := C_top) rfl rfl (xs := [.i hc, .i hf, .i hs, .i hd]) rfl (fun hg => ?_) (fun rs hrs => ?_)
  ·
    exact trivial
  obtain ⟨r6, hr6, rfl⟩ := top_res hrs
  clear hrs
  change Fm.holds _ _ (lk [.i hc, .i hf, .i hs, .i hd, .i p, .b r5, .i r6])
  refine vg_call (C := C_between) rfl rfl (xs := [.i p, .i (0 : Int), .i r6]) rfl (fun hg => ?_) (fun rs hrs => ?_)
  ·
    exact trivial
  obtain ⟨r7, hr7, rfl⟩ := between_res hrs
  clear hrs
  change Fm.holds _ _ (lk [.i hc, .i hf, .i hs, .i hd, .i p, .b r5, .i r6, .b r7])
  refine ⟨fun hg => ?_, ?_⟩
  ·
    simp only [gd_cons, gd_nil, and_true] at hg
    replace hg : (if r5 = true then r7 else false) = true := hg
    show (!(hs == (0 : Int))) = true
    -- leaf 1 (ob)
    subst hr5 hr6 hr7
    have h : valid hc hf hs hd = true := by revert hg; cases valid hc hf hs hd <;> simp
    rw [valid_iff] at h
    simp; omega
  suffices hfin : ((if (if r5 = true then r7 else false) = true then ((Int.tmod p hs) == (0 : Int)) else false)) = (level hc hf hs hd p) from (c_b hfin rfl)
  -- leaf 2 (ret)
  subst hr5 hr6 hr7
  simp only [level]
  cases h : valid hc hf hs hd <;> simp
  cases h2 : between p 0 (top hc hf hs hd) <;> simp
  rw [between_iff] at h2
  rw [tmod_emod h2.1, Bool.eq_iff_iff]
  simp
def C_floor : Ctr := ⟨[.agg [.int .i64, .int .i64, .int .i64, .int .i64], .one (.int .i64)], [.one (.int .i64)],
  fun | [.i _, .i _, .i _, .i _, .i _] => True | _ => False,
  fun | [.i hc, .i hf, .i hs, .i hd, .i p] => [.i (floor hc hf hs hd p)] | _ => []⟩
theorem floor_pre {ls : List Leaf} (h_ : C_floor.pre ls) : ∃ (hc : Int) (hf : Int) (hs : Int) (hd : Int) (p : Int), ls = [.i hc, .i hf, .i hs, .i hd, .i p] := by
  unfold C_floor at h_; dsimp only at h_; split at h_
  · exact ⟨_, _, _, _, _, rfl⟩
  · exact h_.elim
theorem floor_res {hc : Int} {hf : Int} {hs : Int} {hd : Int} {p : Int} {rs_ : List Leaf} (h_ : rs_ = C_floor.fn [.i hc, .i hf, .i hs, .i hd, .i p]) : ∃ (q0 : Int), q0 = (floor hc hf hs hd p) ∧ rs_ = [.i q0] := ⟨_, rfl, h_⟩
def phi_floor : Fm := (.call 19 [] [(.i (.v 0)), (.i (.v 1)), (.i (.v 2)), (.i (.v 3))] 5 (.and (.imp (.v 5) .false (.ret [(.i (.i 0))])) (.imp (.v 5) .true (.call 23 [] [(.i (.v 0)), (.i (.v 1)), (.i (.v 2)), (.i (.v 3))] 6 (.ob [] (.not (.eq (.v 2) (.i 0))) (.ret [(.i (.wrap .i64 (.quo (.ite (.lt (.v 6) (.ite (.lt (.v 4) (.i 0)) (.i 0) (.v 4))) (.v 6) (.ite (.lt (.v 4) (.i 0)) (.i 0) (.v 4))) (.v 2))))]))))))
def tbl_floor : List (Nat × Ctr) := [(19, C_valid), (23, C_top)]
theorem vc_floor : vcg Tryd.prog (sigT tbl_floor) [] Tryd.f26 C_floor.params C_floor.res = some phi_floor := by kernel_rfl
--SPLIT
theorem floor_sound : C_floor.Sound Tryd.prog G 26 := by
  refine fn_ok mixed stable tbl_floor [] Tryd.func26 (by kernel_rfl) phi_floor vc_floor ⟨valid_sound, top_sound, trivial⟩ (fun _ _ _ => False) (fun _ _ _ => 0) ?_
  intro ls hp
  obtain ⟨hc, hf, hs, hd, p, rfl⟩ := floor_pre hp
  clear hp
  rw [envOf_lk]
  unfold phi_floor
  refine vg_call (C := C_valid) rfl rfl (xs := [.i hc, .i hf, .i hs, .i hd]) rfl (fun hg => ?_) (fun rs hrs => ?_)
  ·
    exact trivial
  obtain ⟨r5, hr5, rfl⟩ := valid_res hrs
  clear hrs
  change Fm.holds _ _ (lk [.i hc, .i hf, .i hs, .i hd, .i p, .b r5])
  refine ⟨fun hcond => ?_, fun hcond => ?_⟩
  ·
    have c1 : r5 = false := hcond
    clear hcond
    suffices hfin : ((0 : Int)) = (floor hc hf hs hd p) from (c_i hfin rfl)
    -- leaf 1 (ret)
    subst hr5
    simp [floor, c1]
  ·
    have c2 : r5 = true := hcond
    clear hcond
    refine vg_call (C := C_top) rfl rfl (xs := [.i hc, .i hf, .i hs, .i hd]) rfl (fun hg => ?_) (fun rs hrs => ?_)
    ·
      exact trivial
    obtain ⟨r6, hr6, rfl⟩ := top_res hrs
    clear hrs
    change Fm.holds _ _ (lk [.i hc, .i hf, .i hs, .i hd, .i p, .b r5, .i r6])
    refine ⟨fun hg => ?_, ?_⟩
    ·
      show (!(hs == (0 : Int))) = true
      -- leaf 2 (ob)
      subst hr5
      have h := valid_iff.1 c2
      simp; omega
    suffices hfin : ((IntKind.wrap .i64 (Int.tdiv (if (decide (r6 < (if (decide (p < (0 : Int))) = true then (0 : Int) else p))) = true then r6 else (if (decide (p < (0 : Int))) = true then (0 : Int) else p)) hs))) = (floor hc hf hs hd p) from (c_i hfin rfl)
    -- leaf 3 (ret)
    subst hr5 hr6
    have h := valid_iff.1 c2
    have ht := top_range hc hf hs hd
    have e : (if top hc hf hs hd < (if p < (0 : Int) then (0 : Int) else p) then top hc hf hs hd else (if p < (0 : Int) then (0 : Int) else p)) = min (max p 0) (top hc hf hs hd) := by omega
    simp only [decide_eq_true_eq]
    rw [e, tdiv_ediv (by omega)]
    have := div_range (p := min (max p 0) (top hc hf hs hd)) (s := hs) (by omega) (by omega) (by omega)
    rw [wrap_in (by omega) (by omega)]
    simp [floor, c2]
def C_go : Ctr := ⟨[.agg [.int .i64, .int .i64, .int .i64, .int .i64], .one (.int .i64), .one (.int .i64)], [.one (.int .i64), .one (.bool)],
  fun | [.i _, .i _, .i _, .i _, .i _, .i _] => True | _ => False,
  fun | [.i hc, .i hf, .i hs, .i hd, .i p, .i m] => [.i (goPos hc hf hs hd p m), .b (goIs hc hf hs hd p m)] | _ => []⟩
theorem go_pre {ls : List Leaf} (h_ : C_go.pre ls) : ∃ (hc : Int) (hf : Int) (hs : Int) (hd : Int) (p : Int) (m : Int), ls = [.i hc, .i hf, .i hs, .i hd, .i p, .i m] := by
  unfold C_go at h_; dsimp only at h_; split at h_
  · exact ⟨_, _, _, _, _, _, rfl⟩
  · exact h_.elim
theorem go_res {hc : Int} {hf : Int} {hs : Int} {hd : Int} {p : Int} {m : Int} {rs_ : List Leaf} (h_ : rs_ = C_go.fn [.i hc, .i hf, .i hs, .i hd, .i p, .i m]) : ∃ (q0 : Int) (q1 : Bool), q0 = (goPos hc hf hs hd p m) ∧ q1 = (goIs hc hf hs hd p m) ∧ rs_ = [.i q0, .b q1] := ⟨_, _, rfl, rfl, h_⟩
def phi_go : Fm := (.call 19 [] [(.i (.v 0)), (.i (.v 1)), (.i (.v 2)), (.i (.v 3))] 6 (.call 23 [((.not (.v 6)), .false)] [(.i (.v 0)), (.i (.v 1)), (.i (.v 2)), (.i (.v 3))] 7 (.call 40 [((.not (.v 6)), .false)] [(.i (.v 4)), (.i (.i (Int.negSucc 0))), (.i (.wrap .i64 (.add (.v 7) (.i 1))))] 8 (.and (.imp (.ite (.not (.v 6)) (.t .true) (.not (.v 8))) .true (.ret [(.i (.i 0)), (.b (.t .false))])) (.imp (.ite (.not (.v 6)) (.t .true) (.not (.v 8))) .false (.call 23 [] [(.i (.v 0)), (.i (.v 1)), (.i (.v 2)), (.i (.v 3))] 9 (.call 40 [] [(.i (.wrap .i64 (.add (.v 4) (.ite (.lt (.i 1) (.ite (.lt (.v 5) (.i (Int.negSucc 0))) (.i (Int.negSucc 0)) (.v 5))) (.i 1) (.ite (.lt (.v 5) (.i (Int.negSucc 0))) (.i (Int.negSucc 0)) (.v 5)))))), (.i (.i 0)), (.i (.v 9))] 10 (.and (.imp (.v 10) .false (.ret [(.i (.i 0)), (.b (.t .false))])) (.imp (.v 10) .true (.ret [(.i (.wrap .i64 (.add (.v 4) (.ite (.lt (.i 1) (.ite (.lt (.v 5) (.i (Int.negSucc 0))) (.i (Int.negSucc 0)) (.v 5))) (.i 1) (.ite (.lt (.v 5) (.i (Int.negSucc 0))) (.i (Int.negSucc 0)) (.v 5)))))), (.b (.t .true))]))))))))))
def tbl_go : List (Nat × Ctr) := [(19, C_valid), (23, C_top), (40, C_between)]
theorem vc_go : vcg Tryd.prog (sigT tbl_go) [] Tryd.f62 C_go.params C_go.res = some phi_go := by kernel_rfl
--SPLIT
theorem go_sound : C_go.Sound Tryd.prog G 62 := by
  refine fn_ok mixed stable tbl_go [] Tryd.func62 (by kernel_rfl) phi_go vc_go ⟨valid_sound, top_sound, between_sound, trivial⟩ (fun _ _ _ => False) (fun _ _ _ => 0) ?_
  intro ls hp
  obtain ⟨hc, hf, hs, hd, p, m, rfl⟩ := go_pre hp
  clear hp
  rw [envOf_lk]
  unfold phi_go
  refine vg_call (C := C_valid) rfl rfl (xs := [.i hc, .i hf, .i hs, .i hd]) rfl (fun hg => ?_) (fun rs hrs => ?_)
  ·
    exact trivial
  obtain ⟨r6, hr6, rfl⟩ := valid_res hrs
  clear hrs
  change Fm.holds _ _ (lk [.i hc, .i hf, .i hs, .i hd, .i p, .i m, .b r6])
  refine vg_call (C := C_top) rfl rfl (xs := [.i hc, .i hf, .i hs, .i hd]) rfl (fun hg => ?_) (fun rs hrs => ?_)
  ·
    exact trivial
  obtain ⟨r7, hr7, rfl⟩ := top_res hrs
  clear hrs
  change Fm.holds _ _ (lk [.i hc, .i hf, .i hs, .i hd, .i p, .i m, .b r6, .i r7])
  refine vg_call (C := C_between) rfl rfl (xs := [.i p, .i (-1), .i (IntKind.wrap .i64 (r7 + (1 : Int)))]) rfl (fun hg => ?_) (fun rs hrs => ?_)
  ·
    exact trivial
  obtain ⟨r8, hr8, rfl⟩ := between_res hrs
  clear hrs
  change Fm.holds _ _ (lk [.i hc, .i hf, .i hs, .i hd, .i p, .i m, .b r6, .i r7, .b r8])
  refine ⟨fun hcond => ?_, fun hcond => ?_⟩
  ·
    have c1 : (if (!r6) = true then true else (!r8)) = true := hcond
    clear hcond
    suffices hfin : ((0 : Int)) = (goPos hc hf hs hd p m) ∧ (false) = (goIs hc hf hs hd p m) from (c_i hfin.1 (c_b hfin.2 rfl))
    -- leaf 1 (ret)
    subst hr6 hr7 hr8
    have ht := top_range hc hf hs hd
    rw [wrap_in (by omega) (by omega)] at c1
    have : goIs hc hf hs hd p m = false := by
      simp only [goIs]; revert c1; cases valid hc hf hs hd <;> cases between p (-1) (top hc hf hs hd + 1) <;> simp
    simp [goPos, this]
  ·
    have c2 : (if (!r6) = true then true else (!r8)) = false := hcond
    clear hcond
    refine vg_call (C := C_top) rfl rfl (xs := [.i hc, .i hf, .i hs, .i hd]) rfl (fun hg => ?_) (fun rs hrs => ?_)
    ·
      exact trivial
    obtain ⟨r9, hr9, rfl⟩ := top_res hrs
    clear hrs
    change Fm.holds _ _ (lk [.i hc, .i hf, .i hs, .i hd, .i p, .i m, .b r6, .i r7, .b r8, .i r9])
    refine vg_call (C := C_between) rfl rfl (xs := [.i (IntKind.wrap .i64 (p + (if (decide ((1 : Int) < (if (decide (m < (-1))) = true then (-1) else m))) = true then (1 : Int) else (if (decide (m < (-1))) = true then (-1) else m)))), .i (0 : Int), .i r9]) rfl (fun hg => ?_) (fun rs hrs => ?_)
    ·
      exact trivial
    obtain ⟨r10, hr10, rfl⟩ := between_res hrs
    clear hrs
    change Fm.holds _ _ (lk [.i hc, .i hf, .i hs, .i hd, .i p, .i m, .b r6, .i r7, .b r8, .i r9, .b r10])
    refine ⟨fun hcond => ?_, fun hcond => ?_⟩
    ·
      have c3 : r10 = false := hcond
      clear hcond
      suffices hfin : ((0 : Int)) = (goPos hc hf hs hd p m) ∧ (false) = (goIs hc hf hs hd p m) from (c_i hfin.1 (c_b hfin.2 rfl))
      -- leaf 2 (ret)
      subst hr6 hr7 hr8 hr9 hr10
      have ht := top_range hc hf hs hd
      have hk := clampM_range m
      rw [wrap_in (by omega) (by omega)] at c2
      simp only [decide_eq_true_eq, clamp_if] at c3
      have hb : between p (-1) (top hc hf hs hd + 1) = true ∧ valid hc hf hs hd = true := by
        revert c2; cases valid hc hf hs hd <;> cases between p (-1) (top hc hf hs hd + 1) <;> simp
      have hb2 := between_iff.1 hb.1
      rw [wrap_in (by omega) (by omega)] at c3
      have : goIs hc hf hs hd p m = false := by simp [goIs, c3]
      simp [goPos, this]
    ·
      have c4 : r10 = true := hcond
      clear hcond
      suffices hfin : ((IntKind.wrap .i64 (p + (if (decide ((1 : Int) < (if (decide (m < (-1))) = true then (-1) else m))) = true then (1 : Int) else (if (decide (m < (-1))) = true then (-1) else m))))) = (goPos hc hf hs hd p m) ∧ (true) = (goIs hc hf hs hd p m) from (c_i hfin.1 (c_b hfin.2 rfl))
      -- leaf 3 (ret)
      subst hr6 hr7 hr8 hr9 hr10
      have ht := top_range hc hf hs hd
      have hk := clampM_range m
      rw [wrap_in (by omega) (by omega)] at c2
      simp only [decide_eq_true_eq, clamp_if] at c4 ⊢
      have hb : between p (-1) (top hc hf hs hd + 1) = true ∧ valid hc hf hs hd = true := by
        revert c2; cases valid hc hf hs hd <;> cases between p (-1) (top hc hf hs hd + 1) <;> simp
      have hb2 := between_iff.1 hb.1
      rw [wrap_in (by omega) (by omega)] at c4 ⊢
      have : goIs hc hf hs hd p m = true := by simp [goIs, c4, hb]
      simp [goPos, this]
def C_right : Ctr := ⟨[.agg [.int .i64, .int .i64, .int .i64, .int .i64], .agg [.int .i64, .int .i64, .int .i64, .bool]], [.one (.bool)],
  fun | [.i _, .i _, .i _, .i _, .i _, .i _, .i _, .b _] => True | _ => False,
  fun | [.i hc, .i hf, .i hs, .i hd, .i sp, .i sdir, .i sdo, .b srl] => [.b (right hc hf hs hd sp sdir sdo srl)] | _ => []⟩
theorem right_pre {ls : List Leaf} (h_ : C_right.pre ls) : ∃ (hc : Int) (hf : Int) (hs : Int) (hd : Int) (sp : Int) (sdir : Int) (sdo : Int) (srl : Bool), ls = [.i hc, .i hf, .i hs, .i hd, .i sp, .i sdir, .i sdo, .b srl] := by
  unfold C_right at h_; dsimp only at h_; split at h_
  · exact ⟨_, _, _, _, _, _, _, _, rfl⟩
  · exact h_.elim
theorem right_res {hc : Int} {hf : Int} {hs : Int} {hd : Int} {sp : Int} {sdir : Int} {sdo : Int} {srl : Bool} {rs_ : List Leaf} (h_ : rs_ = C_right.fn [.i hc, .i hf, .i hs, .i hd, .i sp, .i sdir, .i sdo, .b srl]) : ∃ (q0 : Bool), q0 = (right hc hf hs hd sp sdir sdo srl) ∧ rs_ = [.b q0] := ⟨_, rfl, h_⟩
def phi_right : Fm := (.call 25 [] [(.i (.v 0)), (.i (.v 1)), (.i (.v 2)), (.i (.v 3)), (.i (.v 4))] 8 (.call 19 [] [(.i (.v 0)), (.i (.v 1)), (.i (.v 2)), (.i (.v 3))] 9 (.call 23 [((.not (.v 9)), .false)] [(.i (.v 0)), (.i (.v 1)), (.i (.v 2)), (.i (.v 3))] 10 (.call 40 [((.not (.v 9)), .false)] [(.i (.v 4)), (.i (.i 0)), (.i (.v 10))] 11 (.call 40 [((.ite (.not (.v 9)) (.t .true) (.not (.v 11))), .false)] [(.i (.v 5)), (.i (.i (Int.negSucc 0))), (.i (.i 1))] 12 (.call 40 [((.ite (.ite (.not (.v 9)) (.t .true) (.not (.v 11))) (.t .true) (.not (.v 12))), .false)] [(.i (.v 6)), (.i (.i 0)), (.i (.v 3))] 13 (.and (.imp (.ite (.ite (.ite (.not (.v 9)) (.t .true) (.not (.v 11))) (.t .true) (.not (.v 12))) (.t .true) (.not (.v 13))) .true (.ret [(.b (.t .false))])) (.imp (.ite (.ite (.ite (.not (.v 9)) (.t .true) (.not (.v 11))) (.t .true) (.not (.v 12))) (.t .true) (.not (.v 13))) .false (.and (.imp (.ite (.lt (.i 0) (.v 6)) (.ite (.not (.v 8)) (.t .true) (.v 7)) (.t .false)) .true (.ret [(.b (.t .false))])) (.imp (.ite (.lt (.i 0) (.v 6)) (.ite (.not (.v 8)) (.t .true) (.v 7)) (.t .false)) .false (.ret [(.b (.ite (.ite (.v 8) (.t .true) (.not (.eq (.v 5) (.i 0)))) (.t .true) (.v 7)))])))))))))))
def tbl_right : List (Nat × Ctr) := [(19, C_valid), (23, C_top), (25, C_level), (40, C_between)]
theorem vc_right : vcg Tryd.prog (sigT tbl_right) [] Tryd.f45 C_right.params C_right.res = some phi_right := by kernel_rfl
--SPLIT
theorem right_sound : C_right.Sound Tryd.prog G 45 := by
  refine fn_ok mixed stable tbl_right [] Tryd.func45 (by kernel_rfl) phi_right vc_right ⟨valid_sound, top_sound, level_sound, between_sound, trivial⟩ (fun _ _ _ => False) (fun _ _ _ => 0) ?_
  intro ls hp
  obtain ⟨hc, hf, hs, hd, sp, sdir, sdo, srl, rfl⟩ := right_pre hp
  clear hp
  rw [envOf_lk]
  unfold phi_right
  refine vg_call (C := C_level) rfl rfl (xs := [.i hc, .i hf, .i hs, .i hd, .i sp]) rfl (fun hg => ?_) (fun rs hrs => ?_)
  ·
    exact trivial
  obtain ⟨r8, hr8, rfl⟩ := level_res hrs
  clear hrs
  change Fm.holds _ _ (lk [.i hc, .i hf, .i hs, .i hd, .i sp, .i sdir, .i sdo, .b srl, .b r8])
  refine vg_call (C := C_valid) rfl rfl (xs := [.i hc, .i hf, .i hs, .i hd]) rfl (fun hg => ?_) (fun rs hrs => ?_)
  ·
    exact trivial
  obtain ⟨r9, hr9, rfl⟩ := valid_res hrs
  clear hrs
  change Fm.holds _ _ (lk [.i hc, .i hf, .i hs, .i hd, .i sp, .i sdir, .i sdo, .b srl, .b r8, .b r9])
  refine vg_call (C := C_top) rfl rfl (xs := [.i hc, .i hf, .i hs, .i hd]) rfl (fun hg => ?_) (fun rs hrs => ?_)
  ·
    exact trivial
  obtain ⟨r10, hr10, rfl⟩ := top_res hrs
  clear hrs
  change Fm.holds _ _ (lk [.i hc, .i hf, .i hs, .i hd, .i sp, .i sdir, .i sdo, .b srl, .b r8, .b r9, .i r10])
  refine vg_call (C := C_between) rfl rfl (xs := [.i sp, .i (0 : Int), .i r10]) rfl (fun hg => ?_) (fun rs hrs => ?_)
  ·
    exact trivial
  obtain ⟨r11, hr11, rfl⟩ := between_res hrs
  clear hrs
  change Fm.holds _ _ (lk [.i hc, .i hf, .i hs, .i hd, .i sp, .i sdir, .i sdo, .b srl, .b r8, .b r9, .i r10, .b r11])
  refine vg_call (C := C_between) rfl rfl (xs := [.i sdir, .i (-1), .i (1 : Int)]) rfl (fun hg => ?_) (fun rs hrs => ?_)
  ·
    exact trivial
  obtain ⟨r12, hr12, rfl⟩ := between_res hrs
  clear hrs
  change Fm.holds _ _ (lk [.i hc, .i hf, .i hs, .i hd, .i sp, .i sdir, .i sdo, .b srl, .b r8, .b r9, .i r10, .b r11, .b r12])
  refine vg_call (C := C_between) rfl rfl (xs := [.i sdo, .i (0 : Int), .i hd]) rfl (fun hg => ?_) (fun rs hrs => ?_)
  ·
    exact trivial
  obtain ⟨r13, hr13, rfl⟩ := between_res hrs
  clear hrs
  change Fm.holds _ _ (lk [.i hc, .i hf, .i hs, .i hd, .i sp, .i sdir, .i sdo, .b srl, .b r8, .b r9, .i r10, .b r11, .b r12, .b r13])
  refine ⟨fun hcond => ?_, fun hcond => ?_⟩
  ·
    have c1 : (if (if (if (!r9) = true then true else (!r11)) = true then true else (!r12)) = true then true else (!r13)) = true := hcond
    clear hcond
    suffices hfin : (false) = (right hc hf hs hd sp sdir sdo srl) from (c_b hfin rfl)
    -- leaf 1 (ret)
    subst_vars
    simp only [right]
    grind
  ·
    have c2 : (if (if (if (!r9) = true then true else (!r11)) = true then true else (!r12)) = true then true else (!r13)) = false := hcond
    clear hcond
    refine ⟨fun hcond => ?_, fun hcond => ?_⟩
    ·
      have c3 : (if (decide ((0 : Int) < sdo)) = true then (if (!r8) = true then true else srl) else false) = true := hcond
      clear hcond
      suffices hfin : (false) = (right hc hf hs hd sp sdir sdo srl) from (c_b hfin rfl)
      -- leaf 2 (ret)
      subst_vars
      simp only [right]
      grind
    ·
      have c4 : (if (decide ((0 : Int) < sdo)) = true then (if (!r8) = true then true else srl) else false) = false := hcond
      clear hcond
      suffices hfin : ((if (if r8 = true then true else (!(sdir == (0 : Int)))) = true then true else srl)) = (right hc hf hs hd sp sdir sdo srl) from (c_b hfin rfl)
      -- leaf 3 (ret)
      subst_vars
      simp only [right]
      grind
def C_number : Ctr := ⟨[.one (.int .i64), .one (.int .i64)], [.one (.int .i64)],
  fun | [.i n, .i b] => 0 < b ∧ b ≤ 4611686018427387904 | _ => False,
  fun | [.i n, .i b] => [.i (number n b)] | _ => []⟩
theorem number_pre {ls : List Leaf} (h_ : C_number.pre ls) : ∃ (n : Int) (b : Int), ls = [.i n, .i b] ∧ (0 < b ∧ b ≤ 4611686018427387904) := by
  unfold C_number at h_; dsimp only at h_; split at h_
  · exact ⟨_, _, rfl, h_⟩
  · exact h_.elim
theorem number_mk {n : Int} {b : Int} (h_ : 0 < b ∧ b ≤ 4611686018427387904) : C_number.pre [.i n, .i b] := h_
theorem number_res {n : Int} {b : Int} {rs_ : List Leaf} (h_ : rs_ = C_number.fn [.i n, .i b]) : ∃ (q0 : Int), q0 = (number n b) ∧ rs_ = [.i q0] := ⟨_, rfl, h_⟩
def phi_number : Fm := (.ob [] (.not (.eq (.v 1) (.i 0))) (.and (.imp (.lt (.rem (.v 0) (.v 1)) (.i 0)) .true (.ret [(.i (.wrap .i64 (.add (.rem (.v 0) (.v 1)) (.v 1))))])) (.imp (.lt (.rem (.v 0) (.v 1)) (.i 0)) .false (.ret [(.i (.rem (.v 0) (.v 1)))]))))
def tbl_number : List (Nat × Ctr) := []
theorem vc_number : vcg Tryd.prog (sigT tbl_number) [] Tryd.f22 C_number.params C_number.res = some phi_number := by kernel_rfl
--SPLIT
theorem number_sound : C_number.Sound Tryd.prog G 22 := by
  refine fn_ok mixed stable tbl_number [] Tryd.func22 (by kernel_rfl) phi_number vc_number trivial (fun _ _ _ => False) (fun _ _ _ => 0) ?_
  intro ls hp
  obtain ⟨n, b, rfl, hpre⟩ := number_pre hp
  clear hp
  rw [envOf_lk]
  unfold phi_number
  refine ⟨fun hg => ?_, ?_⟩
  ·
    show (!(b == (0 : Int))) = true
    -- leaf 1 (ob)
    simp; omega
  refine ⟨fun hcond => ?_, fun hcond => ?_⟩
  ·
    have c1 : (decide ((Int.tmod n b) < (0 : Int))) = true := hcond
    clear hcond
    suffices hfin : ((IntKind.wrap .i64 ((Int.tmod n b) + b))) = (number n b) from (c_i hfin rfl)
    -- leaf 2 (ret)
    simp only [number]
    have h1 := Int.emod_nonneg n (show b ≠ 0 by omega)
    have h2 := Int.emod_lt_of_pos n (show 0 < b by omega)
    rcases number_cases n b hpre.1 with ⟨h3, _⟩ | ⟨h3, _⟩ <;> rw [h3] at c1 ⊢ <;> simp at c1 <;> (try simp (disch := omega) only [wrap_in]) <;> omega
  ·
    have c2 : (decide ((Int.tmod n b) < (0 : Int))) = false := hcond
    clear hcond
    suffices hfin : ((Int.tmod n b)) = (number n b) from (c_i hfin rfl)
    -- leaf 3 (ret)
    simp only [number]
    have h1 := Int.emod_nonneg n (show b ≠ 0 by omega)
    have h2 := Int.emod_lt_of_pos n (show 0 < b by omega)
    rcases number_cases n b hpre.1 with ⟨h3, _⟩ | ⟨h3, _⟩ <;> rw [h3] at c2 ⊢ <;> simp at c2 <;> (try simp (disch := omega) only [wrap_in]) <;> omega
def C_rvalid : Ctr := ⟨[.agg [.int .i64, .int .i64, .int .i64, .int .i64]], [.one (.bool)],
  fun | [.i _, .i _, .i _, .i _] => True | _ => False,
  fun | [.i hc, .i hf, .i hs, .i hd] => [.b (valid hc hf hs hd)] | _ => []⟩
theorem rvalid_pre {ls : List Leaf} (h_ : C_rvalid.pre ls) : ∃ (hc : Int) (hf : Int) (hs : Int) (hd : Int), ls = [.i hc, .i hf, .i hs, .i hd] := by
  unfold C_rvalid at h_; dsimp only at h_; split at h_
  · exact ⟨_, _, _, _, rfl⟩
  · exact h_.elim
theorem rvalid_res {hc : Int} {hf : Int} {hs : Int} {hd : Int} {rs_ : List Leaf} (h_ : rs_ = C_rvalid.fn [.i hc, .i hf, .i hs, .i hd]) : ∃ (q0 : Bool), q0 = (valid hc hf hs hd) ∧ rs_ = [.b q0] := ⟨_, rfl, h_⟩
def phi_rvalid : Fm := (.ret [(.b (.ite (.ite (.ite (.ite (.ite (.ite (.ite (.le (.i 1) (.v 0)) (.le (.v 0) (.i 16)) (.t .false)) (.le (.i 2) (.v 1)) (.t .false)) (.le (.v 1) (.i 64)) (.t .false)) (.le (.i 1) (.v 2)) (.t .false)) (.le (.v 2) (.i 8)) (.t .false)) (.le (.i 1) (.v 3)) (.t .false)) (.le (.v 3) (.i 8)) (.t .false)))])
def tbl_rvalid : List (Nat × Ctr) := []
theorem vc_rvalid : vcg Tryd.prog (sigT tbl_rvalid) [] Tryd.f51 C_rvalid.params C_rvalid.res = some phi_rvalid := by kernel_rfl
--SPLIT
theorem rvalid_sound : C_rvalid.Sound Tryd.prog G 51 := by
  refine fn_ok mixed stable tbl_rvalid [] Tryd.func51 (by kernel_rfl) phi_rvalid vc_rvalid trivial (fun _ _ _ => False) (fun _ _ _ => 0) ?_
  intro ls hp
  obtain ⟨hc, hf, hs, hd, rfl⟩ := rvalid_pre hp
  clear hp
  rw [envOf_lk]
  unfold phi_rvalid
  suffices hfin : ((if (if (if (if (if (if (if (decide ((1 : Int) ≤ hc)) = true then (decide (hc ≤ (16 : Int))) else false) = true then (decide ((2 : Int) ≤ hf)) else false) = true then (decide (hf ≤ (64 : Int))) else false) = true then (decide ((1 : Int) ≤ hs)) else false) = true then (decide (hs ≤ (8 : Int))) else false) = true then (decide ((1 : Int) ≤ hd)) else false) = true then (decide (hd ≤ (8 : Int))) else false)) = (valid hc hf hs hd) from (c_b hfin rfl)
  -- leaf 1 (ret)
  simp only [valid, between]
  grind
def C_rtop : Ctr := ⟨[.agg [.int .i64, .int .i64, .int .i64, .int .i64]], [.one (.int .i64)],
  fun | [.i _, .i _, .i _, .i _] => True | _ => False,
  fun | [.i hc, .i hf, .i hs, .i hd] => [.i (top hc hf hs hd)] | _ => []⟩
theorem rtop_pre {ls : List Leaf} (h_ : C_rtop.pre ls) : ∃ (hc : Int) (hf : Int) (hs : Int) (hd : Int), ls = [.i hc, .i hf, .i hs, .i hd] := by
  unfold C_rtop at h_; dsimp only at h_; split at h_
  · exact ⟨_, _, _, _, rfl⟩
  · exact h_.elim
theorem rtop_res {hc : Int} {hf : Int} {hs : Int} {hd : Int} {rs_ : List Leaf} (h_ : rs_ = C_rtop.fn [.i hc, .i hf, .i hs, .i hd]) : ∃ (q0 : Int), q0 = (top hc hf hs hd) ∧ rs_ = [.i q0] := ⟨_, rfl, h_⟩
def phi_rtop : Fm := (.call 51 [] [(.i (.v 0)), (.i (.v 1)), (.i (.v 2)), (.i (.v 3))] 4 (.and (.imp (.v 4) .false (.ret [(.i (.i 0))])) (.imp (.v 4) .true (.ret [(.i (.wrap .i64 (.mul (.wrap .i64 (.sub (.v 1) (.i 1))) (.v 2))))]))))
def tbl_rtop : List (Nat × Ctr) := [(51, C_rvalid)]
theorem vc_rtop : vcg Tryd.prog (sigT tbl_rtop) [] Tryd.f82 C_rtop.params C_rtop.res = some phi_rtop := by kernel_rfl
--SPLIT
theorem rtop_sound : C_rtop.Sound Tryd.prog G 82 := by
  refine fn_ok mixed stable tbl_rtop [] Tryd.func82 (by kernel_rfl) phi_rtop vc_rtop ⟨rvalid_sound, trivial⟩ (fun _ _ _ => False) (fun _ _ _ => 0) ?_
  intro ls hp
  obtain ⟨hc, hf, hs, hd, rfl⟩ := rtop_pre hp
  clear hp
  rw [envOf_lk]
  unfold phi_rtop
  refine vg_call (C := C_rvalid) rfl rfl (xs := [.i hc, .i hf, .i hs, .i hd]) rfl (fun hg => ?_) (fun rs hrs => ?_)
  ·
    exact trivial
  obtain ⟨r4, hr4, rfl⟩ := rvalid_res hrs
  clear hrs
  change Fm.holds _ _ (lk [.i hc, .i hf, .i hs, .i hd, .b r4])
  refine ⟨fun hcond => ?_, fun hcond => ?_⟩
  ·
    have c1 : r4 = false := hcond
    clear hcond
    suffices hfin : ((0 : Int)) = (top hc hf hs hd) from (c_i hfin rfl)
    -- leaf 1 (ret)
    subst hr4
    rw [top_no c1]
  ·
    have c2 : r4 = true := hcond
    clear hcond
    suffices hfin : ((IntKind.wrap .i64 ((IntKind.wrap .i64 (hf - (1 : Int))) * hs))) = (top hc hf hs hd) from (c_i hfin rfl)
    -- leaf 2 (ret)
    subst hr4
    rw [top_eq c2]
    have h := valid_iff.1 c2
    have := @mul_range hf hs (by omega) (by omega) (by omega) (by omega)
    simp (disch := omega) only [wrap_in]
def C_rin : Ctr := ⟨[.agg [.int .i64, .int .i64, .int .i64, .int .i64], .one (.int .i64)], [.one (.bool)],
  fun | [.i _, .i _, .i _, .i _, .i _] => True | _ => False,
  fun | [.i hc, .i hf, .i hs, .i hd, .i p] => [.b (valid hc hf hs hd && between p 0 (top hc hf hs hd))] | _ => []⟩
theorem rin_pre {ls : List Leaf} (h_ : C_rin.pre ls) : ∃ (hc : Int) (hf : Int) (hs : Int) (hd : Int) (p : Int), ls = [.i hc, .i hf, .i hs, .i hd, .i p] := by
  unfold C_rin at h_; dsimp only at h_; split at h_
  · exact ⟨_, _, _, _, _, rfl⟩
  · exact h_.elim
theorem rin_res {hc : Int} {hf : Int} {hs : Int} {hd : Int} {p : Int} {rs_ : List Leaf} (h_ : rs_ = C_rin.fn [.i hc, .i hf, .i hs, .i hd, .i p]) : ∃ (q0 : Bool), q0 = (valid hc hf hs hd && between p 0 (top hc hf hs hd)) ∧ rs_ = [.b q0] := ⟨_, rfl, h_⟩
def phi_rin : Fm := (.call 51 [] [(.i (.v 0)), (.i (.v 1)), (.i (.v 2)), (.i (.v 3))] 5 (.call 82 [((.ite (.v 5) (.le (.i 0) (.v 4)) (.t .false)), .true)] [(.i (.v 0)), (.i (.v 1)), (.i (.v 2)), (.i (.v 3))] 6 (.ret [(.b (.ite (.ite (.v 5) (.le (.i 0) (.v 4)) (.t .false)) (.le (.v 4) (.v 6)) (.t .false)))])))
def tbl_rin : List (Nat × Ctr) := [(51, C_rvalid), (82, C_rtop)]
theorem vc_rin : vcg Tryd.prog (sigT tbl_rin) [] Tryd.f81 C_rin.params C_rin.res = some phi_rin := by kernel_rfl
--SPLIT
theorem rin_sound : C_rin.Sound Tryd.prog G 81 := by
  refine fn_ok mixed stable tbl_rin [] Tryd.func81 (by kernel_rfl) phi_rin vc_rin ⟨rvalid_sound, rtop_sound, trivial⟩ (fun _ _ _ => False) (fun _ _ _ => 0) ?_
  intro ls hp
  obtain ⟨hc, hf, hs, hd, p, rfl⟩ := rin_pre hp
  clear hp
  rw [envOf_lk]
  unfold phi_rin
  refine vg_call (C := C_rvalid) rfl rfl (xs := [.i hc, .i hf, .i hs, .i hd]) rfl (fun hg => ?_) (fun rs hrs => ?_)
  ·
    exact trivial
  obtain ⟨r5, hr5, rfl⟩ := rvalid_res hrs
  clear hrs
  change Fm.holds _ _ (lk [.i hc, .i hf, .i hs, .i hd, .i p, .b r5])
  refine vg_call (C := C_rtop) rfl rfl (xs := [.i hc, .i hf, .i hs, .i hd]) rfl (fun hg => ?_) (fun rs hrs => ?_)
  ·
    exact trivial
  obtain ⟨r6, hr6, rfl⟩ := rtop_res hrs
  clear hrs
  change Fm.holds _ _ (lk [.i hc, .i hf, .i hs, .i hd, .i p, .b r5, .i r6])
  suffices hfin : ((if (if r5 = true then (decide ((0 : Int) ≤ p)) else false) = true then (decide (p ≤ r6)) else false)) = (valid hc hf hs hd && between p 0 (top hc hf hs hd)) from (c_b hfin rfl)
  -- leaf 1 (ret)
  subst_vars
  simp only [between]
  grind
def C_rlevel : Ctr := ⟨[.agg [.int .i64, .int .i64, .int .i64, .int .i64], .one (.int .i64)], [.one (.bool)],
  fun | [.i _, .i _, .i _, .i _, .i _] => True | _ => False,
  fun | [.i hc, .i hf, .i hs, .i hd, .i p] => [.b (level hc hf hs hd p)] | _ => []⟩
theorem rlevel_pre {ls : List Leaf} (h_ : C_rlevel.pre ls) : ∃ (hc : Int) (hf : Int) (hs : Int) (hd : Int) (p : Int), ls = [.i hc, .i hf, .i hs, .i hd, .i p] := by
  unfold C_rlevel at h_; dsimp only at h_; split at h_
  · exact ⟨_, _, _, _, _, rfl⟩
  · exact h_.elim
theorem rlevel_res {hc : Int} {hf : Int} {hs : Int} {hd : Int} {p : Int} {rs_ : List Leaf} (h_ : rs_ = C_rlevel.fn [.i hc, .i hf, .i hs, .i hd, .i p]) : ∃ (q0 : Bool), q0 = (level hc hf hs hd p) ∧ rs_ = [.b q0] := ⟨_, rfl, h_⟩
def phi_rlevel : Fm := (.call 81 [] [(.i (.v 0)), (.i (.v 1)), (.i (.v 2)), (.i (.v 3)), (.i (.v 4))] 5 (.ob [((.v 5), .true)] (.not (.eq (.v 2) (.i 0))) (.ret [(.b (.ite (.v 5) (.eq (.rem (.v 4) (.v 2)) (.i 0)) (.t .false)))])))
def tbl_rlevel : List (Nat × Ctr) := [(81, C_rin)]
theorem vc_rlevel : vcg Tryd.prog (sigT tbl_rlevel) [] Tryd.f69 C_rlevel.params C_rlevel.res = some phi_rlevel := by kernel_rfl
--SPLIT
theorem rlevel_sound : C_rlevel.Sound Tryd.prog G 69 := by
  refine fn_ok mixed stable tbl_rlevel [] Tryd.func69 (by kernel_rfl) phi_rlevel vc_rlevel ⟨rin_sound, trivial⟩ (fun _ _ _ => False) (fun _ _ _ => 0) ?_
  intro ls hp
  obtain ⟨hc, hf, hs, hd, p, rfl⟩ := rlevel_pre hp
  clear hp
  rw [envOf_lk]
  unfold phi_rlevel
  refine vg_call (C := C_rin) rfl rfl (xs := [.i hc, .i hf, .i hs, .i hd, .i p]) rfl (fun hg => ?_) (fun rs hrs => ?_)
  ·
    exact trivial
  obtain ⟨r5, hr5, rfl⟩ := rin_res hrs
  clear hrs
  change Fm.holds _ _ (lk [.i hc, .i hf, .i hs, .i hd, .i p, .b r5])
  refine ⟨fun hg => ?_, ?_⟩
  ·
    simp only [gd_cons, gd_nil, and_true] at hg
    replace hg : r5 = true := hg
    show (!(hs == (0 : Int))) = true
    -- leaf 1 (ob)
    subst hr5
    simp at hg
    have h := valid_iff.1 hg.1
    simp; omega
  suffices hfin : ((if r5 = true then ((Int.tmod p hs) == (0 : Int)) else false)) = (level hc hf hs hd p) from (c_b hfin rfl)
  -- leaf 2 (ret)
  subst hr5
  simp only [level]
  cases h : valid hc hf hs hd <;> simp
  cases h2 : between p 0 (top hc hf hs hd) <;> simp
  rw [between_iff] at h2
  rw [tmod_emod h2.1, Bool.eq_iff_iff]
  simp
def C_rfloor : Ctr := ⟨[.agg [.int .i64, .int .i64, .int .i64, .int .i64], .one (.int .i64)], [.one (.int .i64)],
  fun | [.i _, .i _, .i _, .i _, .i _] => True | _ => False,
  fun | [.i hc, .i hf, .i hs, .i hd, .i p] => [.i (floor hc hf hs hd p)] | _ => []⟩
theorem rfloor_pre {ls : List Leaf} (h_ : C_rfloor.pre ls) : ∃ (hc : Int) (hf : Int) (hs : Int) (hd : Int) (p : Int), ls = [.i hc, .i hf, .i hs, .i hd, .i p] := by
  unfold C_rfloor at h_; dsimp only at h_; split at h_
  · exact ⟨_, _, _, _, _, rfl⟩
  · exact h_.elim
theorem rfloor_res {hc : Int} {hf : Int} {hs : Int} {hd : Int} {p : Int} {rs_ : List Leaf} (h_ : rs_ = C_rfloor.fn [.i hc, .i hf, .i hs, .i hd, .i p]) : ∃ (q0 : Int), q0 = (floor hc hf hs hd p) ∧ rs_ = [.i q0] := ⟨_, rfl, h_⟩
def phi_rfloor : Fm := (.call 51 [] [(.i (.v 0)), (.i (.v 1)), (.i (.v 2)), (.i (.v 3))] 5 (.and (.imp (.ite (.not (.v 5)) (.t .true) (.lt (.v 4) (.i 0))) .true (.ret [(.i (.i 0))])) (.imp (.ite (.not (.v 5)) (.t .true) (.lt (.v 4) (.i 0))) .false (.call 82 [] [(.i (.v 0)), (.i (.v 1)), (.i (.v 2)), (.i (.v 3))] 6 (.ob [] (.not (.eq (.v 2) (.i 0))) (.ret [(.i (.wrap .i64 (.quo (.ite (.lt (.v 6) (.v 4)) (.v 6) (.v 4)) (.v 2))))]))))))
def tbl_rfloor : List (Nat × Ctr) := [(51, C_rvalid), (82, C_rtop)]
theorem vc_rfloor : vcg Tryd.prog (sigT tbl_rfloor) [] Tryd.f68 C_rfloor.params C_rfloor.res = some phi_rfloor := by kernel_rfl
--SPLIT
theorem rfloor_sound : C_rfloor.Sound Tryd.prog G 68 := by
  refine fn_ok mixed stable tbl_rfloor [] Tryd.func68 (by kernel_rfl) phi_rfloor vc_rfloor ⟨rvalid_sound, rtop_sound, trivial⟩ (fun _ _ _ => False) (fun _ _ _ => 0) ?_
  intro ls hp
  obtain ⟨hc, hf, hs, hd, p, rfl⟩ := rfloor_pre hp
  clear hp
  rw [envOf_lk]
  unfold phi_rfloor
  refine vg_call (C := C_rvalid) rfl rfl (xs := [.i hc, .i hf, .i hs, .i hd]) rfl (fun hg => ?_) (fun rs hrs => ?_)
  ·
    exact trivial
  obtain ⟨r5, hr5, rfl⟩ := rvalid_res hrs
  clear hrs
  change Fm.holds _ _ (lk [.i hc, .i hf, .i hs, .i hd, .i p, .b r5])
  refine ⟨fun hcond => ?_, fun hcond => ?_⟩
  ·
    have c1 : (if (!r5) = true then true else (decide (p < (0 : Int)))) = true := hcond
    clear hcond
    suffices hfin : ((0 : Int)) = (floor hc hf hs hd p) from (c_i hfin rfl)
    -- leaf 1 (ret)
    subst hr5
    have ht := top_range hc hf hs hd
    simp only [floor]
    split
    · rename_i h
      simp [h] at c1
      rw [show min (max p 0) (top hc hf hs hd) = 0 by omega]; simp
    · rfl
  ·
    have c2 : (if (!r5) = true then true else (decide (p < (0 : Int)))) = false := hcond
    clear hcond
    refine vg_call (C := C_rtop) rfl rfl (xs := [.i hc, .i hf, .i hs, .i hd]) rfl (fun hg => ?_) (fun rs hrs => ?_)
    ·
      exact trivial
    obtain ⟨r6, hr6, rfl⟩ := rtop_res hrs
    clear hrs
    change Fm.holds _ _ (lk [.i hc, .i hf, .i hs, .i hd, .i p, .b r5, .i r6])
    refine ⟨fun hg => ?_, ?_⟩
    ·
      show (!(hs == (0 : Int))) = true
      -- leaf 2 (ob)
      subst hr5
      simp at c2
      have h := valid_iff.1 c2.1
      simp; omega
    suffices hfin : ((IntKind.wrap .i64 (Int.tdiv (if (decide (r6 < p)) = true then r6 else p) hs))) = (floor hc hf hs hd p) from (c_i hfin rfl)
    -- leaf 3 (ret)
    subst hr5 hr6
    simp at c2
    have h := valid_iff.1 c2.1
    have ht := top_range hc hf hs hd
    simp only [decide_eq_true_eq, floor, c2.1, if_true]
    have e : (if top hc hf hs hd < p then top hc hf hs hd else p) = min p (top hc hf hs hd) := by omega
    rw [e, tdiv_ediv (by omega)]
    have := div_range (p := min p (top hc hf hs hd)) (s := hs) (by omega) (by omega) (by omega)
    rw [wrap_in (by omega) (by omega), show max p 0 = p by omega]
def C_rgo : Ctr := ⟨[.agg [.int .i64, .int .i64, .int .i64, .int .i64], .one (.int .i64), .one (.int .i64)], [.one (.int .i64), .one (.bool)],
  fun | [.i _, .i _, .i _, .i _, .i _, .i _] => True | _ => False,
  fun | [.i hc, .i hf, .i hs, .i hd, .i p, .i m] => [.i (goPos hc hf hs hd p m), .b (goIs hc hf hs hd p m)] | _ => []⟩
theorem rgo_pre {ls : List Leaf} (h_ : C_rgo.pre ls) : ∃ (hc : Int) (hf : Int) (hs : Int) (hd : Int) (p : Int) (m : Int), ls = [.i hc, .i hf, .i hs, .i hd, .i p, .i m] := by
  unfold C_rgo at h_; dsimp only at h_; split at h_
  · exact ⟨_, _, _, _, _, _, rfl⟩
  · exact h_.elim
theorem rgo_res {hc : Int} {hf : Int} {hs : Int} {hd : Int} {p : Int} {m : Int} {rs_ : List Leaf} (h_ : rs_ = C_rgo.fn [.i hc, .i hf, .i hs, .i hd, .i p, .i m]) : ∃ (q0 : Int) (q1 : Bool), q0 = (goPos hc hf hs hd p m) ∧ q1 = (goIs hc hf hs hd p m) ∧ rs_ = [.i q0, .b q1] := ⟨_, _, rfl, rfl, h_⟩
def phi_rgo : Fm := (.call 51 [] [(.i (.v 0)), (.i (.v 1)), (.i (.v 2)), (.i (.v 3))] 6 (.call 82 [((.ite (.not (.v 6)) (.t .true) (.lt (.v 4) (.i (Int.negSucc 0)))), .false)] [(.i (.v 0)), (.i (.v 1)), (.i (.v 2)), (.i (.v 3))] 7 (.and (.imp (.ite (.ite (.not (.v 6)) (.t .true) (.lt (.v 4) (.i (Int.negSucc 0)))) (.t .true) (.lt (.wrap .i64 (.add (.v 7) (.i 1))) (.v 4))) .true (.ret [(.i (.i 0)), (.b (.t .false))])) (.imp (.ite (.ite (.not (.v 6)) (.t .true) (.lt (.v 4) (.i (Int.negSucc 0)))) (.t .true) (.lt (.wrap .i64 (.add (.v 7) (.i 1))) (.v 4))) .false (.and (.imp (.lt (.i 0) (.v 5)) .true (.and (.imp (.lt (.v 5) (.i 0)) .true (.call 81 [] [(.i (.v 0)), (.i (.v 1)), (.i (.v 2)), (.i (.v 3)), (.i (.wrap .i64 (.sub (.wrap .i64 (.add (.v 4) (.i 1))) (.i 1))))] 8 (.and (.imp (.v 8) .false (.ret [(.i (.i 0)), (.b (.t .false))])) (.imp (.v 8) .true (.ret [(.i (.wrap .i64 (.sub (.wrap .i64 (.add (.v 4) (.i 1))) (.i 1)))), (.b (.t .true))]))))) (.imp (.lt (.v 5) (.i 0)) .false (.call 81 [] [(.i (.v 0)), (.i (.v 1)), (.i (.v 2)), (.i (.v 3)), (.i (.wrap .i64 (.add (.v 4) (.i 1))))] 8 (.and (.imp (.v 8) .false (.ret [(.i (.i 0)), (.b (.t .false))])) (.imp (.v 8) .true (.ret [(.i (.wrap .i64 (.add (.v 4) (.i 1)))), (.b (.t .true))]))))))) (.imp (.lt (.i 0) (.v 5)) .false (.and (.imp (.lt (.v 5) (.i 0)) .true (.call 81 [] [(.i (.v 0)), (.i (.v 1)), (.i (.v 2)), (.i (.v 3)), (.i (.wrap .i64 (.sub (.v 4) (.i 1))))] 8 (.and (.imp (.v 8) .false (.ret [(.i (.i 0)), (.b (.t .false))])) (.imp (.v 8) .true (.ret [(.i (.wrap .i64 (.sub (.v 4) (.i 1)))), (.b (.t .true))]))))) (.imp (.lt (.v 5) (.i 0)) .false (.call 81 [] [(.i (.v 0)), (.i (.v 1)), (.i (.v 2)), (.i (.v 3)), (.i (.v 4))] 8 (.and (.imp (.v 8) .false (.ret [(.i (.i 0)), (.b (.t .false))])) (.imp (.v 8) .true (.ret [(.i (.v 4)), (.b (.t .true))]))))))))))))
def tbl_rgo : List (Nat × Ctr) := [(51, C_rvalid), (81, C_rin), (82, C_rtop)]
theorem vc_rgo : vcg Tryd.prog (sigT tbl_rgo) [] Tryd.f70 C_rgo.params C_rgo.res = some phi_rgo := by kernel_rfl
--SPLIT
theorem rgo_sound : C_rgo.Sound Tryd.prog G 70 := by
  refine fn_ok mixed stable tbl_rgo [] Tryd.func70 (by kernel_rfl) phi_rgo vc_rgo ⟨rvalid_sound, rin_sound, rtop_sound, trivial⟩ (fun _ _ _ => False) (fun _ _ _ => 0) ?_
  intro ls hp
  obtain ⟨hc, hf, hs, hd, p, m, rfl⟩ := rgo_pre hp
  clear hp
  rw [envOf_lk]
  unfold phi_rgo
  refine vg_call (C := C_rvalid) rfl rfl (xs := [.i hc, .i hf, .i hs, .i hd]) rfl (fun hg => ?_) (fun rs hrs => ?_)
  ·
    exact trivial
  obtain ⟨r6, hr6, rfl⟩ := rvalid_res hrs
  clear hrs
  change Fm.holds _ _ (lk [.i hc, .i hf, .i hs, .i hd, .i p, .i m, .b r6])
  refine vg_call (C := C_rtop) rfl rfl (xs := [.i hc, .i hf, .i hs, .i hd]) rfl (fun hg => ?_) (fun rs hrs => ?_)
  ·
    exact trivial
  obtain ⟨r7, hr7, rfl⟩ := rtop_res hrs
  clear hrs
  change Fm.holds _ _ (lk [.i hc, .i hf, .i hs, .i hd, .i p, .i m, .b r6, .i r7])
  refine ⟨fun hcond => ?_, fun hcond => ?_⟩
  ·
    have c1 : (if (if (!r6) = true then true else (decide (p < (-1)))) = true then true else (decide ((IntKind.wrap .i64 (r7 + (1 : Int))) < p))) = true := hcond
    clear hcond
    suffices hfin : ((0 : Int)) = (goPos hc hf hs hd p m) ∧ (false) = (goIs hc hf hs hd p m) from (c_i hfin.1 (c_b hfin.2 rfl))
    -- leaf 1 (ret)
    subst hr6 hr7
    have ht := top_range hc hf hs hd
    rw [wrap_in (n := top hc hf hs hd + 1) (by omega) (by omega)] at c1
    have hb : goIs hc hf hs hd p m = false := by
      simp only [goIs, between]
      cases h : valid hc hf hs hd <;> simp [h] at c1 ⊢
      omega
    simp [goPos, hb]
  ·
    have c2 : (if (if (!r6) = true then true else (decide (p < (-1)))) = true then true else (decide ((IntKind.wrap .i64 (r7 + (1 : Int))) < p))) = false := hcond
    clear hcond
    refine ⟨fun hcond => ?_, fun hcond => ?_⟩
    ·
      have c3 : (decide ((0 : Int) < m)) = true := hcond
      clear hcond
      refine ⟨fun hcond => ?_, fun hcond => ?_⟩
      ·
        have c4 : (decide (m < (0 : Int))) = true := hcond
        clear hcond
        refine vg_call (C := C_rin) rfl rfl (xs := [.i hc, .i hf, .i hs, .i hd, .i (IntKind.wrap .i64 ((IntKind.wrap .i64 (p + (1 : Int))) - (1 : Int)))]) rfl (fun hg => ?_) (fun rs hrs => ?_)
        ·
          exact trivial
        obtain ⟨r8, hr8, rfl⟩ := rin_res hrs
        clear hrs
        change Fm.holds _ _ (lk [.i hc, .i hf, .i hs, .i hd, .i p, .i m, .b r6, .i r7, .b r8])
        refine ⟨fun hcond => ?_, fun hcond => ?_⟩
        ·
          have c5 : r8 = false := hcond
          clear hcond
          suffices hfin : ((0 : Int)) = (goPos hc hf hs hd p m) ∧ (false) = (goIs hc hf hs hd p m) from (c_i hfin.1 (c_b hfin.2 rfl))
          -- leaf 2 (ret)
          subst hr6 hr7 hr8
          have ht := top_range hc hf hs hd
          rw [wrap_in (n := top hc hf hs hd + 1) (by omega) (by omega)] at c2
          have hb : valid hc hf hs hd = true ∧ -1 ≤ p ∧ p ≤ top hc hf hs hd + 1 := by
            cases h : valid hc hf hs hd <;> simp [h] at c2 ⊢ <;> omega
          clear c2
          have e1 := wrap_in (n := p + 1) (by omega) (by omega)
          have e2 := wrap_in (n := p - 1) (by omega) (by omega)
          simp only [goPos, goIs, clampM]
          simp only [e1, e2, between, decide_eq_true_eq, decide_eq_false_iff_not] at *
          clear e1 e2
          grind
        ·
          have c6 : r8 = true := hcond
          clear hcond
          suffices hfin : ((IntKind.wrap .i64 ((IntKind.wrap .i64 (p + (1 : Int))) - (1 : Int)))) = (goPos hc hf hs hd p m) ∧ (true) = (goIs hc hf hs hd p m) from (c_i hfin.1 (c_b hfin.2 rfl))
          -- leaf 3 (ret)
          subst hr6 hr7 hr8
          have ht := top_range hc hf hs hd
          rw [wrap_in (n := top hc hf hs hd + 1) (by omega) (by omega)] at c2
          have hb : valid hc hf hs hd = true ∧ -1 ≤ p ∧ p ≤ top hc hf hs hd + 1 := by
            cases h : valid hc hf hs hd <;> simp [h] at c2 ⊢ <;> omega
          clear c2
          have e1 := wrap_in (n := p + 1) (by omega) (by omega)
          have e2 := wrap_in (n := p - 1) (by omega) (by omega)
          simp only [goPos, goIs, clampM]
          simp only [e1, e2, between, decide_eq_true_eq, decide_eq_false_iff_not] at *
          clear e1 e2
          grind
      ·
        have c7 : (decide (m < (0 : Int))) = false := hcond
        clear hcond
        refine vg_call (C := C_rin) rfl rfl (xs := [.i hc, .i hf, .i hs, .i hd, .i (IntKind.wrap .i64 (p + (1 : Int)))]) rfl (fun hg => ?_) (fun rs hrs => ?_)
        ·
          exact trivial
        obtain ⟨r8, hr8, rfl⟩ := rin_res hrs
        clear hrs
        change Fm.holds _ _ (lk [.i hc, .i hf, .i hs, .i hd, .i p, .i m, .b r6, .i r7, .b r8])
        refine ⟨fun hcond => ?_, fun hcond => ?_⟩
        ·
          have c8 : r8 = false := hcond
          clear hcond
          suffices hfin : ((0 : Int)) = (goPos hc hf hs hd p m) ∧ (false) = (goIs hc hf hs hd p m) from (c_i hfin.1 (c_b hfin.2 rfl))
          -- leaf 4 (ret)
          subst hr6 hr7 hr8
          have ht := top_range hc hf hs hd
          rw [wrap_in (n := top hc hf hs hd + 1) (by omega) (by omega)] at c2
          have hb : valid hc hf hs hd = true ∧ -1 ≤ p ∧ p ≤ top hc hf hs hd + 1 := by
            cases h : valid hc hf hs hd <;> simp [h] at c2 ⊢ <;> omega
          clear c2
          have e1 := wrap_in (n := p + 1) (by omega) (by omega)
          have e2 := wrap_in (n := p - 1) (by omega) (by omega)
          simp only [goPos, goIs, clampM]
          simp only [e1, e2, between, decide_eq_true_eq, decide_eq_false_iff_not] at *
          clear e1 e2
          grind
        ·
          have c9 : r8 = true := hcond
          clear hcond
          suffices hfin : ((IntKind.wrap .i64 (p + (1 : Int)))) = (goPos hc hf hs hd p m) ∧ (true) = (goIs hc hf hs hd p m) from (c_i hfin.1 (c_b hfin.2 rfl))
          -- leaf 5 (ret)
          subst hr6 hr7 hr8
          have ht := top_range hc hf hs hd
          rw [wrap_in (n := top hc hf hs hd + 1) (by omega) (by omega)] at c2
          have hb : valid hc hf hs hd = true ∧ -1 ≤ p ∧ p ≤ top hc hf hs hd + 1 := by
            cases h : valid hc hf hs hd <;> simp [h] at c2 ⊢ <;> omega
          clear c2
          have e1 := wrap_in (n := p + 1) (by omega) (by omega)
          have e2 := wrap_in (n := p - 1) (by omega) (by omega)
          simp only [goPos, goIs, clampM]
          simp only [e1, e2, between, decide_eq_true_eq, decide_eq_false_iff_not] at *
          clear e1 e2
          grind
    ·
      have c10 : (decide ((0 : Int) < m)) = false := hcond
      clear hcond
      refine ⟨fun hcond => ?_, fun hcond => ?_⟩
      ·
        have c11 : (decide (m < (0 : Int))) = true := hcond
        clear hcond
        refine vg_call (C := C_rin) rfl rfl (xs := [.i hc, .i hf, .i hs, .i hd, .i (IntKind.wrap .i64 (p - (1 : Int)))]) rfl (fun hg => ?_) (fun rs hrs => ?_)
        ·
          exact trivial
        obtain ⟨r8, hr8, rfl⟩ := rin_res hrs
        clear hrs
        change Fm.holds _ _ (lk [.i hc, .i hf, .i hs, .i hd, .i p, .i m, .b r6, .i r7, .b r8])
        refine ⟨fun hcond => ?_, fun hcond => ?_⟩
        ·
          have c12 : r8 = false := hcond
          clear hcond
          suffices hfin : ((0 : Int)) = (goPos hc hf hs hd p m) ∧ (false) = (goIs hc hf hs hd p m) from (c_i hfin.1 (c_b hfin.2 rfl))
          -- leaf 6 (ret)
          subst hr6 hr7 hr8
          have ht := top_range hc hf hs hd
          rw [wrap_in (n := top hc hf hs hd + 1) (by omega) (by omega)] at c2
          have hb : valid hc hf hs hd = true ∧ -1 ≤ p ∧ p ≤ top hc hf hs hd + 1 := by
            cases h : valid hc hf hs hd <;> simp [h] at c2 ⊢ <;> omega
          clear c2
          have e1 := wrap_in (n := p + 1) (by omega) (by omega)
          have e2 := wrap_in (n := p - 1) (by omega) (by omega)
          simp only [goPos, goIs, clampM]
          simp only [e1, e2, between, decide_eq_true_eq, decide_eq_false_iff_not] at *
          clear e1 e2
          grind
        ·
          have c13 : r8 = true := hcond
          clear hcond
          suffices hfin : ((IntKind.wrap .i64 (p - (1 : Int)))) = (goPos hc hf hs hd p m) ∧ (true) = (goIs hc hf hs hd p m) from (c_i hfin.1 (c_b hfin.2 rfl))
          -- leaf 7 (ret)
          subst hr6 hr7 hr8
          have ht := top_range hc hf hs hd
          rw [wrap_in (n := top hc hf hs hd + 1) (by omega) (by omega)] at c2
          have hb : valid hc hf hs hd = true ∧ -1 ≤ p ∧ p ≤ top hc hf hs hd + 1 := by
            cases h : valid hc hf hs hd <;> simp [h] at c2 ⊢ <;> omega
          clear c2
          have e1 := wrap_in (n := p + 1) (by omega) (by omega)
          have e2 := wrap_in (n := p - 1) (by omega) (by omega)
          simp only [goPos, goIs, clampM]
          simp only [e1, e2, between, decide_eq_true_eq, decide_eq_false_iff_not] at *
          clear e1 e2
          grind
      ·
        have c14 : (decide (m < (0 : Int))) = false := hcond
        clear hcond
        refine vg_call (C := C_rin) rfl rfl (xs := [.i hc, .i hf, .i hs, .i hd, .i p]) rfl (fun hg => ?_) (fun rs hrs => ?_)
        ·
          exact trivial
        obtain ⟨r8, hr8, rfl⟩ := rin_res hrs
        clear hrs
        change Fm.holds _ _ (lk [.i hc, .i hf, .i hs, .i hd, .i p, .i m, .b r6, .i r7, .b r8])
        refine ⟨fun hcond => ?_, fun hcond => ?_⟩
        ·
          have c15 : r8 = false := hcond
          clear hcond
          suffices hfin : ((0 : Int)) = (goPos hc hf hs hd p m) ∧ (false) = (goIs hc hf hs hd p m) from (c_i hfin.1 (c_b hfin.2 rfl))
          -- leaf 8 (ret)
          subst hr6 hr7 hr8
          have ht := top_range hc hf hs hd
          rw [wrap_in (n := top hc hf hs hd + 1) (by omega) (by omega)] at c2
          have hb : valid hc hf hs hd = true ∧ -1 ≤ p ∧ p ≤ top hc hf hs hd + 1 := by
            cases h : valid hc hf hs hd <;> simp [h] at c2 ⊢ <;> omega
          clear c2
          have e1 := wrap_in (n := p + 1) (by omega) (by omega)
          have e2 := wrap_in (n := p - 1) (by omega) (by omega)
          simp only [goPos, goIs, clampM]
          simp only [e1, e2, between, decide_eq_true_eq, decide_eq_false_iff_not] at *
          clear e1 e2
          grind
        ·
          have c16 : r8 = true := hcond
          clear hcond
          suffices hfin : (p) = (goPos hc hf hs hd p m) ∧ (true) = (goIs hc hf hs hd p m) from (c_i hfin.1 (c_b hfin.2 rfl))
          -- leaf 9 (ret)
          subst hr6 hr7 hr8
          have ht := top_range hc hf hs hd
          rw [wrap_in (n := top hc hf hs hd + 1) (by omega) (by omega)] at c2
          have hb : valid hc hf hs hd = true ∧ -1 ≤ p ∧ p ≤ top hc hf hs hd + 1 := by
            cases h : valid hc hf hs hd <;> simp [h] at c2 ⊢ <;> omega
          clear c2
          have e1 := wrap_in (n := p + 1) (by omega) (by omega)
          have e2 := wrap_in (n := p - 1) (by omega) (by omega)
          simp only [goPos, goIs, clampM]
          simp only [e1, e2, between, decide_eq_true_eq, decide_eq_false_iff_not] at *
          clear e1 e2
          grind
def C_rright : Ctr := ⟨[.agg [.int .i64, .int .i64, .int .i64, .int .i64], .agg [.int .i64, .int .i64, .int .i64, .bool]], [.one (.bool)],
  fun | [.i _, .i _, .i _, .i _, .i _, .i _, .i _, .b _] => True | _ => False,
  fun | [.i hc, .i hf, .i hs, .i hd, .i sp, .i sdir, .i sdo, .b srl] => [.b (right hc hf hs hd sp sdir sdo srl)] | _ => []⟩
theorem rright_pre {ls : List Leaf} (h_ : C_rright.pre ls) : ∃ (hc : Int) (hf : Int) (hs : Int) (hd : Int) (sp : Int) (sdir : Int) (sdo : Int) (srl : Bool), ls = [.i hc, .i hf, .i hs, .i hd, .i sp, .i sdir, .i sdo, .b srl] := by
  unfold C_rright at h_; dsimp only at h_; split at h_
  · exact ⟨_, _, _, _, _, _, _, _, rfl⟩
  · exact h_.elim
theorem rright_res {hc : Int} {hf : Int} {hs : Int} {hd : Int} {sp : Int} {sdir : Int} {sdo : Int} {srl : Bool} {rs_ : List Leaf} (h_ : rs_ = C_rright.fn [.i hc, .i hf, .i hs, .i hd, .i sp, .i sdir, .i sdo, .b srl]) : ∃ (q0 : Bool), q0 = (right hc hf hs hd sp sdir sdo srl) ∧ rs_ = [.b q0] := ⟨_, rfl, h_⟩
def phi_rright : Fm := (.call 81 [] [(.i (.v 0)), (.i (.v 1)), (.i (.v 2)), (.i (.v 3)), (.i (.v 4))] 8 (.and (.imp (.ite (.ite (.ite (.ite (.not (.v 8)) (.t .true) (.lt (.v 5) (.i (Int.negSucc 0)))) (.t .true) (.lt (.i 1) (.v 5))) (.t .true) (.lt (.v 6) (.i 0))) (.t .true) (.lt (.v 3) (.v 6))) .true (.ret [(.b (.t .false))])) (.imp (.ite (.ite (.ite (.ite (.not (.v 8)) (.t .true) (.lt (.v 5) (.i (Int.negSucc 0)))) (.t .true) (.lt (.i 1) (.v 5))) (.t .true) (.lt (.v 6) (.i 0))) (.t .true) (.lt (.v 3) (.v 6))) .false (.call 69 [((.lt (.i 0) (.v 6)), .true)] [(.i (.v 0)), (.i (.v 1)), (.i (.v 2)), (.i (.v 3)), (.i (.v 4))] 9 (.and (.imp (.ite (.lt (.i 0) (.v 6)) (.ite (.not (.v 9)) (.t .true) (.v 7)) (.t .false)) .true (.ret [(.b (.t .false))])) (.imp (.ite (.lt (.i 0) (.v 6)) (.ite (.not (.v 9)) (.t .true) (.v 7)) (.t .false)) .false (.call 69 [] [(.i (.v 0)), (.i (.v 1)), (.i (.v 2)), (.i (.v 3)), (.i (.v 4))] 10 (.ret [(.b (.ite (.ite (.v 10) (.t .true) (.not (.eq (.v 5) (.i 0)))) (.t .true) (.v 7)))]))))))))
def tbl_rright : List (Nat × Ctr) := [(69, C_rlevel), (81, C_rin)]
theorem vc_rright : vcg Tryd.prog (sigT tbl_rright) [] Tryd.f65 C_rright.params C_rright.res = some phi_rright := by kernel_rfl
--SPLIT
theorem rright_sound : C_rright.Sound Tryd.prog G 65 := by
  refine fn_ok mixed stable tbl_rright [] Tryd.func65 (by kernel_rfl) phi_rright vc_rright ⟨rlevel_sound, rin_sound, trivial⟩ (fun _ _ _ => False) (fun _ _ _ => 0) ?_
  intro ls hp
  obtain ⟨hc, hf, hs, hd, sp, sdir, sdo, srl, rfl⟩ := rright_pre hp
  clear hp
  rw [envOf_lk]
  unfold phi_rright
  refine vg_call (C := C_rin) rfl rfl (xs := [.i hc, .i hf, .i hs, .i hd, .i sp]) rfl (fun hg => ?_) (fun rs hrs => ?_)
  ·
    exact trivial
  obtain ⟨r8, hr8, rfl⟩ := rin_res hrs
  clear hrs
  change Fm.holds _ _ (lk [.i hc, .i hf, .i hs, .i hd, .i sp, .i sdir, .i sdo, .b srl, .b r8])
  refine ⟨fun hcond => ?_, fun hcond => ?_⟩
  ·
    have c1 : (if (if (if (if (!r8) = true then true else (decide (sdir < (-1)))) = true then true else (decide ((1 : Int) < sdir))) = true then true else (decide (sdo < (0 : Int)))) = true then true else (decide (hd < sdo))) = true := hcond
    clear hcond
    suffices hfin : (false) = (right hc hf hs hd sp sdir sdo srl) from (c_b hfin rfl)
    -- leaf 1 (ret)
    subst_vars
    have hv := @valid_iff hc hf hs hd
    simp only [right, between]
    simp only [between] at *
    grind
  ·
    have c2 : (if (if (if (if (!r8) = true then true else (decide (sdir < (-1)))) = true then true else (decide ((1 : Int) < sdir))) = true then true else (decide (sdo < (0 : Int)))) = true then true else (decide (hd < sdo))) = false := hcond
    clear hcond
    refine vg_call (C := C_rlevel) rfl rfl (xs := [.i hc, .i hf, .i hs, .i hd, .i sp]) rfl (fun hg => ?_) (fun rs hrs => ?_)
    ·
      exact trivial
    obtain ⟨r9, hr9, rfl⟩ := rlevel_res hrs
    clear hrs
    change Fm.holds _ _ (lk [.i hc, .i hf, .i hs, .i hd, .i sp, .i sdir, .i sdo, .b srl, .b r8, .b r9])
    refine ⟨fun hcond => ?_, fun hcond => ?_⟩
    ·
      have c3 : (if (decide ((0 : Int) < sdo)) = true then (if (!r9) = true then true else srl) else false) = true := hcond
      clear hcond
      suffices hfin : (false) = (right hc hf hs hd sp sdir sdo srl) from (c_b hfin rfl)
      -- leaf 2 (ret)
      subst_vars
      have hv := @valid_iff hc hf hs hd
      simp only [right, between]
      simp only [between] at *
      grind
    ·
      have c4 : (if (decide ((0 : Int) < sdo)) = true then (if (!r9) = true then true else srl) else false) = false := hcond
      clear hcond
      refine vg_call (C := C_rlevel) rfl rfl (xs := [.i hc, .i hf, .i hs, .i hd, .i sp]) rfl (fun hg => ?_) (fun rs hrs => ?_)
      ·
        exact trivial
      obtain ⟨r10, hr10, rfl⟩ := rlevel_res hrs
      clear hrs
      change Fm.holds _ _ (lk [.i hc, .i hf, .i hs, .i hd, .i sp, .i sdir, .i sdo, .b srl, .b r8, .b r9, .b r10])
      suffices hfin : ((if (if r10 = true then true else (!(sdir == (0 : Int)))) = true then true else srl)) = (right hc hf hs hd sp sdir sdo srl) from (c_b hfin rfl)
      -- leaf 3 (ret)
      subst_vars
      have hv := @valid_iff hc hf hs hd
      simp only [right, between]
      simp only [between] at *
      grind
def C_okf : Ctr := ⟨[.one (.int .i64)], [.one (.bool)],
  fun | [.i _] => True | _ => False,
  fun | [.i n] => [.b (okf n)] | _ => []⟩
theorem okf_pre {ls : List Leaf} (h_ : C_okf.pre ls) : ∃ (n : Int), ls = [.i n] := by
  unfold C_okf at h_; dsimp only at h_; split at h_
  · exact ⟨_, rfl⟩
  · exact h_.elim
theorem okf_res {n : Int} {rs_ : List Leaf} (h_ : rs_ = C_okf.fn [.i n]) : ∃ (q0 : Bool), q0 = (okf n) ∧ rs_ = [.b q0] := ⟨_, rfl, h_⟩
def phi_okf : Fm := (.ret [(.b (.ite (.le (.i 0) (.v 0)) (.lt (.v 0) (.i 64)) (.t .false)))])
def tbl_okf : List (Nat × Ctr) := []
theorem vc_okf : vcg Tryd.prog (sigT tbl_okf) [] Tryd.f47 C_okf.params C_okf.res = some phi_okf := by kernel_rfl
--SPLIT
theorem okf_sound : C_okf.Sound Tryd.prog G 47 := by
  refine fn_ok mixed stable tbl_okf [] Tryd.func47 (by kernel_rfl) phi_okf vc_okf trivial (fun _ _ _ => False) (fun _ _ _ => 0) ?_
  intro ls hp
  obtain ⟨n, rfl⟩ := okf_pre hp
  clear hp
  rw [envOf_lk]
  unfold phi_okf
  suffices hfin : ((if (decide ((0 : Int) ≤ n)) = true then (decide (n < (64 : Int))) else false)) = (okf n) from (c_b hfin rfl)
  -- leaf 1 (ret)
  simp only [okf]
  grind
def C_isb : Ctr := ⟨[.one (.int .u64), .one (.int .i64)], [.one (.bool)],
  fun | [.i _, .i _] => True | _ => False,
  fun | [.i b, .i n] => [.b (isb b n)] | _ => []⟩
theorem isb_pre {ls : List Leaf} (h_ : C_isb.pre ls) : ∃ (b : Int) (n : Int), ls = [.i b, .i n] := by
  unfold C_isb at h_; dsimp only at h_; split at h_
  · exact ⟨_, _, rfl⟩
  · exact h_.elim
theorem isb_res {b : Int} {n : Int} {rs_ : List Leaf} (h_ : rs_ = C_isb.fn [.i b, .i n]) : ∃ (q0 : Bool), q0 = (isb b n) ∧ rs_ = [.b q0] := ⟨_, rfl, h_⟩
def phi_isb : Fm := (.call 47 [] [(.i (.v 1))] 2 (.ob [((.v 2), .true)] (.le (.i 0) (.v 1)) (.ret [(.b (.ite (.v 2) (.eq (.bit .and .u64 (.shr .u64 (.v 0) (.v 1)) (.i 1)) (.i 1)) (.t .false)))])))
def tbl_isb : List (Nat × Ctr) := [(47, C_okf)]
theorem vc_isb : vcg Tryd.prog (sigT tbl_isb) [] Tryd.f48 C_isb.params C_isb.res = some phi_isb := by kernel_rfl
--SPLIT
theorem isb_sound : C_isb.Sound Tryd.prog G 48 := by
  refine fn_ok mixed stable tbl_isb [] Tryd.func48 (by kernel_rfl) phi_isb vc_isb ⟨okf_sound, trivial⟩ (fun _ _ _ => False) (fun _ _ _ => 0) ?_
  intro ls hp
  obtain ⟨b, n, rfl⟩ := isb_pre hp
  clear hp
  rw [envOf_lk]
  unfold phi_isb
  refine vg_call (C := C_okf) rfl rfl (xs := [.i n]) rfl (fun hg => ?_) (fun rs hrs => ?_)
  ·
    exact trivial
  obtain ⟨r2, hr2, rfl⟩ := okf_res hrs
  clear hrs
  change Fm.holds _ _ (lk [.i b, .i n, .b r2])
  refine ⟨fun hg => ?_, ?_⟩
  ·
    simp only [gd_cons, gd_nil, and_true] at hg
    replace hg : r2 = true := hg
    show (decide ((0 : Int) ≤ n)) = true
    -- leaf 1 (ob)
    subst_vars
    rw [okf_iff] at *
    simp; omega
  suffices hfin : ((if r2 = true then ((bitv .and .u64 (Int.fdiv b (2 ^ (min (Int.toNat n) (IntKind.bits .u64)))) (1 : Int)) == (1 : Int)) else false)) = (isb b n) from (c_b hfin rfl)
  -- leaf 2 (ret)
  subst_vars
  unfold isb
  cases h : okf n
  · simp
  · rw [okf_iff] at h
    simp only [bv_and, and_one_eq, B_one, if_true, Bool.true_and]
    rw [shr_bit _ _ h.1 h.2]
def C_put : Ctr := ⟨[.agg [.int .u64, .int .u64, .int .u64], .agg [.int .i64, .int .i64]], [.agg [.int .u64, .int .u64, .int .u64]],
  fun | [.i _, .i _, .i _, .i _, .i _] => True | _ => False,
  fun | [.i s0, .i s1, .i s2, .i fl, .i dir] => [.i (s0), .i (put1 s1 fl (okf fl && dir == 1)), .i (put1 s2 fl (okf fl && dir == -1))] | _ => []⟩
theorem put_pre {ls : List Leaf} (h_ : C_put.pre ls) : ∃ (s0 : Int) (s1 : Int) (s2 : Int) (fl : Int) (dir : Int), ls = [.i s0, .i s1, .i s2, .i fl, .i dir] := by
  unfold C_put at h_; dsimp only at h_; split at h_
  · exact ⟨_, _, _, _, _, rfl⟩
  · exact h_.elim
theorem put_res {s0 : Int} {s1 : Int} {s2 : Int} {fl : Int} {dir : Int} {rs_ : List Leaf} (h_ : rs_ = C_put.fn [.i s0, .i s1, .i s2, .i fl, .i dir]) : ∃ (q0 : Int) (q1 : Int) (q2 : Int), q0 = (s0) ∧ q1 = (put1 s1 fl (okf fl && dir == 1)) ∧ q2 = (put1 s2 fl (okf fl && dir == -1)) ∧ rs_ = [.i q0, .i q1, .i q2] := ⟨_, _, _, rfl, rfl, rfl, h_⟩
def phi_put : Fm := (.call 47 [] [(.i (.v 3))] 5 (.and (.imp (.v 5) .false (.ret [(.i (.v 0)), (.i (.v 1)), (.i (.v 2))])) (.imp (.v 5) .true (.and (.imp (.eq (.v 4) (.i 1)) .true (.ob [] (.le (.i 0) (.v 3)) (.ret [(.i (.v 0)), (.i (.bit .or .u64 (.v 1) (.shl .u64 (.i 1) (.v 3)))), (.i (.v 2))]))) (.imp (.eq (.v 4) (.i 1)) .false (.and (.imp (.eq (.v 4) (.i (Int.negSucc 0))) .true (.ob [] (.le (.i 0) (.v 3)) (.ret [(.i (.v 0)), (.i (.v 1)), (.i (.bit .or .u64 (.v 2) (.shl .u64 (.i 1) (.v 3))))]))) (.imp (.eq (.v 4) (.i (Int.negSucc 0))) .false (.ret [(.i (.v 0)), (.i (.v 1)), (.i (.v 2))]))))))))
def tbl_put : List (Nat × Ctr) := [(47, C_okf)]
theorem vc_put : vcg Tryd.prog (sigT tbl_put) [] Tryd.f29 C_put.params C_put.res = some phi_put := by kernel_rfl
--SPLIT
theorem put_sound : C_put.Sound Tryd.prog G 29 := by
  refine fn_ok mixed stable tbl_put [] Tryd.func29 (by kernel_rfl) phi_put vc_put ⟨okf_sound, trivial⟩ (fun _ _ _ => False) (fun _ _ _ => 0) ?_
  intro ls hp
  obtain ⟨s0, s1, s2, fl, dir, rfl⟩ := put_pre hp
  clear hp
  rw [envOf_lk]
  unfold phi_put
  refine vg_call (C := C_okf) rfl rfl (xs := [.i fl]) rfl (fun hg => ?_) (fun rs hrs => ?_)
  ·
    exact trivial
  obtain ⟨r5, hr5, rfl⟩ := okf_res hrs
  clear hrs
  change Fm.holds _ _ (lk [.i s0, .i s1, .i s2, .i fl, .i dir, .b r5])
  refine ⟨fun hcond => ?_, fun hcond => ?_⟩
  ·
    have c1 : r5 = false := hcond
    clear hcond
    suffices hfin : (s0) = (s0) ∧ (s1) = (put1 s1 fl (okf fl && dir == 1)) ∧ (s2) = (put1 s2 fl (okf fl && dir == -1)) from (c_i hfin.1 (c_i hfin.2.1 (c_i hfin.2.2 rfl)))
    -- leaf 1 (ret)
    subst_vars
    simp only [put1, bv_or, bv_shl, B_N, B_one]
    simp_all [oneB]
  ·
    have c2 : r5 = true := hcond
    clear hcond
    refine ⟨fun hcond => ?_, fun hcond => ?_⟩
    ·
      have c3 : (dir == (1 : Int)) = true := hcond
      clear hcond
      refine ⟨fun hg => ?_, ?_⟩
      ·
        show (decide ((0 : Int) ≤ fl)) = true
        -- leaf 2 (ob)
        subst_vars
        rw [okf_iff] at *
        simp; omega
      suffices hfin : (s0) = (s0) ∧ ((bitv .or .u64 s1 (IntKind.wrap .u64 ((1 : Int) * 2 ^ (min (Int.toNat fl) (IntKind.bits .u64)))))) = (put1 s1 fl (okf fl && dir == 1)) ∧ (s2) = (put1 s2 fl (okf fl && dir == -1)) from (c_i hfin.1 (c_i hfin.2.1 (c_i hfin.2.2 rfl)))
      -- leaf 3 (ret)
      subst_vars
      simp only [put1, bv_or, bv_shl, B_N, B_one]
      simp_all [oneB]
    ·
      have c4 : (dir == (1 : Int)) = false := hcond
      clear hcond
      refine ⟨fun hcond => ?_, fun hcond => ?_⟩
      ·
        have c5 : (dir == (-1)) = true := hcond
        clear hcond
        refine ⟨fun hg => ?_, ?_⟩
        ·
          show (decide ((0 : Int) ≤ fl)) = true
          -- leaf 4 (ob)
          subst_vars
          rw [okf_iff] at *
          simp; omega
        suffices hfin : (s0) = (s0) ∧ (s1) = (put1 s1 fl (okf fl && dir == 1)) ∧ ((bitv .or .u64 s2 (IntKind.wrap .u64 ((1 : Int) * 2 ^ (min (Int.toNat fl) (IntKind.bits .u64)))))) = (put1 s2 fl (okf fl && dir == -1)) from (c_i hfin.1 (c_i hfin.2.1 (c_i hfin.2.2 rfl)))
        -- leaf 5 (ret)
        subst_vars
        simp only [put1, bv_or, bv_shl, B_N, B_one]
        simp_all [oneB]
      ·
        have c6 : (dir == (-1)) = false := hcond
        clear hcond
        suffices hfin : (s0) = (s0) ∧ (s1) = (put1 s1 fl (okf fl && dir == 1)) ∧ (s2) = (put1 s2 fl (okf fl && dir == -1)) from (c_i hfin.1 (c_i hfin.2.1 (c_i hfin.2.2 rfl)))
        -- leaf 6 (ret)
        subst_vars
        simp only [put1, bv_or, bv_shl, B_N, B_one]
        simp_all [oneB]
def C_at : Ctr := ⟨[.agg [.int .u64, .int .u64, .int .u64], .one (.int .i64)], [.one (.bool)],
  fun | [.i _, .i _, .i _, .i _] => True | _ => False,
  fun | [.i s0, .i _, .i _, .i n] => [.b (isb s0 n)] | _ => []⟩
theorem at_pre {ls : List Leaf} (h_ : C_at.pre ls) : ∃ (s0 : Int) (s1 : Int) (s2 : Int) (n : Int), ls = [.i s0, .i s1, .i s2, .i n] := by
  unfold C_at at h_; dsimp only at h_; split at h_
  · exact ⟨_, _, _, _, rfl⟩
  · exact h_.elim
theorem at_res {s0 : Int} {s1 : Int} {s2 : Int} {n : Int} {rs_ : List Leaf} (h_ : rs_ = C_at.fn [.i s0, .i s1, .i s2, .i n]) : ∃ (q0 : Bool), q0 = (isb s0 n) ∧ rs_ = [.b q0] := ⟨_, rfl, h_⟩
def phi_at : Fm := (.call 48 [] [(.i (.v 0)), (.i (.v 3))] 4 (.ret [(.b (.v 4))]))
def tbl_at : List (Nat × Ctr) := [(48, C_isb)]
theorem vc_at : vcg Tryd.prog (sigT tbl_at) [] Tryd.f30 C_at.params C_at.res = some phi_at := by kernel_rfl
--SPLIT
theorem at_sound : C_at.Sound Tryd.prog G 30 := by
  refine fn_ok mixed stable tbl_at [] Tryd.func30 (by kernel_rfl) phi_at vc_at ⟨isb_sound, trivial⟩ (fun _ _ _ => False) (fun _ _ _ => 0) ?_
  intro ls hp
  obtain ⟨s0, s1, s2, n, rfl⟩ := at_pre hp
  clear hp
  rw [envOf_lk]
  unfold phi_at
  refine vg_call (C := C_isb) rfl rfl (xs := [.i s0, .i n]) rfl (fun hg => ?_) (fun rs hrs => ?_)
  ·
    exact trivial
  obtain ⟨r4, hr4, rfl⟩ := isb_res hrs
  clear hrs
  change Fm.holds _ _ (lk [.i s0, .i s1, .i s2, .i n, .b r4])
  suffices hfin : (r4) = (isb s0 n) from (c_b hfin rfl)
  -- leaf 1 (ret)
  subst_vars
  simp
def C_hall : Ctr := ⟨[.agg [.int .u64, .int .u64, .int .u64], .one (.int .i64), .one (.int .i64)], [.one (.bool)],
  fun | [.i _, .i _, .i _, .i _, .i _] => True | _ => False,
  fun | [.i _, .i s1, .i s2, .i n, .i dir] => [.b (hallb s1 s2 n dir)] | _ => []⟩
theorem hall_pre {ls : List Leaf} (h_ : C_hall.pre ls) : ∃ (s0 : Int) (s1 : Int) (s2 : Int) (n : Int) (dir : Int), ls = [.i s0, .i s1, .i s2, .i n, .i dir] := by
  unfold C_hall at h_; dsimp only at h_; split at h_
  · exact ⟨_, _, _, _, _, rfl⟩
  · exact h_.elim
theorem hall_res {s0 : Int} {s1 : Int} {s2 : Int} {n : Int} {dir : Int} {rs_ : List Leaf} (h_ : rs_ = C_hall.fn [.i s0, .i s1, .i s2, .i n, .i dir]) : ∃ (q0 : Bool), q0 = (hallb s1 s2 n dir) ∧ rs_ = [.b q0] := ⟨_, rfl, h_⟩
def phi_hall : Fm := (.call 48 [((.eq (.v 4) (.i 1)), .true)] [(.i (.v 1)), (.i (.v 3))] 5 (.call 48 [((.eq (.v 4) (.i (Int.negSucc 0))), .true), ((.ite (.eq (.v 4) (.i 1)) (.v 5) (.t .false)), .false)] [(.i (.v 2)), (.i (.v 3))] 6 (.ret [(.b (.ite (.ite (.eq (.v 4) (.i 1)) (.v 5) (.t .false)) (.t .true) (.ite (.eq (.v 4) (.i (Int.negSucc 0))) (.v 6) (.t .false))))])))
def tbl_hall : List (Nat × Ctr) := [(48, C_isb)]
theorem vc_hall : vcg Tryd.prog (sigT tbl_hall) [] Tryd.f31 C_hall.params C_hall.res = some phi_hall := by kernel_rfl
--SPLIT
theorem hall_sound : C_hall.Sound Tryd.prog G 31 := by
  refine fn_ok mixed stable tbl_hall [] Tryd.func31 (by kernel_rfl) phi_hall vc_hall ⟨isb_sound, trivial⟩ (fun _ _ _ => False) (fun _ _ _ => 0) ?_
  intro ls hp
  obtain ⟨s0, s1, s2, n, dir, rfl⟩ := hall_pre hp
  clear hp
  rw [envOf_lk]
  unfold phi_hall
  refine vg_call (C := C_isb) rfl rfl (xs := [.i s1, .i n]) rfl (fun hg => ?_) (fun rs hrs => ?_)
  ·
    exact trivial
  obtain ⟨r5, hr5, rfl⟩ := isb_res hrs
  clear hrs
  change Fm.holds _ _ (lk [.i s0, .i s1, .i s2, .i n, .i dir, .b r5])
  refine vg_call (C := C_isb) rfl rfl (xs := [.i s2, .i n]) rfl (fun hg => ?_) (fun rs hrs => ?_)
  ·
    exact trivial
  obtain ⟨r6, hr6, rfl⟩ := isb_res hrs
  clear hrs
  change Fm.holds _ _ (lk [.i s0, .i s1, .i s2, .i n, .i dir, .b r5, .b r6])
  suffices hfin : ((if (if (dir == (1 : Int)) = true then r5 else false) = true then true else (if (dir == (-1)) = true then r6 else false))) = (hallb s1 s2 n dir) from (c_b hfin rfl)
  -- leaf 1 (ret)
  subst_vars
  simp only [hallb]
  grind
def C_all : Ctr := ⟨[.agg [.int .u64, .int .u64, .int .u64]], [.one (.int .u64)],
  fun | [.i _, .i _, .i _] => True | _ => False,
  fun | [.i s0, .i s1, .i s2] => [.i (N (allB s0 s1 s2))] | _ => []⟩
theorem all_pre {ls : List Leaf} (h_ : C_all.pre ls) : ∃ (s0 : Int) (s1 : Int) (s2 : Int), ls = [.i s0, .i s1, .i s2] := by
  unfold C_all at h_; dsimp only at h_; split at h_
  · exact ⟨_, _, _, rfl⟩
  · exact h_.elim
theorem all_res {s0 : Int} {s1 : Int} {s2 : Int} {rs_ : List Leaf} (h_ : rs_ = C_all.fn [.i s0, .i s1, .i s2]) : ∃ (q0 : Int), q0 = (N (allB s0 s1 s2)) ∧ rs_ = [.i q0] := ⟨_, rfl, h_⟩
def phi_all : Fm := (.ret [(.i (.bit .or .u64 (.bit .or .u64 (.v 0) (.v 1)) (.v 2)))])
def tbl_all : List (Nat × Ctr) := []
theorem vc_all : vcg Tryd.prog (sigT tbl_all) [] Tryd.f49 C_all.params C_all.res = some phi_all := by kernel_rfl
--SPLIT
theorem all_sound : C_all.Sound Tryd.prog G 49 := by
  refine fn_ok mixed stable tbl_all [] Tryd.func49 (by kernel_rfl) phi_all vc_all trivial (fun _ _ _ => False) (fun _ _ _ => 0) ?_
  intro ls hp
  obtain ⟨s0, s1, s2, rfl⟩ := all_pre hp
  clear hp
  rw [envOf_lk]
  unfold phi_all
  suffices hfin : ((bitv .or .u64 (bitv .or .u64 s0 s1) s2)) = (N (allB s0 s1 s2)) from (c_i hfin rfl)
  -- leaf 1 (ret)
  simp only [bv_or, B_N, allB]
def C_up : Ctr := ⟨[.agg [.int .u64, .int .u64, .int .u64], .one (.int .i64)], [.one (.int .u64)],
  fun | [.i _, .i _, .i _, .i _] => True | _ => False,
  fun | [.i s0, .i s1, .i s2, .i n] => [.i (N (upB s0 s1 s2 n))] | _ => []⟩
theorem up_pre {ls : List Leaf} (h_ : C_up.pre ls) : ∃ (s0 : Int) (s1 : Int) (s2 : Int) (n : Int), ls = [.i s0, .i s1, .i s2, .i n] := by
  unfold C_up at h_; dsimp only at h_; split at h_
  · exact ⟨_, _, _, _, rfl⟩
  · exact h_.elim
theorem up_res {s0 : Int} {s1 : Int} {s2 : Int} {n : Int} {rs_ : List Leaf} (h_ : rs_ = C_up.fn [.i s0, .i s1, .i s2, .i n]) : ∃ (q0 : Int), q0 = (N (upB s0 s1 s2 n)) ∧ rs_ = [.i q0] := ⟨_, rfl, h_⟩
def phi_up : Fm := (.and (.imp (.lt (.v 3) (.i 0)) .true (.call 49 [] [(.i (.v 0)), (.i (.v 1)), (.i (.v 2))] 4 (.ret [(.i (.v 4))]))) (.imp (.lt (.v 3) (.i 0)) .false (.and (.imp (.le (.i 63) (.v 3)) .true (.ret [(.i (.i 0))])) (.imp (.le (.i 63) (.v 3)) .false (.call 49 [] [(.i (.v 0)), (.i (.v 1)), (.i (.v 2))] 4 (.ob [] (.le (.i 0) (.wrap .i64 (.add (.v 3) (.i 1)))) (.ret [(.i (.shl .u64 (.shr .u64 (.v 4) (.wrap .i64 (.add (.v 3) (.i 1)))) (.wrap .i64 (.add (.v 3) (.i 1)))))])))))))
def tbl_up : List (Nat × Ctr) := [(49, C_all)]
theorem vc_up : vcg Tryd.prog (sigT tbl_up) [] Tryd.f99 C_up.params C_up.res = some phi_up := by kernel_rfl
--SPLIT
theorem up_sound : C_up.Sound Tryd.prog G 99 := by
  refine fn_ok mixed stable tbl_up [] Tryd.func99 (by kernel_rfl) phi_up vc_up ⟨all_sound, trivial⟩ (fun _ _ _ => False) (fun _ _ _ => 0) ?_
  intro ls hp
  obtain ⟨s0, s1, s2, n, rfl⟩ := up_pre hp
  clear hp
  rw [envOf_lk]
  unfold phi_up
  refine ⟨fun hcond => ?_, fun hcond => ?_⟩
  ·
    have c1 : (decide (n < (0 : Int))) = true := hcond
    clear hcond
    refine vg_call (C := C_all) rfl rfl (xs := [.i s0, .i s1, .i s2]) rfl (fun hg => ?_) (fun rs hrs => ?_)
    ·
      exact trivial
    obtain ⟨r4, hr4, rfl⟩ := all_res hrs
    clear hrs
    change Fm.holds _ _ (lk [.i s0, .i s1, .i s2, .i n, .i r4])
    suffices hfin : (r4) = (N (upB s0 s1 s2 n)) from (c_i hfin rfl)
    -- leaf 1 (ret)
    subst_vars
    simp_all [upB]
  ·
    have c2 : (decide (n < (0 : Int))) = false := hcond
    clear hcond
    refine ⟨fun hcond => ?_, fun hcond => ?_⟩
    ·
      have c3 : (decide ((63 : Int) ≤ n)) = true := hcond
      clear hcond
      suffices hfin : ((0 : Int)) = (N (upB s0 s1 s2 n)) from (c_i hfin rfl)
      -- leaf 2 (ret)
      subst_vars
      have c3 := of_decide_eq_true c3
      have : ¬ n < 0 := by omega
      simp [upB, this, c3, N_zero]
    ·
      have c4 : (decide ((63 : Int) ≤ n)) = false := hcond
      clear hcond
      refine vg_call (C := C_all) rfl rfl (xs := [.i s0, .i s1, .i s2]) rfl (fun hg => ?_) (fun rs hrs => ?_)
      ·
        exact trivial
      obtain ⟨r4, hr4, rfl⟩ := all_res hrs
      clear hrs
      change Fm.holds _ _ (lk [.i s0, .i s1, .i s2, .i n, .i r4])
      refine ⟨fun hg => ?_, ?_⟩
      ·
        show (decide ((0 : Int) ≤ (IntKind.wrap .i64 (n + (1 : Int))))) = true
        -- leaf 3 (ob)
        have c2 := of_decide_eq_false c2
        have c4 := of_decide_eq_false c4
        rw [wrap_in (by omega) (by omega)]
        simp; omega
      suffices hfin : ((IntKind.wrap .u64 ((Int.fdiv r4 (2 ^ (min (Int.toNat (IntKind.wrap .i64 (n + (1 : Int)))) (IntKind.bits .u64)))) * 2 ^ (min (Int.toNat (IntKind.wrap .i64 (n + (1 : Int)))) (IntKind.bits .u64))))) = (N (upB s0 s1 s2 n)) from (c_i hfin rfl)
      -- leaf 4 (ret)
      have c2 := of_decide_eq_false c2
      have c4 := of_decide_eq_false c4
      subst_vars
      rw [wrap_in (by omega) (by omega), bv_shr, bv_shl, B_N]
      simp [upB, show ¬ n < 0 by omega, show ¬ 63 ≤ n by omega]
def C_down : Ctr := ⟨[.agg [.int .u64, .int .u64, .int .u64], .one (.int .i64)], [.one (.int .u64)],
  fun | [.i _, .i _, .i _, .i _] => True | _ => False,
  fun | [.i s0, .i s1, .i s2, .i n] => [.i (N (dnB s0 s1 s2 n))] | _ => []⟩
theorem down_pre {ls : List Leaf} (h_ : C_down.pre ls) : ∃ (s0 : Int) (s1 : Int) (s2 : Int) (n : Int), ls = [.i s0, .i s1, .i s2, .i n] := by
  unfold C_down at h_; dsimp only at h_; split at h_
  · exact ⟨_, _, _, _, rfl⟩
  · exact h_.elim
theorem down_res {s0 : Int} {s1 : Int} {s2 : Int} {n : Int} {rs_ : List Leaf} (h_ : rs_ = C_down.fn [.i s0, .i s1, .i s2, .i n]) : ∃ (q0 : Int), q0 = (N (dnB s0 s1 s2 n)) ∧ rs_ = [.i q0] := ⟨_, rfl, h_⟩
def phi_down : Fm := (.and (.imp (.lt (.v 3) (.i 0)) .true (.ret [(.i (.i 0))])) (.imp (.lt (.v 3) (.i 0)) .false (.and (.imp (.le (.i 64) (.v 3)) .true (.call 49 [] [(.i (.v 0)), (.i (.v 1)), (.i (.v 2))] 4 (.ret [(.i (.v 4))]))) (.imp (.le (.i 64) (.v 3)) .false (.call 49 [] [(.i (.v 0)), (.i (.v 1)), (.i (.v 2))] 4 (.ob [] (.le (.i 0) (.v 3)) (.ret [(.i (.bit .and .u64 (.v 4) (.wrap .u64 (.sub (.shl .u64 (.i 1) (.v 3)) (.i 1)))))])))))))
def tbl_down : List (Nat × Ctr) := [(49, C_all)]
theorem vc_down : vcg Tryd.prog (sigT tbl_down) [] Tryd.f100 C_down.params C_down.res = some phi_down := by kernel_rfl
--SPLIT
theorem down_sound : C_down.Sound Tryd.prog G 100 := by
  refine fn_ok mixed stable tbl_down [] Tryd.func100 (by kernel_rfl) phi_down vc_down ⟨all_sound, trivial⟩ (fun _ _ _ => False) (fun _ _ _ => 0) ?_
  intro ls hp
  obtain ⟨s0, s1, s2, n, rfl⟩ := down_pre hp
  clear hp
  rw [envOf_lk]
  unfold phi_down
  refine ⟨fun hcond => ?_, fun hcond => ?_⟩
  ·
    have c1 : (decide (n < (0 : Int))) = true := hcond
    clear hcond
    suffices hfin : ((0 : Int)) = (N (dnB s0 s1 s2 n)) from (c_i hfin rfl)
    -- leaf 1 (ret)
    have c1 := of_decide_eq_true c1
    simp [dnB, c1, N_zero]
  ·
    have c2 : (decide (n < (0 : Int))) = false := hcond
    clear hcond
    refine ⟨fun hcond => ?_, fun hcond => ?_⟩
    ·
      have c3 : (decide ((64 : Int) ≤ n)) = true := hcond
      clear hcond
      refine vg_call (C := C_all) rfl rfl (xs := [.i s0, .i s1, .i s2]) rfl (fun hg => ?_) (fun rs hrs => ?_)
      ·
        exact trivial
      obtain ⟨r4, hr4, rfl⟩ := all_res hrs
      clear hrs
      change Fm.holds _ _ (lk [.i s0, .i s1, .i s2, .i n, .i r4])
      suffices hfin : (r4) = (N (dnB s0 s1 s2 n)) from (c_i hfin rfl)
      -- leaf 2 (ret)
      have c2 := of_decide_eq_false c2
      have c3 := of_decide_eq_true c3
      subst_vars
      simp [dnB, c2, c3]
    ·
      have c4 : (decide ((64 : Int) ≤ n)) = false := hcond
      clear hcond
      refine vg_call (C := C_all) rfl rfl (xs := [.i s0, .i s1, .i s2]) rfl (fun hg => ?_) (fun rs hrs => ?_)
      ·
        exact trivial
      obtain ⟨r4, hr4, rfl⟩ := all_res hrs
      clear hrs
      change Fm.holds _ _ (lk [.i s0, .i s1, .i s2, .i n, .i r4])
      refine ⟨fun hg => ?_, ?_⟩
      ·
        show (decide ((0 : Int) ≤ n)) = true
        -- leaf 3 (ob)
        have c2 := of_decide_eq_false c2
        simp; omega
      suffices hfin : ((bitv .and .u64 r4 (IntKind.wrap .u64 ((IntKind.wrap .u64 ((1 : Int) * 2 ^ (min (Int.toNat n) (IntKind.bits .u64)))) - (1 : Int))))) = (N (dnB s0 s1 s2 n)) from (c_i hfin rfl)
      -- leaf 4 (ret)
      have c2 := of_decide_eq_false c2
      have c4 := of_decide_eq_false c4
      subst_vars
      rw [bv_shl, B_one, show (1 : Int) = N 1#64 from rfl, bv_sub, bv_and, B_N, B_N, B_N, B_N]
      simp [dnB, show ¬ n < 0 by omega, show ¬ 64 ≤ n by omega]
def C_above : Ctr := ⟨[.agg [.int .u64, .int .u64, .int .u64], .one (.int .i64)], [.one (.bool)],
  fun | [.i _, .i _, .i _, .i _] => True | _ => False,
  fun | [.i s0, .i s1, .i s2, .i n] => [.b (above s0 s1 s2 n)] | _ => []⟩
theorem above_pre {ls : List Leaf} (h_ : C_above.pre ls) : ∃ (s0 : Int) (s1 : Int) (s2 : Int) (n : Int), ls = [.i s0, .i s1, .i s2, .i n] := by
  unfold C_above at h_; dsimp only at h_; split at h_
  · exact ⟨_, _, _, _, rfl⟩
  · exact h_.elim
theorem above_res {s0 : Int} {s1 : Int} {s2 : Int} {n : Int} {rs_ : List Leaf} (h_ : rs_ = C_above.fn [.i s0, .i s1, .i s2, .i n]) : ∃ (q0 : Bool), q0 = (above s0 s1 s2 n) ∧ rs_ = [.b q0] := ⟨_, rfl, h_⟩
def phi_above : Fm := (.call 99 [] [(.i (.v 0)), (.i (.v 1)), (.i (.v 2)), (.i (.v 3))] 4 (.ret [(.b (.not (.eq (.v 4) (.i 0))))]))
def tbl_above : List (Nat × Ctr) := [(99, C_up)]
theorem vc_above : vcg Tryd.prog (sigT tbl_above) [] Tryd.f111 C_above.params C_above.res = some phi_above := by kernel_rfl
--SPLIT
theorem above_sound : C_above.Sound Tryd.prog G 111 := by
  refine fn_ok mixed stable tbl_above [] Tryd.func111 (by kernel_rfl) phi_above vc_above ⟨up_sound, trivial⟩ (fun _ _ _ => False) (fun _ _ _ => 0) ?_
  intro ls hp
  obtain ⟨s0, s1, s2, n, rfl⟩ := above_pre hp
  clear hp
  rw [envOf_lk]
  unfold phi_above
  refine vg_call (C := C_up) rfl rfl (xs := [.i s0, .i s1, .i s2, .i n]) rfl (fun hg => ?_) (fun rs hrs => ?_)
  ·
    exact trivial
  obtain ⟨r4, hr4, rfl⟩ := up_res hrs
  clear hrs
  change Fm.holds _ _ (lk [.i s0, .i s1, .i s2, .i n, .i r4])
  suffices hfin : ((!(r4 == (0 : Int)))) = (above s0 s1 s2 n) from (c_b hfin rfl)
  -- leaf 1 (ret)
  subst_vars
  simp [above, N_eq_zero, bne]
def C_below : Ctr := ⟨[.agg [.int .u64, .int .u64, .int .u64], .one (.int .i64)], [.one (.bool)],
  fun | [.i _, .i _, .i _, .i _] => True | _ => False,
  fun | [.i s0, .i s1, .i s2, .i n] => [.b (below s0 s1 s2 n)] | _ => []⟩
theorem below_pre {ls : List Leaf} (h_ : C_below.pre ls) : ∃ (s0 : Int) (s1 : Int) (s2 : Int) (n : Int), ls = [.i s0, .i s1, .i s2, .i n] := by
  unfold C_below at h_; dsimp only at h_; split at h_
  · exact ⟨_, _, _, _, rfl⟩
  · exact h_.elim
theorem below_res {s0 : Int} {s1 : Int} {s2 : Int} {n : Int} {rs_ : List Leaf} (h_ : rs_ = C_below.fn [.i s0, .i s1, .i s2, .i n]) : ∃ (q0 : Bool), q0 = (below s0 s1 s2 n) ∧ rs_ = [.b q0] := ⟨_, rfl, h_⟩
def phi_below : Fm := (.call 100 [] [(.i (.v 0)), (.i (.v 1)), (.i (.v 2)), (.i (.v 3))] 4 (.ret [(.b (.not (.eq (.v 4) (.i 0))))]))
def tbl_below : List (Nat × Ctr) := [(100, C_down)]
theorem vc_below : vcg Tryd.prog (sigT tbl_below) [] Tryd.f112 C_below.params C_below.res = some phi_below := by kernel_rfl
--SPLIT
theorem below_sound : C_below.Sound Tryd.prog G 112 := by
  refine fn_ok mixed stable tbl_below [] Tryd.func112 (by kernel_rfl) phi_below vc_below ⟨down_sound, trivial⟩ (fun _ _ _ => False) (fun _ _ _ => 0) ?_
  intro ls hp
  obtain ⟨s0, s1, s2, n, rfl⟩ := below_pre hp
  clear hp
  rw [envOf_lk]
  unfold phi_below
  refine vg_call (C := C_down) rfl rfl (xs := [.i s0, .i s1, .i s2, .i n]) rfl (fun hg => ?_) (fun rs hrs => ?_)
  ·
    exact trivial
  obtain ⟨r4, hr4, rfl⟩ := down_res hrs
  clear hrs
  change Fm.holds _ _ (lk [.i s0, .i s1, .i s2, .i n, .i r4])
  suffices hfin : ((!(r4 == (0 : Int)))) = (below s0 s1 s2 n) from (c_b hfin rfl)
  -- leaf 1 (ret)
  subst_vars
  simp [below, N_eq_zero, bne]
def C_toward : Ctr := ⟨[.agg [.int .u64, .int .u64, .int .u64], .one (.int .i64), .one (.int .i64)], [.one (.bool)],
  fun | [.i _, .i _, .i _, .i _, .i _] => True | _ => False,
  fun | [.i s0, .i s1, .i s2, .i n, .i dir] => [.b (toward s0 s1 s2 n dir)] | _ => []⟩
theorem toward_pre {ls : List Leaf} (h_ : C_toward.pre ls) : ∃ (s0 : Int) (s1 : Int) (s2 : Int) (n : Int) (dir : Int), ls = [.i s0, .i s1, .i s2, .i n, .i dir] := by
  unfold C_toward at h_; dsimp only at h_; split at h_
  · exact ⟨_, _, _, _, _, rfl⟩
  · exact h_.elim
theorem toward_res {s0 : Int} {s1 : Int} {s2 : Int} {n : Int} {dir : Int} {rs_ : List Leaf} (h_ : rs_ = C_toward.fn [.i s0, .i s1, .i s2, .i n, .i dir]) : ∃ (q0 : Bool), q0 = (toward s0 s1 s2 n dir) ∧ rs_ = [.b q0] := ⟨_, rfl, h_⟩
def phi_toward : Fm := (.call 111 [((.eq (.v 4) (.i 1)), .true)] [(.i (.v 0)), (.i (.v 1)), (.i (.v 2)), (.i (.v 3))] 5 (.call 112 [((.eq (.v 4) (.i (Int.negSucc 0))), .true), ((.ite (.eq (.v 4) (.i 1)) (.v 5) (.t .false)), .false)] [(.i (.v 0)), (.i (.v 1)), (.i (.v 2)), (.i (.v 3))] 6 (.ret [(.b (.ite (.ite (.eq (.v 4) (.i 1)) (.v 5) (.t .false)) (.t .true) (.ite (.eq (.v 4) (.i (Int.negSucc 0))) (.v 6) (.t .false))))])))
def tbl_toward : List (Nat × Ctr) := [(111, C_above), (112, C_below)]
theorem vc_toward : vcg Tryd.prog (sigT tbl_toward) [] Tryd.f98 C_toward.params C_toward.res = some phi_toward := by kernel_rfl
--SPLIT
theorem toward_sound : C_toward.Sound Tryd.prog G 98 := by
  refine fn_ok mixed stable tbl_toward [] Tryd.func98 (by kernel_rfl) phi_toward vc_toward ⟨above_sound, below_sound, trivial⟩ (fun _ _ _ => False) (fun _ _ _ => 0) ?_
  intro ls hp
  obtain ⟨s0, s1, s2, n, dir, rfl⟩ := toward_pre hp
  clear hp
  rw [envOf_lk]
  unfold phi_toward
  refine vg_call (C := C_above) rfl rfl (xs := [.i s0, .i s1, .i s2, .i n]) rfl (fun hg => ?_) (fun rs hrs => ?_)
  ·
    exact trivial
  obtain ⟨r5, hr5, rfl⟩ := above_res hrs
  clear hrs
  change Fm.holds _ _ (lk [.i s0, .i s1, .i s2, .i n, .i dir, .b r5])
  refine vg_call (C := C_below) rfl rfl (xs := [.i s0, .i s1, .i s2, .i n]) rfl (fun hg => ?_) (fun rs hrs => ?_)
  ·
    exact trivial
  obtain ⟨r6, hr6, rfl⟩ := below_res hrs
  clear hrs
  change Fm.holds _ _ (lk [.i s0, .i s1, .i s2, .i n, .i dir, .b r5, .b r6])
  suffices hfin : ((if (if (dir == (1 : Int)) = true then r5 else false) = true then true else (if (dir == (-1)) = true then r6 else false))) = (toward s0 s1 s2 n dir) from (c_b hfin rfl)
  -- leaf 1 (ret)
  subst_vars
  simp only [toward]
  grind
def C_of : Ctr := ⟨[.one (.lst [.int .i64]), .one (.lst [.int .i64, .int .i64, .int .i64])], [.agg [.int .u64, .int .u64, .int .u64]],
  fun | [.l f, .l l] => (f.len : Int) ≤ 1000000 ∧ (l.len : Int) ≤ 1000000 | _ => False,
  fun | [.l f, .l l] => [.i (ofCar f f.len), .i (ofUp l l.len), .i (ofDn l l.len)] | _ => []⟩
theorem of_pre {ls : List Leaf} (h_ : C_of.pre ls) : ∃ (f : LV) (l : LV), ls = [.l f, .l l] ∧ ((f.len : Int) ≤ 1000000 ∧ (l.len : Int) ≤ 1000000) := by
  unfold C_of at h_; dsimp only at h_; split at h_
  · exact ⟨_, _, rfl, h_⟩
  · exact h_.elim
theorem of_mk {f : LV} {l : LV} (h_ : (f.len : Int) ≤ 1000000 ∧ (l.len : Int) ≤ 1000000) : C_of.pre [.l f, .l l] := h_
theorem of_res {f : LV} {l : LV} {rs_ : List Leaf} (h_ : rs_ = C_of.fn [.l f, .l l]) : ∃ (q0 : Int) (q1 : Int) (q2 : Int), q0 = (ofCar f f.len) ∧ q1 = (ofUp l l.len) ∧ q2 = (ofDn l l.len) ∧ rs_ = [.i q0, .i q1, .i q2] := ⟨_, _, _, rfl, rfl, rfl, h_⟩
def inv_of_3 (f : LV) (i : Int) (c : Int) : Prop := 0 ≤ i ∧ i ≤ (f.len : Int) ∧ c = ofCar f i.toNat
def meas_of_3 (f : LV) (i : Int) (c : Int) : Nat := ((f.len : Int) - i).toNat
def inv_of_9 (f : LV) (l : LV) (i : Int) (c : Int) (u : Int) (d : Int) : Prop := 0 ≤ i ∧ i ≤ (l.len : Int) ∧ c = ofCar f f.len ∧ u = ofUp l i.toNat ∧ d = ofDn l i.toNat
def meas_of_9 (f : LV) (l : LV) (i : Int) (c : Int) (u : Int) (d : Int) : Nat := ((l.len : Int) - i).toNat
def phi_of : Fm := (.loop 3 2 [0] [(.i (.i 0)), (.i (.i 0))] [.i, .i] (.and (.imp (.lt (.v 2) (.len 0)) .true (.ob [] (.le (.i 0) (.v 2)) (.call 47 [] [(.i (.gi 0 0 (.v 2)))] 4 (.and (.imp (.v 4) .true (.ob [] (.le (.i 0) (.gi 0 0 (.v 2))) (.back 3 2 4 [0] [(.i (.wrap .i64 (.add (.v 2) (.i 1)))), (.i (.bit .or .u64 (.v 3) (.shl .u64 (.i 1) (.gi 0 0 (.v 2)))))]))) (.imp (.v 4) .false (.back 3 2 4 [0] [(.i (.wrap .i64 (.add (.v 2) (.i 1)))), (.i (.v 3))])))))) (.imp (.lt (.v 2) (.len 0)) .false (.loop 9 4 [0, 1] [(.i (.i 0)), (.i (.v 3)), (.i (.i 0)), (.i (.i 0))] [.i, .i, .i, .i] (.and (.imp (.lt (.v 4) (.len 1)) .true (.ob [] (.le (.i 0) (.v 4)) (.call 29 [] [(.i (.v 5)), (.i (.v 6)), (.i (.v 7)), (.i (.gi 1 0 (.v 4))), (.i (.gi 1 1 (.v 4)))] 8 (.back 9 4 8 [0, 1] [(.i (.wrap .i64 (.add (.v 4) (.i 1)))), (.i (.v 8)), (.i (.v 9)), (.i (.v 10))])))) (.imp (.lt (.v 4) (.len 1)) .false (.ret [(.i (.v 5)), (.i (.v 6)), (.i (.v 7))])))))))
def tbl_of : List (Nat × Ctr) := [(29, C_put), (47, C_okf)]
def inv_of : List Leaf → Nat → List Leaf → Prop := fun _ key xs => match key, xs with
  | 3, [.l f, .i i, .i c] => inv_of_3 f i c
  | 9, [.l f, .l l, .i i, .i c, .i u, .i d] => inv_of_9 f l i c u d
  | _, _ => False
def meas_of : List Leaf → Nat → List Leaf → Nat := fun _ key xs => match key, xs with
  | 3, [.l f, .i i, .i c] => meas_of_3 f i c
  | 9, [.l f, .l l, .i i, .i c, .i u, .i d] => meas_of_9 f l i c u d
  | _, _ => 0
theorem vc_of : vcg Tryd.prog (sigT tbl_of) [⟨3, [7, 13, 14, 15, 16, 17, 18, 19, 20, 21, 22, 23, 24], [12], [(1, 0)], [0], some (3, [.i64]), []⟩, ⟨9, [9, 28, 29, 30, 31, 32, 33, 34, 35], [27], [(1, 0), (1, 1), (1, 2)], [0, 1], some (3, [.i64]), []⟩] Tryd.f28 C_of.params C_of.res = some phi_of := by kernel_rfl
--SPLIT
theorem of_sound : C_of.Sound Tryd.prog G 28 := by
  refine fn_ok mixed stable tbl_of [⟨3, [7, 13, 14, 15, 16, 17, 18, 19, 20, 21, 22, 23, 24], [12], [(1, 0)], [0], some (3, [.i64]), []⟩, ⟨9, [9, 28, 29, 30, 31, 32, 33, 34, 35], [27], [(1, 0), (1, 1), (1, 2)], [0, 1], some (3, [.i64]), []⟩] Tryd.func28 (by kernel_rfl) phi_of vc_of ⟨put_sound, okf_sound, trivial⟩ inv_of meas_of ?_
  intro ls hp
  obtain ⟨f, l, rfl, hpre⟩ := of_pre hp
  clear hp
  rw [envOf_lk]
  unfold phi_of
  refine vg_loop rfl ?_ (fun xs hfit hi => ?_)
  ·
    show inv_of_3 f (0 : Int) (0 : Int)
    -- leaf 1 (init)
    exact ⟨by omega, by omega, rfl⟩
  obtain ⟨x2, xs0, rfl, hfit0⟩ := fits_i hfit
  obtain ⟨x3, xs1, rfl, hfit1⟩ := fits_i hfit0
  obtain rfl := fits_nil hfit1
  clear hfit hfit0 hfit1
  replace hi : inv_of_3 f x2 x3 := hi
  have hi3 := hi; clear hi
  change Fm.holds _ _ (lk [.l f, .l l, .i x2, .i x3])
  obtain ⟨i0, i1, i2⟩ := hi3
  have e1 : IntKind.wrap .i64 (x2 + 1) = x2 + 1 := wrap_in (by omega) (by omega)
  have e2 : (x2 + 1).toNat = x2.toNat + 1 := by omega
  refine ⟨fun hcond => ?_, fun hcond => ?_⟩
  ·
    have c1 : (decide (x2 < (f.len : Int))) = true := hcond
    clear hcond
    refine ⟨fun hg => ?_, ?_⟩
    ·
      show (decide ((0 : Int) ≤ x2)) = true
      -- leaf 2 (ob)
      simp; omega
    refine vg_call (C := C_okf) rfl rfl (xs := [.i (f.gi (Int.toNat x2) 0)]) rfl (fun hg => ?_) (fun rs hrs => ?_)
    ·
      exact trivial
    obtain ⟨r4, hr4, rfl⟩ := okf_res hrs
    clear hrs
    change Fm.holds _ _ (lk [.l f, .l l, .i x2, .i x3, .b r4])
    refine ⟨fun hcond => ?_, fun hcond => ?_⟩
    ·
      have c2 : r4 = true := hcond
      clear hcond
      refine ⟨fun hg => ?_, ?_⟩
      ·
        show (decide ((0 : Int) ≤ (f.gi (Int.toNat x2) 0))) = true
        -- leaf 3 (ob)
        rw [hr4, okf_iff] at c2
        simp; omega
      refine ⟨?_, ?_⟩
      ·
        show inv_of_3 f (IntKind.wrap .i64 (x2 + (1 : Int))) (bitv .or .u64 x3 (IntKind.wrap .u64 ((1 : Int) * 2 ^ (min (Int.toNat (f.gi (Int.toNat x2) 0)) (IntKind.bits .u64)))))
        -- leaf 4 (back)
        have hlt := of_decide_eq_true c1
        rw [hr4] at c2
        rw [e1]
        refine ⟨by omega, by omega, ?_⟩
        rw [e2, ofCar, put1, oneB]
        rw [bv_shl, bv_or, B_N, B_one, ← i2]
        simp [c2]
      ·
        show meas_of_3 f (IntKind.wrap .i64 (x2 + (1 : Int))) (bitv .or .u64 x3 (IntKind.wrap .u64 ((1 : Int) * 2 ^ (min (Int.toNat (f.gi (Int.toNat x2) 0)) (IntKind.bits .u64))))) < meas_of_3 f x2 x3
        -- leaf 5 (meas)
        first
        | (have hlt := of_decide_eq_true c1; unfold meas_of_3; rw [e1]; omega)
        | (have hlt := of_decide_eq_true c5; unfold meas_of_9; rw [e3]; omega)
    ·
      have c3 : r4 = false := hcond
      clear hcond
      refine ⟨?_, ?_⟩
      ·
        show inv_of_3 f (IntKind.wrap .i64 (x2 + (1 : Int))) x3
        -- leaf 6 (back)
        have hlt := of_decide_eq_true c1
        rw [hr4] at c3
        rw [e1]
        refine ⟨by omega, by omega, ?_⟩
        rw [e2, ofCar, put1]
        simp [c3, i2]
      ·
        show meas_of_3 f (IntKind.wrap .i64 (x2 + (1 : Int))) x3 < meas_of_3 f x2 x3
        -- leaf 7 (meas)
        first
        | (have hlt := of_decide_eq_true c1; unfold meas_of_3; rw [e1]; omega)
        | (have hlt := of_decide_eq_true c5; unfold meas_of_9; rw [e3]; omega)
  ·
    have c4 : (decide (x2 < (f.len : Int))) = false := hcond
    clear hcond
    refine vg_loop rfl ?_ (fun xs hfit hi => ?_)
    ·
      show inv_of_9 f l (0 : Int) x3 (0 : Int) (0 : Int)
      -- leaf 8 (init)
      have hlt := of_decide_eq_false c4
      refine ⟨by omega, by omega, ?_, rfl, rfl⟩
      have : x2.toNat = f.len := by omega
      rw [i2, this]
    obtain ⟨x4, xs0, rfl, hfit0⟩ := fits_i hfit
    obtain ⟨x5, xs1, rfl, hfit1⟩ := fits_i hfit0
    obtain ⟨x6, xs2, rfl, hfit2⟩ := fits_i hfit1
    obtain ⟨x7, xs3, rfl, hfit3⟩ := fits_i hfit2
    obtain rfl := fits_nil hfit3
    clear hfit hfit0 hfit1 hfit2 hfit3
    replace hi : inv_of_9 f l x4 x5 x6 x7 := hi
    have hi9 := hi; clear hi
    change Fm.holds _ _ (lk [.l f, .l l, .i x2, .i x3, .i x4, .i x5, .i x6, .i x7])
    obtain ⟨k0, k1, k2, k3, k4⟩ := hi9
    have e3 : IntKind.wrap .i64 (x4 + 1) = x4 + 1 := wrap_in (by omega) (by omega)
    have e4 : (x4 + 1).toNat = x4.toNat + 1 := by omega
    refine ⟨fun hcond => ?_, fun hcond => ?_⟩
    ·
      have c5 : (decide (x4 < (l.len : Int))) = true := hcond
      clear hcond
      refine ⟨fun hg => ?_, ?_⟩
      ·
        show (decide ((0 : Int) ≤ x4)) = true
        -- leaf 9 (ob)
        simp; omega
      refine vg_call (C := C_put) rfl rfl (xs := [.i x5, .i x6, .i x7, .i (l.gi (Int.toNat x4) 0), .i (l.gi (Int.toNat x4) 1)]) rfl (fun hg => ?_) (fun rs hrs => ?_)
      ·
        exact trivial
      obtain ⟨r8, r9, r10, hr8, hr9, hr10, rfl⟩ := put_res hrs
      clear hrs
      change Fm.holds _ _ (lk [.l f, .l l, .i x2, .i x3, .i x4, .i x5, .i x6, .i x7, .i r8, .i r9, .i r10])
      refine ⟨?_, ?_⟩
      ·
        show inv_of_9 f l (IntKind.wrap .i64 (x4 + (1 : Int))) r8 r9 r10
        -- leaf 10 (back)
        have hlt := of_decide_eq_true c5
        rw [e3]
        refine ⟨by omega, by omega, by rw [hr8, k2], ?_, ?_⟩
        · rw [e4, ofUp, hr9, k3]
        · rw [e4, ofDn, hr10, k4]
      ·
        show meas_of_9 f l (IntKind.wrap .i64 (x4 + (1 : Int))) r8 r9 r10 < meas_of_9 f l x4 x5 x6 x7
        -- leaf 11 (meas)
        first
        | (have hlt := of_decide_eq_true c1; unfold meas_of_3; rw [e1]; omega)
        | (have hlt := of_decide_eq_true c5; unfold meas_of_9; rw [e3]; omega)
    ·
      have c6 : (decide (x4 < (l.len : Int))) = false := hcond
      clear hcond
      suffices hfin : (x5) = (ofCar f f.len) ∧ (x6) = (ofUp l l.len) ∧ (x7) = (ofDn l l.len) from (c_i hfin.1 (c_i hfin.2.1 (c_i hfin.2.2 rfl)))
      -- leaf 12 (ret)
      have hlt := of_decide_eq_false c6
      have : x4.toNat = l.len := by omega
      rw [k2, k3, k4, this]
      exact ⟨rfl, rfl, rfl⟩
def C_tz : Ctr := ⟨[.one (.int .u64)], [.one (.int .i64)],
  fun | [.i x] => 0 ≤ x ∧ x < 18446744073709551616 | _ => False,
  fun | [.i x] => [.i ((Lib.ctz 64 x.toNat : Int))] | _ => []⟩
theorem tz_pre {ls : List Leaf} (h_ : C_tz.pre ls) : ∃ (x : Int), ls = [.i x] ∧ (0 ≤ x ∧ x < 18446744073709551616) := by
  unfold C_tz at h_; dsimp only at h_; split at h_
  · exact ⟨_, rfl, h_⟩
  · exact h_.elim
theorem tz_mk {x : Int} (h_ : 0 ≤ x ∧ x < 18446744073709551616) : C_tz.pre [.i x] := h_
theorem tz_res {x : Int} {rs_ : List Leaf} (h_ : rs_ = C_tz.fn [.i x]) : ∃ (q0 : Int), q0 = ((Lib.ctz 64 x.toNat : Int)) ∧ rs_ = [.i q0] := ⟨_, rfl, h_⟩
theorem tz_sound : C_tz.Sound Tryd.prog G 101 := by
  refine ⟨⟨_, Tryd.func101, by kernel_rfl, by kernel_rfl⟩, ?_⟩
  intro ls S w hG hp _
  obtain ⟨x, rfl, h0, h1⟩ := tz_pre hp
  have h := Any7.bits_TrailingZeros64 Tryd.lays29 x.toNat (by omega) w (fun _ => hG)
  have e : ((x.toNat : Nat) : Int) = x := by omega
  rw [e] at h
  refine Calls.mono (show Calls Tryd.prog 101 #[.int .u64 x] w _ from h) ?_
  rintro e w' ⟨rfl, rfl⟩
  exact ⟨Go.RowKit.Below.refl _ _, _, rfl, fun _ => undef, rfl, fun p hp => by cases hp⟩
def C_len64 : Ctr := ⟨[.one (.int .u64)], [.one (.int .i64)],
  fun | [.i x] => 0 ≤ x ∧ x < 18446744073709551616 | _ => False,
  fun | [.i x] => [.i ((Lib.bitLen x.toNat : Int))] | _ => []⟩
theorem len64_pre {ls : List Leaf} (h_ : C_len64.pre ls) : ∃ (x : Int), ls = [.i x] ∧ (0 ≤ x ∧ x < 18446744073709551616) := by
  unfold C_len64 at h_; dsimp only at h_; split at h_
  · exact ⟨_, rfl, h_⟩
  · exact h_.elim
theorem len64_mk {x : Int} (h_ : 0 ≤ x ∧ x < 18446744073709551616) : C_len64.pre [.i x] := h_
theorem len64_res {x : Int} {rs_ : List Leaf} (h_ : rs_ = C_len64.fn [.i x]) : ∃ (q0 : Int), q0 = ((Lib.bitLen x.toNat : Int)) ∧ rs_ = [.i q0] := ⟨_, rfl, h_⟩
theorem len64_sound : C_len64.Sound Tryd.prog G 102 := by
  refine ⟨⟨_, Tryd.func102, by kernel_rfl, by kernel_rfl⟩, ?_⟩
  intro ls S w hG hp _
  obtain ⟨x, rfl, h0, h1⟩ := len64_pre hp
  have h := Tryd.bits_Len64 x w h0 (by omega)
  have e : ((x.toNat : Nat) : Int) = x := by omega
  skip
  refine Calls.mono (show Calls Tryd.prog 102 #[.int .u64 x] w _ from h) ?_
  rintro e w' ⟨rfl, rfl⟩
  exact ⟨Go.RowKit.Below.refl _ _, _, rfl, fun _ => undef, rfl, fun p hp => by cases hp⟩
def C_near : Ctr := ⟨[.agg [.int .u64, .int .u64, .int .u64], .one (.int .i64)], [.one (.int .i64)],
  fun | [.i _, .i _, .i _, .i _] => True | _ => False,
  fun | [.i s0, .i s1, .i s2, .i n] => [.i (near s0 s1 s2 n)] | _ => []⟩
theorem near_pre {ls : List Leaf} (h_ : C_near.pre ls) : ∃ (s0 : Int) (s1 : Int) (s2 : Int) (n : Int), ls = [.i s0, .i s1, .i s2, .i n] := by
  unfold C_near at h_; dsimp only at h_; split at h_
  · exact ⟨_, _, _, _, rfl⟩
  · exact h_.elim
theorem near_res {s0 : Int} {s1 : Int} {s2 : Int} {n : Int} {rs_ : List Leaf} (h_ : rs_ = C_near.fn [.i s0, .i s1, .i s2, .i n]) : ∃ (q0 : Int), q0 = (near s0 s1 s2 n) ∧ rs_ = [.i q0] := ⟨_, rfl, h_⟩
def phi_near : Fm := (.call 99 [] [(.i (.v 0)), (.i (.v 1)), (.i (.v 2)), (.i (.v 3))] 4 (.call 100 [] [(.i (.v 0)), (.i (.v 1)), (.i (.v 2)), (.i (.v 3))] 5 (.and (.imp (.ite (.eq (.v 4) (.i 0)) (.eq (.v 5) (.i 0)) (.t .false)) .true (.ret [(.i (.i 0))])) (.imp (.ite (.eq (.v 4) (.i 0)) (.eq (.v 5) (.i 0)) (.t .false)) .false (.and (.imp (.eq (.v 5) (.i 0)) .true (.ret [(.i (.i 1))])) (.imp (.eq (.v 5) (.i 0)) .false (.and (.imp (.eq (.v 4) (.i 0)) .true (.ret [(.i (.i (Int.negSucc 0)))])) (.imp (.eq (.v 4) (.i 0)) .false (.call 101 [] [(.i (.v 4))] 6 (.call 102 [] [(.i (.v 5))] 7 (.and (.imp (.le (.wrap .i64 (.sub (.v 6) (.v 3))) (.wrap .i64 (.sub (.v 3) (.wrap .i64 (.sub (.v 7) (.i 1)))))) .true (.ret [(.i (.i 1))])) (.imp (.le (.wrap .i64 (.sub (.v 6) (.v 3))) (.wrap .i64 (.sub (.v 3) (.wrap .i64 (.sub (.v 7) (.i 1)))))) .false (.ret [(.i (.i (Int.negSucc 0)))])))))))))))))
def tbl_near : List (Nat × Ctr) := [(99, C_up), (100, C_down), (101, C_tz), (102, C_len64)]
theorem vc_near : vcg Tryd.prog (sigT tbl_near) [] Tryd.f90 C_near.params C_near.res = some phi_near := by kernel_rfl
--SPLIT
theorem near_sound : C_near.Sound Tryd.prog G 90 := by
  refine fn_ok mixed stable tbl_near [] Tryd.func90 (by kernel_rfl) phi_near vc_near ⟨up_sound, down_sound, tz_sound, len64_sound, trivial⟩ (fun _ _ _ => False) (fun _ _ _ => 0) ?_
  intro ls hp
  obtain ⟨s0, s1, s2, n, rfl⟩ := near_pre hp
  clear hp
  rw [envOf_lk]
  unfold phi_near
  refine vg_call (C := C_up) rfl rfl (xs := [.i s0, .i s1, .i s2, .i n]) rfl (fun hg => ?_) (fun rs hrs => ?_)
  ·
    exact trivial
  obtain ⟨r4, hr4, rfl⟩ := up_res hrs
  clear hrs
  change Fm.holds _ _ (lk [.i s0, .i s1, .i s2, .i n, .i r4])
  refine vg_call (C := C_down) rfl rfl (xs := [.i s0, .i s1, .i s2, .i n]) rfl (fun hg => ?_) (fun rs hrs => ?_)
  ·
    exact trivial
  obtain ⟨r5, hr5, rfl⟩ := down_res hrs
  clear hrs
  change Fm.holds _ _ (lk [.i s0, .i s1, .i s2, .i n, .i r4, .i r5])
  refine ⟨fun hcond => ?_, fun hcond => ?_⟩
  ·
    have c1 : (if (r4 == (0 : Int)) = true then (r5 == (0 : Int)) else false) = true := hcond
    clear hcond
    suffices hfin : ((0 : Int)) = (near s0 s1 s2 n) from (c_i hfin rfl)
    -- leaf 1 (ret)
    simp [hr4, hr5, N_eq_zero] at c1
    simp [near, c1.1, c1.2]
  ·
    have c2 : (if (r4 == (0 : Int)) = true then (r5 == (0 : Int)) else false) = false := hcond
    clear hcond
    refine ⟨fun hcond => ?_, fun hcond => ?_⟩
    ·
      have c3 : (r5 == (0 : Int)) = true := hcond
      clear hcond
      suffices hfin : ((1 : Int)) = (near s0 s1 s2 n) from (c_i hfin rfl)
      -- leaf 2 (ret)
      simp [hr4, hr5, N_eq_zero] at c2 c3
      have : ¬ upB s0 s1 s2 n = 0#64 := fun h => c2 h c3
      simp [near, this, c3]
    ·
      have c4 : (r5 == (0 : Int)) = false := hcond
      clear hcond
      refine ⟨fun hcond => ?_, fun hcond => ?_⟩
      ·
        have c5 : (r4 == (0 : Int)) = true := hcond
        clear hcond
        suffices hfin : ((-1)) = (near s0 s1 s2 n) from (c_i hfin rfl)
        -- leaf 3 (ret)
        simp [hr4, hr5, N_eq_zero] at c4 c5
        simp [near, c4, c5]
      ·
        have c6 : (r4 == (0 : Int)) = false := hcond
        clear hcond
        refine vg_call (C := C_tz) rfl rfl (xs := [.i r4]) rfl (fun hg => ?_) (fun rs hrs => ?_)
        ·
          refine tz_mk ?_
          -- leaf 4 (pre)
          rw [hr4]; exact N_range _
        obtain ⟨r6, hr6, rfl⟩ := tz_res hrs
        clear hrs
        change Fm.holds _ _ (lk [.i s0, .i s1, .i s2, .i n, .i r4, .i r5, .i r6])
        refine vg_call (C := C_len64) rfl rfl (xs := [.i r5]) rfl (fun hg => ?_) (fun rs hrs => ?_)
        ·
          refine len64_mk ?_
          -- leaf 5 (pre)
          rw [hr5]; exact N_range _
        obtain ⟨r7, hr7, rfl⟩ := len64_res hrs
        clear hrs
        change Fm.holds _ _ (lk [.i s0, .i s1, .i s2, .i n, .i r4, .i r5, .i r6, .i r7])
        simp [hr4, hr5, N_eq_zero] at c4 c6
        obtain ⟨a1, a2, _⟩ := up_low c6
        obtain ⟨b1, b2, _⟩ := dn_high c4
        have a3 := anyb_range a2
        have b3 := anyb_range b2
        rw [hr4, N_toNat] at hr6
        rw [hr5, N_toNat] at hr7
        rw [← hr6] at a1 a3
        rw [← hr7] at b1 b3
        have e1 : IntKind.wrap .i64 (r6 - n) = r6 - n := wrap_in (by omega) (by omega)
        have e2 : IntKind.wrap .i64 (r7 - 1) = r7 - 1 := wrap_in (by omega) (by omega)
        have e3 : IntKind.wrap .i64 (n - (r7 - 1)) = n - (r7 - 1) := wrap_in (by omega) (by omega)
        refine ⟨fun hcond => ?_, fun hcond => ?_⟩
        ·
          have c7 : (decide ((IntKind.wrap .i64 (r6 - n)) ≤ (IntKind.wrap .i64 (n - (IntKind.wrap .i64 (r7 - (1 : Int))))))) = true := hcond
          clear hcond
          suffices hfin : ((1 : Int)) = (near s0 s1 s2 n) from (c_i hfin rfl)
          -- leaf 6 (ret)
          simp only [e1, e2, e3, decide_eq_true_eq, decide_eq_false_iff_not] at *
          simp only [near, if_neg c4, if_neg c6, ← hr6, ← hr7]
          first
          | rw [if_pos (by assumption)]
          | rw [if_neg (by assumption)]
        ·
          have c8 : (decide ((IntKind.wrap .i64 (r6 - n)) ≤ (IntKind.wrap .i64 (n - (IntKind.wrap .i64 (r7 - (1 : Int))))))) = false := hcond
          clear hcond
          suffices hfin : ((-1)) = (near s0 s1 s2 n) from (c_i hfin rfl)
          -- leaf 7 (ret)
          simp only [e1, e2, e3, decide_eq_true_eq, decide_eq_false_iff_not] at *
          simp only [near, if_neg c4, if_neg c6, ← hr6, ← hr7]
          first
          | rw [if_pos (by assumption)]
          | rw [if_neg (by assumption)]
def C_way : Ctr := ⟨[.agg [.int .u64, .int .u64, .int .u64], .one (.int .i64), .one (.int .i64)], [.one (.bool)],
  fun | [.i _, .i _, .i _, .i _, .i _] => True | _ => False,
  fun | [.i s0, .i s1, .i s2, .i n, .i dir] => [.b (way s0 s1 s2 n dir)] | _ => []⟩
theorem way_pre {ls : List Leaf} (h_ : C_way.pre ls) : ∃ (s0 : Int) (s1 : Int) (s2 : Int) (n : Int) (dir : Int), ls = [.i s0, .i s1, .i s2, .i n, .i dir] := by
  unfold C_way at h_; dsimp only at h_; split at h_
  · exact ⟨_, _, _, _, _, rfl⟩
  · exact h_.elim
theorem way_res {s0 : Int} {s1 : Int} {s2 : Int} {n : Int} {dir : Int} {rs_ : List Leaf} (h_ : rs_ = C_way.fn [.i s0, .i s1, .i s2, .i n, .i dir]) : ∃ (q0 : Bool), q0 = (way s0 s1 s2 n dir) ∧ rs_ = [.b q0] := ⟨_, rfl, h_⟩
def phi_way : Fm := (.call 98 [] [(.i (.v 0)), (.i (.v 1)), (.i (.v 2)), (.i (.v 3)), (.i (.v 4))] 5 (.call 31 [((.v 5), .false)] [(.i (.v 0)), (.i (.v 1)), (.i (.v 2)), (.i (.v 3)), (.i (.v 4))] 6 (.ret [(.b (.ite (.v 5) (.t .true) (.v 6)))])))
def tbl_way : List (Nat × Ctr) := [(31, C_hall), (98, C_toward)]
theorem vc_way : vcg Tryd.prog (sigT tbl_way) [] Tryd.f89 C_way.params C_way.res = some phi_way := by kernel_rfl
--SPLIT
theorem way_sound : C_way.Sound Tryd.prog G 89 := by
  refine fn_ok mixed stable tbl_way [] Tryd.func89 (by kernel_rfl) phi_way vc_way ⟨hall_sound, toward_sound, trivial⟩ (fun _ _ _ => False) (fun _ _ _ => 0) ?_
  intro ls hp
  obtain ⟨s0, s1, s2, n, dir, rfl⟩ := way_pre hp
  clear hp
  rw [envOf_lk]
  unfold phi_way
  refine vg_call (C := C_toward) rfl rfl (xs := [.i s0, .i s1, .i s2, .i n, .i dir]) rfl (fun hg => ?_) (fun rs hrs => ?_)
  ·
    exact trivial
  obtain ⟨r5, hr5, rfl⟩ := toward_res hrs
  clear hrs
  change Fm.holds _ _ (lk [.i s0, .i s1, .i s2, .i n, .i dir, .b r5])
  refine vg_call (C := C_hall) rfl rfl (xs := [.i s0, .i s1, .i s2, .i n, .i dir]) rfl (fun hg => ?_) (fun rs hrs => ?_)
  ·
    exact trivial
  obtain ⟨r6, hr6, rfl⟩ := hall_res hrs
  clear hrs
  change Fm.holds _ _ (lk [.i s0, .i s1, .i s2, .i n, .i dir, .b r5, .b r6])
  suffices hfin : ((if r5 = true then true else r6)) = (way s0 s1 s2 n dir) from (c_b hfin rfl)
  -- leaf 1 (ret)
  subst_vars
  simp only [way]
  grind
def C_turn : Ctr := ⟨[.agg [.int .u64, .int .u64, .int .u64], .one (.int .i64), .one (.int .i64)], [.one (.int .i64)],
  fun | [.i s0, .i s1, .i s2, .i n, .i dir] => -1 ≤ dir ∧ dir ≤ 1 | _ => False,
  fun | [.i s0, .i s1, .i s2, .i n, .i dir] => [.i (turn s0 s1 s2 n dir)] | _ => []⟩
theorem turn_pre {ls : List Leaf} (h_ : C_turn.pre ls) : ∃ (s0 : Int) (s1 : Int) (s2 : Int) (n : Int) (dir : Int), ls = [.i s0, .i s1, .i s2, .i n, .i dir] ∧ (-1 ≤ dir ∧ dir ≤ 1) := by
  unfold C_turn at h_; dsimp only at h_; split at h_
  · exact ⟨_, _, _, _, _, rfl, h_⟩
  · exact h_.elim
theorem turn_mk {s0 : Int} {s1 : Int} {s2 : Int} {n : Int} {dir : Int} (h_ : -1 ≤ dir ∧ dir ≤ 1) : C_turn.pre [.i s0, .i s1, .i s2, .i n, .i dir] := h_
theorem turn_res {s0 : Int} {s1 : Int} {s2 : Int} {n : Int} {dir : Int} {rs_ : List Leaf} (h_ : rs_ = C_turn.fn [.i s0, .i s1, .i s2, .i n, .i dir]) : ∃ (q0 : Int), q0 = (turn s0 s1 s2 n dir) ∧ rs_ = [.i q0] := ⟨_, rfl, h_⟩
def phi_turn : Fm := (.call 89 [((.not (.eq (.v 4) (.i 0))), .true)] [(.i (.v 0)), (.i (.v 1)), (.i (.v 2)), (.i (.v 3)), (.i (.v 4))] 5 (.and (.imp (.ite (.not (.eq (.v 4) (.i 0))) (.v 5) (.t .false)) .true (.ret [(.i (.v 4))])) (.imp (.ite (.not (.eq (.v 4) (.i 0))) (.v 5) (.t .false)) .false (.call 89 [((.not (.eq (.v 4) (.i 0))), .true)] [(.i (.v 0)), (.i (.v 1)), (.i (.v 2)), (.i (.v 3)), (.i (.wrap .i64 (.sub (.i 0) (.v 4))))] 6 (.and (.imp (.ite (.not (.eq (.v 4) (.i 0))) (.v 6) (.t .false)) .true (.ret [(.i (.wrap .i64 (.sub (.i 0) (.v 4))))])) (.imp (.ite (.not (.eq (.v 4) (.i 0))) (.v 6) (.t .false)) .false (.and (.imp (.eq (.v 4) (.i 0)) .false (.ret [(.i (.i 0))])) (.imp (.eq (.v 4) (.i 0)) .true (.call 31 [] [(.i (.v 0)), (.i (.v 1)), (.i (.v 2)), (.i (.v 3)), (.i (.i 1))] 7 (.and (.imp (.v 7) .true (.ret [(.i (.i 1))])) (.imp (.v 7) .false (.call 31 [] [(.i (.v 0)), (.i (.v 1)), (.i (.v 2)), (.i (.v 3)), (.i (.i (Int.negSucc 0)))] 8 (.and (.imp (.v 8) .true (.ret [(.i (.i (Int.negSucc 0)))])) (.imp (.v 8) .false (.call 90 [] [(.i (.v 0)), (.i (.v 1)), (.i (.v 2)), (.i (.v 3))] 9 (.ret [(.i (.v 9))]))))))))))))))))
def tbl_turn : List (Nat × Ctr) := [(31, C_hall), (89, C_way), (90, C_near)]
theorem vc_turn : vcg Tryd.prog (sigT tbl_turn) [] Tryd.f80 C_turn.params C_turn.res = some phi_turn := by kernel_rfl
--SPLIT
theorem turn_sound : C_turn.Sound Tryd.prog G 80 := by
  refine fn_ok mixed stable tbl_turn [] Tryd.func80 (by kernel_rfl) phi_turn vc_turn ⟨hall_sound, way_sound, near_sound, trivial⟩ (fun _ _ _ => False) (fun _ _ _ => 0) ?_
  intro ls hp
  obtain ⟨s0, s1, s2, n, dir, rfl, hpre⟩ := turn_pre hp
  clear hp
  rw [envOf_lk]
  unfold phi_turn
  refine vg_call (C := C_way) rfl rfl (xs := [.i s0, .i s1, .i s2, .i n, .i dir]) rfl (fun hg => ?_) (fun rs hrs => ?_)
  ·
    exact trivial
  obtain ⟨r5, hr5, rfl⟩ := way_res hrs
  clear hrs
  change Fm.holds _ _ (lk [.i s0, .i s1, .i s2, .i n, .i dir, .b r5])
  refine ⟨fun hcond => ?_, fun hcond => ?_⟩
  ·
    have c1 : (if (!(dir == (0 : Int))) = true then r5 else false) = true := hcond
    clear hcond
    suffices hfin : (dir) = (turn s0 s1 s2 n dir) from (c_i hfin rfl)
    -- leaf 1 (ret)
    have e0 : IntKind.wrap .i64 (0 - dir) = -dir := by rw [wrap_in (by omega) (by omega)]; omega
    try rw [e0] at hr6
    simp_all [turn]
  ·
    have c2 : (if (!(dir == (0 : Int))) = true then r5 else false) = false := hcond
    clear hcond
    refine vg_call (C := C_way) rfl rfl (xs := [.i s0, .i s1, .i s2, .i n, .i (IntKind.wrap .i64 ((0 : Int) - dir))]) rfl (fun hg => ?_) (fun rs hrs => ?_)
    ·
      exact trivial
    obtain ⟨r6, hr6, rfl⟩ := way_res hrs
    clear hrs
    change Fm.holds _ _ (lk [.i s0, .i s1, .i s2, .i n, .i dir, .b r5, .b r6])
    refine ⟨fun hcond => ?_, fun hcond => ?_⟩
    ·
      have c3 : (if (!(dir == (0 : Int))) = true then r6 else false) = true := hcond
      clear hcond
      suffices hfin : ((IntKind.wrap .i64 ((0 : Int) - dir))) = (turn s0 s1 s2 n dir) from (c_i hfin rfl)
      -- leaf 2 (ret)
      have e0 : IntKind.wrap .i64 (0 - dir) = -dir := by rw [wrap_in (by omega) (by omega)]; omega
      try rw [e0] at hr6
      simp_all [turn]
    ·
      have c4 : (if (!(dir == (0 : Int))) = true then r6 else false) = false := hcond
      clear hcond
      refine ⟨fun hcond => ?_, fun hcond => ?_⟩
      ·
        have c5 : (dir == (0 : Int)) = false := hcond
        clear hcond
        suffices hfin : ((0 : Int)) = (turn s0 s1 s2 n dir) from (c_i hfin rfl)
        -- leaf 3 (ret)
        have e0 : IntKind.wrap .i64 (0 - dir) = -dir := by rw [wrap_in (by omega) (by omega)]; omega
        try rw [e0] at hr6
        simp_all [turn]
      ·
        have c6 : (dir == (0 : Int)) = true := hcond
        clear hcond
        refine vg_call (C := C_hall) rfl rfl (xs := [.i s0, .i s1, .i s2, .i n, .i (1 : Int)]) rfl (fun hg => ?_) (fun rs hrs => ?_)
        ·
          exact trivial
        obtain ⟨r7, hr7, rfl⟩ := hall_res hrs
        clear hrs
        change Fm.holds _ _ (lk [.i s0, .i s1, .i s2, .i n, .i dir, .b r5, .b r6, .b r7])
        refine ⟨fun hcond => ?_, fun hcond => ?_⟩
        ·
          have c7 : r7 = true := hcond
          clear hcond
          suffices hfin : ((1 : Int)) = (turn s0 s1 s2 n dir) from (c_i hfin rfl)
          -- leaf 4 (ret)
          have e0 : IntKind.wrap .i64 (0 - dir) = -dir := by rw [wrap_in (by omega) (by omega)]; omega
          try rw [e0] at hr6
          simp_all [turn]
        ·
          have c8 : r7 = false := hcond
          clear hcond
          refine vg_call (C := C_hall) rfl rfl (xs := [.i s0, .i s1, .i s2, .i n, .i (-1)]) rfl (fun hg => ?_) (fun rs hrs => ?_)
          ·
            exact trivial
          obtain ⟨r8, hr8, rfl⟩ := hall_res hrs
          clear hrs
          change Fm.holds _ _ (lk [.i s0, .i s1, .i s2, .i n, .i dir, .b r5, .b r6, .b r7, .b r8])
          refine ⟨fun hcond => ?_, fun hcond => ?_⟩
          ·
            have c9 : r8 = true := hcond
            clear hcond
            suffices hfin : ((-1)) = (turn s0 s1 s2 n dir) from (c_i hfin rfl)
            -- leaf 5 (ret)
            have e0 : IntKind.wrap .i64 (0 - dir) = -dir := by rw [wrap_in (by omega) (by omega)]; omega
            try rw [e0] at hr6
            simp_all [turn]
          ·
            have c10 : r8 = false := hcond
            clear hcond
            refine vg_call (C := C_near) rfl rfl (xs := [.i s0, .i s1, .i s2, .i n]) rfl (fun hg => ?_) (fun rs hrs => ?_)
            ·
              exact trivial
            obtain ⟨r9, hr9, rfl⟩ := near_res hrs
            clear hrs
            change Fm.holds _ _ (lk [.i s0, .i s1, .i s2, .i n, .i dir, .b r5, .b r6, .b r7, .b r8, .i r9])
            suffices hfin : (r9) = (turn s0 s1 s2 n dir) from (c_i hfin rfl)
            -- leaf 6 (ret)
            have e0 : IntKind.wrap .i64 (0 - dir) = -dir := by rw [wrap_in (by omega) (by omega)]; omega
            try rw [e0] at hr6
            simp_all [turn]
def C_planat : Ctr := ⟨[.agg [.int .u64, .int .u64, .int .u64], .one (.int .i64), .one (.int .i64)], [.agg [.bool, .int .i64, .int .i64]],
  fun | [.i _, .i _, .i _, .i _, .i _] => True | _ => False,
  fun | [.i s0, .i s1, .i s2, .i n, .i dir] => [.b (stopP s0 s1 s2 n dir), .i (dirP s0 s1 s2 n dir), .i (moveP s0 s1 s2 n dir)] | _ => []⟩
theorem planat_pre {ls : List Leaf} (h_ : C_planat.pre ls) : ∃ (s0 : Int) (s1 : Int) (s2 : Int) (n : Int) (dir : Int), ls = [.i s0, .i s1, .i s2, .i n, .i dir] := by
  unfold C_planat at h_; dsimp only at h_; split at h_
  · exact ⟨_, _, _, _, _, rfl⟩
  · exact h_.elim
theorem planat_res {s0 : Int} {s1 : Int} {s2 : Int} {n : Int} {dir : Int} {rs_ : List Leaf} (h_ : rs_ = C_planat.fn [.i s0, .i s1, .i s2, .i n, .i dir]) : ∃ (q0 : Bool) (q1 : Int) (q2 : Int), q0 = (stopP s0 s1 s2 n dir) ∧ q1 = (dirP s0 s1 s2 n dir) ∧ q2 = (moveP s0 s1 s2 n dir) ∧ rs_ = [.b q0, .i q1, .i q2] := ⟨_, _, _, rfl, rfl, rfl, h_⟩
def phi_planat : Fm := (.and (.imp (.ite (.ite (.ite (.lt (.v 3) (.i 0)) (.t .true) (.le (.i 64) (.v 3))) (.t .true) (.lt (.v 4) (.i (Int.negSucc 0)))) (.t .true) (.lt (.i 1) (.v 4))) .true (.ret [(.b (.t .false)), (.i (.i 0)), (.i (.i 0))])) (.imp (.ite (.ite (.ite (.lt (.v 3) (.i 0)) (.t .true) (.le (.i 64) (.v 3))) (.t .true) (.lt (.v 4) (.i (Int.negSucc 0)))) (.t .true) (.lt (.i 1) (.v 4))) .false (.call 80 [] [(.i (.v 0)), (.i (.v 1)), (.i (.v 2)), (.i (.v 3)), (.i (.v 4))] 5 (.call 30 [] [(.i (.v 0)), (.i (.v 1)), (.i (.v 2)), (.i (.v 3))] 6 (.call 31 [((.v 6), .false)] [(.i (.v 0)), (.i (.v 1)), (.i (.v 2)), (.i (.v 3)), (.i (.v 5))] 7 (.and (.imp (.ite (.v 6) (.t .true) (.v 7)) .false (.ret [(.b (.ite (.v 6) (.t .true) (.v 7))), (.i (.v 5)), (.i (.v 5))])) (.imp (.ite (.v 6) (.t .true) (.v 7)) .true (.ret [(.b (.ite (.v 6) (.t .true) (.v 7))), (.i (.v 5)), (.i (.i 0))]))))))))
def tbl_planat : List (Nat × Ctr) := [(30, C_at), (31, C_hall), (80, C_turn)]
theorem vc_planat : vcg Tryd.prog (sigT tbl_planat) [] Tryd.f63 C_planat.params C_planat.res = some phi_planat := by kernel_rfl
--SPLIT
theorem planat_sound : C_planat.Sound Tryd.prog G 63 := by
  refine fn_ok mixed stable tbl_planat [] Tryd.func63 (by kernel_rfl) phi_planat vc_planat ⟨at_sound, hall_sound, turn_sound, trivial⟩ (fun _ _ _ => False) (fun _ _ _ => 0) ?_
  intro ls hp
  obtain ⟨s0, s1, s2, n, dir, rfl⟩ := planat_pre hp
  clear hp
  rw [envOf_lk]
  unfold phi_planat
  refine ⟨fun hcond => ?_, fun hcond => ?_⟩
  ·
    have c1 : (if (if (if (decide (n < (0 : Int))) = true then true else (decide ((64 : Int) ≤ n))) = true then true else (decide (dir < (-1)))) = true then true else (decide ((1 : Int) < dir))) = true := hcond
    clear hcond
    suffices hfin : (false) = (stopP s0 s1 s2 n dir) ∧ ((0 : Int)) = (dirP s0 s1 s2 n dir) ∧ ((0 : Int)) = (moveP s0 s1 s2 n dir) from (c_b hfin.1 (c_i hfin.2.1 (c_i hfin.2.2 rfl)))
    -- leaf 1 (ret)
    have hok : okP n dir = false := by
      rw [okP_niff]; simp at c1; omega
    simp [stopP, dirP, moveP, hok]
  ·
    have c2 : (if (if (if (decide (n < (0 : Int))) = true then true else (decide ((64 : Int) ≤ n))) = true then true else (decide (dir < (-1)))) = true then true else (decide ((1 : Int) < dir))) = false := hcond
    clear hcond
    refine vg_call (C := C_turn) rfl rfl (xs := [.i s0, .i s1, .i s2, .i n, .i dir]) rfl (fun hg => ?_) (fun rs hrs => ?_)
    ·
      refine turn_mk ?_
      -- leaf 2 (pre)
      simp at c2; omega
    obtain ⟨r5, hr5, rfl⟩ := turn_res hrs
    clear hrs
    change Fm.holds _ _ (lk [.i s0, .i s1, .i s2, .i n, .i dir, .i r5])
    refine vg_call (C := C_at) rfl rfl (xs := [.i s0, .i s1, .i s2, .i n]) rfl (fun hg => ?_) (fun rs hrs => ?_)
    ·
      exact trivial
    obtain ⟨r6, hr6, rfl⟩ := at_res hrs
    clear hrs
    change Fm.holds _ _ (lk [.i s0, .i s1, .i s2, .i n, .i dir, .i r5, .b r6])
    refine vg_call (C := C_hall) rfl rfl (xs := [.i s0, .i s1, .i s2, .i n, .i r5]) rfl (fun hg => ?_) (fun rs hrs => ?_)
    ·
      exact trivial
    obtain ⟨r7, hr7, rfl⟩ := hall_res hrs
    clear hrs
    change Fm.holds _ _ (lk [.i s0, .i s1, .i s2, .i n, .i dir, .i r5, .b r6, .b r7])
    refine ⟨fun hcond => ?_, fun hcond => ?_⟩
    ·
      have c3 : (if r6 = true then true else r7) = false := hcond
      clear hcond
      suffices hfin : ((if r6 = true then true else r7)) = (stopP s0 s1 s2 n dir) ∧ (r5) = (dirP s0 s1 s2 n dir) ∧ (r5) = (moveP s0 s1 s2 n dir) from (c_b hfin.1 (c_i hfin.2.1 (c_i hfin.2.2 rfl)))
      -- leaf 3 (ret)
      have hok : okP n dir = true := by
        rw [okP_iff]; simp at c2; omega
      subst_vars
      cases h1 : isb s0 n <;> cases h2 : hallb s1 s2 n (turn s0 s1 s2 n dir) <;> simp_all [stopP, dirP, moveP]
    ·
      have c4 : (if r6 = true then true else r7) = true := hcond
      clear hcond
      suffices hfin : ((if r6 = true then true else r7)) = (stopP s0 s1 s2 n dir) ∧ (r5) = (dirP s0 s1 s2 n dir) ∧ ((0 : Int)) = (moveP s0 s1 s2 n dir) from (c_b hfin.1 (c_i hfin.2.1 (c_i hfin.2.2 rfl)))
      -- leaf 4 (ret)
      have hok : okP n dir = true := by
        rw [okP_iff]; simp at c2; omega
      subst_vars
      cases h1 : isb s0 n <;> cases h2 : hallb s1 s2 n (turn s0 s1 s2 n dir) <;> simp_all [stopP, dirP, moveP]
def C_rone : Ctr := ⟨[.one (.int .i64)], [.one (.int .u64)],
  fun | [.i _] => True | _ => False,
  fun | [.i n] => [.i (N (oneB n))] | _ => []⟩
theorem rone_pre {ls : List Leaf} (h_ : C_rone.pre ls) : ∃ (n : Int), ls = [.i n] := by
  unfold C_rone at h_; dsimp only at h_; split at h_
  · exact ⟨_, rfl⟩
  · exact h_.elim
theorem rone_res {n : Int} {rs_ : List Leaf} (h_ : rs_ = C_rone.fn [.i n]) : ∃ (q0 : Int), q0 = (N (oneB n)) ∧ rs_ = [.i q0] := ⟨_, rfl, h_⟩
def phi_rone : Fm := (.and (.imp (.ite (.lt (.v 0) (.i 0)) (.t .true) (.le (.i 64) (.v 0))) .true (.ret [(.i (.i 0))])) (.imp (.ite (.lt (.v 0) (.i 0)) (.t .true) (.le (.i 64) (.v 0))) .false (.ob [] (.le (.i 0) (.wrap .u64 (.v 0))) (.ret [(.i (.shl .u64 (.i 1) (.wrap .u64 (.v 0))))]))))
def tbl_rone : List (Nat × Ctr) := []
theorem vc_rone : vcg Tryd.prog (sigT tbl_rone) [] Tryd.f66 C_rone.params C_rone.res = some phi_rone := by kernel_rfl
--SPLIT
theorem rone_sound : C_rone.Sound Tryd.prog G 66 := by
  refine fn_ok mixed stable tbl_rone [] Tryd.func66 (by kernel_rfl) phi_rone vc_rone trivial (fun _ _ _ => False) (fun _ _ _ => 0) ?_
  intro ls hp
  obtain ⟨n, rfl⟩ := rone_pre hp
  clear hp
  rw [envOf_lk]
  unfold phi_rone
  refine ⟨fun hcond => ?_, fun hcond => ?_⟩
  ·
    have c1 : (if (decide (n < (0 : Int))) = true then true else (decide ((64 : Int) ≤ n))) = true := hcond
    clear hcond
    suffices hfin : ((0 : Int)) = (N (oneB n)) from (c_i hfin rfl)
    -- leaf 1 (ret)
    have : okf n = false := by rw [← Bool.not_eq_true, okf_iff]; simp at c1; omega
    simp [oneB, this, N_zero]
  ·
    have c2 : (if (decide (n < (0 : Int))) = true then true else (decide ((64 : Int) ≤ n))) = false := hcond
    clear hcond
    refine ⟨fun hg => ?_, ?_⟩
    ·
      show (decide ((0 : Int) ≤ (IntKind.wrap .u64 n))) = true
      -- leaf 2 (ob)
      simp at c2
      rw [wrap_u64]
      simp; omega
    suffices hfin : ((IntKind.wrap .u64 ((1 : Int) * 2 ^ (min (Int.toNat (IntKind.wrap .u64 n)) (IntKind.bits .u64))))) = (N (oneB n)) from (c_i hfin rfl)
    -- leaf 3 (ret)
    simp at c2
    have e : IntKind.wrap .u64 n = n := by rw [wrap_u64]; omega
    have : okf n = true := by rw [okf_iff]; omega
    rw [e, bv_shl]
    simp [oneB, this, B_one]
end Go.Proofs.YtchjajnhbipkmaaDoor
