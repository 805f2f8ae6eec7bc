import Derived.Test.YtppnpmpocnpgaaaVg
import Derived.Test.YtppnpmpocnpgaaaProg
namespace Go.Proofs.Ytppnpmpocnpgaaa
open Go.Vg
set_option linter.unusedVariables false
set_option linter.unusedSimpArgs false
theorem mixed : Try.prog.follows .mixedOrders = true := by kernel_rfl
def G : World → Prop := fun _ => True
theorem stable : Stable G := fun _ _ _ _ => trivial


abbrev B (x : Int) : BitVec 64 := BitVec.ofInt 64 x
def N (b : BitVec 64) : Int := (b.toNat : Int)
theorem N_range (b : BitVec 64) : 0 ≤ N b ∧ N b < 18446744073709551616 := by
  have := b.isLt
  unfold N; omega
theorem wrap_u64 {n : Int} : IntKind.wrap .u64 n = n % 18446744073709551616 := by
  simp [IntKind.wrap, IntKind.signed, IntKind.bits]
theorem wrap_N (b : BitVec 64) : IntKind.wrap .u64 (N b) = N b := by
  have := N_range b
  rw [wrap_u64]; omega
theorem B_N (b : BitVec 64) : B (N b) = b := by
  apply BitVec.eq_of_toNat_eq
  simp [B, N]
theorem N_B {x : Int} (h : 0 ≤ x) (h2 : x < 18446744073709551616) : N (B x) = x := by
  unfold N B
  rw [BitVec.toNat_ofInt]; omega
theorem N_inj {a b : BitVec 64} : N a = N b ↔ a = b := ⟨fun h => by rw [← B_N a, h, B_N], fun h => by rw [h]⟩
theorem bv_or (x y : Int) : bitv .or .u64 x y = N (B x ||| B y) := wrap_N _
theorem bv_and (x y : Int) : bitv .and .u64 x y = N (B x &&& B y) := wrap_N _
theorem bv_xor (x y : Int) : bitv .xor .u64 x y = N (B x ^^^ B y) := wrap_N _
theorem bv_andNot (x y : Int) : bitv .andNot .u64 x y = N (B x &&& ~~~ B y) := wrap_N _
theorem B_shl (x : Int) (n : Nat) : B (x * 2 ^ n) = B x <<< n := by
  apply BitVec.eq_of_toNat_eq
  rw [BitVec.toNat_shiftLeft, BitVec.toNat_ofInt, BitVec.toNat_ofInt, Nat.shiftLeft_eq]
  have e : ((2 ^ 64 : Nat) : Int) = 18446744073709551616 := by decide
  have e2 : (2 ^ 64 : Nat) = 18446744073709551616 := by decide
  have e3 : (2 : Int) ^ n = ((2 ^ n : Nat) : Int) := by simp
  rw [e, e2, e3]
  generalize 2 ^ n = m
  apply Int.ofNat_inj.1
  have h1 := Int.emod_nonneg x (show (18446744073709551616 : Int) ≠ 0 by decide)
  have h2 := Int.emod_nonneg (x * m) (show (18446744073709551616 : Int) ≠ 0 by decide)
  rw [Int.toNat_of_nonneg h2, Int.natCast_emod, Int.natCast_mul, Int.toNat_of_nonneg h1]
  show x * m % 18446744073709551616 = (x % 18446744073709551616) * m % 18446744073709551616
  rw [Int.mul_emod x m, Int.mul_emod (x % 18446744073709551616) m, Int.emod_emod_of_dvd x (Int.dvd_refl _)]
theorem bv_shl (x n : Int) : IntKind.wrap .u64 (x * 2 ^ (min n.toNat (IntKind.bits .u64))) = N (B x <<< n.toNat) := by
  have h : ∀ y : Int, IntKind.wrap .u64 y = N (B y) := fun y => by
    rw [wrap_u64]; unfold N B; rw [BitVec.toNat_ofInt]; omega
  rw [h, B_shl]
  congr 1
  simp only [IntKind.bits]
  by_cases hn : n.toNat ≤ 64
  · rw [Nat.min_eq_left hn]
  · rw [Nat.min_eq_right (by omega), BitVec.shiftLeft_eq_zero (by omega), BitVec.shiftLeft_eq_zero (by omega)]
theorem bv_shr (b : BitVec 64) (n : Int) : Int.fdiv (N b) (2 ^ (min n.toNat (IntKind.bits .u64))) = N (b >>> n.toNat) := by
  unfold N
  rw [BitVec.toNat_ushiftRight, Nat.shiftRight_eq_div_pow]
  simp only [IntKind.bits]
  have e3 : ∀ n : Nat, (2 : Int) ^ n = ((2 ^ n : Nat) : Int) := fun n => by simp
  rw [e3, Int.fdiv_eq_ediv_of_nonneg _ (Int.natCast_nonneg _)]
  by_cases hn : n.toNat ≤ 64
  · rw [Nat.min_eq_left hn]; rfl
  · rw [Nat.min_eq_right (by omega)]
    have := b.isLt
    have h2 : (2:Nat)^64 ≤ 2 ^ n.toNat := Nat.pow_le_pow_right (by omega) (by omega)
    rw [Nat.div_eq_of_lt (show b.toNat < 2 ^ n.toNat by omega)]
    have := Nat.div_eq_of_lt (show b.toNat < 2 ^ 64 by omega)
    omega
theorem shr_bit (x : Int) (n : Int) (h : 0 ≤ n) (h2 : n < 64) : (B (Int.fdiv x (2 ^ (min n.toNat (IntKind.bits .u64))))).getLsbD 0 = (B x).getLsbD n.toNat := by
  have e : min n.toNat (IntKind.bits .u64) = n.toNat := by simp [IntKind.bits]; omega
  rw [e]
  generalize hk : n.toNat = k
  have hk2 : k < 64 := by omega
  have e3 : (2 : Int) ^ k = ((2 ^ k : Nat) : Int) := by simp
  rw [e3, Int.fdiv_eq_ediv_of_nonneg _ (Int.natCast_nonneg _)]
  unfold B
  rw [← BitVec.testBit_toNat, ← BitVec.testBit_toNat, BitVec.toNat_ofInt, BitVec.toNat_ofInt, Nat.testBit_eq_decide_div_mod_eq, Nat.testBit_eq_decide_div_mod_eq]
  have e : ((2 ^ 64 : Nat) : Int) = 18446744073709551616 := by decide
  rw [e]
  have hp : 2 ^ k * 2 ^ (64 - k) = 2 ^ 64 := by rw [← Nat.pow_add]; congr 1; omega
  have hq : 2 ^ (64 - k) = 2 * 2 ^ (63 - k) := by rw [← Nat.pow_succ']; congr 1; omega
  have h0 : 0 < 2 ^ k := Nat.pos_of_ne_zero (by simp)
  generalize 2 ^ k = m at *
  generalize 2 ^ (63 - k) = q at *
  rw [hq] at hp
  have hx := Int.emod_add_mul_ediv x 18446744073709551616
  generalize x / 18446744073709551616 = c at hx
  have hr := Int.emod_nonneg x (show (18446744073709551616 : Int) ≠ 0 by decide)
  generalize x % 18446744073709551616 = r at *
  obtain ⟨r, rfl⟩ := Int.eq_ofNat_of_zero_le hr
  have hp2 : (m : Int) * (2 * q) = 18446744073709551616 := by
    have := congrArg (Int.ofNat) hp
    simpa using this
  have hd : x / (m : Int) = r / m + 2 * (q * c) := by
    rw [← hx, ← hp2, show (m : Int) * (2 * q) * c = m * (2 * (q * c)) by simp only [Int.mul_assoc], Int.add_mul_ediv_left _ _ (by omega)]
  rw [hd, show ((r : Int) / (m : Int)) = ((r / m : Nat) : Int) from rfl]
  generalize (q : Int) * c = z
  rw [Int.toNat_natCast, Nat.pow_zero, Nat.div_one]
  generalize r / m = w
  congr 1
  apply propext
  omega

def okf (n : Int) : Bool := decide (0 ≤ n) && decide (n < 64)
theorem okf_iff {n : Int} : okf n = true ↔ 0 ≤ n ∧ n < 64 := by simp [okf]
def isb (b n : Int) : Bool := okf n && (B b).getLsbD n.toNat
def oneB (n : Int) : BitVec 64 := if okf n = true then 1#64 <<< n.toNat else 0#64
def put1 (u fl : Int) (c : Bool) : Int := if c = true then N (B u ||| oneB fl) else u
def hallb (u d n dir : Int) : Bool := (dir == 1 && isb u n) || (dir == -1 && isb d n)
def allB (c u d : Int) : BitVec 64 := B c ||| B u ||| B d
def upB (c u d n : Int) : BitVec 64 := if n < 0 then allB c u d else if 63 ≤ n then 0#64 else allB c u d >>> (n + 1).toNat <<< (n + 1).toNat
def dnB (c u d n : Int) : BitVec 64 := if n < 0 then 0#64 else if 64 ≤ n then allB c u d else allB c u d &&& (1#64 <<< n.toNat - 1#64)
def above (c u d n : Int) : Bool := upB c u d n != 0#64
def below (c u d n : Int) : Bool := dnB c u d n != 0#64
def toward (c u d n dir : Int) : Bool := (dir == 1 && above c u d n) || (dir == -1 && below c u d n)
theorem B_one : B 1 = 1#64 := rfl
theorem B_zero : B 0 = 0#64 := rfl
theorem N_zero : N 0#64 = 0 := rfl
theorem N_eq_zero {b : BitVec 64} : (N b == (0 : Int)) = (b == 0#64) := by
  rw [Bool.eq_iff_iff]; simp only [beq_iff_eq]
  rw [← N_zero, N_inj]
theorem one_bit {k j : Nat} (h : k < 64) : (1#64 <<< k).getLsbD j = decide (j = k) := by
  rw [BitVec.getLsbD_shiftLeft, BitVec.getLsbD_one]
  rw [Bool.eq_iff_iff]; simp; omega
theorem oneB_bit {n : Int} {j : Nat} : (oneB n).getLsbD j = (okf n && decide (j = n.toNat)) := by
  unfold oneB
  split
  · rename_i h
    rw [okf_iff] at h
    rw [one_bit (by omega), (okf_iff).2 h, Bool.true_and]
  · rename_i h
    simp at h
    simp [h]
theorem and_oneB {b : BitVec 64} {n : Int} : (b &&& oneB n == 0#64) = !(okf n && b.getLsbD n.toNat) := by
  rw [Bool.eq_iff_iff]
  simp only [beq_iff_eq, Bool.not_eq_true']
  constructor
  · intro h
    have := congrArg (fun x => x.getLsbD n.toNat) h
    simp only [BitVec.getLsbD_and, oneB_bit, BitVec.getLsbD_zero] at this
    revert this
    cases okf n <;> simp
  · intro h
    apply BitVec.eq_of_getLsbD_eq
    intro i hi
    rw [BitVec.getLsbD_and, oneB_bit, BitVec.getLsbD_zero]
    by_cases hk : i = n.toNat
    · subst hk; revert h; cases okf n <;> simp
    · simp [hk]
theorem and_one_eq (b : BitVec 64) : (N (b &&& 1#64) == (1 : Int)) = b.getLsbD 0 := by
  rw [show ((1 : Int) = N 1#64) from rfl, Bool.eq_iff_iff]
  simp only [beq_iff_eq]
  rw [N_inj]
  constructor
  · intro h
    have := congrArg (fun x => x.getLsbD 0) h
    simpa [BitVec.getLsbD_and] using this
  · intro h
    apply BitVec.eq_of_getLsbD_eq
    intro i hi
    rw [BitVec.getLsbD_and, BitVec.getLsbD_one]
    by_cases hk : i = 0
    · subst hk; simp [h]
    · simp [hk]
theorem bv_sub (x y : Int) : IntKind.wrap .u64 (x - y) = N (B x - B y) := by
  rw [wrap_u64]
  unfold N
  have h := BitVec.toNat_sub (B x) (B y)
  rw [h]
  unfold B
  rw [BitVec.toNat_ofInt, BitVec.toNat_ofInt]; omega
theorem isb_bit {b : Int} {n : Int} (h : 0 ≤ n) (h2 : n < 64) : isb b n = (B b).getLsbD n.toNat := by simp [isb, okf, h, h2]
theorem isb_no {b : Int} {n : Int} (h : n < 0 ∨ 64 ≤ n) : isb b n = false := by simp [isb, okf]; omega
theorem put1_bit {u fl : Int} {c : Bool} {n : Int} : isb (put1 u fl c) n = (isb u n || (c && okf fl && decide (n = fl))) := by
  unfold put1 isb
  cases c <;> simp
  rw [B_N, BitVec.getLsbD_or, oneB_bit]
  rw [Bool.eq_iff_iff]; simp [okf]; grind
theorem put1_twice {u fl : Int} {c : Bool} : put1 (put1 u fl c) fl c = put1 u fl c := by
  unfold put1
  cases c <;> simp
  rw [B_N, N_inj]
  apply BitVec.eq_of_getLsbD_eq
  intro i hi
  simp [BitVec.getLsbD_or]
/-- The first k floors of a list, as car calls. -/
def ofCar (l : LV) : Nat → Int
  | 0 => 0
  | k + 1 => put1 (ofCar l k) (l.gi k 0) (okf (l.gi k 0))
def ofUp (l : LV) : Nat → Int
  | 0 => 0
  | k + 1 => put1 (ofUp l k) (l.gi k 0) (okf (l.gi k 0) && l.gi k 1 == 1)
def ofDn (l : LV) : Nat → Int
  | 0 => 0
  | k + 1 => put1 (ofDn l k) (l.gi k 0) (okf (l.gi k 0) && l.gi k 1 == -1)


theorem hall_put {s1 s2 fl dir n d : Int} : hallb (put1 s1 fl (okf fl && dir == 1)) (put1 s2 fl (okf fl && dir == -1)) n d = (hallb s1 s2 n d || (okf fl && decide (n = fl) && (d == dir) && (d == 1 || d == -1))) := by
  unfold hallb
  rw [put1_bit, put1_bit]
  generalize isb s1 n = a
  generalize isb s2 n = b
  by_cases h1 : d = 1
  · subst h1
    by_cases h2 : dir = 1
    · subst h2; simp
    · have : ((1 : Int) == dir) = false := by simp; omega
      simp [this]
      omega
  · by_cases h3 : d = -1
    · subst h3
      by_cases h2 : dir = -1
      · subst h2; simp
      · have : ((-1 : Int) == dir) = false := by simp; omega
        simp [this]
        omega
    · have t1 : (d == 1) = false := by simp [h1]
      have t2 : (d == -1) = false := by simp [h3]
      rw [t1, t2]
      simp
theorem hall_self {s1 s2 n d : Int} : (hallb s1 s2 n d || (okf n && decide (n = n) && (d == d) && (d == 1 || d == -1))) = (okf n && (d == 1 || d == -1)) := by
  unfold hallb isb
  cases okf n <;> cases (d == 1) <;> cases (d == -1) <;> simp

def C_okf : Ctr := ⟨[.one (.int .i64)], [.one (.bool)],
  fun | [.i _] => True | _ => False,
  fun | [.i n] => [.b (okf n)] | _ => []⟩
theorem okf_pre {ls : List Leaf} (h_ : C_okf.pre ls) : ∃ (n : Int), ls = [.i n] := by
  unfold C_okf at h_; dsimp only at h_; split at h_
  · exact ⟨_, rfl⟩
  · exact h_.elim
theorem okf_res {n : Int} {rs_ : List Leaf} (h_ : rs_ = C_okf.fn [.i n]) : ∃ (q0 : Bool), q0 = (okf n) ∧ rs_ = [.b q0] := ⟨_, rfl, h_⟩
def phi_okf : Fm := (.ret [(.b (.ite (.le (.i 0) (.v 0)) (.lt (.v 0) (.i 64)) (.t .false)))])
def tbl_okf : List (Nat × Ctr) := []
theorem vc_okf : vcg Try.prog (sigT tbl_okf) [] Try.f10 C_okf.params C_okf.res = some phi_okf := by kernel_rfl
--SPLIT
theorem okf_sound : C_okf.Sound Try.prog G 10 := by
  refine fn_ok mixed stable tbl_okf [] Try.func10 (by kernel_rfl) phi_okf vc_okf trivial (fun _ _ _ => False) (fun _ _ _ => 0) ?_
  intro ls hp
  obtain ⟨n, rfl⟩ := okf_pre hp
  clear hp
  rw [envOf_lk]
  unfold phi_okf
  suffices hfin : ((if (decide ((0 : Int) ≤ n)) = true then (decide (n < (64 : Int))) else false)) = (okf n) from (c_b hfin rfl)
  -- leaf 1 (ret)
  simp only [okf]
  grind
def C_isb : Ctr := ⟨[.one (.int .u64), .one (.int .i64)], [.one (.bool)],
  fun | [.i _, .i _] => True | _ => False,
  fun | [.i b, .i n] => [.b (isb b n)] | _ => []⟩
theorem isb_pre {ls : List Leaf} (h_ : C_isb.pre ls) : ∃ (b : Int) (n : Int), ls = [.i b, .i n] := by
  unfold C_isb at h_; dsimp only at h_; split at h_
  · exact ⟨_, _, rfl⟩
  · exact h_.elim
theorem isb_res {b : Int} {n : Int} {rs_ : List Leaf} (h_ : rs_ = C_isb.fn [.i b, .i n]) : ∃ (q0 : Bool), q0 = (isb b n) ∧ rs_ = [.b q0] := ⟨_, rfl, h_⟩
def phi_isb : Fm := (.call 10 [] [(.i (.v 1))] 2 (.ob [((.v 2), .true)] (.le (.i 0) (.v 1)) (.ret [(.b (.ite (.v 2) (.eq (.bit .and .u64 (.shr .u64 (.v 0) (.v 1)) (.i 1)) (.i 1)) (.t .false)))])))
def tbl_isb : List (Nat × Ctr) := [(10, C_okf)]
theorem vc_isb : vcg Try.prog (sigT tbl_isb) [] Try.f11 C_isb.params C_isb.res = some phi_isb := by kernel_rfl
--SPLIT
theorem isb_sound : C_isb.Sound Try.prog G 11 := by
  refine fn_ok mixed stable tbl_isb [] Try.func11 (by kernel_rfl) phi_isb vc_isb ⟨okf_sound, trivial⟩ (fun _ _ _ => False) (fun _ _ _ => 0) ?_
  intro ls hp
  obtain ⟨b, n, rfl⟩ := isb_pre hp
  clear hp
  rw [envOf_lk]
  unfold phi_isb
  refine vg_call (C := C_okf) rfl rfl (xs := [.i n]) rfl (fun hg => ?_) (fun rs hrs => ?_)
  ·
    exact trivial
  obtain ⟨r2, hr2, rfl⟩ := okf_res hrs
  clear hrs
  change Fm.holds _ _ (lk [.i b, .i n, .b r2])
  refine ⟨fun hg => ?_, ?_⟩
  ·
    simp only [gd_cons, gd_nil, and_true] at hg
    replace hg : r2 = true := hg
    show (decide ((0 : Int) ≤ n)) = true
    -- leaf 1 (ob)
    subst_vars
    rw [okf_iff] at *
    simp; omega
  suffices hfin : ((if r2 = true then ((bitv .and .u64 (Int.fdiv b (2 ^ (min (Int.toNat n) (IntKind.bits .u64)))) (1 : Int)) == (1 : Int)) else false)) = (isb b n) from (c_b hfin rfl)
  -- leaf 2 (ret)
  subst_vars
  unfold isb
  cases h : okf n
  · simp
  · rw [okf_iff] at h
    simp only [bv_and, and_one_eq, B_one, if_true, Bool.true_and]
    rw [shr_bit _ _ h.1 h.2]
def C_put : Ctr := ⟨[.agg [.int .u64, .int .u64, .int .u64], .agg [.int .i64, .int .i64]], [.agg [.int .u64, .int .u64, .int .u64]],
  fun | [.i _, .i _, .i _, .i _, .i _] => True | _ => False,
  fun | [.i s0, .i s1, .i s2, .i fl, .i dir] => [.i (s0), .i (put1 s1 fl (okf fl && dir == 1)), .i (put1 s2 fl (okf fl && dir == -1))] | _ => []⟩
theorem put_pre {ls : List Leaf} (h_ : C_put.pre ls) : ∃ (s0 : Int) (s1 : Int) (s2 : Int) (fl : Int) (dir : Int), ls = [.i s0, .i s1, .i s2, .i fl, .i dir] := by
  unfold C_put at h_; dsimp only at h_; split at h_
  · exact ⟨_, _, _, _, _, rfl⟩
  · exact h_.elim
theorem put_res {s0 : Int} {s1 : Int} {s2 : Int} {fl : Int} {dir : Int} {rs_ : List Leaf} (h_ : rs_ = C_put.fn [.i s0, .i s1, .i s2, .i fl, .i dir]) : ∃ (q0 : Int) (q1 : Int) (q2 : Int), q0 = (s0) ∧ q1 = (put1 s1 fl (okf fl && dir == 1)) ∧ q2 = (put1 s2 fl (okf fl && dir == -1)) ∧ rs_ = [.i q0, .i q1, .i q2] := ⟨_, _, _, rfl, rfl, rfl, h_⟩
def phi_put : Fm := (.call 10 [] [(.i (.v 3))] 5 (.and (.imp (.v 5) .false (.ret [(.i (.v 0)), (.i (.v 1)), (.i (.v 2))])) (.imp (.v 5) .true (.and (.imp (.eq (.v 4) (.i 1)) .true (.ob [] (.le (.i 0) (.v 3)) (.ret [(.i (.v 0)), (.i (.bit .or .u64 (.v 1) (.shl .u64 (.i 1) (.v 3)))), (.i (.v 2))]))) (.imp (.eq (.v 4) (.i 1)) .false (.and (.imp (.eq (.v 4) (.i (Int.negSucc 0))) .true (.ob [] (.le (.i 0) (.v 3)) (.ret [(.i (.v 0)), (.i (.v 1)), (.i (.bit .or .u64 (.v 2) (.shl .u64 (.i 1) (.v 3))))]))) (.imp (.eq (.v 4) (.i (Int.negSucc 0))) .false (.ret [(.i (.v 0)), (.i (.v 1)), (.i (.v 2))]))))))))
def tbl_put : List (Nat × Ctr) := [(10, C_okf)]
theorem vc_put : vcg Try.prog (sigT tbl_put) [] Try.f5 C_put.params C_put.res = some phi_put := by kernel_rfl
--SPLIT
theorem put_sound : C_put.Sound Try.prog G 5 := by
  refine fn_ok mixed stable tbl_put [] Try.func5 (by kernel_rfl) phi_put vc_put ⟨okf_sound, trivial⟩ (fun _ _ _ => False) (fun _ _ _ => 0) ?_
  intro ls hp
  obtain ⟨s0, s1, s2, fl, dir, rfl⟩ := put_pre hp
  clear hp
  rw [envOf_lk]
  unfold phi_put
  refine vg_call (C := C_okf) rfl rfl (xs := [.i fl]) rfl (fun hg => ?_) (fun rs hrs => ?_)
  ·
    exact trivial
  obtain ⟨r5, hr5, rfl⟩ := okf_res hrs
  clear hrs
  change Fm.holds _ _ (lk [.i s0, .i s1, .i s2, .i fl, .i dir, .b r5])
  refine ⟨fun hcond => ?_, fun hcond => ?_⟩
  ·
    have c1 : r5 = false := hcond
    clear hcond
    suffices hfin : (s0) = (s0) ∧ (s1) = (put1 s1 fl (okf fl && dir == 1)) ∧ (s2) = (put1 s2 fl (okf fl && dir == -1)) from (c_i hfin.1 (c_i hfin.2.1 (c_i hfin.2.2 rfl)))
    -- leaf 1 (ret)
    subst_vars
    simp only [put1, bv_or, bv_shl, B_N, B_one]
    simp_all [oneB]
  ·
    have c2 : r5 = true := hcond
    clear hcond
    refine ⟨fun hcond => ?_, fun hcond => ?_⟩
    ·
      have c3 : (dir == (1 : Int)) = true := hcond
      clear hcond
      refine ⟨fun hg => ?_, ?_⟩
      ·
        show (decide ((0 : Int) ≤ fl)) = true
        -- leaf 2 (ob)
        subst_vars
        rw [okf_iff] at *
        simp; omega
      suffices hfin : (s0) = (s0) ∧ ((bitv .or .u64 s1 (IntKind.wrap .u64 ((1 : Int) * 2 ^ (min (Int.toNat fl) (IntKind.bits .u64)))))) = (put1 s1 fl (okf fl && dir == 1)) ∧ (s2) = (put1 s2 fl (okf fl && dir == -1)) from (c_i hfin.1 (c_i hfin.2.1 (c_i hfin.2.2 rfl)))
      -- leaf 3 (ret)
      subst_vars
      simp only [put1, bv_or, bv_shl, B_N, B_one]
      simp_all [oneB]
    ·
      have c4 : (dir == (1 : Int)) = false := hcond
      clear hcond
      refine ⟨fun hcond => ?_, fun hcond => ?_⟩
      ·
        have c5 : (dir == (-1)) = true := hcond
        clear hcond
        refine ⟨fun hg => ?_, ?_⟩
        ·
          show (decide ((0 : Int) ≤ fl)) = true
          -- leaf 4 (ob)
          subst_vars
          rw [okf_iff] at *
          simp; omega
        suffices hfin : (s0) = (s0) ∧ (s1) = (put1 s1 fl (okf fl && dir == 1)) ∧ ((bitv .or .u64 s2 (IntKind.wrap .u64 ((1 : Int) * 2 ^ (min (Int.toNat fl) (IntKind.bits .u64)))))) = (put1 s2 fl (okf fl && dir == -1)) from (c_i hfin.1 (c_i hfin.2.1 (c_i hfin.2.2 rfl)))
        -- leaf 5 (ret)
        subst_vars
        simp only [put1, bv_or, bv_shl, B_N, B_one]
        simp_all [oneB]
      ·
        have c6 : (dir == (-1)) = false := hcond
        clear hcond
        suffices hfin : (s0) = (s0) ∧ (s1) = (put1 s1 fl (okf fl && dir == 1)) ∧ (s2) = (put1 s2 fl (okf fl && dir == -1)) from (c_i hfin.1 (c_i hfin.2.1 (c_i hfin.2.2 rfl)))
        -- leaf 6 (ret)
        subst_vars
        simp only [put1, bv_or, bv_shl, B_N, B_one]
        simp_all [oneB]
def C_at : Ctr := ⟨[.agg [.int .u64, .int .u64, .int .u64], .one (.int .i64)], [.one (.bool)],
  fun | [.i _, .i _, .i _, .i _] => True | _ => False,
  fun | [.i s0, .i _, .i _, .i n] => [.b (isb s0 n)] | _ => []⟩
theorem at_pre {ls : List Leaf} (h_ : C_at.pre ls) : ∃ (s0 : Int) (s1 : Int) (s2 : Int) (n : Int), ls = [.i s0, .i s1, .i s2, .i n] := by
  unfold C_at at h_; dsimp only at h_; split at h_
  · exact ⟨_, _, _, _, rfl⟩
  · exact h_.elim
theorem at_res {s0 : Int} {s1 : Int} {s2 : Int} {n : Int} {rs_ : List Leaf} (h_ : rs_ = C_at.fn [.i s0, .i s1, .i s2, .i n]) : ∃ (q0 : Bool), q0 = (isb s0 n) ∧ rs_ = [.b q0] := ⟨_, rfl, h_⟩
def phi_at : Fm := (.call 11 [] [(.i (.v 0)), (.i (.v 3))] 4 (.ret [(.b (.v 4))]))
def tbl_at : List (Nat × Ctr) := [(11, C_isb)]
theorem vc_at : vcg Try.prog (sigT tbl_at) [] Try.f7 C_at.params C_at.res = some phi_at := by kernel_rfl
--SPLIT
theorem at_sound : C_at.Sound Try.prog G 7 := by
  refine fn_ok mixed stable tbl_at [] Try.func7 (by kernel_rfl) phi_at vc_at ⟨isb_sound, trivial⟩ (fun _ _ _ => False) (fun _ _ _ => 0) ?_
  intro ls hp
  obtain ⟨s0, s1, s2, n, rfl⟩ := at_pre hp
  clear hp
  rw [envOf_lk]
  unfold phi_at
  refine vg_call (C := C_isb) rfl rfl (xs := [.i s0, .i n]) rfl (fun hg => ?_) (fun rs hrs => ?_)
  ·
    exact trivial
  obtain ⟨r4, hr4, rfl⟩ := isb_res hrs
  clear hrs
  change Fm.holds _ _ (lk [.i s0, .i s1, .i s2, .i n, .b r4])
  suffices hfin : (r4) = (isb s0 n) from (c_b hfin rfl)
  -- leaf 1 (ret)
  subst_vars
  simp
def C_hall : Ctr := ⟨[.agg [.int .u64, .int .u64, .int .u64], .one (.int .i64), .one (.int .i64)], [.one (.bool)],
  fun | [.i _, .i _, .i _, .i _, .i _] => True | _ => False,
  fun | [.i _, .i s1, .i s2, .i n, .i dir] => [.b (hallb s1 s2 n dir)] | _ => []⟩
theorem hall_pre {ls : List Leaf} (h_ : C_hall.pre ls) : ∃ (s0 : Int) (s1 : Int) (s2 : Int) (n : Int) (dir : Int), ls = [.i s0, .i s1, .i s2, .i n, .i dir] := by
  unfold C_hall at h_; dsimp only at h_; split at h_
  · exact ⟨_, _, _, _, _, rfl⟩
  · exact h_.elim
theorem hall_res {s0 : Int} {s1 : Int} {s2 : Int} {n : Int} {dir : Int} {rs_ : List Leaf} (h_ : rs_ = C_hall.fn [.i s0, .i s1, .i s2, .i n, .i dir]) : ∃ (q0 : Bool), q0 = (hallb s1 s2 n dir) ∧ rs_ = [.b q0] := ⟨_, rfl, h_⟩
def phi_hall : Fm := (.call 11 [((.eq (.v 4) (.i 1)), .true)] [(.i (.v 1)), (.i (.v 3))] 5 (.call 11 [((.eq (.v 4) (.i (Int.negSucc 0))), .true), ((.ite (.eq (.v 4) (.i 1)) (.v 5) (.t .false)), .false)] [(.i (.v 2)), (.i (.v 3))] 6 (.ret [(.b (.ite (.ite (.eq (.v 4) (.i 1)) (.v 5) (.t .false)) (.t .true) (.ite (.eq (.v 4) (.i (Int.negSucc 0))) (.v 6) (.t .false))))])))
def tbl_hall : List (Nat × Ctr) := [(11, C_isb)]
theorem vc_hall : vcg Try.prog (sigT tbl_hall) [] Try.f6 C_hall.params C_hall.res = some phi_hall := by kernel_rfl
--SPLIT
theorem hall_sound : C_hall.Sound Try.prog G 6 := by
  refine fn_ok mixed stable tbl_hall [] Try.func6 (by kernel_rfl) phi_hall vc_hall ⟨isb_sound, trivial⟩ (fun _ _ _ => False) (fun _ _ _ => 0) ?_
  intro ls hp
  obtain ⟨s0, s1, s2, n, dir, rfl⟩ := hall_pre hp
  clear hp
  rw [envOf_lk]
  unfold phi_hall
  refine vg_call (C := C_isb) rfl rfl (xs := [.i s1, .i n]) rfl (fun hg => ?_) (fun rs hrs => ?_)
  ·
    exact trivial
  obtain ⟨r5, hr5, rfl⟩ := isb_res hrs
  clear hrs
  change Fm.holds _ _ (lk [.i s0, .i s1, .i s2, .i n, .i dir, .b r5])
  refine vg_call (C := C_isb) rfl rfl (xs := [.i s2, .i n]) rfl (fun hg => ?_) (fun rs hrs => ?_)
  ·
    exact trivial
  obtain ⟨r6, hr6, rfl⟩ := isb_res hrs
  clear hrs
  change Fm.holds _ _ (lk [.i s0, .i s1, .i s2, .i n, .i dir, .b r5, .b r6])
  suffices hfin : ((if (if (dir == (1 : Int)) = true then r5 else false) = true then true else (if (dir == (-1)) = true then r6 else false))) = (hallb s1 s2 n dir) from (c_b hfin rfl)
  -- leaf 1 (ret)
  subst_vars
  simp only [hallb]
  grind
def C_all : Ctr := ⟨[.agg [.int .u64, .int .u64, .int .u64]], [.one (.int .u64)],
  fun | [.i _, .i _, .i _] => True | _ => False,
  fun | [.i s0, .i s1, .i s2] => [.i (N (allB s0 s1 s2))] | _ => []⟩
theorem all_pre {ls : List Leaf} (h_ : C_all.pre ls) : ∃ (s0 : Int) (s1 : Int) (s2 : Int), ls = [.i s0, .i s1, .i s2] := by
  unfold C_all at h_; dsimp only at h_; split at h_
  · exact ⟨_, _, _, rfl⟩
  · exact h_.elim
theorem all_res {s0 : Int} {s1 : Int} {s2 : Int} {rs_ : List Leaf} (h_ : rs_ = C_all.fn [.i s0, .i s1, .i s2]) : ∃ (q0 : Int), q0 = (N (allB s0 s1 s2)) ∧ rs_ = [.i q0] := ⟨_, rfl, h_⟩
def phi_all : Fm := (.ret [(.i (.bit .or .u64 (.bit .or .u64 (.v 0) (.v 1)) (.v 2)))])
def tbl_all : List (Nat × Ctr) := []
theorem vc_all : vcg Try.prog (sigT tbl_all) [] Try.f13 C_all.params C_all.res = some phi_all := by kernel_rfl
--SPLIT
theorem all_sound : C_all.Sound Try.prog G 13 := by
  refine fn_ok mixed stable tbl_all [] Try.func13 (by kernel_rfl) phi_all vc_all trivial (fun _ _ _ => False) (fun _ _ _ => 0) ?_
  intro ls hp
  obtain ⟨s0, s1, s2, rfl⟩ := all_pre hp
  clear hp
  rw [envOf_lk]
  unfold phi_all
  suffices hfin : ((bitv .or .u64 (bitv .or .u64 s0 s1) s2)) = (N (allB s0 s1 s2)) from (c_i hfin rfl)
  -- leaf 1 (ret)
  simp only [bv_or, B_N, allB]
def C_up : Ctr := ⟨[.agg [.int .u64, .int .u64, .int .u64], .one (.int .i64)], [.one (.int .u64)],
  fun | [.i _, .i _, .i _, .i _] => True | _ => False,
  fun | [.i s0, .i s1, .i s2, .i n] => [.i (N (upB s0 s1 s2 n))] | _ => []⟩
theorem up_pre {ls : List Leaf} (h_ : C_up.pre ls) : ∃ (s0 : Int) (s1 : Int) (s2 : Int) (n : Int), ls = [.i s0, .i s1, .i s2, .i n] := by
  unfold C_up at h_; dsimp only at h_; split at h_
  · exact ⟨_, _, _, _, rfl⟩
  · exact h_.elim
theorem up_res {s0 : Int} {s1 : Int} {s2 : Int} {n : Int} {rs_ : List Leaf} (h_ : rs_ = C_up.fn [.i s0, .i s1, .i s2, .i n]) : ∃ (q0 : Int), q0 = (N (upB s0 s1 s2 n)) ∧ rs_ = [.i q0] := ⟨_, rfl, h_⟩
def phi_up : Fm := (.and (.imp (.lt (.v 3) (.i 0)) .true (.call 13 [] [(.i (.v 0)), (.i (.v 1)), (.i (.v 2))] 4 (.ret [(.i (.v 4))]))) (.imp (.lt (.v 3) (.i 0)) .false (.and (.imp (.le (.i 63) (.v 3)) .true (.ret [(.i (.i 0))])) (.imp (.le (.i 63) (.v 3)) .false (.call 13 [] [(.i (.v 0)), (.i (.v 1)), (.i (.v 2))] 4 (.ob [] (.le (.i 0) (.wrap .i64 (.add (.v 3) (.i 1)))) (.ret [(.i (.shl .u64 (.shr .u64 (.v 4) (.wrap .i64 (.add (.v 3) (.i 1)))) (.wrap .i64 (.add (.v 3) (.i 1)))))])))))))
def tbl_up : List (Nat × Ctr) := [(13, C_all)]
theorem vc_up : vcg Try.prog (sigT tbl_up) [] Try.f12 C_up.params C_up.res = some phi_up := by kernel_rfl
--SPLIT
theorem up_sound : C_up.Sound Try.prog G 12 := by
  refine fn_ok mixed stable tbl_up [] Try.func12 (by kernel_rfl) phi_up vc_up ⟨all_sound, trivial⟩ (fun _ _ _ => False) (fun _ _ _ => 0) ?_
  intro ls hp
  obtain ⟨s0, s1, s2, n, rfl⟩ := up_pre hp
  clear hp
  rw [envOf_lk]
  unfold phi_up
  refine ⟨fun hcond => ?_, fun hcond => ?_⟩
  ·
    have c1 : (decide (n < (0 : Int))) = true := hcond
    clear hcond
    refine vg_call (C := C_all) rfl rfl (xs := [.i s0, .i s1, .i s2]) rfl (fun hg => ?_) (fun rs hrs => ?_)
    ·
      exact trivial
    obtain ⟨r4, hr4, rfl⟩ := all_res hrs
    clear hrs
    change Fm.holds _ _ (lk [.i s0, .i s1, .i s2, .i n, .i r4])
    suffices hfin : (r4) = (N (upB s0 s1 s2 n)) from (c_i hfin rfl)
    -- leaf 1 (ret)
    subst_vars
    simp_all [upB]
  ·
    have c2 : (decide (n < (0 : Int))) = false := hcond
    clear hcond
    refine ⟨fun hcond => ?_, fun hcond => ?_⟩
    ·
      have c3 : (decide ((63 : Int) ≤ n)) = true := hcond
      clear hcond
      suffices hfin : ((0 : Int)) = (N (upB s0 s1 s2 n)) from (c_i hfin rfl)
      -- leaf 2 (ret)
      subst_vars
      have c3 := of_decide_eq_true c3
      have : ¬ n < 0 := by omega
      simp [upB, this, c3, N_zero]
    ·
      have c4 : (decide ((63 : Int) ≤ n)) = false := hcond
      clear hcond
      refine vg_call (C := C_all) rfl rfl (xs := [.i s0, .i s1, .i s2]) rfl (fun hg => ?_) (fun rs hrs => ?_)
      ·
        exact trivial
      obtain ⟨r4, hr4, rfl⟩ := all_res hrs
      clear hrs
      change Fm.holds _ _ (lk [.i s0, .i s1, .i s2, .i n, .i r4])
      refine ⟨fun hg => ?_, ?_⟩
      ·
        show (decide ((0 : Int) ≤ (IntKind.wrap .i64 (n + (1 : Int))))) = true
        -- leaf 3 (ob)
        have c2 := of_decide_eq_false c2
        have c4 := of_decide_eq_false c4
        rw [wrap_in (by omega) (by omega)]
        simp; omega
      suffices hfin : ((IntKind.wrap .u64 ((Int.fdiv r4 (2 ^ (min (Int.toNat (IntKind.wrap .i64 (n + (1 : Int)))) (IntKind.bits .u64)))) * 2 ^ (min (Int.toNat (IntKind.wrap .i64 (n + (1 : Int)))) (IntKind.bits .u64))))) = (N (upB s0 s1 s2 n)) from (c_i hfin rfl)
      -- leaf 4 (ret)
      have c2 := of_decide_eq_false c2
      have c4 := of_decide_eq_false c4
      subst_vars
      rw [wrap_in (by omega) (by omega), bv_shr, bv_shl, B_N]
      simp [upB, show ¬ n < 0 by omega, show ¬ 63 ≤ n by omega]
def C_above : Ctr := ⟨[.agg [.int .u64, .int .u64, .int .u64], .one (.int .i64)], [.one (.bool)],
  fun | [.i _, .i _, .i _, .i _] => True | _ => False,
  fun | [.i s0, .i s1, .i s2, .i n] => [.b (above s0 s1 s2 n)] | _ => []⟩
theorem above_pre {ls : List Leaf} (h_ : C_above.pre ls) : ∃ (s0 : Int) (s1 : Int) (s2 : Int) (n : Int), ls = [.i s0, .i s1, .i s2, .i n] := by
  unfold C_above at h_; dsimp only at h_; split at h_
  · exact ⟨_, _, _, _, rfl⟩
  · exact h_.elim
theorem above_res {s0 : Int} {s1 : Int} {s2 : Int} {n : Int} {rs_ : List Leaf} (h_ : rs_ = C_above.fn [.i s0, .i s1, .i s2, .i n]) : ∃ (q0 : Bool), q0 = (above s0 s1 s2 n) ∧ rs_ = [.b q0] := ⟨_, rfl, h_⟩
def phi_above : Fm := (.call 12 [] [(.i (.v 0)), (.i (.v 1)), (.i (.v 2)), (.i (.v 3))] 4 (.ret [(.b (.not (.eq (.v 4) (.i 0))))]))
def tbl_above : List (Nat × Ctr) := [(12, C_up)]
theorem vc_above : vcg Try.prog (sigT tbl_above) [] Try.f9 C_above.params C_above.res = some phi_above := by kernel_rfl
--SPLIT
theorem above_sound : C_above.Sound Try.prog G 9 := by
  refine fn_ok mixed stable tbl_above [] Try.func9 (by kernel_rfl) phi_above vc_above ⟨up_sound, trivial⟩ (fun _ _ _ => False) (fun _ _ _ => 0) ?_
  intro ls hp
  obtain ⟨s0, s1, s2, n, rfl⟩ := above_pre hp
  clear hp
  rw [envOf_lk]
  unfold phi_above
  refine vg_call (C := C_up) rfl rfl (xs := [.i s0, .i s1, .i s2, .i n]) rfl (fun hg => ?_) (fun rs hrs => ?_)
  ·
    exact trivial
  obtain ⟨r4, hr4, rfl⟩ := up_res hrs
  clear hrs
  change Fm.holds _ _ (lk [.i s0, .i s1, .i s2, .i n, .i r4])
  suffices hfin : ((!(r4 == (0 : Int)))) = (above s0 s1 s2 n) from (c_b hfin rfl)
  -- leaf 1 (ret)
  subst_vars
  simp [above, N_eq_zero, bne]
def C_of : Ctr := ⟨[.one (.lst [.int .i64]), .one (.lst [.int .i64, .int .i64, .int .i64])], [.agg [.int .u64, .int .u64, .int .u64]],
  fun | [.l f, .l l] => (f.len : Int) ≤ 1000000 ∧ (l.len : Int) ≤ 1000000 | _ => False,
  fun | [.l f, .l l] => [.i (ofCar f f.len), .i (ofUp l l.len), .i (ofDn l l.len)] | _ => []⟩
theorem of_pre {ls : List Leaf} (h_ : C_of.pre ls) : ∃ (f : LV) (l : LV), ls = [.l f, .l l] ∧ ((f.len : Int) ≤ 1000000 ∧ (l.len : Int) ≤ 1000000) := by
  unfold C_of at h_; dsimp only at h_; split at h_
  · exact ⟨_, _, rfl, h_⟩
  · exact h_.elim
theorem of_mk {f : LV} {l : LV} (h_ : (f.len : Int) ≤ 1000000 ∧ (l.len : Int) ≤ 1000000) : C_of.pre [.l f, .l l] := h_
theorem of_res {f : LV} {l : LV} {rs_ : List Leaf} (h_ : rs_ = C_of.fn [.l f, .l l]) : ∃ (q0 : Int) (q1 : Int) (q2 : Int), q0 = (ofCar f f.len) ∧ q1 = (ofUp l l.len) ∧ q2 = (ofDn l l.len) ∧ rs_ = [.i q0, .i q1, .i q2] := ⟨_, _, _, rfl, rfl, rfl, h_⟩
def inv_of_3 (f : LV) (i : Int) (c : Int) : Prop := 0 ≤ i ∧ i ≤ (f.len : Int) ∧ c = ofCar f i.toNat
def meas_of_3 (f : LV) (i : Int) (c : Int) : Nat := ((f.len : Int) - i).toNat
def inv_of_9 (f : LV) (l : LV) (i : Int) (c : Int) (u : Int) (d : Int) : Prop := 0 ≤ i ∧ i ≤ (l.len : Int) ∧ c = ofCar f f.len ∧ u = ofUp l i.toNat ∧ d = ofDn l i.toNat
def meas_of_9 (f : LV) (l : LV) (i : Int) (c : Int) (u : Int) (d : Int) : Nat := ((l.len : Int) - i).toNat
def phi_of : Fm := (.loop 3 2 [0] [(.i (.i 0)), (.i (.i 0))] [.false, .false] (.and (.imp (.lt (.v 2) (.len 0)) .true (.ob [] (.le (.i 0) (.v 2)) (.call 10 [] [(.i (.gi 0 0 (.v 2)))] 4 (.and (.imp (.v 4) .true (.ob [] (.le (.i 0) (.gi 0 0 (.v 2))) (.back 3 2 4 [0] [(.i (.wrap .i64 (.add (.v 2) (.i 1)))), (.i (.bit .or .u64 (.v 3) (.shl .u64 (.i 1) (.gi 0 0 (.v 2)))))]))) (.imp (.v 4) .false (.back 3 2 4 [0] [(.i (.wrap .i64 (.add (.v 2) (.i 1)))), (.i (.v 3))])))))) (.imp (.lt (.v 2) (.len 0)) .false (.loop 9 4 [0, 1] [(.i (.i 0)), (.i (.v 3)), (.i (.i 0)), (.i (.i 0))] [.false, .false, .false, .false] (.and (.imp (.lt (.v 4) (.len 1)) .true (.ob [] (.le (.i 0) (.v 4)) (.call 5 [] [(.i (.v 5)), (.i (.v 6)), (.i (.v 7)), (.i (.gi 1 0 (.v 4))), (.i (.gi 1 1 (.v 4)))] 8 (.back 9 4 8 [0, 1] [(.i (.wrap .i64 (.add (.v 4) (.i 1)))), (.i (.v 8)), (.i (.v 9)), (.i (.v 10))])))) (.imp (.lt (.v 4) (.len 1)) .false (.ret [(.i (.v 5)), (.i (.v 6)), (.i (.v 7))])))))))
def tbl_of : List (Nat × Ctr) := [(5, C_put), (10, C_okf)]
def inv_of : List Leaf → Nat → List Leaf → Prop := fun _ key xs => match key, xs with
  | 3, [.l f, .i i, .i c] => inv_of_3 f i c
  | 9, [.l f, .l l, .i i, .i c, .i u, .i d] => inv_of_9 f l i c u d
  | _, _ => False
def meas_of : List Leaf → Nat → List Leaf → Nat := fun _ key xs => match key, xs with
  | 3, [.l f, .i i, .i c] => meas_of_3 f i c
  | 9, [.l f, .l l, .i i, .i c, .i u, .i d] => meas_of_9 f l i c u d
  | _, _ => 0
theorem vc_of : vcg Try.prog (sigT tbl_of) [⟨3, [7, 13, 14, 15, 16, 17, 18, 19, 20, 21, 22, 23, 24], [12], [(1, 0)], [0]⟩, ⟨9, [9, 28, 29, 30, 31, 32, 33, 34, 35], [27], [(1, 0), (1, 1), (1, 2)], [0, 1]⟩] Try.f8 C_of.params C_of.res = some phi_of := by kernel_rfl
--SPLIT
theorem of_sound : C_of.Sound Try.prog G 8 := by
  refine fn_ok mixed stable tbl_of [⟨3, [7, 13, 14, 15, 16, 17, 18, 19, 20, 21, 22, 23, 24], [12], [(1, 0)], [0]⟩, ⟨9, [9, 28, 29, 30, 31, 32, 33, 34, 35], [27], [(1, 0), (1, 1), (1, 2)], [0, 1]⟩] Try.func8 (by kernel_rfl) phi_of vc_of ⟨put_sound, okf_sound, trivial⟩ inv_of meas_of ?_
  intro ls hp
  obtain ⟨f, l, rfl, hpre⟩ := of_pre hp
  clear hp
  rw [envOf_lk]
  unfold phi_of
  refine vg_loop rfl ?_ (fun xs hfit hi => ?_)
  ·
    show inv_of_3 f (0 : Int) (0 : Int)
    -- leaf 1 (init)
    exact ⟨by omega, by omega, rfl⟩
  obtain ⟨x2, xs0, rfl, hfit0⟩ := fits_i hfit
  obtain ⟨x3, xs1, rfl, hfit1⟩ := fits_i hfit0
  obtain rfl := fits_nil hfit1
  clear hfit hfit0 hfit1
  replace hi : inv_of_3 f x2 x3 := hi
  have hi3 := hi; clear hi
  change Fm.holds _ _ (lk [.l f, .l l, .i x2, .i x3])
  obtain ⟨i0, i1, i2⟩ := hi3
  have e1 : IntKind.wrap .i64 (x2 + 1) = x2 + 1 := wrap_in (by omega) (by omega)
  have e2 : (x2 + 1).toNat = x2.toNat + 1 := by omega
  refine ⟨fun hcond => ?_, fun hcond => ?_⟩
  ·
    have c1 : (decide (x2 < (f.len : Int))) = true := hcond
    clear hcond
    refine ⟨fun hg => ?_, ?_⟩
    ·
      show (decide ((0 : Int) ≤ x2)) = true
      -- leaf 2 (ob)
      simp; omega
    refine vg_call (C := C_okf) rfl rfl (xs := [.i (f.gi (Int.toNat x2) 0)]) rfl (fun hg => ?_) (fun rs hrs => ?_)
    ·
      exact trivial
    obtain ⟨r4, hr4, rfl⟩ := okf_res hrs
    clear hrs
    change Fm.holds _ _ (lk [.l f, .l l, .i x2, .i x3, .b r4])
    refine ⟨fun hcond => ?_, fun hcond => ?_⟩
    ·
      have c2 : r4 = true := hcond
      clear hcond
      refine ⟨fun hg => ?_, ?_⟩
      ·
        show (decide ((0 : Int) ≤ (f.gi (Int.toNat x2) 0))) = true
        -- leaf 3 (ob)
        rw [hr4, okf_iff] at c2
        simp; omega
      refine ⟨?_, ?_⟩
      ·
        show inv_of_3 f (IntKind.wrap .i64 (x2 + (1 : Int))) (bitv .or .u64 x3 (IntKind.wrap .u64 ((1 : Int) * 2 ^ (min (Int.toNat (f.gi (Int.toNat x2) 0)) (IntKind.bits .u64)))))
        -- leaf 4 (back)
        have hlt := of_decide_eq_true c1
        rw [hr4] at c2
        rw [e1]
        refine ⟨by omega, by omega, ?_⟩
        rw [e2, ofCar, put1, oneB]
        rw [bv_shl, bv_or, B_N, B_one, ← i2]
        simp [c2]
      ·
        show meas_of_3 f (IntKind.wrap .i64 (x2 + (1 : Int))) (bitv .or .u64 x3 (IntKind.wrap .u64 ((1 : Int) * 2 ^ (min (Int.toNat (f.gi (Int.toNat x2) 0)) (IntKind.bits .u64))))) < meas_of_3 f x2 x3
        -- leaf 5 (meas)
        first
        | (have hlt := of_decide_eq_true c1; unfold meas_of_3; rw [e1]; omega)
        | (have hlt := of_decide_eq_true c5; unfold meas_of_9; rw [e3]; omega)
    ·
      have c3 : r4 = false := hcond
      clear hcond
      refine ⟨?_, ?_⟩
      ·
        show inv_of_3 f (IntKind.wrap .i64 (x2 + (1 : Int))) x3
        -- leaf 6 (back)
        have hlt := of_decide_eq_true c1
        rw [hr4] at c3
        rw [e1]
        refine ⟨by omega, by omega, ?_⟩
        rw [e2, ofCar, put1]
        simp [c3, i2]
      ·
        show meas_of_3 f (IntKind.wrap .i64 (x2 + (1 : Int))) x3 < meas_of_3 f x2 x3
        -- leaf 7 (meas)
        first
        | (have hlt := of_decide_eq_true c1; unfold meas_of_3; rw [e1]; omega)
        | (have hlt := of_decide_eq_true c5; unfold meas_of_9; rw [e3]; omega)
  ·
    have c4 : (decide (x2 < (f.len : Int))) = false := hcond
    clear hcond
    refine vg_loop rfl ?_ (fun xs hfit hi => ?_)
    ·
      show inv_of_9 f l (0 : Int) x3 (0 : Int) (0 : Int)
      -- leaf 8 (init)
      have hlt := of_decide_eq_false c4
      refine ⟨by omega, by omega, ?_, rfl, rfl⟩
      have : x2.toNat = f.len := by omega
      rw [i2, this]
    obtain ⟨x4, xs0, rfl, hfit0⟩ := fits_i hfit
    obtain ⟨x5, xs1, rfl, hfit1⟩ := fits_i hfit0
    obtain ⟨x6, xs2, rfl, hfit2⟩ := fits_i hfit1
    obtain ⟨x7, xs3, rfl, hfit3⟩ := fits_i hfit2
    obtain rfl := fits_nil hfit3
    clear hfit hfit0 hfit1 hfit2 hfit3
    replace hi : inv_of_9 f l x4 x5 x6 x7 := hi
    have hi9 := hi; clear hi
    change Fm.holds _ _ (lk [.l f, .l l, .i x2, .i x3, .i x4, .i x5, .i x6, .i x7])
    obtain ⟨k0, k1, k2, k3, k4⟩ := hi9
    have e3 : IntKind.wrap .i64 (x4 + 1) = x4 + 1 := wrap_in (by omega) (by omega)
    have e4 : (x4 + 1).toNat = x4.toNat + 1 := by omega
    refine ⟨fun hcond => ?_, fun hcond => ?_⟩
    ·
      have c5 : (decide (x4 < (l.len : Int))) = true := hcond
      clear hcond
      refine ⟨fun hg => ?_, ?_⟩
      ·
        show (decide ((0 : Int) ≤ x4)) = true
        -- leaf 9 (ob)
        simp; omega
      refine vg_call (C := C_put) rfl rfl (xs := [.i x5, .i x6, .i x7, .i (l.gi (Int.toNat x4) 0), .i (l.gi (Int.toNat x4) 1)]) rfl (fun hg => ?_) (fun rs hrs => ?_)
      ·
        exact trivial
      obtain ⟨r8, r9, r10, hr8, hr9, hr10, rfl⟩ := put_res hrs
      clear hrs
      change Fm.holds _ _ (lk [.l f, .l l, .i x2, .i x3, .i x4, .i x5, .i x6, .i x7, .i r8, .i r9, .i r10])
      refine ⟨?_, ?_⟩
      ·
        show inv_of_9 f l (IntKind.wrap .i64 (x4 + (1 : Int))) r8 r9 r10
        -- leaf 10 (back)
        have hlt := of_decide_eq_true c5
        rw [e3]
        refine ⟨by omega, by omega, by rw [hr8, k2], ?_, ?_⟩
        · rw [e4, ofUp, hr9, k3]
        · rw [e4, ofDn, hr10, k4]
      ·
        show meas_of_9 f l (IntKind.wrap .i64 (x4 + (1 : Int))) r8 r9 r10 < meas_of_9 f l x4 x5 x6 x7
        -- leaf 11 (meas)
        first
        | (have hlt := of_decide_eq_true c1; unfold meas_of_3; rw [e1]; omega)
        | (have hlt := of_decide_eq_true c5; unfold meas_of_9; rw [e3]; omega)
    ·
      have c6 : (decide (x4 < (l.len : Int))) = false := hcond
      clear hcond
      suffices hfin : (x5) = (ofCar f f.len) ∧ (x6) = (ofUp l l.len) ∧ (x7) = (ofDn l l.len) from (c_i hfin.1 (c_i hfin.2.1 (c_i hfin.2.2 rfl)))
      -- leaf 12 (ret)
      have hlt := of_decide_eq_false c6
      have : x4.toNat = l.len := by omega
      rw [k2, k3, k4, this]
      exact ⟨rfl, rfl, rfl⟩
def C_first14 : Ctr := ⟨[], [.one (.bool)],
  fun | [] => True | _ => False,
  fun | [] => [.b (true)] | _ => []⟩
theorem first14_pre {ls : List Leaf} (h_ : C_first14.pre ls) : ls = [] := by
  unfold C_first14 at h_; dsimp only at h_; split at h_
  · rfl
  · exact h_.elim
theorem first14_res  {rs_ : List Leaf} (h_ : rs_ = C_first14.fn []) : ∃ (q0 : Bool), q0 = (true) ∧ rs_ = [.b q0] := ⟨_, rfl, h_⟩
def phi_first14 : Fm := (.call 8 [] [(.c 1 (.osl 0 1) [(.int .i64 (.i 3))]), (.c 3 .nilsl [])] 0 (.call 7 [] [(.i (.v 0)), (.i (.v 1)), (.i (.v 2)), (.i (.i 3))] 3 (.call 9 [((.v 3), .true)] [(.i (.v 0)), (.i (.v 1)), (.i (.v 2)), (.i (.i 2))] 4 (.call 9 [((.ite (.v 3) (.v 4) (.t .false)), .true)] [(.i (.v 0)), (.i (.v 1)), (.i (.v 2)), (.i (.i 3))] 5 (.ret [(.b (.ite (.ite (.v 3) (.v 4) (.t .false)) (.not (.v 5)) (.t .false)))])))))
def tbl_first14 : List (Nat × Ctr) := [(7, C_at), (8, C_of), (9, C_above)]
theorem vc_first14 : vcg Try.prog (sigT tbl_first14) [] Try.f4 C_first14.params C_first14.res = some phi_first14 := by kernel_rfl
--SPLIT
theorem first14_sound : C_first14.Sound Try.prog G 4 := by
  refine fn_ok mixed stable tbl_first14 [] Try.func4 (by kernel_rfl) phi_first14 vc_first14 ⟨at_sound, of_sound, above_sound, trivial⟩ (fun _ _ _ => False) (fun _ _ _ => 0) ?_
  intro ls hp
  obtain rfl := first14_pre hp
  clear hp
  rw [envOf_lk]
  unfold phi_first14
  refine vg_call (C := C_of) rfl rfl (xs := [_, _]) rfl (fun hg => ?_) (fun rs hrs => ?_)
  ·
    refine of_mk ?_
    -- leaf 1 (pre)
    constructor <;> decide
  obtain ⟨r0, r1, r2, hr0, hr1, hr2, rfl⟩ := of_res hrs
  clear hrs
  change Fm.holds _ _ (lk [.i r0, .i r1, .i r2])
  refine vg_call (C := C_at) rfl rfl (xs := [.i r0, .i r1, .i r2, .i (3 : Int)]) rfl (fun hg => ?_) (fun rs hrs => ?_)
  ·
    exact trivial
  obtain ⟨r3, hr3, rfl⟩ := at_res hrs
  clear hrs
  change Fm.holds _ _ (lk [.i r0, .i r1, .i r2, .b r3])
  refine vg_call (C := C_above) rfl rfl (xs := [.i r0, .i r1, .i r2, .i (2 : Int)]) rfl (fun hg => ?_) (fun rs hrs => ?_)
  ·
    exact trivial
  obtain ⟨r4, hr4, rfl⟩ := above_res hrs
  clear hrs
  change Fm.holds _ _ (lk [.i r0, .i r1, .i r2, .b r3, .b r4])
  refine vg_call (C := C_above) rfl rfl (xs := [.i r0, .i r1, .i r2, .i (3 : Int)]) rfl (fun hg => ?_) (fun rs hrs => ?_)
  ·
    exact trivial
  obtain ⟨r5, hr5, rfl⟩ := above_res hrs
  clear hrs
  change Fm.holds _ _ (lk [.i r0, .i r1, .i r2, .b r3, .b r4, .b r5])
  suffices hfin : ((if (if r3 = true then r4 else false) = true then (!r5) else false)) = (true) from (c_b hfin rfl)
  -- leaf 2 (ret)
  subst_vars
  decide +kernel
end Go.Proofs.Ytppnpmpocnpgaaa
