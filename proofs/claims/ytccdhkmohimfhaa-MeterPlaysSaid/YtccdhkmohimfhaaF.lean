import Derived.Test.YtccdhkmohimfhaaVg
import Derived.Test.YtccdhkmohimfhaaProg
import Derived.Tactics
import Derived.Tactics2
import Derived.Laws.Pointers
import Derived.Laws.LoneSync
import Derived.RegionTactic
import Derived.RegionCalls
namespace Go.Proofs.Ytccdhkmohimfhaa
open Go.Vg
set_option linter.unusedVariables false
set_option linter.unusedSimpArgs false
theorem mixed : Try.prog.follows .mixedOrders = true := by kernel_rfl
def G : World → Prop := fun _ => True
theorem stable : Stable G := fun _ _ _ _ => trivial
open Go

def number (n b : Int) : Int := n % b
theorem number_cases (n b : Int) (h : 0 < b) : (Int.tmod n b = n % b ∧ True) ∨ (Int.tmod n b = n % b - b ∧ True) := by
  have h1 := @Int.tmod_eq_emod n b
  split at h1
  · exact .inl ⟨by omega, trivial⟩
  · exact .inr ⟨by rw [h1, Int.natAbs_of_nonneg (by omega)], trivial⟩
theorem number_range (n : Int) {b : Int} (h : 0 < b) : 0 ≤ number n b ∧ number n b < b := ⟨Int.emod_nonneg _ (by omega), Int.emod_lt_of_pos _ h⟩


def kindB (k : Int) : Bool := decide (1 ≤ k) && decide (k ≤ 11)
def addM (m : LV) (k : Int) : LV := if kindB k = true then m.upd k (IntKind.wrap .i64 (m.gi k.toNat 0 + 1)) else m
def zeroTo (m : LV) (k : Int) : LV := ⟨m.len, fun i c => if (i : Int) < k ∧ c = 0 then 0 else m.gi i c, m.gb⟩
def sumTo (m : LV) : Nat → Int
  | 0 => 0
  | k + 1 => IntKind.wrap .i64 (sumTo m k + m.gi k 0)
def mostTo (m : LV) : Nat → Int
  | 0 => 0
  | k + 1 => if m.gi (mostTo m k).toNat 0 < m.gi k 0 then (k : Int) else mostTo m k
theorem kindB_iff {k : Int} : kindB k = true ↔ 1 ≤ k ∧ k ≤ 11 := by simp [kindB]
theorem mostTo_range (m : LV) : ∀ k : Nat, 0 ≤ mostTo m k ∧ (mostTo m k = 0 ∨ mostTo m k < k)
  | 0 => by simp [mostTo]
  | k + 1 => by
    have := mostTo_range m k
    rw [mostTo]
    split <;> omega
theorem zeroTo_zero (m : LV) : zeroTo m 0 = m := by
  cases m
  simp only [zeroTo, LV.mk.injEq, true_and, and_true]
  funext i c
  rw [if_neg (by omega)]
theorem zeroTo_step (m : LV) (k : Int) (h : 0 ≤ k) : (zeroTo m k).upd k 0 = zeroTo m (k + 1) := by
  simp only [zeroTo, LV.upd, LV.mk.injEq, true_and, and_true]
  funext i c
  by_cases hc : c = 0
  · subst hc
    simp only [and_true]
    by_cases h1 : i = k.toNat
    · rw [if_pos h1, if_pos (by omega)]
    · rw [if_neg h1]
      by_cases h2 : (i : Int) < k
      · rw [if_pos h2, if_pos (by omega)]
      · rw [if_neg h2, if_neg (by omega)]
  · simp [hc]


theorem load_calls (b off : Nat) (x : Int) (w : World) (h0 : w.cell? ⟨b, off, none⟩ = some (.int .i64 x)) :
    Calls Try.prog 15 #[.pointer (some ⟨b, off, none⟩)] w fun e w' => e = .returned (.int .i64 x) ∧ w' = w := by
  have hl := run_call_load (P := Try.prog) Try.func18 (by kernel_rfl) (by kernel_rfl) (by kernel_rfl) .i64 (by kernel_rfl) h0
  go_enter Try.func15, Try.ntmps15
  go_wp2
  go_ret
  exact ⟨rfl, rfl⟩
theorem add_calls (b off : Nat) (x d s : Int) (hs : s = IntKind.wrap .i64 (x + d)) (w : World) (h0 : w.cell? ⟨b, off, none⟩ = some (.int .i64 x)) (hz : w.frozen? ⟨b, off, none⟩ = false) :
    Calls Try.prog 14 #[.pointer (some ⟨b, off, none⟩), .int .i64 d] w fun e w' => e = .returned (.int .i64 s) ∧ w' = w.setCell ⟨b, off, none⟩ (.int .i64 s) := by
  have hl := run_call_add (P := Try.prog) Try.func17 (by kernel_rfl) (by kernel_rfl) (by kernel_rfl) .i64 (by kernel_rfl) (y := d) (s := s) h0 hz (by rw [hs]; simp only [Op.intArith]; simp)
  clear hs
  go_enter Try.func14, Try.ntmps14
  go_wp2
  go_ret
  exact ⟨rfl, rfl⟩

theorem store_calls (b off : Nat) (x d : Int) (w : World) (h0 : w.cell? ⟨b, off, none⟩ = some (.int .i64 x)) (hz : w.frozen? ⟨b, off, none⟩ = false) :
    Calls Try.prog 16 #[.pointer (some ⟨b, off, none⟩), .int .i64 d] w fun e w' => e = .returned (.tuple #[]) ∧ w' = w.setCell ⟨b, off, none⟩ (.int .i64 d) := by
  have hst := run_call_store (P := Try.prog) Try.func19 (by kernel_rfl) (by kernel_rfl) (by kernel_rfl) (by kernel_rfl) (k := .i64) (y := d) h0 hz
  go_enter Try.func16, Try.ntmps16
  go_wp2
  go_end0
  exact ⟨rfl, rfl⟩


def psum (m : LV) : Nat → Int
  | 0 => 0
  | k + 1 => psum m k + m.gi k 0
def okM (m : LV) (B : Int) : Prop := B ≤ 100000 ∧ m.gi 0 0 = 0 ∧ ∀ j : Nat, 0 ≤ m.gi j 0 ∧ m.gi j 0 ≤ B
theorem zeros12 (ρ : Env) (i c : Nat) : (cellsLV ρ 1 [CV.int .i64 (Ex.i 0), CV.int .i64 (Ex.i 0), CV.int .i64 (Ex.i 0), CV.int .i64 (Ex.i 0), CV.int .i64 (Ex.i 0), CV.int .i64 (Ex.i 0), CV.int .i64 (Ex.i 0), CV.int .i64 (Ex.i 0), CV.int .i64 (Ex.i 0), CV.int .i64 (Ex.i 0), CV.int .i64 (Ex.i 0), CV.int .i64 (Ex.i 0)]).gi i c = 0 := by
  have key : ∀ (l : List CV) (k : Nat), (∀ x, x ∈ l → x = .int .i64 (.i 0)) → CV.intv ρ (l.getD k .nilp) = 0 := fun l k h => by
    rw [List.getD_eq_getElem?_getD]
    cases hk : l[k]? with
    | none => rfl
    | some x => rw [h x (List.mem_of_getElem? hk)]; rfl
  exact key _ _ (by simp)
theorem psum_range {m : LV} {B : Int} (h : okM m B) : ∀ k : Nat, 0 ≤ psum m k ∧ psum m k ≤ B * k
  | 0 => by simp [psum]
  | k + 1 => by
    have h1 := psum_range h k
    have h2 := h.2.2 k
    rw [psum]
    constructor
    · omega
    · have : B * ((k + 1 : Nat) : Int) = B * (k : Int) + B := by rw [Int.natCast_add, Int.mul_add]; simp
      omega
theorem sumTo_eq {m : LV} {B : Int} (h : okM m B) : ∀ k : Nat, k ≤ 12 → sumTo m k = psum m k
  | 0, _ => rfl
  | k + 1, hk => by
    have h1 := psum_range h (k + 1)
    have h2 : B * ((k + 1 : Nat) : Int) ≤ 100000 * 12 := Int.mul_le_mul h.1 (by omega) (by omega) (by omega)
    rw [sumTo, sumTo_eq h k (by omega)]
    rw [psum] at h1 ⊢
    exact wrap_in (by omega) (by omega)
theorem addM_gi {m : LV} {B k : Int} (h : okM m B) (hk : 1 ≤ k ∧ k ≤ 11) (j : Nat) : (addM m k).gi j 0 = m.gi j 0 + (if (j : Int) = k then 1 else 0) := by
  have h1 := h.2.2 k.toNat
  have h0 := h.1
  unfold addM
  rw [if_pos (kindB_iff.2 hk), wrap_in (by omega) (by omega)]
  simp only [LV.upd, and_true]
  by_cases hj : j = k.toNat
  · rw [if_pos hj, if_pos (by omega), hj]
  · rw [if_neg hj, if_neg (by omega)]; omega
theorem addM_ok {m : LV} {B k : Int} (h : okM m B) (hk : 1 ≤ k ∧ k ≤ 11) (hB : B + 1 ≤ 100000) : okM (addM m k) (B + 1) := by
  refine ⟨hB, ?_, fun j => ?_⟩
  · rw [addM_gi h hk, h.2.1, if_neg (by omega)]; rfl
  · rw [addM_gi h hk]
    have := h.2.2 j
    split <;> omega
theorem psum_add {m : LV} {B k : Int} (h : okM m B) (hk : 1 ≤ k ∧ k ≤ 11) : ∀ n : Nat, psum (addM m k) n = psum m n + (if k < n then 1 else 0)
  | 0 => by rw [psum, psum, if_neg (by omega)]; rfl
  | n + 1 => by
    rw [psum, psum, psum_add h hk n, addM_gi h hk]
    by_cases h1 : (n : Int) = k
    · rw [if_pos h1, if_neg (by omega), if_pos (by omega)]; omega
    · rw [if_neg h1]
      by_cases h2 : k < n
      · rw [if_pos h2, if_pos (by omega)]; omega
      · rw [if_neg h2, if_neg (by omega)]; omega
theorem psum_zero {m : LV} (h : ∀ j : Nat, m.gi j 0 = 0) : ∀ n : Nat, psum m n = 0
  | 0 => rfl
  | n + 1 => by rw [psum, psum_zero h n, h n]; rfl
theorem okM_zero {m : LV} (h : ∀ j : Nat, m.gi j 0 = 0) : okM m 0 := ⟨by omega, h 0, fun j => by rw [h j]; omega⟩
theorem zeroTo_gi (m : LV) (j : Nat) (h : j < 12) : (zeroTo m 12).gi j 0 = 0 := by
  simp only [zeroTo]
  rw [if_pos ⟨by omega, trivial⟩]
theorem mostTo_zero {m : LV} (h : ∀ j : Nat, j < 12 → m.gi j 0 = 0) : ∀ n : Nat, n ≤ 12 → mostTo m n = 0
  | 0, _ => rfl
  | n + 1, hn => by
    rw [mostTo, mostTo_zero h n (by omega), h n (by omega)]
    rw [show (0 : Int).toNat = 0 from rfl, h 0 (by omega)]
    rw [if_neg (by omega)]
theorem mostTo_spec (m : LV) : ∀ n : Nat, ∀ j : Nat, j < n → m.gi j 0 ≤ m.gi (mostTo m n).toNat 0 ∧ ((j : Int) < mostTo m n → m.gi j 0 < m.gi (mostTo m n).toNat 0)
  | 0, j, h => by omega
  | n + 1, j, h => by
    have hr := mostTo_range m n
    rw [mostTo]
    by_cases hc : m.gi (mostTo m n).toNat 0 < m.gi n 0
    · rw [if_pos hc]
      rw [show (n : Int).toNat = n from rfl]
      rcases Nat.lt_or_ge j n with hj | hj
      · have := mostTo_spec m n j hj
        omega
      · have : j = n := by omega
        subst this
        omega
    · rw [if_neg hc]
      rcases Nat.lt_or_ge j n with hj | hj
      · exact mostTo_spec m n j hj
      · have : j = n := by omega
        subst this
        refine ⟨by omega, fun h => by omega⟩
theorem mostTo_congr {m o : LV} (h : ∀ j : Nat, m.gi j 0 = o.gi j 0) : ∀ n : Nat, mostTo m n = mostTo o n
  | 0 => rfl
  | n + 1 => by rw [mostTo, mostTo, mostTo_congr h n, h, h]
theorem psum_congr {m o : LV} (h : ∀ j : Nat, m.gi j 0 = o.gi j 0) : ∀ n : Nat, psum m n = psum o n
  | 0 => rfl
  | n + 1 => by rw [psum, psum, psum_congr h n, h]
theorem sumTo_congr {m o : LV} (h : ∀ j : Nat, j < 12 → m.gi j 0 = o.gi j 0) : ∀ n : Nat, n ≤ 12 → sumTo m n = sumTo o n
  | 0, _ => rfl
  | n + 1, hn => by rw [sumTo, sumTo, sumTo_congr h n (by omega), h n (by omega)]
theorem sumTo_zero {m : LV} (h : ∀ j : Nat, j < 12 → m.gi j 0 = 0) : ∀ n : Nat, n ≤ 12 → sumTo m n = 0
  | 0, _ => rfl
  | n + 1, hn => by rw [sumTo, sumTo_zero h n (by omega), h n (by omega)]; rfl
theorem psum_ge {m : LV} {B : Int} (h : okM m B) : ∀ n j : Nat, j < n → m.gi j 0 ≤ psum m n
  | 0, j, hj => by omega
  | n + 1, j, hj => by
    rw [psum]
    have h1 := (psum_range h n).1
    have h2 := (h.2.2 n).1
    rcases Nat.lt_or_ge j n with h3 | h3
    · have := psum_ge h n j h3; omega
    · have : j = n := by omega
      subst this
      omega
theorem most_psum {m : LV} {B : Int} (h : okM m B) : (0 < mostTo m 12) ↔ 0 < psum m 12 := by
  have hr := mostTo_range m 12
  have hs := mostTo_spec m 12
  constructor
  · intro hp
    have h1 := (hs 0 (by omega)).2 (by simpa using hp)
    rw [h.2.1] at h1
    have := psum_ge h 12 (mostTo m 12).toNat (by omega)
    omega
  · intro hp
    rcases hr.2 with h0 | h0
    · exfalso
      have : psum m 12 = 0 := by
        have key : ∀ n : Nat, n ≤ 12 → psum m n = 0 := by
          intro n
          induction n with
          | zero => intro _; rfl
          | succ n ih =>
            intro hn
            have h1 := (hs n (by omega)).1
            rw [h0, show (0 : Int).toNat = 0 from rfl, h.2.1] at h1
            have h2 := (h.2.2 n).1
            rw [psum, ih (by omega)]
            omega
        exact key 12 (by omega)
      omega
    · rcases Int.lt_or_le 0 (mostTo m 12) with h1 | h1
      · exact h1
      · exfalso
        have h2 : mostTo m 12 = 0 := by omega
        have key : ∀ n : Nat, n ≤ 12 → psum m n = 0 := by
          intro n
          induction n with
          | zero => intro _; rfl
          | succ n ih =>
            intro hn
            have h1 := (hs n (by omega)).1
            rw [h2, show (0 : Int).toNat = 0 from rfl, h.2.1] at h1
            have h3 := (h.2.2 n).1
            rw [psum, ih (by omega)]
            omega
        have := key 12 (by omega)
        omega
theorem okM_congr {m o : LV} {B : Int} (h : okM m B) (e : ∀ j : Nat, m.gi j 0 = o.gi j 0) : okM o B := ⟨h.1, by rw [← e]; exact h.2.1, fun j => by rw [← e]; exact h.2.2 j⟩
theorem okM_le {m : LV} {B C : Int} (h : okM m B) (hc : B ≤ C) (h2 : C ≤ 100000) : okM m C := ⟨h2, h.2.1, fun j => by have := h.2.2 j; omega⟩
theorem add_both {m n : LV} {B k : Int} (h : okM m B) (e : ∀ j : Nat, m.gi j 0 = n.gi j 0) (hk : 1 ≤ k ∧ k ≤ 11) (j : Nat) : (addM m k).gi j 0 = (n.upd k (IntKind.wrap .i64 (n.gi k.toNat 0 + 1))).gi j 0 := by
  have h2 : n.upd k (IntKind.wrap .i64 (n.gi k.toNat 0 + 1)) = addM n k := by unfold addM; rw [if_pos (kindB_iff.2 hk)]
  rw [h2, addM_gi h hk, addM_gi (okM_congr h e) hk, e]
theorem add_far {m : LV} {B k : Int} (h : okM m B) (hz : ∀ j : Nat, 12 ≤ j → m.gi j 0 = 0) (hk : 1 ≤ k ∧ k ≤ 11) (j : Nat) (hj : 12 ≤ j) : (addM m k).gi j 0 = 0 := by
  rw [addM_gi h hk, hz j hj, if_neg (by omega)]; rfl
theorem zeroTo_all {m : LV} (hz : ∀ j : Nat, 12 ≤ j → m.gi j 0 = 0) (j : Nat) : (zeroTo m 12).gi j 0 = 0 := by
  rcases Nat.lt_or_ge j 12 with h | h
  · exact zeroTo_gi m j h
  · simp only [zeroTo]
    rw [if_neg (by omega)]
    exact hz j h
theorem inner_init {m : LV} {B : Int} (h : okM m B) : psum m (Int.toNat 1) = 0 ∧ mostTo m (Int.toNat 1) = 0 := by
  refine ⟨?_, ?_⟩
  · show psum m 1 = 0
    rw [psum, psum, h.2.1]; rfl
  · show mostTo m 1 = 0
    rw [mostTo, mostTo, if_neg (by simp)]
theorem most_cond {m n : LV} {B k mo : Int} (h : okM m B) (e : ∀ j : Nat, m.gi j 0 = n.gi j 0) (hk : 1 ≤ k ∧ k ≤ 11) (hmo : mo = mostTo m k.toNat) :
    (if (decide ((0 : Int) < n.gi k.toNat 0)) = true then (if (mo == (0 : Int)) = true then true else (decide (n.gi mo.toNat 0 < n.gi k.toNat 0))) else false) = decide (m.gi mo.toNat 0 < m.gi k.toNat 0) := by
  rw [← e, ← e]
  have h0 := (h.2.2 mo.toNat).1
  by_cases h1 : (0 : Int) < m.gi k.toNat 0
  · rw [if_pos (decide_eq_true h1)]
    by_cases h2 : mo = 0
    · subst h2
      rw [if_pos (by simp), show (0 : Int).toNat = 0 from rfl, h.2.1]
      exact (decide_eq_true h1).symm
    · rw [if_neg (by simpa using h2)]
  · rw [if_neg (by simpa using h1)]
    exact (decide_eq_false (by omega)).symm
theorem most_next {m : LV} {k mo : Int} (hk : 1 ≤ k ∧ k ≤ 11) (hmo : mo = mostTo m k.toNat) : mostTo m (k + 1).toNat = if m.gi mo.toNat 0 < m.gi k.toNat 0 then k else mo := by
  rw [show (k + 1).toNat = k.toNat + 1 by omega, mostTo, ← hmo]
  have e0 : ((k.toNat : Nat) : Int) = k := by omega
  rw [e0]
theorem sum_next {m n : LV} {B k s : Int} (h : okM m B) (hB : B ≤ 1000) (e : ∀ j : Nat, m.gi j 0 = n.gi j 0) (hk : 1 ≤ k ∧ k ≤ 11) (hs : s = psum m k.toNat) : IntKind.wrap .i64 (s + n.gi k.toNat 0) = psum m (k + 1).toNat := by
  have h1 := psum_range h (k.toNat + 1)
  have h2 : B * ((k.toNat + 1 : Nat) : Int) ≤ 1000 * 12 := Int.mul_le_mul hB (by omega) (by omega) (by omega)
  rw [psum] at h1
  rw [show (k + 1).toNat = k.toNat + 1 by omega, psum, ← e, ← hs]
  rw [← hs] at h1
  exact wrap_in (by omega) (by omega)
theorem most_le (m : LV) {k mo : Int} (hk : 1 ≤ k ∧ k ≤ 12) (hmo : mo = mostTo m k.toNat) : 0 ≤ mo ∧ mo < 12 := by
  have := mostTo_range m k.toNat
  rw [← hmo] at this
  omega
theorem kind_no {k : Int} (h : k < 1 ∨ 11 < k) : kindB k = false := by
  cases hk : kindB k with
  | false => rfl
  | true => have := kindB_iff.1 hk; omega
theorem addM_no {k : Int} (m : LV) (h : k < 1 ∨ 11 < k) : addM m k = m := by unfold addM; rw [kind_no h]; rfl

def C_number : Ctr := ⟨[.one (.int .i64), .one (.int .i64)], [.one (.int .i64)],
  fun | [.i n, .i b] => 0 < b ∧ b ≤ 4611686018427387904 | _ => False,
  fun | [.i n, .i b] => [.i (number n b)] | _ => []⟩
theorem number_pre {ls : List Leaf} (h_ : C_number.pre ls) : ∃ (n : Int) (b : Int), ls = [.i n, .i b] ∧ (0 < b ∧ b ≤ 4611686018427387904) := by
  unfold C_number at h_; dsimp only at h_; split at h_
  · exact ⟨_, _, rfl, h_⟩
  · exact h_.elim
theorem number_mk {n : Int} {b : Int} (h_ : 0 < b ∧ b ≤ 4611686018427387904) : C_number.pre [.i n, .i b] := h_
theorem number_res {n : Int} {b : Int} {rs_ : List Leaf} (h_ : rs_ = C_number.fn [.i n, .i b]) : ∃ (q0 : Int), q0 = (number n b) ∧ rs_ = [.i q0] := ⟨_, rfl, h_⟩
def phi_number : Fm := (.ob [] (.not (.eq (.v 1) (.i 0))) (.and (.imp (.lt (.rem (.v 0) (.v 1)) (.i 0)) .true (.ret [(.i (.wrap .i64 (.add (.rem (.v 0) (.v 1)) (.v 1))))])) (.imp (.lt (.rem (.v 0) (.v 1)) (.i 0)) .false (.ret [(.i (.rem (.v 0) (.v 1)))]))))
def tbl_number : List (Nat × Ctr) := []
theorem vc_number : vcg Try.prog (sigT tbl_number) [] Try.f7 C_number.params C_number.res = some phi_number := by kernel_rfl
--SPLIT
theorem number_sound : C_number.Sound Try.prog G 7 := by
  refine fn_ok mixed stable tbl_number [] Try.func7 (by kernel_rfl) phi_number vc_number trivial (fun _ _ _ => False) (fun _ _ _ => 0) ?_
  intro ls hp
  obtain ⟨n, b, rfl, hpre⟩ := number_pre hp
  clear hp
  rw [envOf_lk]
  unfold phi_number
  refine ⟨fun hg => ?_, ?_⟩
  ·
    show (!(b == (0 : Int))) = true
    -- leaf 1 (ob)
    simp; omega
  refine ⟨fun hcond => ?_, fun hcond => ?_⟩
  ·
    have c1 : (decide ((Int.tmod n b) < (0 : Int))) = true := hcond
    clear hcond
    suffices hfin : ((IntKind.wrap .i64 ((Int.tmod n b) + b))) = (number n b) from (c_i hfin rfl)
    -- leaf 2 (ret)
    simp only [number]
    have h1 := Int.emod_nonneg n (show b ≠ 0 by omega)
    have h2 := Int.emod_lt_of_pos n (show 0 < b by omega)
    rcases number_cases n b hpre.1 with ⟨h3, _⟩ | ⟨h3, _⟩ <;> rw [h3] at c1 ⊢ <;> simp at c1 <;> (try simp (disch := omega) only [wrap_in]) <;> omega
  ·
    have c2 : (decide ((Int.tmod n b) < (0 : Int))) = false := hcond
    clear hcond
    suffices hfin : ((Int.tmod n b)) = (number n b) from (c_i hfin rfl)
    -- leaf 3 (ret)
    simp only [number]
    have h1 := Int.emod_nonneg n (show b ≠ 0 by omega)
    have h2 := Int.emod_lt_of_pos n (show 0 < b by omega)
    rcases number_cases n b hpre.1 with ⟨h3, _⟩ | ⟨h3, _⟩ <;> rw [h3] at c2 ⊢ <;> simp at c2 <;> (try simp (disch := omega) only [wrap_in]) <;> omega
def C_aload : Ctr := ⟨[.one (.cell .i64)], [.one (.int .i64)],
  fun | [.i _] => True | _ => False,
  fun | [.i x] => [.i (x)] | _ => []⟩
theorem aload_pre {ls : List Leaf} (h_ : C_aload.pre ls) : ∃ (x : Int), ls = [.i x] := by
  unfold C_aload at h_; dsimp only at h_; split at h_
  · exact ⟨_, rfl⟩
  · exact h_.elim
theorem aload_res {x : Int} {rs_ : List Leaf} (h_ : rs_ = C_aload.fn [.i x]) : ∃ (q0 : Int), q0 = (x) ∧ rs_ = [.i q0] := ⟨_, rfl, h_⟩
theorem aload_sound : C_aload.Sound Try.prog G 15 := by
  refine Ctr.PSound.sound ⟨⟨_, Try.func15, by kernel_rfl, by kernel_rfl⟩, ?_⟩ rfl
  intro ls S w hG hp hpar
  obtain ⟨x, rfl⟩ := aload_pre hp
  obtain ⟨b, off, hS, hc⟩ := hpar.2.2 (0, .i64) (by simp [C_aload, shCells, Sh.cells, resCells])
  have h := load_calls b off x w hc
  have hS : S 0 = _ := hS
  have ea : (([TV.one (.lst 0)] : List TV).map (TV.val (envOf [.i x]) S β0)).toArray = #[.pointer (some ⟨b, off, none⟩)] := by
    simp only [List.map_cons, List.map_nil, TV.val, CV.val, hS, asSl]
  show Calls Try.prog 15 (([TV.one (.lst 0)] : List TV).map (TV.val (envOf [.i x]) S β0)).toArray w _
  rw [ea]
  refine h.mono ?_
  · rintro e w' ⟨rfl, rfl⟩
    exact ⟨Go.RowKit.Below.refl _ _, _, rfl, fun _ => undef, rfl, fun p hp => by cases hp⟩
def C_aadd : Ctr := ⟨[.one (.mcell .i64), .one (.int .i64)], [.one (.int .i64)],
  fun | [.i _, .i _] => True | _ => False,
  fun | [.i x, .i d] => [.i (IntKind.wrap .i64 (x + d)), .i (IntKind.wrap .i64 (x + d))] | _ => []⟩
theorem aadd_pre {ls : List Leaf} (h_ : C_aadd.pre ls) : ∃ (x : Int) (d : Int), ls = [.i x, .i d] := by
  unfold C_aadd at h_; dsimp only at h_; split at h_
  · exact ⟨_, _, rfl⟩
  · exact h_.elim
theorem aadd_res {x : Int} {d : Int} {rs_ : List Leaf} (h_ : rs_ = C_aadd.fn [.i x, .i d]) : ∃ (q0 : Int) (q1 : Int), q0 = (IntKind.wrap .i64 (x + d)) ∧ q1 = (IntKind.wrap .i64 (x + d)) ∧ rs_ = [.i q0, .i q1] := ⟨_, _, rfl, rfl, h_⟩
theorem aadd_sound : C_aadd.Sound Try.prog G 14 := by
  refine Ctr.CSound.sound ⟨⟨_, Try.func14, by kernel_rfl, by kernel_rfl⟩, ?_⟩ rfl
  intro ls S w b off cells t k hG hp hpar hk hS hheap hcell
  obtain ⟨x, d, rfl⟩ := aadd_pre hp
  have hk : IntKind.i64 = k := Option.some.inj hk
  subst hk
  obtain ⟨h1, h2, h3⟩ := cell_facts hheap hcell
  have h1 : w.cell? ⟨b, off, none⟩ = some (.int .i64 x) := h1
  have h := add_calls b off x d _ rfl w h1 h2
  have ea : (([TV.one (.lst 0), .one (.int .i64 (.v 1))] : List TV).map (TV.val (envOf [.i x, .i d]) S β0)).toArray = #[.pointer (some ⟨b, off, none⟩), .int .i64 d] := by
    simp only [List.map_cons, List.map_nil, TV.val, CV.val, hS, asSl]
    rfl
  show Calls Try.prog 14 (([TV.one (.lst 0), .one (.int .i64 (.v 1))] : List TV).map (TV.val (envOf [.i x, .i d]) S β0)).toArray w _
  rw [ea]
  refine h.mono ?_
  · rintro e w' ⟨rfl, rfl⟩
    exact ⟨h3 _, _, rfl, rfl⟩
def C_astore : Ctr := ⟨[.one (.mcell .i64), .one (.int .i64)], [],
  fun | [.i _, .i _] => True | _ => False,
  fun | [.i _, .i d] => [.i (d)] | _ => []⟩
theorem astore_pre {ls : List Leaf} (h_ : C_astore.pre ls) : ∃ (x : Int) (d : Int), ls = [.i x, .i d] := by
  unfold C_astore at h_; dsimp only at h_; split at h_
  · exact ⟨_, _, rfl⟩
  · exact h_.elim
theorem astore_res {x : Int} {d : Int} {rs_ : List Leaf} (h_ : rs_ = C_astore.fn [.i x, .i d]) : ∃ (q0 : Int), q0 = (d) ∧ rs_ = [.i q0] := ⟨_, rfl, h_⟩
theorem astore_sound : C_astore.Sound Try.prog G 16 := by
  refine Ctr.CSound.sound ⟨⟨_, Try.func16, by kernel_rfl, by kernel_rfl⟩, ?_⟩ rfl
  intro ls S w b off cells t k hG hp hpar hk hS hheap hcell
  obtain ⟨x, d, rfl⟩ := astore_pre hp
  have hk : IntKind.i64 = k := Option.some.inj hk
  subst hk
  obtain ⟨h1, h2, h3⟩ := cell_facts hheap hcell
  have h1 : w.cell? ⟨b, off, none⟩ = some (.int .i64 x) := h1
  have h := store_calls b off x d w h1 h2
  have ea : (([TV.one (.lst 0), .one (.int .i64 (.v 1))] : List TV).map (TV.val (envOf [.i x, .i d]) S β0)).toArray = #[.pointer (some ⟨b, off, none⟩), .int .i64 d] := by
    simp only [List.map_cons, List.map_nil, TV.val, CV.val, hS, asSl]
    rfl
  show Calls Try.prog 16 (([TV.one (.lst 0), .one (.int .i64 (.v 1))] : List TV).map (TV.val (envOf [.i x, .i d]) S β0)).toArray w _
  rw [ea]
  refine h.mono ?_
  · rintro e w' ⟨rfl, rfl⟩
    exact ⟨h3 _, _, rfl, rfl⟩
def C_kind : Ctr := ⟨[.one (.int .i64)], [.one (.bool)],
  fun | [.i _] => True | _ => False,
  fun | [.i k] => [.b (kindB k)] | _ => []⟩
theorem kind_pre {ls : List Leaf} (h_ : C_kind.pre ls) : ∃ (k : Int), ls = [.i k] := by
  unfold C_kind at h_; dsimp only at h_; split at h_
  · exact ⟨_, rfl⟩
  · exact h_.elim
theorem kind_res {k : Int} {rs_ : List Leaf} (h_ : rs_ = C_kind.fn [.i k]) : ∃ (q0 : Bool), q0 = (kindB k) ∧ rs_ = [.b q0] := ⟨_, rfl, h_⟩
def phi_kind : Fm := (.ret [(.b (.ite (.le (.i 1) (.v 0)) (.le (.v 0) (.i 11)) (.t .false)))])
def tbl_kind : List (Nat × Ctr) := []
theorem vc_kind : vcg Try.prog (sigT tbl_kind) [] Try.f13 C_kind.params C_kind.res = some phi_kind := by kernel_rfl
--SPLIT
theorem kind_sound : C_kind.Sound Try.prog G 13 := by
  refine fn_ok mixed stable tbl_kind [] Try.func13 (by kernel_rfl) phi_kind vc_kind trivial (fun _ _ _ => False) (fun _ _ _ => 0) ?_
  intro ls hp
  obtain ⟨k, rfl⟩ := kind_pre hp
  clear hp
  rw [envOf_lk]
  unfold phi_kind
  suffices hfin : ((if (decide ((1 : Int) ≤ k)) = true then (decide (k ≤ (11 : Int))) else false)) = (kindB k) from (c_b hfin rfl)
  -- leaf 1 (ret)
  subst_vars
  simp only [kindB]
  grind
def C_madd : Ctr := ⟨[.one (.mut 1), .one (.int .i64)], [.one (.bool)],
  fun | [.l _, .i _] => True | _ => False,
  fun | [.l m, .i k] => [.l (addM m k), .b (kindB k)] | _ => []⟩
theorem madd_pre {ls : List Leaf} (h_ : C_madd.pre ls) : ∃ (m : LV) (k : Int), ls = [.l m, .i k] := by
  unfold C_madd at h_; dsimp only at h_; split at h_
  · exact ⟨_, _, rfl⟩
  · exact h_.elim
theorem madd_res {m : LV} {k : Int} {rs_ : List Leaf} (h_ : rs_ = C_madd.fn [.l m, .i k]) : ∃ (q0 : LV) (q1 : Bool), q0 = (addM m k) ∧ q1 = (kindB k) ∧ rs_ = [.l q0, .b q1] := ⟨_, _, rfl, rfl, h_⟩
def phi_madd : Fm := (.call 13 [] [(.i (.v 1))] 2 (.and (.imp (.v 2) .false (.ret [(.l 0), (.b (.t .false))])) (.imp (.v 2) .true (.ob [] (.le (.i 0) (.v 1)) (.ob [] (.lt (.v 1) (.i 12)) (.call 14 [] [(.p (.gi 0 0 (.v 1)) (.aptr 0 (.v 1))), (.i (.i 1))] 3 (.lett (.upd 0 (.v 1) (.v 3)) 5 (.ret [(.l 5), (.b (.t .true))]))))))))
def tbl_madd : List (Nat × Ctr) := [(13, C_kind), (14, C_aadd)]
theorem vc_madd : vcgO Try.prog (sigT tbl_madd) [] Try.f8 C_madd.params C_madd.res = some phi_madd := by kernel_rfl
--SPLIT
theorem madd_sound : C_madd.Sound Try.prog G 8 := by
  refine fn_okO mixed stable tbl_madd [] Try.func8 (by kernel_rfl) phi_madd vc_madd ⟨kind_sound, aadd_sound, trivial⟩ (fun _ _ _ => False) (fun _ _ _ => 0) ?_
  intro ls hp
  obtain ⟨m, k, rfl⟩ := madd_pre hp
  clear hp
  rw [envOf_lk]
  unfold phi_madd
  refine vg_call (C := C_kind) rfl rfl (xs := [.i k]) rfl (fun hg => ?_) (fun rs hrs => ?_)
  ·
    exact trivial
  obtain ⟨r2, hr2, rfl⟩ := kind_res hrs
  clear hrs
  change Fm.holds _ _ (lk [.l m, .i k, .b r2])
  refine ⟨fun hcond => ?_, fun hcond => ?_⟩
  ·
    have c1 : r2 = false := hcond
    clear hcond
    suffices hfin : (m) = (addM m k) ∧ (false) = (kindB k) from (c_l hfin.1 (c_b hfin.2 rfl))
    -- leaf 1 (ret)
    subst_vars
    simp [addM, *]
  ·
    have c2 : r2 = true := hcond
    clear hcond
    refine ⟨fun hg => ?_, ?_⟩
    ·
      show (decide ((0 : Int) ≤ k)) = true
      -- leaf 2 (ob)
      rw [hr2] at c2
      have h_ := kindB_iff.1 c2
      simp
      omega
    refine ⟨fun hg => ?_, ?_⟩
    ·
      show (decide (k < (12 : Int))) = true
      -- leaf 3 (ob)
      rw [hr2] at c2
      have h_ := kindB_iff.1 c2
      simp
      omega
    refine vg_call (C := C_aadd) rfl rfl (xs := [.i (m.gi (Int.toNat k) 0), .i (1 : Int)]) rfl (fun hg => ?_) (fun rs hrs => ?_)
    ·
      exact trivial
    obtain ⟨r3, r4, hr3, hr4, rfl⟩ := aadd_res hrs
    clear hrs
    change Fm.holds _ _ (lk [.l m, .i k, .b r2, .i r3, .i r4])
    refine vg_lett rfl (x := (LV.upd m k r3)) rfl (fun r5 hr5 => ?_)
    change Fm.holds _ _ (lk [.l m, .i k, .b r2, .i r3, .i r4, .l r5])
    suffices hfin : (r5) = (addM m k) ∧ (true) = (kindB k) from (c_l hfin.1 (c_b hfin.2 rfl))
    -- leaf 4 (ret)
    subst_vars
    simp [addM, *]
def C_mget : Ctr := ⟨[.one (.obj 1), .one (.int .i64)], [.one (.int .i64)],
  fun | [.l _, .i _] => True | _ => False,
  fun | [.l m, .i k] => [.i (if kindB k = true then m.gi k.toNat 0 else 0)] | _ => []⟩
theorem mget_pre {ls : List Leaf} (h_ : C_mget.pre ls) : ∃ (m : LV) (k : Int), ls = [.l m, .i k] := by
  unfold C_mget at h_; dsimp only at h_; split at h_
  · exact ⟨_, _, rfl⟩
  · exact h_.elim
theorem mget_res {m : LV} {k : Int} {rs_ : List Leaf} (h_ : rs_ = C_mget.fn [.l m, .i k]) : ∃ (q0 : Int), q0 = (if kindB k = true then m.gi k.toNat 0 else 0) ∧ rs_ = [.i q0] := ⟨_, rfl, h_⟩
def phi_mget : Fm := (.call 13 [] [(.i (.v 1))] 2 (.and (.imp (.v 2) .false (.ret [(.i (.i 0))])) (.imp (.v 2) .true (.ob [] (.le (.i 0) (.v 1)) (.ob [] (.lt (.v 1) (.i 12)) (.call 15 [] [(.p (.gi 0 0 (.v 1)) (.aptr 0 (.v 1)))] 3 (.ret [(.i (.v 3))])))))))
def tbl_mget : List (Nat × Ctr) := [(13, C_kind), (15, C_aload)]
theorem vc_mget : vcgO Try.prog (sigT tbl_mget) [] Try.f10 C_mget.params C_mget.res = some phi_mget := by kernel_rfl
--SPLIT
theorem mget_sound : C_mget.Sound Try.prog G 10 := by
  refine fn_okO mixed stable tbl_mget [] Try.func10 (by kernel_rfl) phi_mget vc_mget ⟨kind_sound, aload_sound, trivial⟩ (fun _ _ _ => False) (fun _ _ _ => 0) ?_
  intro ls hp
  obtain ⟨m, k, rfl⟩ := mget_pre hp
  clear hp
  rw [envOf_lk]
  unfold phi_mget
  refine vg_call (C := C_kind) rfl rfl (xs := [.i k]) rfl (fun hg => ?_) (fun rs hrs => ?_)
  ·
    exact trivial
  obtain ⟨r2, hr2, rfl⟩ := kind_res hrs
  clear hrs
  change Fm.holds _ _ (lk [.l m, .i k, .b r2])
  refine ⟨fun hcond => ?_, fun hcond => ?_⟩
  ·
    have c1 : r2 = false := hcond
    clear hcond
    suffices hfin : ((0 : Int)) = (if kindB k = true then m.gi k.toNat 0 else 0) from (c_i hfin rfl)
    -- leaf 1 (ret)
    subst_vars
    simp [*]
  ·
    have c2 : r2 = true := hcond
    clear hcond
    refine ⟨fun hg => ?_, ?_⟩
    ·
      show (decide ((0 : Int) ≤ k)) = true
      -- leaf 2 (ob)
      rw [hr2] at c2
      have h_ := kindB_iff.1 c2
      simp
      omega
    refine ⟨fun hg => ?_, ?_⟩
    ·
      show (decide (k < (12 : Int))) = true
      -- leaf 3 (ob)
      rw [hr2] at c2
      have h_ := kindB_iff.1 c2
      simp
      omega
    refine vg_call (C := C_aload) rfl rfl (xs := [.i (m.gi (Int.toNat k) 0)]) rfl (fun hg => ?_) (fun rs hrs => ?_)
    ·
      exact trivial
    obtain ⟨r3, hr3, rfl⟩ := aload_res hrs
    clear hrs
    change Fm.holds _ _ (lk [.l m, .i k, .b r2, .i r3])
    suffices hfin : (r3) = (if kindB k = true then m.gi k.toNat 0 else 0) from (c_i hfin rfl)
    -- leaf 4 (ret)
    subst_vars
    simp [*]
def C_msum : Ctr := ⟨[.one (.obj 1)], [.one (.int .i64)],
  fun | [.l _] => True | _ => False,
  fun | [.l m] => [.i (sumTo m 12)] | _ => []⟩
theorem msum_pre {ls : List Leaf} (h_ : C_msum.pre ls) : ∃ (m : LV), ls = [.l m] := by
  unfold C_msum at h_; dsimp only at h_; split at h_
  · exact ⟨_, rfl⟩
  · exact h_.elim
theorem msum_res {m : LV} {rs_ : List Leaf} (h_ : rs_ = C_msum.fn [.l m]) : ∃ (q0 : Int), q0 = (sumTo m 12) ∧ rs_ = [.i q0] := ⟨_, rfl, h_⟩
def inv_msum_3 (m : LV) (n : Int) (k : Int) : Prop := 0 ≤ k ∧ k ≤ 12 ∧ n = sumTo m k.toNat
def meas_msum_3 (m : LV) (n : Int) (k : Int) : Nat := (12 - k).toNat
def phi_msum : Fm := (.loop 3 1 [0] [(.i (.i 0)), (.i (.i 0))] [.i, .i] (.and (.imp (.lt (.v 2) (.i 12)) .true (.ob [] (.le (.i 0) (.v 2)) (.call 15 [] [(.p (.gi 0 0 (.v 2)) (.aptr 0 (.v 2)))] 3 (.back 3 1 3 [0] [(.i (.wrap .i64 (.add (.v 1) (.v 3)))), (.i (.wrap .i64 (.add (.v 2) (.i 1))))])))) (.imp (.lt (.v 2) (.i 12)) .false (.ret [(.i (.v 1))]))))
def tbl_msum : List (Nat × Ctr) := [(15, C_aload)]
def inv_msum : List Leaf → Nat → List Leaf → Prop := fun _ key xs => match key, xs with
  | 3, [.l m, .i n, .i k] => inv_msum_3 m n k
  | _, _ => False
def meas_msum : List Leaf → Nat → List Leaf → Nat := fun _ key xs => match key, xs with
  | 3, [.l m, .i n, .i k] => meas_msum_3 m n k
  | _, _ => 0
theorem vc_msum : vcgO Try.prog (sigT tbl_msum) [⟨3, [4, 6, 7, 8, 9, 10, 11, 12, 13, 14, 15, 16], [3, 5], [], [0], some (3, [.i64]), []⟩] Try.f11 C_msum.params C_msum.res = some phi_msum := by kernel_rfl
--SPLIT
theorem msum_sound : C_msum.Sound Try.prog G 11 := by
  refine fn_okO mixed stable tbl_msum [⟨3, [4, 6, 7, 8, 9, 10, 11, 12, 13, 14, 15, 16], [3, 5], [], [0], some (3, [.i64]), []⟩] Try.func11 (by kernel_rfl) phi_msum vc_msum ⟨aload_sound, trivial⟩ inv_msum meas_msum ?_
  intro ls hp
  obtain ⟨m, rfl⟩ := msum_pre hp
  clear hp
  rw [envOf_lk]
  unfold phi_msum
  refine vg_loop rfl ?_ (fun xs hfit hi => ?_)
  ·
    show inv_msum_3 m (0 : Int) (0 : Int)
    -- leaf 1 (init)
    exact ⟨by omega, by omega, rfl⟩
  obtain ⟨x1, xs0, rfl, hfit0⟩ := fits_i hfit
  obtain ⟨x2, xs1, rfl, hfit1⟩ := fits_i hfit0
  obtain rfl := fits_nil hfit1
  clear hfit hfit0 hfit1
  replace hi : inv_msum_3 m x1 x2 := hi
  have hi3 := hi; clear hi
  change Fm.holds _ _ (lk [.l m, .i x1, .i x2])
  refine ⟨fun hcond => ?_, fun hcond => ?_⟩
  ·
    have c1 : (decide (x2 < (12 : Int))) = true := hcond
    clear hcond
    refine ⟨fun hg => ?_, ?_⟩
    ·
      show (decide ((0 : Int) ≤ x2)) = true
      -- leaf 2 (ob)
      subst_vars
      obtain ⟨h1, h2, h3⟩ := hi3
      simp at c1
      simp
      omega
    refine vg_call (C := C_aload) rfl rfl (xs := [.i (m.gi (Int.toNat x2) 0)]) rfl (fun hg => ?_) (fun rs hrs => ?_)
    ·
      exact trivial
    obtain ⟨r3, hr3, rfl⟩ := aload_res hrs
    clear hrs
    change Fm.holds _ _ (lk [.l m, .i x1, .i x2, .i r3])
    refine ⟨?_, ?_⟩
    ·
      show inv_msum_3 m (IntKind.wrap .i64 (x1 + r3)) (IntKind.wrap .i64 (x2 + (1 : Int)))
      -- leaf 3 (back)
      subst_vars
      obtain ⟨h1, h2, h3⟩ := hi3
      simp at c1
      have e : IntKind.wrap .i64 (x2 + 1) = x2 + 1 := wrap_in (by omega) (by omega)
      rw [e]
      refine ⟨by omega, by omega, ?_⟩
      rw [show (x2 + 1).toNat = x2.toNat + 1 by omega, sumTo, h3]
    ·
      show meas_msum_3 m (IntKind.wrap .i64 (x1 + r3)) (IntKind.wrap .i64 (x2 + (1 : Int))) < meas_msum_3 m x1 x2
      -- leaf 4 (meas)
      subst_vars
      obtain ⟨h1, h2, h3⟩ := hi3
      simp at c1
      have e : IntKind.wrap .i64 (x2 + 1) = x2 + 1 := wrap_in (by omega) (by omega)
      rw [e]
      unfold meas_msum_3
      omega
  ·
    have c2 : (decide (x2 < (12 : Int))) = false := hcond
    clear hcond
    suffices hfin : (x1) = (sumTo m 12) from (c_i hfin rfl)
    -- leaf 5 (ret)
    subst_vars
    obtain ⟨h1, h2, h3⟩ := hi3
    simp at c2
    rw [h3, show x2 = 12 by omega]
    rfl
def C_mreset : Ctr := ⟨[.one (.mut 1)], [],
  fun | [.l _] => True | _ => False,
  fun | [.l m] => [.l (zeroTo m 12)] | _ => []⟩
theorem mreset_pre {ls : List Leaf} (h_ : C_mreset.pre ls) : ∃ (m : LV), ls = [.l m] := by
  unfold C_mreset at h_; dsimp only at h_; split at h_
  · exact ⟨_, rfl⟩
  · exact h_.elim
theorem mreset_res {m : LV} {rs_ : List Leaf} (h_ : rs_ = C_mreset.fn [.l m]) : ∃ (q0 : LV), q0 = (zeroTo m 12) ∧ rs_ = [.l q0] := ⟨_, rfl, h_⟩
def inv_mreset_1 (m : LV) (k : Int) (x : LV) : Prop := 0 ≤ k ∧ k ≤ 12 ∧ x = zeroTo m k
def meas_mreset_1 (m : LV) (k : Int) (x : LV) : Nat := (12 - k).toNat
def phi_mreset : Fm := (.loop 1 1 [0] [(.i (.i 0)), (.l 0)] [.i, .l] (.and (.imp (.lt (.v 1) (.i 12)) .true (.ob [] (.le (.i 0) (.v 1)) (.call 16 [] [(.p (.gi 2 0 (.v 1)) (.aptr 0 (.v 1))), (.i (.i 0))] 3 (.lett (.upd 2 (.v 1) (.v 3)) 4 (.back 1 1 3 [0] [(.i (.wrap .i64 (.add (.v 1) (.i 1)))), (.l 4)]))))) (.imp (.lt (.v 1) (.i 12)) .false (.ret [(.l 2)]))))
def tbl_mreset : List (Nat × Ctr) := [(16, C_astore)]
def inv_mreset : List Leaf → Nat → List Leaf → Prop := fun _ key xs => match key, xs with
  | 1, [.l m, .i k, .l x] => inv_mreset_1 m k x
  | _, _ => False
def meas_mreset : List Leaf → Nat → List Leaf → Nat := fun _ key xs => match key, xs with
  | 1, [.l m, .i k, .l x] => meas_mreset_1 m k x
  | _, _ => 0
theorem vc_mreset : vcgO Try.prog (sigT tbl_mreset) [⟨1, [2, 4, 5, 6, 7, 8, 9, 10, 11, 12], [3], [(0, 0)], [0], some (3, [.i64]), []⟩] Try.f12 C_mreset.params C_mreset.res = some phi_mreset := by kernel_rfl
--SPLIT
theorem mreset_sound : C_mreset.Sound Try.prog G 12 := by
  refine fn_okO mixed stable tbl_mreset [⟨1, [2, 4, 5, 6, 7, 8, 9, 10, 11, 12], [3], [(0, 0)], [0], some (3, [.i64]), []⟩] Try.func12 (by kernel_rfl) phi_mreset vc_mreset ⟨astore_sound, trivial⟩ inv_mreset meas_mreset ?_
  intro ls hp
  obtain ⟨m, rfl⟩ := mreset_pre hp
  clear hp
  rw [envOf_lk]
  unfold phi_mreset
  refine vg_loop rfl ?_ (fun xs hfit hi => ?_)
  ·
    show inv_mreset_1 m (0 : Int) m
    -- leaf 1 (init)
    exact ⟨by omega, by omega, (zeroTo_zero m).symm⟩
  obtain ⟨x1, xs0, rfl, hfit0⟩ := fits_i hfit
  obtain ⟨x2, xs1, rfl, hfit1⟩ := fits_l hfit0
  obtain rfl := fits_nil hfit1
  clear hfit hfit0 hfit1
  replace hi : inv_mreset_1 m x1 x2 := hi
  have hi1 := hi; clear hi
  change Fm.holds _ _ (lk [.l m, .i x1, .l x2])
  refine ⟨fun hcond => ?_, fun hcond => ?_⟩
  ·
    have c1 : (decide (x1 < (12 : Int))) = true := hcond
    clear hcond
    refine ⟨fun hg => ?_, ?_⟩
    ·
      show (decide ((0 : Int) ≤ x1)) = true
      -- leaf 2 (ob)
      subst_vars
      obtain ⟨h1, h2, h3⟩ := hi1
      simp at c1
      simp
      omega
    refine vg_call (C := C_astore) rfl rfl (xs := [.i (x2.gi (Int.toNat x1) 0), .i (0 : Int)]) rfl (fun hg => ?_) (fun rs hrs => ?_)
    ·
      exact trivial
    obtain ⟨r3, hr3, rfl⟩ := astore_res hrs
    clear hrs
    change Fm.holds _ _ (lk [.l m, .i x1, .l x2, .i r3])
    refine vg_lett rfl (x := (LV.upd x2 x1 r3)) rfl (fun r4 hr4 => ?_)
    change Fm.holds _ _ (lk [.l m, .i x1, .l x2, .i r3, .l r4])
    refine ⟨?_, ?_⟩
    ·
      show inv_mreset_1 m (IntKind.wrap .i64 (x1 + (1 : Int))) r4
      -- leaf 3 (back)
      subst_vars
      obtain ⟨h1, h2, h3⟩ := hi1
      simp at c1
      rw [wrap_in (by omega) (by omega)]
      exact ⟨by omega, by omega, by rw [h3, zeroTo_step m _ h1]⟩
    ·
      show meas_mreset_1 m (IntKind.wrap .i64 (x1 + (1 : Int))) r4 < meas_mreset_1 m x1 x2
      -- leaf 4 (meas)
      subst_vars
      obtain ⟨h1, h2, h3⟩ := hi1
      simp at c1
      rw [wrap_in (by omega) (by omega)]
      unfold meas_mreset_1
      omega
  ·
    have c2 : (decide (x1 < (12 : Int))) = false := hcond
    clear hcond
    suffices hfin : (x2) = (zeroTo m 12) from (c_l hfin rfl)
    -- leaf 5 (ret)
    subst_vars
    obtain ⟨h1, h2, h3⟩ := hi1
    simp at c2
    rw [h3, show x1 = 12 by omega]
def C_mmost : Ctr := ⟨[.one (.obj 1)], [.one (.int .i64), .one (.bool)],
  fun | [.l _] => True | _ => False,
  fun | [.l m] => [.i (mostTo m 12), .b (decide (0 < mostTo m 12))] | _ => []⟩
theorem mmost_pre {ls : List Leaf} (h_ : C_mmost.pre ls) : ∃ (m : LV), ls = [.l m] := by
  unfold C_mmost at h_; dsimp only at h_; split at h_
  · exact ⟨_, rfl⟩
  · exact h_.elim
theorem mmost_res {m : LV} {rs_ : List Leaf} (h_ : rs_ = C_mmost.fn [.l m]) : ∃ (q0 : Int) (q1 : Bool), q0 = (mostTo m 12) ∧ q1 = (decide (0 < mostTo m 12)) ∧ rs_ = [.i q0, .b q1] := ⟨_, _, rfl, rfl, h_⟩
def inv_mmost_3 (m : LV) (best : Int) (k : Int) : Prop := 0 ≤ k ∧ k ≤ 12 ∧ best = mostTo m k.toNat
def meas_mmost_3 (m : LV) (best : Int) (k : Int) : Nat := (12 - k).toNat
def phi_mmost : Fm := (.loop 3 1 [0] [(.i (.i 0)), (.i (.i 0))] [.i, .i] (.and (.imp (.lt (.v 2) (.i 12)) .true (.ob [] (.le (.i 0) (.v 2)) (.call 15 [] [(.p (.gi 0 0 (.v 2)) (.aptr 0 (.v 2)))] 3 (.ob [] (.le (.i 0) (.v 1)) (.ob [] (.lt (.v 1) (.i 12)) (.call 15 [] [(.p (.gi 0 0 (.v 1)) (.aptr 0 (.v 1)))] 4 (.and (.imp (.lt (.v 4) (.v 3)) .true (.back 3 1 3 [0] [(.i (.v 2)), (.i (.wrap .i64 (.add (.v 2) (.i 1))))])) (.imp (.lt (.v 4) (.v 3)) .false (.back 3 1 3 [0] [(.i (.v 1)), (.i (.wrap .i64 (.add (.v 2) (.i 1))))]))))))))) (.imp (.lt (.v 2) (.i 12)) .false (.ret [(.i (.v 1)), (.b (.lt (.i 0) (.v 1)))]))))
def tbl_mmost : List (Nat × Ctr) := [(15, C_aload)]
def inv_mmost : List Leaf → Nat → List Leaf → Prop := fun _ key xs => match key, xs with
  | 3, [.l m, .i best, .i k] => inv_mmost_3 m best k
  | _, _ => False
def meas_mmost : List Leaf → Nat → List Leaf → Nat := fun _ key xs => match key, xs with
  | 3, [.l m, .i best, .i k] => meas_mmost_3 m best k
  | _, _ => 0
theorem vc_mmost : vcgO Try.prog (sigT tbl_mmost) [⟨3, [5, 7, 8, 9, 10, 11, 12, 13, 14, 15, 16, 17, 18, 19, 20, 21, 22, 23], [4, 6], [], [0], some (3, [.i64]), []⟩] Try.f9 C_mmost.params C_mmost.res = some phi_mmost := by kernel_rfl
--SPLIT
theorem mmost_sound : C_mmost.Sound Try.prog G 9 := by
  refine fn_okO mixed stable tbl_mmost [⟨3, [5, 7, 8, 9, 10, 11, 12, 13, 14, 15, 16, 17, 18, 19, 20, 21, 22, 23], [4, 6], [], [0], some (3, [.i64]), []⟩] Try.func9 (by kernel_rfl) phi_mmost vc_mmost ⟨aload_sound, trivial⟩ inv_mmost meas_mmost ?_
  intro ls hp
  obtain ⟨m, rfl⟩ := mmost_pre hp
  clear hp
  rw [envOf_lk]
  unfold phi_mmost
  refine vg_loop rfl ?_ (fun xs hfit hi => ?_)
  ·
    show inv_mmost_3 m (0 : Int) (0 : Int)
    -- leaf 1 (init)
    exact ⟨by omega, by omega, rfl⟩
  obtain ⟨x1, xs0, rfl, hfit0⟩ := fits_i hfit
  obtain ⟨x2, xs1, rfl, hfit1⟩ := fits_i hfit0
  obtain rfl := fits_nil hfit1
  clear hfit hfit0 hfit1
  replace hi : inv_mmost_3 m x1 x2 := hi
  have hi3 := hi; clear hi
  change Fm.holds _ _ (lk [.l m, .i x1, .i x2])
  refine ⟨fun hcond => ?_, fun hcond => ?_⟩
  ·
    have c1 : (decide (x2 < (12 : Int))) = true := hcond
    clear hcond
    refine ⟨fun hg => ?_, ?_⟩
    ·
      show (decide ((0 : Int) ≤ x2)) = true
      -- leaf 2 (ob)
      subst_vars
      obtain ⟨h1, h2, h3⟩ := hi3
      have h4 := mostTo_range m x2.toNat
      simp at c1
      simp
      omega
    refine vg_call (C := C_aload) rfl rfl (xs := [.i (m.gi (Int.toNat x2) 0)]) rfl (fun hg => ?_) (fun rs hrs => ?_)
    ·
      exact trivial
    obtain ⟨r3, hr3, rfl⟩ := aload_res hrs
    clear hrs
    change Fm.holds _ _ (lk [.l m, .i x1, .i x2, .i r3])
    refine ⟨fun hg => ?_, ?_⟩
    ·
      show (decide ((0 : Int) ≤ x1)) = true
      -- leaf 3 (ob)
      subst_vars
      obtain ⟨h1, h2, h3⟩ := hi3
      have h4 := mostTo_range m x2.toNat
      simp at c1
      simp
      omega
    refine ⟨fun hg => ?_, ?_⟩
    ·
      show (decide (x1 < (12 : Int))) = true
      -- leaf 4 (ob)
      subst_vars
      obtain ⟨h1, h2, h3⟩ := hi3
      have h4 := mostTo_range m x2.toNat
      simp at c1
      simp
      omega
    refine vg_call (C := C_aload) rfl rfl (xs := [.i (m.gi (Int.toNat x1) 0)]) rfl (fun hg => ?_) (fun rs hrs => ?_)
    ·
      exact trivial
    obtain ⟨r4, hr4, rfl⟩ := aload_res hrs
    clear hrs
    change Fm.holds _ _ (lk [.l m, .i x1, .i x2, .i r3, .i r4])
    refine ⟨fun hcond => ?_, fun hcond => ?_⟩
    ·
      have c2 : (decide (r4 < r3)) = true := hcond
      clear hcond
      refine ⟨?_, ?_⟩
      ·
        show inv_mmost_3 m x2 (IntKind.wrap .i64 (x2 + (1 : Int)))
        -- leaf 5 (back)
        subst_vars
        obtain ⟨h1, h2, h3⟩ := hi3
        simp at c1
        rw [wrap_in (by omega) (by omega)]
        refine ⟨by omega, by omega, ?_⟩
        have e0 : ((x2.toNat : Nat) : Int) = x2 := by omega
        rw [show (x2 + 1).toNat = x2.toNat + 1 by omega, mostTo, e0]
        first
          | (have c := c2; simp at c; rw [h3] at c; rw [if_pos c])
          | (have c := c3; simp at c; rw [h3] at c; rw [if_neg (by omega)]; exact h3)
      ·
        show meas_mmost_3 m x2 (IntKind.wrap .i64 (x2 + (1 : Int))) < meas_mmost_3 m x1 x2
        -- leaf 6 (meas)
        subst_vars
        obtain ⟨h1, h2, h3⟩ := hi3
        simp at c1
        rw [wrap_in (by omega) (by omega)]
        unfold meas_mmost_3
        omega
    ·
      have c3 : (decide (r4 < r3)) = false := hcond
      clear hcond
      refine ⟨?_, ?_⟩
      ·
        show inv_mmost_3 m x1 (IntKind.wrap .i64 (x2 + (1 : Int)))
        -- leaf 7 (back)
        subst_vars
        obtain ⟨h1, h2, h3⟩ := hi3
        simp at c1
        rw [wrap_in (by omega) (by omega)]
        refine ⟨by omega, by omega, ?_⟩
        have e0 : ((x2.toNat : Nat) : Int) = x2 := by omega
        rw [show (x2 + 1).toNat = x2.toNat + 1 by omega, mostTo, e0]
        first
          | (have c := c2; simp at c; rw [h3] at c; rw [if_pos c])
          | (have c := c3; simp at c; rw [h3] at c; rw [if_neg (by omega)]; exact h3)
      ·
        show meas_mmost_3 m x1 (IntKind.wrap .i64 (x2 + (1 : Int))) < meas_mmost_3 m x1 x2
        -- leaf 8 (meas)
        subst_vars
        obtain ⟨h1, h2, h3⟩ := hi3
        simp at c1
        rw [wrap_in (by omega) (by omega)]
        unfold meas_mmost_3
        omega
  ·
    have c4 : (decide (x2 < (12 : Int))) = false := hcond
    clear hcond
    suffices hfin : (x1) = (mostTo m 12) ∧ ((decide ((0 : Int) < x1))) = (decide (0 < mostTo m 12)) from (c_i hfin.1 (c_b hfin.2 rfl))
    -- leaf 9 (ret)
    subst_vars
    obtain ⟨h1, h2, h3⟩ := hi3
    simp at c4
    have e : x2.toNat = 12 := by omega
    rw [h3, e]
    exact ⟨rfl, rfl⟩
def C_first20 : Ctr := ⟨[], [.one (.bool)],
  fun | [] => True | _ => False,
  fun | [] => [.b (true)] | _ => []⟩
theorem first20_pre {ls : List Leaf} (h_ : C_first20.pre ls) : ls = [] := by
  unfold C_first20 at h_; dsimp only at h_; split at h_
  · rfl
  · exact h_.elim
theorem first20_res  {rs_ : List Leaf} (h_ : rs_ = C_first20.fn []) : ∃ (q0 : Bool), q0 = (true) ∧ rs_ = [.b q0] := ⟨_, rfl, h_⟩
def phi_first20 : Fm := (.lett (.c 1 .nilp [(.int .i64 (.i 0)), (.int .i64 (.i 0)), (.int .i64 (.i 0)), (.int .i64 (.i 0)), (.int .i64 (.i 0)), (.int .i64 (.i 0)), (.int .i64 (.i 0)), (.int .i64 (.i 0)), (.int .i64 (.i 0)), (.int .i64 (.i 0)), (.int .i64 (.i 0)), (.int .i64 (.i 0))]) 0 (.call 8 [] [(.o 0 (.ptr 0 0)), (.i (.i 1))] 1 (.call 11 [((.v 2), .true)] [(.o 1 (.ptr 0 0))] 3 (.ret [(.b (.ite (.v 2) (.eq (.v 3) (.i 1)) (.t .false)))]))))
def tbl_first20 : List (Nat × Ctr) := [(8, C_madd), (11, C_msum)]
theorem vc_first20 : vcg Try.prog (sigT tbl_first20) [⟨1, [], [], [], [], none, [(0, 1)]⟩] Try.f6 C_first20.params C_first20.res = some phi_first20 := by kernel_rfl
--SPLIT
theorem first20_sound : C_first20.Sound Try.prog G 6 := by
  refine fn_ok mixed stable tbl_first20 [⟨1, [], [], [], [], none, [(0, 1)]⟩] Try.func6 (by kernel_rfl) phi_first20 vc_first20 ⟨madd_sound, msum_sound, trivial⟩ (fun _ _ _ => False) (fun _ _ _ => 0) ?_
  intro ls hp
  obtain rfl := first20_pre hp
  clear hp
  rw [envOf_lk]
  unfold phi_first20
  refine vg_lett rfl (x := _) rfl (fun r0 hr0 => ?_)
  change Fm.holds _ _ (lk [.l r0])
  have hzr0 : ∀ j : Nat, r0.gi j 0 = 0 := fun j => by rw [hr0]; exact zeros12 _ j 0
  clear hr0
  refine vg_call (C := C_madd) rfl rfl (xs := [.l r0, .i (1 : Int)]) rfl (fun hg => ?_) (fun rs hrs => ?_)
  ·
    exact trivial
  obtain ⟨r1, r2, hr1, hr2, rfl⟩ := madd_res hrs
  clear hrs
  change Fm.holds _ _ (lk [.l r0, .l r1, .b r2])
  refine vg_call (C := C_msum) rfl rfl (xs := [.l r1]) rfl (fun hg => ?_) (fun rs hrs => ?_)
  ·
    exact trivial
  obtain ⟨r3, hr3, rfl⟩ := msum_res hrs
  clear hrs
  change Fm.holds _ _ (lk [.l r0, .l r1, .b r2, .i r3])
  suffices hfin : ((if r2 = true then (r3 == (1 : Int)) else false)) = (true) from (c_b hfin rfl)
  -- leaf 1 (ret)
  subst_vars
  have o0 := okM_zero hzr0
  have o1 := addM_ok o0 (k := 1) (by omega) (by omega)
  rw [kindB_iff.2 (by omega), sumTo_eq o1 12 (by omega), psum_add o0 (by omega), psum_zero hzr0]
  rfl
end Go.Proofs.Ytccdhkmohimfhaa
