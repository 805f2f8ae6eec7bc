import Derived.Test.YtccdhkmohimfhaaDoorVg
import Derived.Test.YtccdhkmohimfhaaDoorProg
import Derived.Test.YtccdhkmohimfhaaDoorShelf
import Derived.Carry
import Derived.Tactics
import Derived.Tactics2
import Derived.Laws.Pointers
import Derived.RegionTactic
import Derived.RegionCalls
import Derived.Shelf.SlMaps.Clone
import Derived.Deep.RegionWith
namespace Go.Proofs.YtccdhkmohimfhaaDoor
open Go.Vg
set_option linter.unusedVariables false
set_option linter.unusedSimpArgs false
theorem mixed : Tryd.prog.follows .mixedOrders = true := by kernel_rfl
def G : World → Prop := fun _ => True
theorem stable : Stable G := fun _ _ _ _ => trivial
open Go

def number (n b : Int) : Int := n % b
theorem number_cases (n b : Int) (h : 0 < b) : (Int.tmod n b = n % b ∧ True) ∨ (Int.tmod n b = n % b - b ∧ True) := by
  have h1 := @Int.tmod_eq_emod n b
  split at h1
  · exact .inl ⟨by omega, trivial⟩
  · exact .inr ⟨by rw [h1, Int.natAbs_of_nonneg (by omega)], trivial⟩
theorem number_range (n : Int) {b : Int} (h : 0 < b) : 0 ≤ number n b ∧ number n b < b := ⟨Int.emod_nonneg _ (by omega), Int.emod_lt_of_pos _ h⟩


def mayP (fs fl dr : Int) : Bool := decide (0 ≤ fl) && decide (fl < fs) && ((dr == 1 && decide (fl < fs - 1)) || (dr == -1 && decide (0 < fl)))
def genR (r : LV) (f d : Int) : Int := r.gi (Int.toNat (keyI 1 f d)) 0
def litR (r : LV) (f d : Int) : Int := r.gi (Int.toNat (keyI 2 f d)) 0
def isR (r : LV) (f d g : Int) : Bool := decide (0 < g) && litR r f d == g
def pressIs (r : LV) (f d : Int) : Bool := mayP (r.gi 0 0) f d && !decide (0 < litR r f d)
def genUp (r : LV) (f d : Int) : LV := r.upd (keyI 1 f d) (IntKind.wrap .i64 (genR r f d + 1))
def pressR (r : LV) (f d : Int) : LV := if pressIs r f d = true then (genUp r f d).upd (keyI 2 f d) (genR (genUp r f d) f d) else r
def pressG (r : LV) (f d : Int) : Int := if pressIs r f d = true then genR (pressR r f d) f d else 0
def clearR (r : LV) (f d g : Int) : LV := if isR r f d g = true then r.upd (keyI 2 f d) 0 else r
def litAt (r : LV) (f d : Int) (x : LV) : LV := if 0 < litR r f d then snoc x [f, d, litR r f d] else x
def litTo (r : LV) : Nat → LV
  | 0 => nilLV
  | k + 1 => litAt r k 1 (litAt r k (-1) (litTo r k))
def litIn (r : LV) (f : Int) : Nat → LV
  | 0 => litTo r f.toNat
  | 1 => litAt r f (-1) (litTo r f.toNat)
  | _ => litAt r f 1 (litAt r f (-1) (litTo r f.toNat))
theorem litAt_len (r : LV) (f d : Int) (x : LV) : x.len ≤ (litAt r f d x).len ∧ (litAt r f d x).len ≤ x.len + 1 := by
  unfold litAt
  split
  · show x.len ≤ x.len + 1 ∧ x.len + 1 ≤ x.len + 1
    omega
  · omega
theorem litTo_len (r : LV) : ∀ k, (litTo r k).len ≤ 2 * k
  | 0 => Nat.le_refl _
  | k + 1 => by
    have h0 := litTo_len r k
    have h1 := litAt_len r k (-1) (litTo r k)
    have h2 := litAt_len r k 1 (litAt r k (-1) (litTo r k))
    show (litAt r k 1 (litAt r k (-1) (litTo r k))).len ≤ _
    omega
theorem litIn_len (r : LV) (f : Int) (j : Nat) : (litIn r f j).len ≤ 2 * f.toNat + 2 := by
  have h0 := litTo_len r f.toNat
  have h1 := litAt_len r f (-1) (litTo r f.toNat)
  have h2 := litAt_len r f 1 (litAt r f (-1) (litTo r f.toNat))
  match j with
  | 0 => show (litTo r f.toNat).len ≤ _; omega
  | 1 => show (litAt r f (-1) (litTo r f.toNat)).len ≤ _; omega
  | _ + 2 => show (litAt r f 1 (litAt r f (-1) (litTo r f.toNat))).len ≤ _; omega
def sameLt (a b : LV) : Bool := a.len == b.len && (List.range a.len).all fun i => (a.gi i 0 == b.gi i 0 && a.gi i 1 == b.gi i 1) && a.gi i 2 == b.gi i 2
theorem litAt_yes {r : LV} {f d : Int} {x : LV} (h : 0 < litR r f d) : litAt r f d x = snoc x [f, d, litR r f d] := if_pos h
theorem litAt_no {r : LV} {f d : Int} {x : LV} (h : ¬ 0 < litR r f d) : litAt r f d x = x := if_neg h

def newR (fs : Int) : LV := ⟨0, fun i _ => if i = 0 then fs else 0, fun _ _ => false⟩
theorem newR_map (fs : Int) {k : Nat} {f d : Int} (hk : k = 1 ∨ k = 2) (hf : i64R f) (hd : i64R d) : mapF (newR fs) k f d = 0 := by
  have := keyI_pos hk hf hd
  unfold mapF newR
  dsimp only
  rw [if_neg (by omega)]
theorem al_old (w : World) (o : Obj) {k : Nat} (h : k < w.heap.size) : (w.alloc o).heap[k]? = w.heap[k]? := by
  show (w.heap.push o)[k]? = _
  rw [Array.getElem?_push, if_neg (by omega)]
theorem al_new (w : World) (o : Obj) : (w.alloc o).heap[w.heap.size]? = some o := by
  show (w.heap.push o)[w.heap.size]? = _
  rw [Array.getElem?_push, if_pos rfl]
theorem al_size (w : World) (o : Obj) : (w.alloc o).heap.size = w.heap.size + 1 := by
  show (w.heap.push o).size = _
  rw [Array.size_push]
theorem mapAt_new {h : Array Obj} {b : Nat} {x : LV} {k : Nat} (hb : h[b]? = some (.map #[] 0)) (hz : ∀ f d, i64R f → i64R d → mapF x k f d = 0) : MapAt h b (mapF x k) :=
  ⟨#[], 0, hb, MapKept.stamped_empty 0, fun e he => by simp at he, fun f d h1 h2 _ => hz f d h1 h2⟩

theorem i64_small {n : Int} (h : -1000000 ≤ n ∧ n ≤ 1000000) : i64R n := by unfold i64R; omega
section
variable {r : LV} {f d f' d' g : Int}
theorem press_zero (hf : i64R f) (hd : i64R d) : (pressR r f d).gi 0 0 = r.gi 0 0 := by
  unfold pressR
  split
  · rw [upd_zero (.inr rfl) hf hd]
    unfold genUp
    rw [upd_zero (.inl rfl) hf hd]
  · rfl
theorem genUp_gen (hf : i64R f) (hd : i64R d) : genR (genUp r f d) f d = IntKind.wrap .i64 (genR r f d + 1) := by
  show mapF (r.upd (keyI 1 f d) (IntKind.wrap .i64 (genR r f d + 1))) 1 f d = _
  rw [map_upd (.inl rfl) (.inl rfl) hf hd hf hd, if_pos rfl]
  unfold updF
  rw [if_pos ⟨rfl, rfl⟩]
theorem press_gen (hf : i64R f) (hd : i64R d) (hf' : i64R f') (hd' : i64R d') : genR (pressR r f d) f' d' = if pressIs r f d = true ∧ f' = f ∧ d' = d then IntKind.wrap .i64 (genR r f d + 1) else genR r f' d' := by
  unfold pressR
  by_cases hp : pressIs r f d = true
  · rw [if_pos hp]
    show mapF ((genUp r f d).upd (keyI 2 f d) _) 1 f' d' = _
    rw [map_upd (.inr rfl) (.inl rfl) hf hd hf' hd', if_neg (by decide)]
    show mapF (r.upd (keyI 1 f d) _) 1 f' d' = _
    rw [map_upd (.inl rfl) (.inl rfl) hf hd hf' hd', if_pos rfl]
    unfold updF
    by_cases hh : f' = f ∧ d' = d
    · rw [if_pos hh, if_pos ⟨hp, hh⟩]
    · rw [if_neg hh, if_neg (fun h => hh h.2)]
      rfl
  · rw [if_neg hp, if_neg (fun h => hp h.1)]
theorem press_lit (hf : i64R f) (hd : i64R d) (hf' : i64R f') (hd' : i64R d') : litR (pressR r f d) f' d' = if pressIs r f d = true ∧ f' = f ∧ d' = d then IntKind.wrap .i64 (genR r f d + 1) else litR r f' d' := by
  unfold pressR
  by_cases hp : pressIs r f d = true
  · rw [if_pos hp]
    show mapF ((genUp r f d).upd (keyI 2 f d) _) 2 f' d' = _
    rw [map_upd (.inr rfl) (.inr rfl) hf hd hf' hd', if_pos rfl, genUp_gen hf hd]
    unfold updF
    by_cases hh : f' = f ∧ d' = d
    · rw [if_pos hh, if_pos ⟨hp, hh⟩]
    · rw [if_neg hh, if_neg (fun h => hh h.2)]
      show mapF (r.upd (keyI 1 f d) _) 2 f' d' = _
      rw [map_upd (.inl rfl) (.inr rfl) hf hd hf' hd', if_neg (by decide)]
      rfl
  · rw [if_neg hp, if_neg (fun h => hp h.1)]
theorem press_G (hf : i64R f) (hd : i64R d) : pressG r f d = if pressIs r f d = true then IntKind.wrap .i64 (genR r f d + 1) else 0 := by
  unfold pressG
  split
  · rename_i h
    rw [press_gen hf hd hf hd, if_pos ⟨h, rfl, rfl⟩]
  · rfl
theorem clear_zero (hf : i64R f) (hd : i64R d) : (clearR r f d g).gi 0 0 = r.gi 0 0 := by
  unfold clearR
  split
  · rw [upd_zero (.inr rfl) hf hd]
  · rfl
theorem clear_gen (hf : i64R f) (hd : i64R d) (hf' : i64R f') (hd' : i64R d') : genR (clearR r f d g) f' d' = genR r f' d' := by
  unfold clearR
  split
  · show mapF (r.upd (keyI 2 f d) 0) 1 f' d' = _
    rw [map_upd (.inr rfl) (.inl rfl) hf hd hf' hd', if_neg (by decide)]
    rfl
  · rfl
theorem clear_lit (hf : i64R f) (hd : i64R d) (hf' : i64R f') (hd' : i64R d') : litR (clearR r f d g) f' d' = if isR r f d g = true ∧ f' = f ∧ d' = d then 0 else litR r f' d' := by
  unfold clearR
  by_cases hp : isR r f d g = true
  · rw [if_pos hp]
    show mapF (r.upd (keyI 2 f d) 0) 2 f' d' = _
    rw [map_upd (.inr rfl) (.inr rfl) hf hd hf' hd', if_pos rfl]
    unfold updF
    by_cases hh : f' = f ∧ d' = d
    · rw [if_pos hh, if_pos ⟨hp, hh⟩]
    · rw [if_neg hh, if_neg (fun h => hh h.2)]
      rfl
  · rw [if_neg hp, if_neg (fun h => hp h.1)]
theorem new_lit (fs : Int) (hf : i64R f) (hd : i64R d) : litR (newR fs) f d = 0 := newR_map fs (.inr rfl) hf hd
theorem new_gen (fs : Int) (hf : i64R f) (hd : i64R d) : genR (newR fs) f d = 0 := newR_map fs (.inl rfl) hf hd
theorem new_zero (fs : Int) : (newR fs).gi 0 0 = fs := rfl
end
def cntL (r : LV) : Nat → Nat
  | 0 => 0
  | k + 1 => cntL r k + (if 0 < litR r k (-1) then 1 else 0) + (if 0 < litR r k 1 then 1 else 0)
theorem litAt_cnt (r : LV) (f d : Int) (x : LV) : (litAt r f d x).len = x.len + if 0 < litR r f d then 1 else 0 := by
  unfold litAt
  split <;> rfl
theorem litTo_cnt (r : LV) : ∀ k, (litTo r k).len = cntL r k
  | 0 => rfl
  | k + 1 => by
    show (litAt r k 1 (litAt r k (-1) (litTo r k))).len = _
    rw [litAt_cnt, litAt_cnt, litTo_cnt r k]
    rfl
theorem cntL_congr {r r' : LV} : ∀ (k : Nat), (∀ f d : Int, 0 ≤ f → f < k → (d = 1 ∨ d = -1) → (0 < litR r' f d ↔ 0 < litR r f d)) → cntL r' k = cntL r k
  | 0, _ => rfl
  | k + 1, h => by
    have h0 := cntL_congr (r := r) (r' := r') k (fun f d h1 h2 h3 => h f d h1 (by omega) h3)
    have h1 := h k (-1) (by omega) (by omega) (.inr rfl)
    have h2 := h k 1 (by omega) (by omega) (.inl rfl)
    show cntL r' k + _ + _ = cntL r k + _ + _
    rw [h0]
    simp only [h1, h2]
theorem cntL_one {r r' : LV} {f0 d0 : Int} (h0 : 0 ≤ f0) (hd0 : d0 = 1 ∨ d0 = -1) (hy : 0 < litR r' f0 d0) (hn : ¬ 0 < litR r f0 d0) : ∀ (k : Nat), f0 < k →
    (∀ f d : Int, 0 ≤ f → f < k → (d = 1 ∨ d = -1) → ¬ (f = f0 ∧ d = d0) → (0 < litR r' f d ↔ 0 < litR r f d)) → cntL r' k = cntL r k + 1
  | 0, hk, _ => by omega
  | k + 1, hk, h => by
    show cntL r' k + _ + _ = cntL r k + _ + _ + 1
    by_cases hfk : f0 = k
    · have hc := cntL_congr (r := r) (r' := r') k (fun f d h1 h2 h3 => h f d h1 (by omega) h3 (fun e => by omega))
      rw [hc]
      subst hfk
      rcases hd0 with rfl | rfl
      · have h1 := h k (-1) (by omega) (by omega) (.inr rfl) (fun e => by omega)
        simp only [h1, if_pos hy, if_neg hn]
        try omega
      · have h1 := h k 1 (by omega) (by omega) (.inl rfl) (fun e => by omega)
        simp only [h1, if_pos hy, if_neg hn]
        try omega
    · have hc := cntL_one h0 hd0 hy hn k (by omega) (fun f d h1 h2 h3 h4 => h f d h1 (by omega) h3 h4)
      have h1 := h k (-1) (by omega) (by omega) (.inr rfl) (fun e => by omega)
      have h2 := h k 1 (by omega) (by omega) (.inl rfl) (fun e => by omega)
      rw [hc]
      simp only [h1, h2]
      omega
theorem mayP_iff {fs f d : Int} : mayP fs f d = true ↔ 0 ≤ f ∧ f < fs ∧ (d = 1 ∧ f < fs - 1 ∨ d = -1 ∧ 0 < f) := by
  simp [mayP]
  omega
theorem pressIs_iff {r : LV} {f d : Int} : pressIs r f d = true ↔ mayP (r.gi 0 0) f d = true ∧ ¬ 0 < litR r f d := by
  simp [pressIs]
theorem isR_iff {r : LV} {f d g : Int} : isR r f d g = true ↔ 0 < g ∧ litR r f d = g := by
  simp [isR]
theorem cntL_zero {r : LV} : ∀ (k : Nat), (∀ f d : Int, 0 ≤ f → f < k → (d = 1 ∨ d = -1) → ¬ 0 < litR r f d) → cntL r k = 0
  | 0, _ => rfl
  | k + 1, h => by
    have h0 := cntL_zero (r := r) k (fun f d h1 h2 h3 => h f d h1 (by omega) h3)
    have h1 := h k (-1) (by omega) (by omega) (.inr rfl)
    have h2 := h k 1 (by omega) (by omega) (.inl rfl)
    show cntL r k + _ + _ = 0
    rw [h0, if_neg h1, if_neg h2]
theorem press_no {r : LV} {f d : Int} (h : pressIs r f d = false) : pressR r f d = r := by unfold pressR; rw [h]; rfl
theorem clear_no {r : LV} {f d g : Int} (h : isR r f d g = false) : clearR r f d g = r := by unfold clearR; rw [h]; rfl
theorem isR_no {r : LV} {f d g : Int} (h : ¬ (0 < g ∧ litR r f d = g)) : isR r f d g = false := by
  rw [← Bool.not_eq_true, isR_iff]
  exact h
theorem lit_len (r : LV) (k : Int) : ((litTo r k.toNat).len : Int) = cntL r k.toNat := by rw [litTo_cnt]

def C_number : Ctr := ⟨[.one (.int .i64), .one (.int .i64)], [.one (.int .i64)],
  fun | [.i n, .i b] => 0 < b ∧ b ≤ 4611686018427387904 | _ => False,
  fun | [.i n, .i b] => [.i (number n b)] | _ => []⟩
theorem number_pre {ls : List Leaf} (h_ : C_number.pre ls) : ∃ (n : Int) (b : Int), ls = [.i n, .i b] ∧ (0 < b ∧ b ≤ 4611686018427387904) := by
  unfold C_number at h_; dsimp only at h_; split at h_
  · exact ⟨_, _, rfl, h_⟩
  · exact h_.elim
theorem number_mk {n : Int} {b : Int} (h_ : 0 < b ∧ b ≤ 4611686018427387904) : C_number.pre [.i n, .i b] := h_
theorem number_res {n : Int} {b : Int} {rs_ : List Leaf} (h_ : rs_ = C_number.fn [.i n, .i b]) : ∃ (q0 : Int), q0 = (number n b) ∧ rs_ = [.i q0] := ⟨_, rfl, h_⟩
def phi_number : Fm := (.ob [] (.not (.eq (.v 1) (.i 0))) (.and (.imp (.lt (.rem (.v 0) (.v 1)) (.i 0)) .true (.ret [(.i (.wrap .i64 (.add (.rem (.v 0) (.v 1)) (.v 1))))])) (.imp (.lt (.rem (.v 0) (.v 1)) (.i 0)) .false (.ret [(.i (.rem (.v 0) (.v 1)))]))))
def tbl_number : List (Nat × Ctr) := []
theorem vc_number : vcg Tryd.prog (sigT tbl_number) [] Tryd.f11 C_number.params C_number.res = some phi_number := by kernel_rfl
--SPLIT
theorem number_sound : C_number.Sound Tryd.prog G 11 := by
  refine fn_ok mixed stable tbl_number [] Tryd.func11 (by kernel_rfl) phi_number vc_number trivial (fun _ _ _ => False) (fun _ _ _ => 0) ?_
  intro ls hp
  obtain ⟨n, b, rfl, hpre⟩ := number_pre hp
  clear hp
  rw [envOf_lk]
  unfold phi_number
  refine ⟨fun hg => ?_, ?_⟩
  ·
    show (!(b == (0 : Int))) = true
    -- leaf 1 (ob)
    simp; omega
  refine ⟨fun hcond => ?_, fun hcond => ?_⟩
  ·
    have c1 : (decide ((Int.tmod n b) < (0 : Int))) = true := hcond
    clear hcond
    suffices hfin : ((IntKind.wrap .i64 ((Int.tmod n b) + b))) = (number n b) from (c_i hfin rfl)
    -- leaf 2 (ret)
    simp only [number]
    have h1 := Int.emod_nonneg n (show b ≠ 0 by omega)
    have h2 := Int.emod_lt_of_pos n (show 0 < b by omega)
    rcases number_cases n b hpre.1 with ⟨h3, _⟩ | ⟨h3, _⟩ <;> rw [h3] at c1 ⊢ <;> simp at c1 <;> (try simp (disch := omega) only [wrap_in]) <;> omega
  ·
    have c2 : (decide ((Int.tmod n b) < (0 : Int))) = false := hcond
    clear hcond
    suffices hfin : ((Int.tmod n b)) = (number n b) from (c_i hfin rfl)
    -- leaf 3 (ret)
    simp only [number]
    have h1 := Int.emod_nonneg n (show b ≠ 0 by omega)
    have h2 := Int.emod_lt_of_pos n (show 0 < b by omega)
    rcases number_cases n b hpre.1 with ⟨h3, _⟩ | ⟨h3, _⟩ <;> rw [h3] at c2 ⊢ <;> simp at c2 <;> (try simp (disch := omega) only [wrap_in]) <;> omega
def C_may : Ctr := ⟨[.one (.int .i64), .agg [.int .i64, .int .i64]], [.one (.bool)],
  fun | [.i fs, .i fl, .i dr] => -9223372036854775808 < fs ∧ fs < 9223372036854775808 | _ => False,
  fun | [.i fs, .i fl, .i dr] => [.b (mayP fs fl dr)] | _ => []⟩
theorem may_pre {ls : List Leaf} (h_ : C_may.pre ls) : ∃ (fs : Int) (fl : Int) (dr : Int), ls = [.i fs, .i fl, .i dr] ∧ (-9223372036854775808 < fs ∧ fs < 9223372036854775808) := by
  unfold C_may at h_; dsimp only at h_; split at h_
  · exact ⟨_, _, _, rfl, h_⟩
  · exact h_.elim
theorem may_mk {fs : Int} {fl : Int} {dr : Int} (h_ : -9223372036854775808 < fs ∧ fs < 9223372036854775808) : C_may.pre [.i fs, .i fl, .i dr] := h_
theorem may_res {fs : Int} {fl : Int} {dr : Int} {rs_ : List Leaf} (h_ : rs_ = C_may.fn [.i fs, .i fl, .i dr]) : ∃ (q0 : Bool), q0 = (mayP fs fl dr) ∧ rs_ = [.b q0] := ⟨_, rfl, h_⟩
def phi_may : Fm := (.and (.imp (.ite (.lt (.v 1) (.i 0)) (.t .true) (.le (.v 0) (.v 1))) .true (.ret [(.b (.t .false))])) (.imp (.ite (.lt (.v 1) (.i 0)) (.t .true) (.le (.v 0) (.v 1))) .false (.ret [(.b (.ite (.ite (.eq (.v 2) (.i 1)) (.lt (.v 1) (.wrap .i64 (.sub (.v 0) (.i 1)))) (.t .false)) (.t .true) (.ite (.eq (.v 2) (.i (Int.negSucc 0))) (.lt (.i 0) (.v 1)) (.t .false))))])))
def tbl_may : List (Nat × Ctr) := []
theorem vc_may : vcg Tryd.prog (sigT tbl_may) [] Tryd.f13 C_may.params C_may.res = some phi_may := by kernel_rfl
--SPLIT
theorem may_sound : C_may.Sound Tryd.prog G 13 := by
  refine fn_ok mixed stable tbl_may [] Tryd.func13 (by kernel_rfl) phi_may vc_may trivial (fun _ _ _ => False) (fun _ _ _ => 0) ?_
  intro ls hp
  obtain ⟨fs, fl, dr, rfl, hpre⟩ := may_pre hp
  clear hp
  rw [envOf_lk]
  unfold phi_may
  refine ⟨fun hcond => ?_, fun hcond => ?_⟩
  ·
    have c1 : (if (decide (fl < (0 : Int))) = true then true else (decide (fs ≤ fl))) = true := hcond
    clear hcond
    suffices hfin : (false) = (mayP fs fl dr) from (c_b hfin rfl)
    -- leaf 1 (ret)
    simp only [mayP]
    try simp (disch := omega) only [wrap_in] at *
    grind
  ·
    have c2 : (if (decide (fl < (0 : Int))) = true then true else (decide (fs ≤ fl))) = false := hcond
    clear hcond
    suffices hfin : ((if (if (dr == (1 : Int)) = true then (decide (fl < (IntKind.wrap .i64 (fs - (1 : Int))))) else false) = true then true else (if (dr == (-1)) = true then (decide ((0 : Int) < fl)) else false))) = (mayP fs fl dr) from (c_b hfin rfl)
    -- leaf 2 (ret)
    simp only [mayP]
    try simp (disch := omega) only [wrap_in] at *
    grind
def C_ris : Ctr := ⟨[.one (.obj 4), .agg [.int .i64, .int .i64, .int .i64]], [.one (.bool)],
  fun | [.l r, .i f, .i d, .i g] => (-9223372036854775808 ≤ f ∧ f < 9223372036854775808) ∧ (-9223372036854775808 ≤ d ∧ d < 9223372036854775808) | _ => False,
  fun | [.l r, .i f, .i d, .i g] => [.b (isR r f d g)] | _ => []⟩
theorem ris_pre {ls : List Leaf} (h_ : C_ris.pre ls) : ∃ (r : LV) (f : Int) (d : Int) (g : Int), ls = [.l r, .i f, .i d, .i g] ∧ ((-9223372036854775808 ≤ f ∧ f < 9223372036854775808) ∧ (-9223372036854775808 ≤ d ∧ d < 9223372036854775808)) := by
  unfold C_ris at h_; dsimp only at h_; split at h_
  · exact ⟨_, _, _, _, rfl, h_⟩
  · exact h_.elim
theorem ris_mk {r : LV} {f : Int} {d : Int} {g : Int} (h_ : (-9223372036854775808 ≤ f ∧ f < 9223372036854775808) ∧ (-9223372036854775808 ≤ d ∧ d < 9223372036854775808)) : C_ris.pre [.l r, .i f, .i d, .i g] := h_
theorem ris_res {r : LV} {f : Int} {d : Int} {g : Int} {rs_ : List Leaf} (h_ : rs_ = C_ris.fn [.l r, .i f, .i d, .i g]) : ∃ (q0 : Bool), q0 = (isR r f d g) ∧ rs_ = [.b q0] := ⟨_, rfl, h_⟩
def phi_ris : Fm := (.ob [((.lt (.i 0) (.v 3)), .true)] (.le (.i (Int.negSucc 9223372036854775807)) (.v 1)) (.ob [((.lt (.i 0) (.v 3)), .true)] (.lt (.v 1) (.i 9223372036854775808)) (.ob [((.lt (.i 0) (.v 3)), .true)] (.le (.i (Int.negSucc 9223372036854775807)) (.v 2)) (.ob [((.lt (.i 0) (.v 3)), .true)] (.lt (.v 2) (.i 9223372036854775808)) (.ret [(.b (.ite (.lt (.i 0) (.v 3)) (.eq (.gi 0 0 (.key 2 (.v 1) (.v 2))) (.v 3)) (.t .false)))])))))
def tbl_ris : List (Nat × Ctr) := []
theorem vc_ris : vcgO Tryd.prog (sigT tbl_ris) [] Tryd.f19 C_ris.params C_ris.res = some phi_ris := by kernel_rfl
--SPLIT
theorem ris_sound : C_ris.Sound Tryd.prog G 19 := by
  refine fn_okO mixed stable tbl_ris [] Tryd.func19 (by kernel_rfl) phi_ris vc_ris trivial (fun _ _ _ => False) (fun _ _ _ => 0) ?_
  intro ls hp
  obtain ⟨r, f, d, g, rfl, hpre⟩ := ris_pre hp
  clear hp
  rw [envOf_lk]
  unfold phi_ris
  refine ⟨fun hg => ?_, ?_⟩
  ·
    simp only [gd_cons, gd_nil, and_true] at hg
    replace hg : (decide ((0 : Int) < g)) = true := hg
    show (decide ((-9223372036854775808) ≤ f)) = true
    -- leaf 1 (ob)
    exact decide_eq_true (by omega)
  refine ⟨fun hg => ?_, ?_⟩
  ·
    simp only [gd_cons, gd_nil, and_true] at hg
    replace hg : (decide ((0 : Int) < g)) = true := hg
    show (decide (f < (9223372036854775808 : Int))) = true
    -- leaf 2 (ob)
    exact decide_eq_true (by omega)
  refine ⟨fun hg => ?_, ?_⟩
  ·
    simp only [gd_cons, gd_nil, and_true] at hg
    replace hg : (decide ((0 : Int) < g)) = true := hg
    show (decide ((-9223372036854775808) ≤ d)) = true
    -- leaf 3 (ob)
    exact decide_eq_true (by omega)
  refine ⟨fun hg => ?_, ?_⟩
  ·
    simp only [gd_cons, gd_nil, and_true] at hg
    replace hg : (decide ((0 : Int) < g)) = true := hg
    show (decide (d < (9223372036854775808 : Int))) = true
    -- leaf 4 (ob)
    exact decide_eq_true (by omega)
  suffices hfin : ((if (decide ((0 : Int) < g)) = true then ((r.gi (Int.toNat (keyI 2 f d)) 0) == g) else false)) = (isR r f d g) from (c_b hfin rfl)
  -- leaf 5 (ret)
  unfold isR litR
  cases decide (0 < g) <;> rfl
def C_rgen : Ctr := ⟨[.one (.obj 4), .agg [.int .i64, .int .i64]], [.one (.int .i64)],
  fun | [.l r, .i f, .i d] => (-9223372036854775808 ≤ f ∧ f < 9223372036854775808) ∧ (-9223372036854775808 ≤ d ∧ d < 9223372036854775808) | _ => False,
  fun | [.l r, .i f, .i d] => [.i (genR r f d)] | _ => []⟩
theorem rgen_pre {ls : List Leaf} (h_ : C_rgen.pre ls) : ∃ (r : LV) (f : Int) (d : Int), ls = [.l r, .i f, .i d] ∧ ((-9223372036854775808 ≤ f ∧ f < 9223372036854775808) ∧ (-9223372036854775808 ≤ d ∧ d < 9223372036854775808)) := by
  unfold C_rgen at h_; dsimp only at h_; split at h_
  · exact ⟨_, _, _, rfl, h_⟩
  · exact h_.elim
theorem rgen_mk {r : LV} {f : Int} {d : Int} (h_ : (-9223372036854775808 ≤ f ∧ f < 9223372036854775808) ∧ (-9223372036854775808 ≤ d ∧ d < 9223372036854775808)) : C_rgen.pre [.l r, .i f, .i d] := h_
theorem rgen_res {r : LV} {f : Int} {d : Int} {rs_ : List Leaf} (h_ : rs_ = C_rgen.fn [.l r, .i f, .i d]) : ∃ (q0 : Int), q0 = (genR r f d) ∧ rs_ = [.i q0] := ⟨_, rfl, h_⟩
def phi_rgen : Fm := (.ob [] (.le (.i (Int.negSucc 9223372036854775807)) (.v 1)) (.ob [] (.lt (.v 1) (.i 9223372036854775808)) (.ob [] (.le (.i (Int.negSucc 9223372036854775807)) (.v 2)) (.ob [] (.lt (.v 2) (.i 9223372036854775808)) (.ret [(.i (.gi 0 0 (.key 1 (.v 1) (.v 2))))])))))
def tbl_rgen : List (Nat × Ctr) := []
theorem vc_rgen : vcgO Tryd.prog (sigT tbl_rgen) [] Tryd.f21 C_rgen.params C_rgen.res = some phi_rgen := by kernel_rfl
--SPLIT
theorem rgen_sound : C_rgen.Sound Tryd.prog G 21 := by
  refine fn_okO mixed stable tbl_rgen [] Tryd.func21 (by kernel_rfl) phi_rgen vc_rgen trivial (fun _ _ _ => False) (fun _ _ _ => 0) ?_
  intro ls hp
  obtain ⟨r, f, d, rfl, hpre⟩ := rgen_pre hp
  clear hp
  rw [envOf_lk]
  unfold phi_rgen
  refine ⟨fun hg => ?_, ?_⟩
  ·
    show (decide ((-9223372036854775808) ≤ f)) = true
    -- leaf 1 (ob)
    exact decide_eq_true (by omega)
  refine ⟨fun hg => ?_, ?_⟩
  ·
    show (decide (f < (9223372036854775808 : Int))) = true
    -- leaf 2 (ob)
    exact decide_eq_true (by omega)
  refine ⟨fun hg => ?_, ?_⟩
  ·
    show (decide ((-9223372036854775808) ≤ d)) = true
    -- leaf 3 (ob)
    exact decide_eq_true (by omega)
  refine ⟨fun hg => ?_, ?_⟩
  ·
    show (decide (d < (9223372036854775808 : Int))) = true
    -- leaf 4 (ob)
    exact decide_eq_true (by omega)
  suffices hfin : ((r.gi (Int.toNat (keyI 1 f d)) 0)) = (genR r f d) from (c_i hfin rfl)
  -- leaf 5 (ret)
  rfl
def C_rclear : Ctr := ⟨[.one (.mut 4), .agg [.int .i64, .int .i64, .int .i64]], [.one (.bool)],
  fun | [.l r, .i f, .i d, .i g] => (-9223372036854775808 ≤ f ∧ f < 9223372036854775808) ∧ (-9223372036854775808 ≤ d ∧ d < 9223372036854775808) | _ => False,
  fun | [.l r, .i f, .i d, .i g] => [.l (clearR r f d g), .b (isR r f d g)] | _ => []⟩
theorem rclear_pre {ls : List Leaf} (h_ : C_rclear.pre ls) : ∃ (r : LV) (f : Int) (d : Int) (g : Int), ls = [.l r, .i f, .i d, .i g] ∧ ((-9223372036854775808 ≤ f ∧ f < 9223372036854775808) ∧ (-9223372036854775808 ≤ d ∧ d < 9223372036854775808)) := by
  unfold C_rclear at h_; dsimp only at h_; split at h_
  · exact ⟨_, _, _, _, rfl, h_⟩
  · exact h_.elim
theorem rclear_mk {r : LV} {f : Int} {d : Int} {g : Int} (h_ : (-9223372036854775808 ≤ f ∧ f < 9223372036854775808) ∧ (-9223372036854775808 ≤ d ∧ d < 9223372036854775808)) : C_rclear.pre [.l r, .i f, .i d, .i g] := h_
theorem rclear_res {r : LV} {f : Int} {d : Int} {g : Int} {rs_ : List Leaf} (h_ : rs_ = C_rclear.fn [.l r, .i f, .i d, .i g]) : ∃ (q0 : LV) (q1 : Bool), q0 = (clearR r f d g) ∧ q1 = (isR r f d g) ∧ rs_ = [.l q0, .b q1] := ⟨_, _, rfl, rfl, h_⟩
def phi_rclear : Fm := (.call 19 [] [(.o 0 (.ptr 0 0)), (.i (.v 1)), (.i (.v 2)), (.i (.v 3))] 4 (.and (.imp (.v 4) .false (.ret [(.l 0), (.b (.t .false))])) (.imp (.v 4) .true (.ob [] (.le (.i (Int.negSucc 9223372036854775807)) (.v 1)) (.ob [] (.lt (.v 1) (.i 9223372036854775808)) (.ob [] (.le (.i (Int.negSucc 9223372036854775807)) (.v 2)) (.ob [] (.lt (.v 2) (.i 9223372036854775808)) (.lett (.upd 0 (.key 2 (.v 1) (.v 2)) (.i 0)) 5 (.ret [(.l 5), (.b (.t .true))])))))))))
def tbl_rclear : List (Nat × Ctr) := [(19, C_ris)]
theorem vc_rclear : vcgO Tryd.prog (sigT tbl_rclear) [] Tryd.f20 C_rclear.params C_rclear.res = some phi_rclear := by kernel_rfl
--SPLIT
theorem rclear_sound : C_rclear.Sound Tryd.prog G 20 := by
  refine fn_okO mixed stable tbl_rclear [] Tryd.func20 (by kernel_rfl) phi_rclear vc_rclear ⟨ris_sound, trivial⟩ (fun _ _ _ => False) (fun _ _ _ => 0) ?_
  intro ls hp
  obtain ⟨r, f, d, g, rfl, hpre⟩ := rclear_pre hp
  clear hp
  rw [envOf_lk]
  unfold phi_rclear
  refine vg_call (C := C_ris) rfl rfl (xs := [.l r, .i f, .i d, .i g]) rfl (fun hg => ?_) (fun rs hrs => ?_)
  ·
    refine ris_mk ?_
    -- leaf 1 (pre)
    exact hpre
  obtain ⟨r4, hr4, rfl⟩ := ris_res hrs
  clear hrs
  change Fm.holds _ _ (lk [.l r, .i f, .i d, .i g, .b r4])
  refine ⟨fun hcond => ?_, fun hcond => ?_⟩
  ·
    have c1 : r4 = false := hcond
    clear hcond
    suffices hfin : (r) = (clearR r f d g) ∧ (false) = (isR r f d g) from (c_l hfin.1 (c_b hfin.2 rfl))
    -- leaf 2 (ret)
    have e : isR r f d g = false := hr4.symm.trans c1
    refine ⟨?_, e.symm⟩
    unfold clearR
    rw [e]
    rfl
  ·
    have c2 : r4 = true := hcond
    clear hcond
    refine ⟨fun hg => ?_, ?_⟩
    ·
      show (decide ((-9223372036854775808) ≤ f)) = true
      -- leaf 3 (ob)
      exact decide_eq_true (by omega)
    refine ⟨fun hg => ?_, ?_⟩
    ·
      show (decide (f < (9223372036854775808 : Int))) = true
      -- leaf 4 (ob)
      exact decide_eq_true (by omega)
    refine ⟨fun hg => ?_, ?_⟩
    ·
      show (decide ((-9223372036854775808) ≤ d)) = true
      -- leaf 5 (ob)
      exact decide_eq_true (by omega)
    refine ⟨fun hg => ?_, ?_⟩
    ·
      show (decide (d < (9223372036854775808 : Int))) = true
      -- leaf 6 (ob)
      exact decide_eq_true (by omega)
    refine vg_lett rfl (x := (LV.upd r (keyI 2 f d) (0 : Int))) rfl (fun r5 hr5 => ?_)
    change Fm.holds _ _ (lk [.l r, .i f, .i d, .i g, .b r4, .l r5])
    suffices hfin : (r5) = (clearR r f d g) ∧ (true) = (isR r f d g) from (c_l hfin.1 (c_b hfin.2 rfl))
    -- leaf 7 (ret)
    have e : isR r f d g = true := hr4.symm.trans c2
    refine ⟨?_, e.symm⟩
    unfold clearR
    rw [if_pos e, hr5]
def C_rpress : Ctr := ⟨[.one (.mut 4), .agg [.int .i64, .int .i64]], [.agg [.int .i64, .int .i64, .int .i64], .one (.bool)],
  fun | [.l r, .i f, .i d] => (2 ≤ r.gi 0 0 ∧ r.gi 0 0 ≤ 64) ∧ (-9223372036854775808 ≤ f ∧ f < 9223372036854775808) ∧ (-9223372036854775808 ≤ d ∧ d < 9223372036854775808) | _ => False,
  fun | [.l r, .i f, .i d] => [.l (pressR r f d), .i (if pressIs r f d = true then f else 0), .i (if pressIs r f d = true then d else 0), .i (pressG r f d), .b (pressIs r f d)] | _ => []⟩
theorem rpress_pre {ls : List Leaf} (h_ : C_rpress.pre ls) : ∃ (r : LV) (f : Int) (d : Int), ls = [.l r, .i f, .i d] ∧ ((2 ≤ r.gi 0 0 ∧ r.gi 0 0 ≤ 64) ∧ (-9223372036854775808 ≤ f ∧ f < 9223372036854775808) ∧ (-9223372036854775808 ≤ d ∧ d < 9223372036854775808)) := by
  unfold C_rpress at h_; dsimp only at h_; split at h_
  · exact ⟨_, _, _, rfl, h_⟩
  · exact h_.elim
theorem rpress_mk {r : LV} {f : Int} {d : Int} (h_ : (2 ≤ r.gi 0 0 ∧ r.gi 0 0 ≤ 64) ∧ (-9223372036854775808 ≤ f ∧ f < 9223372036854775808) ∧ (-9223372036854775808 ≤ d ∧ d < 9223372036854775808)) : C_rpress.pre [.l r, .i f, .i d] := h_
theorem rpress_res {r : LV} {f : Int} {d : Int} {rs_ : List Leaf} (h_ : rs_ = C_rpress.fn [.l r, .i f, .i d]) : ∃ (q0 : LV) (q1 : Int) (q2 : Int) (q3 : Int) (q4 : Bool), q0 = (pressR r f d) ∧ q1 = (if pressIs r f d = true then f else 0) ∧ q2 = (if pressIs r f d = true then d else 0) ∧ q3 = (pressG r f d) ∧ q4 = (pressIs r f d) ∧ rs_ = [.l q0, .i q1, .i q2, .i q3, .b q4] := ⟨_, _, _, _, _, rfl, rfl, rfl, rfl, rfl, h_⟩
def phi_rpress : Fm := (.call 13 [] [(.i (.gi 0 0 (.i 0))), (.i (.v 1)), (.i (.v 2))] 3 (.ob [((.not (.v 3)), .false)] (.le (.i (Int.negSucc 9223372036854775807)) (.v 1)) (.ob [((.not (.v 3)), .false)] (.lt (.v 1) (.i 9223372036854775808)) (.ob [((.not (.v 3)), .false)] (.le (.i (Int.negSucc 9223372036854775807)) (.v 2)) (.ob [((.not (.v 3)), .false)] (.lt (.v 2) (.i 9223372036854775808)) (.and (.imp (.ite (.not (.v 3)) (.t .true) (.lt (.i 0) (.gi 0 0 (.key 2 (.v 1) (.v 2))))) .true (.ret [(.l 0), (.i (.i 0)), (.i (.i 0)), (.i (.i 0)), (.b (.t .false))])) (.imp (.ite (.not (.v 3)) (.t .true) (.lt (.i 0) (.gi 0 0 (.key 2 (.v 1) (.v 2))))) .false (.ob [] (.le (.i (Int.negSucc 9223372036854775807)) (.v 1)) (.ob [] (.lt (.v 1) (.i 9223372036854775808)) (.ob [] (.le (.i (Int.negSucc 9223372036854775807)) (.v 2)) (.ob [] (.lt (.v 2) (.i 9223372036854775808)) (.lett (.upd 0 (.key 1 (.v 1) (.v 2)) (.wrap .i64 (.add (.gi 0 0 (.key 1 (.v 1) (.v 2))) (.i 1)))) 4 (.lett (.upd 4 (.key 2 (.v 1) (.v 2)) (.gi 4 0 (.key 1 (.v 1) (.v 2)))) 5 (.ret [(.l 5), (.i (.v 1)), (.i (.v 2)), (.i (.gi 5 0 (.key 1 (.v 1) (.v 2)))), (.b (.t .true))]))))))))))))))
def tbl_rpress : List (Nat × Ctr) := [(13, C_may)]
theorem vc_rpress : vcgO Tryd.prog (sigT tbl_rpress) [] Tryd.f14 C_rpress.params C_rpress.res = some phi_rpress := by kernel_rfl
--SPLIT
theorem rpress_sound : C_rpress.Sound Tryd.prog G 14 := by
  refine fn_okO mixed stable tbl_rpress [] Tryd.func14 (by kernel_rfl) phi_rpress vc_rpress ⟨may_sound, trivial⟩ (fun _ _ _ => False) (fun _ _ _ => 0) ?_
  intro ls hp
  obtain ⟨r, f, d, rfl, hpre⟩ := rpress_pre hp
  clear hp
  rw [envOf_lk]
  unfold phi_rpress
  refine vg_call (C := C_may) rfl rfl (xs := [.i (r.gi (Int.toNat (0 : Int)) 0), .i f, .i d]) rfl (fun hg => ?_) (fun rs hrs => ?_)
  ·
    refine may_mk ?_
    -- leaf 1 (pre)
    show -9223372036854775808 < r.gi 0 0 ∧ r.gi 0 0 < 9223372036854775808
    omega
  obtain ⟨r3, hr3, rfl⟩ := may_res hrs
  clear hrs
  change Fm.holds _ _ (lk [.l r, .i f, .i d, .b r3])
  refine ⟨fun hg => ?_, ?_⟩
  ·
    simp only [gd_cons, gd_nil, and_true] at hg
    replace hg : (!r3) = false := hg
    show (decide ((-9223372036854775808) ≤ f)) = true
    -- leaf 2 (ob)
    exact decide_eq_true (by omega)
  refine ⟨fun hg => ?_, ?_⟩
  ·
    simp only [gd_cons, gd_nil, and_true] at hg
    replace hg : (!r3) = false := hg
    show (decide (f < (9223372036854775808 : Int))) = true
    -- leaf 3 (ob)
    exact decide_eq_true (by omega)
  refine ⟨fun hg => ?_, ?_⟩
  ·
    simp only [gd_cons, gd_nil, and_true] at hg
    replace hg : (!r3) = false := hg
    show (decide ((-9223372036854775808) ≤ d)) = true
    -- leaf 4 (ob)
    exact decide_eq_true (by omega)
  refine ⟨fun hg => ?_, ?_⟩
  ·
    simp only [gd_cons, gd_nil, and_true] at hg
    replace hg : (!r3) = false := hg
    show (decide (d < (9223372036854775808 : Int))) = true
    -- leaf 5 (ob)
    exact decide_eq_true (by omega)
  refine ⟨fun hcond => ?_, fun hcond => ?_⟩
  ·
    have c1 : (if (!r3) = true then true else (decide ((0 : Int) < (r.gi (Int.toNat (keyI 2 f d)) 0)))) = true := hcond
    clear hcond
    suffices hfin : (r) = (pressR r f d) ∧ ((0 : Int)) = (if pressIs r f d = true then f else 0) ∧ ((0 : Int)) = (if pressIs r f d = true then d else 0) ∧ ((0 : Int)) = (pressG r f d) ∧ (false) = (pressIs r f d) from (c_l hfin.1 (c_i hfin.2.1 (c_i hfin.2.2.1 (c_i hfin.2.2.2.1 (c_b hfin.2.2.2.2 rfl)))))
    -- leaf 6 (ret)
    have e : pressIs r f d = false := by
      unfold pressIs litR
      rw [show mayP (r.gi 0 0) f d = r3 from hr3.symm]
      revert c1
      cases r3 <;> cases decide (0 < r.gi (Int.toNat (keyI 2 f d)) 0) <;> simp
    unfold pressR pressG
    rw [e]
    exact ⟨rfl, rfl, rfl, rfl, rfl⟩
  ·
    have c2 : (if (!r3) = true then true else (decide ((0 : Int) < (r.gi (Int.toNat (keyI 2 f d)) 0)))) = false := hcond
    clear hcond
    refine ⟨fun hg => ?_, ?_⟩
    ·
      show (decide ((-9223372036854775808) ≤ f)) = true
      -- leaf 7 (ob)
      exact decide_eq_true (by omega)
    refine ⟨fun hg => ?_, ?_⟩
    ·
      show (decide (f < (9223372036854775808 : Int))) = true
      -- leaf 8 (ob)
      exact decide_eq_true (by omega)
    refine ⟨fun hg => ?_, ?_⟩
    ·
      show (decide ((-9223372036854775808) ≤ d)) = true
      -- leaf 9 (ob)
      exact decide_eq_true (by omega)
    refine ⟨fun hg => ?_, ?_⟩
    ·
      show (decide (d < (9223372036854775808 : Int))) = true
      -- leaf 10 (ob)
      exact decide_eq_true (by omega)
    refine vg_lett rfl (x := (LV.upd r (keyI 1 f d) (IntKind.wrap .i64 ((r.gi (Int.toNat (keyI 1 f d)) 0) + (1 : Int))))) rfl (fun r4 hr4 => ?_)
    change Fm.holds _ _ (lk [.l r, .i f, .i d, .b r3, .l r4])
    refine vg_lett rfl (x := (LV.upd r4 (keyI 2 f d) (r4.gi (Int.toNat (keyI 1 f d)) 0))) rfl (fun r5 hr5 => ?_)
    change Fm.holds _ _ (lk [.l r, .i f, .i d, .b r3, .l r4, .l r5])
    suffices hfin : (r5) = (pressR r f d) ∧ (f) = (if pressIs r f d = true then f else 0) ∧ (d) = (if pressIs r f d = true then d else 0) ∧ ((r5.gi (Int.toNat (keyI 1 f d)) 0)) = (pressG r f d) ∧ (true) = (pressIs r f d) from (c_l hfin.1 (c_i hfin.2.1 (c_i hfin.2.2.1 (c_i hfin.2.2.2.1 (c_b hfin.2.2.2.2 rfl)))))
    -- leaf 11 (ret)
    have e : pressIs r f d = true := by
      unfold pressIs litR
      rw [show mayP (r.gi 0 0) f d = r3 from hr3.symm]
      revert c2
      cases r3 <;> cases decide (0 < r.gi (Int.toNat (keyI 2 f d)) 0) <;> simp
    have e5 : r5 = pressR r f d := by
      unfold pressR
      rw [if_pos e, hr5, hr4]
      rfl
    refine ⟨e5, (if_pos e).symm, (if_pos e).symm, ?_, e.symm⟩
    unfold pressG
    rw [if_pos e, e5]
    rfl
def C_rlit : Ctr := ⟨[.one (.obj 4)], [.one (.lst [.int .i64, .int .i64, .int .i64])],
  fun | [.l r] => 0 ≤ r.gi 0 0 ∧ r.gi 0 0 ≤ 64 | _ => False,
  fun | [.l r] => [.l (litTo r (r.gi 0 0).toNat)] | _ => []⟩
theorem rlit_pre {ls : List Leaf} (h_ : C_rlit.pre ls) : ∃ (r : LV), ls = [.l r] ∧ (0 ≤ r.gi 0 0 ∧ r.gi 0 0 ≤ 64) := by
  unfold C_rlit at h_; dsimp only at h_; split at h_
  · exact ⟨_, rfl, h_⟩
  · exact h_.elim
theorem rlit_mk {r : LV} (h_ : 0 ≤ r.gi 0 0 ∧ r.gi 0 0 ≤ 64) : C_rlit.pre [.l r] := h_
theorem rlit_res {r : LV} {rs_ : List Leaf} (h_ : rs_ = C_rlit.fn [.l r]) : ∃ (q0 : LV), q0 = (litTo r (r.gi 0 0).toNat) ∧ rs_ = [.l q0] := ⟨_, rfl, h_⟩
def inv_rlit_3 (r : LV) (x : LV) (i : Int) : Prop := 0 ≤ i ∧ i ≤ r.gi 0 0 ∧ x = litTo r i.toNat
def meas_rlit_3 (r : LV) (x : LV) (i : Int) : Nat := (r.gi 0 0 - i).toNat
def inv_rlit_6 (r : LV) (f : Int) (x : LV) (j : Int) : Prop := 0 ≤ j ∧ j ≤ 2 ∧ x = litIn r f j.toNat
def meas_rlit_6 (r : LV) (f : Int) (x : LV) (j : Int) : Nat := (2 - j).toNat
def phi_rlit : Fm := (.loop 3 1 [0] [(.c 1 .nilsl []), (.i (.i 0))] [.l, .i] (.and (.imp (.lt (.v 2) (.gi 0 0 (.i 0))) .true (.loop 6 3 [0, 2] [(.l 1), (.i (.i 0))] [.l, .i] (.and (.imp (.lt (.v 4) (.i 2)) .true (.ob [] (.le (.i 0) (.v 4)) (.ob [] (.le (.i (Int.negSucc 9223372036854775807)) (.v 2)) (.ob [] (.lt (.v 2) (.i 9223372036854775808)) (.ob [] (.le (.i (Int.negSucc 9223372036854775807)) (.ite (.eq (.v 4) (.i 0)) (.i (Int.negSucc 0)) (.i 1))) (.ob [] (.lt (.ite (.eq (.v 4) (.i 0)) (.i (Int.negSucc 0)) (.i 1)) (.i 9223372036854775808)) (.and (.imp (.lt (.i 0) (.gi 0 0 (.key 2 (.v 2) (.ite (.eq (.v 4) (.i 0)) (.i (Int.negSucc 0)) (.i 1))))) .true (.app (.l 3) [(.v 2), (.ite (.eq (.v 4) (.i 0)) (.i (Int.negSucc 0)) (.i 1)), (.gi 0 0 (.key 2 (.v 2) (.ite (.eq (.v 4) (.i 0)) (.i (Int.negSucc 0)) (.i 1))))] 5 (.back 6 3 5 [0, 2] [(.l 5), (.i (.wrap .i64 (.add (.v 4) (.i 1))))]))) (.imp (.lt (.i 0) (.gi 0 0 (.key 2 (.v 2) (.ite (.eq (.v 4) (.i 0)) (.i (Int.negSucc 0)) (.i 1))))) .false (.back 6 3 5 [0, 2] [(.l 3), (.i (.wrap .i64 (.add (.v 4) (.i 1))))]))))))))) (.imp (.lt (.v 4) (.i 2)) .false (.back 3 1 3 [0] [(.l 3), (.i (.wrap .i64 (.add (.v 2) (.i 1))))]))))) (.imp (.lt (.v 2) (.gi 0 0 (.i 0))) .false (.ret [(.l 1)]))))
def tbl_rlit : List (Nat × Ctr) := []
def inv_rlit : List Leaf → Nat → List Leaf → Prop := fun _ key xs => match key, xs with
  | 3, [.l r, .l x, .i i] => inv_rlit_3 r x i
  | 6, [.l r, .i f, .l x, .i j] => inv_rlit_6 r f x j
  | _, _ => False
def meas_rlit : List Leaf → Nat → List Leaf → Nat := fun _ key xs => match key, xs with
  | 3, [.l r, .l x, .i i] => meas_rlit_3 r x i
  | 6, [.l r, .i f, .l x, .i j] => meas_rlit_6 r f x j
  | _, _ => 0
theorem vc_rlit : vcgO Tryd.prog (sigT tbl_rlit) [⟨3, [4, 6, 7, 8, 14, 15, 16, 17, 18, 19, 20, 21, 22, 23, 24, 25, 26, 27, 28, 29, 30, 31, 32, 33, 34, 35, 36, 37, 38, 39, 40], [3, 13], [], [0], some (33, [.i64, .i64, .i64]), []⟩, ⟨6, [6, 7, 8, 19, 20, 21, 22, 23, 24, 25, 26, 27, 28, 29, 30, 31, 32, 33, 34, 35, 36, 37, 38, 39], [3, 18], [], [0, 2], some (33, [.i64, .i64, .i64]), []⟩] Tryd.f15 C_rlit.params C_rlit.res = some phi_rlit := by kernel_rfl
--SPLIT
theorem rlit_sound : C_rlit.Sound Tryd.prog G 15 := by
  refine fn_okO mixed stable tbl_rlit [⟨3, [4, 6, 7, 8, 14, 15, 16, 17, 18, 19, 20, 21, 22, 23, 24, 25, 26, 27, 28, 29, 30, 31, 32, 33, 34, 35, 36, 37, 38, 39, 40], [3, 13], [], [0], some (33, [.i64, .i64, .i64]), []⟩, ⟨6, [6, 7, 8, 19, 20, 21, 22, 23, 24, 25, 26, 27, 28, 29, 30, 31, 32, 33, 34, 35, 36, 37, 38, 39], [3, 18], [], [0, 2], some (33, [.i64, .i64, .i64]), []⟩] Tryd.func15 (by kernel_rfl) phi_rlit vc_rlit trivial inv_rlit meas_rlit ?_
  intro ls hp
  obtain ⟨r, rfl, hpre⟩ := rlit_pre hp
  clear hp
  rw [envOf_lk]
  unfold phi_rlit
  refine vg_loop rfl ?_ (fun xs hfit hi => ?_)
  ·
    show inv_rlit_3 r nilLV (0 : Int)
    -- leaf 1 (init)
    exact ⟨by omega, by omega, rfl⟩
  obtain ⟨x1, xs0, rfl, hfit0⟩ := fits_l hfit
  obtain ⟨x2, xs1, rfl, hfit1⟩ := fits_i hfit0
  obtain rfl := fits_nil hfit1
  clear hfit hfit0 hfit1
  replace hi : inv_rlit_3 r x1 x2 := hi
  have hi3 := hi; clear hi
  change Fm.holds _ _ (lk [.l r, .l x1, .i x2])
  obtain ⟨i0, i1, i2⟩ := hi3
  have e0 : r.gi (Int.toNat (0 : Int)) 0 = r.gi 0 0 := rfl
  have e1 : x2 < r.gi 0 0 → IntKind.wrap .i64 (x2 + 1) = x2 + 1 := fun h => wrap_in (by omega) (by omega)
  refine ⟨fun hcond => ?_, fun hcond => ?_⟩
  ·
    have c1 : (decide (x2 < (r.gi (Int.toNat (0 : Int)) 0))) = true := hcond
    clear hcond
    refine vg_loop rfl ?_ (fun xs hfit hi => ?_)
    ·
      show inv_rlit_6 r x2 x1 (0 : Int)
      -- leaf 2 (init)
      exact ⟨by omega, by omega, by rw [i2]; rfl⟩
    obtain ⟨x3, xs0, rfl, hfit0⟩ := fits_l hfit
    obtain ⟨x4, xs1, rfl, hfit1⟩ := fits_i hfit0
    obtain rfl := fits_nil hfit1
    clear hfit hfit0 hfit1
    replace hi : inv_rlit_6 r x2 x3 x4 := hi
    have hi6 := hi; clear hi
    change Fm.holds _ _ (lk [.l r, .l x1, .i x2, .l x3, .i x4])
    obtain ⟨k0, k1, k2⟩ := hi6
    have hx2 := of_decide_eq_true c1
    rw [e0] at hx2
    have eL := litIn_len r x2 x4.toNat
    rw [← k2] at eL
    have ed : (if (x4 == (0 : Int)) = true then (-1) else (1 : Int)) = if x4 = 0 then -1 else 1 := by
      by_cases h : x4 = 0 <;> simp [h]
    refine ⟨fun hcond => ?_, fun hcond => ?_⟩
    ·
      have c2 : (decide (x4 < (2 : Int))) = true := hcond
      clear hcond
      refine ⟨fun hg => ?_, ?_⟩
      ·
        show (decide ((0 : Int) ≤ x4)) = true
        -- leaf 3 (ob)
        try rw [ed]
        refine decide_eq_true ?_
        first
        | omega
        | (split <;> omega)
      refine ⟨fun hg => ?_, ?_⟩
      ·
        show (decide ((-9223372036854775808) ≤ x2)) = true
        -- leaf 4 (ob)
        try rw [ed]
        refine decide_eq_true ?_
        first
        | omega
        | (split <;> omega)
      refine ⟨fun hg => ?_, ?_⟩
      ·
        show (decide (x2 < (9223372036854775808 : Int))) = true
        -- leaf 5 (ob)
        try rw [ed]
        refine decide_eq_true ?_
        first
        | omega
        | (split <;> omega)
      refine ⟨fun hg => ?_, ?_⟩
      ·
        show (decide ((-9223372036854775808) ≤ (if (x4 == (0 : Int)) = true then (-1) else (1 : Int)))) = true
        -- leaf 6 (ob)
        try rw [ed]
        refine decide_eq_true ?_
        first
        | omega
        | (split <;> omega)
      refine ⟨fun hg => ?_, ?_⟩
      ·
        show (decide ((if (x4 == (0 : Int)) = true then (-1) else (1 : Int)) < (9223372036854775808 : Int))) = true
        -- leaf 7 (ob)
        try rw [ed]
        refine decide_eq_true ?_
        first
        | omega
        | (split <;> omega)
      refine ⟨fun hcond => ?_, fun hcond => ?_⟩
      ·
        have c3 : (decide ((0 : Int) < (r.gi (Int.toNat (keyI 2 x2 (if (x4 == (0 : Int)) = true then (-1) else (1 : Int)))) 0))) = true := hcond
        clear hcond
        refine vg_app rfl (x := x3) (y := [x2, (if (x4 == (0 : Int)) = true then (-1) else (1 : Int)), (r.gi (Int.toNat (keyI 2 x2 (if (x4 == (0 : Int)) = true then (-1) else (1 : Int)))) 0)]) rfl rfl ?_ (fun r5 hr5 => ?_)
        ·
          show ((x3).len : Int) < 1000000000
          -- leaf 8 (app)
          omega
        change Fm.holds _ _ (lk [.l r, .l x1, .i x2, .l x3, .i x4, .l r5])
        refine ⟨?_, ?_⟩
        ·
          show inv_rlit_6 r x2 r5 (IntKind.wrap .i64 (x4 + (1 : Int)))
          -- leaf 9 (back)
          have hlt := of_decide_eq_true c2
          have e3 : IntKind.wrap .i64 (x4 + 1) = x4 + 1 := wrap_in (by omega) (by omega)
          rw [e3]
          refine ⟨by omega, by omega, ?_⟩
          have h3 := of_decide_eq_true c3
          rw [ed] at h3 hr5
          rcases (show x4 = 0 ∨ x4 = 1 by omega) with rfl | rfl
          · rw [hr5, k2]
            exact (litAt_yes h3).symm
          · rw [hr5, k2]
            exact (litAt_yes h3).symm
        ·
          show meas_rlit_6 r x2 r5 (IntKind.wrap .i64 (x4 + (1 : Int))) < meas_rlit_6 r x2 x3 x4
          -- leaf 10 (meas)
          have hlt := of_decide_eq_true c2
          have e3 : IntKind.wrap .i64 (x4 + 1) = x4 + 1 := wrap_in (by omega) (by omega)
          unfold meas_rlit_6
          rw [e3]
          omega
      ·
        have c4 : (decide ((0 : Int) < (r.gi (Int.toNat (keyI 2 x2 (if (x4 == (0 : Int)) = true then (-1) else (1 : Int)))) 0))) = false := hcond
        clear hcond
        refine ⟨?_, ?_⟩
        ·
          show inv_rlit_6 r x2 x3 (IntKind.wrap .i64 (x4 + (1 : Int)))
          -- leaf 11 (back)
          have hlt := of_decide_eq_true c2
          have e3 : IntKind.wrap .i64 (x4 + 1) = x4 + 1 := wrap_in (by omega) (by omega)
          rw [e3]
          refine ⟨by omega, by omega, ?_⟩
          have h3 := of_decide_eq_false c4
          rw [ed] at h3
          rcases (show x4 = 0 ∨ x4 = 1 by omega) with rfl | rfl
          · rw [k2]
            exact (litAt_no h3).symm
          · rw [k2]
            exact (litAt_no h3).symm
        ·
          show meas_rlit_6 r x2 x3 (IntKind.wrap .i64 (x4 + (1 : Int))) < meas_rlit_6 r x2 x3 x4
          -- leaf 12 (meas)
          have hlt := of_decide_eq_true c2
          have e3 : IntKind.wrap .i64 (x4 + 1) = x4 + 1 := wrap_in (by omega) (by omega)
          unfold meas_rlit_6
          rw [e3]
          omega
    ·
      have c5 : (decide (x4 < (2 : Int))) = false := hcond
      clear hcond
      refine ⟨?_, ?_⟩
      ·
        show inv_rlit_3 r x3 (IntKind.wrap .i64 (x2 + (1 : Int)))
        -- leaf 13 (back)
        have hge := of_decide_eq_false c5
        have hx := of_decide_eq_true c1
        rw [e1 hx]
        refine ⟨by omega, by omega, ?_⟩
        have : x4 = 2 := by omega
        subst this
        rw [k2]
        rw [show (x2 + 1).toNat = x2.toNat + 1 by omega]
        have e4 : ((x2.toNat : Nat) : Int) = x2 := by omega
        show litAt r x2 1 (litAt r x2 (-1) (litTo r x2.toNat)) = litAt r ((x2.toNat : Nat) : Int) 1 (litAt r ((x2.toNat : Nat) : Int) (-1) (litTo r x2.toNat))
        rw [e4]
      ·
        show meas_rlit_3 r x3 (IntKind.wrap .i64 (x2 + (1 : Int))) < meas_rlit_3 r x1 x2
        -- leaf 14 (meas)
        have hx := of_decide_eq_true c1
        unfold meas_rlit_3
        rw [e1 hx]
        omega
  ·
    have c6 : (decide (x2 < (r.gi (Int.toNat (0 : Int)) 0))) = false := hcond
    clear hcond
    suffices hfin : (x1) = (litTo r (r.gi 0 0).toNat) from (c_l hfin rfl)
    -- leaf 15 (ret)
    have hge := of_decide_eq_false c6
    rw [e0] at hge
    have : x2 = r.gi 0 0 := by omega
    rw [i2, this]
def C_rnew : Ctr := ⟨[.one (.int .i64)], [.one (.new 4 false), .one (.opq)],
  fun | [.i fs] => 2 ≤ fs ∧ fs ≤ 64 | _ => False,
  fun | [.i fs] => [.l (newR fs), .v (.nilIface)] | _ => []⟩
theorem rnew_pre {ls : List Leaf} (h_ : C_rnew.pre ls) : ∃ (fs : Int), ls = [.i fs] ∧ (2 ≤ fs ∧ fs ≤ 64) := by
  unfold C_rnew at h_; dsimp only at h_; split at h_
  · exact ⟨_, rfl, h_⟩
  · exact h_.elim
theorem rnew_mk {fs : Int} (h_ : 2 ≤ fs ∧ fs ≤ 64) : C_rnew.pre [.i fs] := h_
theorem rnew_res {fs : Int} {rs_ : List Leaf} (h_ : rs_ = C_rnew.fn [.i fs]) : ∃ (q0 : LV) (q1 : Value), q0 = (newR fs) ∧ q1 = (.nilIface) ∧ rs_ = [.l q0, .v q1] := ⟨_, _, rfl, rfl, h_⟩
set_option maxRecDepth 100000 in
set_option maxHeartbeats 1600000 in
theorem new_calls (fs : Int) (hp : 2 ≤ fs ∧ fs ≤ 64) (w : World) : Calls Tryd.prog 12 #[.int .i64 fs] w fun e w' => e = .returned (.tuple #[.pointer (some ⟨w.heap.size + 2, 0, none⟩), .nilIface]) ∧
    w' = ((w.alloc (.map #[] 0)).alloc (.map #[] 0)).alloc (.cells #[.int .i64 fs, .map (some w.heap.size), .map (some (w.heap.size + 1))] 73) := by
  have hmm := @Go.RowKit.run_makeMap Tryd.prog
  have h1 : ¬ fs < 2 := by omega
  have h2 : ¬ fs > 64 := by omega
  go_enter Tryd.func12, Tryd.ntmps12
  go_wp2
  go_ret2
  exact ⟨rfl, rfl⟩
theorem rnew_sound : C_rnew.Sound Tryd.prog G 12 := by
  refine Ctr.OSound.sound ⟨⟨_, Tryd.func12, by kernel_rfl, by kernel_rfl⟩, ?_⟩ rfl rfl
  intro ls S w F hG hp hpar hF
  obtain ⟨fs, rfl, hpre⟩ := rnew_pre hp
  have hF : F = [] := hF
  subst hF
  refine (new_calls fs hpre w).mono ?_
  rintro e w' ⟨rfl, rfl⟩
  have s1 := al_size w (.map #[] 0)
  have s2 := al_size (w.alloc (.map #[] 0)) (.map #[] 0)
  have s3 := al_size ((w.alloc (.map #[] 0)).alloc (.map #[] 0)) (.cells #[.int .i64 fs, .map (some w.heap.size), .map (some (w.heap.size + 1))] 73)
  have e1 : (((w.alloc (.map #[] 0)).alloc (.map #[] 0)).alloc (.cells #[.int .i64 fs, .map (some w.heap.size), .map (some (w.heap.size + 1))] 73)).heap[w.heap.size]? = some (.map #[] 0) := by
    rw [al_old _ _ (by omega), al_old _ _ (by omega), al_new]
  have e2 : (((w.alloc (.map #[] 0)).alloc (.map #[] 0)).alloc (.cells #[.int .i64 fs, .map (some w.heap.size), .map (some (w.heap.size + 1))] 73)).heap[w.heap.size + 1]? = some (.map #[] 0) := by
    rw [al_old _ _ (by omega), ← s1, al_new]
  have e3 : (((w.alloc (.map #[] 0)).alloc (.map #[] 0)).alloc (.cells #[.int .i64 fs, .map (some w.heap.size), .map (some (w.heap.size + 1))] 73)).heap[w.heap.size + 2]? = some (.cells #[.int .i64 fs, .map (some w.heap.size), .map (some (w.heap.size + 1))] 73) := by
    rw [show w.heap.size + 2 = ((w.alloc (.map #[] 0)).alloc (.map #[] 0)).heap.size by omega, al_new]
  refine ⟨⟨rfl, rfl, rfl, by omega, fun k hk _ => by rw [al_old _ _ (by omega), al_old _ _ (by omega), al_old _ _ hk]⟩, _, rfl, fun c hc => (by cases hc), fun n => if n = 0 then .pointer (some ⟨w.heap.size + 2, 0, none⟩) else undef, rfl, fun c nb hn => ?_⟩
  cases hn
  refine .inr ⟨fun h => (by cases h), [w.heap.size + 2, w.heap.size, w.heap.size + 1], ⟨_, _, rfl, rfl, ?_⟩, rfl, by simp, fun b hb => ?_⟩
  · refine ⟨rfl, _, _, _, 73, rfl, by simp, e3, mapAt_new e1 fun f d h1 h2 => newR_map fs (.inl rfl) h1 h2, mapAt_new e2 fun f d h1 h2 => newR_map fs (.inr rfl) h1 h2⟩
  · simp only [List.mem_cons, List.not_mem_nil, or_false] at hb
    omega

def C_rclone : Ctr := ⟨[.one (.obj 4)], [.one (.new 4 false)],
  fun | [.l _] => True | _ => False,
  fun | [.l r] => [.l (r)] | _ => []⟩
theorem rclone_pre {ls : List Leaf} (h_ : C_rclone.pre ls) : ∃ (r : LV), ls = [.l r] := by
  unfold C_rclone at h_; dsimp only at h_; split at h_
  · exact ⟨_, rfl⟩
  · exact h_.elim
theorem rclone_res {r : LV} {rs_ : List Leaf} (h_ : rs_ = C_rclone.fn [.l r]) : ∃ (q0 : LV), q0 = (r) ∧ rs_ = [.l q0] := ⟨_, rfl, h_⟩
set_option maxRecDepth 100000 in
set_option maxHeartbeats 4000000 in
theorem mclone_calls (b : Nat) (es : Array MapEntry) (clock : Nat) (w : World) (hb : w.heap[b]? = some (.map es clock)) :
    Calls Tryd.prog 41 #[.map (some b)] w fun e w' => e = .returned (.map (some w.heap.size)) ∧ w' = w.alloc (.map es clock) := by
  have hq := fun w => run_eql_map_nil_sl (P := Tryd.prog) w 71 _ _ (some b) Tryd.underlying71
  go_enter Tryd.func41, Tryd.ntmps41
  go_wp2
  rw [run_callFunc_extern Tryd.func47 (by kernel_rfl) (by kernel_rfl) (by kernel_rfl) (e := Extern.MapsClone.clone) (by kernel_rfl), run_maps_clone_sl w 71 hb]
  simp only [Result.andThen]
  rw [Oper.upon_value]
  go_wp2
  rw [run_typeAssert_map_sl _ 71 20 _ _ _ Tryd.underlying71]
  simp only [Result.andThen]
  rw [Oper.upon_value]
  go_wp2
  go_ret
  exact ⟨rfl, rfl⟩
def isBoxO (o : Oper) : Bool := match o.op with
  | .box .. => true
  | _ => false
def chB (o : Oper) : Bool := isCallF o || isBoxO o
section
variable {P : Program} {ops : Array Oper} {ch : Oper → Bool} {C : World → Prop} {Q : Act → World → Prop} {o : Oper} {rest : List Oper} {a : Act} {w : World}
theorem sx_pure (v : Value) (hC : C w) (hw : Region.wanted o (yielded ops a.tmps) = true) (hch : ch o = false) (hv : ∀ w, C w → (execOp a.eval o).run P w = .ok (.value v) w) (h : seqX P ops ch false C Q rest (a.put o.dst v) w) : seqX P ops ch false C Q (o :: rest) a w :=
  ⟨hC, .inr ⟨v, .inl ⟨hw, hch, hv⟩, h⟩⟩
theorem sx_call {f : FuncId} {vs : Array Value} (hC : C w) (hw : Region.wanted o (yielded ops a.tmps) = true) (hch : ch o = true) (hrun : (execOp a.eval o).run P w = .ok (.enter f vs) w)
    (h : Calls P f vs w fun e w' => ∃ v, e = .returned v ∧ C w' ∧ seqX P ops ch false C Q rest (a.put o.dst v) w') : seqX P ops ch false C Q (o :: rest) a w :=
  ⟨hC, .inl ⟨hch, hw, .inl ⟨f, vs, hrun, h.mono fun e w' ⟨v, he, h1, h2⟩ => ⟨v, he, .inl h1, h2⟩⟩⟩⟩
theorem sx_val (v : Value) (w' : World) (hC : C w) (hw : Region.wanted o (yielded ops a.tmps) = true) (hch : ch o = true) (hrun : (execOp a.eval o).run P w = .ok (.value v) w') (hC' : C w') (h : seqX P ops ch false C Q rest (a.put o.dst v) w') : seqX P ops ch false C Q (o :: rest) a w :=
  ⟨hC, .inl ⟨hch, hw, .inr ⟨v, w', .inl hrun, .inl hC', h⟩⟩⟩
end
set_option maxRecDepth 100000 in
set_option maxHeartbeats 4000000 in
theorem rclone_calls (b b1 b2 : Nat) (t : TypeId) (fs : Int) (es1 es2 : Array MapEntry) (c1 c2 : Nat) (w : World)
    (hc : w.heap[b]? = some (.cells #[.int .i64 fs, .map (some b1), .map (some b2)] t (0, 0))) (h1 : w.heap[b1]? = some (.map es1 c1)) (h2 : w.heap[b2]? = some (.map es2 c2)) :
    Calls Tryd.prog 17 #[.pointer (some ⟨b, 0, none⟩)] w fun e w' => e = .returned (.pointer (some ⟨w.heap.size + 2, 0, none⟩)) ∧
      w' = (((w.drew.alloc (.map es1 c1)).alloc (.map es2 c2)).alloc (.cells #[.int .i64 fs, .map (some w.heap.size), .map (some (w.heap.size + 1))] 73)) := by
  have old : ∀ (w' : World) (o : Obj) (k : Nat) (x : Obj), w'.heap[k]? = some x → (w'.alloc o).heap[k]? = some x := fun w' o k x hk => by
    rw [al_old _ _ (by rcases Nat.lt_or_ge k w'.heap.size with h | h; exact h; rw [Array.getElem?_eq_none h] at hk; cases hk)]
    exact hk
  let C : World → Prop := fun w' => w'.heap[b]? = some (.cells #[.int .i64 fs, .map (some b1), .map (some b2)] t (0, 0)) ∧ w'.heap[b1]? = some (.map es1 c1) ∧ w'.heap[b2]? = some (.map es2 c2)
  have hC0 : C w.drew := ⟨hc, h1, h2⟩
  have hCa : ∀ w' o, C w' → C (w'.alloc o) := fun w' o h => ⟨old _ _ _ _ h.1, old _ _ _ _ h.2.1, old _ _ _ _ h.2.2⟩
  have hC1 := hCa _ (.map es1 c1) hC0
  have hC2 := hCa _ (.map es2 c2) hC1
  have hC3 := hCa _ (.cells #[.int .i64 fs, .map (some w.heap.size), .map (some (w.heap.size + 1))] 73) hC2
  have k0 : ∀ w', C w' → w'.cell? ⟨b, 0, none⟩ = some (.int .i64 fs) := fun w' h => by simp [World.cell?, h.1]
  have k1 : ∀ w', C w' → w'.cell? ⟨b, 1, none⟩ = some (.map (some b1)) := fun w' h => by simp [World.cell?, h.1]
  have k2 : ∀ w', C w' → w'.cell? ⟨b, 2, none⟩ = some (.map (some b2)) := fun w' h => by simp [World.cell?, h.1]
  have m1 := mclone_calls b1 es1 c1 w.drew h1
  have m2 := mclone_calls b2 es2 c2 (w.drew.alloc (.map es1 c1)) hC1.2.2
  have z1 : (w.drew.alloc (.map es1 c1)).heap.size = w.heap.size + 1 := al_size _ _
  have z2 : ((w.drew.alloc (.map es1 c1)).alloc (.map es2 c2)).heap.size = w.heap.size + 2 := by rw [al_size, z1]
  rw [z1] at m2
  clear_value C
  go_enter Tryd.func17, Tryd.ntmps17
  go_wp2
  rename_i Q' K hK
  refine wp_region_chain (ch := chB) (fin := false) (C := C) mixed (by kernel_rfl) (by kernel_rfl) (fun h => by cases h) ?_
  refine sx_pure (.pointer (some ⟨b, 0, none⟩)) hC0 rfl rfl (fun w' hw' => by go_simp) ?_
  refine sx_pure (.pointer (some ⟨b, 0, none⟩)) hC0 rfl rfl (fun w' hw' => by go_simp) ?_
  refine sx_pure (.pointer (some ⟨b, 0, none⟩)) hC0 rfl rfl (fun w' hw' => by go_simp) ?_
  refine sx_pure (.int .i64 fs) hC0 rfl rfl (fun w' hw' => by have := k0 w' hw'; go_simp) ?_
  refine sx_pure (.pointer (some ⟨b, 0, none⟩)) hC0 rfl rfl (fun w' hw' => by go_simp) ?_
  refine sx_pure (.pointer (some ⟨b, 0, none⟩)) hC0 rfl rfl (fun w' hw' => by go_simp) ?_
  refine sx_pure (.pointer (some ⟨b, 1, none⟩)) hC0 rfl rfl (fun w' hw' => by go_simp) ?_
  refine sx_pure (.map (some b1)) hC0 rfl rfl (fun w' hw' => by have := k1 w' hw'; go_simp) ?_
  refine sx_call (f := 41) (vs := #[.map (some b1)]) hC0 rfl rfl (by go_simp) (m1.mono ?_)
  rintro e w1 ⟨rfl, rfl⟩
  refine ⟨_, rfl, hC1, ?_⟩
  refine sx_pure (.pointer (some ⟨b, 0, none⟩)) hC1 rfl rfl (fun w' hw' => by go_simp) ?_
  refine sx_pure (.pointer (some ⟨b, 0, none⟩)) hC1 rfl rfl (fun w' hw' => by go_simp) ?_
  refine sx_pure (.pointer (some ⟨b, 2, none⟩)) hC1 rfl rfl (fun w' hw' => by go_simp) ?_
  refine sx_pure (.map (some b2)) hC1 rfl rfl (fun w' hw' => by have := k2 w' hw'; go_simp) ?_
  refine sx_call (f := 41) (vs := #[.map (some b2)]) hC1 rfl rfl (by go_simp) (m2.mono ?_)
  rintro e w2 ⟨rfl, rfl⟩
  refine ⟨_, rfl, hC2, ?_⟩
  refine sx_pure (.agg #[.int .i64 fs, .map (some w.heap.size), .map (some (w.heap.size + 1))]) hC2 rfl rfl (fun w' hw' => by go_simp) ?_
  refine sx_val (.pointer (some ⟨w.heap.size + 2, 0, none⟩)) _ hC2 rfl rfl (by go_simp) hC3 ?_
  refine sx_pure (.pointer (some ⟨w.heap.size + 2, 0, none⟩)) hC3 rfl rfl (fun w' hw' => by go_simp) ?_
  refine hK _ _ ?_
  go_wp2
  go_ret
  exact ⟨rfl, rfl⟩
theorem rclone_sound : C_rclone.Sound Tryd.prog G 17 := by
  refine Ctr.OSound.sound ⟨⟨_, Tryd.func17, by kernel_rfl, by kernel_rfl⟩, ?_⟩ rfl rfl
  intro ls S w F hG hp hpar hF
  obtain ⟨r, rfl⟩ := rclone_pre hp
  have hF : F = [] := hF
  subst hF
  obtain ⟨F0, b, rest, hF0, hS, ho⟩ := hpar.2.1 (0, 4) (by simp [C_rclone, shCells, Sh.cells, resObjs])
  have ho : IsObj 4 w.heap F0 r := ho
  have ho : specialObj 4 w.heap F0 r := ho
  obtain ⟨_, b0, b1, b2, t, hF1, hn, hc, hm1, hm2⟩ := ho
  rw [hF1] at hF0
  cases hF0
  obtain ⟨es1, c1, k1, hM1⟩ := mapAt_iff.1 hm1
  obtain ⟨es2, c2, k2, hM2⟩ := mapAt_iff.1 hm2
  have hS : S 0 = .pointer (some ⟨b, 0, none⟩) := hS
  have ea : (([TV.one (.lst 0)] : List TV).map (TV.val (envOf [.l r]) S β0)).toArray = #[.pointer (some ⟨b, 0, none⟩)] := by
    simp only [List.map_cons, List.map_nil, TV.val, CV.val, hS, asSl]
  show Calls Tryd.prog 17 (([TV.one (.lst 0)] : List TV).map (TV.val (envOf [.l r]) S β0)).toArray w _
  rw [ea]
  refine (rclone_calls b b1 b2 t (r.gi 0 0) es1 es2 c1 c2 w hc k1 k2).mono ?_
  rintro e w' ⟨rfl, rfl⟩
  have s0 : w.drew.heap.size = w.heap.size := rfl
  have s1 := al_size w.drew (.map es1 c1)
  have s2 := al_size (w.drew.alloc (.map es1 c1)) (.map es2 c2)
  have s3 := al_size ((w.drew.alloc (.map es1 c1)).alloc (.map es2 c2)) (.cells #[.int .i64 (r.gi 0 0), .map (some w.heap.size), .map (some (w.heap.size + 1))] 73)
  have e1 : (((w.drew.alloc (.map es1 c1)).alloc (.map es2 c2)).alloc (.cells #[.int .i64 (r.gi 0 0), .map (some w.heap.size), .map (some (w.heap.size + 1))] 73)).heap[w.heap.size]? = some (.map es1 c1) := by
    rw [al_old _ _ (by omega), al_old _ _ (by omega), ← s0, al_new]
  have e2 : (((w.drew.alloc (.map es1 c1)).alloc (.map es2 c2)).alloc (.cells #[.int .i64 (r.gi 0 0), .map (some w.heap.size), .map (some (w.heap.size + 1))] 73)).heap[w.heap.size + 1]? = some (.map es2 c2) := by
    rw [al_old _ _ (by omega), ← s0, ← s1, al_new]
  have e3 : (((w.drew.alloc (.map es1 c1)).alloc (.map es2 c2)).alloc (.cells #[.int .i64 (r.gi 0 0), .map (some w.heap.size), .map (some (w.heap.size + 1))] 73)).heap[w.heap.size + 2]? = some (.cells #[.int .i64 (r.gi 0 0), .map (some w.heap.size), .map (some (w.heap.size + 1))] 73) := by
    rw [show w.heap.size + 2 = ((w.drew.alloc (.map es1 c1)).alloc (.map es2 c2)).heap.size by omega, al_new]
  refine ⟨⟨rfl, rfl, rfl, by omega, fun k hk _ => ?_⟩, _, rfl, fun c hc => (by cases hc), fun n => if n = 0 then .pointer (some ⟨w.heap.size + 2, 0, none⟩) else undef, rfl, fun c nb hn => ?_⟩
  · rw [al_old _ _ (by omega), al_old _ _ (by omega)]
    exact al_old _ _ hk
  cases hn
  refine .inr ⟨fun h => (by cases h), [w.heap.size + 2, w.heap.size, w.heap.size + 1], ⟨_, _, rfl, rfl, ?_⟩, rfl, by simp, fun b hb => ?_⟩
  · exact ⟨rfl, _, _, _, 73, rfl, by simp, e3, mapAt_iff.2 ⟨_, _, e1, hM1⟩, mapAt_iff.2 ⟨_, _, e2, hM2⟩⟩
  · simp only [List.mem_cons, List.not_mem_nil, or_false] at hb
    omega

def C_sameCall : Ctr := ⟨[.agg [.int .i64, .int .i64], .agg [.int .i64, .int .i64]], [.one (.bool)],
  fun | [.i _, .i _, .i _, .i _] => True | _ => False,
  fun | [.i f1, .i d1, .i f2, .i d2] => [.b (f1 == f2 && d1 == d2)] | _ => []⟩
theorem sameCall_pre {ls : List Leaf} (h_ : C_sameCall.pre ls) : ∃ (f1 : Int) (d1 : Int) (f2 : Int) (d2 : Int), ls = [.i f1, .i d1, .i f2, .i d2] := by
  unfold C_sameCall at h_; dsimp only at h_; split at h_
  · exact ⟨_, _, _, _, rfl⟩
  · exact h_.elim
theorem sameCall_res {f1 : Int} {d1 : Int} {f2 : Int} {d2 : Int} {rs_ : List Leaf} (h_ : rs_ = C_sameCall.fn [.i f1, .i d1, .i f2, .i d2]) : ∃ (q0 : Bool), q0 = (f1 == f2 && d1 == d2) ∧ rs_ = [.b q0] := ⟨_, rfl, h_⟩
def phi_sameCall : Fm := (.ret [(.b (.ite (.eq (.v 0) (.v 2)) (.eq (.v 1) (.v 3)) (.t .false)))])
def tbl_sameCall : List (Nat × Ctr) := []
theorem vc_sameCall : vcg Tryd.prog (sigT tbl_sameCall) [] Tryd.f18 C_sameCall.params C_sameCall.res = some phi_sameCall := by kernel_rfl
--SPLIT
theorem sameCall_sound : C_sameCall.Sound Tryd.prog G 18 := by
  refine fn_ok mixed stable tbl_sameCall [] Tryd.func18 (by kernel_rfl) phi_sameCall vc_sameCall trivial (fun _ _ _ => False) (fun _ _ _ => 0) ?_
  intro ls hp
  obtain ⟨f1, d1, f2, d2, rfl⟩ := sameCall_pre hp
  clear hp
  rw [envOf_lk]
  unfold phi_sameCall
  suffices hfin : ((if (f1 == f2) = true then (d1 == d2) else false)) = (f1 == f2 && d1 == d2) from (c_b hfin rfl)
  -- leaf 1 (ret)
  subst_vars
  try simp only [decide_eq_true_eq, decide_eq_false_iff_not] at *
  try simp (disch := omega) only [wrap_in]
  grind
def C_sameLatch : Ctr := ⟨[.agg [.int .i64, .int .i64, .int .i64], .agg [.int .i64, .int .i64, .int .i64]], [.one (.bool)],
  fun | [.i _, .i _, .i _, .i _, .i _, .i _] => True | _ => False,
  fun | [.i f1, .i d1, .i g1, .i f2, .i d2, .i g2] => [.b ((f1 == f2 && d1 == d2) && g1 == g2)] | _ => []⟩
theorem sameLatch_pre {ls : List Leaf} (h_ : C_sameLatch.pre ls) : ∃ (f1 : Int) (d1 : Int) (g1 : Int) (f2 : Int) (d2 : Int) (g2 : Int), ls = [.i f1, .i d1, .i g1, .i f2, .i d2, .i g2] := by
  unfold C_sameLatch at h_; dsimp only at h_; split at h_
  · exact ⟨_, _, _, _, _, _, rfl⟩
  · exact h_.elim
theorem sameLatch_res {f1 : Int} {d1 : Int} {g1 : Int} {f2 : Int} {d2 : Int} {g2 : Int} {rs_ : List Leaf} (h_ : rs_ = C_sameLatch.fn [.i f1, .i d1, .i g1, .i f2, .i d2, .i g2]) : ∃ (q0 : Bool), q0 = ((f1 == f2 && d1 == d2) && g1 == g2) ∧ rs_ = [.b q0] := ⟨_, rfl, h_⟩
def phi_sameLatch : Fm := (.call 18 [] [(.i (.v 0)), (.i (.v 1)), (.i (.v 3)), (.i (.v 4))] 6 (.ret [(.b (.ite (.v 6) (.eq (.v 2) (.v 5)) (.t .false)))]))
def tbl_sameLatch : List (Nat × Ctr) := [(18, C_sameCall)]
theorem vc_sameLatch : vcg Tryd.prog (sigT tbl_sameLatch) [] Tryd.f24 C_sameLatch.params C_sameLatch.res = some phi_sameLatch := by kernel_rfl
--SPLIT
theorem sameLatch_sound : C_sameLatch.Sound Tryd.prog G 24 := by
  refine fn_ok mixed stable tbl_sameLatch [] Tryd.func24 (by kernel_rfl) phi_sameLatch vc_sameLatch ⟨sameCall_sound, trivial⟩ (fun _ _ _ => False) (fun _ _ _ => 0) ?_
  intro ls hp
  obtain ⟨f1, d1, g1, f2, d2, g2, rfl⟩ := sameLatch_pre hp
  clear hp
  rw [envOf_lk]
  unfold phi_sameLatch
  refine vg_call (C := C_sameCall) rfl rfl (xs := [.i f1, .i d1, .i f2, .i d2]) rfl (fun hg => ?_) (fun rs hrs => ?_)
  ·
    exact trivial
  obtain ⟨r6, hr6, rfl⟩ := sameCall_res hrs
  clear hrs
  change Fm.holds _ _ (lk [.i f1, .i d1, .i g1, .i f2, .i d2, .i g2, .b r6])
  suffices hfin : ((if r6 = true then (g1 == g2) else false)) = ((f1 == f2 && d1 == d2) && g1 == g2) from (c_b hfin rfl)
  -- leaf 1 (ret)
  subst_vars
  try simp only [decide_eq_true_eq, decide_eq_false_iff_not] at *
  try simp (disch := omega) only [wrap_in]
  grind
def C_sameLatchs : Ctr := ⟨[.one (.lst [.int .i64, .int .i64, .int .i64]), .one (.lst [.int .i64, .int .i64, .int .i64])], [.one (.bool)],
  fun | [.l a, .l b] => (a.len : Int) ≤ 1000000 ∧ (b.len : Int) ≤ 1000000 | _ => False,
  fun | [.l a, .l b] => [.b (sameLt a b)] | _ => []⟩
theorem sameLatchs_pre {ls : List Leaf} (h_ : C_sameLatchs.pre ls) : ∃ (a : LV) (b : LV), ls = [.l a, .l b] ∧ ((a.len : Int) ≤ 1000000 ∧ (b.len : Int) ≤ 1000000) := by
  unfold C_sameLatchs at h_; dsimp only at h_; split at h_
  · exact ⟨_, _, rfl, h_⟩
  · exact h_.elim
theorem sameLatchs_mk {a : LV} {b : LV} (h_ : (a.len : Int) ≤ 1000000 ∧ (b.len : Int) ≤ 1000000) : C_sameLatchs.pre [.l a, .l b] := h_
theorem sameLatchs_res {a : LV} {b : LV} {rs_ : List Leaf} (h_ : rs_ = C_sameLatchs.fn [.l a, .l b]) : ∃ (q0 : Bool), q0 = (sameLt a b) ∧ rs_ = [.b q0] := ⟨_, rfl, h_⟩
def inv_sameLatchs_4 (a : LV) (b : LV) (i : Int) : Prop := 0 ≤ i ∧ i ≤ (a.len : Int) ∧ ∀ j : Nat, (j : Int) < i → ((a.gi j 0 == b.gi j 0 && a.gi j 1 == b.gi j 1) && a.gi j 2 == b.gi j 2) = true
def meas_sameLatchs_4 (a : LV) (b : LV) (i : Int) : Nat := ((a.len : Int) - i).toNat
def phi_sameLatchs : Fm := (.and (.imp (.eq (.len 0) (.len 1)) .false (.ret [(.b (.t .false))])) (.imp (.eq (.len 0) (.len 1)) .true (.loop 4 2 [0, 1] [(.i (.i 0))] [.i] (.and (.imp (.lt (.v 2) (.len 0)) .true (.ob [] (.le (.i 0) (.v 2)) (.ob [] (.lt (.v 2) (.len 1)) (.call 24 [] [(.i (.gi 0 0 (.v 2))), (.i (.gi 0 1 (.v 2))), (.i (.gi 0 2 (.v 2))), (.i (.gi 1 0 (.v 2))), (.i (.gi 1 1 (.v 2))), (.i (.gi 1 2 (.v 2)))] 3 (.and (.imp (.v 3) .false (.ret [(.b (.t .false))])) (.imp (.v 3) .true (.back 4 2 3 [0, 1] [(.i (.wrap .i64 (.add (.v 2) (.i 1))))]))))))) (.imp (.lt (.v 2) (.len 0)) .false (.ret [(.b (.t .true))]))))))
def tbl_sameLatchs : List (Nat × Ctr) := [(24, C_sameLatch)]
def inv_sameLatchs : List Leaf → Nat → List Leaf → Prop := fun _ key xs => match key, xs with
  | 4, [.l a, .l b, .i i] => inv_sameLatchs_4 a b i
  | _, _ => False
def meas_sameLatchs : List Leaf → Nat → List Leaf → Nat := fun _ key xs => match key, xs with
  | 4, [.l a, .l b, .i i] => meas_sameLatchs_4 a b i
  | _, _ => 0
theorem vc_sameLatchs : vcg Tryd.prog (sigT tbl_sameLatchs) [⟨4, [4, 6, 12, 13, 14, 15, 16, 17, 18, 19, 20, 21, 22, 23, 24, 25, 26, 27, 28], [5], [], [0, 1], some (3, [.i64]), []⟩] Tryd.f16 C_sameLatchs.params C_sameLatchs.res = some phi_sameLatchs := by kernel_rfl
--SPLIT
theorem sameLatchs_sound : C_sameLatchs.Sound Tryd.prog G 16 := by
  refine fn_ok mixed stable tbl_sameLatchs [⟨4, [4, 6, 12, 13, 14, 15, 16, 17, 18, 19, 20, 21, 22, 23, 24, 25, 26, 27, 28], [5], [], [0, 1], some (3, [.i64]), []⟩] Tryd.func16 (by kernel_rfl) phi_sameLatchs vc_sameLatchs ⟨sameLatch_sound, trivial⟩ inv_sameLatchs meas_sameLatchs ?_
  intro ls hp
  obtain ⟨a, b, rfl, hpre⟩ := sameLatchs_pre hp
  clear hp
  rw [envOf_lk]
  unfold phi_sameLatchs
  refine ⟨fun hcond => ?_, fun hcond => ?_⟩
  ·
    have c1 : ((a.len : Int) == (b.len : Int)) = false := hcond
    clear hcond
    suffices hfin : (false) = (sameLt a b) from (c_b hfin rfl)
    -- leaf 1 (ret)
    have el : (a.len == b.len) = false := by
      rw [beq_eq_false_iff_ne]
      intro e
      rw [e] at c1
      simp at c1
    simp [sameLt, el]
  ·
    have c2 : ((a.len : Int) == (b.len : Int)) = true := hcond
    clear hcond
    have el : a.len = b.len := by
      have h : (a.len : Int) = b.len := by simpa using c2
      omega
    refine vg_loop rfl ?_ (fun xs hfit hi => ?_)
    ·
      show inv_sameLatchs_4 a b (0 : Int)
      -- leaf 2 (init)
      exact ⟨by omega, by omega, fun j h => by omega⟩
    obtain ⟨x2, xs0, rfl, hfit0⟩ := fits_i hfit
    obtain rfl := fits_nil hfit0
    clear hfit hfit0
    replace hi : inv_sameLatchs_4 a b x2 := hi
    have hi4 := hi; clear hi
    change Fm.holds _ _ (lk [.l a, .l b, .i x2])
    obtain ⟨j0, j1, j2⟩ := hi4
    have ek : IntKind.wrap .i64 (x2 + 1) = x2 + 1 := wrap_in (by omega) (by omega)
    refine ⟨fun hcond => ?_, fun hcond => ?_⟩
    ·
      have c3 : (decide (x2 < (a.len : Int))) = true := hcond
      clear hcond
      refine ⟨fun hg => ?_, ?_⟩
      ·
        show (decide ((0 : Int) ≤ x2)) = true
        -- leaf 3 (ob)
        simp; omega
      refine ⟨fun hg => ?_, ?_⟩
      ·
        show (decide (x2 < (b.len : Int))) = true
        -- leaf 4 (ob)
        have h := of_decide_eq_true c3
        simp; omega
      refine vg_call (C := C_sameLatch) rfl rfl (xs := [.i (a.gi (Int.toNat x2) 0), .i (a.gi (Int.toNat x2) 1), .i (a.gi (Int.toNat x2) 2), .i (b.gi (Int.toNat x2) 0), .i (b.gi (Int.toNat x2) 1), .i (b.gi (Int.toNat x2) 2)]) rfl (fun hg => ?_) (fun rs hrs => ?_)
      ·
        exact trivial
      obtain ⟨r3, hr3, rfl⟩ := sameLatch_res hrs
      clear hrs
      change Fm.holds _ _ (lk [.l a, .l b, .i x2, .b r3])
      refine ⟨fun hcond => ?_, fun hcond => ?_⟩
      ·
        have c4 : r3 = false := hcond
        clear hcond
        suffices hfin : (false) = (sameLt a b) from (c_b hfin rfl)
        -- leaf 5 (ret)
        have h := of_decide_eq_true c3
        simp only [sameLt, el, beq_self_eq_true, Bool.true_and]
        symm
        rw [List.all_eq_false]
        exact ⟨x2.toNat, List.mem_range.2 (by omega), by rw [← hr3, c4]; decide⟩
      ·
        have c5 : r3 = true := hcond
        clear hcond
        refine ⟨?_, ?_⟩
        ·
          show inv_sameLatchs_4 a b (IntKind.wrap .i64 (x2 + (1 : Int)))
          -- leaf 6 (back)
          have h := of_decide_eq_true c3
          rw [ek]
          refine ⟨by omega, by omega, fun j hj => ?_⟩
          by_cases hjx : (j : Int) = x2
          · rw [show j = x2.toNat by omega, ← hr3]; exact c5
          · exact j2 j (by omega)
        ·
          show meas_sameLatchs_4 a b (IntKind.wrap .i64 (x2 + (1 : Int))) < meas_sameLatchs_4 a b x2
          -- leaf 7 (meas)
          have h := of_decide_eq_true c3
          unfold meas_sameLatchs_4
          rw [ek]
          omega
    ·
      have c6 : (decide (x2 < (a.len : Int))) = false := hcond
      clear hcond
      suffices hfin : (true) = (sameLt a b) from (c_b hfin rfl)
      -- leaf 8 (ret)
      have h := of_decide_eq_false c6
      simp only [sameLt, el, beq_self_eq_true, Bool.true_and]
      symm
      rw [List.all_eq_true]
      intro j hj
      have := List.mem_range.1 hj
      exact j2 j (by omega)
def C_first10 : Ctr := ⟨[], [.one (.bool)],
  fun | [] => True | _ => False,
  fun | [] => [.b (true)] | _ => []⟩
theorem first10_pre {ls : List Leaf} (h_ : C_first10.pre ls) : ls = [] := by
  unfold C_first10 at h_; dsimp only at h_; split at h_
  · rfl
  · exact h_.elim
theorem first10_res  {rs_ : List Leaf} (h_ : rs_ = C_first10.fn []) : ∃ (q0 : Bool), q0 = (true) ∧ rs_ = [.b q0] := ⟨_, rfl, h_⟩
def phi_first10 : Fm := (.call 12 [] [(.i (.i 5))] 0 (.and (.imp (.vnil 1) .false (.ret [(.b (.t .false))])) (.imp (.vnil 1) .true (.call 14 [] [(.o 0 (.ptr 0 0)), (.i (.i 2)), (.i (.i 1))] 2 (.call 14 [] [(.o 2 (.ptr 0 0)), (.i (.i 2)), (.i (.i 1))] 7 (.and (.imp (.ite (.ite (.v 6) (.not (.v 11)) (.t .false)) (.eq (.v 5) (.i 1)) (.t .false)) .true (.call 15 [] [(.o 7 (.ptr 0 0))] 12 (.ret [(.b (.eq (.len 12) (.i 1)))]))) (.imp (.ite (.ite (.v 6) (.not (.v 11)) (.t .false)) (.eq (.v 5) (.i 1)) (.t .false)) .false (.ret [(.b (.t .false))]))))))))
def tbl_first10 : List (Nat × Ctr) := [(12, C_rnew), (14, C_rpress), (15, C_rlit)]
theorem vc_first10 : vcg Tryd.prog (sigT tbl_first10) [] Tryd.f10 C_first10.params C_first10.res = some phi_first10 := by kernel_rfl
--SPLIT
theorem first10_sound : C_first10.Sound Tryd.prog G 10 := by
  refine fn_ok mixed stable tbl_first10 [] Tryd.func10 (by kernel_rfl) phi_first10 vc_first10 ⟨rnew_sound, rpress_sound, rlit_sound, trivial⟩ (fun _ _ _ => False) (fun _ _ _ => 0) ?_
  intro ls hp
  obtain rfl := first10_pre hp
  clear hp
  rw [envOf_lk]
  unfold phi_first10
  refine vg_call (C := C_rnew) rfl rfl (xs := [.i (5 : Int)]) rfl (fun hg => ?_) (fun rs hrs => ?_)
  ·
    refine rnew_mk ?_
    -- leaf 1 (pre)
    omega
  obtain ⟨r0, r1, hr0, hr1, rfl⟩ := rnew_res hrs
  clear hrs
  change Fm.holds _ _ (lk [.l r0, .v r1])
  have q1 : i64R 1 := i64_small (by omega)
  have q2 : i64R 2 := i64_small (by omega)
  have qs : ∀ n : Int, 0 ≤ n → n < 5 → i64R n := fun n h1 h2 => i64_small (by omega)
  have qd : ∀ d : Int, d = 1 ∨ d = -1 → i64R d := fun d h => i64_small (by omega)
  have z0 : r0.gi 0 0 = 5 := by rw [hr0]; rfl
  have l0 : ∀ f d, i64R f → i64R d → litR r0 f d = 0 := fun f d h1 h2 => by rw [hr0]; exact new_lit 5 h1 h2
  have g0 : genR r0 2 1 = 0 := by rw [hr0]; exact new_gen 5 q2 q1
  have p0 : pressIs r0 2 1 = true := pressIs_iff.2 ⟨by rw [z0]; decide, by rw [l0 2 1 q2 q1]; decide⟩
  refine ⟨fun hcond => ?_, fun hcond => ?_⟩
  ·
    have c1 : (isNilV r1) = false := hcond
    clear hcond
    suffices hfin : (false) = (true) from (c_b hfin rfl)
    -- leaf 2 (ret)
    rw [hr1] at c1
    cases c1
  ·
    have c2 : (isNilV r1) = true := hcond
    clear hcond
    refine vg_call (C := C_rpress) rfl rfl (xs := [.l r0, .i (2 : Int), .i (1 : Int)]) rfl (fun hg => ?_) (fun rs hrs => ?_)
    ·
      refine rpress_mk ?_
      -- leaf 3 (pre)
      rw [z0]
      omega
    obtain ⟨r2, r3, r4, r5, r6, hr2, hr3, hr4, hr5, hr6, rfl⟩ := rpress_res hrs
    clear hrs
    change Fm.holds _ _ (lk [.l r0, .v r1, .l r2, .i r3, .i r4, .i r5, .b r6])
    have z2 : r2.gi 0 0 = 5 := by rw [hr2, press_zero q2 q1, z0]
    have l2 : ∀ f d, i64R f → i64R d → litR r2 f d = if f = 2 ∧ d = 1 then 1 else 0 := fun f d h1 h2 => by
      rw [hr2, press_lit q2 q1 h1 h2, g0, l0 f d h1 h2]
      simp only [p0, true_and]
      rfl
    have p2 : pressIs r2 2 1 = false := by
      rw [← Bool.not_eq_true, pressIs_iff, l2 2 1 q2 q1]
      simp
    refine vg_call (C := C_rpress) rfl rfl (xs := [.l r2, .i (2 : Int), .i (1 : Int)]) rfl (fun hg => ?_) (fun rs hrs => ?_)
    ·
      refine rpress_mk ?_
      -- leaf 4 (pre)
      rw [z2]
      omega
    obtain ⟨r7, r8, r9, r10, r11, hr7, hr8, hr9, hr10, hr11, rfl⟩ := rpress_res hrs
    clear hrs
    change Fm.holds _ _ (lk [.l r0, .v r1, .l r2, .i r3, .i r4, .i r5, .b r6, .l r7, .i r8, .i r9, .i r10, .b r11])
    rw [press_no p2] at hr7
    refine ⟨fun hcond => ?_, fun hcond => ?_⟩
    ·
      have c3 : (if (if r6 = true then (!r11) else false) = true then (r5 == (1 : Int)) else false) = true := hcond
      clear hcond
      refine vg_call (C := C_rlit) rfl rfl (xs := [.l r7]) rfl (fun hg => ?_) (fun rs hrs => ?_)
      ·
        refine rlit_mk ?_
        -- leaf 5 (pre)
        rw [hr7, z2]
        omega
      obtain ⟨r12, hr12, rfl⟩ := rlit_res hrs
      clear hrs
      change Fm.holds _ _ (lk [.l r0, .v r1, .l r2, .i r3, .i r4, .i r5, .b r6, .l r7, .i r8, .i r9, .i r10, .b r11, .l r12])
      suffices hfin : (((r12.len : Int) == (1 : Int))) = (true) from (c_b hfin rfl)
      -- leaf 6 (ret)
      rw [hr12, hr7, z2, litTo_cnt, cntL_one (r := r0) (f0 := 2) (d0 := 1) (by omega) (.inl rfl) (by rw [l2 2 1 q2 q1]; decide) (by rw [l0 2 1 q2 q1]; decide) _ (by decide) (fun f d h1 h2 h3 h4 => by
        rw [l2 f d (qs f h1 (by simpa using h2)) (qd d h3), l0 f d (qs f h1 (by simpa using h2)) (qd d h3), if_neg h4]),
        cntL_zero _ (fun f d h1 h2 h3 => by rw [l0 f d (qs f h1 (by simpa using h2)) (qd d h3)]; decide)]
      rfl
    ·
      have c4 : (if (if r6 = true then (!r11) else false) = true then (r5 == (1 : Int)) else false) = false := hcond
      clear hcond
      suffices hfin : (false) = (true) from (c_b hfin rfl)
      -- leaf 7 (ret)
      rw [hr6, hr11, p0, p2, hr5, press_G q2 q1, p0, g0] at c4
      cases c4
end Go.Proofs.YtccdhkmohimfhaaDoor
