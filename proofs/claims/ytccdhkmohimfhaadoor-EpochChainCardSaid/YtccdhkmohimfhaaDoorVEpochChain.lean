import Derived.Test.YtccdhkmohimfhaaDoorF
namespace Go.Proofs.YtccdhkmohimfhaaDoor
open Go.Vg
set_option linter.unusedVariables false
set_option linter.unusedSimpArgs false
open Go
def dval (l : List UInt8) : Nat := l.foldl (fun a b => 10 * a + (b.toNat - 48)) 0
theorem dec_unfold (u : Nat) (h : ¬ u < 10) : Lib.decDigits u = Lib.decDigits (u / 10) ++ [UInt8.ofNat (48 + u % 10)] := by
  rw [Lib.decDigits, dif_neg h]
theorem dval_dec (u : Nat) : dval (Lib.decDigits u) = u := by
  induction u using Nat.strongRecOn with
  | _ u ih =>
    by_cases h : u < 10
    · rw [Lib.decDigits_one h]
      show 10 * 0 + ((UInt8.ofNat (48 + u)).toNat - 48) = u
      rw [UInt8.toNat_ofNat']
      omega
    · rw [dec_unfold u h]
      unfold dval
      rw [List.foldl_append]
      show 10 * dval (Lib.decDigits (u / 10)) + ((UInt8.ofNat (48 + u % 10)).toNat - 48) = u
      rw [ih (u / 10) (by omega), UInt8.toNat_ofNat']
      omega
theorem dec_nodot (u : Nat) : (46 : UInt8) ∉ Lib.decDigits u := by
  have key : ∀ d : Nat, d < 10 → (46 : UInt8) ≠ UInt8.ofNat (48 + d) := fun d hd e => by
    have := congrArg UInt8.toNat e
    rw [UInt8.toNat_ofNat'] at this
    have h46 : (46 : UInt8).toNat = 46 := rfl
    omega
  induction u using Nat.strongRecOn with
  | _ u ih =>
    by_cases h : u < 10
    · rw [Lib.decDigits_one h]
      intro hm
      exact key u h (List.mem_singleton.1 hm)
    · rw [dec_unfold u h]
      intro hm
      rcases List.mem_append.1 hm with hm | hm
      · exact ih (u / 10) (by omega) hm
      · exact key (u % 10) (by omega) (List.mem_singleton.1 hm)
theorem split_dot : ∀ {a a' b b' : List UInt8}, (46 : UInt8) ∉ a → (46 : UInt8) ∉ a' → a ++ 46 :: b = a' ++ 46 :: b' → a = a' ∧ b = b'
  | [], [], b, b', _, _, h => ⟨rfl, by simpa using h⟩
  | [], x :: a', b, b', _, h2, h => by
    simp only [List.nil_append, List.cons_append, List.cons.injEq] at h
    exact absurd (by rw [h.1]; exact List.mem_cons_self ..) h2
  | x :: a, [], b, b', h1, _, h => by
    simp only [List.nil_append, List.cons_append, List.cons.injEq] at h
    exact absurd (by rw [← h.1]; exact List.mem_cons_self ..) h1
  | x :: a, y :: a', b, b', h1, h2, h => by
    simp only [List.cons_append, List.cons.injEq] at h
    obtain ⟨h3, h4⟩ := split_dot (a := a) (a' := a') (fun hm => h1 (List.mem_cons_of_mem _ hm)) (fun hm => h2 (List.mem_cons_of_mem _ hm)) h.2
    exact ⟨by rw [h.1, h3], h4⟩
theorem text_list (n f : Int) : (decS (textS n f)).data.toList = Lib.itoa n ++ 46 :: Lib.itoa f := by
  unfold textS itoaS
  rw [dot_enc, catS_enc, catS_enc, decS_encS]
  simp
theorem textS_nn (n f : Int) : ¬ textS n f < 0 := by
  have : 0 ≤ textS n f := by
    unfold textS catS encS
    exact Int.natCast_nonneg _
  omega
theorem text_inj {n f n' f' : Int} (h0 : 0 ≤ n) (h1 : 0 ≤ f) (h2 : 0 ≤ n') (h3 : 0 ≤ f') (h : textS n f = textS n' f') : n = n' ∧ f = f' := by
  have e := text_list n f
  rw [h, text_list n' f'] at e
  have i1 : ∀ x : Int, 0 ≤ x → Lib.itoa x = Lib.decDigits x.toNat := fun x hx => by unfold Lib.itoa; rw [if_neg (by omega)]
  rw [i1 n h0, i1 f h1, i1 n' h2, i1 f' h3] at e
  obtain ⟨e1, e2⟩ := split_dot (dec_nodot _) (dec_nodot _) e
  have d1 := congrArg dval e1
  have d2 := congrArg dval e2
  rw [dval_dec, dval_dec] at d1 d2
  omega
def Chain (all : LV) (i : Int) : Prop := (all.len : Int) = i ∧ ∀ j : Nat, (j : Int) < i → all.gi j 0 = (j : Int) + 1 ∧ 0 ≤ all.gi j 1 ∧ all.gi j 1 < 16
theorem chain_snoc {all : LV} {i f : Int} (hi : 0 ≤ i) (h : Chain all i) (h0 : 0 ≤ f) (h1 : f < 16) : Chain (snoc all [i + 1, f]) (i + 1) := by
  obtain ⟨h2, h3⟩ := h
  refine ⟨by show ((all.len + 1 : Nat) : Int) = i + 1; omega, fun j hj => ?_⟩
  show (if j = all.len then [i + 1, f].getD 0 0 else all.gi j 0) = _ ∧ 0 ≤ (if j = all.len then [i + 1, f].getD 1 0 else all.gi j 1) ∧ (if j = all.len then [i + 1, f].getD 1 0 else all.gi j 1) < 16
  by_cases hj' : j = all.len
  · rw [if_pos hj', if_pos hj']
    show i + 1 = _ ∧ 0 ≤ f ∧ f < 16
    omega
  · rw [if_neg hj', if_neg hj']
    exact h3 j (by omega)

def C_EpochChain : Ctr := ⟨[.one (.lst [.int .i64])], [.one (.bool)],
  fun | [.l _] => True | _ => False,
  fun | [.l _] => [.b (true)] | _ => []⟩
theorem EpochChain_pre {ls : List Leaf} (h_ : C_EpochChain.pre ls) : ∃ (l : LV), ls = [.l l] := by
  unfold C_EpochChain at h_; dsimp only at h_; split at h_
  · exact ⟨_, rfl⟩
  · exact h_.elim
theorem EpochChain_res {l : LV} {rs_ : List Leaf} (h_ : rs_ = C_EpochChain.fn [.l l]) : ∃ (q0 : Bool), q0 = (true) ∧ rs_ = [.b q0] := ⟨_, rfl, h_⟩
def inv_EpochChain_9 (l : LV) (all : LV) (seen : Int) (i : Int) : Prop := 0 ≤ i ∧ i ≤ (l.len : Int) ∧ seen = i ∧ Chain all i
def meas_EpochChain_9 (l : LV) (all : LV) (seen : Int) (i : Int) : Nat := ((l.len : Int) - i).toNat
def inv_EpochChain_17 (all : LV) (k : Int) : Prop := 0 ≤ k ∧ k ≤ (all.len : Int)
def meas_EpochChain_17 (all : LV) (k : Int) : Nat := ((all.len : Int) - k).toNat
def phi_EpochChain : Fm := (.call 30 [] [] 1 (.and (.imp (.v 1) .false (.ret [(.b (.t .false))])) (.imp (.v 1) .true (.and (.imp (.lt (.i 30) (.len 0)) .true (.ret [(.b (.v 1))])) (.imp (.lt (.i 30) (.len 0)) .false (.loop 9 2 [0] [(.c 1 .nilsl []), (.i (.i 0)), (.i (.i 0))] [.l, .i, .i] (.and (.imp (.lt (.v 4) (.len 0)) .true (.ob [] (.le (.i 0) (.v 4)) (.call 11 [] [(.i (.gi 0 0 (.v 4))), (.i (.i 16))] 5 (.call 33 [] [(.i (.v 3)), (.i (.v 5))] 6 (.call 33 [] [(.i (.v 3)), (.i (.rem (.wrap .i64 (.add (.v 5) (.i 1))) (.i 16)))] 9 (.call 34 [((.ite (.not (.v 8)) (.t .true) (.not (.v 11))), .false)] [(.i (.v 6)), (.i (.v 7))] 12 (.call 37 [((.ite (.ite (.not (.v 8)) (.t .true) (.not (.v 11))) (.t .true) (.not (.v 12))), .false)] [(.i (.v 6)), (.i (.v 7))] 13 (.call 39 [((.ite (.ite (.ite (.not (.v 8)) (.t .true) (.not (.v 11))) (.t .true) (.not (.v 12))) (.t .true) (.v 13)), .false)] [(.i (.v 6)), (.i (.v 7))] 14 (.call 39 [((.ite (.ite (.ite (.not (.v 8)) (.t .true) (.not (.v 11))) (.t .true) (.not (.v 12))) (.t .true) (.v 13)), .false)] [(.i (.v 9)), (.i (.v 10))] 15 (.call 32 [((.ite (.ite (.ite (.ite (.not (.v 8)) (.t .true) (.not (.v 11))) (.t .true) (.not (.v 12))) (.t .true) (.v 13)) (.t .true) (.eq (.ite (.lt (.v 14) (.i 0)) (.i 0) (.v 14)) (.ite (.lt (.v 15) (.i 0)) (.i 0) (.v 15)))), .false)] [(.i (.v 6)), (.i (.v 7)), (.i (.v 9)), (.i (.v 10))] 16 (.call 32 [((.not (.v 16)), .true), ((.ite (.ite (.ite (.ite (.not (.v 8)) (.t .true) (.not (.v 11))) (.t .true) (.not (.v 12))) (.t .true) (.v 13)) (.t .true) (.eq (.ite (.lt (.v 14) (.i 0)) (.i 0) (.v 14)) (.ite (.lt (.v 15) (.i 0)) (.i 0) (.v 15)))), .false)] [(.i (.v 9)), (.i (.v 10)), (.i (.v 6)), (.i (.v 7))] 17 (.and (.imp (.ite (.ite (.ite (.ite (.ite (.not (.v 8)) (.t .true) (.not (.v 11))) (.t .true) (.not (.v 12))) (.t .true) (.v 13)) (.t .true) (.eq (.ite (.lt (.v 14) (.i 0)) (.i 0) (.v 14)) (.ite (.lt (.v 15) (.i 0)) (.i 0) (.v 15)))) (.t .true) (.ite (.not (.v 16)) (.not (.v 17)) (.t .false))) .true (.ret [(.b (.t .false))])) (.imp (.ite (.ite (.ite (.ite (.ite (.not (.v 8)) (.t .true) (.not (.v 11))) (.t .true) (.not (.v 12))) (.t .true) (.v 13)) (.t .true) (.eq (.ite (.lt (.v 14) (.i 0)) (.i 0) (.v 14)) (.ite (.lt (.v 15) (.i 0)) (.i 0) (.v 15)))) (.t .true) (.ite (.not (.v 16)) (.not (.v 17)) (.t .false))) .false (.loop 17 18 [2] [(.i (.i 0))] [.i] (.and (.imp (.lt (.v 18) (.len 2)) .true (.ob [] (.le (.i 0) (.v 18)) (.call 32 [] [(.i (.gi 2 0 (.v 18))), (.i (.gi 2 1 (.v 18))), (.i (.v 6)), (.i (.v 7))] 19 (.call 39 [((.not (.v 19)), .false)] [(.i (.gi 2 0 (.v 18))), (.i (.gi 2 1 (.v 18)))] 20 (.call 39 [((.not (.v 19)), .false)] [(.i (.v 6)), (.i (.v 7))] 21 (.and (.imp (.ite (.not (.v 19)) (.t .true) (.eq (.ite (.lt (.v 20) (.i 0)) (.i 0) (.v 20)) (.ite (.lt (.v 21) (.i 0)) (.i 0) (.v 21)))) .true (.ret [(.b (.t .false))])) (.imp (.ite (.not (.v 19)) (.t .true) (.eq (.ite (.lt (.v 20) (.i 0)) (.i 0) (.v 20)) (.ite (.lt (.v 21) (.i 0)) (.i 0) (.v 21)))) .false (.back 17 18 19 [2] [(.i (.wrap .i64 (.add (.v 18) (.i 1))))])))))))) (.imp (.lt (.v 18) (.len 2)) .false (.app (.l 2) [(.v 6), (.v 7)] 19 (.back 9 2 5 [0] [(.l 19), (.i (.v 6)), (.i (.wrap .i64 (.add (.v 4) (.i 1))))])))))))))))))))))) (.imp (.lt (.v 4) (.len 0)) .false (.call 37 [] [(.i (.i 0)), (.i (.i 0))] 5 (.call 34 [((.v 5), .true)] [(.i (.i 0)), (.i (.i 0))] 6 (.ret [(.b (.ite (.v 5) (.not (.v 6)) (.t .false)))])))))))))))
def tbl_EpochChain : List (Nat × Ctr) := [(11, C_number), (30, C_first4), (32, C_less), (33, C_next), (34, C_validEp), (37, C_none), (39, C_text)]
def inv_EpochChain : List Leaf → Nat → List Leaf → Prop := fun _ key xs => match key, xs with
  | 9, [.l l, .l all, .i seen, .i i] => inv_EpochChain_9 l all seen i
  | 17, [.l all, .i k] => inv_EpochChain_17 all k
  | _, _ => False
def meas_EpochChain : List Leaf → Nat → List Leaf → Nat := fun _ key xs => match key, xs with
  | 9, [.l l, .l all, .i seen, .i i] => meas_EpochChain_9 l all seen i
  | 17, [.l all, .i k] => meas_EpochChain_17 all k
  | _, _ => 0
theorem vc_EpochChain : vcg Tryd.prog (sigT tbl_EpochChain) [⟨9, [2, 7, 8, 9, 10, 11, 12, 20, 21, 22, 23, 24, 25, 26, 27, 28, 29, 30, 31, 32, 33, 34, 35, 36, 37, 38, 39, 40, 41, 42, 43, 44, 45, 46, 47, 48, 49, 50, 51, 52, 53, 54, 55, 56, 57, 58, 59, 60, 61, 62, 63, 64, 65, 66, 67, 68, 69, 70, 71, 72, 73, 74, 75, 76, 77, 78, 79, 80, 81, 82, 83, 84, 85, 86, 87, 88, 89, 90, 91, 92, 93, 94, 95, 96, 97, 98, 99, 100, 101, 102, 103, 104, 105, 106, 107], [4, 5, 6], [], [0], some (60, [.i64, .i64])⟩, ⟨17, [2, 79, 80, 81, 82, 83, 84, 85, 86, 87, 88, 89, 90, 91, 92, 93, 94, 95, 96, 97, 98, 99, 100, 101], [12], [], [2], some (60, [.i64, .i64])⟩] Tryd.f9 C_EpochChain.params C_EpochChain.res = some phi_EpochChain := by kernel_rfl

end Go.Proofs.YtccdhkmohimfhaaDoor
