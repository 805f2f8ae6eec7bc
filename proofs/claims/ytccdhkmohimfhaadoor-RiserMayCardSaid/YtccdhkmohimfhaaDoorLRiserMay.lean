import Derived.Test.YtccdhkmohimfhaaDoorVRiserMay
namespace Go.Proofs.YtccdhkmohimfhaaDoor
open Go.Vg
set_option linter.unusedVariables false
set_option linter.unusedSimpArgs false
open Go
theorem mayD_step {F f d : Int} : mayD F f (d - 1) = mayD F f d + if mayP F f d = true then 1 else 0 := by
  unfold mayD
  by_cases h1 : d = 1
  · subst h1
    simp
  · by_cases h2 : d = -1
    · subst h2
      simp
    · have hn : ¬ mayP F f d = true := by rw [mayP_iff]; omega
      have e1 : d - 1 < 1 ↔ d < 1 := by omega
      have e2 : d - 1 < -1 ↔ d < -1 := by omega
      simp only [e1, e2, if_neg hn]
      omega
theorem mayD_two {F f : Int} : mayD F f 2 = 0 := by
  unfold mayD
  simp
theorem mayN_step {F f : Int} (hF : 2 ≤ F) : mayN F (f - 1) = mayN F f + mayD F f (-3) := by
  unfold mayN mayD
  have e1 : (-3 : Int) < 1 ↔ True := by decide
  have e2 : (-3 : Int) < -1 ↔ True := by decide
  have e3 : mayP F f 1 = true ↔ 0 ≤ f ∧ f < F - 1 := by rw [mayP_iff]; omega
  have e4 : mayP F f (-1) = true ↔ 0 < f ∧ f < F := by rw [mayP_iff]; omega
  simp only [e1, e2, e3, e4, true_and]
  rcases (show f < 0 ∨ f = 0 ∨ (0 < f ∧ f < F - 1) ∨ f = F - 1 ∨ F ≤ f by omega) with h | h | h | h | h
  · rw [if_neg (by omega), if_neg (by omega), if_neg (by omega), if_neg (by omega), if_neg (by omega), if_neg (by omega)]
    omega
  · subst h
    rw [if_neg (by omega), if_neg (by omega), if_neg (by omega), if_pos (by omega), if_pos (by omega), if_neg (by omega)]
    omega
  · rw [if_neg (by omega), if_pos (by omega), if_neg (by omega), if_pos (by omega), if_pos (by omega), if_pos (by omega)]
    omega
  · subst h
    rw [if_neg (by omega), if_pos (by omega), if_pos (by omega), if_neg (by omega), if_pos (by omega)]
    omega
  · rw [if_pos (by omega), if_pos (by omega), if_neg (by omega), if_neg (by omega)]
    omega
theorem may_step {F f d : Int} {x : LV} (hf : i64R f) (hd : i64R d) (hx : x.gi 0 0 = F)
    (h : ∀ g e, i64R g → i64R e → litR x g e = (if mayP F g e = true ∧ (f < g ∨ f = g ∧ d < e) then 1 else 0) ∧ genR x g e = (if mayP F g e = true ∧ (f < g ∨ f = g ∧ d < e) then 1 else 0)) :
    pressIs x f d = mayP F f d ∧ ∀ g e, i64R g → i64R e → litR (pressR x f d) g e = (if mayP F g e = true ∧ (f < g ∨ f = g ∧ d - 1 < e) then 1 else 0) ∧ genR (pressR x f d) g e = (if mayP F g e = true ∧ (f < g ∨ f = g ∧ d - 1 < e) then 1 else 0) := by
  obtain ⟨l0, g0⟩ := h f d hf hd
  rw [if_neg (fun hh => by omega)] at l0 g0
  have hp : pressIs x f d = mayP F f d := by
    unfold pressIs
    rw [hx, l0]
    simp
  refine ⟨hp, fun g e hg he => ?_⟩
  obtain ⟨l1, g1⟩ := h g e hg he
  have w : IntKind.wrap .i64 ((0 : Int) + 1) = 1 := by decide
  rw [press_lit hf hd hg he, press_gen hf hd hg he, hp, g0, w, l1, g1]
  by_cases hh : g = f ∧ e = d
  · obtain ⟨rfl, rfl⟩ := hh
    by_cases hm : mayP F g e = true
    · rw [if_pos ⟨hm, rfl, rfl⟩, if_pos ⟨hm, .inr ⟨rfl, by omega⟩⟩]
      exact ⟨rfl, rfl⟩
    · rw [if_neg (fun hh => hm hh.1), if_neg (fun hh => hm hh.1), if_neg (fun hh => hm hh.1)]
      exact ⟨rfl, rfl⟩
  · rw [if_neg (fun h => hh h.2)]
    have e1 : (f < g ∨ f = g ∧ d - 1 < e) ↔ (f < g ∨ f = g ∧ d < e) := by omega
    simp only [e1, and_self]
theorem snoc_len (x : LV) (ys : List Int) : (snoc x ys).len = x.len + 1 := rfl
theorem snoc_old (x : LV) (ys : List Int) {i : Nat} (c : Nat) (h : i < x.len) : (snoc x ys).gi i c = x.gi i c := if_neg (by omega)
theorem snoc_new (x : LV) (ys : List Int) (c : Nat) : (snoc x ys).gi x.len c = ys.getD c 0 := if_pos rfl
def litOk (x : LV) : Prop := ∀ i : Nat, i < x.len → x.gi i 0 = ((i : Int) + 1) / 2 ∧ x.gi i 1 = (if i % 2 = 1 then -1 else 1) ∧ x.gi i 2 = 1
theorem litOk_snoc {x : LV} {f d : Int} (h : litOk x) (hf : f = ((x.len : Int) + 1) / 2) (hd : d = if x.len % 2 = 1 then -1 else 1) : litOk (snoc x [f, d, 1]) := fun i hi => by
  rw [snoc_len] at hi
  by_cases hx : i = x.len
  · subst hx
    rw [snoc_new, snoc_new, snoc_new]
    exact ⟨hf, hd, rfl⟩
  · rw [snoc_old _ _ _ (by omega), snoc_old _ _ _ (by omega), snoc_old _ _ _ (by omega)]
    exact h i (by omega)
theorem lit_all {r : LV} {F : Int} (hF : 2 ≤ F ∧ F ≤ 1000) (h : ∀ g e, i64R g → i64R e → litR r g e = if mayP F g e = true then 1 else 0) :
    ∀ k : Nat, 1 ≤ k → (k : Int) ≤ F → ((litTo r k).len : Int) = (if (k : Int) < F then 2 * (k : Int) - 1 else 2 * F - 2) ∧ litOk (litTo r k)
  | 0, h1, _ => by omega
  | 1, _, _ => by
    have a : litR r 0 (-1) = 0 := by rw [h 0 (-1) (i64_small (by omega)) (i64_small (by omega)), if_neg (by rw [mayP_iff]; omega)]
    have b : litR r 0 1 = 1 := by rw [h 0 1 (i64_small (by omega)) (i64_small (by omega)), if_pos (by rw [mayP_iff]; omega)]
    have e : litTo r 1 = snoc nilLV [0, 1, 1] := by
      show litAt r 0 1 (litAt r 0 (-1) nilLV) = _
      rw [litAt_no (d := -1) (by rw [a]; decide), litAt_yes (by rw [b]; decide), b]
    rw [e]
    refine ⟨?_, litOk_snoc (fun i hi => absurd hi (by simp [nilLV])) rfl rfl⟩
    show ((0 + 1 : Nat) : Int) = _
    split
    · rfl
    · omega
  | k + 2, _, h2 => by
    obtain ⟨i1, i2⟩ := lit_all hF h (k + 1) (by omega) (by omega)
    rw [if_pos (by omega)] at i1
    have a : litR r ((k + 1 : Nat) : Int) (-1) = 1 := by rw [h _ (-1) (i64_small (by omega)) (i64_small (by omega)), if_pos (by rw [mayP_iff]; omega)]
    have e : litTo r (k + 2) = litAt r ((k + 1 : Nat) : Int) 1 (snoc (litTo r (k + 1)) [((k + 1 : Nat) : Int), -1, 1]) := by
      show litAt r _ 1 (litAt r _ (-1) (litTo r (k + 1))) = _
      rw [litAt_yes (d := -1) (by rw [a]; decide), a]
    have ok1 : litOk (snoc (litTo r (k + 1)) [((k + 1 : Nat) : Int), -1, 1]) := litOk_snoc i2 (by omega) (by rw [if_pos (by omega)])
    have n1 := snoc_len (litTo r (k + 1)) [((k + 1 : Nat) : Int), -1, 1]
    by_cases hk : ((k + 2 : Nat) : Int) < F
    · have b : litR r ((k + 1 : Nat) : Int) 1 = 1 := by rw [h _ 1 (i64_small (by omega)) (i64_small (by omega)), if_pos (by rw [mayP_iff]; omega)]
      rw [e, litAt_yes (by rw [b]; decide), b, snoc_len, if_pos hk]
      exact ⟨by omega, litOk_snoc ok1 (by omega) (by rw [if_neg (by omega)])⟩
    · have b : litR r ((k + 1 : Nat) : Int) 1 = 0 := by rw [h _ 1 (i64_small (by omega)) (i64_small (by omega)), if_neg (by rw [mayP_iff]; omega)]
      rw [e, litAt_no (by rw [b]; decide), if_neg hk]
      exact ⟨by omega, ok1⟩
theorem sameLt_refl (a : LV) : sameLt a a = true := by simp [sameLt]


theorem RiserMay_sound : C_RiserMay.Sound Tryd.prog G 3 := by
  refine fn_ok mixed stable tbl_RiserMay [⟨10, [2, 8, 9, 10, 11, 12, 36, 37, 38, 39, 40, 41, 42, 43, 44, 45, 46, 47, 48, 49, 50, 51, 52, 53, 54, 55, 56, 57, 58, 59, 60, 61, 62, 63, 64, 65, 66, 67, 68, 69, 70, 71, 72, 73, 74, 75, 76, 77, 78, 79, 80, 81], [6, 7], [(0, 0)], [2], some (3, [.i64]), []⟩, ⟨13, [2, 9, 10, 11, 12, 40, 41, 42, 43, 44, 45, 46, 47, 48, 49, 50, 51, 52, 53, 54, 55, 56, 57, 58, 59, 60, 61, 62, 63, 64, 65, 66, 67, 68, 69, 70, 71, 72, 73, 74, 75, 76, 77, 78, 79, 80, 81], [6, 8], [(0, 0)], [2, 6], some (3, [.i64]), []⟩, ⟨26, [2, 15, 16, 95, 96, 97, 98, 99, 100, 101, 102, 103, 104, 105, 106, 107, 108, 109, 110, 111, 112, 113, 114, 115, 116, 117, 118, 119, 120, 121, 122, 123, 124, 125, 126, 127, 128, 129, 130, 131, 132, 133, 134, 135, 136, 137, 138], [14], [], [8], some (3, [.i64]), []⟩] Tryd.func3 (by kernel_rfl) phi_RiserMay vc_RiserMay ⟨first10_sound, number_sound, rnew_sound, may_sound, rpress_sound, rlit_sound, sameLatchs_sound, rclone_sound, trivial⟩ inv_RiserMay meas_RiserMay ?_
  intro ls hp
  obtain ⟨fs, rfl, hpre⟩ := RiserMay_pre hp
  clear hp
  rw [envOf_lk]
  unfold phi_RiserMay
  refine vg_call (C := C_first10) rfl rfl (xs := []) rfl (fun hg => ?_) (fun rs hrs => ?_)
  ·
    exact trivial
  obtain ⟨r1, hr1, rfl⟩ := first10_res hrs
  clear hrs
  change Fm.holds _ _ (lk [.i fs, .b r1])
  refine ⟨fun hcond => ?_, fun hcond => ?_⟩
  ·
    have c1 : r1 = false := hcond
    clear hcond
    suffices hfin : (false) = (true) from (c_b hfin rfl)
    -- leaf 1 (ret)
    rw [hr1] at c1
    cases c1
  ·
    have c2 : r1 = true := hcond
    clear hcond
    refine vg_call (C := C_number) rfl rfl (xs := [.i fs, .i (63 : Int)]) rfl (fun hg => ?_) (fun rs hrs => ?_)
    ·
      refine number_mk ?_
      -- leaf 2 (pre)
      omega
    obtain ⟨r2, hr2, rfl⟩ := number_res hrs
    clear hrs
    change Fm.holds _ _ (lk [.i fs, .b r1, .i r2])
    have n2 := number_range fs (b := 63) (by omega)
    rw [← hr2] at n2
    have wF : IntKind.wrap .i64 (r2 + 2) = r2 + 2 := wrap_in (by omega) (by omega)
    refine vg_call (C := C_rnew) rfl rfl (xs := [.i (IntKind.wrap .i64 (r2 + (2 : Int)))]) rfl (fun hg => ?_) (fun rs hrs => ?_)
    ·
      refine rnew_mk ?_
      -- leaf 3 (pre)
      rw [wF]
      omega
    obtain ⟨r3, r4, hr3, hr4, rfl⟩ := rnew_res hrs
    clear hrs
    change Fm.holds _ _ (lk [.i fs, .b r1, .i r2, .l r3, .v r4])
    have z3 : r3.gi 0 0 = r2 + 2 := by rw [hr3, new_zero, wF]
    have l3 : ∀ f d, i64R f → i64R d → litR r3 f d = 0 := fun f d h1 h2 => by rw [hr3]; exact new_lit _ h1 h2
    have g3 : ∀ f d, i64R f → i64R d → genR r3 f d = 0 := fun f d h1 h2 => by rw [hr3]; exact new_gen _ h1 h2
    refine ⟨fun hcond => ?_, fun hcond => ?_⟩
    ·
      have c3 : (isNilV r4) = false := hcond
      clear hcond
      suffices hfin : (false) = (true) from (c_b hfin rfl)
      -- leaf 4 (ret)
      rw [hr4] at c3
      cases c3
    ·
      have c4 : (isNilV r4) = true := hcond
      clear hcond
      refine vg_loop rfl ?_ (fun xs hfit hi => ?_)
      ·
        show inv_RiserMay_10 r2 (0 : Int) (IntKind.wrap .i64 ((IntKind.wrap .i64 (r2 + (2 : Int))) + (1 : Int))) r3
        -- leaf 5 (init)
        rw [wF, wrap_in (n := r2 + 2 + 1) (by omega) (by omega)]
        refine ⟨by omega, by omega, z3, by unfold mayN; rw [if_pos (by omega)], fun g e h1 h2 => ?_⟩
        rw [l3 g e h1 h2, g3 g e h1 h2, if_neg]
        · exact ⟨rfl, rfl⟩
        · intro hh
          have := mayP_iff.1 hh.1
          omega
      obtain ⟨x5, xs0, rfl, hfit0⟩ := fits_i hfit
      obtain ⟨x6, xs1, rfl, hfit1⟩ := fits_i hfit0
      obtain ⟨x7, xs2, rfl, hfit2⟩ := fits_l hfit1
      obtain rfl := fits_nil hfit2
      clear hfit hfit0 hfit1 hfit2
      replace hi : inv_RiserMay_10 r2 x5 x6 x7 := hi
      have hi10 := hi; clear hi
      change Fm.holds _ _ (lk [.i fs, .b r1, .i r2, .l r3, .v r4, .i x5, .i x6, .l x7])
      obtain ⟨k0, k1, k2, k3, k4⟩ := hi10
      refine ⟨fun hcond => ?_, fun hcond => ?_⟩
      ·
        have c5 : (decide ((-2) ≤ x6)) = true := hcond
        clear hcond
        refine vg_loop rfl ?_ (fun xs hfit hi => ?_)
        ·
          show inv_RiserMay_13 r2 x6 x5 (2 : Int) x7
          -- leaf 6 (init)
          have hf5 := of_decide_eq_true c5
          refine ⟨by omega, by omega, k2, by rw [k3, mayD_two]; omega, fun g e h1 h2 => ?_⟩
          obtain ⟨a1, a2⟩ := k4 g e h1 h2
          rw [a1, a2]
          by_cases hm : mayP (r2 + 2) g e = true
          · have := mayP_iff.1 hm
            have e1 : (x6 < g ∨ x6 = g ∧ 2 < e) ↔ x6 < g := by omega
            simp only [e1, and_self]
          · rw [if_neg (fun h => hm h.1), if_neg (fun h => hm h.1)]
            exact ⟨rfl, rfl⟩
        obtain ⟨x8, xs0, rfl, hfit0⟩ := fits_i hfit
        obtain ⟨x9, xs1, rfl, hfit1⟩ := fits_i hfit0
        obtain ⟨x10, xs2, rfl, hfit2⟩ := fits_l hfit1
        obtain rfl := fits_nil hfit2
        clear hfit hfit0 hfit1 hfit2
        replace hi : inv_RiserMay_13 r2 x6 x8 x9 x10 := hi
        have hi13 := hi; clear hi
        change Fm.holds _ _ (lk [.i fs, .b r1, .i r2, .l r3, .v r4, .i x5, .i x6, .l x7, .i x8, .i x9, .l x10])
        obtain ⟨m0, m1, m2, m3, m4⟩ := hi13
        refine ⟨fun hcond => ?_, fun hcond => ?_⟩
        ·
          have c6 : (decide ((-2) ≤ x9)) = true := hcond
          clear hcond
          have hd6 := of_decide_eq_true c6
          have hf5 := of_decide_eq_true c5
          have qf : i64R x6 := i64_small (by omega)
          have qd : i64R x9 := i64_small (by omega)
          obtain ⟨p1, p2⟩ := may_step qf qd m2 m4
          have w9 : IntKind.wrap .i64 (x9 - 1) = x9 - 1 := wrap_in (by omega) (by omega)
          have b3 : 0 ≤ x8 ∧ x8 ≤ 1000 := by
            rw [m3]
            unfold mayN mayD
            constructor <;> (repeat' split) <;> omega
          have w8 : IntKind.wrap .i64 (x8 + 1) = x8 + 1 := wrap_in (by omega) (by omega)
          have st := mayD_step (F := r2 + 2) (f := x6) (d := x9)
          refine vg_call (C := C_may) rfl rfl (xs := [.i (IntKind.wrap .i64 (r2 + (2 : Int))), .i x6, .i x9]) rfl (fun hg => ?_) (fun rs hrs => ?_)
          ·
            refine may_mk ?_
            -- leaf 7 (pre)
            rw [wF]
            omega
          obtain ⟨r11, hr11, rfl⟩ := may_res hrs
          clear hrs
          change Fm.holds _ _ (lk [.i fs, .b r1, .i r2, .l r3, .v r4, .i x5, .i x6, .l x7, .i x8, .i x9, .l x10, .b r11])
          rw [wF] at hr11
          refine vg_call (C := C_rpress) rfl rfl (xs := [.l x10, .i x6, .i x9]) rfl (fun hg => ?_) (fun rs hrs => ?_)
          ·
            refine rpress_mk ?_
            -- leaf 8 (pre)
            unfold i64R at qf qd
            omega
          obtain ⟨r12, r13, r14, r15, r16, hr12, hr13, hr14, hr15, hr16, rfl⟩ := rpress_res hrs
          clear hrs
          change Fm.holds _ _ (lk [.i fs, .b r1, .i r2, .l r3, .v r4, .i x5, .i x6, .l x7, .i x8, .i x9, .l x10, .b r11, .l r12, .i r13, .i r14, .i r15, .b r16])
          have e16 : r16 = r11 := by rw [hr16, p1, hr11]
          have z12 : r12.gi 0 0 = r2 + 2 := by rw [hr12, press_zero qf qd, m2]
          refine ⟨fun hcond => ?_, fun hcond => ?_⟩
          ·
            have c7 : (if (!(r16 == r11)) = true then true else (if r11 = true then (if (if (if (!(x9 == (1 : Int))) = true then (!(x9 == (-1))) else false) = true then true else (decide (x6 < (0 : Int)))) = true then true else (decide ((IntKind.wrap .i64 (r2 + (2 : Int))) ≤ x6))) else false)) = true := hcond
            clear hcond
            suffices hfin : (false) = (true) from (c_b hfin rfl)
            -- leaf 9 (ret)
            rw [e16] at c7
            by_cases hm : r11 = true
            · have := mayP_iff.1 (hr11.symm.trans hm)
              rw [wF, hm] at c7
              simp at c7
              omega
            · rw [Bool.not_eq_true] at hm
              rw [hm] at c7
              simp at c7
          ·
            have c8 : (if (!(r16 == r11)) = true then true else (if r11 = true then (if (if (if (!(x9 == (1 : Int))) = true then (!(x9 == (-1))) else false) = true then true else (decide (x6 < (0 : Int)))) = true then true else (decide ((IntKind.wrap .i64 (r2 + (2 : Int))) ≤ x6))) else false)) = false := hcond
            clear hcond
            refine ⟨fun hcond => ?_, fun hcond => ?_⟩
            ·
              have c9 : r11 = true := hcond
              clear hcond
              refine ⟨?_, ?_⟩
              ·
                show inv_RiserMay_13 r2 x6 (IntKind.wrap .i64 (x8 + (1 : Int))) (IntKind.wrap .i64 (x9 - (1 : Int))) r12
                -- leaf 10 (back)
                rw [w8, w9]
                refine ⟨by omega, by omega, z12, ?_, fun g e h1 h2 => by rw [hr12]; exact p2 g e h1 h2⟩
                rw [← hr11, if_pos c9] at st
                omega
              ·
                show meas_RiserMay_13 r2 x6 (IntKind.wrap .i64 (x8 + (1 : Int))) (IntKind.wrap .i64 (x9 - (1 : Int))) r12 < meas_RiserMay_13 r2 x6 x8 x9 x10
                -- leaf 11 (meas)
                unfold meas_RiserMay_13
                rw [w9]
                omega
            ·
              have c10 : r11 = false := hcond
              clear hcond
              refine ⟨?_, ?_⟩
              ·
                show inv_RiserMay_13 r2 x6 x8 (IntKind.wrap .i64 (x9 - (1 : Int))) r12
                -- leaf 12 (back)
                rw [w9]
                refine ⟨by omega, by omega, z12, ?_, fun g e h1 h2 => by rw [hr12]; exact p2 g e h1 h2⟩
                rw [← hr11, if_neg (by rw [c10]; decide)] at st
                omega
              ·
                show meas_RiserMay_13 r2 x6 x8 (IntKind.wrap .i64 (x9 - (1 : Int))) r12 < meas_RiserMay_13 r2 x6 x8 x9 x10
                -- leaf 13 (meas)
                unfold meas_RiserMay_13
                rw [w9]
                omega
        ·
          have c11 : (decide ((-2) ≤ x9)) = false := hcond
          clear hcond
          refine ⟨?_, ?_⟩
          ·
            show inv_RiserMay_10 r2 x8 (IntKind.wrap .i64 (x6 - (1 : Int))) x10
            -- leaf 14 (back)
            have h11 := of_decide_eq_false c11
            have hf5 := of_decide_eq_true c5
            have ed : x9 = -3 := by omega
            subst ed
            rw [wrap_in (n := x6 - 1) (by omega) (by omega)]
            refine ⟨by omega, by omega, m2, by rw [m3, mayN_step (by omega)], fun g e h1 h2 => ?_⟩
            obtain ⟨a1, a2⟩ := m4 g e h1 h2
            rw [a1, a2]
            by_cases hm : mayP (r2 + 2) g e = true
            · have := mayP_iff.1 hm
              have e1 : (x6 < g ∨ x6 = g ∧ -3 < e) ↔ x6 - 1 < g := by omega
              simp only [e1, and_self]
            · rw [if_neg (fun h => hm h.1), if_neg (fun h => hm h.1)]
              exact ⟨rfl, rfl⟩
          ·
            show meas_RiserMay_10 r2 x8 (IntKind.wrap .i64 (x6 - (1 : Int))) x10 < meas_RiserMay_10 r2 x5 x6 x7
            -- leaf 15 (meas)
            have hf5 := of_decide_eq_true c5
            unfold meas_RiserMay_10
            rw [wrap_in (n := x6 - 1) (by omega) (by omega)]
            omega
      ·
        have c12 : (decide ((-2) ≤ x6)) = false := hcond
        clear hcond
        have hf12 := of_decide_eq_false c12
        have ef : x6 = -3 := by omega
        rw [ef] at k3 k4
        have la : ∀ g e, i64R g → i64R e → litR x7 g e = if mayP (r2 + 2) g e = true then 1 else 0 := fun g e h1 h2 => by
          rw [(k4 g e h1 h2).1]
          by_cases hm : mayP (r2 + 2) g e = true
          · have := mayP_iff.1 hm
            rw [if_pos hm, if_pos ⟨hm, by omega⟩]
          · rw [if_neg hm, if_neg (fun h => hm h.1)]
        obtain ⟨t1, t2⟩ := lit_all (F := r2 + 2) (by omega) la (r2 + 2).toNat (by omega) (by omega)
        rw [if_neg (by omega)] at t1
        refine vg_call (C := C_rlit) rfl rfl (xs := [.l x7]) rfl (fun hg => ?_) (fun rs hrs => ?_)
        ·
          refine rlit_mk ?_
          -- leaf 16 (pre)
          rw [k2]
          omega
        obtain ⟨r8, hr8, rfl⟩ := rlit_res hrs
        clear hrs
        change Fm.holds _ _ (lk [.i fs, .b r1, .i r2, .l r3, .v r4, .i x5, .i x6, .l x7, .l r8])
        rw [k2] at hr8
        rw [← hr8] at t1 t2
        have e5 : x5 = 2 * (r2 + 2) - 2 := by rw [k3]; unfold mayN; (repeat' split) <;> omega
        have w5 : IntKind.wrap .i64 (IntKind.wrap .i64 ((2 : Int) * (IntKind.wrap .i64 (r2 + (2 : Int)))) - (2 : Int)) = 2 * (r2 + 2) - 2 := by
          rw [wF, wrap_in (n := 2 * (r2 + 2)) (by omega) (by omega), wrap_in (by omega) (by omega)]
        refine ⟨fun hcond => ?_, fun hcond => ?_⟩
        ·
          have c13 : (if (!(x5 == (IntKind.wrap .i64 ((IntKind.wrap .i64 ((2 : Int) * (IntKind.wrap .i64 (r2 + (2 : Int))))) - (2 : Int))))) = true then true else (!((r8.len : Int) == x5))) = true := hcond
          clear hcond
          suffices hfin : (false) = (true) from (c_b hfin rfl)
          -- leaf 17 (ret)
          rw [w5, t1, e5] at c13
          simp at c13
        ·
          have c14 : (if (!(x5 == (IntKind.wrap .i64 ((IntKind.wrap .i64 ((2 : Int) * (IntKind.wrap .i64 (r2 + (2 : Int))))) - (2 : Int))))) = true then true else (!((r8.len : Int) == x5))) = false := hcond
          clear hcond
          refine vg_loop rfl ?_ (fun xs hfit hi => ?_)
          ·
            show inv_RiserMay_26 r8 (1 : Int)
            -- leaf 18 (init)
            show (1 : Int) ≤ 1
            omega
          obtain ⟨x9, xs0, rfl, hfit0⟩ := fits_i hfit
          obtain rfl := fits_nil hfit0
          clear hfit hfit0
          replace hi : inv_RiserMay_26 r8 x9 := hi
          have hi26 := hi; clear hi
          change Fm.holds _ _ (lk [.i fs, .b r1, .i r2, .l r3, .v r4, .i x5, .i x6, .l x7, .l r8, .i x9])
          have i26 : 1 ≤ x9 := hi26
          refine ⟨fun hcond => ?_, fun hcond => ?_⟩
          ·
            have c15 : (decide (x9 < (r8.len : Int))) = true := hcond
            clear hcond
            have h15 := of_decide_eq_true c15
            have w26 : IntKind.wrap .i64 (x9 - 1) = x9 - 1 := wrap_in (by omega) (by omega)
            have w27 : IntKind.wrap .i64 (x9 + 1) = x9 + 1 := wrap_in (by omega) (by omega)
            have ta := t2 (x9 - 1).toNat (by omega)
            have tb := t2 x9.toNat (by omega)
            refine ⟨fun hg => ?_, ?_⟩
            ·
              show (decide ((0 : Int) ≤ (IntKind.wrap .i64 (x9 - (1 : Int))))) = true
              -- leaf 19 (ob)
              rw [w26]
              exact decide_eq_true (by omega)
            refine ⟨fun hg => ?_, ?_⟩
            ·
              show (decide ((IntKind.wrap .i64 (x9 - (1 : Int))) < (r8.len : Int))) = true
              -- leaf 20 (ob)
              rw [w26]
              exact decide_eq_true (by omega)
            refine ⟨fun hg => ?_, ?_⟩
            ·
              show (decide ((0 : Int) ≤ x9)) = true
              -- leaf 21 (ob)
              exact decide_eq_true (by omega)
            refine ⟨fun hcond => ?_, fun hcond => ?_⟩
            ·
              have c16 : (if (if (decide ((r8.gi (Int.toNat x9) 0) < (r8.gi (Int.toNat (IntKind.wrap .i64 (x9 - (1 : Int)))) 0))) = true then true else (if ((r8.gi (Int.toNat (IntKind.wrap .i64 (x9 - (1 : Int)))) 0) == (r8.gi (Int.toNat x9) 0)) = true then (decide ((r8.gi (Int.toNat x9) 1) ≤ (r8.gi (Int.toNat (IntKind.wrap .i64 (x9 - (1 : Int)))) 1))) else false)) = true then true else (!((r8.gi (Int.toNat x9) 2) == (1 : Int)))) = true := hcond
              clear hcond
              suffices hfin : (false) = (true) from (c_b hfin rfl)
              -- leaf 22 (ret)
              rw [w26] at c16
              obtain ⟨ta0, ta1, ta2⟩ := ta
              obtain ⟨tb0, tb1, tb2⟩ := tb
              rw [ta0, ta1, tb0, tb1, tb2] at c16
              rcases (show (x9.toNat % 2 = 1 ∧ ¬ (x9 - 1).toNat % 2 = 1) ∨ (¬ x9.toNat % 2 = 1 ∧ (x9 - 1).toNat % 2 = 1) by omega) with ⟨o1, o2⟩ | ⟨o1, o2⟩
              · rw [if_pos o1, if_neg o2] at c16
                simp at c16
                omega
              · rw [if_neg o1, if_pos o2] at c16
                simp at c16
                omega
            ·
              have c17 : (if (if (decide ((r8.gi (Int.toNat x9) 0) < (r8.gi (Int.toNat (IntKind.wrap .i64 (x9 - (1 : Int)))) 0))) = true then true else (if ((r8.gi (Int.toNat (IntKind.wrap .i64 (x9 - (1 : Int)))) 0) == (r8.gi (Int.toNat x9) 0)) = true then (decide ((r8.gi (Int.toNat x9) 1) ≤ (r8.gi (Int.toNat (IntKind.wrap .i64 (x9 - (1 : Int)))) 1))) else false)) = true then true else (!((r8.gi (Int.toNat x9) 2) == (1 : Int)))) = false := hcond
              clear hcond
              refine ⟨?_, ?_⟩
              ·
                show inv_RiserMay_26 r8 (IntKind.wrap .i64 (x9 + (1 : Int)))
                -- leaf 23 (back)
                rw [w27]
                show (1 : Int) ≤ x9 + 1
                omega
              ·
                show meas_RiserMay_26 r8 (IntKind.wrap .i64 (x9 + (1 : Int))) < meas_RiserMay_26 r8 x9
                -- leaf 24 (meas)
                unfold meas_RiserMay_26
                rw [w27]
                omega
          ·
            have c18 : (decide (x9 < (r8.len : Int))) = false := hcond
            clear hcond
            refine vg_call (C := C_rclone) rfl rfl (xs := [.l x7]) rfl (fun hg => ?_) (fun rs hrs => ?_)
            ·
              exact trivial
            obtain ⟨r10, hr10, rfl⟩ := rclone_res hrs
            clear hrs
            change Fm.holds _ _ (lk [.i fs, .b r1, .i r2, .l r3, .v r4, .i x5, .i x6, .l x7, .l r8, .i x9, .l r10])
            refine vg_call (C := C_rlit) rfl rfl (xs := [.l r10]) rfl (fun hg => ?_) (fun rs hrs => ?_)
            ·
              refine rlit_mk ?_
              -- leaf 25 (pre)
              rw [hr10, k2]
              omega
            obtain ⟨r11, hr11, rfl⟩ := rlit_res hrs
            clear hrs
            change Fm.holds _ _ (lk [.i fs, .b r1, .i r2, .l r3, .v r4, .i x5, .i x6, .l x7, .l r8, .i x9, .l r10, .l r11])
            refine vg_call (C := C_sameLatchs) rfl rfl (xs := [.l r8, .l r11]) rfl (fun hg => ?_) (fun rs hrs => ?_)
            ·
              refine sameLatchs_mk ?_
              -- leaf 26 (pre)
              have e11 : r11 = r8 := by rw [hr11, hr10, k2, hr8]
              rw [e11]
              omega
            obtain ⟨r12, hr12, rfl⟩ := sameLatchs_res hrs
            clear hrs
            change Fm.holds _ _ (lk [.i fs, .b r1, .i r2, .l r3, .v r4, .i x5, .i x6, .l x7, .l r8, .i x9, .l r10, .l r11, .b r12])
            suffices hfin : (r12) = (true) from (c_b hfin rfl)
            -- leaf 27 (ret)
            have e11 : r11 = r8 := by rw [hr11, hr10, k2, hr8]
            rw [hr12, e11]
            exact sameLt_refl r8
end Go.Proofs.YtccdhkmohimfhaaDoor
