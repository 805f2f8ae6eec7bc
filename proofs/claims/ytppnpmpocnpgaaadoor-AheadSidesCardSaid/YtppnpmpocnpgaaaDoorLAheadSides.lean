import Derived.Test.YtppnpmpocnpgaaaDoorVAheadSides
namespace Go.Proofs.YtppnpmpocnpgaaaDoor
open Go.Vg
set_option linter.unusedVariables false
set_option linter.unusedSimpArgs false
open Go

theorem near_zero {c u d n : Int} : near c u d n = 0 ↔ above c u d n = false ∧ below c u d n = false := by
  unfold near above below
  by_cases h1 : upB c u d n = 0#64 <;> by_cases h2 : dnB c u d n = 0#64 <;> simp [h1, h2] <;> split <;> simp
theorem near_one {c u d n : Int} (h : near c u d n = 1) : above c u d n = true := by
  unfold near at h; unfold above
  by_cases h1 : upB c u d n = 0#64 <;> by_cases h2 : dnB c u d n = 0#64 <;> simp [h1, h2] at h ⊢
theorem near_neg {c u d n : Int} (h : near c u d n = -1) : below c u d n = true := by
  unfold near at h; unfold below
  by_cases h1 : upB c u d n = 0#64 <;> by_cases h2 : dnB c u d n = 0#64 <;> simp [h1, h2] at h ⊢
theorem hallb_up {u d n : Int} : hallb u d n 1 = isb u n := by simp [hallb]
theorem hallb_dn {u d n : Int} : hallb u d n (-1) = isb d n := by simp [hallb]
theorem hallb_zero {u d n : Int} : hallb u d n 0 = false := by simp [hallb]
theorem toward_up {c u d n : Int} : toward c u d n 1 = above c u d n := by simp [toward]
theorem toward_dn {c u d n : Int} : toward c u d n (-1) = below c u d n := by simp [toward]
theorem anyb_or {c u d n : Int} : anyb c u d n = (isb c n || isb u n || isb d n) := by
  unfold anyb allB isb
  rw [BitVec.getLsbD_or, BitVec.getLsbD_or]
  cases okf n <;> simp
theorem turn_range {c u d n dir : Int} (hd : -1 ≤ dir ∧ dir ≤ 1) : -1 ≤ turn c u d n dir ∧ turn c u d n dir ≤ 1 := by
  have hn := @near_range c u d n
  unfold turn
  split
  · exact hd
  · split
    · omega
    · split
      · omega
      · split
        · omega
        · split <;> omega
theorem turn_zero {c u d n dir : Int} (hd : -1 ≤ dir ∧ dir ≤ 1) (h : turn c u d n dir = 0) : above c u d n = false ∧ below c u d n = false ∧ isb u n = false ∧ isb d n = false := by
  have : dir = -1 ∨ dir = 0 ∨ dir = 1 := by omega
  unfold turn way at h
  rcases this with rfl | rfl | rfl
  · simp only [Int.reduceNeg, Int.neg_neg, toward_dn, toward_up, hallb_dn, hallb_up] at h
    cases h1 : below c u d n <;> cases h2 : isb d n <;> cases h3 : above c u d n <;> cases h4 : isb u n <;> simp [h1, h2, h3, h4] at h <;> simp
  · simp only [hallb_up, hallb_dn] at h
    cases h2 : isb d n <;> cases h4 : isb u n <;> simp [h2, h4] at h
    have := near_zero.1 h
    simp [this]
  · simp only [Int.reduceNeg, toward_dn, toward_up, hallb_dn, hallb_up] at h
    cases h1 : below c u d n <;> cases h2 : isb d n <;> cases h3 : above c u d n <;> cases h4 : isb u n <;> simp [h1, h2, h3, h4] at h <;> simp
theorem turn_move {c u d n dir : Int} (hd : -1 ≤ dir ∧ dir ≤ 1) (h : turn c u d n dir ≠ 0) (hs : hallb u d n (turn c u d n dir) = false) : toward c u d n (turn c u d n dir) = true := by
  have hdd : dir = -1 ∨ dir = 0 ∨ dir = 1 := by omega
  generalize ht : turn c u d n dir = t at *
  unfold turn way at ht
  split at ht
  · rename_i h1
    subst ht
    simp only [Bool.and_eq_true, Bool.or_eq_true] at h1
    rcases h1.2 with h2 | h2
    · exact h2
    · rw [hs] at h2; cases h2
  · split at ht
    · rename_i h1
      subst ht
      simp only [Bool.and_eq_true, Bool.or_eq_true] at h1
      rcases h1.2 with h2 | h2
      · exact h2
      · rw [hs] at h2; cases h2
    · split at ht
      · exact absurd ht.symm h
      · split at ht
        · rename_i h1
          subst ht
          rw [hs] at h1; cases h1
        · split at ht
          · rename_i h1
            subst ht
            rw [hs] at h1; cases h1
          · have hn := @near_range c u d n
            have : t = 1 ∨ t = -1 := by omega
            rcases this with rfl | rfl
            · rw [toward_up]; exact near_one ht
            · rw [toward_dn]; exact near_neg ht
theorem turn_keeps {c u d n dir : Int} (h0 : dir ≠ 0) (h : toward c u d n dir = true) : turn c u d n dir = dir := by
  unfold turn way
  rw [h]
  simp [h0]
theorem nothing {c u d : Int} (h : ∀ x, anyb c u d x = false) (n : Int) : above c u d n = false ∧ below c u d n = false ∧ isb c n = false ∧ isb u n = false ∧ isb d n = false := by
  refine ⟨?_, ?_, ?_⟩
  · cases ha : above c u d n
    · rfl
    · obtain ⟨m, _, hm⟩ := above_iff.1 ha
      rw [h m] at hm; cases hm
  · cases ha : below c u d n
    · rfl
    · obtain ⟨m, _, hm⟩ := below_iff.1 ha
      rw [h m] at hm; cases hm
  · have := h n
    rw [anyb_or] at this
    revert this
    cases isb c n <;> cases isb u n <;> cases isb d n <;> simp
theorem turn_nothing {c u d n dir : Int} (h : ∀ x, anyb c u d x = false) : turn c u d n dir = 0 := by
  obtain ⟨h1, h2, h3, h4, h5⟩ := nothing h n
  have h6 := near_zero.2 ⟨h1, h2⟩
  unfold turn way toward
  simp [hallb, h1, h2, h4, h5, h6]
theorem something {c u d n : Int} (h : ∃ x, anyb c u d x = true) : above c u d n = true ∨ below c u d n = true ∨ isb c n = true ∨ isb u n = true ∨ isb d n = true := by
  obtain ⟨x, hx⟩ := h
  rcases Int.lt_trichotomy n x with h1 | h1 | h1
  · exact .inl (above_iff.2 ⟨x, h1, hx⟩)
  · subst h1
    rw [anyb_or] at hx
    revert hx
    cases isb c n <;> cases isb u n <;> cases isb d n <;> simp
  · exact .inr (.inl (below_iff.2 ⟨x, h1, hx⟩))

theorem seen_zero {l : LV} {x : Int} : ¬ Seen l 0 x := fun ⟨j, h, _⟩ => by omega
theorem seen_succ {l : LV} {i x : Int} (hi : 0 ≤ i) : Seen l (i + 1) x ↔ Seen l i x ∨ x = l.gi i.toNat 0 := by
  constructor
  · rintro ⟨j, h1, h2⟩
    by_cases hj : (j : Int) = i
    · right; rw [← h2, show i.toNat = j by omega]
    · exact .inl ⟨j, by omega, h2⟩
  · rintro (⟨j, h1, h2⟩ | h)
    · exact ⟨j, by omega, h2⟩
    · exact ⟨i.toNat, by omega, h.symm⟩
theorem sides_zero {l : LV} {f : Int} : Sides l f 100 100 false 0 :=
  ⟨by omega, by omega, by omega, .inl rfl, fun x h => absurd h seen_zero, by omega, .inl rfl, fun x h => absurd h seen_zero, ⟨fun h => (by cases h), fun h => absurd h seen_zero⟩⟩
theorem sides_up {l : LV} {f up dn : Int} {h : Bool} {i : Int} (H : Sides l f up dn h i) (hi : i < (l.len : Int)) (hx : f < l.gi i.toNat 0) (hx2 : l.gi i.toNat 0 - f ≤ 100) {x : Int} (e : x = l.gi i.toNat 0 - f) :
    Sides l f (if decide (x < up) = true then x else up) dn h (i + 1) := by
  obtain ⟨i0, i1, u0, u1, u2, d0, d1, d2, h0⟩ := H
  have s := @seen_succ l i
  simp only [decide_eq_true_eq]
  refine ⟨by omega, by omega, by split <;> omega, ?_, ?_, d0, ?_, ?_, ?_⟩
  · split
    · exact .inr ⟨by omega, (s i0).2 (.inr (by omega))⟩
    · rcases u1 with u1 | u1
      · exact .inl u1
      · exact .inr ⟨u1.1, (s i0).2 (.inl u1.2)⟩
  · intro y hy hfy
    rcases (s i0).1 hy with hy | hy
    · have := u2 y hy hfy; split <;> omega
    · split <;> omega
  · rcases d1 with d1 | d1
    · exact .inl d1
    · exact .inr ⟨d1.1, (s i0).2 (.inl d1.2)⟩
  · intro y hy hfy
    rcases (s i0).1 hy with hy | hy
    · exact d2 y hy hfy
    · omega
  · rw [h0, s i0]
    constructor
    · exact .inl
    · rintro (h | h)
      · exact h
      · omega
theorem sides_dn {l : LV} {f up dn : Int} {h : Bool} {i : Int} (H : Sides l f up dn h i) (hi : i < (l.len : Int)) (hx : l.gi i.toNat 0 < f) (hx2 : f - l.gi i.toNat 0 ≤ 100) {x : Int} (e : x = f - l.gi i.toNat 0) :
    Sides l f up (if decide (x < dn) = true then x else dn) h (i + 1) := by
  obtain ⟨i0, i1, u0, u1, u2, d0, d1, d2, h0⟩ := H
  have s := @seen_succ l i
  simp only [decide_eq_true_eq]
  refine ⟨by omega, by omega, u0, ?_, ?_, by split <;> omega, ?_, ?_, ?_⟩
  · rcases u1 with u1 | u1
    · exact .inl u1
    · exact .inr ⟨u1.1, (s i0).2 (.inl u1.2)⟩
  · intro y hy hfy
    rcases (s i0).1 hy with hy | hy
    · exact u2 y hy hfy
    · omega
  · split
    · exact .inr ⟨by omega, (s i0).2 (.inr (by omega))⟩
    · rcases d1 with d1 | d1
      · exact .inl d1
      · exact .inr ⟨d1.1, (s i0).2 (.inl d1.2)⟩
  · intro y hy hfy
    rcases (s i0).1 hy with hy | hy
    · have := d2 y hy hfy; split <;> omega
    · split <;> omega
  · rw [h0, s i0]
    constructor
    · exact .inl
    · rintro (h | h)
      · exact h
      · omega
theorem sides_at {l : LV} {f up dn : Int} {h : Bool} {i : Int} (H : Sides l f up dn h i) (hi : i < (l.len : Int)) (hx : l.gi i.toNat 0 = f) : Sides l f up dn true (i + 1) := by
  obtain ⟨i0, i1, u0, u1, u2, d0, d1, d2, h0⟩ := H
  have s := @seen_succ l i
  refine ⟨by omega, by omega, u0, ?_, ?_, d0, ?_, ?_, ⟨fun _ => (s i0).2 (.inr hx.symm), fun _ => rfl⟩⟩
  · rcases u1 with u1 | u1
    · exact .inl u1
    · exact .inr ⟨u1.1, (s i0).2 (.inl u1.2)⟩
  · intro y hy hfy
    rcases (s i0).1 hy with hy | hy
    · exact u2 y hy hfy
    · omega
  · rcases d1 with d1 | d1
    · exact .inl d1
    · exact .inr ⟨d1.1, (s i0).2 (.inl d1.2)⟩
  · intro y hy hfy
    rcases (s i0).1 hy with hy | hy
    · exact d2 y hy hfy
    · omega
theorem seen_flo {c u d x : Int} {i : Int} (h : i = ((floL c u d).len : Int)) : Seen (floL c u d) i x ↔ anyb c u d x = true := by
  subst h
  constructor
  · rintro ⟨j, h1, h2⟩
    rw [floL_gi] at h2
    rw [floL_len] at h1
    rw [← h2]
    exact flo_get (by omega)
  · intro h
    obtain ⟨j, h1, h2⟩ := flo_has h
    exact ⟨j, by rw [floL_len]; omega, by rw [floL_gi]; exact h2⟩
theorem sides_end {c u d f up dn : Int} {h : Bool} {i : Int} (hf : 0 ≤ f ∧ f < 64) (hi : i = ((floL c u d).len : Int)) (H : Sides (floL c u d) f up dn h i) :
    above c u d f = decide (up < 100) ∧ below c u d f = decide (dn < 100) ∧ anyb c u d f = h ∧ above c u d (-5) = decide ((0 : Int) < ((floL c u d).len : Int)) ∧ below c u d 99 = decide ((0 : Int) < ((floL c u d).len : Int)) ∧
    ((up < 100 ∧ up ≤ dn → near c u d f = 1) ∧ (dn < 100 ∧ dn < up → near c u d f = -1) ∧ (¬ up < 100 ∧ ¬ dn < 100 → near c u d f = 0)) := by
  obtain ⟨i0, i1, u0, u1, u2, d0, d1, d2, h0⟩ := H
  simp only [seen_flo hi] at u1 u2 d1 d2 h0
  have hc : max (-1) (min f 64) = f := by omega
  have A : above c u d f = decide (up < 100) := by
    rw [Bool.eq_iff_iff, above_iff, decide_eq_true_eq]
    constructor
    · rintro ⟨m, h1, h2⟩
      have := u2 m h2 h1
      have := anyb_range h2
      omega
    · intro h
      rcases u1 with u1 | u1
      · omega
      · exact ⟨f + up, by omega, u1.2⟩
  have B : below c u d f = decide (dn < 100) := by
    rw [Bool.eq_iff_iff, below_iff, decide_eq_true_eq]
    constructor
    · rintro ⟨m, h1, h2⟩
      have := d2 m h2 h1
      have := anyb_range h2
      omega
    · intro h
      rcases d1 with d1 | d1
      · omega
      · exact ⟨f - dn, by omega, d1.2⟩
  have N0 : ∀ (b : Bool), (b = true ↔ ∃ x, anyb c u d x = true) → b = decide ((0 : Int) < ((floL c u d).len : Int)) := fun b hb => by
    rw [Bool.eq_iff_iff, hb, decide_eq_true_eq, floL_len]
    constructor
    · rintro ⟨x, hx⟩
      obtain ⟨j, h1, _⟩ := flo_has hx
      omega
    · intro h
      exact ⟨_, flo_get (i := 0) (by omega)⟩
  refine ⟨A, B, ?_, N0 _ ?_, N0 _ ?_, ?_, ?_, ?_⟩
  · rw [Bool.eq_iff_iff]; exact h0.symm
  · rw [above_iff]
    constructor
    · rintro ⟨m, _, h2⟩; exact ⟨m, h2⟩
    · rintro ⟨m, h2⟩; have := anyb_range h2; exact ⟨m, by omega, h2⟩
  · rw [below_iff]
    constructor
    · rintro ⟨m, _, h2⟩; exact ⟨m, h2⟩
    · rintro ⟨m, h2⟩; have := anyb_range h2; exact ⟨m, by omega, h2⟩
  · rintro ⟨h1, h2⟩
    rcases u1 with u1 | u1
    · omega
    · refine near_up (k := up) (by omega) (fun j h3 h4 => ?_) (by rw [hc]; exact u1.2)
      rw [hc]
      constructor
      · cases hj : anyb c u d (f + j)
        · rfl
        · have := u2 _ hj (by omega); omega
      · cases hj : anyb c u d (f - j)
        · rfl
        · have := d2 _ hj (by omega); omega
  · rintro ⟨h1, h2⟩
    rcases d1 with d1 | d1
    · omega
    · refine near_dn (k := dn) (by omega) (fun j h3 h4 => ?_) ?_ (by rw [hc]; exact d1.2)
      · rw [hc]
        constructor
        · cases hj : anyb c u d (f + j)
          · rfl
          · have := u2 _ hj (by omega); omega
        · cases hj : anyb c u d (f - j)
          · rfl
          · have := d2 _ hj (by omega); omega
      · rw [hc]
        cases hj : anyb c u d (f + dn)
        · rfl
        · have := u2 _ hj (by omega); omega
  · rintro ⟨h1, h2⟩
    refine near_zero.2 ⟨by rw [A]; simp; omega, by rw [B]; simp; omega⟩


theorem AheadSides_sound : C_AheadSides.Sound Tryd.prog G 3 := by
  refine fn_ok mixed stable tbl_AheadSides [⟨10, [21, 22, 23, 24, 25, 26, 27, 28, 29, 30, 31, 32, 33, 34, 35, 36, 37, 38, 39, 40, 41, 42, 43, 44, 45, 46, 47, 48, 49, 50, 51, 52, 53, 54, 55, 56], [7, 8, 9, 10], [], [5, 6], some (3, .i64)⟩] Tryd.func3 (by kernel_rfl) phi_AheadSides vc_AheadSides ⟨first14_sound, number_sound, floors_sound, near_sound, at_sound, hall_sound, above_sound, below_sound, trivial⟩ inv_AheadSides meas_AheadSides ?_
  intro ls hp
  obtain ⟨s0, s1, s2, fl, rfl, hpre⟩ := AheadSides_pre hp
  clear hp
  rw [envOf_lk]
  unfold phi_AheadSides
  refine vg_call (C := C_first14) rfl rfl (xs := []) rfl (fun hg => ?_) (fun rs hrs => ?_)
  ·
    exact trivial
  obtain ⟨r4, hr4, rfl⟩ := first14_res hrs
  clear hrs
  change Fm.holds _ _ (lk [.i s0, .i s1, .i s2, .i fl, .b r4])
  refine ⟨fun hcond => ?_, fun hcond => ?_⟩
  ·
    have c1 : r4 = false := hcond
    clear hcond
    suffices hfin : (false) = (true) from (c_b hfin rfl)
    -- leaf 1 (ret)
    simp_all
  ·
    have c2 : r4 = true := hcond
    clear hcond
    refine vg_call (C := C_number) rfl rfl (xs := [.i fl, .i (64 : Int)]) rfl (fun hg => ?_) (fun rs hrs => ?_)
    ·
      refine number_mk ?_
      -- leaf 2 (pre)
      omega
    obtain ⟨r5, hr5, rfl⟩ := number_res hrs
    clear hrs
    change Fm.holds _ _ (lk [.i s0, .i s1, .i s2, .i fl, .b r4, .i r5])
    have n1 := number_range fl (b := 64) (by omega)
    rw [← hr5] at n1
    refine vg_call (C := C_floors) rfl rfl (xs := [.i s0, .i s1, .i s2]) rfl (fun hg => ?_) (fun rs hrs => ?_)
    ·
      exact trivial
    obtain ⟨r6, hr6, rfl⟩ := floors_res hrs
    clear hrs
    change Fm.holds _ _ (lk [.i s0, .i s1, .i s2, .i fl, .b r4, .i r5, .l r6])
    refine vg_loop rfl ?_ (fun xs hfit hi => ?_)
    ·
      show inv_AheadSides_10 r5 r6 (100 : Int) (100 : Int) false (0 : Int)
      -- leaf 3 (init)
      exact sides_zero
    obtain ⟨x7, xs0, rfl, hfit0⟩ := fits_i hfit
    obtain ⟨x8, xs1, rfl, hfit1⟩ := fits_i hfit0
    obtain ⟨x9, xs2, rfl, hfit2⟩ := fits_b hfit1
    obtain ⟨x10, xs3, rfl, hfit3⟩ := fits_i hfit2
    obtain rfl := fits_nil hfit3
    clear hfit hfit0 hfit1 hfit2 hfit3
    replace hi : inv_AheadSides_10 r5 r6 x7 x8 x9 x10 := hi
    have hi10 := hi; clear hi
    change Fm.holds _ _ (lk [.i s0, .i s1, .i s2, .i fl, .b r4, .i r5, .l r6, .i x7, .i x8, .b x9, .i x10])
    have H : Sides r6 r5 x7 x8 x9 x10 := hi10
    clear hi10
    have ek : IntKind.wrap .i64 (x10 + 1) = x10 + 1 := by
      have h1 := H.i0
      have h2 := H.i1
      have h3 := @flo_len s0 s1 s2 64
      rw [hr6, floL_len] at h2
      exact wrap_in (by omega) (by omega)
    have i0 := H.i0
    refine ⟨fun hcond => ?_, fun hcond => ?_⟩
    ·
      have c3 : (decide (x10 < (r6.len : Int))) = true := hcond
      clear hcond
      refine ⟨fun hg => ?_, ?_⟩
      ·
        show (decide ((0 : Int) ≤ x10)) = true
        -- leaf 4 (ob)
        simp; omega
      refine ⟨fun hcond => ?_, fun hcond => ?_⟩
      ·
        have c4 : (decide (r5 < (r6.gi (Int.toNat x10) 0))) = true := hcond
        clear hcond
        refine ⟨?_, ?_⟩
        ·
          show inv_AheadSides_10 r5 r6 (if (decide ((IntKind.wrap .i64 ((r6.gi (Int.toNat x10) 0) - r5)) < x7)) = true then (IntKind.wrap .i64 ((r6.gi (Int.toNat x10) 0) - r5)) else x7) x8 x9 (IntKind.wrap .i64 (x10 + (1 : Int)))
          -- leaf 5 (back)
          have hlt := of_decide_eq_true c3
          have hg := flo_get (c := s0) (u := s1) (d := s2) (i := x10.toNat) (by rw [← floL_len, ← hr6]; omega)
          rw [← floL_gi, ← hr6] at hg
          have hgr := anyb_range hg
          have h4 := of_decide_eq_true c4
          rw [ek]
          exact sides_up H hlt h4 (by omega) (wrap_in (by omega) (by omega))
        ·
          show meas_AheadSides_10 r5 r6 (if (decide ((IntKind.wrap .i64 ((r6.gi (Int.toNat x10) 0) - r5)) < x7)) = true then (IntKind.wrap .i64 ((r6.gi (Int.toNat x10) 0) - r5)) else x7) x8 x9 (IntKind.wrap .i64 (x10 + (1 : Int))) < meas_AheadSides_10 r5 r6 x7 x8 x9 x10
          -- leaf 6 (meas)
          have hlt := of_decide_eq_true c3
          unfold meas_AheadSides_10
          rw [ek]
          omega
      ·
        have c5 : (decide (r5 < (r6.gi (Int.toNat x10) 0))) = false := hcond
        clear hcond
        refine ⟨fun hcond => ?_, fun hcond => ?_⟩
        ·
          have c6 : (decide ((r6.gi (Int.toNat x10) 0) < r5)) = true := hcond
          clear hcond
          refine ⟨?_, ?_⟩
          ·
            show inv_AheadSides_10 r5 r6 x7 (if (decide ((IntKind.wrap .i64 (r5 - (r6.gi (Int.toNat x10) 0))) < x8)) = true then (IntKind.wrap .i64 (r5 - (r6.gi (Int.toNat x10) 0))) else x8) x9 (IntKind.wrap .i64 (x10 + (1 : Int)))
            -- leaf 7 (back)
            have hlt := of_decide_eq_true c3
            have hg := flo_get (c := s0) (u := s1) (d := s2) (i := x10.toNat) (by rw [← floL_len, ← hr6]; omega)
            rw [← floL_gi, ← hr6] at hg
            have hgr := anyb_range hg
            have h6 := of_decide_eq_true c6
            rw [ek]
            exact sides_dn H hlt h6 (by omega) (wrap_in (by omega) (by omega))
          ·
            show meas_AheadSides_10 r5 r6 x7 (if (decide ((IntKind.wrap .i64 (r5 - (r6.gi (Int.toNat x10) 0))) < x8)) = true then (IntKind.wrap .i64 (r5 - (r6.gi (Int.toNat x10) 0))) else x8) x9 (IntKind.wrap .i64 (x10 + (1 : Int))) < meas_AheadSides_10 r5 r6 x7 x8 x9 x10
            -- leaf 8 (meas)
            have hlt := of_decide_eq_true c3
            unfold meas_AheadSides_10
            rw [ek]
            omega
        ·
          have c7 : (decide ((r6.gi (Int.toNat x10) 0) < r5)) = false := hcond
          clear hcond
          refine ⟨?_, ?_⟩
          ·
            show inv_AheadSides_10 r5 r6 x7 x8 true (IntKind.wrap .i64 (x10 + (1 : Int)))
            -- leaf 9 (back)
            have hlt := of_decide_eq_true c3
            have hg := flo_get (c := s0) (u := s1) (d := s2) (i := x10.toNat) (by rw [← floL_len, ← hr6]; omega)
            rw [← floL_gi, ← hr6] at hg
            have hgr := anyb_range hg
            have h5 := of_decide_eq_false c5
            have h7 := of_decide_eq_false c7
            rw [ek]
            exact sides_at H hlt (by omega)
          ·
            show meas_AheadSides_10 r5 r6 x7 x8 true (IntKind.wrap .i64 (x10 + (1 : Int))) < meas_AheadSides_10 r5 r6 x7 x8 x9 x10
            -- leaf 10 (meas)
            have hlt := of_decide_eq_true c3
            unfold meas_AheadSides_10
            rw [ek]
            omega
    ·
      have c8 : (decide (x10 < (r6.len : Int))) = false := hcond
      clear hcond
      refine vg_call (C := C_near) rfl rfl (xs := [.i s0, .i s1, .i s2, .i r5]) rfl (fun hg => ?_) (fun rs hrs => ?_)
      ·
        exact trivial
      obtain ⟨r11, hr11, rfl⟩ := near_res hrs
      clear hrs
      change Fm.holds _ _ (lk [.i s0, .i s1, .i s2, .i fl, .b r4, .i r5, .l r6, .i x7, .i x8, .b x9, .i x10, .i r11])
      refine ⟨fun hcond => ?_, fun hcond => ?_⟩
      ·
        have c9 : (if (decide (x7 < (100 : Int))) = true then (decide (x7 ≤ x8)) else false) = true := hcond
        clear hcond
        refine ⟨fun hcond => ?_, fun hcond => ?_⟩
        ·
          have c10 : (if (decide (x8 < (100 : Int))) = true then (decide (x8 < x7)) else false) = true := hcond
          clear hcond
          refine vg_call (C := C_at) rfl rfl (xs := [.i s0, .i s1, .i s2, .i r5]) rfl (fun hg => ?_) (fun rs hrs => ?_)
          ·
            exact trivial
          obtain ⟨r12, hr12, rfl⟩ := at_res hrs
          clear hrs
          change Fm.holds _ _ (lk [.i s0, .i s1, .i s2, .i fl, .b r4, .i r5, .l r6, .i x7, .i x8, .b x9, .i x10, .i r11, .b r12])
          refine vg_call (C := C_hall) rfl rfl (xs := [.i s0, .i s1, .i s2, .i r5, .i (1 : Int)]) rfl (fun hg => ?_) (fun rs hrs => ?_)
          ·
            exact trivial
          obtain ⟨r13, hr13, rfl⟩ := hall_res hrs
          clear hrs
          change Fm.holds _ _ (lk [.i s0, .i s1, .i s2, .i fl, .b r4, .i r5, .l r6, .i x7, .i x8, .b x9, .i x10, .i r11, .b r12, .b r13])
          refine vg_call (C := C_hall) rfl rfl (xs := [.i s0, .i s1, .i s2, .i r5, .i (-1)]) rfl (fun hg => ?_) (fun rs hrs => ?_)
          ·
            exact trivial
          obtain ⟨r14, hr14, rfl⟩ := hall_res hrs
          clear hrs
          change Fm.holds _ _ (lk [.i s0, .i s1, .i s2, .i fl, .b r4, .i r5, .l r6, .i x7, .i x8, .b x9, .i x10, .i r11, .b r12, .b r13, .b r14])
          refine vg_call (C := C_above) rfl rfl (xs := [.i s0, .i s1, .i s2, .i r5]) rfl (fun hg => ?_) (fun rs hrs => ?_)
          ·
            exact trivial
          obtain ⟨r15, hr15, rfl⟩ := above_res hrs
          clear hrs
          change Fm.holds _ _ (lk [.i s0, .i s1, .i s2, .i fl, .b r4, .i r5, .l r6, .i x7, .i x8, .b x9, .i x10, .i r11, .b r12, .b r13, .b r14, .b r15])
          refine vg_call (C := C_below) rfl rfl (xs := [.i s0, .i s1, .i s2, .i r5]) rfl (fun hg => ?_) (fun rs hrs => ?_)
          ·
            exact trivial
          obtain ⟨r16, hr16, rfl⟩ := below_res hrs
          clear hrs
          change Fm.holds _ _ (lk [.i s0, .i s1, .i s2, .i fl, .b r4, .i r5, .l r6, .i x7, .i x8, .b x9, .i x10, .i r11, .b r12, .b r13, .b r14, .b r15, .b r16])
          refine vg_call (C := C_above) rfl rfl (xs := [.i s0, .i s1, .i s2, .i (-5)]) rfl (fun hg => ?_) (fun rs hrs => ?_)
          ·
            exact trivial
          obtain ⟨r17, hr17, rfl⟩ := above_res hrs
          clear hrs
          change Fm.holds _ _ (lk [.i s0, .i s1, .i s2, .i fl, .b r4, .i r5, .l r6, .i x7, .i x8, .b x9, .i x10, .i r11, .b r12, .b r13, .b r14, .b r15, .b r16, .b r17])
          refine vg_call (C := C_below) rfl rfl (xs := [.i s0, .i s1, .i s2, .i (99 : Int)]) rfl (fun hg => ?_) (fun rs hrs => ?_)
          ·
            exact trivial
          obtain ⟨r18, hr18, rfl⟩ := below_res hrs
          clear hrs
          change Fm.holds _ _ (lk [.i s0, .i s1, .i s2, .i fl, .b r4, .i r5, .l r6, .i x7, .i x8, .b x9, .i x10, .i r11, .b r12, .b r13, .b r14, .b r15, .b r16, .b r17, .b r18])
          suffices hfin : ((if (if (if (if (if (r15 == (decide (x7 < (100 : Int)))) = true then (r16 == (decide (x8 < (100 : Int)))) else false) = true then ((if (if r12 = true then true else r13) = true then true else r14) == x9) else false) = true then (r11 == (-1)) else false) = true then (r17 == (decide ((0 : Int) < (r6.len : Int)))) else false) = true then (r18 == (decide ((0 : Int) < (r6.len : Int)))) else false)) = (true) from (c_b hfin rfl)
          -- leaf 11 (ret)
          simp at c9 c10; omega
        ·
          have c11 : (if (decide (x8 < (100 : Int))) = true then (decide (x8 < x7)) else false) = false := hcond
          clear hcond
          refine vg_call (C := C_at) rfl rfl (xs := [.i s0, .i s1, .i s2, .i r5]) rfl (fun hg => ?_) (fun rs hrs => ?_)
          ·
            exact trivial
          obtain ⟨r12, hr12, rfl⟩ := at_res hrs
          clear hrs
          change Fm.holds _ _ (lk [.i s0, .i s1, .i s2, .i fl, .b r4, .i r5, .l r6, .i x7, .i x8, .b x9, .i x10, .i r11, .b r12])
          refine vg_call (C := C_hall) rfl rfl (xs := [.i s0, .i s1, .i s2, .i r5, .i (1 : Int)]) rfl (fun hg => ?_) (fun rs hrs => ?_)
          ·
            exact trivial
          obtain ⟨r13, hr13, rfl⟩ := hall_res hrs
          clear hrs
          change Fm.holds _ _ (lk [.i s0, .i s1, .i s2, .i fl, .b r4, .i r5, .l r6, .i x7, .i x8, .b x9, .i x10, .i r11, .b r12, .b r13])
          refine vg_call (C := C_hall) rfl rfl (xs := [.i s0, .i s1, .i s2, .i r5, .i (-1)]) rfl (fun hg => ?_) (fun rs hrs => ?_)
          ·
            exact trivial
          obtain ⟨r14, hr14, rfl⟩ := hall_res hrs
          clear hrs
          change Fm.holds _ _ (lk [.i s0, .i s1, .i s2, .i fl, .b r4, .i r5, .l r6, .i x7, .i x8, .b x9, .i x10, .i r11, .b r12, .b r13, .b r14])
          refine vg_call (C := C_above) rfl rfl (xs := [.i s0, .i s1, .i s2, .i r5]) rfl (fun hg => ?_) (fun rs hrs => ?_)
          ·
            exact trivial
          obtain ⟨r15, hr15, rfl⟩ := above_res hrs
          clear hrs
          change Fm.holds _ _ (lk [.i s0, .i s1, .i s2, .i fl, .b r4, .i r5, .l r6, .i x7, .i x8, .b x9, .i x10, .i r11, .b r12, .b r13, .b r14, .b r15])
          refine vg_call (C := C_below) rfl rfl (xs := [.i s0, .i s1, .i s2, .i r5]) rfl (fun hg => ?_) (fun rs hrs => ?_)
          ·
            exact trivial
          obtain ⟨r16, hr16, rfl⟩ := below_res hrs
          clear hrs
          change Fm.holds _ _ (lk [.i s0, .i s1, .i s2, .i fl, .b r4, .i r5, .l r6, .i x7, .i x8, .b x9, .i x10, .i r11, .b r12, .b r13, .b r14, .b r15, .b r16])
          refine vg_call (C := C_above) rfl rfl (xs := [.i s0, .i s1, .i s2, .i (-5)]) rfl (fun hg => ?_) (fun rs hrs => ?_)
          ·
            exact trivial
          obtain ⟨r17, hr17, rfl⟩ := above_res hrs
          clear hrs
          change Fm.holds _ _ (lk [.i s0, .i s1, .i s2, .i fl, .b r4, .i r5, .l r6, .i x7, .i x8, .b x9, .i x10, .i r11, .b r12, .b r13, .b r14, .b r15, .b r16, .b r17])
          refine vg_call (C := C_below) rfl rfl (xs := [.i s0, .i s1, .i s2, .i (99 : Int)]) rfl (fun hg => ?_) (fun rs hrs => ?_)
          ·
            exact trivial
          obtain ⟨r18, hr18, rfl⟩ := below_res hrs
          clear hrs
          change Fm.holds _ _ (lk [.i s0, .i s1, .i s2, .i fl, .b r4, .i r5, .l r6, .i x7, .i x8, .b x9, .i x10, .i r11, .b r12, .b r13, .b r14, .b r15, .b r16, .b r17, .b r18])
          suffices hfin : ((if (if (if (if (if (r15 == (decide (x7 < (100 : Int)))) = true then (r16 == (decide (x8 < (100 : Int)))) else false) = true then ((if (if r12 = true then true else r13) = true then true else r14) == x9) else false) = true then (r11 == (1 : Int)) else false) = true then (r17 == (decide ((0 : Int) < (r6.len : Int)))) else false) = true then (r18 == (decide ((0 : Int) < (r6.len : Int)))) else false)) = (true) from (c_b hfin rfl)
          -- leaf 12 (ret)
          have hlt := of_decide_eq_false c8
          obtain ⟨E1, E2, E3, E4, E5, E6, E7, E8⟩ := sides_end (c := s0) (u := s1) (d := s2) (i := x10) n1 (by have := H.i1; rw [← hr6]; omega) (hr6 ▸ H)
          rw [← hr6] at E4 E5
          rw [anyb_or] at E3
          rw [hallb_up] at hr13
          rw [hallb_dn] at hr14
          rw [hr15, hr16, hr17, hr18, hr12, hr13, hr14, hr11, E1, E2, E4, E5, ← E3]
          simp at c9
          rw [E6 ⟨c9.1, c9.2⟩]
          simp
      ·
        have c12 : (if (decide (x7 < (100 : Int))) = true then (decide (x7 ≤ x8)) else false) = false := hcond
        clear hcond
        refine ⟨fun hcond => ?_, fun hcond => ?_⟩
        ·
          have c13 : (if (decide (x8 < (100 : Int))) = true then (decide (x8 < x7)) else false) = true := hcond
          clear hcond
          refine vg_call (C := C_at) rfl rfl (xs := [.i s0, .i s1, .i s2, .i r5]) rfl (fun hg => ?_) (fun rs hrs => ?_)
          ·
            exact trivial
          obtain ⟨r12, hr12, rfl⟩ := at_res hrs
          clear hrs
          change Fm.holds _ _ (lk [.i s0, .i s1, .i s2, .i fl, .b r4, .i r5, .l r6, .i x7, .i x8, .b x9, .i x10, .i r11, .b r12])
          refine vg_call (C := C_hall) rfl rfl (xs := [.i s0, .i s1, .i s2, .i r5, .i (1 : Int)]) rfl (fun hg => ?_) (fun rs hrs => ?_)
          ·
            exact trivial
          obtain ⟨r13, hr13, rfl⟩ := hall_res hrs
          clear hrs
          change Fm.holds _ _ (lk [.i s0, .i s1, .i s2, .i fl, .b r4, .i r5, .l r6, .i x7, .i x8, .b x9, .i x10, .i r11, .b r12, .b r13])
          refine vg_call (C := C_hall) rfl rfl (xs := [.i s0, .i s1, .i s2, .i r5, .i (-1)]) rfl (fun hg => ?_) (fun rs hrs => ?_)
          ·
            exact trivial
          obtain ⟨r14, hr14, rfl⟩ := hall_res hrs
          clear hrs
          change Fm.holds _ _ (lk [.i s0, .i s1, .i s2, .i fl, .b r4, .i r5, .l r6, .i x7, .i x8, .b x9, .i x10, .i r11, .b r12, .b r13, .b r14])
          refine vg_call (C := C_above) rfl rfl (xs := [.i s0, .i s1, .i s2, .i r5]) rfl (fun hg => ?_) (fun rs hrs => ?_)
          ·
            exact trivial
          obtain ⟨r15, hr15, rfl⟩ := above_res hrs
          clear hrs
          change Fm.holds _ _ (lk [.i s0, .i s1, .i s2, .i fl, .b r4, .i r5, .l r6, .i x7, .i x8, .b x9, .i x10, .i r11, .b r12, .b r13, .b r14, .b r15])
          refine vg_call (C := C_below) rfl rfl (xs := [.i s0, .i s1, .i s2, .i r5]) rfl (fun hg => ?_) (fun rs hrs => ?_)
          ·
            exact trivial
          obtain ⟨r16, hr16, rfl⟩ := below_res hrs
          clear hrs
          change Fm.holds _ _ (lk [.i s0, .i s1, .i s2, .i fl, .b r4, .i r5, .l r6, .i x7, .i x8, .b x9, .i x10, .i r11, .b r12, .b r13, .b r14, .b r15, .b r16])
          refine vg_call (C := C_above) rfl rfl (xs := [.i s0, .i s1, .i s2, .i (-5)]) rfl (fun hg => ?_) (fun rs hrs => ?_)
          ·
            exact trivial
          obtain ⟨r17, hr17, rfl⟩ := above_res hrs
          clear hrs
          change Fm.holds _ _ (lk [.i s0, .i s1, .i s2, .i fl, .b r4, .i r5, .l r6, .i x7, .i x8, .b x9, .i x10, .i r11, .b r12, .b r13, .b r14, .b r15, .b r16, .b r17])
          refine vg_call (C := C_below) rfl rfl (xs := [.i s0, .i s1, .i s2, .i (99 : Int)]) rfl (fun hg => ?_) (fun rs hrs => ?_)
          ·
            exact trivial
          obtain ⟨r18, hr18, rfl⟩ := below_res hrs
          clear hrs
          change Fm.holds _ _ (lk [.i s0, .i s1, .i s2, .i fl, .b r4, .i r5, .l r6, .i x7, .i x8, .b x9, .i x10, .i r11, .b r12, .b r13, .b r14, .b r15, .b r16, .b r17, .b r18])
          suffices hfin : ((if (if (if (if (if (r15 == (decide (x7 < (100 : Int)))) = true then (r16 == (decide (x8 < (100 : Int)))) else false) = true then ((if (if r12 = true then true else r13) = true then true else r14) == x9) else false) = true then (r11 == (-1)) else false) = true then (r17 == (decide ((0 : Int) < (r6.len : Int)))) else false) = true then (r18 == (decide ((0 : Int) < (r6.len : Int)))) else false)) = (true) from (c_b hfin rfl)
          -- leaf 13 (ret)
          have hlt := of_decide_eq_false c8
          obtain ⟨E1, E2, E3, E4, E5, E6, E7, E8⟩ := sides_end (c := s0) (u := s1) (d := s2) (i := x10) n1 (by have := H.i1; rw [← hr6]; omega) (hr6 ▸ H)
          rw [← hr6] at E4 E5
          rw [anyb_or] at E3
          rw [hallb_up] at hr13
          rw [hallb_dn] at hr14
          rw [hr15, hr16, hr17, hr18, hr12, hr13, hr14, hr11, E1, E2, E4, E5, ← E3]
          simp at c13
          rw [E7 ⟨c13.1, c13.2⟩]
          simp
        ·
          have c14 : (if (decide (x8 < (100 : Int))) = true then (decide (x8 < x7)) else false) = false := hcond
          clear hcond
          refine vg_call (C := C_at) rfl rfl (xs := [.i s0, .i s1, .i s2, .i r5]) rfl (fun hg => ?_) (fun rs hrs => ?_)
          ·
            exact trivial
          obtain ⟨r12, hr12, rfl⟩ := at_res hrs
          clear hrs
          change Fm.holds _ _ (lk [.i s0, .i s1, .i s2, .i fl, .b r4, .i r5, .l r6, .i x7, .i x8, .b x9, .i x10, .i r11, .b r12])
          refine vg_call (C := C_hall) rfl rfl (xs := [.i s0, .i s1, .i s2, .i r5, .i (1 : Int)]) rfl (fun hg => ?_) (fun rs hrs => ?_)
          ·
            exact trivial
          obtain ⟨r13, hr13, rfl⟩ := hall_res hrs
          clear hrs
          change Fm.holds _ _ (lk [.i s0, .i s1, .i s2, .i fl, .b r4, .i r5, .l r6, .i x7, .i x8, .b x9, .i x10, .i r11, .b r12, .b r13])
          refine vg_call (C := C_hall) rfl rfl (xs := [.i s0, .i s1, .i s2, .i r5, .i (-1)]) rfl (fun hg => ?_) (fun rs hrs => ?_)
          ·
            exact trivial
          obtain ⟨r14, hr14, rfl⟩ := hall_res hrs
          clear hrs
          change Fm.holds _ _ (lk [.i s0, .i s1, .i s2, .i fl, .b r4, .i r5, .l r6, .i x7, .i x8, .b x9, .i x10, .i r11, .b r12, .b r13, .b r14])
          refine vg_call (C := C_above) rfl rfl (xs := [.i s0, .i s1, .i s2, .i r5]) rfl (fun hg => ?_) (fun rs hrs => ?_)
          ·
            exact trivial
          obtain ⟨r15, hr15, rfl⟩ := above_res hrs
          clear hrs
          change Fm.holds _ _ (lk [.i s0, .i s1, .i s2, .i fl, .b r4, .i r5, .l r6, .i x7, .i x8, .b x9, .i x10, .i r11, .b r12, .b r13, .b r14, .b r15])
          refine vg_call (C := C_below) rfl rfl (xs := [.i s0, .i s1, .i s2, .i r5]) rfl (fun hg => ?_) (fun rs hrs => ?_)
          ·
            exact trivial
          obtain ⟨r16, hr16, rfl⟩ := below_res hrs
          clear hrs
          change Fm.holds _ _ (lk [.i s0, .i s1, .i s2, .i fl, .b r4, .i r5, .l r6, .i x7, .i x8, .b x9, .i x10, .i r11, .b r12, .b r13, .b r14, .b r15, .b r16])
          refine vg_call (C := C_above) rfl rfl (xs := [.i s0, .i s1, .i s2, .i (-5)]) rfl (fun hg => ?_) (fun rs hrs => ?_)
          ·
            exact trivial
          obtain ⟨r17, hr17, rfl⟩ := above_res hrs
          clear hrs
          change Fm.holds _ _ (lk [.i s0, .i s1, .i s2, .i fl, .b r4, .i r5, .l r6, .i x7, .i x8, .b x9, .i x10, .i r11, .b r12, .b r13, .b r14, .b r15, .b r16, .b r17])
          refine vg_call (C := C_below) rfl rfl (xs := [.i s0, .i s1, .i s2, .i (99 : Int)]) rfl (fun hg => ?_) (fun rs hrs => ?_)
          ·
            exact trivial
          obtain ⟨r18, hr18, rfl⟩ := below_res hrs
          clear hrs
          change Fm.holds _ _ (lk [.i s0, .i s1, .i s2, .i fl, .b r4, .i r5, .l r6, .i x7, .i x8, .b x9, .i x10, .i r11, .b r12, .b r13, .b r14, .b r15, .b r16, .b r17, .b r18])
          suffices hfin : ((if (if (if (if (if (r15 == (decide (x7 < (100 : Int)))) = true then (r16 == (decide (x8 < (100 : Int)))) else false) = true then ((if (if r12 = true then true else r13) = true then true else r14) == x9) else false) = true then (r11 == (0 : Int)) else false) = true then (r17 == (decide ((0 : Int) < (r6.len : Int)))) else false) = true then (r18 == (decide ((0 : Int) < (r6.len : Int)))) else false)) = (true) from (c_b hfin rfl)
          -- leaf 14 (ret)
          have hlt := of_decide_eq_false c8
          obtain ⟨E1, E2, E3, E4, E5, E6, E7, E8⟩ := sides_end (c := s0) (u := s1) (d := s2) (i := x10) n1 (by have := H.i1; rw [← hr6]; omega) (hr6 ▸ H)
          rw [← hr6] at E4 E5
          rw [anyb_or] at E3
          rw [hallb_up] at hr13
          rw [hallb_dn] at hr14
          rw [hr15, hr16, hr17, hr18, hr12, hr13, hr14, hr11, E1, E2, E4, E5, ← E3]
          simp at c12 c14
          rw [E8 ⟨by omega, by omega⟩]
          simp
end Go.Proofs.YtppnpmpocnpgaaaDoor
