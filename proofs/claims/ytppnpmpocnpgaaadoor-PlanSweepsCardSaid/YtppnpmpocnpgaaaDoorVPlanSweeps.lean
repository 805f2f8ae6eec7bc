import Derived.Test.YtppnpmpocnpgaaaDoorF
namespace Go.Proofs.YtppnpmpocnpgaaaDoor
open Go.Vg
set_option linter.unusedVariables false
set_option linter.unusedSimpArgs false
open Go

theorem near_zero {c u d n : Int} : near c u d n = 0 ↔ above c u d n = false ∧ below c u d n = false := by
  unfold near above below
  by_cases h1 : upB c u d n = 0#64 <;> by_cases h2 : dnB c u d n = 0#64 <;> simp [h1, h2] <;> split <;> simp
theorem near_one {c u d n : Int} (h : near c u d n = 1) : above c u d n = true := by
  unfold near at h; unfold above
  by_cases h1 : upB c u d n = 0#64 <;> by_cases h2 : dnB c u d n = 0#64 <;> simp [h1, h2] at h ⊢
theorem near_neg {c u d n : Int} (h : near c u d n = -1) : below c u d n = true := by
  unfold near at h; unfold below
  by_cases h1 : upB c u d n = 0#64 <;> by_cases h2 : dnB c u d n = 0#64 <;> simp [h1, h2] at h ⊢
theorem hallb_up {u d n : Int} : hallb u d n 1 = isb u n := by simp [hallb]
theorem hallb_dn {u d n : Int} : hallb u d n (-1) = isb d n := by simp [hallb]
theorem hallb_zero {u d n : Int} : hallb u d n 0 = false := by simp [hallb]
theorem toward_up {c u d n : Int} : toward c u d n 1 = above c u d n := by simp [toward]
theorem toward_dn {c u d n : Int} : toward c u d n (-1) = below c u d n := by simp [toward]
theorem anyb_or {c u d n : Int} : anyb c u d n = (isb c n || isb u n || isb d n) := by
  unfold anyb allB isb
  rw [BitVec.getLsbD_or, BitVec.getLsbD_or]
  cases okf n <;> simp
theorem turn_range {c u d n dir : Int} (hd : -1 ≤ dir ∧ dir ≤ 1) : -1 ≤ turn c u d n dir ∧ turn c u d n dir ≤ 1 := by
  have hn := @near_range c u d n
  unfold turn
  split
  · exact hd
  · split
    · omega
    · split
      · omega
      · split
        · omega
        · split <;> omega
theorem turn_zero {c u d n dir : Int} (hd : -1 ≤ dir ∧ dir ≤ 1) (h : turn c u d n dir = 0) : above c u d n = false ∧ below c u d n = false ∧ isb u n = false ∧ isb d n = false := by
  have : dir = -1 ∨ dir = 0 ∨ dir = 1 := by omega
  unfold turn way at h
  rcases this with rfl | rfl | rfl
  · simp only [Int.reduceNeg, Int.neg_neg, toward_dn, toward_up, hallb_dn, hallb_up] at h
    cases h1 : below c u d n <;> cases h2 : isb d n <;> cases h3 : above c u d n <;> cases h4 : isb u n <;> simp [h1, h2, h3, h4] at h <;> simp
  · simp only [hallb_up, hallb_dn] at h
    cases h2 : isb d n <;> cases h4 : isb u n <;> simp [h2, h4] at h
    have := near_zero.1 h
    simp [this]
  · simp only [Int.reduceNeg, toward_dn, toward_up, hallb_dn, hallb_up] at h
    cases h1 : below c u d n <;> cases h2 : isb d n <;> cases h3 : above c u d n <;> cases h4 : isb u n <;> simp [h1, h2, h3, h4] at h <;> simp
theorem turn_move {c u d n dir : Int} (hd : -1 ≤ dir ∧ dir ≤ 1) (h : turn c u d n dir ≠ 0) (hs : hallb u d n (turn c u d n dir) = false) : toward c u d n (turn c u d n dir) = true := by
  have hdd : dir = -1 ∨ dir = 0 ∨ dir = 1 := by omega
  generalize ht : turn c u d n dir = t at *
  unfold turn way at ht
  split at ht
  · rename_i h1
    subst ht
    simp only [Bool.and_eq_true, Bool.or_eq_true] at h1
    rcases h1.2 with h2 | h2
    · exact h2
    · rw [hs] at h2; cases h2
  · split at ht
    · rename_i h1
      subst ht
      simp only [Bool.and_eq_true, Bool.or_eq_true] at h1
      rcases h1.2 with h2 | h2
      · exact h2
      · rw [hs] at h2; cases h2
    · split at ht
      · exact absurd ht.symm h
      · split at ht
        · rename_i h1
          subst ht
          rw [hs] at h1; cases h1
        · split at ht
          · rename_i h1
            subst ht
            rw [hs] at h1; cases h1
          · have hn := @near_range c u d n
            have : t = 1 ∨ t = -1 := by omega
            rcases this with rfl | rfl
            · rw [toward_up]; exact near_one ht
            · rw [toward_dn]; exact near_neg ht
theorem turn_keeps {c u d n dir : Int} (h0 : dir ≠ 0) (h : toward c u d n dir = true) : turn c u d n dir = dir := by
  unfold turn way
  rw [h]
  simp [h0]
theorem nothing {c u d : Int} (h : ∀ x, anyb c u d x = false) (n : Int) : above c u d n = false ∧ below c u d n = false ∧ isb c n = false ∧ isb u n = false ∧ isb d n = false := by
  refine ⟨?_, ?_, ?_⟩
  · cases ha : above c u d n
    · rfl
    · obtain ⟨m, _, hm⟩ := above_iff.1 ha
      rw [h m] at hm; cases hm
  · cases ha : below c u d n
    · rfl
    · obtain ⟨m, _, hm⟩ := below_iff.1 ha
      rw [h m] at hm; cases hm
  · have := h n
    rw [anyb_or] at this
    revert this
    cases isb c n <;> cases isb u n <;> cases isb d n <;> simp
theorem turn_nothing {c u d n dir : Int} (h : ∀ x, anyb c u d x = false) : turn c u d n dir = 0 := by
  obtain ⟨h1, h2, h3, h4, h5⟩ := nothing h n
  have h6 := near_zero.2 ⟨h1, h2⟩
  unfold turn way toward
  simp [hallb, h1, h2, h4, h5, h6]
theorem something {c u d n : Int} (h : ∃ x, anyb c u d x = true) : above c u d n = true ∨ below c u d n = true ∨ isb c n = true ∨ isb u n = true ∨ isb d n = true := by
  obtain ⟨x, hx⟩ := h
  rcases Int.lt_trichotomy n x with h1 | h1 | h1
  · exact .inl (above_iff.2 ⟨x, h1, hx⟩)
  · subst h1
    rw [anyb_or] at hx
    revert hx
    cases isb c n <;> cases isb u n <;> cases isb d n <;> simp
  · exact .inr (.inl (below_iff.2 ⟨x, h1, hx⟩))
/-! Sweeping: what is left to go, by phases. e: the direction, 1 or -1; S: how far floors lie apart; p: the place. -/
section
variable {c u d : Int}
theorem any_iff {x : Int} : anyb c u d x = true ↔ isb c x = true ∨ hallb u d x 1 = true ∨ hallb u d x (-1) = true := by
  rw [anyb_or, hallb_up, hallb_dn]
  cases isb c x <;> cases isb u x <;> cases isb d x <;> simp
theorem any_e {x e : Int} (he : e = 1 ∨ e = -1) : anyb c u d x = true ↔ isb c x = true ∨ hallb u d x e = true ∨ hallb u d x (-e) = true := by
  rw [any_iff]
  rcases he with rfl | rfl
  · exact Iff.rfl
  · simp only [Int.reduceNeg, Int.neg_neg]
    constructor
    · rintro (h | h | h)
      · exact .inl h
      · exact .inr (.inr h)
      · exact .inr (.inl h)
    · rintro (h | h | h)
      · exact .inl h
      · exact .inr (.inr h)
      · exact .inr (.inl h)
theorem toward_iff {f e : Int} (he : e = 1 ∨ e = -1) : toward c u d f e = true ↔ ∃ x, e * f < e * x ∧ anyb c u d x = true := by
  rcases he with rfl | rfl
  · rw [toward_up, above_iff]
    simp only [Int.one_mul]
  · rw [toward_dn, below_iff]
    constructor
    · rintro ⟨m, h1, h2⟩; exact ⟨m, by omega, h2⟩
    · rintro ⟨m, h1, h2⟩; exact ⟨m, by omega, h2⟩
theorem mul_lt_iff {S : Int} (hS : 0 < S) {e f x : Int} (he : e = 1 ∨ e = -1) : e * (x * S) < e * (f * S) ↔ e * x < e * f := by
  rcases he with rfl | rfl
  · simp only [Int.one_mul]
    exact ⟨fun h => Int.lt_of_mul_lt_mul_right h (by omega), fun h => Int.mul_lt_mul_of_pos_right h hS⟩
  · constructor
    · intro h
      have : f * S < x * S := by omega
      have := Int.lt_of_mul_lt_mul_right this (by omega)
      omega
    · intro h
      have : f * S < x * S := Int.mul_lt_mul_of_pos_right (by omega) hS
      omega
theorem mul_inj_iff {S : Int} (hS : 0 < S) {f x : Int} : x * S = f * S ↔ x = f := ⟨fun h => Int.eq_of_mul_eq_mul_right (by omega) h, fun h => by rw [h]⟩
def PB (c u d S p e : Int) : Prop := ∀ x, e * (x * S) < e * p → isb c x = false ∧ hallb u d x e = false
def PC (c u d S p e : Int) : Prop := (∀ x, e * (x * S) < e * p → anyb c u d x = false) ∧ (∀ x, e * p ≤ e * (x * S) → hallb u d x (-e) = false) ∧ (∀ x, e * p < e * (x * S) → isb c x = false)
/-- What is left to go, in place units: t: the house's length. -/
def gone (t p e : Int) : Int := if e = 1 then p else t - p
inductive Ph (c u d S t p : Int) : Int → Int → Prop
  | a (e : Int) (he : e = 1 ∨ e = -1) : Ph c u d S t p e (3 * t - gone t p e)
  | b (e : Int) (he : e = 1 ∨ e = -1) (h : PB c u d S p e) : Ph c u d S t p e (2 * t - gone t p e)
  | c (e : Int) (he : e = 1 ∨ e = -1) (h : PC c u d S p e) : Ph c u d S t p e (t - gone t p e)
  | z : Ph c u d S t p 0 (3 * t)
/-- One set within another. -/
def Sub (c u d c' u' d' : Int) : Prop := ∀ x, (isb c' x = true → isb c x = true) ∧ (∀ e, hallb u' d' x e = true → hallb u d x e = true)
theorem Sub.any {c' u' d' : Int} (h : Sub c u d c' u' d') {x : Int} (hx : anyb c' u' d' x = true) : anyb c u d x = true := by
  rw [any_iff] at hx ⊢
  rcases hx with h1 | h1 | h1
  · exact .inl ((h x).1 h1)
  · exact .inr (.inl ((h x).2 1 h1))
  · exact .inr (.inr ((h x).2 (-1) h1))
theorem not_of {a b : Bool} (h : a = true → b = true) (hb : b = false) : a = false := by
  cases a
  · rfl
  · rw [h rfl] at hb; cases hb
theorem PB.sub {S p e c' u' d' : Int} (h : PB c u d S p e) (hs : Sub c u d c' u' d') : PB c' u' d' S p e := fun x hx => ⟨not_of (hs x).1 (h x hx).1, not_of ((hs x).2 e) (h x hx).2⟩
theorem PC.sub {S p e c' u' d' : Int} (h : PC c u d S p e) (hs : Sub c u d c' u' d') : PC c' u' d' S p e :=
  ⟨fun x hx => not_of (fun h' => hs.any h') (h.1 x hx), fun x hx => not_of ((hs x).2 (-e)) (h.2.1 x hx), fun x hx => not_of (hs x).1 (h.2.2 x hx)⟩
theorem Ph.sub {S t p e m c' u' d' : Int} (h : Ph c u d S t p e m) (hs : Sub c u d c' u' d') : Ph c' u' d' S t p e m := by
  cases h with
  | a _ he => exact .a e he
  | b _ he h => exact .b e he (h.sub hs)
  | c _ he h => exact .c e he (h.sub hs)
  | z => exact .z
theorem gone_step {t p e : Int} (he : e = 1 ∨ e = -1) : gone t (p + e) e = gone t p e + 1 := by
  rcases he with rfl | rfl <;> simp [gone] <;> omega
theorem gone_turn {t p e : Int} (he : e = 1 ∨ e = -1) : gone t p (-e) = t - gone t p e := by
  rcases he with rfl | rfl <;> simp [gone] <;> omega
theorem gone_range {t p e : Int} (h0 : 0 ≤ p) (h1 : p ≤ t) : 0 ≤ gone t p e ∧ gone t p e ≤ t := by
  unfold gone; split <;> omega
theorem Ph.range {S t p e m : Int} (h : Ph c u d S t p e m) (h0 : 0 ≤ p) (h1 : p ≤ t) : 0 ≤ m ∧ m ≤ 3 * t := by
  have hg := gone_range (e := e) h0 h1
  cases h <;> omega
/-- Between floors. -/
theorem Ph.between {S t p e m : Int} (h : Ph c u d S t p e m) (he : e = 1 ∨ e = -1) (hl : ∀ x, x * S ≠ p) : Ph c u d S t (p + e) e (m - 1) := by
  have hb : ∀ x, e * (x * S) < e * (p + e) → e * (x * S) < e * p := fun x hx => by
    have := hl x
    rcases he with rfl | rfl <;> omega
  have hg := gone_step (t := t) (p := p) he
  cases h with
  | a _ _ =>
    have := Ph.a (c := c) (u := u) (d := d) (S := S) (t := t) (p := p + e) e he
    rw [hg] at this
    rwa [show 3 * t - gone t p e - 1 = 3 * t - (gone t p e + 1) by omega]
  | b _ _ h =>
    have := Ph.b (t := t) e he (show PB c u d S (p + e) e from fun x hx => h x (hb x hx))
    rw [hg] at this
    rwa [show 2 * t - gone t p e - 1 = 2 * t - (gone t p e + 1) by omega]
  | c _ _ h =>
    have := Ph.c (t := t) e he (show PC c u d S (p + e) e from ⟨fun x hx => h.1 x (hb x hx), fun x hx => h.2.1 x (by rcases he with rfl | rfl <;> omega), fun x hx => h.2.2 x (by rcases he with rfl | rfl <;> omega)⟩)
    rw [hg] at this
    rwa [show t - gone t p e - 1 = t - (gone t p e + 1) by omega]
  | z => omega
theorem turn_cases {f e : Int} (he : e = 1 ∨ e = -1) :
    (turn c u d f e = e ∧ (toward c u d f e = true ∨ hallb u d f e = true)) ∨
    (turn c u d f e = -e ∧ (toward c u d f (-e) = true ∨ hallb u d f (-e) = true) ∧ toward c u d f e = false ∧ hallb u d f e = false) ∨
    (turn c u d f e = 0 ∧ toward c u d f e = false ∧ hallb u d f e = false ∧ toward c u d f (-e) = false ∧ hallb u d f (-e) = false) := by
  have h0 : (e == 0) = false := by rcases he with rfl | rfl <;> rfl
  unfold turn way
  rw [h0]
  cases h1 : toward c u d f e <;> cases h2 : hallb u d f e <;> cases h3 : toward c u d f (-e) <;> cases h4 : hallb u d f (-e) <;> simp
/-- At a floor: the new direction T is one of a phase; and one step on, where the car does not stop. -/
theorem Ph.level {S t p e m f T : Int} (hS : 0 < S) (h : Ph c u d S t p e m) (hp : p = f * S) (h0 : 0 ≤ p) (h1 : p ≤ t) (hT : turn c u d f e = T) (hTn : T ≠ 0) (hTr : T = 1 ∨ T = -1) :
    (∃ m', m' ≤ m ∧ Ph c u d S t p T m') ∧ (isb c f = false → hallb u d f T = false → ∃ m', m' < m ∧ Ph c u d S t (p + T) T m') := by
  have hat : ∀ x e', (e' = 1 ∨ e' = -1) → e' * (x * S) < e' * (p + e') → e' * (x * S) < e' * p ∨ x = f := fun x e' he' hx => by
    by_cases hx2 : x * S = p
    · right; rw [hp] at hx2; exact (mul_inj_iff hS).1 hx2
    · left; rcases he' with rfl | rfl <;> omega
  have hgr := gone_range (e := e) h0 h1
  have hgs := gone_step (t := t) (p := p) hTr
  have hgT := gone_range (e := T) h0 h1
  have ahead : ∀ e', (e' = 1 ∨ e' = -1) → toward c u d f e' = false → ∀ x, (-e') * (x * S) < (-e') * p → anyb c u d x = false := fun e' he' ht x hx => by
    cases ha : anyb c u d x
    · rfl
    · have h2 : toward c u d f e' = true := (toward_iff he').2 ⟨x, by
        rw [hp] at hx
        have := (mul_lt_iff (e := -e') hS (by omega)).1 hx
        rw [Int.neg_mul, Int.neg_mul] at this
        omega, ha⟩
      rw [ht] at h2; cases h2
  have none_of : ∀ x, anyb c u d x = false → isb c x = false ∧ ∀ e', hallb u d x e' = false := fun x hx => by
    have hx1 : ¬ anyb c u d x = true := by rw [hx]; decide
    rw [any_iff] at hx1
    refine ⟨by cases h : isb c x with | false => rfl | true => exact absurd (.inl h) hx1, fun e' => ?_⟩
    cases h : hallb u d x e' with
    | false => rfl
    | true =>
      exfalso
      have hh := h
      unfold hallb at hh
      simp only [Bool.or_eq_true, Bool.and_eq_true, beq_iff_eq] at hh
      rcases hh with ⟨rfl, _⟩ | ⟨rfl, _⟩
      · exact hx1 (.inr (.inl h))
      · exact hx1 (.inr (.inr h))
  have flip : (e = 1 ∨ e = -1) → T = -e → gone t p T = t - gone t p e := fun he hTe => by rw [hTe]; exact gone_turn he
  cases h with
  | z =>
    -- no direction: whichever it takes
    refine ⟨⟨_, ?_, .a T hTr⟩, fun _ _ => ⟨_, ?_, .a T hTr⟩⟩
    · omega
    · rw [hgs]; omega
  | a _ he =>
    rcases turn_cases (c := c) (u := u) (d := d) (f := f) he with ⟨h2, _⟩ | ⟨h2, _, h3, h4⟩ | ⟨h2, _⟩
    · have : T = e := by omega
      subst this
      exact ⟨⟨_, Int.le_refl _, .a T hTr⟩, fun _ _ => ⟨_, by rw [hgs]; omega, .a T hTr⟩⟩
    · have hTe : T = -e := by omega
      have hfl := flip he hTe
      have hb0 : PB c u d S p T := fun x hx => by
        have := none_of x (ahead e he h3 x (by rw [← hTe]; exact hx))
        exact ⟨this.1, this.2 T⟩
      refine ⟨⟨_, by omega, .b T hTr hb0⟩, fun hc hh => ⟨_, by rw [hgs]; omega, .b T hTr (fun x hx => ?_)⟩⟩
      rcases hat x T hTr hx with h5 | rfl
      · exact hb0 x h5
      · exact ⟨hc, hh⟩
    · omega
  | b _ he hB =>
    rcases turn_cases (c := c) (u := u) (d := d) (f := f) he with ⟨h2, _⟩ | ⟨h2, _, h3, h4⟩ | ⟨h2, _⟩
    · have : T = e := by omega
      subst this
      refine ⟨⟨_, Int.le_refl _, .b T hTr hB⟩, fun hc hh => ⟨_, by rw [hgs]; omega, .b T hTr (fun x hx => ?_)⟩⟩
      rcases hat x T hTr hx with h5 | rfl
      · exact hB x h5
      · exact ⟨hc, hh⟩
    · have hTe : T = -e := by omega
      have hfl := flip he hTe
      have heT : e = -T := by omega
      have hx2 : ∀ x, T * p ≤ T * (x * S) → hallb u d x (-T) = false := fun x hx => by
        rw [← heT]
        by_cases hxf : x = f
        · rw [hxf]; exact h4
        · refine (hB x ?_).2
          have hne : x * S ≠ p := fun e' => hxf (by rw [hp] at e'; exact (mul_inj_iff hS).1 e')
          rcases he with rfl | rfl <;> rcases hTr with rfl | rfl <;> omega
      have hx3 : ∀ x, T * p < T * (x * S) → isb c x = false := fun x hx => (hB x (by rcases he with rfl | rfl <;> rcases hTr with rfl | rfl <;> omega)).1
      have hC : PC c u d S p T := ⟨fun x hx => ahead e he h3 x (by rw [← hTe]; exact hx), hx2, hx3⟩
      refine ⟨⟨_, by omega, .c T hTr hC⟩, fun hc hh => ⟨_, by rw [hgs]; omega, .c T hTr ⟨fun x hx => ?_, fun x hx => hx2 x (by rcases hTr with rfl | rfl <;> omega), fun x hx => hx3 x (by rcases hTr with rfl | rfl <;> omega)⟩⟩⟩
      rcases hat x T hTr hx with h5 | rfl
      · exact hC.1 x h5
      · cases ha : anyb c u d x with
        | false => rfl
        | true =>
          rcases (any_e hTr).1 ha with h6 | h6 | h6
          · rw [hc] at h6; cases h6
          · rw [hh] at h6; cases h6
          · rw [← heT, h4] at h6; cases h6
    · omega
  | c _ he hC =>
    rcases turn_cases (c := c) (u := u) (d := d) (f := f) he with ⟨h2, _⟩ | ⟨h2, h3, _⟩ | ⟨h2, _⟩
    · have : T = e := by omega
      subst this
      refine ⟨⟨_, Int.le_refl _, .c T hTr hC⟩, fun hc hh => ⟨_, by rw [hgs]; omega, .c T hTr ⟨fun x hx => ?_, fun x hx => hC.2.1 x (by rcases hTr with rfl | rfl <;> omega), fun x hx => hC.2.2 x (by rcases hTr with rfl | rfl <;> omega)⟩⟩⟩
      rcases hat x T hTr hx with h5 | rfl
      · exact hC.1 x h5
      · cases ha : anyb c u d x with
        | false => rfl
        | true =>
          rcases (any_e hTr).1 ha with h6 | h6 | h6
          · rw [hc] at h6; cases h6
          · rw [hh] at h6; cases h6
          · have := hC.2.1 x (by rw [hp]; exact Int.le_refl _)
            rw [this] at h6; cases h6
    · exfalso
      rcases h3 with h3 | h3
      · obtain ⟨x, hx, ha⟩ := (toward_iff (show -e = 1 ∨ -e = -1 by omega)).1 h3
        have h5 := hC.1 x (by
          rw [hp]
          refine (mul_lt_iff hS he).2 ?_
          rw [Int.neg_mul, Int.neg_mul] at hx
          omega)
        rw [h5] at ha; cases ha
      · have := hC.2.1 f (by rw [hp]; exact Int.le_refl _)
        rw [this] at h3; cases h3
    · omega
end
/-- How many floors. -/
def cnt (p : Int → Bool) : Nat := (List.range 64).countP fun i : Nat => p (i : Int)
theorem cnt_le {p q : Int → Bool} (h : ∀ x, q x = true → p x = true) : cnt q ≤ cnt p := List.countP_mono_left fun i _ hq => h i hq
theorem cnt_lt {p q : Int → Bool} (h : ∀ x, q x = true → p x = true) {x : Int} (h0 : 0 ≤ x) (h1 : x < 64) (hp : p x = true) (hq : q x = false) : cnt q < cnt p := by
  have key : ∀ (l : List Nat), x.toNat ∈ l → l.countP (fun i : Nat => q (i : Int)) < l.countP (fun i : Nat => p (i : Int)) := by
    intro l
    induction l with
    | nil => intro hm; simp at hm
    | cons y l ih =>
      intro hm
      have hle : l.countP (fun i : Nat => q (i : Int)) ≤ l.countP (fun i : Nat => p (i : Int)) := List.countP_mono_left fun i _ hq => h i hq
      rw [List.countP_cons, List.countP_cons]
      by_cases hy : y = x.toNat
      · have e : ((y : Nat) : Int) = x := by omega
        rw [e, hp, hq]
        simp; omega
      · have := ih (by rcases List.mem_cons.1 hm with e | e; exact absurd e.symm hy; exact e)
        cases hqy : q (y : Int)
        · simp; split <;> omega
        · rw [h _ hqy]; simp; omega
  exact key _ (List.mem_range.2 (by omega))
theorem cnt_bound {p : Int → Bool} {F : Int} (h : ∀ x, p x = true → x < F) (h0 : 0 ≤ F) : (cnt p : Int) ≤ F := by
  have key : ∀ n : Nat, (((List.range n).countP fun i : Nat => p (i : Int)) : Int) ≤ F ∧ (((List.range n).countP fun i : Nat => p (i : Int)) : Int) ≤ n := by
    intro n
    induction n with
    | zero => simp; exact h0
    | succ n ih =>
      rw [List.range_succ, List.countP_append]
      cases hp : p (n : Int)
      · simp [hp]; omega
      · have := h _ hp
        simp [hp]; omega
  exact (key 64).1
section
variable {c u d : Int}
/-- Phases, and how often the car may have turned ahead of each. -/
inductive PhJ (c u d S t p : Int) : Int → Int → Int → Prop
  | a (e : Int) (he : e = 1 ∨ e = -1) : PhJ c u d S t p e (3 * t - gone t p e) 0
  | b (e : Int) (he : e = 1 ∨ e = -1) (h : PB c u d S p e) : PhJ c u d S t p e (2 * t - gone t p e) 1
  | c (e : Int) (he : e = 1 ∨ e = -1) (h : PC c u d S p e) : PhJ c u d S t p e (t - gone t p e) 2
  | z : PhJ c u d S t p 0 (3 * t) 0
theorem PhJ.sub {S t p e m j c' u' d' : Int} (h : PhJ c u d S t p e m j) (hs : Sub c u d c' u' d') : PhJ c' u' d' S t p e m j := by
  cases h with
  | a _ he => exact .a e he
  | b _ he h => exact .b e he (h.sub hs)
  | c _ he h => exact .c e he (h.sub hs)
  | z => exact .z
theorem PhJ.range {S t p e m j : Int} (h : PhJ c u d S t p e m j) (h0 : 0 ≤ p) (h1 : p ≤ t) : 0 ≤ m ∧ m ≤ 3 * t ∧ 0 ≤ j ∧ j ≤ 2 := by
  have hg := gone_range (e := e) h0 h1
  cases h <;> omega
/-- At a floor: the new direction T is one of a phase; and one step on, where the car does not stop. -/
theorem PhJ.level {S t p e m j f T : Int} (hS : 0 < S) (h : PhJ c u d S t p e m j) (hp : p = f * S) (h0 : 0 ≤ p) (h1 : p ≤ t) (hT : turn c u d f e = T) (hTn : T ≠ 0) (hTr : T = 1 ∨ T = -1) :
    (∃ m' j', (m' ≤ m ∧ (T = -e → j + 1 ≤ j') ∧ j ≤ j') ∧ PhJ c u d S t p T m' j') ∧ (isb c f = false → hallb u d f T = false → ∃ m' j', (m' < m ∧ (T = -e → j + 1 ≤ j') ∧ j ≤ j') ∧ PhJ c u d S t (p + T) T m' j') := by
  have hat : ∀ x e', (e' = 1 ∨ e' = -1) → e' * (x * S) < e' * (p + e') → e' * (x * S) < e' * p ∨ x = f := fun x e' he' hx => by
    by_cases hx2 : x * S = p
    · right; rw [hp] at hx2; exact (mul_inj_iff hS).1 hx2
    · left; rcases he' with rfl | rfl <;> omega
  have hgr := gone_range (e := e) h0 h1
  have hgs := gone_step (t := t) (p := p) hTr
  have hgT := gone_range (e := T) h0 h1
  have ahead : ∀ e', (e' = 1 ∨ e' = -1) → toward c u d f e' = false → ∀ x, (-e') * (x * S) < (-e') * p → anyb c u d x = false := fun e' he' ht x hx => by
    cases ha : anyb c u d x
    · rfl
    · have h2 : toward c u d f e' = true := (toward_iff he').2 ⟨x, by
        rw [hp] at hx
        have := (mul_lt_iff (e := -e') hS (by omega)).1 hx
        rw [Int.neg_mul, Int.neg_mul] at this
        omega, ha⟩
      rw [ht] at h2; cases h2
  have none_of : ∀ x, anyb c u d x = false → isb c x = false ∧ ∀ e', hallb u d x e' = false := fun x hx => by
    have hx1 : ¬ anyb c u d x = true := by rw [hx]; decide
    rw [any_iff] at hx1
    refine ⟨by cases h : isb c x with | false => rfl | true => exact absurd (.inl h) hx1, fun e' => ?_⟩
    cases h : hallb u d x e' with
    | false => rfl
    | true =>
      exfalso
      have hh := h
      unfold hallb at hh
      simp only [Bool.or_eq_true, Bool.and_eq_true, beq_iff_eq] at hh
      rcases hh with ⟨rfl, _⟩ | ⟨rfl, _⟩
      · exact hx1 (.inr (.inl h))
      · exact hx1 (.inr (.inr h))
  have flip : (e = 1 ∨ e = -1) → T = -e → gone t p T = t - gone t p e := fun he hTe => by rw [hTe]; exact gone_turn he
  cases h with
  | z =>
    -- no direction: whichever it takes
    exact ⟨⟨_, _, ⟨by omega, fun h => by omega, Int.le_refl _⟩, .a T hTr⟩, fun _ _ => ⟨_, _, ⟨by rw [hgs]; omega, fun h => by omega, Int.le_refl _⟩, .a T hTr⟩⟩
  | a _ he =>
    rcases turn_cases (c := c) (u := u) (d := d) (f := f) he with ⟨h2, _⟩ | ⟨h2, _, h3, h4⟩ | ⟨h2, _⟩
    · have : T = e := by omega
      subst this
      exact ⟨⟨_, _, ⟨Int.le_refl _, fun h => by omega, Int.le_refl _⟩, .a T hTr⟩, fun _ _ => ⟨_, _, ⟨by rw [hgs]; omega, fun h => by omega, by omega⟩, .a T hTr⟩⟩
    · have hTe : T = -e := by omega
      have hfl := flip he hTe
      have hb0 : PB c u d S p T := fun x hx => by
        have := none_of x (ahead e he h3 x (by rw [← hTe]; exact hx))
        exact ⟨this.1, this.2 T⟩
      refine ⟨⟨_, _, ⟨by omega, fun h => by omega, by omega⟩, .b T hTr hb0⟩, fun hc hh => ⟨_, _, ⟨by rw [hgs]; omega, fun h => by omega, by omega⟩, .b T hTr (fun x hx => ?_)⟩⟩
      rcases hat x T hTr hx with h5 | rfl
      · exact hb0 x h5
      · exact ⟨hc, hh⟩
    · omega
  | b _ he hB =>
    rcases turn_cases (c := c) (u := u) (d := d) (f := f) he with ⟨h2, _⟩ | ⟨h2, _, h3, h4⟩ | ⟨h2, _⟩
    · have : T = e := by omega
      subst this
      refine ⟨⟨_, _, ⟨Int.le_refl _, fun h => by omega, Int.le_refl _⟩, .b T hTr hB⟩, fun hc hh => ⟨_, _, ⟨by rw [hgs]; omega, fun h => by omega, by omega⟩, .b T hTr (fun x hx => ?_)⟩⟩
      rcases hat x T hTr hx with h5 | rfl
      · exact hB x h5
      · exact ⟨hc, hh⟩
    · have hTe : T = -e := by omega
      have hfl := flip he hTe
      have heT : e = -T := by omega
      have hx2 : ∀ x, T * p ≤ T * (x * S) → hallb u d x (-T) = false := fun x hx => by
        rw [← heT]
        by_cases hxf : x = f
        · rw [hxf]; exact h4
        · refine (hB x ?_).2
          have hne : x * S ≠ p := fun e' => hxf (by rw [hp] at e'; exact (mul_inj_iff hS).1 e')
          rcases he with rfl | rfl <;> rcases hTr with rfl | rfl <;> omega
      have hx3 : ∀ x, T * p < T * (x * S) → isb c x = false := fun x hx => (hB x (by rcases he with rfl | rfl <;> rcases hTr with rfl | rfl <;> omega)).1
      have hC : PC c u d S p T := ⟨fun x hx => ahead e he h3 x (by rw [← hTe]; exact hx), hx2, hx3⟩
      refine ⟨⟨_, _, ⟨by omega, fun h => by omega, by omega⟩, .c T hTr hC⟩, fun hc hh => ⟨_, _, ⟨by rw [hgs]; omega, fun h => by omega, by omega⟩, .c T hTr ⟨fun x hx => ?_, fun x hx => hx2 x (by rcases hTr with rfl | rfl <;> omega), fun x hx => hx3 x (by rcases hTr with rfl | rfl <;> omega)⟩⟩⟩
      rcases hat x T hTr hx with h5 | rfl
      · exact hC.1 x h5
      · cases ha : anyb c u d x with
        | false => rfl
        | true =>
          rcases (any_e hTr).1 ha with h6 | h6 | h6
          · rw [hc] at h6; cases h6
          · rw [hh] at h6; cases h6
          · rw [← heT, h4] at h6; cases h6
    · omega
  | c _ he hC =>
    rcases turn_cases (c := c) (u := u) (d := d) (f := f) he with ⟨h2, _⟩ | ⟨h2, h3, _⟩ | ⟨h2, _⟩
    · have : T = e := by omega
      subst this
      refine ⟨⟨_, _, ⟨Int.le_refl _, fun h => by omega, Int.le_refl _⟩, .c T hTr hC⟩, fun hc hh => ⟨_, _, ⟨by rw [hgs]; omega, fun h => by omega, by omega⟩, .c T hTr ⟨fun x hx => ?_, fun x hx => hC.2.1 x (by rcases hTr with rfl | rfl <;> omega), fun x hx => hC.2.2 x (by rcases hTr with rfl | rfl <;> omega)⟩⟩⟩
      rcases hat x T hTr hx with h5 | rfl
      · exact hC.1 x h5
      · cases ha : anyb c u d x with
        | false => rfl
        | true =>
          rcases (any_e hTr).1 ha with h6 | h6 | h6
          · rw [hc] at h6; cases h6
          · rw [hh] at h6; cases h6
          · have := hC.2.1 x (by rw [hp]; exact Int.le_refl _)
            rw [this] at h6; cases h6
    · exfalso
      rcases h3 with h3 | h3
      · obtain ⟨x, hx, ha⟩ := (toward_iff (show -e = 1 ∨ -e = -1 by omega)).1 h3
        have h5 := hC.1 x (by
          rw [hp]
          refine (mul_lt_iff hS he).2 ?_
          rw [Int.neg_mul, Int.neg_mul] at hx
          omega)
        rw [h5] at ha; cases ha
      · have := hC.2.1 f (by rw [hp]; exact Int.le_refl _)
        rw [this] at h3; cases h3
    · omega
end
section
variable {c u d f dir : Int}
theorem isb_andNot {a b x : Int} : isb (N (B a &&& ~~~B b)) x = (isb a x && !isb b x) := by
  unfold isb
  rw [B_N]
  cases h : okf x
  · simp
  · have hx := okf_iff.1 h
    rw [BitVec.getLsbD_and, BitVec.getLsbD_not, decide_eq_true (show x.toNat < 64 by omega)]
    simp
theorem isb_one {f x : Int} (h : okf f = true) : isb (N (1#64 <<< f.toNat)) x = decide (x = f) := by
  have hf := okf_iff.1 h
  unfold isb
  rw [B_N]
  cases hx : okf x
  · rw [Bool.false_and]
    symm
    rw [decide_eq_false_iff_not]
    intro e
    rw [e, h] at hx; cases hx
  · have hx' := okf_iff.1 hx
    rw [Bool.true_and, BitVec.getLsbD_shiftLeft, BitVec.getLsbD_one, Bool.eq_iff_iff]
    simp
    omega
def clr (a f : Int) : Int := N (B a &&& ~~~B (N (1#64 <<< f.toNat)))
theorem clr_bit {a x : Int} (h0 : 0 ≤ f) (h1 : f ≤ 63) : isb (clr a f) x = (isb a x && !decide (x = f)) := by
  unfold clr
  rw [isb_andNot, isb_one (okf_iff.2 (by omega))]
def Emp (c u d : Int) : Prop := ∀ x, anyb c u d x = false
def KK (c u d : Int) : Nat := cnt (isb c) + cnt (isb u) + cnt (isb d)
theorem cnt64 {p : Int → Bool} : cnt p ≤ 64 := by
  have := List.countP_le_length (p := fun i : Nat => p (i : Int)) (l := List.range 64)
  rwa [List.length_range] at this
def SW (c u d f dir tn i : Int) : Prop := 0 ≤ f ∧ f ≤ 63 ∧ -1 ≤ dir ∧ dir ≤ 1 ∧ 0 ≤ tn ∧ tn ≤ 2 ∧ 0 ≤ i ∧ i ≤ 500 ∧
  ((Emp c u d ∧ i ≤ 490) ∨ ∃ m j, PhJ c u d 1 63 f dir m j ∧ tn ≤ j ∧ m + (KK c u d : Int) + i ≤ 390)
theorem sw_start (h0 : 0 ≤ f) (h1 : f ≤ 63) (h2 : -1 ≤ dir) (h3 : dir ≤ 1) : SW c u d f dir 0 0 := by
  have k1 := @cnt64 (isb c)
  have k2 := @cnt64 (isb u)
  have k3 := @cnt64 (isb d)
  refine ⟨h0, h1, h2, h3, by omega, by omega, by omega, by omega, .inr ?_⟩
  have hg := gone_range (t := 63) (p := f) (e := dir) h0 h1
  by_cases hz : dir = 0
  · subst hz
    exact ⟨_, _, .z, by omega, by unfold KK; omega⟩
  · exact ⟨_, _, .a dir (by omega), by omega, by unfold KK; omega⟩
theorem emp_of (h : turn c u d f dir = 0) (hd : -1 ≤ dir ∧ dir ≤ 1) : ∀ x, x ≠ f → anyb c u d x = false := fun x hx => by
  obtain ⟨z1, z2, z3, z4⟩ := turn_zero hd h
  cases ha : anyb c u d x with
  | false => rfl
  | true =>
    rcases Int.lt_trichotomy f x with h1 | h1 | h1
    · rw [above_iff.2 ⟨x, h1, ha⟩] at z1; cases z1
    · omega
    · rw [below_iff.2 ⟨x, h1, ha⟩] at z2; cases z2
theorem emp_turn (h : Emp c u d) : turn c u d f dir = 0 ∧ isb c f = false ∧ ∀ e, hallb u d f e = false := by
  obtain ⟨h1, h2, h3, h4, h5⟩ := nothing h f
  refine ⟨turn_nothing h, h3, fun e => ?_⟩
  unfold hallb
  rw [h4, h5]; simp
/-- How often it turned, behind a step. -/
def tnP (dir T tn : Int) : Int := if dir ≠ 0 ∧ T = -dir then tn + 1 else tn
variable {tn i : Int}
theorem sw_stop (h : SW c u d f dir tn i) (hst : isb c f = true ∨ hallb u d f (turn c u d f dir) = true) :
    SW (clr c f) (if 0 < turn c u d f dir then clr u f else u) (if turn c u d f dir < 0 then clr d f else d) f (turn c u d f dir) (tnP dir (turn c u d f dir) tn) (i + 1) := by
  obtain ⟨h0, h1, h2, h3, h4, h5, h6, h7, h8⟩ := h
  have hT := turn_range (c := c) (u := u) (d := d) (n := f) ⟨h2, h3⟩
  have hz := @emp_of c u d f dir
  have hz2 := @turn_zero c u d f dir
  rcases h8 with ⟨he, hi⟩ | ⟨m, j, hp, htj, hm⟩
  · obtain ⟨e1, e2, e3⟩ := @emp_turn c u d f dir he
    rcases hst with h | h
    · rw [e2] at h; cases h
    · rw [e3] at h; cases h
  have hpr := hp.range h0 h1
  generalize hTt : turn c u d f dir = T at *
  have hcl : ∀ a x, isb (clr a f) x = (isb a x && !decide (x = f)) := fun a x => clr_bit h0 h1
  by_cases hT0 : T = 0
  · refine ⟨h0, h1, hT.1, hT.2, ?_, ?_, by omega, by omega, .inl ⟨fun x => ?_, by omega⟩⟩
    · unfold tnP; rw [if_neg (by omega)]; exact h4
    · unfold tnP; rw [if_neg (by omega)]; exact h5
    · rw [if_neg (by omega), if_neg (by omega), anyb_or, hcl]
      by_cases hx : x = f
      · obtain ⟨_, _, z3, z4⟩ := hz2 ⟨h2, h3⟩ hT0
        rw [hx, z3, z4]; simp
      · have := hz hT0 ⟨h2, h3⟩ x hx
        rw [anyb_or] at this
        revert this
        cases isb c x <;> cases isb u x <;> cases isb d x <;> simp
  · obtain ⟨⟨m', j', ⟨l1, l2, l3⟩, hp'⟩, _⟩ := PhJ.level (by omega) hp (f := f) (by omega) h0 h1 hTt hT0 (by omega)
    have sc : ∀ x, isb (clr c f) x = true → isb c x = true := fun x hx => by rw [hcl] at hx; revert hx; cases isb c x <;> simp
    have su : ∀ x, isb (if 0 < T then clr u f else u) x = true → isb u x = true := fun x hx => by
      split at hx
      · rw [hcl] at hx; revert hx; cases isb u x <;> simp
      · exact hx
    have sd : ∀ x, isb (if T < 0 then clr d f else d) x = true → isb d x = true := fun x hx => by
      split at hx
      · rw [hcl] at hx; revert hx; cases isb d x <;> simp
      · exact hx
    have hs : Sub c u d (clr c f) (if 0 < T then clr u f else u) (if T < 0 then clr d f else d) := fun x => ⟨sc x, fun e hx => by
      have a1 := su x
      have a2 := sd x
      unfold hallb at hx ⊢
      revert hx a1 a2
      cases isb (if 0 < T then clr u f else u) x <;> cases isb (if T < 0 then clr d f else d) x <;> cases isb u x <;> cases isb d x <;> cases (e == 1) <;> cases (e == -1) <;> simp⟩
    have kc := cnt_le sc
    have ku := cnt_le su
    have kd := cnt_le sd
    have hlt : KK (clr c f) (if 0 < T then clr u f else u) (if T < 0 then clr d f else d) < KK c u d := by
      unfold KK
      rcases hst with h | h
      · have := cnt_lt sc h0 (by omega) h (by rw [hcl]; simp)
        omega
      · have : T = 1 ∨ T = -1 := by omega
        rcases this with rfl | rfl
        · rw [hallb_up] at h
          have := cnt_lt su h0 (by omega) h (by rw [if_pos (by omega), hcl]; simp)
          omega
        · rw [hallb_dn] at h
          have := cnt_lt sd h0 (by omega) h (by rw [if_pos (by omega), hcl]; simp)
          omega
    have hr' := hp'.range h0 h1
    have htn : tnP dir T tn ≤ j' ∧ 0 ≤ tnP dir T tn := by
      unfold tnP
      split
      · rename_i hh
        have := l2 hh.2
        omega
      · omega
    exact ⟨h0, h1, hT.1, hT.2, htn.2, by omega, by omega, by omega, .inr ⟨m', j', hp'.sub hs, htn.1, by omega⟩⟩
theorem sw_go (h : SW c u d f dir tn i) (h1c : isb c f = false) (h1h : hallb u d f (turn c u d f dir) = false) (hT0 : turn c u d f dir ≠ 0) :
    SW c u d (f + turn c u d f dir) (turn c u d f dir) (tnP dir (turn c u d f dir) tn) (i + 1) := by
  obtain ⟨h0, h1, h2, h3, h4, h5, h6, h7, h8⟩ := h
  have hT := turn_range (c := c) (u := u) (d := d) (n := f) ⟨h2, h3⟩
  have hmv := turn_move (c := c) (u := u) (d := d) (n := f) ⟨h2, h3⟩ hT0 h1h
  rcases h8 with ⟨he, hi⟩ | ⟨m, j, hp, htj, hm⟩
  · exact absurd (emp_turn he).1 hT0
  generalize hTt : turn c u d f dir = T at *
  obtain ⟨_, hl⟩ := PhJ.level (by omega) hp (f := f) (by omega) h0 h1 hTt hT0 (by omega)
  obtain ⟨m', j', ⟨l1, l2, l3⟩, hp'⟩ := hl h1c h1h
  have hb : 0 ≤ f + T ∧ f + T ≤ 63 := by
    obtain ⟨x, hx, ha⟩ := (toward_iff (show T = 1 ∨ T = -1 by omega)).1 hmv
    have hok : 0 ≤ x ∧ x < 64 := by
      unfold anyb at ha
      have : okf x = true := by revert ha; cases okf x <;> simp
      exact okf_iff.1 this
    have : T = 1 ∨ T = -1 := by omega
    rcases this with rfl | rfl <;> omega
  have hr' := hp'.range hb.1 hb.2
  have hr := hp.range h0 h1
  have htn : tnP dir T tn ≤ j' ∧ 0 ≤ tnP dir T tn := by
    unfold tnP
    split
    · rename_i hh
      have := l2 hh.2
      omega
    · omega
  exact ⟨hb.1, hb.2, hT.1, hT.2, htn.2, by omega, by omega, by omega, .inr ⟨m', j', hp', htn.1, by omega⟩⟩
theorem sw_end (h : SW c u d f dir tn i) (h1c : isb c f = false) (hT0 : turn c u d f dir = 0) : Emp c u d := fun x => by
  obtain ⟨h0, h1, h2, h3, _⟩ := h
  by_cases hx : x = f
  · obtain ⟨_, _, z3, z4⟩ := turn_zero ⟨h2, h3⟩ hT0
    rw [hx, anyb_or, h1c, z3, z4]; rfl
  · exact emp_of hT0 ⟨h2, h3⟩ x hx
theorem flo_emp (h : Emp c u d) : (floL c u d).len = 0 := by rw [floL_len]; exact flo_nil.2 h
theorem flo_some {x : Int} (h : anyb c u d x = true) : (floL c u d).len ≠ 0 := fun e => by
  rw [floL_len] at e
  rw [flo_nil.1 e] at h; cases h
theorem clr_ne {a : Int} (h0 : 0 ≤ f) (h1 : f ≤ 63) (h : isb a f = true) : (clr a f == a) = false := by
  rw [beq_eq_false_iff_ne]
  intro e
  have := @clr_bit f a f h0 h1
  rw [e, h] at this
  simp at this
end

def C_PlanSweeps : Ctr := ⟨[.agg [.int .u64, .int .u64, .int .u64], .one (.int .i64), .one (.int .i64)], [.one (.bool)],
  fun | [.i s0, .i s1, .i s2, .i fl, .i dir] => (0 ≤ s0 ∧ s0 < 18446744073709551616) ∧ (0 ≤ s1 ∧ s1 < 18446744073709551616) ∧ (0 ≤ s2 ∧ s2 < 18446744073709551616) ∧ (-9223372036854775808 ≤ fl ∧ fl < 9223372036854775808) ∧ (-9223372036854775808 ≤ dir ∧ dir < 9223372036854775808) ∧ True | _ => False,
  fun | [.i _, .i _, .i _, .i _, .i _] => [.b (true)] | _ => []⟩
theorem PlanSweeps_pre {ls : List Leaf} (h_ : C_PlanSweeps.pre ls) : ∃ (s0 : Int) (s1 : Int) (s2 : Int) (fl : Int) (dir : Int), ls = [.i s0, .i s1, .i s2, .i fl, .i dir] ∧ ((0 ≤ s0 ∧ s0 < 18446744073709551616) ∧ (0 ≤ s1 ∧ s1 < 18446744073709551616) ∧ (0 ≤ s2 ∧ s2 < 18446744073709551616) ∧ (-9223372036854775808 ≤ fl ∧ fl < 9223372036854775808) ∧ (-9223372036854775808 ≤ dir ∧ dir < 9223372036854775808) ∧ True) := by
  unfold C_PlanSweeps at h_; dsimp only at h_; split at h_
  · exact ⟨_, _, _, _, _, rfl, h_⟩
  · exact h_.elim
theorem PlanSweeps_mk {s0 : Int} {s1 : Int} {s2 : Int} {fl : Int} {dir : Int} (h_ : (0 ≤ s0 ∧ s0 < 18446744073709551616) ∧ (0 ≤ s1 ∧ s1 < 18446744073709551616) ∧ (0 ≤ s2 ∧ s2 < 18446744073709551616) ∧ (-9223372036854775808 ≤ fl ∧ fl < 9223372036854775808) ∧ (-9223372036854775808 ≤ dir ∧ dir < 9223372036854775808) ∧ True) : C_PlanSweeps.pre [.i s0, .i s1, .i s2, .i fl, .i dir] := h_
theorem PlanSweeps_res {s0 : Int} {s1 : Int} {s2 : Int} {fl : Int} {dir : Int} {rs_ : List Leaf} (h_ : rs_ = C_PlanSweeps.fn [.i s0, .i s1, .i s2, .i fl, .i dir]) : ∃ (q0 : Bool), q0 = (true) ∧ rs_ = [.b q0] := ⟨_, rfl, h_⟩
def inv_PlanSweeps_10 (f : Int) (dir : Int) (tn : Int) (i : Int) (c : Int) (u : Int) (d : Int) : Prop := SW c u d f dir tn i
def meas_PlanSweeps_10 (f : Int) (dir : Int) (tn : Int) (i : Int) (c : Int) (u : Int) (d : Int) : Nat := (600 - i).toNat
def phi_PlanSweeps : Fm := (.call 35 [] [] 5 (.and (.imp (.v 5) .false (.ret [(.b (.t .false))])) (.imp (.v 5) .true (.call 13 [] [(.i (.v 3)), (.i (.i 64))] 6 (.call 13 [] [(.i (.v 4)), (.i (.i 3))] 7 (.loop 10 8 [] [(.i (.v 6)), (.i (.wrap .i64 (.sub (.v 7) (.i 1)))), (.i (.i 0)), (.i (.i 0)), (.i (.v 0)), (.i (.bit .andNot .u64 (.v 1) (.i 9223372036854775808))), (.i (.bit .andNot .u64 (.v 2) (.i 1)))] [.i, .i, .i, .i, .i, .i, .i] (.and (.imp (.lt (.v 11) (.i 600)) .true (.call 36 [] [(.i (.v 12)), (.i (.v 13)), (.i (.v 14)), (.i (.v 8)), (.i (.v 9))] 15 (.and (.imp (.ite (.not (.eq (.v 9) (.i 0))) (.eq (.v 16) (.wrap .i64 (.sub (.i 0) (.v 9)))) (.t .false)) .true (.and (.imp (.v 15) .true (.call 14 [] [(.i (.v 12)), (.i (.v 13)), (.i (.v 14))] 18 (.ob [] (.le (.i 0) (.wrap .u64 (.v 8))) (.and (.imp (.lt (.i 0) (.v 16)) .true (.and (.imp (.lt (.v 16) (.i 0)) .true (.and (.imp (.ite (.ite (.ite (.eq (.bit .andNot .u64 (.v 12) (.shl .u64 (.i 1) (.wrap .u64 (.v 8)))) (.v 12)) (.eq (.bit .andNot .u64 (.v 13) (.shl .u64 (.i 1) (.wrap .u64 (.v 8)))) (.v 13)) (.t .false)) (.eq (.bit .andNot .u64 (.v 14) (.shl .u64 (.i 1) (.wrap .u64 (.v 8)))) (.v 14)) (.t .false)) (.t .true) (.eq (.len 18) (.i 0))) .true (.ret [(.b (.t .false))])) (.imp (.ite (.ite (.ite (.eq (.bit .andNot .u64 (.v 12) (.shl .u64 (.i 1) (.wrap .u64 (.v 8)))) (.v 12)) (.eq (.bit .andNot .u64 (.v 13) (.shl .u64 (.i 1) (.wrap .u64 (.v 8)))) (.v 13)) (.t .false)) (.eq (.bit .andNot .u64 (.v 14) (.shl .u64 (.i 1) (.wrap .u64 (.v 8)))) (.v 14)) (.t .false)) (.t .true) (.eq (.len 18) (.i 0))) .false (.back 10 8 15 [] [(.i (.v 8)), (.i (.v 16)), (.i (.wrap .i64 (.add (.v 10) (.i 1)))), (.i (.wrap .i64 (.add (.v 11) (.i 1)))), (.i (.bit .andNot .u64 (.v 12) (.shl .u64 (.i 1) (.wrap .u64 (.v 8))))), (.i (.bit .andNot .u64 (.v 13) (.shl .u64 (.i 1) (.wrap .u64 (.v 8))))), (.i (.bit .andNot .u64 (.v 14) (.shl .u64 (.i 1) (.wrap .u64 (.v 8)))))])))) (.imp (.lt (.v 16) (.i 0)) .false (.and (.imp (.ite (.ite (.ite (.eq (.bit .andNot .u64 (.v 12) (.shl .u64 (.i 1) (.wrap .u64 (.v 8)))) (.v 12)) (.eq (.bit .andNot .u64 (.v 13) (.shl .u64 (.i 1) (.wrap .u64 (.v 8)))) (.v 13)) (.t .false)) (.eq (.v 14) (.v 14)) (.t .false)) (.t .true) (.eq (.len 18) (.i 0))) .true (.ret [(.b (.t .false))])) (.imp (.ite (.ite (.ite (.eq (.bit .andNot .u64 (.v 12) (.shl .u64 (.i 1) (.wrap .u64 (.v 8)))) (.v 12)) (.eq (.bit .andNot .u64 (.v 13) (.shl .u64 (.i 1) (.wrap .u64 (.v 8)))) (.v 13)) (.t .false)) (.eq (.v 14) (.v 14)) (.t .false)) (.t .true) (.eq (.len 18) (.i 0))) .false (.back 10 8 15 [] [(.i (.v 8)), (.i (.v 16)), (.i (.wrap .i64 (.add (.v 10) (.i 1)))), (.i (.wrap .i64 (.add (.v 11) (.i 1)))), (.i (.bit .andNot .u64 (.v 12) (.shl .u64 (.i 1) (.wrap .u64 (.v 8))))), (.i (.bit .andNot .u64 (.v 13) (.shl .u64 (.i 1) (.wrap .u64 (.v 8))))), (.i (.v 14))])))))) (.imp (.lt (.i 0) (.v 16)) .false (.and (.imp (.lt (.v 16) (.i 0)) .true (.and (.imp (.ite (.ite (.ite (.eq (.bit .andNot .u64 (.v 12) (.shl .u64 (.i 1) (.wrap .u64 (.v 8)))) (.v 12)) (.eq (.v 13) (.v 13)) (.t .false)) (.eq (.bit .andNot .u64 (.v 14) (.shl .u64 (.i 1) (.wrap .u64 (.v 8)))) (.v 14)) (.t .false)) (.t .true) (.eq (.len 18) (.i 0))) .true (.ret [(.b (.t .false))])) (.imp (.ite (.ite (.ite (.eq (.bit .andNot .u64 (.v 12) (.shl .u64 (.i 1) (.wrap .u64 (.v 8)))) (.v 12)) (.eq (.v 13) (.v 13)) (.t .false)) (.eq (.bit .andNot .u64 (.v 14) (.shl .u64 (.i 1) (.wrap .u64 (.v 8)))) (.v 14)) (.t .false)) (.t .true) (.eq (.len 18) (.i 0))) .false (.back 10 8 15 [] [(.i (.v 8)), (.i (.v 16)), (.i (.wrap .i64 (.add (.v 10) (.i 1)))), (.i (.wrap .i64 (.add (.v 11) (.i 1)))), (.i (.bit .andNot .u64 (.v 12) (.shl .u64 (.i 1) (.wrap .u64 (.v 8))))), (.i (.v 13)), (.i (.bit .andNot .u64 (.v 14) (.shl .u64 (.i 1) (.wrap .u64 (.v 8)))))])))) (.imp (.lt (.v 16) (.i 0)) .false (.and (.imp (.ite (.ite (.ite (.eq (.bit .andNot .u64 (.v 12) (.shl .u64 (.i 1) (.wrap .u64 (.v 8)))) (.v 12)) (.eq (.v 13) (.v 13)) (.t .false)) (.eq (.v 14) (.v 14)) (.t .false)) (.t .true) (.eq (.len 18) (.i 0))) .true (.ret [(.b (.t .false))])) (.imp (.ite (.ite (.ite (.eq (.bit .andNot .u64 (.v 12) (.shl .u64 (.i 1) (.wrap .u64 (.v 8)))) (.v 12)) (.eq (.v 13) (.v 13)) (.t .false)) (.eq (.v 14) (.v 14)) (.t .false)) (.t .true) (.eq (.len 18) (.i 0))) .false (.back 10 8 15 [] [(.i (.v 8)), (.i (.v 16)), (.i (.wrap .i64 (.add (.v 10) (.i 1)))), (.i (.wrap .i64 (.add (.v 11) (.i 1)))), (.i (.bit .andNot .u64 (.v 12) (.shl .u64 (.i 1) (.wrap .u64 (.v 8))))), (.i (.v 13)), (.i (.v 14))])))))))))) (.imp (.v 15) .false (.and (.imp (.eq (.v 17) (.i 0)) .true (.call 14 [] [(.i (.v 12)), (.i (.v 13)), (.i (.v 14))] 18 (.ret [(.b (.ite (.eq (.len 18) (.i 0)) (.le (.wrap .i64 (.add (.v 10) (.i 1))) (.i 4)) (.t .false)))]))) (.imp (.eq (.v 17) (.i 0)) .false (.and (.imp (.ite (.lt (.wrap .i64 (.add (.v 8) (.v 17))) (.i 0)) (.t .true) (.lt (.i 63) (.wrap .i64 (.add (.v 8) (.v 17))))) .true (.ret [(.b (.t .false))])) (.imp (.ite (.lt (.wrap .i64 (.add (.v 8) (.v 17))) (.i 0)) (.t .true) (.lt (.i 63) (.wrap .i64 (.add (.v 8) (.v 17))))) .false (.back 10 8 15 [] [(.i (.wrap .i64 (.add (.v 8) (.v 17)))), (.i (.v 16)), (.i (.wrap .i64 (.add (.v 10) (.i 1)))), (.i (.wrap .i64 (.add (.v 11) (.i 1)))), (.i (.v 12)), (.i (.v 13)), (.i (.v 14))])))))))) (.imp (.ite (.not (.eq (.v 9) (.i 0))) (.eq (.v 16) (.wrap .i64 (.sub (.i 0) (.v 9)))) (.t .false)) .false (.and (.imp (.v 15) .true (.call 14 [] [(.i (.v 12)), (.i (.v 13)), (.i (.v 14))] 18 (.ob [] (.le (.i 0) (.wrap .u64 (.v 8))) (.and (.imp (.lt (.i 0) (.v 16)) .true (.and (.imp (.lt (.v 16) (.i 0)) .true (.and (.imp (.ite (.ite (.ite (.eq (.bit .andNot .u64 (.v 12) (.shl .u64 (.i 1) (.wrap .u64 (.v 8)))) (.v 12)) (.eq (.bit .andNot .u64 (.v 13) (.shl .u64 (.i 1) (.wrap .u64 (.v 8)))) (.v 13)) (.t .false)) (.eq (.bit .andNot .u64 (.v 14) (.shl .u64 (.i 1) (.wrap .u64 (.v 8)))) (.v 14)) (.t .false)) (.t .true) (.eq (.len 18) (.i 0))) .true (.ret [(.b (.t .false))])) (.imp (.ite (.ite (.ite (.eq (.bit .andNot .u64 (.v 12) (.shl .u64 (.i 1) (.wrap .u64 (.v 8)))) (.v 12)) (.eq (.bit .andNot .u64 (.v 13) (.shl .u64 (.i 1) (.wrap .u64 (.v 8)))) (.v 13)) (.t .false)) (.eq (.bit .andNot .u64 (.v 14) (.shl .u64 (.i 1) (.wrap .u64 (.v 8)))) (.v 14)) (.t .false)) (.t .true) (.eq (.len 18) (.i 0))) .false (.back 10 8 15 [] [(.i (.v 8)), (.i (.v 16)), (.i (.v 10)), (.i (.wrap .i64 (.add (.v 11) (.i 1)))), (.i (.bit .andNot .u64 (.v 12) (.shl .u64 (.i 1) (.wrap .u64 (.v 8))))), (.i (.bit .andNot .u64 (.v 13) (.shl .u64 (.i 1) (.wrap .u64 (.v 8))))), (.i (.bit .andNot .u64 (.v 14) (.shl .u64 (.i 1) (.wrap .u64 (.v 8)))))])))) (.imp (.lt (.v 16) (.i 0)) .false (.and (.imp (.ite (.ite (.ite (.eq (.bit .andNot .u64 (.v 12) (.shl .u64 (.i 1) (.wrap .u64 (.v 8)))) (.v 12)) (.eq (.bit .andNot .u64 (.v 13) (.shl .u64 (.i 1) (.wrap .u64 (.v 8)))) (.v 13)) (.t .false)) (.eq (.v 14) (.v 14)) (.t .false)) (.t .true) (.eq (.len 18) (.i 0))) .true (.ret [(.b (.t .false))])) (.imp (.ite (.ite (.ite (.eq (.bit .andNot .u64 (.v 12) (.shl .u64 (.i 1) (.wrap .u64 (.v 8)))) (.v 12)) (.eq (.bit .andNot .u64 (.v 13) (.shl .u64 (.i 1) (.wrap .u64 (.v 8)))) (.v 13)) (.t .false)) (.eq (.v 14) (.v 14)) (.t .false)) (.t .true) (.eq (.len 18) (.i 0))) .false (.back 10 8 15 [] [(.i (.v 8)), (.i (.v 16)), (.i (.v 10)), (.i (.wrap .i64 (.add (.v 11) (.i 1)))), (.i (.bit .andNot .u64 (.v 12) (.shl .u64 (.i 1) (.wrap .u64 (.v 8))))), (.i (.bit .andNot .u64 (.v 13) (.shl .u64 (.i 1) (.wrap .u64 (.v 8))))), (.i (.v 14))])))))) (.imp (.lt (.i 0) (.v 16)) .false (.and (.imp (.lt (.v 16) (.i 0)) .true (.and (.imp (.ite (.ite (.ite (.eq (.bit .andNot .u64 (.v 12) (.shl .u64 (.i 1) (.wrap .u64 (.v 8)))) (.v 12)) (.eq (.v 13) (.v 13)) (.t .false)) (.eq (.bit .andNot .u64 (.v 14) (.shl .u64 (.i 1) (.wrap .u64 (.v 8)))) (.v 14)) (.t .false)) (.t .true) (.eq (.len 18) (.i 0))) .true (.ret [(.b (.t .false))])) (.imp (.ite (.ite (.ite (.eq (.bit .andNot .u64 (.v 12) (.shl .u64 (.i 1) (.wrap .u64 (.v 8)))) (.v 12)) (.eq (.v 13) (.v 13)) (.t .false)) (.eq (.bit .andNot .u64 (.v 14) (.shl .u64 (.i 1) (.wrap .u64 (.v 8)))) (.v 14)) (.t .false)) (.t .true) (.eq (.len 18) (.i 0))) .false (.back 10 8 15 [] [(.i (.v 8)), (.i (.v 16)), (.i (.v 10)), (.i (.wrap .i64 (.add (.v 11) (.i 1)))), (.i (.bit .andNot .u64 (.v 12) (.shl .u64 (.i 1) (.wrap .u64 (.v 8))))), (.i (.v 13)), (.i (.bit .andNot .u64 (.v 14) (.shl .u64 (.i 1) (.wrap .u64 (.v 8)))))])))) (.imp (.lt (.v 16) (.i 0)) .false (.and (.imp (.ite (.ite (.ite (.eq (.bit .andNot .u64 (.v 12) (.shl .u64 (.i 1) (.wrap .u64 (.v 8)))) (.v 12)) (.eq (.v 13) (.v 13)) (.t .false)) (.eq (.v 14) (.v 14)) (.t .false)) (.t .true) (.eq (.len 18) (.i 0))) .true (.ret [(.b (.t .false))])) (.imp (.ite (.ite (.ite (.eq (.bit .andNot .u64 (.v 12) (.shl .u64 (.i 1) (.wrap .u64 (.v 8)))) (.v 12)) (.eq (.v 13) (.v 13)) (.t .false)) (.eq (.v 14) (.v 14)) (.t .false)) (.t .true) (.eq (.len 18) (.i 0))) .false (.back 10 8 15 [] [(.i (.v 8)), (.i (.v 16)), (.i (.v 10)), (.i (.wrap .i64 (.add (.v 11) (.i 1)))), (.i (.bit .andNot .u64 (.v 12) (.shl .u64 (.i 1) (.wrap .u64 (.v 8))))), (.i (.v 13)), (.i (.v 14))])))))))))) (.imp (.v 15) .false (.and (.imp (.eq (.v 17) (.i 0)) .true (.call 14 [] [(.i (.v 12)), (.i (.v 13)), (.i (.v 14))] 18 (.ret [(.b (.ite (.eq (.len 18) (.i 0)) (.le (.v 10) (.i 4)) (.t .false)))]))) (.imp (.eq (.v 17) (.i 0)) .false (.and (.imp (.ite (.lt (.wrap .i64 (.add (.v 8) (.v 17))) (.i 0)) (.t .true) (.lt (.i 63) (.wrap .i64 (.add (.v 8) (.v 17))))) .true (.ret [(.b (.t .false))])) (.imp (.ite (.lt (.wrap .i64 (.add (.v 8) (.v 17))) (.i 0)) (.t .true) (.lt (.i 63) (.wrap .i64 (.add (.v 8) (.v 17))))) .false (.back 10 8 15 [] [(.i (.wrap .i64 (.add (.v 8) (.v 17)))), (.i (.v 16)), (.i (.v 10)), (.i (.wrap .i64 (.add (.v 11) (.i 1)))), (.i (.v 12)), (.i (.v 13)), (.i (.v 14))]))))))))))) (.imp (.lt (.v 11) (.i 600)) .false (.ret [(.b (.t .false))])))))))))
def tbl_PlanSweeps : List (Nat × Ctr) := [(13, C_number), (14, C_floors), (35, C_first15), (36, C_planat)]
def inv_PlanSweeps : List Leaf → Nat → List Leaf → Prop := fun _ key xs => match key, xs with
  | 10, [.i f, .i dir, .i tn, .i i, .i c, .i u, .i d] => inv_PlanSweeps_10 f dir tn i c u d
  | _, _ => False
def meas_PlanSweeps : List Leaf → Nat → List Leaf → Nat := fun _ key xs => match key, xs with
  | 10, [.i f, .i dir, .i tn, .i i, .i c, .i u, .i d] => meas_PlanSweeps_10 f dir tn i c u d
  | _, _ => 0
theorem vc_PlanSweeps : vcg Tryd.prog (sigT tbl_PlanSweeps) [⟨10, [6, 10, 11, 12, 29, 30, 31, 32, 33, 34, 35, 36, 37, 38, 39, 40, 41, 42, 43, 44, 45, 46, 47, 48, 49, 50, 51, 52, 53, 54, 55, 56, 57, 58, 59, 60, 61, 62, 63, 64, 65, 66, 67, 68, 69, 70, 71, 72, 73, 74, 75, 76, 77, 78, 79, 80, 81, 82, 83, 84, 85, 86, 87, 88, 89, 90, 91, 92, 93, 94, 95, 96, 97, 98, 99, 100, 101, 102, 103, 104, 105, 106, 107, 108, 109, 110, 111, 112, 113, 114, 115, 116, 117, 118, 119, 120, 121, 122, 123, 124, 125, 126, 127, 128, 129, 130, 131, 132], [1, 2, 8, 9], [(0, 0), (0, 1), (0, 2)], [], some (3, .i64)⟩] Tryd.f11 C_PlanSweeps.params C_PlanSweeps.res = some phi_PlanSweeps := by kernel_rfl

end Go.Proofs.YtppnpmpocnpgaaaDoor
