import Derived.Test.YtchjajnhbipkmaaDoorF
namespace Go.Proofs.YtchjajnhbipkmaaDoor
open Go.Vg
set_option linter.unusedVariables false
set_option linter.unusedSimpArgs false
open Go
/-! Sweeping: what is left to go, by phases. e: the direction, 1 or -1; S: how far floors lie apart; p: the place. -/
section
variable {c u d : Int}
theorem any_iff {x : Int} : anyb c u d x = true ↔ isb c x = true ∨ hallb u d x 1 = true ∨ hallb u d x (-1) = true := by
  rw [anyb_or, hallb_up, hallb_dn]
  cases isb c x <;> cases isb u x <;> cases isb d x <;> simp
theorem any_e {x e : Int} (he : e = 1 ∨ e = -1) : anyb c u d x = true ↔ isb c x = true ∨ hallb u d x e = true ∨ hallb u d x (-e) = true := by
  rw [any_iff]
  rcases he with rfl | rfl
  · exact Iff.rfl
  · simp only [Int.reduceNeg, Int.neg_neg]
    constructor
    · rintro (h | h | h)
      · exact .inl h
      · exact .inr (.inr h)
      · exact .inr (.inl h)
    · rintro (h | h | h)
      · exact .inl h
      · exact .inr (.inr h)
      · exact .inr (.inl h)
theorem toward_iff {f e : Int} (he : e = 1 ∨ e = -1) : toward c u d f e = true ↔ ∃ x, e * f < e * x ∧ anyb c u d x = true := by
  rcases he with rfl | rfl
  · rw [toward_up, above_iff]
    simp only [Int.one_mul]
  · rw [toward_dn, below_iff]
    constructor
    · rintro ⟨m, h1, h2⟩; exact ⟨m, by omega, h2⟩
    · rintro ⟨m, h1, h2⟩; exact ⟨m, by omega, h2⟩
theorem mul_lt_iff {S : Int} (hS : 0 < S) {e f x : Int} (he : e = 1 ∨ e = -1) : e * (x * S) < e * (f * S) ↔ e * x < e * f := by
  rcases he with rfl | rfl
  · simp only [Int.one_mul]
    exact ⟨fun h => Int.lt_of_mul_lt_mul_right h (by omega), fun h => Int.mul_lt_mul_of_pos_right h hS⟩
  · constructor
    · intro h
      have : f * S < x * S := by omega
      have := Int.lt_of_mul_lt_mul_right this (by omega)
      omega
    · intro h
      have : f * S < x * S := Int.mul_lt_mul_of_pos_right (by omega) hS
      omega
theorem mul_inj_iff {S : Int} (hS : 0 < S) {f x : Int} : x * S = f * S ↔ x = f := ⟨fun h => Int.eq_of_mul_eq_mul_right (by omega) h, fun h => by rw [h]⟩
def PB (c u d S p e : Int) : Prop := ∀ x, e * (x * S) < e * p → isb c x = false ∧ hallb u d x e = false
def PC (c u d S p e : Int) : Prop := (∀ x, e * (x * S) < e * p → anyb c u d x = false) ∧ (∀ x, e * p ≤ e * (x * S) → hallb u d x (-e) = false) ∧ (∀ x, e * p < e * (x * S) → isb c x = false)
/-- What is left to go, in place units: t: the house's length. -/
def gone (t p e : Int) : Int := if e = 1 then p else t - p
inductive Ph (c u d S t p : Int) : Int → Int → Prop
  | a (e : Int) (he : e = 1 ∨ e = -1) : Ph c u d S t p e (3 * t - gone t p e)
  | b (e : Int) (he : e = 1 ∨ e = -1) (h : PB c u d S p e) : Ph c u d S t p e (2 * t - gone t p e)
  | c (e : Int) (he : e = 1 ∨ e = -1) (h : PC c u d S p e) : Ph c u d S t p e (t - gone t p e)
  | z : Ph c u d S t p 0 (3 * t)
/-- One set within another. -/
def Sub (c u d c' u' d' : Int) : Prop := ∀ x, (isb c' x = true → isb c x = true) ∧ (∀ e, hallb u' d' x e = true → hallb u d x e = true)
theorem Sub.any {c' u' d' : Int} (h : Sub c u d c' u' d') {x : Int} (hx : anyb c' u' d' x = true) : anyb c u d x = true := by
  rw [any_iff] at hx ⊢
  rcases hx with h1 | h1 | h1
  · exact .inl ((h x).1 h1)
  · exact .inr (.inl ((h x).2 1 h1))
  · exact .inr (.inr ((h x).2 (-1) h1))
theorem not_of {a b : Bool} (h : a = true → b = true) (hb : b = false) : a = false := by
  cases a
  · rfl
  · rw [h rfl] at hb; cases hb
theorem PB.sub {S p e c' u' d' : Int} (h : PB c u d S p e) (hs : Sub c u d c' u' d') : PB c' u' d' S p e := fun x hx => ⟨not_of (hs x).1 (h x hx).1, not_of ((hs x).2 e) (h x hx).2⟩
theorem PC.sub {S p e c' u' d' : Int} (h : PC c u d S p e) (hs : Sub c u d c' u' d') : PC c' u' d' S p e :=
  ⟨fun x hx => not_of (fun h' => hs.any h') (h.1 x hx), fun x hx => not_of ((hs x).2 (-e)) (h.2.1 x hx), fun x hx => not_of (hs x).1 (h.2.2 x hx)⟩
theorem Ph.sub {S t p e m c' u' d' : Int} (h : Ph c u d S t p e m) (hs : Sub c u d c' u' d') : Ph c' u' d' S t p e m := by
  cases h with
  | a _ he => exact .a e he
  | b _ he h => exact .b e he (h.sub hs)
  | c _ he h => exact .c e he (h.sub hs)
  | z => exact .z
theorem gone_step {t p e : Int} (he : e = 1 ∨ e = -1) : gone t (p + e) e = gone t p e + 1 := by
  rcases he with rfl | rfl <;> simp [gone] <;> omega
theorem gone_turn {t p e : Int} (he : e = 1 ∨ e = -1) : gone t p (-e) = t - gone t p e := by
  rcases he with rfl | rfl <;> simp [gone] <;> omega
theorem gone_range {t p e : Int} (h0 : 0 ≤ p) (h1 : p ≤ t) : 0 ≤ gone t p e ∧ gone t p e ≤ t := by
  unfold gone; split <;> omega
theorem Ph.range {S t p e m : Int} (h : Ph c u d S t p e m) (h0 : 0 ≤ p) (h1 : p ≤ t) : 0 ≤ m ∧ m ≤ 3 * t := by
  have hg := gone_range (e := e) h0 h1
  cases h <;> omega
/-- Between floors. -/
theorem Ph.between {S t p e m : Int} (h : Ph c u d S t p e m) (he : e = 1 ∨ e = -1) (hl : ∀ x, x * S ≠ p) : Ph c u d S t (p + e) e (m - 1) := by
  have hb : ∀ x, e * (x * S) < e * (p + e) → e * (x * S) < e * p := fun x hx => by
    have := hl x
    rcases he with rfl | rfl <;> omega
  have hg := gone_step (t := t) (p := p) he
  cases h with
  | a _ _ =>
    have := Ph.a (c := c) (u := u) (d := d) (S := S) (t := t) (p := p + e) e he
    rw [hg] at this
    rwa [show 3 * t - gone t p e - 1 = 3 * t - (gone t p e + 1) by omega]
  | b _ _ h =>
    have := Ph.b (t := t) e he (show PB c u d S (p + e) e from fun x hx => h x (hb x hx))
    rw [hg] at this
    rwa [show 2 * t - gone t p e - 1 = 2 * t - (gone t p e + 1) by omega]
  | c _ _ h =>
    have := Ph.c (t := t) e he (show PC c u d S (p + e) e from ⟨fun x hx => h.1 x (hb x hx), fun x hx => h.2.1 x (by rcases he with rfl | rfl <;> omega), fun x hx => h.2.2 x (by rcases he with rfl | rfl <;> omega)⟩)
    rw [hg] at this
    rwa [show t - gone t p e - 1 = t - (gone t p e + 1) by omega]
  | z => omega
theorem turn_cases {f e : Int} (he : e = 1 ∨ e = -1) :
    (turn c u d f e = e ∧ (toward c u d f e = true ∨ hallb u d f e = true)) ∨
    (turn c u d f e = -e ∧ (toward c u d f (-e) = true ∨ hallb u d f (-e) = true) ∧ toward c u d f e = false ∧ hallb u d f e = false) ∨
    (turn c u d f e = 0 ∧ toward c u d f e = false ∧ hallb u d f e = false ∧ toward c u d f (-e) = false ∧ hallb u d f (-e) = false) := by
  have h0 : (e == 0) = false := by rcases he with rfl | rfl <;> rfl
  unfold turn way
  rw [h0]
  cases h1 : toward c u d f e <;> cases h2 : hallb u d f e <;> cases h3 : toward c u d f (-e) <;> cases h4 : hallb u d f (-e) <;> simp
/-- At a floor: the new direction T is one of a phase; and one step on, where the car does not stop. -/
theorem Ph.level {S t p e m f T : Int} (hS : 0 < S) (h : Ph c u d S t p e m) (hp : p = f * S) (h0 : 0 ≤ p) (h1 : p ≤ t) (hT : turn c u d f e = T) (hTn : T ≠ 0) (hTr : T = 1 ∨ T = -1) :
    (∃ m', m' ≤ m ∧ Ph c u d S t p T m') ∧ (isb c f = false → hallb u d f T = false → ∃ m', m' < m ∧ Ph c u d S t (p + T) T m') := by
  have hat : ∀ x e', (e' = 1 ∨ e' = -1) → e' * (x * S) < e' * (p + e') → e' * (x * S) < e' * p ∨ x = f := fun x e' he' hx => by
    by_cases hx2 : x * S = p
    · right; rw [hp] at hx2; exact (mul_inj_iff hS).1 hx2
    · left; rcases he' with rfl | rfl <;> omega
  have hgr := gone_range (e := e) h0 h1
  have hgs := gone_step (t := t) (p := p) hTr
  have hgT := gone_range (e := T) h0 h1
  have ahead : ∀ e', (e' = 1 ∨ e' = -1) → toward c u d f e' = false → ∀ x, (-e') * (x * S) < (-e') * p → anyb c u d x = false := fun e' he' ht x hx => by
    cases ha : anyb c u d x
    · rfl
    · have h2 : toward c u d f e' = true := (toward_iff he').2 ⟨x, by
        rw [hp] at hx
        have := (mul_lt_iff (e := -e') hS (by omega)).1 hx
        rw [Int.neg_mul, Int.neg_mul] at this
        omega, ha⟩
      rw [ht] at h2; cases h2
  have none_of : ∀ x, anyb c u d x = false → isb c x = false ∧ ∀ e', hallb u d x e' = false := fun x hx => by
    have hx1 : ¬ anyb c u d x = true := by rw [hx]; decide
    rw [any_iff] at hx1
    refine ⟨by cases h : isb c x with | false => rfl | true => exact absurd (.inl h) hx1, fun e' => ?_⟩
    cases h : hallb u d x e' with
    | false => rfl
    | true =>
      exfalso
      have hh := h
      unfold hallb at hh
      simp only [Bool.or_eq_true, Bool.and_eq_true, beq_iff_eq] at hh
      rcases hh with ⟨rfl, _⟩ | ⟨rfl, _⟩
      · exact hx1 (.inr (.inl h))
      · exact hx1 (.inr (.inr h))
  have flip : (e = 1 ∨ e = -1) → T = -e → gone t p T = t - gone t p e := fun he hTe => by rw [hTe]; exact gone_turn he
  cases h with
  | z =>
    -- no direction: whichever it takes
    refine ⟨⟨_, ?_, .a T hTr⟩, fun _ _ => ⟨_, ?_, .a T hTr⟩⟩
    · omega
    · rw [hgs]; omega
  | a _ he =>
    rcases turn_cases (c := c) (u := u) (d := d) (f := f) he with ⟨h2, _⟩ | ⟨h2, _, h3, h4⟩ | ⟨h2, _⟩
    · have : T = e := by omega
      subst this
      exact ⟨⟨_, Int.le_refl _, .a T hTr⟩, fun _ _ => ⟨_, by rw [hgs]; omega, .a T hTr⟩⟩
    · have hTe : T = -e := by omega
      have hfl := flip he hTe
      have hb0 : PB c u d S p T := fun x hx => by
        have := none_of x (ahead e he h3 x (by rw [← hTe]; exact hx))
        exact ⟨this.1, this.2 T⟩
      refine ⟨⟨_, by omega, .b T hTr hb0⟩, fun hc hh => ⟨_, by rw [hgs]; omega, .b T hTr (fun x hx => ?_)⟩⟩
      rcases hat x T hTr hx with h5 | rfl
      · exact hb0 x h5
      · exact ⟨hc, hh⟩
    · omega
  | b _ he hB =>
    rcases turn_cases (c := c) (u := u) (d := d) (f := f) he with ⟨h2, _⟩ | ⟨h2, _, h3, h4⟩ | ⟨h2, _⟩
    · have : T = e := by omega
      subst this
      refine ⟨⟨_, Int.le_refl _, .b T hTr hB⟩, fun hc hh => ⟨_, by rw [hgs]; omega, .b T hTr (fun x hx => ?_)⟩⟩
      rcases hat x T hTr hx with h5 | rfl
      · exact hB x h5
      · exact ⟨hc, hh⟩
    · have hTe : T = -e := by omega
      have hfl := flip he hTe
      have heT : e = -T := by omega
      have hx2 : ∀ x, T * p ≤ T * (x * S) → hallb u d x (-T) = false := fun x hx => by
        rw [← heT]
        by_cases hxf : x = f
        · rw [hxf]; exact h4
        · refine (hB x ?_).2
          have hne : x * S ≠ p := fun e' => hxf (by rw [hp] at e'; exact (mul_inj_iff hS).1 e')
          rcases he with rfl | rfl <;> rcases hTr with rfl | rfl <;> omega
      have hx3 : ∀ x, T * p < T * (x * S) → isb c x = false := fun x hx => (hB x (by rcases he with rfl | rfl <;> rcases hTr with rfl | rfl <;> omega)).1
      have hC : PC c u d S p T := ⟨fun x hx => ahead e he h3 x (by rw [← hTe]; exact hx), hx2, hx3⟩
      refine ⟨⟨_, by omega, .c T hTr hC⟩, fun hc hh => ⟨_, by rw [hgs]; omega, .c T hTr ⟨fun x hx => ?_, fun x hx => hx2 x (by rcases hTr with rfl | rfl <;> omega), fun x hx => hx3 x (by rcases hTr with rfl | rfl <;> omega)⟩⟩⟩
      rcases hat x T hTr hx with h5 | rfl
      · exact hC.1 x h5
      · cases ha : anyb c u d x with
        | false => rfl
        | true =>
          rcases (any_e hTr).1 ha with h6 | h6 | h6
          · rw [hc] at h6; cases h6
          · rw [hh] at h6; cases h6
          · rw [← heT, h4] at h6; cases h6
    · omega
  | c _ he hC =>
    rcases turn_cases (c := c) (u := u) (d := d) (f := f) he with ⟨h2, _⟩ | ⟨h2, h3, _⟩ | ⟨h2, _⟩
    · have : T = e := by omega
      subst this
      refine ⟨⟨_, Int.le_refl _, .c T hTr hC⟩, fun hc hh => ⟨_, by rw [hgs]; omega, .c T hTr ⟨fun x hx => ?_, fun x hx => hC.2.1 x (by rcases hTr with rfl | rfl <;> omega), fun x hx => hC.2.2 x (by rcases hTr with rfl | rfl <;> omega)⟩⟩⟩
      rcases hat x T hTr hx with h5 | rfl
      · exact hC.1 x h5
      · cases ha : anyb c u d x with
        | false => rfl
        | true =>
          rcases (any_e hTr).1 ha with h6 | h6 | h6
          · rw [hc] at h6; cases h6
          · rw [hh] at h6; cases h6
          · have := hC.2.1 x (by rw [hp]; exact Int.le_refl _)
            rw [this] at h6; cases h6
    · exfalso
      rcases h3 with h3 | h3
      · obtain ⟨x, hx, ha⟩ := (toward_iff (show -e = 1 ∨ -e = -1 by omega)).1 h3
        have h5 := hC.1 x (by
          rw [hp]
          refine (mul_lt_iff hS he).2 ?_
          rw [Int.neg_mul, Int.neg_mul] at hx
          omega)
        rw [h5] at ha; cases ha
      · have := hC.2.1 f (by rw [hp]; exact Int.le_refl _)
        rw [this] at h3; cases h3
    · omega
end
/-- How many floors. -/
def cnt (p : Int → Bool) : Nat := (List.range 64).countP fun i : Nat => p (i : Int)
theorem cnt_le {p q : Int → Bool} (h : ∀ x, q x = true → p x = true) : cnt q ≤ cnt p := List.countP_mono_left fun i _ hq => h i hq
theorem cnt_lt {p q : Int → Bool} (h : ∀ x, q x = true → p x = true) {x : Int} (h0 : 0 ≤ x) (h1 : x < 64) (hp : p x = true) (hq : q x = false) : cnt q < cnt p := by
  have key : ∀ (l : List Nat), x.toNat ∈ l → l.countP (fun i : Nat => q (i : Int)) < l.countP (fun i : Nat => p (i : Int)) := by
    intro l
    induction l with
    | nil => intro hm; simp at hm
    | cons y l ih =>
      intro hm
      have hle : l.countP (fun i : Nat => q (i : Int)) ≤ l.countP (fun i : Nat => p (i : Int)) := List.countP_mono_left fun i _ hq => h i hq
      rw [List.countP_cons, List.countP_cons]
      by_cases hy : y = x.toNat
      · have e : ((y : Nat) : Int) = x := by omega
        rw [e, hp, hq]
        simp; omega
      · have := ih (by rcases List.mem_cons.1 hm with e | e; exact absurd e.symm hy; exact e)
        cases hqy : q (y : Int)
        · simp; split <;> omega
        · rw [h _ hqy]; simp; omega
  exact key _ (List.mem_range.2 (by omega))
theorem cnt_bound {p : Int → Bool} {F : Int} (h : ∀ x, p x = true → x < F) (h0 : 0 ≤ F) : (cnt p : Int) ≤ F := by
  have key : ∀ n : Nat, (((List.range n).countP fun i : Nat => p (i : Int)) : Int) ≤ F ∧ (((List.range n).countP fun i : Nat => p (i : Int)) : Int) ≤ n := by
    intro n
    induction n with
    | zero => simp; exact h0
    | succ n ih =>
      rw [List.range_succ, List.countP_append]
      cases hp : p (n : Int)
      · simp [hp]; omega
      · have := h _ hp
        simp [hp]; omega
  exact (key 64).1

section
variable {hc hf hs hd : Int} {c : CarP} {s : StP}
/-- What a tick is bound to. -/
theorem tick_right2 {ob : Bool} (hr : carRight hc hf hs hd c = true) (hheld : ob = false ∨ c.held < 9223372036854775807) :
    carRight hc hf hs hd (tickP hc hf hs hd c s ob).1 = true ∧ (tickP hc hf hs hd c s ob).1.pos = c.pos + (tickP hc hf hs hd c s ob).2.mv ∧ -1 ≤ (tickP hc hf hs hd c s ob).2.mv ∧ (tickP hc hf hs hd c s ob).2.mv ≤ 1 ∧
    (0 < (tickP hc hf hs hd c s ob).1.door → (tickP hc hf hs hd c s ob).2.mv = 0) ∧ (0 < c.door → (tickP hc hf hs hd c s ob).2.mv = 0 ∧ (tickP hc hf hs hd c s ob).2.op = false) ∧
    ((tickP hc hf hs hd c s ob).2.op = true → 0 < (tickP hc hf hs hd c s ob).1.door ∧ level hc hf hs hd (tickP hc hf hs hd c s ob).1.pos = true ∧
      ¬ ((tickP hc hf hs hd c s ob).2.sc = 0 ∧ (tickP hc hf hs hd c s ob).2.su = 0 ∧ (tickP hc hf hs hd c s ob).2.sd = 0)) ∧
    ((tickP hc hf hs hd c s ob).2.cl = true → ¬ 0 < (tickP hc hf hs hd c s ob).1.door ∧ 0 < c.door) ∧ (tickP hc hf hs hd c s ob).2.fl = floor hc hf hs hd (tickP hc hf hs hd c s ob).1.pos ∧
    (tickP hc hf hs hd c s ob).1.held ≤ max c.held 0 + 1 := by
  obtain ⟨hv, hp, hdr, hdo, h5, h6, h7⟩ := right_iff.1 hr
  have v := valid_iff.1 hv
  have ht := top_range hc hf hs hd
  by_cases h : 0 < c.door
  · rw [tick_door hr h]
    obtain ⟨h8, h9⟩ := h5 h
    dsimp only
    have hH : tickH c.door c.held ob = if 1 < c.door then c.held else if ob = true then c.held + 1 else 0 := by
      unfold tickH
      rw [if_neg (by omega)]
      rcases hheld with hb | hb
      · rw [hb]; simp
      · rw [wrap_in (by omega) (by omega)]
    have hL : tickL c.door ob = if 1 < c.door then c.door - 1 else if ob = true then 1 else 0 := by
      unfold tickL
      rw [if_neg (by omega)]
    have hC : tickC c.door ob = true → c.door = 1 ∧ ob = false := by
      unfold tickC; simp
    refine ⟨right_iff.2 ⟨hv, hp, hdr, ?_, fun _ => ⟨h8, h9⟩, .inl h8, ?_⟩, by omega, by omega, by omega, fun _ => rfl, fun _ => ⟨rfl, rfl⟩, fun h => (by cases h), fun hc => ?_, rfl, ?_⟩
    · simp only [hL]; split
      · omega
      · split <;> omega
    · simp only [hL, hH]
      by_cases h1 : 1 < c.door
      · rw [if_pos h1, if_pos h1]; omega
      · rw [if_neg h1, if_neg h1]; cases ob <;> simp <;> omega
    · obtain ⟨e1, e2⟩ := hC hc
      rw [hL, if_neg (by omega), e2]
      simp; omega
    · rw [hH]; split
      · omega
      · split <;> omega
  · have hd0 : c.door = 0 := by omega
    have hh0 : c.held = 0 := by omega
    by_cases hl : level hc hf hs hd c.pos = true
    · rw [tickP_yes hr, stepP_lvl h hl]
      have hok := okP_floor (p := c.pos) hv hdr
      have hT := turn_range (c := (houseP hf s).c) (u := (houseP hf s).u) (d := (houseP hf s).d) (n := floor hc hf hs hd c.pos) hdr
      have hdP : dirP (houseP hf s).c (houseP hf s).u (houseP hf s).d (floor hc hf hs hd c.pos) c.dir = turn (houseP hf s).c (houseP hf s).u (houseP hf s).d (floor hc hf hs hd c.pos) c.dir := by unfold dirP; rw [if_pos hok]
      have hfo := floor_ok (p := c.pos) hv
      by_cases hst : stopP (houseP hf s).c (houseP hf s).u (houseP hf s).d (floor hc hf hs hd c.pos) c.dir = true
      · rw [levelP_stop hst]
        dsimp only
        rw [openL_eq hv, hdP]
        refine ⟨right_iff.2 ⟨hv, hp, hT, by simp only; omega, fun _ => ⟨hl, rfl⟩, .inl hl, .inl rfl⟩, by omega, by omega, by omega, fun _ => rfl, fun h' => absurd h' h, fun _ => ⟨by omega, hl, ?_⟩, fun h => (by cases h), rfl, by omega⟩
        have hone : ∀ b : Bool, put1 0 (floor hc hf hs hd c.pos) b = 0 → b = false := by
          intro b hb
          cases b
          · rfl
          · exfalso
            have h1 := put1_bit (u := 0) (fl := floor hc hf hs hd c.pos) (c := true) (n := floor hc hf hs hd c.pos)
            rw [hb, okf_iff.2 ⟨hfo.1, by omega⟩] at h1
            unfold isb at h1
            rw [B_zero] at h1
            simp at h1
        rintro ⟨z1, z2, z3⟩
        have y2 := hone _ z2
        have y3 := hone _ z3
        unfold stopP at hst
        rw [hok, Bool.true_and, Bool.or_eq_true] at hst
        rcases hst with h1 | h1
        · rw [if_pos h1] at z1
          have hb := one_bit (k := (floor hc hf hs hd c.pos).toNat) (j := (floor hc hf hs hd c.pos).toNat) (by omega)
          rw [← N_zero, N_inj] at z1
          rw [z1] at hb
          simp at hb
        · rw [h1, okf_iff.2 ⟨hfo.1, by omega⟩] at y2 y3
          generalize turn (houseP hf s).c (houseP hf s).u (houseP hf s).d (floor hc hf hs hd c.pos) c.dir = T at *
          have : T = 0 := by
            have e1 : T ≠ 1 := fun e => by rw [e] at y2; simp at y2
            have e2 : T ≠ -1 := fun e => by rw [e] at y3; simp at y3
            omega
          rw [this, hallb_zero] at h1
          cases h1
      · have hst : stopP (houseP hf s).c (houseP hf s).u (houseP hf s).d (floor hc hf hs hd c.pos) c.dir = false := by simpa using hst
        have hmv := moveP_range (houseP hf s).c (houseP hf s).u (houseP hf s).d (floor hc hf hs hd c.pos) c.dir
        have hmT : moveP (houseP hf s).c (houseP hf s).u (houseP hf s).d (floor hc hf hs hd c.pos) c.dir = turn (houseP hf s).c (houseP hf s).u (houseP hf s).d (floor hc hf hs hd c.pos) c.dir := by
          unfold moveP; rw [hok, hst]; rfl
        by_cases hgo : (goIs hc hf hs hd c.pos (moveP (houseP hf s).c (houseP hf s).u (houseP hf s).d (floor hc hf hs hd c.pos) c.dir) && !(moveP (houseP hf s).c (houseP hf s).u (houseP hf s).d (floor hc hf hs hd c.pos) c.dir == 0)) = true
        · rw [levelP_go hst hgo]
          dsimp only
          rw [Bool.and_eq_true] at hgo
          have hgi := hgo.1
          have hne : moveP (houseP hf s).c (houseP hf s).u (houseP hf s).d (floor hc hf hs hd c.pos) c.dir ≠ 0 := by simpa using hgo.2
          simp only [goIs, Bool.and_eq_true, between_iff] at hgi
          generalize moveP (houseP hf s).c (houseP hf s).u (houseP hf s).d (floor hc hf hs hd c.pos) c.dir = M at *
          have hcl : clampM M = M := by unfold clampM; omega
          rw [hcl] at hgi
          refine ⟨right_iff.2 ⟨hv, by simp only; omega, by rw [hdP]; exact hT, by simp only; omega, fun h' => absurd h' h, .inr (.inl (by rw [hdP, ← hmT]; exact hne)), .inl hh0⟩, by omega, by omega, by omega, fun h' => absurd h' h, fun h' => absurd h' h, fun h => (by cases h), fun h => (by cases h), rfl, by omega⟩
        · have hgo : (goIs hc hf hs hd c.pos (moveP (houseP hf s).c (houseP hf s).u (houseP hf s).d (floor hc hf hs hd c.pos) c.dir) && !(moveP (houseP hf s).c (houseP hf s).u (houseP hf s).d (floor hc hf hs hd c.pos) c.dir == 0)) = false := by simpa using hgo
          rw [levelP_stay hst hgo]
          dsimp only [noDeed]
          refine ⟨right_iff.2 ⟨hv, hp, by rw [hdP]; exact hT, by simp only; omega, fun h' => absurd h' h, .inl hl, .inl hh0⟩, by omega, by omega, by omega, fun h' => absurd h' h, fun h' => absurd h' h, fun h => (by cases h), fun h => (by cases h), rfl, by omega⟩
    · have hl : level hc hf hs hd c.pos = false := by simpa using hl
      rw [tickP_yes hr, stepP_btw h hl]
      have hbd : -1 ≤ betweenDir c ∧ betweenDir c ≤ 1 := by unfold betweenDir; split <;> omega
      have hbn : betweenDir c ≠ 0 := by
        unfold betweenDir
        rcases h6 with h6 | h6 | h6
        · rw [hl] at h6; cases h6
        · split <;> omega
        · rw [if_pos h6]; omega
      have hcl : clampM (betweenDir c) = betweenDir c := by unfold clampM; omega
      by_cases hgi : goIs hc hf hs hd c.pos (betweenDir c) = true
      · have hgi' := hgi
        simp only [goIs, Bool.and_eq_true, between_iff, hcl] at hgi'
        by_cases hrl : (c.rl && level hc hf hs hd (c.pos + clampM (betweenDir c))) = true
        · rw [betweenP_lv rfl hgi hrl]
          rw [Bool.and_eq_true, hcl] at hrl
          rw [hcl]
          dsimp only
          refine ⟨right_iff.2 ⟨hv, by simp only; omega, by simp only; omega, by simp only; omega, fun h' => absurd h' h, .inl hrl.2, .inl hh0⟩, by omega, by omega, by omega, fun h' => absurd h' h, fun h' => absurd h' h, fun h => (by cases h), fun h => (by cases h), rfl, by omega⟩
        · have hrl : (c.rl && level hc hf hs hd (c.pos + clampM (betweenDir c))) = false := by simpa using hrl
          rw [betweenP_mv rfl hgi hrl]
          rw [hcl] at hrl
          rw [hcl]
          dsimp only
          refine ⟨right_iff.2 ⟨hv, by simp only; omega, by simp only; omega, by simp only; omega, fun h' => absurd h' h, .inr (.inl hbn), .inl hh0⟩, by omega, by omega, by omega, fun h' => absurd h' h, fun h' => absurd h' h, fun h => (by cases h), fun h => (by cases h), rfl, by omega⟩
      · have hgi : goIs hc hf hs hd c.pos (betweenDir c) = false := by simpa using hgi
        rw [betweenP_no rfl hgi]
        dsimp only [noDeed]
        refine ⟨right_iff.2 ⟨hv, hp, by simp only; omega, by simp only; omega, fun h' => absurd h' h, .inr (.inl hbn), .inl hh0⟩, by omega, by omega, by omega, fun h' => absurd h' h, fun h' => absurd h' h, fun h => (by cases h), fun h => (by cases h), rfl, by omega⟩
end

theorem isb_andNot {a b x : Int} : isb (N (B a &&& ~~~B b)) x = (isb a x && !isb b x) := by
  unfold isb
  rw [B_N]
  by_cases h : okf x = true
  · have hx := okf_iff.1 h
    rw [h, BitVec.getLsbD_and, BitVec.getLsbD_not, decide_eq_true (show x.toNat < 64 by omega)]
    simp
  · have : okf x = false := by simpa using h
    rw [this]; simp
theorem isb_zero (x : Int) : isb 0 x = false := by unfold isb; rw [B_zero]; simp
theorem isb_one {f x : Int} (h : okf f = true) : isb (N (1#64 <<< f.toNat)) x = decide (x = f) := by
  have hf := okf_iff.1 h
  unfold isb
  rw [B_N, one_bit (by omega)]
  by_cases hx : okf x = true
  · have := okf_iff.1 hx
    rw [hx, Bool.true_and]
    apply decide_eq_decide.2
    omega
  · have e : okf x = false := by simpa using hx
    rw [e, Bool.false_and]
    symm
    apply decide_eq_false
    intro e2
    rw [e2] at hx
    exact hx h
section
variable {hc hf hs hd : Int} {c : CarP} {s : StP}
theorem clear_c {d : DeedP} (hv : valid hc hf hs hd = true) {x : Int} : isb (houseP hf (clearP s d)).c x = (isb (houseP hf s).c x && !isb d.sc x) := by
  rw [house_c hv, house_c hv]
  unfold clearP
  rw [isb_andNot]
  cases isb s.c x <;> cases isb d.sc x <;> simp
theorem clear_u {d : DeedP} (hv : valid hc hf hs hd = true) {x : Int} : isb (houseP hf (clearP s d)).u x = (isb (houseP hf s).u x && !isb d.su x) := by
  rw [house_u hv, house_u hv]
  unfold clearP
  rw [isb_andNot]
  cases isb s.u x <;> cases isb d.su x <;> simp
theorem clear_d {d : DeedP} (hv : valid hc hf hs hd = true) {x : Int} : isb (houseP hf (clearP s d)).d x = (isb (houseP hf s).d x && !isb d.sd x) := by
  rw [house_d hv, house_d hv]
  unfold clearP
  rw [isb_andNot]
  cases isb s.d x <;> cases isb d.sd x <;> simp
def KP (hf : Int) (s : StP) : Nat := cnt (isb (houseP hf s).c) + cnt (isb (houseP hf s).u) + cnt (isb (houseP hf s).d)
theorem KP_bound (hv : valid hc hf hs hd = true) : (KP hf s : Int) ≤ 3 * hf := by
  have v := valid_iff.1 hv
  have h1 := cnt_bound (p := isb (houseP hf s).c) (F := hf) (fun x hx => by rw [house_c hv] at hx; simp at hx; exact hx.2) (by omega)
  have h2 := cnt_bound (p := isb (houseP hf s).u) (F := hf) (fun x hx => by rw [house_u hv] at hx; simp at hx; omega) (by omega)
  have h3 := cnt_bound (p := isb (houseP hf s).d) (F := hf) (fun x hx => by rw [house_d hv] at hx; simp at hx; omega) (by omega)
  unfold KP
  omega
theorem hall_isb {u d x e : Int} : hallb u d x e = true ↔ (e = 1 ∧ isb u x = true) ∨ (e = -1 ∧ isb d x = true) := by
  unfold hallb; simp
theorem sub_of {c' u' d' c u d : Int} (h1 : ∀ x, isb c' x = true → isb c x = true) (h2 : ∀ x, isb u' x = true → isb u x = true) (h3 : ∀ x, isb d' x = true → isb d x = true) : Sub c u d c' u' d' := fun x =>
  ⟨h1 x, fun e h => by
    rw [hall_isb] at h ⊢
    rcases h with ⟨e1, h⟩ | ⟨e1, h⟩
    · exact .inl ⟨e1, h2 x h⟩
    · exact .inr ⟨e1, h3 x h⟩⟩
theorem clear_sub {d : DeedP} (hv : valid hc hf hs hd = true) : Sub (houseP hf s).c (houseP hf s).u (houseP hf s).d (houseP hf (clearP s d)).c (houseP hf (clearP s d)).u (houseP hf (clearP s d)).d :=
  sub_of (fun x h => by rw [clear_c hv] at h; simp at h; exact h.1) (fun x h => by rw [clear_u hv] at h; simp at h; exact h.1) (fun x h => by rw [clear_d hv] at h; simp at h; exact h.1)
theorem KP_le {d : DeedP} (hv : valid hc hf hs hd = true) : KP hf (clearP s d) ≤ KP hf s := by
  have h1 := cnt_le (p := isb (houseP hf s).c) (q := isb (houseP hf (clearP s d)).c) (fun x h => by rw [clear_c hv] at h; simp at h; exact h.1)
  have h2 := cnt_le (p := isb (houseP hf s).u) (q := isb (houseP hf (clearP s d)).u) (fun x h => by rw [clear_u hv] at h; simp at h; exact h.1)
  have h3 := cnt_le (p := isb (houseP hf s).d) (q := isb (houseP hf (clearP s d)).d) (fun x h => by rw [clear_d hv] at h; simp at h; exact h.1)
  unfold KP
  omega
/-- The phase of a car. -/
inductive CarPh (hc hf hs hd : Int) (c : CarP) (s : StP) : Int → Prop
  | rel (h1 : c.rl = true) (h2 : level hc hf hs hd c.pos = false) : CarPh hc hf hs hd c s (3 * top hc hf hs hd + c.pos % hs)
  | ph (m : Int) (h1 : c.rl = false ∨ level hc hf hs hd c.pos = true) (h : Ph (houseP hf s).c (houseP hf s).u (houseP hf s).d hs (top hc hf hs hd) c.pos c.dir m) : CarPh hc hf hs hd c s m
theorem carPh_range {m : Int} (hr : carRight hc hf hs hd c = true) (h : CarPh hc hf hs hd c s m) : 0 ≤ m ∧ m ≤ 3 * top hc hf hs hd + hs := by
  obtain ⟨hv, hp, _⟩ := right_iff.1 hr
  have v := valid_iff.1 hv
  have ht := top_range hc hf hs hd
  cases h with
  | rel _ _ =>
    have := Int.emod_nonneg c.pos (show hs ≠ 0 by omega)
    have := Int.emod_lt_of_pos c.pos (show 0 < hs by omega)
    omega
  | ph m _ h => have := h.range hp.1 hp.2; omega
theorem carPh_some (hr : carRight hc hf hs hd c = true) : ∃ m, CarPh hc hf hs hd c s m := by
  obtain ⟨hv, hp, hdr, hdo, h5, h6, h7⟩ := right_iff.1 hr
  by_cases h : c.rl = true ∧ level hc hf hs hd c.pos = false
  · exact ⟨_, .rel h.1 h.2⟩
  · have h1 : c.rl = false ∨ level hc hf hs hd c.pos = true := by
      cases hrl : c.rl
      · exact .inl rfl
      · right
        cases hl : level hc hf hs hd c.pos
        · exact absurd ⟨hrl, hl⟩ h
        · rfl
    have : c.dir = 0 ∨ c.dir = 1 ∨ c.dir = -1 := by omega
    rcases this with h2 | h2
    · refine ⟨3 * top hc hf hs hd, .ph _ h1 ?_⟩
      rw [h2]; exact .z
    · exact ⟨_, .ph _ h1 (.a c.dir h2)⟩
theorem tick_down {ob : Bool} (hr : carRight hc hf hs hd c = true) (h0 : c.door = 0) (hrl : c.rl = true) (hl : level hc hf hs hd c.pos = false) :
    tickP hc hf hs hd c s ob = (⟨c.pos - 1, if level hc hf hs hd (c.pos - 1) = true then 0 else -1, 0, !level hc hf hs hd (c.pos - 1), c.held⟩, ⟨false, false, floor hc hf hs hd (c.pos - 1), 0, -1, 0, 0, 0⟩) := by
  obtain ⟨hv, hp, hdr, hdo, h5, h6, h7⟩ := right_iff.1 hr
  have v := valid_iff.1 hv
  have hpos : c.pos ≠ 0 := by
    intro e
    rw [e, level_iff hv (by omega) (by omega)] at hl
    simp at hl
  have hb : betweenDir c = -1 := by unfold betweenDir; rw [if_pos hrl]
  have hcl : clampM (-1) = -1 := by decide
  have hgo : goIs hc hf hs hd c.pos (-1) = true := by
    unfold goIs
    rw [hv, hcl, between_iff.2 (by omega), between_iff.2 (by omega)]
    rfl
  rw [tickP_yes hr, stepP_btw (by omega) hl]
  cases hlv : level hc hf hs hd (c.pos - 1) with
  | true =>
    rw [betweenP_lv hb hgo (by rw [hrl, hcl]; exact hlv), hcl, h0]
    rfl
  | false =>
    rw [betweenP_mv hb hgo (by rw [hrl, hcl]; exact hlv), hcl, h0, hrl]
    rfl
theorem tick_between {ob : Bool} (hr : carRight hc hf hs hd c = true) (h0 : c.door = 0) (hrl : c.rl = false) (hl : level hc hf hs hd c.pos = false) :
    tickP hc hf hs hd c s ob = (⟨c.pos + c.dir, c.dir, 0, false, c.held⟩, ⟨false, false, floor hc hf hs hd (c.pos + c.dir), 0, c.dir, 0, 0, 0⟩) := by
  obtain ⟨hv, hp, hdr, hdo, h5, h6, h7⟩ := right_iff.1 hr
  have v := valid_iff.1 hv
  have ht := top_eq hv
  have hpos : c.pos ≠ 0 := by
    intro e
    rw [e, level_iff hv (by omega) (by omega)] at hl
    simp at hl
  have hpt : c.pos ≠ top hc hf hs hd := by
    intro e
    rw [e, level_iff hv (by omega) (by omega), ht, Int.mul_emod_left] at hl
    simp at hl
  have hb : betweenDir c = c.dir := by unfold betweenDir; rw [if_neg (by rw [hrl]; decide)]
  have hcl : clampM c.dir = c.dir := by unfold clampM; omega
  have hgo : goIs hc hf hs hd c.pos c.dir = true := by
    unfold goIs
    rw [hv, hcl, between_iff.2 (by omega), between_iff.2 (by omega)]
    rfl
  rw [tickP_yes hr, stepP_btw (by omega) hl, betweenP_mv hb hgo (by rw [hrl]; rfl), hcl, h0, hrl]
theorem house_any_range (hv : valid hc hf hs hd = true) {x : Int} (h : anyb (houseP hf s).c (houseP hf s).u (houseP hf s).d x = true) : 0 ≤ x ∧ x < hf := by
  have h0 := anyb_range h
  rw [anyb_or, house_c hv, house_u hv, house_d hv] at h
  simp at h
  omega
/-- One tick of a car that comes to a call: it is nearer, or there. -/
theorem tick_pot {m fl dr : Int} (hr : carRight hc hf hs hd c = true) (hph : CarPh hc hf hs hd c s m) (hdr : dr = 1 ∨ dr = -1) (hcall : hallb (houseP hf s).u (houseP hf s).d fl dr = true)
    (hno : hitP (tickP hc hf hs hd c s false).2 fl dr = false) :
    carRight hc hf hs hd (tickP hc hf hs hd c s false).1 = true ∧ hallb (houseP hf (clearP s (tickP hc hf hs hd c s false).2)).u (houseP hf (clearP s (tickP hc hf hs hd c s false).2)).d fl dr = true ∧
    ∃ m', CarPh hc hf hs hd (tickP hc hf hs hd c s false).1 (clearP s (tickP hc hf hs hd c s false).2) m' ∧
      m' + (hd + 1) * (KP hf (clearP s (tickP hc hf hs hd c s false).2) : Int) + (tickP hc hf hs hd c s false).1.door < m + (hd + 1) * (KP hf s : Int) + c.door := by
  refine ⟨(tick_right2 hr (.inl rfl)).1, ?_⟩
  obtain ⟨hv, hp, hdir, hdo, h5, h6, h7⟩ := right_iff.1 hr
  have v := valid_iff.1 hv
  have ht := top_range hc hf hs hd
  have hte := top_eq hv
  -- where nothing is cleared
  have keepc : ∀ (d : DeedP), d.sc = 0 → d.su = 0 → d.sd = 0 → hallb (houseP hf (clearP s d)).u (houseP hf (clearP s d)).d fl dr = true := fun d _ h2 h3 => by
    rw [hall_isb] at hcall ⊢
    rw [clear_u hv, clear_d hv, h2, h3, isb_zero]
    simpa using hcall
  have keepk : ∀ (d : DeedP), (hd + 1) * (KP hf (clearP s d) : Int) ≤ (hd + 1) * (KP hf s : Int) := fun d => by
    have := KP_le (s := s) (d := d) hv
    exact Int.mul_le_mul_of_nonneg_left (by omega) (by omega)
  by_cases h : 0 < c.door
  · rw [tick_door hr h]
    dsimp only
    refine ⟨keepc _ rfl rfl rfl, m, ?_, ?_⟩
    · obtain ⟨h8, h9⟩ := h5 h
      cases hph with
      | rel h1 _ => rw [h9] at h1; cases h1
      | ph _ h1 hP => exact .ph _ h1 (hP.sub (clear_sub hv))
    · have hL : tickL c.door false = c.door - 1 := by
        unfold tickL
        rw [if_neg (by omega)]
        split
        · rfl
        · simp; omega
      rw [hL]
      have := keepk ⟨false, tickC c.door false, floor hc hf hs hd c.pos, 0, 0, 0, 0, 0⟩
      omega
  · have hd0 : c.door = 0 := by omega
    by_cases hl : level hc hf hs hd c.pos = true
    · -- at a floor
      have hP : Ph (houseP hf s).c (houseP hf s).u (houseP hf s).d hs (top hc hf hs hd) c.pos c.dir m := by
        cases hph with
        | rel _ h2 => rw [hl] at h2; cases h2
        | ph _ _ hP => exact hP
      have hpf := level_floor hv hl
      have hfo := floor_ok (p := c.pos) hv
      have hok := okP_floor (p := c.pos) hv hdir
      have hokf : okf (floor hc hf hs hd c.pos) = true := okf_iff.2 (by omega)
      generalize hT : turn (houseP hf s).c (houseP hf s).u (houseP hf s).d (floor hc hf hs hd c.pos) c.dir = T
      have hTr : -1 ≤ T ∧ T ≤ 1 := by rw [← hT]; exact turn_range hdir
      have hTn : T ≠ 0 := by
        intro e
        rw [e] at hT
        obtain ⟨z1, z2, z3, z4⟩ := turn_zero hdir hT
        have hany : anyb (houseP hf s).c (houseP hf s).u (houseP hf s).d fl = true := any_iff.2 (.inr (by rcases hdr with rfl | rfl; exact .inl hcall; exact .inr hcall))
        rcases Int.lt_trichotomy (floor hc hf hs hd c.pos) fl with h8 | h8 | h8
        · rw [above_iff.2 ⟨fl, h8, hany⟩] at z1; cases z1
        · rw [hall_isb, ← h8] at hcall
          rw [z3, z4] at hcall
          simp at hcall
        · rw [below_iff.2 ⟨fl, h8, hany⟩] at z2; cases z2
      have hT1 : T = 1 ∨ T = -1 := by omega
      obtain ⟨⟨m1, hm1, hP1⟩, hstep⟩ := hP.level (by omega) hpf hp.1 hp.2 hT hTn hT1
      have hdP : dirP (houseP hf s).c (houseP hf s).u (houseP hf s).d (floor hc hf hs hd c.pos) c.dir = T := by unfold dirP; rw [if_pos hok, hT]
      by_cases hst : stopP (houseP hf s).c (houseP hf s).u (houseP hf s).d (floor hc hf hs hd c.pos) c.dir = true
      · -- it stops
        rw [tickP_yes hr, stepP_lvl h hl, levelP_stop hst, hdP, openL_eq hv] at hno ⊢
        dsimp only at hno ⊢
        generalize hfe : floor hc hf hs hd c.pos = f at *
        have hst2 : isb (houseP hf s).c f = true ∨ hallb (houseP hf s).u (houseP hf s).d f T = true := by
          unfold stopP at hst
          rw [hok, hT, Bool.true_and, Bool.or_eq_true] at hst
          exact hst
        generalize hD : (⟨true, false, f, T, 0, if isb (houseP hf s).c f = true then N (1#64 <<< f.toNat) else 0, put1 0 f (hallb (houseP hf s).u (houseP hf s).d f T && (okf f && T == 1)), put1 0 f (hallb (houseP hf s).u (houseP hf s).d f T && (okf f && T == -1))⟩ : DeedP) = D at *
        have hsu : ∀ x, isb D.su x = (hallb (houseP hf s).u (houseP hf s).d f T && T == 1 && decide (x = f)) := fun x => by
          rw [← hD]; dsimp only; rw [put1_bit, isb_zero, hokf]; simp
        have hsd : ∀ x, isb D.sd x = (hallb (houseP hf s).u (houseP hf s).d f T && T == -1 && decide (x = f)) := fun x => by
          rw [← hD]; dsimp only; rw [put1_bit, isb_zero, hokf]; simp
        have hscx : isb (houseP hf s).c f = true → isb D.sc f = true := fun hcf => by
          rw [← hD]; dsimp only; rw [if_pos hcf, isb_one hokf]; simp
        refine ⟨?_, m1, .ph _ (.inl rfl) (hP1.sub (clear_sub hv)), ?_⟩
        · -- the call is there still
          rw [hall_isb] at hcall ⊢
          rw [clear_u hv, clear_d hv, hsu, hsd]
          have hnh : ¬ (fl = f ∧ T = dr) := fun ⟨e1, e2⟩ => by
            rw [← hD] at hno
            simp only [hitP, e1, e2] at hno
            simp at hno
          rcases hcall with ⟨e1, hc1⟩ | ⟨e1, hc1⟩
          · left
            refine ⟨e1, ?_⟩
            rw [hc1]
            have : (T == 1 && decide (fl = f)) = false := by
              cases h8 : (T == 1)
              · rfl
              · have h9 : T = 1 := by simpa using h8
                have : fl ≠ f := fun e => hnh ⟨e, by omega⟩
                simp [this]
            rw [Bool.and_assoc, this]
            simp
          · right
            refine ⟨e1, ?_⟩
            rw [hc1]
            have : (T == -1 && decide (fl = f)) = false := by
              cases h8 : (T == -1)
              · rfl
              · have h9 : T = -1 := by simpa using h8
                have : fl ≠ f := fun e => hnh ⟨e, by omega⟩
                simp [this]
            rw [Bool.and_assoc, this]
            simp
        · have hlt : KP hf (clearP s D) < KP hf s := by
            have l1 := cnt_le (p := isb (houseP hf s).c) (q := isb (houseP hf (clearP s D)).c) (fun x h => by rw [clear_c hv] at h; simp at h; exact h.1)
            have l2 := cnt_le (p := isb (houseP hf s).u) (q := isb (houseP hf (clearP s D)).u) (fun x h => by rw [clear_u hv] at h; simp at h; exact h.1)
            have l3 := cnt_le (p := isb (houseP hf s).d) (q := isb (houseP hf (clearP s D)).d) (fun x h => by rw [clear_d hv] at h; simp at h; exact h.1)
            unfold KP
            rcases hst2 with h8 | h8
            · have := cnt_lt (p := isb (houseP hf s).c) (q := isb (houseP hf (clearP s D)).c) (fun x h => by rw [clear_c hv] at h; simp at h; exact h.1) (x := f) (by omega) (by omega) h8 (by rw [clear_c hv, hscx h8]; simp)
              omega
            · rw [hall_isb] at h8
              rcases h8 with ⟨e1, h9⟩ | ⟨e1, h9⟩
              · have := cnt_lt (p := isb (houseP hf s).u) (q := isb (houseP hf (clearP s D)).u) (fun x h => by rw [clear_u hv] at h; simp at h; exact h.1) (x := f) (by omega) (by omega) h9 (by rw [clear_u hv, hsu, e1, hallb_up, h9]; simp)
                omega
              · have := cnt_lt (p := isb (houseP hf s).d) (q := isb (houseP hf (clearP s D)).d) (fun x h => by rw [clear_d hv] at h; simp at h; exact h.1) (x := f) (by omega) (by omega) h9 (by rw [clear_d hv, hsd, e1, hallb_dn, h9]; simp)
                omega
          have : (hd + 1) * (KP hf (clearP s D) : Int) ≤ (hd + 1) * ((KP hf s : Int) - 1) := Int.mul_le_mul_of_nonneg_left (by omega) (by omega)
          rw [Int.mul_sub, Int.mul_one] at this
          omega
      · -- it goes on
        have hst : stopP (houseP hf s).c (houseP hf s).u (houseP hf s).d (floor hc hf hs hd c.pos) c.dir = false := by simpa using hst
        have hmP : moveP (houseP hf s).c (houseP hf s).u (houseP hf s).d (floor hc hf hs hd c.pos) c.dir = T := by
          unfold moveP; rw [hok, hst, hT]; rfl
        have hst2 : isb (houseP hf s).c (floor hc hf hs hd c.pos) = false ∧ hallb (houseP hf s).u (houseP hf s).d (floor hc hf hs hd c.pos) T = false := by
          unfold stopP at hst
          rw [hok, hT, Bool.true_and, Bool.or_eq_false_iff] at hst
          exact hst
        obtain ⟨m2, hm2, hP2⟩ := hstep hst2.1 hst2.2
        have htw : toward (houseP hf s).c (houseP hf s).u (houseP hf s).d (floor hc hf hs hd c.pos) T = true := by
          have := turn_move (c := (houseP hf s).c) (u := (houseP hf s).u) (d := (houseP hf s).d) (n := floor hc hf hs hd c.pos) hdir (by rw [hT]; exact hTn) (by rw [hT]; exact hst2.2)
          rwa [hT] at this
        obtain ⟨x, hx, hax⟩ := (toward_iff hT1).1 htw
        have hxr := house_any_range hv hax
        have hcl : clampM T = T := by unfold clampM; omega
        have hgo : goIs hc hf hs hd c.pos T = true := by
          have hb : 0 ≤ c.pos + T ∧ c.pos + T ≤ top hc hf hs hd := by
            rcases hT1 with rfl | rfl
            · have h8 : (floor hc hf hs hd c.pos + 1) * hs ≤ (hf - 1) * hs := Int.mul_le_mul_of_nonneg_right (by omega) (by omega)
              rw [Int.add_mul, ← hpf] at h8
              omega
            · have h8 : 1 * hs ≤ floor hc hf hs hd c.pos * hs := Int.mul_le_mul_of_nonneg_right (by omega) (by omega)
              rw [← hpf] at h8
              omega
          unfold goIs
          rw [hv, hcl, between_iff.2 (by omega), between_iff.2 hb]
          rfl
        rw [tickP_yes hr, stepP_lvl h hl, levelP_go hst (by rw [hmP, hgo]; simp [hTn]), hdP, hmP]
        dsimp only
        refine ⟨keepc _ rfl rfl rfl, m2, .ph _ (.inl rfl) (hP2.sub (clear_sub hv)), ?_⟩
        have := keepk ⟨false, false, floor hc hf hs hd (c.pos + T), 0, T, 0, 0, 0⟩
        omega
    · -- between floors
      have hl : level hc hf hs hd c.pos = false := by simpa using hl
      have hne : c.pos % hs ≠ 0 := by
        have h8 := hl
        rw [level_iff hv hp.1 hp.2] at h8
        simpa using h8
      have hm0 := Int.emod_nonneg c.pos (show hs ≠ 0 by omega)
      have hm1 := Int.emod_lt_of_pos c.pos (show 0 < hs by omega)
      cases hph with
      | rel h1 _ =>
        rw [tick_down hr hd0 h1 hl]
        dsimp only
        have hk := keepk ⟨false, false, floor hc hf hs hd (c.pos - 1), 0, -1, 0, 0, 0⟩
        have hme : (c.pos - 1) % hs = c.pos % hs - 1 := by
          have h9 := Int.mul_ediv_add_emod c.pos hs
          rw [show c.pos - 1 = (c.pos % hs - 1) + hs * (c.pos / hs) by omega, Int.add_mul_emod_self_left]
          exact Int.emod_eq_of_lt (by omega) (by omega)
        cases hlv : level hc hf hs hd (c.pos - 1) with
        | true =>
          refine ⟨keepc _ rfl rfl rfl, 3 * top hc hf hs hd, .ph _ (.inl rfl) ?_, by omega⟩
          exact .z
        | false =>
          refine ⟨keepc _ rfl rfl rfl, 3 * top hc hf hs hd + (c.pos - 1) % hs, .rel rfl hlv, ?_⟩
          rw [hme]
          omega
      | ph _ h1 hP =>
        have hrl : c.rl = false := by
          rcases h1 with h1 | h1
          · exact h1
          · rw [hl] at h1; cases h1
        have hdn : c.dir = 1 ∨ c.dir = -1 := by
          rcases h6 with h6 | h6 | h6
          · rw [hl] at h6; cases h6
          · omega
          · rw [hrl] at h6; cases h6
        rw [tick_between hr hd0 hrl hl]
        dsimp only
        have hk := keepk ⟨false, false, floor hc hf hs hd (c.pos + c.dir), 0, c.dir, 0, 0, 0⟩
        refine ⟨keepc _ rfl rfl rfl, m - 1, .ph _ (.inl rfl) ((hP.between hdn (fun x e => hne (by rw [← e, Int.mul_emod_left]))).sub (clear_sub hv)), by omega⟩
/-- How long it takes at most. -/
theorem eta_pot {fl dr : Int} (hdr : dr = 1 ∨ dr = -1) : ∀ (k : Nat) (c : CarP) (s : StP) (n m : Int), carRight hc hf hs hd c = true → CarPh hc hf hs hd c s m → hallb (houseP hf s).u (houseP hf s).d fl dr = true →
    m + (hd + 1) * (KP hf s : Int) + c.door < k → n ≤ etaGo hc hf hs hd fl dr k c s n ∧ etaGo hc hf hs hd fl dr k c s n ≤ n + (m + (hd + 1) * (KP hf s : Int) + c.door) := by
  intro k
  induction k with
  | zero =>
    intro c s n m hr hph _ hk
    obtain ⟨hv, _, _, hdo, _⟩ := right_iff.1 hr
    have v := valid_iff.1 hv
    have := carPh_range hr hph
    have : 0 ≤ (hd + 1) * (KP hf s : Int) := Int.mul_nonneg (by omega) (by omega)
    omega
  | succ k ih =>
    intro c s n m hr hph hcall hk
    obtain ⟨hv, _, _, hdo, _⟩ := right_iff.1 hr
    have v := valid_iff.1 hv
    have hm := carPh_range hr hph
    have hK : 0 ≤ (hd + 1) * (KP hf s : Int) := Int.mul_nonneg (by omega) (by omega)
    unfold etaGo
    by_cases hh : hitP (tickP hc hf hs hd c s false).2 fl dr = true
    · rw [if_pos hh]; omega
    · rw [if_neg hh]
      obtain ⟨h1, h2, m', h3, h4⟩ := tick_pot hr hph hdr hcall (by simpa using hh)
      have := ih _ _ (n + 1) m' h1 h3 h2 (by omega)
      omega
/-- It does not matter how it is counted. -/
theorem eta_shift {fl dr : Int} (hdr : dr = 1 ∨ dr = -1) : ∀ (k : Nat) (k' : Nat) (c : CarP) (s : StP) (n n' m : Int), carRight hc hf hs hd c = true → CarPh hc hf hs hd c s m → hallb (houseP hf s).u (houseP hf s).d fl dr = true →
    m + (hd + 1) * (KP hf s : Int) + c.door < k → m + (hd + 1) * (KP hf s : Int) + c.door < k' → etaGo hc hf hs hd fl dr k c s n - n = etaGo hc hf hs hd fl dr k' c s n' - n' := by
  intro k
  induction k with
  | zero =>
    intro k' c s n n' m hr hph _ hk
    obtain ⟨hv, _, _, hdo, _⟩ := right_iff.1 hr
    have v := valid_iff.1 hv
    have := carPh_range hr hph
    have : 0 ≤ (hd + 1) * (KP hf s : Int) := Int.mul_nonneg (by omega) (by omega)
    omega
  | succ k ih =>
    intro k' c s n n' m hr hph hcall hk hk'
    obtain ⟨hv, _, _, hdo, _⟩ := right_iff.1 hr
    have v := valid_iff.1 hv
    have hm := carPh_range hr hph
    have hK : 0 ≤ (hd + 1) * (KP hf s : Int) := Int.mul_nonneg (by omega) (by omega)
    cases k' with
    | zero => omega
    | succ k' =>
      unfold etaGo
      by_cases hh : hitP (tickP hc hf hs hd c s false).2 fl dr = true
      · rw [if_pos hh, if_pos hh]; omega
      · rw [if_neg hh, if_neg hh]
        obtain ⟨h1, h2, m', h3, h4⟩ := tick_pot hr hph hdr hcall (by simpa using hh)
        have := ih k' _ _ (n + 1) (n' + 1) m' h1 h3 h2 (by omega) (by omega)
        omega
end


theorem etaGo_hit {hc hf hs hd fl dr n : Int} {k : Nat} {c : CarP} {s : StP} (h : hitP (tickP hc hf hs hd c s false).2 fl dr = true) : etaGo hc hf hs hd fl dr (k + 1) c s n = n := by
  unfold etaGo
  rw [if_pos h]
theorem etaGo_miss {hc hf hs hd fl dr n : Int} {k : Nat} {c : CarP} {s : StP} (h : hitP (tickP hc hf hs hd c s false).2 fl dr = false) :
    etaGo hc hf hs hd fl dr (k + 1) c s n = etaGo hc hf hs hd fl dr k (tickP hc hf hs hd c s false).1 (clearP s (tickP hc hf hs hd c s false).2) (n + 1) := by
  rw [etaGo]
  rw [if_neg (by rw [h]; decide)]
/-- A call that is put is there. -/
theorem put_there {hc hf hs hd fl dr : Int} {s : StP} (hv : valid hc hf hs hd = true) (hm : mayP hf fl dr = true) : (dr = 1 ∨ dr = -1) ∧ hallb (houseP hf (putP s fl dr)).u (houseP hf (putP s fl dr)).d fl dr = true := by
  have v := valid_iff.1 hv
  simp only [mayP, Bool.and_eq_true, Bool.or_eq_true, decide_eq_true_eq, beq_iff_eq] at hm
  have hok : okf fl = true := okf_iff.2 (by omega)
  rcases hm.2 with ⟨rfl, h⟩ | ⟨rfl, h⟩
  · refine ⟨.inl rfl, ?_⟩
    rw [hallb_up, house_u hv]
    unfold putP
    dsimp only
    rw [put1_bit, hok, decide_eq_true (show fl < hf - 1 by omega)]
    simp
  · refine ⟨.inr rfl, ?_⟩
    rw [hallb_dn, house_d hv]
    unfold putP
    dsimp only
    rw [put1_bit, hok, decide_eq_true (show fl < hf by omega), decide_eq_true h]
    simp
/-- The whole bound. -/
theorem pot_bound {hc hf hs hd m : Int} {c : CarP} {s : StP} (hr : carRight hc hf hs hd c = true) (hph : CarPh hc hf hs hd c s m) : m + (hd + 1) * (KP hf s : Int) + c.door ≤ 3 * ((hf - 1) * hs) + hs + (hd + 1) * (3 * hf) + hd ∧ 3 * ((hf - 1) * hs) + hs + (hd + 1) * (3 * hf) + hd ≤ 10000 := by
  obtain ⟨hv, _, _, hdo, _⟩ := right_iff.1 hr
  have v := valid_iff.1 hv
  have ht := top_eq hv
  have htr := top_range hc hf hs hd
  have hm := carPh_range hr hph
  have hK := KP_bound (s := s) hv
  have h1 : (hd + 1) * (KP hf s : Int) ≤ (hd + 1) * (3 * hf) := Int.mul_le_mul_of_nonneg_left hK (by omega)
  have h2 : (hd + 1) * (3 * hf) ≤ 9 * (3 * hf) := Int.mul_le_mul_of_nonneg_right (by omega) (by omega)
  omega
theorem eta_bound {hc hf hs hd fl dr : Int} {c : CarP} {s : StP} (hr : carRight hc hf hs hd c = true) (hm : mayP hf fl dr = true) :
    1 ≤ etaP hc hf hs hd c s fl dr ∧ etaP hc hf hs hd c s fl dr ≤ 1 + (3 * ((hf - 1) * hs) + hs + (hd + 1) * (3 * hf) + hd) ∧ etaP hc hf hs hd c s fl dr ≤ 10001 := by
  obtain ⟨hv, _⟩ := right_iff.1 hr
  obtain ⟨h1, h2⟩ := put_there (s := s) hv hm
  obtain ⟨m, hph⟩ := carPh_some (s := putP s fl dr) hr
  have hb := pot_bound hr hph
  have he := eta_pot h1 1048575 c (putP s fl dr) 1 m hr hph h2 (by omega)
  unfold etaP
  rw [if_pos (by rw [hr, hm]; rfl)]
  omega

section
variable {hc hf hs hd fl dr : Int} {c : CarP} {s : StP}
theorem etaGo_ge : ∀ (k : Nat) (c : CarP) (s : StP) (n : Int), n + k ≤ 1048576 → n ≤ etaGo hc hf hs hd fl dr k c s n
  | 0, c, s, n, h => by unfold etaGo; omega
  | k + 1, c, s, n, h => by
    unfold etaGo
    split
    · omega
    · have := etaGo_ge k (tickP hc hf hs hd c s false).1 (clearP s (tickP hc hf hs hd c s false).2) (n + 1) (by omega)
      omega
theorem clear_house {s s' : StP} {d : DeedP} (h : houseP hf s = houseP hf s') : houseP hf (clearP s d) = houseP hf (clearP s' d) := by
  unfold houseP at h ⊢
  simp only [StP.mk.injEq, N_inj] at h
  obtain ⟨h1, h2, h3⟩ := h
  unfold clearP
  simp only [B_N]
  have sw : ∀ x y z : BitVec 64, x &&& ~~~y &&& z = x &&& z &&& ~~~y := fun x y z => by
    rw [BitVec.and_assoc, BitVec.and_comm (~~~y) z, ← BitVec.and_assoc]
  have sw3 : ∀ x y z t : BitVec 64, x &&& ~~~y &&& z &&& t = x &&& z &&& t &&& ~~~y := fun x y z t => by
    rw [sw, BitVec.and_assoc, BitVec.and_comm (~~~y) t, ← BitVec.and_assoc]
  rw [sw, sw, sw3, sw (B s'.c), sw (B s'.u), sw3 (B s'.d), h1, h2, h3]
theorem house_keep {d : DeedP} (h1 : d.sc = 0) (h2 : d.su = 0) (h3 : d.sd = 0) : houseP hf (clearP s d) = houseP hf s := by
  unfold houseP clearP
  rw [h1, h2, h3]
  simp only [B_N, B_zero, BitVec.not_zero, BitVec.and_allOnes]
theorem etaGo_house : ∀ (k : Nat) (c : CarP) (s s' : StP) (n : Int), houseP hf s = houseP hf s' → etaGo hc hf hs hd fl dr k c s n = etaGo hc hf hs hd fl dr k c s' n
  | 0, _, _, _, _, _ => rfl
  | k + 1, c, s, s', n, h => by
    unfold etaGo
    rw [tick_house h, etaGo_house k _ _ _ (n + 1) (clear_house h)]
theorem hit_no {d : DeedP} (h : d.op = false) : hitP d fl dr = false := by unfold hitP; rw [h]; rfl
/-- Down to its level first. -/
theorem eta_rel : ∀ (r : Nat) (k : Nat) (c : CarP) (n : Int), carRight hc hf hs hd c = true → c.door = 0 → c.rl = true → c.pos % hs = (r : Int) + 1 →
    etaGo hc hf hs hd fl dr (k + (r + 1)) c s n = etaGo hc hf hs hd fl dr k ⟨c.pos - ((r : Int) + 1), 0, 0, false, c.held⟩ s (n + ((r : Int) + 1)) := by
  intro r
  induction r with
  | zero =>
    intro k c n hr hd0 hrl hm
    obtain ⟨hv, hp, hdr', hdo, h5, h6, h7⟩ := right_iff.1 hr
    have v := valid_iff.1 hv
    have hl : level hc hf hs hd c.pos = false := by rw [level_iff hv hp.1 hp.2]; simp; omega
    have E := tick_down (s := s) (ob := false) hr hd0 hrl hl
    have h9 := Int.mul_ediv_add_emod c.pos hs
    have h10 : 0 ≤ hs * (c.pos / hs) := Int.mul_nonneg (by omega) (Int.ediv_nonneg hp.1 (by omega))
    have hl2 : level hc hf hs hd (c.pos - 1) = true := by
      rw [level_iff hv (by omega) (by omega), show c.pos - 1 = hs * (c.pos / hs) by omega, Int.mul_emod_right]
      rfl
    rw [hl2] at E
    rw [show k + (0 + 1) = k + 1 by omega, etaGo_miss (hit_no (by rw [E])), E]
    rw [etaGo_house k _ _ s _ (house_keep rfl rfl rfl)]
    rfl
  | succ r ih =>
    intro k c n hr hd0 hrl hm
    obtain ⟨hv, hp, hdr', hdo, h5, h6, h7⟩ := right_iff.1 hr
    have v := valid_iff.1 hv
    have hl : level hc hf hs hd c.pos = false := by rw [level_iff hv hp.1 hp.2]; simp; omega
    have E := tick_down (s := s) (ob := false) hr hd0 hrl hl
    have hR := (tick_right2 (s := s) (ob := false) hr (.inl rfl)).1
    have h9 := Int.mul_ediv_add_emod c.pos hs
    have h10 : 0 ≤ hs * (c.pos / hs) := Int.mul_nonneg (by omega) (Int.ediv_nonneg hp.1 (by omega))
    have h11 := Int.emod_lt_of_pos c.pos (show 0 < hs by omega)
    have hm2 : (c.pos - 1) % hs = (r : Int) + 1 := by
      rw [show c.pos - 1 = (c.pos % hs - 1) + hs * (c.pos / hs) by omega, Int.add_mul_emod_self_left, Int.emod_eq_of_lt (by omega) (by omega)]
      omega
    have hl2 : level hc hf hs hd (c.pos - 1) = false := by
      rw [level_iff hv (by omega) (by omega), hm2]
      simp; omega
    rw [hl2] at E
    rw [E] at hR
    have hI := ih k _ (n + 1) hR rfl rfl hm2
    rw [show k + (r + 1 + 1) = (k + (r + 1)) + 1 by omega, etaGo_miss (hit_no (by rw [E])), E]
    rw [etaGo_house _ _ _ s _ (house_keep rfl rfl rfl)]
    refine hI.trans ?_
    dsimp only
    rw [show c.pos - 1 - ((r : Int) + 1) = c.pos - (((r + 1 : Nat) : Int) + 1) by omega, show n + 1 + ((r : Int) + 1) = n + (((r + 1 : Nat) : Int) + 1) by omega]
/-- Till its door is closed. -/
theorem eta_door : ∀ (r : Nat) (k : Nat) (p : Int) (n : Int), carRight hc hf hs hd ⟨p, 0, r, false, 0⟩ = true →
    etaGo hc hf hs hd fl dr (k + r) ⟨p, 0, r, false, 0⟩ s n = etaGo hc hf hs hd fl dr k ⟨p, 0, 0, false, 0⟩ s (n + r) := by
  intro r
  induction r with
  | zero => intro k p n _; simp
  | succ r ih =>
    intro k p n hr
    have E := tick_door (s := s) (ob := false) hr (show (0 : Int) < ((r + 1 : Nat) : Int) by omega)
    have hR := (tick_right2 (s := s) (ob := false) hr (.inl rfl)).1
    have hL : tickL ((r + 1 : Nat) : Int) false = (r : Int) := by
      unfold tickL
      rw [if_neg (by omega)]
      split
      · omega
      · simp; omega
    have hH : tickH ((r + 1 : Nat) : Int) 0 false = 0 := by
      unfold tickH
      split
      · rfl
      · split
        · rfl
        · simp
    dsimp only at E
    rw [hL, hH] at E
    rw [E] at hR
    have hI := ih k p (n + 1) hR
    rw [show k + (r + 1) = (k + r) + 1 by omega, etaGo_miss (hit_no (by rw [E])), E]
    rw [etaGo_house _ _ _ s _ (house_keep rfl rfl rfl)]
    rw [hI]
    congr 1
    omega
/-- With one call alone. -/
theorem one_house (hv : valid hc hf hs hd = true) (hm : mayP hf fl dr = true) : (∀ x, isb (houseP hf (putP ⟨0, 0, 0⟩ fl dr)).c x = false) ∧
    (∀ x e, hallb (houseP hf (putP ⟨0, 0, 0⟩ fl dr)).u (houseP hf (putP ⟨0, 0, 0⟩ fl dr)).d x e = (decide (x = fl) && e == dr)) := by
  have v := valid_iff.1 hv
  simp only [mayP, Bool.and_eq_true, Bool.or_eq_true, decide_eq_true_eq, beq_iff_eq] at hm
  have hok : okf fl = true := okf_iff.2 (by omega)
  refine ⟨fun x => by rw [house_c hv]; unfold putP; dsimp only; rw [isb_zero]; rfl, fun x e => ?_⟩
  have hu : isb (houseP hf (putP ⟨0, 0, 0⟩ fl dr)).u x = (decide (dr = 1) && decide (x = fl)) := by
    rw [house_u hv]
    unfold putP
    dsimp only
    rw [put1_bit, isb_zero, hok, Bool.eq_iff_iff]
    simp
    omega
  have hdn : isb (houseP hf (putP ⟨0, 0, 0⟩ fl dr)).d x = (decide (dr = -1) && decide (x = fl)) := by
    rw [house_d hv]
    unfold putP
    dsimp only
    rw [put1_bit, isb_zero, hok, Bool.eq_iff_iff]
    simp
    omega
  unfold hallb
  rw [hu, hdn, Bool.eq_iff_iff]
  simp
  omega
theorem one_turn_at (hv : valid hc hf hs hd = true) (hm : mayP hf fl dr = true) {dir : Int} (hd' : -1 ≤ dir ∧ dir ≤ 1) :
    turn (houseP hf (putP ⟨0, 0, 0⟩ fl dr)).c (houseP hf (putP ⟨0, 0, 0⟩ fl dr)).u (houseP hf (putP ⟨0, 0, 0⟩ fl dr)).d fl dir = dr := by
  obtain ⟨h1, h2⟩ := one_house hv hm
  have hdr := (put_there (s := ⟨0, 0, 0⟩) hv hm).1
  generalize houseP hf (putP ⟨0, 0, 0⟩ fl dr) = z at *
  have hany : ∀ x, anyb z.c z.u z.d x = true → x = fl := fun x hx => by
    rw [any_iff, h1, h2, h2] at hx
    simp at hx
    omega
  have htw : ∀ e, (e = 1 ∨ e = -1) → toward z.c z.u z.d fl e = false := fun e he => by
    cases ht : toward z.c z.u z.d fl e
    · rfl
    · obtain ⟨x, hx, ha⟩ := (toward_iff he).1 ht
      rw [hany x ha] at hx; omega
  by_cases h0 : dir = 0
  · subst h0
    unfold turn
    rw [h2, h2]
    rcases hdr with rfl | rfl <;> simp
  · have he : dir = 1 ∨ dir = -1 := by omega
    have hne : ¬ (-dir = 1 ∨ -dir = -1) → False := fun h => h (by omega)
    rcases turn_cases (c := z.c) (u := z.u) (d := z.d) (f := fl) he with ⟨e1, e2⟩ | ⟨e1, _, e3, e4⟩ | ⟨_, _, e3, _, e5⟩
    · rw [htw dir he, h2] at e2
      simp at e2
      rw [e1, e2]
    · rw [h2] at e4
      simp at e4
      rw [e1]; omega
    · rw [h2] at e3 e5
      simp at e3 e5
      omega
theorem one_turn_off (hv : valid hc hf hs hd = true) (hm : mayP hf fl dr = true) {f e dir : Int} (he : e = 1 ∨ e = -1) (hef : e * f < e * fl) (hd' : dir = 0 ∨ dir = e) :
    turn (houseP hf (putP ⟨0, 0, 0⟩ fl dr)).c (houseP hf (putP ⟨0, 0, 0⟩ fl dr)).u (houseP hf (putP ⟨0, 0, 0⟩ fl dr)).d f dir = e := by
  obtain ⟨h1, h2⟩ := one_house hv hm
  have hdr := (put_there (s := ⟨0, 0, 0⟩) hv hm).1
  generalize houseP hf (putP ⟨0, 0, 0⟩ fl dr) = z at *
  have hne : f ≠ fl := fun h => by rw [h] at hef; omega
  have hfl : anyb z.c z.u z.d fl = true := by
    rw [any_iff, h2, h2]
    right
    rcases hdr with rfl | rfl <;> simp
  have hany : ∀ x, anyb z.c z.u z.d x = true → x = fl := fun x hx => by
    rw [any_iff, h1, h2, h2] at hx
    simp at hx
    omega
  have htw : toward z.c z.u z.d f e = true := (toward_iff he).2 ⟨fl, hef, hfl⟩
  rcases hd' with rfl | rfl
  · unfold turn
    rw [h2, h2, decide_eq_false hne]
    simp only [beq_self_eq_true, Bool.not_true, Bool.false_and, Bool.false_eq_true, if_false]
    have hn := @near_range z.c z.u z.d f
    have hz : near z.c z.u z.d f ≠ 0 := fun h => by
      obtain ⟨z1, z2⟩ := near_zero.1 h
      rcases he with rfl | rfl
      · rw [toward_up, z1] at htw; cases htw
      · rw [toward_dn, z2] at htw; cases htw
    have ho : near z.c z.u z.d f = -e → False := fun h => by
      rcases he with rfl | rfl
      · obtain ⟨m, h3, h4⟩ := below_iff.1 (near_neg h)
        rw [hany m h4] at h3; omega
      · obtain ⟨m, h3, h4⟩ := above_iff.1 (near_one h)
        rw [hany m h4] at h3; omega
    generalize near z.c z.u z.d f = m at ho hn hz
    rcases he with rfl | rfl
    · have : m ≠ -1 := fun h => ho h
      omega
    · have : m ≠ 1 := fun h => ho (by rw [h]; rfl)
      omega
  · exact turn_keeps (by omega) htw
theorem eta_one (hv : valid hc hf hs hd = true) (hm : mayP hf fl dr = true) {e : Int} (he : e = 1 ∨ e = -1) : ∀ (r : Nat) (k : Nat) (c : CarP) (n : Int), carRight hc hf hs hd c = true → c.door = 0 → c.rl = false → (c.dir = e ∨ c.dir = 0) →
    e * (fl * hs - c.pos) = (r : Int) → etaGo hc hf hs hd fl dr (k + (r + 1)) c (putP ⟨0, 0, 0⟩ fl dr) n = n + r := by
  intro r
  have v := valid_iff.1 hv
  obtain ⟨z1, z2⟩ := one_house hv hm
  have hmm := hm
  simp only [mayP, Bool.and_eq_true, Bool.or_eq_true, decide_eq_true_eq, beq_iff_eq] at hmm
  have hL := level_mul hv (fl := fl) (by omega) (by omega)
  induction r with
  | zero =>
    intro k c n hr hd0 hrl hdir hpos
    have hp : c.pos = fl * hs := by rcases he with rfl | rfl <;> omega
    obtain ⟨_, hpr, hdr', hdo, h5, h6, h7⟩ := right_iff.1 hr
    have hl : level hc hf hs hd c.pos = true := by rw [hp]; exact hL.2.2.1
    have hfl : floor hc hf hs hd c.pos = fl := by rw [hp]; exact hL.2.2.2
    have hT := one_turn_at hv hm (dir := c.dir) hdr'
    have hok : okP fl c.dir = true := by rw [← hfl]; exact okP_floor hv hdr'
    have hst : stopP (houseP hf (putP ⟨0, 0, 0⟩ fl dr)).c (houseP hf (putP ⟨0, 0, 0⟩ fl dr)).u (houseP hf (putP ⟨0, 0, 0⟩ fl dr)).d (floor hc hf hs hd c.pos) c.dir = true := by
      rw [hfl]
      unfold stopP
      rw [hok, hT, z2]
      simp
    have hdP : dirP (houseP hf (putP ⟨0, 0, 0⟩ fl dr)).c (houseP hf (putP ⟨0, 0, 0⟩ fl dr)).u (houseP hf (putP ⟨0, 0, 0⟩ fl dr)).d (floor hc hf hs hd c.pos) c.dir = dr := by
      rw [hfl]
      unfold dirP
      rw [hok, hT]
      rfl
    have hh : hitP (tickP hc hf hs hd c (putP ⟨0, 0, 0⟩ fl dr) false).2 fl dr = true := by
      rw [tickP_yes hr, stepP_lvl (by omega) hl, levelP_stop hst, hdP]
      unfold hitP
      dsimp only
      rw [hfl]
      simp
    rw [show k + (0 + 1) = k + 1 by omega, etaGo_hit hh]
    omega
  | succ r ih =>
    intro k c n hr hd0 hrl hdir hpos
    obtain ⟨_, hpr, hdr', hdo, h5, h6, h7⟩ := right_iff.1 hr
    have hne : e * c.pos < e * (fl * hs) := by rcases he with rfl | rfl <;> omega
    have key : tickP hc hf hs hd c (putP ⟨0, 0, 0⟩ fl dr) false = (⟨c.pos + e, e, 0, false, c.held⟩, ⟨false, false, floor hc hf hs hd (c.pos + e), 0, e, 0, 0, 0⟩) := by
      by_cases hl : level hc hf hs hd c.pos = true
      · have hpf := level_floor hv hl
        have hfo := floor_ok (p := c.pos) hv
        have hef : e * floor hc hf hs hd c.pos < e * fl := by
          rw [hpf] at hne
          exact (mul_lt_iff (by omega) he).1 hne
        have hT := one_turn_off hv hm (f := floor hc hf hs hd c.pos) he hef (dir := c.dir) (by omega)
        have hok := okP_floor (p := c.pos) hv hdr'
        have hnf : floor hc hf hs hd c.pos ≠ fl := fun h => by rw [h] at hef; omega
        have hst : stopP (houseP hf (putP ⟨0, 0, 0⟩ fl dr)).c (houseP hf (putP ⟨0, 0, 0⟩ fl dr)).u (houseP hf (putP ⟨0, 0, 0⟩ fl dr)).d (floor hc hf hs hd c.pos) c.dir = false := by
          unfold stopP
          rw [hok, hT, z1, z2, decide_eq_false hnf]
          rfl
        have hdP : dirP (houseP hf (putP ⟨0, 0, 0⟩ fl dr)).c (houseP hf (putP ⟨0, 0, 0⟩ fl dr)).u (houseP hf (putP ⟨0, 0, 0⟩ fl dr)).d (floor hc hf hs hd c.pos) c.dir = e := by
          unfold dirP; rw [hok, hT]; rfl
        have hmP : moveP (houseP hf (putP ⟨0, 0, 0⟩ fl dr)).c (houseP hf (putP ⟨0, 0, 0⟩ fl dr)).u (houseP hf (putP ⟨0, 0, 0⟩ fl dr)).d (floor hc hf hs hd c.pos) c.dir = e := by
          unfold moveP; rw [hok, hst, hT]; rfl
        have hcl : clampM e = e := by unfold clampM; omega
        have hgo : goIs hc hf hs hd c.pos e = true := by
          unfold goIs
          rw [hv, hcl, between_iff.2 (by omega), between_iff.2 (by rcases he with rfl | rfl <;> omega)]
          rfl
        rw [tickP_yes hr, stepP_lvl (by omega) hl, levelP_go hst (by rw [hmP, hgo]; rcases he with rfl | rfl <;> rfl), hdP, hmP, hd0]
      · have hl : level hc hf hs hd c.pos = false := by simpa using hl
        have hde : c.dir = e := by
          rcases hdir with h | h
          · exact h
          · rcases h6 with h6 | h6 | h6
            · rw [hl] at h6; cases h6
            · exact absurd h h6
            · rw [hrl] at h6; cases h6
        rw [tick_between hr hd0 hrl hl, hde]
    have hR := (tick_right2 (s := putP ⟨0, 0, 0⟩ fl dr) (ob := false) hr (.inl rfl)).1
    rw [key] at hR
    have hI := ih k ⟨c.pos + e, e, 0, false, c.held⟩ (n + 1) hR rfl rfl (.inl rfl) (by dsimp only; rcases he with rfl | rfl <;> omega)
    rw [show k + (r + 1 + 1) = (k + (r + 1)) + 1 by omega, etaGo_miss (hit_no (by rw [key])), key]
    rw [etaGo_house _ _ _ (putP ⟨0, 0, 0⟩ fl dr) _ (house_keep rfl rfl rfl), hI]
    omega
/-- How long to a call, with nothing else to do. -/
theorem eta_near (hv : valid hc hf hs hd = true) (hm : mayP hf fl dr = true) {a : Int} (ha : 0 ≤ a ∧ a < hf) {k : Nat} (hk : 600 ≤ k) (n : Int) :
    etaGo hc hf hs hd fl dr k ⟨a * hs, 0, 0, false, 0⟩ (putP ⟨0, 0, 0⟩ fl dr) n = n + (if a ≤ fl then (fl - a) * hs else (a - fl) * hs) := by
  have v := valid_iff.1 hv
  have L := level_mul hv ha.1 ha.2
  have htr := top_range hc hf hs hd
  have hmm := hm
  simp only [mayP, Bool.and_eq_true, Bool.or_eq_true, decide_eq_true_eq, beq_iff_eq] at hmm
  have L2 := level_mul hv (fl := fl) (by omega) (by omega)
  have hr : carRight hc hf hs hd ⟨a * hs, 0, 0, false, 0⟩ = true := right_iff.2 ⟨hv, ⟨L.1, L.2.1⟩, by dsimp only; omega, by dsimp only; omega, fun h => by dsimp only at h; omega, .inl L.2.2.1, .inl rfl⟩
  by_cases h : a ≤ fl
  · rw [if_pos h, Int.sub_mul]
    have h1 : a * hs ≤ fl * hs := Int.mul_le_mul_of_nonneg_right h (by omega)
    have := eta_one hv hm (.inl rfl) (fl * hs - a * hs).toNat (k - ((fl * hs - a * hs).toNat + 1)) ⟨a * hs, 0, 0, false, 0⟩ n hr rfl rfl (.inr rfl) (by dsimp only; omega)
    rw [show k - ((fl * hs - a * hs).toNat + 1) + ((fl * hs - a * hs).toNat + 1) = k by omega] at this
    rw [this]; omega
  · rw [if_neg h, Int.sub_mul]
    have h1 : fl * hs ≤ a * hs := Int.mul_le_mul_of_nonneg_right (by omega) (by omega)
    have := eta_one hv hm (.inr rfl) (a * hs - fl * hs).toNat (k - ((a * hs - fl * hs).toNat + 1)) ⟨a * hs, 0, 0, false, 0⟩ n hr rfl rfl (.inr rfl) (by dsimp only; omega)
    rw [show k - ((a * hs - fl * hs).toNat + 1) + ((a * hs - fl * hs).toNat + 1) = k by omega] at this
    rw [this]; omega
end

def C_eta : Ctr := ⟨[.agg [.int .i64, .int .i64, .int .i64, .int .i64], .agg [.int .i64, .int .i64, .int .i64, .bool, .int .i64], .agg [.int .u64, .int .u64, .int .u64], .agg [.int .i64, .int .i64]], [.one (.int .i64)],
  fun | [.i hc, .i hf, .i hs, .i hd, .i cp, .i cdir, .i cdo, .b crl, .i ch, .i s0, .i s1, .i s2, .i fl, .i dr] => -9223372036854775808 ≤ cdo ∧ cdo < 9223372036854775808 | _ => False,
  fun | [.i hc, .i hf, .i hs, .i hd, .i cp, .i cdir, .i cdo, .b crl, .i ch, .i s0, .i s1, .i s2, .i fl, .i dr] => [.i (etaP hc hf hs hd ⟨cp, cdir, cdo, crl, ch⟩ ⟨s0, s1, s2⟩ fl dr)] | _ => []⟩
theorem eta_pre {ls : List Leaf} (h_ : C_eta.pre ls) : ∃ (hc : Int) (hf : Int) (hs : Int) (hd : Int) (cp : Int) (cdir : Int) (cdo : Int) (crl : Bool) (ch : Int) (s0 : Int) (s1 : Int) (s2 : Int) (fl : Int) (dr : Int), ls = [.i hc, .i hf, .i hs, .i hd, .i cp, .i cdir, .i cdo, .b crl, .i ch, .i s0, .i s1, .i s2, .i fl, .i dr] ∧ (-9223372036854775808 ≤ cdo ∧ cdo < 9223372036854775808) := by
  unfold C_eta at h_; dsimp only at h_; split at h_
  · exact ⟨_, _, _, _, _, _, _, _, _, _, _, _, _, _, rfl, h_⟩
  · exact h_.elim
theorem eta_mk {hc : Int} {hf : Int} {hs : Int} {hd : Int} {cp : Int} {cdir : Int} {cdo : Int} {crl : Bool} {ch : Int} {s0 : Int} {s1 : Int} {s2 : Int} {fl : Int} {dr : Int} (h_ : -9223372036854775808 ≤ cdo ∧ cdo < 9223372036854775808) : C_eta.pre [.i hc, .i hf, .i hs, .i hd, .i cp, .i cdir, .i cdo, .b crl, .i ch, .i s0, .i s1, .i s2, .i fl, .i dr] := h_
theorem eta_res {hc : Int} {hf : Int} {hs : Int} {hd : Int} {cp : Int} {cdir : Int} {cdo : Int} {crl : Bool} {ch : Int} {s0 : Int} {s1 : Int} {s2 : Int} {fl : Int} {dr : Int} {rs_ : List Leaf} (h_ : rs_ = C_eta.fn [.i hc, .i hf, .i hs, .i hd, .i cp, .i cdir, .i cdo, .b crl, .i ch, .i s0, .i s1, .i s2, .i fl, .i dr]) : ∃ (q0 : Int), q0 = (etaP hc hf hs hd ⟨cp, cdir, cdo, crl, ch⟩ ⟨s0, s1, s2⟩ fl dr) ∧ rs_ = [.i q0] := ⟨_, rfl, h_⟩
def inv_eta_5 (hc : Int) (hf : Int) (hs : Int) (hd : Int) (p0 : Int) (d0 : Int) (o0 : Int) (r0 : Bool) (h0 : Int) (s0 : Int) (s1 : Int) (s2 : Int) (fl : Int) (dr : Int) (n : Int) (p : Int) (d : Int) (o : Int) (r : Bool) (h : Int) (a : Int) (b : Int) (c : Int) : Prop := 1 ≤ n ∧ n ≤ 1048576 ∧ carRight hc hf hs hd ⟨p, d, o, r, h⟩ = true ∧ etaGo hc hf hs hd fl dr (1048576 - n).toNat ⟨p, d, o, r, h⟩ ⟨a, b, c⟩ n = etaP hc hf hs hd ⟨p0, d0, o0, r0, h0⟩ ⟨s0, s1, s2⟩ fl dr
def meas_eta_5 (hc : Int) (hf : Int) (hs : Int) (hd : Int) (p0 : Int) (d0 : Int) (o0 : Int) (r0 : Bool) (h0 : Int) (s0 : Int) (s1 : Int) (s2 : Int) (fl : Int) (dr : Int) (n : Int) (p : Int) (d : Int) (o : Int) (r : Bool) (h : Int) (a : Int) (b : Int) (c : Int) : Nat := (1048576 - n).toNat
def phi_eta : Fm := (.call 24 [] [(.i (.v 0)), (.i (.v 1)), (.i (.v 2)), (.i (.v 3)), (.i (.v 4)), (.i (.v 5)), (.i (.v 6)), (.b (.v 7)), (.i (.v 8))] 14 (.call 50 [((.not (.v 14)), .false)] [(.i (.v 1)), (.i (.v 12)), (.i (.v 13))] 15 (.and (.imp (.ite (.not (.v 14)) (.t .true) (.not (.v 15))) .true (.ret [(.i (.i 1048576))])) (.imp (.ite (.not (.v 14)) (.t .true) (.not (.v 15))) .false (.call 29 [] [(.i (.v 9)), (.i (.v 10)), (.i (.v 11)), (.i (.v 12)), (.i (.v 13))] 16 (.loop 5 19 [0, 1, 2, 3, 4, 5, 6, 7, 8, 9, 10, 11, 12, 13] [(.i (.i 1)), (.i (.v 4)), (.i (.v 5)), (.i (.v 6)), (.b (.v 7)), (.i (.v 8)), (.i (.v 16)), (.i (.v 17)), (.i (.v 18))] [.i, .i, .i, .i, .b, .i, .i, .i, .i] (.and (.imp (.lt (.v 19) (.i 1048576)) .true (.call 20 [] [(.i (.v 0)), (.i (.v 1)), (.i (.v 2)), (.i (.v 3)), (.i (.v 20)), (.i (.v 21)), (.i (.v 22)), (.b (.v 23)), (.i (.v 24)), (.i (.v 25)), (.i (.v 26)), (.i (.v 27)), (.b (.t .false))] 28 (.and (.imp (.ite (.ite (.v 33) (.eq (.v 35) (.v 12)) (.t .false)) (.eq (.v 36) (.v 13)) (.t .false)) .true (.ret [(.i (.v 19))])) (.imp (.ite (.ite (.v 33) (.eq (.v 35) (.v 12)) (.t .false)) (.eq (.v 36) (.v 13)) (.t .false)) .false (.back 5 19 28 [0, 1, 2, 3, 4, 5, 6, 7, 8, 9, 10, 11, 12, 13] [(.i (.wrap .i64 (.add (.v 19) (.i 1)))), (.i (.v 28)), (.i (.v 29)), (.i (.v 30)), (.b (.v 31)), (.i (.v 32)), (.i (.bit .andNot .u64 (.v 25) (.v 38))), (.i (.bit .andNot .u64 (.v 26) (.v 39))), (.i (.bit .andNot .u64 (.v 27) (.v 40)))]))))) (.imp (.lt (.v 19) (.i 1048576)) .false (.ret [(.i (.i 1048576))])))))))))
def tbl_eta : List (Nat × Ctr) := [(20, C_ctick), (24, C_cright), (29, C_put), (50, C_may)]
def inv_eta : List Leaf → Nat → List Leaf → Prop := fun _ key xs => match key, xs with
  | 5, [.i hc, .i hf, .i hs, .i hd, .i p0, .i d0, .i o0, .b r0, .i h0, .i s0, .i s1, .i s2, .i fl, .i dr, .i n, .i p, .i d, .i o, .b r, .i h, .i a, .i b, .i c] => inv_eta_5 hc hf hs hd p0 d0 o0 r0 h0 s0 s1 s2 fl dr n p d o r h a b c
  | _, _ => False
def meas_eta : List Leaf → Nat → List Leaf → Nat := fun _ key xs => match key, xs with
  | 5, [.i hc, .i hf, .i hs, .i hd, .i p0, .i d0, .i o0, .b r0, .i h0, .i s0, .i s1, .i s2, .i fl, .i dr, .i n, .i p, .i d, .i o, .b r, .i h, .i a, .i b, .i c] => meas_eta_5 hc hf hs hd p0 d0 o0 r0 h0 s0 s1 s2 fl dr n p d o r h a b c
  | _, _ => 0
theorem vc_eta : vcg Tryd.prog (sigT tbl_eta) [⟨5, [8, 10, 25, 26, 27, 28, 29, 30, 31, 32, 33, 34, 35, 36, 37, 38, 39, 40, 41, 42, 43, 44, 45, 46, 47, 48, 49, 50, 51, 52, 53, 54, 55, 56, 57, 58, 59, 60, 61, 62, 63, 64, 65, 66, 67, 68, 69, 70, 71], [9], [(1, 0), (1, 1), (1, 2), (1, 3), (1, 4), (2, 0), (2, 1), (2, 2)], [0, 1, 2, 3, 4, 5, 6, 7, 8, 9, 10, 11, 12, 13], some (3, [.i64]), []⟩] Tryd.f35 C_eta.params C_eta.res = some phi_eta := by kernel_rfl
--SPLIT
theorem eta_sound : C_eta.Sound Tryd.prog G 35 := by
  refine fn_ok mixed stable tbl_eta [⟨5, [8, 10, 25, 26, 27, 28, 29, 30, 31, 32, 33, 34, 35, 36, 37, 38, 39, 40, 41, 42, 43, 44, 45, 46, 47, 48, 49, 50, 51, 52, 53, 54, 55, 56, 57, 58, 59, 60, 61, 62, 63, 64, 65, 66, 67, 68, 69, 70, 71], [9], [(1, 0), (1, 1), (1, 2), (1, 3), (1, 4), (2, 0), (2, 1), (2, 2)], [0, 1, 2, 3, 4, 5, 6, 7, 8, 9, 10, 11, 12, 13], some (3, [.i64]), []⟩] Tryd.func35 (by kernel_rfl) phi_eta vc_eta ⟨ctick_sound, cright_sound, put_sound, may_sound, trivial⟩ inv_eta meas_eta ?_
  intro ls hp
  obtain ⟨hc, hf, hs, hd, cp, cdir, cdo, crl, ch, s0, s1, s2, fl, dr, rfl, hpre⟩ := eta_pre hp
  clear hp
  rw [envOf_lk]
  unfold phi_eta
  refine vg_call (C := C_cright) rfl rfl (xs := [.i hc, .i hf, .i hs, .i hd, .i cp, .i cdir, .i cdo, .b crl, .i ch]) rfl (fun hg => ?_) (fun rs hrs => ?_)
  ·
    exact trivial
  obtain ⟨r14, hr14, rfl⟩ := cright_res hrs
  clear hrs
  change Fm.holds _ _ (lk [.i hc, .i hf, .i hs, .i hd, .i cp, .i cdir, .i cdo, .b crl, .i ch, .i s0, .i s1, .i s2, .i fl, .i dr, .b r14])
  refine vg_call (C := C_may) rfl rfl (xs := [.i hf, .i fl, .i dr]) rfl (fun hg => ?_) (fun rs hrs => ?_)
  ·
    simp only [gd_cons, gd_nil, and_true] at hg
    replace hg : (!r14) = false := hg
    refine may_mk ?_
    -- leaf 1 (pre)
    have h14 : r14 = true := by revert hg; cases r14 <;> simp
    have hv := (right_iff.1 (hr14.symm.trans h14)).1
    have v := valid_iff.1 hv
    omega
  obtain ⟨r15, hr15, rfl⟩ := may_res hrs
  clear hrs
  change Fm.holds _ _ (lk [.i hc, .i hf, .i hs, .i hd, .i cp, .i cdir, .i cdo, .b crl, .i ch, .i s0, .i s1, .i s2, .i fl, .i dr, .b r14, .b r15])
  refine ⟨fun hcond => ?_, fun hcond => ?_⟩
  ·
    have c1 : (if (!r14) = true then true else (!r15)) = true := hcond
    clear hcond
    suffices hfin : ((1048576 : Int)) = (etaP hc hf hs hd ⟨cp, cdir, cdo, crl, ch⟩ ⟨s0, s1, s2⟩ fl dr) from (c_i hfin rfl)
    -- leaf 2 (ret)
    unfold etaP
    rw [if_neg]
    rw [← hr14, ← hr15]
    revert c1
    cases r14 <;> cases r15 <;> simp
  ·
    have c2 : (if (!r14) = true then true else (!r15)) = false := hcond
    clear hcond
    refine vg_call (C := C_put) rfl rfl (xs := [.i s0, .i s1, .i s2, .i fl, .i dr]) rfl (fun hg => ?_) (fun rs hrs => ?_)
    ·
      exact trivial
    obtain ⟨r16, r17, r18, hr16, hr17, hr18, rfl⟩ := put_res hrs
    clear hrs
    change Fm.holds _ _ (lk [.i hc, .i hf, .i hs, .i hd, .i cp, .i cdir, .i cdo, .b crl, .i ch, .i s0, .i s1, .i s2, .i fl, .i dr, .b r14, .b r15, .i r16, .i r17, .i r18])
    refine vg_loop rfl ?_ (fun xs hfit hi => ?_)
    ·
      show inv_eta_5 hc hf hs hd cp cdir cdo crl ch s0 s1 s2 fl dr (1 : Int) cp cdir cdo crl ch r16 r17 r18
      -- leaf 3 (init)
      have h14 : r14 = true := by revert c2; cases r14 <;> simp
      have h15 : r15 = true := by revert c2; cases r14 <;> cases r15 <;> simp
      refine ⟨by omega, by omega, hr14.symm.trans h14, ?_⟩
      unfold etaP
      rw [if_pos (by rw [← hr14, ← hr15, h14, h15]; rfl), hr16, hr17, hr18]
      rfl
    obtain ⟨x19, xs0, rfl, hfit0⟩ := fits_i hfit
    obtain ⟨x20, xs1, rfl, hfit1⟩ := fits_i hfit0
    obtain ⟨x21, xs2, rfl, hfit2⟩ := fits_i hfit1
    obtain ⟨x22, xs3, rfl, hfit3⟩ := fits_i hfit2
    obtain ⟨x23, xs4, rfl, hfit4⟩ := fits_b hfit3
    obtain ⟨x24, xs5, rfl, hfit5⟩ := fits_i hfit4
    obtain ⟨x25, xs6, rfl, hfit6⟩ := fits_i hfit5
    obtain ⟨x26, xs7, rfl, hfit7⟩ := fits_i hfit6
    obtain ⟨x27, xs8, rfl, hfit8⟩ := fits_i hfit7
    obtain rfl := fits_nil hfit8
    clear hfit hfit0 hfit1 hfit2 hfit3 hfit4 hfit5 hfit6 hfit7 hfit8
    replace hi : inv_eta_5 hc hf hs hd cp cdir cdo crl ch s0 s1 s2 fl dr x19 x20 x21 x22 x23 x24 x25 x26 x27 := hi
    have hi5 := hi; clear hi
    change Fm.holds _ _ (lk [.i hc, .i hf, .i hs, .i hd, .i cp, .i cdir, .i cdo, .b crl, .i ch, .i s0, .i s1, .i s2, .i fl, .i dr, .b r14, .b r15, .i r16, .i r17, .i r18, .i x19, .i x20, .i x21, .i x22, .b x23, .i x24, .i x25, .i x26, .i x27])
    obtain ⟨i0, i1, i2, i3⟩ := hi5
    have R := right_iff.1 i2
    simp only at R
    have v := valid_iff.1 R.1
    have e1 : x19 < 1048576 → IntKind.wrap .i64 (x19 + 1) = x19 + 1 := fun h => wrap_in (by omega) (by omega)
    refine ⟨fun hcond => ?_, fun hcond => ?_⟩
    ·
      have c3 : (decide (x19 < (1048576 : Int))) = true := hcond
      clear hcond
      refine vg_call (C := C_ctick) rfl rfl (xs := [.i hc, .i hf, .i hs, .i hd, .i x20, .i x21, .i x22, .b x23, .i x24, .i x25, .i x26, .i x27, .b false]) rfl (fun hg => ?_) (fun rs hrs => ?_)
      ·
        refine ctick_mk ?_
        -- leaf 4 (pre)
        omega
      obtain ⟨r28, r29, r30, r31, r32, r33, r34, r35, r36, r37, r38, r39, r40, hr28, hr29, hr30, hr31, hr32, hr33, hr34, hr35, hr36, hr37, hr38, hr39, hr40, rfl⟩ := ctick_res hrs
      clear hrs
      change Fm.holds _ _ (lk [.i hc, .i hf, .i hs, .i hd, .i cp, .i cdir, .i cdo, .b crl, .i ch, .i s0, .i s1, .i s2, .i fl, .i dr, .b r14, .b r15, .i r16, .i r17, .i r18, .i x19, .i x20, .i x21, .i x22, .b x23, .i x24, .i x25, .i x26, .i x27, .i r28, .i r29, .i r30, .b r31, .i r32, .b r33, .b r34, .i r35, .i r36, .i r37, .i r38, .i r39, .i r40])
      have hh : hitP (tickP hc hf hs hd ⟨x20, x21, x22, x23, x24⟩ ⟨x25, x26, x27⟩ false).2 fl dr = (if (if r33 = true then (r35 == fl) else false) = true then (r36 == dr) else false) := by
        unfold hitP
        rw [← hr33, ← hr35, ← hr36]
        cases r33 <;> cases (r35 == fl) <;> simp
      have eX : (tickP hc hf hs hd ⟨x20, x21, x22, x23, x24⟩ ⟨x25, x26, x27⟩ false).1 = ⟨r28, r29, r30, r31, r32⟩ := by
        rw [hr28, hr29, hr30, hr31, hr32]
      obtain ⟨k, hk⟩ : ∃ k, (1048576 - x19).toNat = k + 1 := ⟨(1048576 - x19).toNat - 1, by have := of_decide_eq_true c3; omega⟩
      rw [hk] at i3
      refine ⟨fun hcond => ?_, fun hcond => ?_⟩
      ·
        have c4 : (if (if r33 = true then (r35 == fl) else false) = true then (r36 == dr) else false) = true := hcond
        clear hcond
        suffices hfin : (x19) = (etaP hc hf hs hd ⟨cp, cdir, cdo, crl, ch⟩ ⟨s0, s1, s2⟩ fl dr) from (c_i hfin rfl)
        -- leaf 5 (ret)
        rw [etaGo_hit (hh.trans c4)] at i3
        exact i3
      ·
        have c5 : (if (if r33 = true then (r35 == fl) else false) = true then (r36 == dr) else false) = false := hcond
        clear hcond
        refine ⟨?_, ?_⟩
        ·
          show inv_eta_5 hc hf hs hd cp cdir cdo crl ch s0 s1 s2 fl dr (IntKind.wrap .i64 (x19 + (1 : Int))) r28 r29 r30 r31 r32 (bitv .andNot .u64 x25 r38) (bitv .andNot .u64 x26 r39) (bitv .andNot .u64 x27 r40)
          -- leaf 6 (back)
          have hlt := of_decide_eq_true c3
          rw [etaGo_miss (hh.trans c5), eX] at i3
          rw [e1 hlt]
          refine ⟨by omega, by omega, ?_, ?_⟩
          · have := (tick_right2 (s := ⟨x25, x26, x27⟩) (ob := false) i2 (.inl rfl)).1
            rwa [eX] at this
          · rw [show (1048576 - (x19 + 1)).toNat = k by omega, ← i3]
            simp only [bv_andNot, hr38, hr39, hr40]
            rfl
        ·
          show meas_eta_5 hc hf hs hd cp cdir cdo crl ch s0 s1 s2 fl dr (IntKind.wrap .i64 (x19 + (1 : Int))) r28 r29 r30 r31 r32 (bitv .andNot .u64 x25 r38) (bitv .andNot .u64 x26 r39) (bitv .andNot .u64 x27 r40) < meas_eta_5 hc hf hs hd cp cdir cdo crl ch s0 s1 s2 fl dr x19 x20 x21 x22 x23 x24 x25 x26 x27
          -- leaf 7 (meas)
          have hlt := of_decide_eq_true c3
          unfold meas_eta_5
          rw [e1 hlt]
          omega
    ·
      have c6 : (decide (x19 < (1048576 : Int))) = false := hcond
      clear hcond
      suffices hfin : ((1048576 : Int)) = (etaP hc hf hs hd ⟨cp, cdir, cdo, crl, ch⟩ ⟨s0, s1, s2⟩ fl dr) from (c_i hfin rfl)
      -- leaf 8 (ret)
      have hge := of_decide_eq_false c6
      rw [show (1048576 - x19).toNat = 0 by omega] at i3
      exact i3
def C_first17 : Ctr := ⟨[], [.one (.bool)],
  fun | [] => True | _ => False,
  fun | [] => [.b (true)] | _ => []⟩
theorem first17_pre {ls : List Leaf} (h_ : C_first17.pre ls) : ls = [] := by
  unfold C_first17 at h_; dsimp only at h_; split at h_
  · rfl
  · exact h_.elim
theorem first17_res  {rs_ : List Leaf} (h_ : rs_ = C_first17.fn []) : ∃ (q0 : Bool), q0 = (true) ∧ rs_ = [.b q0] := ⟨_, rfl, h_⟩
def phi_first17 : Fm := (.call 21 [] [(.i (.i 1)), (.i (.i 4)), (.i (.i 2)), (.i (.i 2)), (.i (.i 2))] 0 (.call 35 [((.v 5), .true)] [(.i (.i 1)), (.i (.i 4)), (.i (.i 2)), (.i (.i 2)), (.i (.v 0)), (.i (.v 1)), (.i (.v 2)), (.b (.v 3)), (.i (.v 4)), (.i (.i 0)), (.i (.i 0)), (.i (.i 0)), (.i (.i 1)), (.i (.i 1))] 6 (.ret [(.b (.ite (.v 5) (.eq (.v 6) (.i 1)) (.t .false)))])))
def tbl_first17 : List (Nat × Ctr) := [(21, C_cstart), (35, C_eta)]
theorem vc_first17 : vcg Tryd.prog (sigT tbl_first17) [] Tryd.f33 C_first17.params C_first17.res = some phi_first17 := by kernel_rfl
--SPLIT
theorem first17_sound : C_first17.Sound Tryd.prog G 33 := by
  refine fn_ok mixed stable tbl_first17 [] Tryd.func33 (by kernel_rfl) phi_first17 vc_first17 ⟨cstart_sound, eta_sound, trivial⟩ (fun _ _ _ => False) (fun _ _ _ => 0) ?_
  intro ls hp
  obtain rfl := first17_pre hp
  clear hp
  rw [envOf_lk]
  unfold phi_first17
  refine vg_call (C := C_cstart) rfl rfl (xs := [.i (1 : Int), .i (4 : Int), .i (2 : Int), .i (2 : Int), .i (2 : Int)]) rfl (fun hg => ?_) (fun rs hrs => ?_)
  ·
    exact trivial
  obtain ⟨r0, r1, r2, r3, r4, r5, hr0, hr1, hr2, hr3, hr4, hr5, rfl⟩ := cstart_res hrs
  clear hrs
  change Fm.holds _ _ (lk [.i r0, .i r1, .i r2, .b r3, .i r4, .b r5])
  refine vg_call (C := C_eta) rfl rfl (xs := [.i (1 : Int), .i (4 : Int), .i (2 : Int), .i (2 : Int), .i r0, .i r1, .i r2, .b r3, .i r4, .i (0 : Int), .i (0 : Int), .i (0 : Int), .i (1 : Int), .i (1 : Int)]) rfl (fun hg => ?_) (fun rs hrs => ?_)
  ·
    simp only [gd_cons, gd_nil, and_true] at hg
    replace hg : r5 = true := hg
    refine eta_mk ?_
    -- leaf 1 (pre)
    rw [hr2]
    decide +kernel
  obtain ⟨r6, hr6, rfl⟩ := eta_res hrs
  clear hrs
  change Fm.holds _ _ (lk [.i r0, .i r1, .i r2, .b r3, .i r4, .b r5, .i r6])
  suffices hfin : ((if r5 = true then (r6 == (1 : Int)) else false)) = (true) from (c_b hfin rfl)
  -- leaf 2 (ret)
  have h5 : r5 = true := by rw [hr5]; decide +kernel
  have h6 : r6 = 1 := by
    rw [hr6, hr0, hr1, hr2, hr3, hr4]
    unfold etaP
    rw [if_pos (by decide +kernel)]
    exact etaGo_hit (k := 1048574) (by decide +kernel)
  rw [h5, h6]
  rfl
end Go.Proofs.YtchjajnhbipkmaaDoor
