import Derived.Test.YtchjajnhbipkmaaDoorE
namespace Go.Proofs.YtchjajnhbipkmaaDoor
open Go.Vg
set_option linter.unusedVariables false
set_option linter.unusedSimpArgs false
open Go
section
variable {hc hf hs hd T A i : Int} {c : CarP} {s : StP} {l : LV} {sc sd : Int}
theorem tick_move {e : Int} {ob : Bool} (hr : carRight hc hf hs hd c = true) (h0 : c.door = 0) (hrl : c.rl = false) (he : e = 1 ∨ e = -1) (hrg : 0 ≤ c.pos + e ∧ c.pos + e ≤ top hc hf hs hd)
    (hlv : level hc hf hs hd c.pos = true → turn (houseP hf s).c (houseP hf s).u (houseP hf s).d (floor hc hf hs hd c.pos) c.dir = e ∧ isb (houseP hf s).c (floor hc hf hs hd c.pos) = false ∧ hallb (houseP hf s).u (houseP hf s).d (floor hc hf hs hd c.pos) e = false)
    (hbt : level hc hf hs hd c.pos = false → c.dir = e) :
    tickP hc hf hs hd c s ob = (⟨c.pos + e, e, 0, false, c.held⟩, ⟨false, false, floor hc hf hs hd (c.pos + e), 0, e, 0, 0, 0⟩) := by
  obtain ⟨hv, hpr, hdr', hdo, h5, h6, h7⟩ := right_iff.1 hr
  by_cases hl : level hc hf hs hd c.pos = true
  · obtain ⟨hT, h1, h2⟩ := hlv hl
    have hok := okP_floor (p := c.pos) hv hdr'
    have hst : stopP (houseP hf s).c (houseP hf s).u (houseP hf s).d (floor hc hf hs hd c.pos) c.dir = false := by
      unfold stopP
      rw [hok, hT, h1, h2]
      rfl
    have hdP : dirP (houseP hf s).c (houseP hf s).u (houseP hf s).d (floor hc hf hs hd c.pos) c.dir = e := by
      unfold dirP; rw [hok, hT]; rfl
    have hmP : moveP (houseP hf s).c (houseP hf s).u (houseP hf s).d (floor hc hf hs hd c.pos) c.dir = e := by
      unfold moveP; rw [hok, hst, hT]; rfl
    have hcl : clampM e = e := by unfold clampM; omega
    have hgo : goIs hc hf hs hd c.pos e = true := by
      unfold goIs
      rw [hv, hcl, between_iff.2 (by omega), between_iff.2 (by omega)]
      rfl
    rw [tickP_yes hr, stepP_lvl (by omega) hl, levelP_go hst (by rw [hmP, hgo]; rcases he with rfl | rfl <;> rfl), hdP, hmP, h0]
  · have hl : level hc hf hs hd c.pos = false := by simpa using hl
    rw [tick_between hr h0 hrl hl, hbt hl]
theorem tick_stop2 {f e : Int} {ob : Bool} (hr : carRight hc hf hs hd c = true) (h0 : c.door = 0) (hl : level hc hf hs hd c.pos = true) (hfl : floor hc hf hs hd c.pos = f)
    (hT : turn (houseP hf s).c (houseP hf s).u (houseP hf s).d f c.dir = e) (hst : isb (houseP hf s).c f = true ∨ hallb (houseP hf s).u (houseP hf s).d f e = true) :
    tickP hc hf hs hd c s ob = (⟨c.pos, e, hd, false, 0⟩, ⟨true, false, f, e, 0, if isb (houseP hf s).c f = true then N (1#64 <<< f.toNat) else 0,
      put1 0 f (hallb (houseP hf s).u (houseP hf s).d f e && (okf f && e == 1)), put1 0 f (hallb (houseP hf s).u (houseP hf s).d f e && (okf f && e == -1))⟩) := by
  obtain ⟨hv, hpr, hdr', hdo, h5, h6, h7⟩ := right_iff.1 hr
  have hok := okP_floor (p := c.pos) hv hdr'
  have hsp : stopP (houseP hf s).c (houseP hf s).u (houseP hf s).d (floor hc hf hs hd c.pos) c.dir = true := by
    unfold stopP
    rw [hok, hfl, hT]
    rcases hst with h | h <;> rw [h] <;> simp
  have hdP : dirP (houseP hf s).c (houseP hf s).u (houseP hf s).d (floor hc hf hs hd c.pos) c.dir = e := by
    unfold dirP; rw [hok, hfl, hT]; rfl
  rw [tickP_yes hr, stepP_lvl (by omega) hl, levelP_stop hsp, hdP, hfl, openL_eq hv]
def bitI (f : Int) : Int := N (1#64 <<< f.toNat)
theorem bitI_bit {f x : Int} (h : okf f = true) : isb (bitI f) x = decide (x = f) := isb_one h
theorem bit_put {f : Int} (h : okf f = true) : put1 0 f true = bitI f := by
  unfold put1 oneB bitI
  rw [if_pos rfl, B_zero, BitVec.zero_or, if_pos h]
theorem bit_clear {f : Int} : N (B (bitI f) &&& ~~~B (bitI f)) = 0 := by
  rw [BitVec.and_not_self]; rfl
theorem bit_keep {f : Int} : N (B (bitI f) &&& ~~~B 0) = bitI f := by
  rw [B_zero, BitVec.not_zero, BitVec.and_allOnes]; unfold bitI; rw [B_N]
theorem zero_keep {x : Int} : N (B 0 &&& ~~~B x) = 0 := by
  rw [B_zero, BitVec.zero_and]; rfl
def PS (hc hf hs hd T A i : Int) (l : LV) (c : CarP) (sc sd : Int) : Prop :=
  carRight hc hf hs hd c = true ∧ c.held = 0 ∧ c.rl = false ∧ 0 ≤ i ∧
  ((c.pos = i ∧ i ≤ T * hs ∧ c.door = 0 ∧ (c.dir = 1 ∨ c.dir = 0 ∧ i = 0) ∧ sc = bitI T ∧ sd = bitI A ∧ l = lvOf []) ∨
   (c.pos = T * hs ∧ T * hs < i ∧ c.door = hd - (i - (T * hs + 1)) ∧ c.dir = -1 ∧ sc = 0 ∧ sd = bitI A ∧ l = lvOf [T]) ∨
   (c.pos = T * hs - (i - (T * hs + 1 + hd)) ∧ A * hs ≤ c.pos ∧ c.pos ≤ T * hs ∧ c.door = 0 ∧ c.dir = -1 ∧ sc = 0 ∧ sd = bitI A ∧ l = lvOf [T]) ∨
   (c.pos = A * hs ∧ T * hs + 1 + hd + (T * hs - A * hs) + 1 ≤ i ∧ c.door = max (hd - (i - (T * hs + 1 + hd + (T * hs - A * hs) + 1))) 0 ∧ sc = 0 ∧ sd = 0 ∧ l = lvOf [T, A]))
theorem ps_step3 (hT : T < hf) (hA : 1 ≤ A ∧ A < T) (hr : carRight hc hf hs hd c = true) (hh : c.held = 0) (hrl : c.rl = false) (hi : 0 ≤ i) (p1 : c.pos = T * hs - (i - (T * hs + 1 + hd))) (p2 : A * hs ≤ c.pos) (p3 : c.pos ≤ T * hs) (p4 : c.door = 0) (p5 : c.dir = -1) :
    ∃ c' d', tickP hc hf hs hd c ⟨0, 0, bitI A⟩ false = (c', d') ∧
    PS hc hf hs hd T A (i + 1) (if d'.op = true then snoc (lvOf [T]) d'.fl else lvOf [T]) c' (if d'.op = true then N (B 0 &&& ~~~B d'.sc) else 0) (if d'.op = true then N (B (bitI A) &&& ~~~B d'.sd) else bitI A) := by
  obtain ⟨hv, hpr, hdr', hdo, h5, h6, h7⟩ := right_iff.1 hr
  have v := valid_iff.1 hv
  have LT := level_mul hv (fl := T) (by omega) hT
  have LA := level_mul hv (fl := A) (by omega) (by omega)
  have hAT : A * hs < T * hs := Int.mul_lt_mul_of_pos_right hA.2 (by omega)
  have hA1 : 1 * hs ≤ A * hs := Int.mul_le_mul_of_nonneg_right hA.1 (by omega)
  have okA : okf A = true := okf_iff.2 (by omega)
  have zc : ∀ x, isb (houseP hf ⟨0, 0, bitI A⟩).c x = false := fun x => by rw [house_c hv]; simp [isb_zero]
  have zd : ∀ x, isb (houseP hf ⟨0, 0, bitI A⟩).d x = (decide (x = A) && decide (x < hf) && decide (0 < x)) := fun x => by rw [house_d hv, bitI_bit okA]
  have zA : isb (houseP hf ⟨0, 0, bitI A⟩).d A = true := by rw [zd]; simp; omega
  have zanyA : anyb (houseP hf ⟨0, 0, bitI A⟩).c (houseP hf ⟨0, 0, bitI A⟩).u (houseP hf ⟨0, 0, bitI A⟩).d A = true := by
    rw [anyb_or, zA]; simp
  have hR := (tick_right2 (s := ⟨0, 0, bitI A⟩) (ob := false) hr (.inl rfl)).1
  by_cases hlt : A * hs < c.pos
  · have hm := tick_move (e := -1) (ob := false) (s := ⟨0, 0, bitI A⟩) hr p4 hrl (.inr rfl) (by omega) (fun hl => by
      have hpf := level_floor hv hl
      generalize floor hc hf hs hd c.pos = f at *
      have hff : A < f := by
        have : A * hs < f * hs := by omega
        exact Int.lt_of_mul_lt_mul_right this (by omega)
      have htw : toward (houseP hf ⟨0, 0, bitI A⟩).c (houseP hf ⟨0, 0, bitI A⟩).u (houseP hf ⟨0, 0, bitI A⟩).d f (-1) = true := (toward_iff (.inr rfl)).2 ⟨A, by omega, zanyA⟩
      refine ⟨by rw [p5]; exact turn_keeps (by omega) htw, zc _, ?_⟩
      rw [hallb_dn, zd]; simp; omega) (fun _ => p5)
    rw [hm] at hR
    refine ⟨_, _, hm, hR, hh, rfl, by omega, .inr (.inr (.inl ?_))⟩
    dsimp only
    exact ⟨by omega, by omega, by omega, rfl, rfl, rfl, rfl, rfl⟩
  · have hp : c.pos = A * hs := by omega
    have hT1 : turn (houseP hf ⟨0, 0, bitI A⟩).c (houseP hf ⟨0, 0, bitI A⟩).u (houseP hf ⟨0, 0, bitI A⟩).d A c.dir = -1 := by
      rw [p5]
      unfold turn way
      rw [hallb_dn, zA]
      simp
    have hm := tick_stop2 (ob := false) (s := ⟨0, 0, bitI A⟩) (f := A) hr p4 (by rw [hp]; exact LA.2.2.1) (by rw [hp]; exact LA.2.2.2) hT1 (.inr (by rw [hallb_dn, zA]))
    rw [hallb_dn, zA, zc, okA, if_neg (by decide)] at hm
    rw [hm] at hR
    refine ⟨_, _, hm, hR, rfl, rfl, by omega, .inr (.inr (.inr ?_))⟩
    dsimp only
    rw [if_pos rfl, if_pos rfl, if_pos rfl]
    refine ⟨hp, by omega, by omega, zero_keep, ?_, snoc_of [T] A⟩
    rw [show ((true && (true && (-1 : Int) == -1))) = true by rfl, bit_put okA]
    exact bit_clear
theorem ps_step (hT : T < hf) (hA : 1 ≤ A ∧ A < T) (h : PS hc hf hs hd T A i l c sc sd) : ∃ c' d', tickP hc hf hs hd c ⟨sc, 0, sd⟩ false = (c', d') ∧
    PS hc hf hs hd T A (i + 1) (if d'.op = true then snoc l d'.fl else l) c' (if d'.op = true then N (B sc &&& ~~~B d'.sc) else sc) (if d'.op = true then N (B sd &&& ~~~B d'.sd) else sd) := by
  obtain ⟨hr, hh, hrl, hi, hc4⟩ := h
  obtain ⟨hv, hpr, hdr', hdo, h5, h6, h7⟩ := right_iff.1 hr
  have v := valid_iff.1 hv
  have LT := level_mul hv (fl := T) (by omega) hT
  have LA := level_mul hv (fl := A) (by omega) (by omega)
  have L0 := level_mul hv (fl := 0) (by omega) (by omega)
  rw [Int.zero_mul] at L0
  have hAT : A * hs < T * hs := Int.mul_lt_mul_of_pos_right hA.2 (by omega)
  have hA1 : 1 * hs ≤ A * hs := Int.mul_le_mul_of_nonneg_right hA.1 (by omega)
  have okT : okf T = true := okf_iff.2 (by omega)
  have okA : okf A = true := okf_iff.2 (by omega)
  have zc : isb (houseP hf ⟨sc, 0, sd⟩).c = fun x => (isb sc x && decide (x < hf)) := funext fun x => house_c hv
  have zu : ∀ x, isb (houseP hf ⟨sc, 0, sd⟩).u x = false := fun x => by rw [house_u hv]; simp [isb_zero]
  have zd : isb (houseP hf ⟨sc, 0, sd⟩).d = fun x => (isb sd x && decide (x < hf) && decide (0 < x)) := funext fun x => house_d hv
  have hR := (tick_right2 (s := ⟨sc, 0, sd⟩) (ob := false) hr (.inl rfl)).1
  have kT : tickL c.door false = max (c.door - 1) 0 := by
    unfold tickL
    split
    · omega
    · split
      · omega
      · rw [if_neg (by decide)]; omega
  have kH : tickH c.door c.held false = 0 := by unfold tickH; rw [hh]; split <;> (try split) <;> rfl
  rcases hc4 with ⟨p1, p2, p3, p4, rfl, rfl, rfl⟩ | ⟨p1, p2, p3, p4, rfl, rfl, rfl⟩ | ⟨p1, p2, p3, p4, p5, rfl, rfl, rfl⟩ | ⟨p1, p2, p3, rfl, rfl, rfl⟩
  · simp only [bitI_bit okT] at zc
    simp only [bitI_bit okA] at zd
    have zanyT : anyb (houseP hf ⟨bitI T, 0, bitI A⟩).c (houseP hf ⟨bitI T, 0, bitI A⟩).u (houseP hf ⟨bitI T, 0, bitI A⟩).d T = true := by
      rw [anyb_or, zc]; simp [hT]
    have zanyA : anyb (houseP hf ⟨bitI T, 0, bitI A⟩).c (houseP hf ⟨bitI T, 0, bitI A⟩).u (houseP hf ⟨bitI T, 0, bitI A⟩).d A = true := by
      rw [anyb_or, zd]; simp; omega
    by_cases hlt : i < T * hs
    · have hm := tick_move (e := 1) (ob := false) (s := ⟨bitI T, 0, bitI A⟩) hr p3 hrl (.inl rfl) (by omega) (fun hl => by
        have hpf := level_floor hv hl
        generalize floor hc hf hs hd c.pos = f at *
        have hff : f < T := by
          have : f * hs < T * hs := by omega
          exact Int.lt_of_mul_lt_mul_right this (by omega)
        have htw : toward (houseP hf ⟨bitI T, 0, bitI A⟩).c (houseP hf ⟨bitI T, 0, bitI A⟩).u (houseP hf ⟨bitI T, 0, bitI A⟩).d f 1 = true := (toward_iff (.inl rfl)).2 ⟨T, by omega, zanyT⟩
        refine ⟨?_, by rw [zc]; simp; omega, by rw [hallb_up, zu]⟩
        rcases p4 with p4 | ⟨p4, p5⟩
        · rw [p4]; exact turn_keeps (by omega) htw
        · have hf0 : f = 0 := by
            have : f * hs = 0 * hs := by omega
            exact (mul_inj_iff (by omega)).1 this
          rw [p4]
          unfold turn
          rw [hallb_up, hallb_dn, zu, zd]
          simp only [beq_self_eq_true, Bool.not_true, Bool.false_and, Bool.false_eq_true, if_false]
          rw [hf0]
          simp
          rw [hf0] at htw
          generalize hz : houseP hf ⟨bitI T, 0, bitI A⟩ = z at *
          have hn := @near_range z.c z.u z.d 0
          have h1 : near z.c z.u z.d 0 ≠ 0 := fun h => by
            rw [toward_up, (near_zero.1 h).1] at htw; cases htw
          have h2 : near z.c z.u z.d 0 ≠ -1 := fun h => by
            obtain ⟨m, h3, h4⟩ := below_iff.1 (near_neg h)
            rw [← hz] at h4
            have := house_any_range hv h4
            omega
          omega) (fun hl => by
        rcases p4 with p4 | ⟨p4, p5⟩
        · exact p4
        · rw [p1, p5, L0.2.2.1] at hl; cases hl)
      rw [hm] at hR
      refine ⟨_, _, hm, hR, hh, rfl, by omega, .inl ?_⟩
      dsimp only
      exact ⟨by omega, by omega, rfl, .inl rfl, rfl, rfl, rfl⟩
    · have hp : c.pos = T * hs := by omega
      have hd1 : c.dir = 1 := by
        rcases p4 with p4 | ⟨p4, p5⟩
        · exact p4
        · omega
      have hT1 : turn (houseP hf ⟨bitI T, 0, bitI A⟩).c (houseP hf ⟨bitI T, 0, bitI A⟩).u (houseP hf ⟨bitI T, 0, bitI A⟩).d T c.dir = -1 := by
        rw [hd1]
        have t1 : toward (houseP hf ⟨bitI T, 0, bitI A⟩).c (houseP hf ⟨bitI T, 0, bitI A⟩).u (houseP hf ⟨bitI T, 0, bitI A⟩).d T 1 = false := by
          cases ht : toward (houseP hf ⟨bitI T, 0, bitI A⟩).c (houseP hf ⟨bitI T, 0, bitI A⟩).u (houseP hf ⟨bitI T, 0, bitI A⟩).d T 1
          · rfl
          · obtain ⟨x, hx, ha⟩ := (toward_iff (.inl rfl)).1 ht
            rw [anyb_or, zc, zd, zu] at ha
            simp at ha
            omega
        have t2 : toward (houseP hf ⟨bitI T, 0, bitI A⟩).c (houseP hf ⟨bitI T, 0, bitI A⟩).u (houseP hf ⟨bitI T, 0, bitI A⟩).d T (-1) = true := (toward_iff (.inr rfl)).2 ⟨A, by omega, zanyA⟩
        unfold turn way
        rw [t1, t2, hallb_up, zu]
        rfl
      have hm := tick_stop2 (ob := false) (s := ⟨bitI T, 0, bitI A⟩) (f := T) hr p3 (by rw [hp]; exact LT.2.2.1) (by rw [hp]; exact LT.2.2.2) hT1 (.inl (by rw [zc]; simp [hT]))
      have hc1 : isb (houseP hf ⟨bitI T, 0, bitI A⟩).c T = true := by rw [zc]; simp [hT]
      have hd0 : isb (houseP hf ⟨bitI T, 0, bitI A⟩).d T = false := by rw [zd]; simp; omega
      rw [hallb_dn, hd0, hc1, Bool.false_and, Bool.false_and, if_pos rfl] at hm
      rw [hm] at hR
      refine ⟨_, _, hm, hR, rfl, rfl, by omega, .inr (.inl ?_)⟩
      dsimp only
      rw [if_pos rfl, if_pos rfl, if_pos rfl]
      exact ⟨hp, by omega, by omega, rfl, bit_clear, bit_keep, snoc_of [] T⟩
  · by_cases hd0 : 0 < c.door
    · have hm := tick_door (s := ⟨0, 0, bitI A⟩) (ob := false) hr hd0
      rw [hm] at hR
      rw [kT, kH, p1] at hm hR
      refine ⟨_, _, hm, hR, rfl, hrl, by omega, .inr (.inl ?_)⟩
      dsimp only
      exact ⟨rfl, by omega, by omega, p4, rfl, rfl, rfl⟩
    · exact ps_step3 hT hA hr hh hrl hi (by omega) (by omega) (by omega) (by omega) p4
  · exact ps_step3 hT hA hr hh hrl hi p1 p2 p3 p4 p5
  · by_cases hd0 : 0 < c.door
    · have hm := tick_door (s := ⟨0, 0, 0⟩) (ob := false) hr hd0
      rw [hm] at hR
      rw [kT, kH, p1] at hm hR
      refine ⟨_, _, hm, hR, rfl, hrl, by omega, .inr (.inr (.inr ?_))⟩
      dsimp only
      exact ⟨rfl, by omega, by omega, rfl, rfl, rfl⟩
    · have hm := tick_empty (s := ⟨0, 0, 0⟩) (ob := false) hr (by omega) (by rw [p1]; exact LA.2.2.1) (fun x => by rw [house_empty]; exact any_zero x)
      rw [hm] at hR
      rw [p1, hh] at hm hR
      refine ⟨_, _, hm, hR, rfl, rfl, by omega, .inr (.inr (.inr ?_))⟩
      dsimp only
      exact ⟨rfl, by omega, by omega, rfl, rfl, rfl⟩
end
section
variable {hc hf hs hd : Int} {c : CarP} {s : StP}
theorem house_c' (hv : valid hc hf hs hd = true) {x : Int} (h : isb (houseP hf s).c x = true) : isb s.c x = true := by
  rw [house_c hv] at h
  revert h
  cases isb s.c x <;> simp
theorem house_hall (hv : valid hc hf hs hd = true) {x e : Int} (h : hallb (houseP hf s).u (houseP hf s).d x e = true) : hallb s.u s.d x e = true := by
  rcases hall_isb.1 h with ⟨rfl, h'⟩ | ⟨rfl, h'⟩
  · rw [house_u hv] at h'
    rw [hallb_up]
    revert h'
    cases isb s.u x <;> simp
  · rw [house_d hv] at h'
    rw [hallb_dn]
    revert h'
    cases isb s.d x <;> simp
/-- What a tick does: nothing, or it opens. -/
theorem tick_deed (hr : carRight hc hf hs hd c = true) :
    ((tickP hc hf hs hd c s false).2.op = false ∧ (tickP hc hf hs hd c s false).2.sc = 0 ∧ (tickP hc hf hs hd c s false).2.su = 0 ∧ (tickP hc hf hs hd c s false).2.sd = 0 ∧ (tickP hc hf hs hd c s false).2.lan = 0) ∨
    ∃ f T, (0 ≤ f ∧ f < hf) ∧ (-1 ≤ T ∧ T ≤ 1) ∧ (isb (houseP hf s).c f = true ∨ hallb (houseP hf s).u (houseP hf s).d f T = true) ∧
      tickP hc hf hs hd c s false = (⟨c.pos, T, hd, false, 0⟩, ⟨true, false, f, T, 0, if isb (houseP hf s).c f = true then N (1#64 <<< f.toNat) else 0,
      put1 0 f (hallb (houseP hf s).u (houseP hf s).d f T && (okf f && T == 1)), put1 0 f (hallb (houseP hf s).u (houseP hf s).d f T && (okf f && T == -1))⟩) := by
  obtain ⟨hv, hp, hdr, hdo, h5, h6, h7⟩ := right_iff.1 hr
  have v := valid_iff.1 hv
  by_cases hd0 : 0 < c.door
  · left
    rw [tick_door hr hd0]
    exact ⟨rfl, rfl, rfl, rfl, rfl⟩
  · by_cases hl : level hc hf hs hd c.pos = true
    · have hfo := floor_ok (p := c.pos) hv
      have hok := okP_floor (p := c.pos) hv hdr
      cases hst : stopP (houseP hf s).c (houseP hf s).u (houseP hf s).d (floor hc hf hs hd c.pos) c.dir with
      | true =>
        right
        have hst' : isb (houseP hf s).c (floor hc hf hs hd c.pos) = true ∨ hallb (houseP hf s).u (houseP hf s).d (floor hc hf hs hd c.pos) (turn (houseP hf s).c (houseP hf s).u (houseP hf s).d (floor hc hf hs hd c.pos) c.dir) = true := by
          unfold stopP at hst
          rw [hok] at hst
          simpa using hst
        refine ⟨floor hc hf hs hd c.pos, _, ?_, turn_range hdr, hst', tick_stop2 hr (by omega) hl rfl rfl hst'⟩
        rcases hst' with h | h
        · have := house_any_range hv (any_iff.2 (.inl h)); exact this
        · rcases hall_isb.1 h with ⟨_, h⟩ | ⟨_, h⟩
          · exact house_any_range hv (any_iff.2 (.inr (.inl (by rw [hallb_up]; exact h))))
          · exact house_any_range hv (any_iff.2 (.inr (.inr (by rw [hallb_dn]; exact h))))
      | false =>
        left
        rw [tickP_yes hr, stepP_lvl hd0 hl]
        cases hgo : (goIs hc hf hs hd c.pos (moveP (houseP hf s).c (houseP hf s).u (houseP hf s).d (floor hc hf hs hd c.pos) c.dir) && !(moveP (houseP hf s).c (houseP hf s).u (houseP hf s).d (floor hc hf hs hd c.pos) c.dir == 0)) with
        | true => rw [levelP_go hst hgo]; exact ⟨rfl, rfl, rfl, rfl, rfl⟩
        | false => rw [levelP_stay hst hgo]; exact ⟨rfl, rfl, rfl, rfl, rfl⟩
    · left
      have hl : level hc hf hs hd c.pos = false := by simpa using hl
      rw [tickP_yes hr, stepP_btw hd0 hl]
      cases hgo : goIs hc hf hs hd c.pos (betweenDir c) with
      | false => rw [betweenP_no rfl hgo]; exact ⟨rfl, rfl, rfl, rfl, rfl⟩
      | true =>
        cases h2 : (c.rl && level hc hf hs hd (c.pos + clampM (betweenDir c))) with
        | true => rw [betweenP_lv rfl hgo h2]; exact ⟨rfl, rfl, rfl, rfl, rfl⟩
        | false => rw [betweenP_mv rfl hgo h2]; exact ⟨rfl, rfl, rfl, rfl, rfl⟩
theorem put1_bit0 {f x : Int} {b : Bool} (h : okf f = true) : isb (put1 0 f b) x = (b && decide (x = f)) := by
  cases b
  · unfold put1; rw [if_neg (by decide), isb_zero]; rfl
  · rw [bit_put h, bitI_bit h]; rfl
theorem floL_one {a b d f : Int} (h0 : 0 ≤ f) (h1 : f < 64) (h : ∀ x, anyb a b d x = decide (x = f)) : (floL a b d).len = 1 := by
  rw [floL_len]
  unfold flo
  rw [← List.countP_eq_length_filter, List.countP_map]
  have e : (fun i : Nat => anyb a b d (Int.ofNat i)) = fun i : Nat => decide (i = f.toNat) := funext fun i => by
    rw [h]
    apply decide_eq_decide.2
    constructor
    · intro e; rw [← e]; rfl
    · intro e; rw [e]; show ((f.toNat : Nat) : Int) = f; omega
  have : (anyb a b d ∘ Int.ofNat) = fun i : Nat => decide (i = f.toNat) := e
  rw [this]
  have key : ∀ n : Nat, (List.range n).countP (fun i => decide (i = f.toNat)) = if f.toNat < n then 1 else 0 := by
    intro n
    induction n with
    | zero => rfl
    | succ n ih =>
      rw [List.range_succ, List.countP_append, ih]
      simp only [List.countP_cons, List.countP_nil, decide_eq_true_eq]
      split <;> split <;> split <;> omega
  rw [key, if_pos (by omega)]
/-- What a car that opens answers. -/
theorem deed_stop {f T : Int} (hv : valid hc hf hs hd = true) (hf' : 0 ≤ f ∧ f < hf) (hT : -1 ≤ T ∧ T ≤ 1) (hst : isb (houseP hf s).c f = true ∨ hallb (houseP hf s).u (houseP hf s).d f T = true) {sc su sd : Int}
    (h1 : sc = if isb (houseP hf s).c f = true then N (1#64 <<< f.toNat) else 0) (h2 : su = put1 0 f (hallb (houseP hf s).u (houseP hf s).d f T && (okf f && T == 1))) (h3 : sd = put1 0 f (hallb (houseP hf s).u (houseP hf s).d f T && (okf f && T == -1))) :
    (isb s.c f = true ∨ (T ≠ 0 ∧ hallb s.u s.d f T = true)) ∧ isb sc f = isb s.c f ∧ (floL sc su sd).len = 1 ∧ hallb su sd f (-T) = false := by
  have v := valid_iff.1 hv
  have hok : okf f = true := okf_iff.2 (by omega)
  have hcc : isb (houseP hf s).c f = isb s.c f := by rw [house_c hv, decide_eq_true hf'.2, Bool.and_true]
  have bc : ∀ x, isb sc x = (isb s.c f && decide (x = f)) := fun x => by
    rw [h1, hcc]
    cases isb s.c f
    · rw [if_neg (by decide), isb_zero]; rfl
    · rw [if_pos rfl]; exact bitI_bit hok
  have bu : ∀ x, isb su x = (hallb (houseP hf s).u (houseP hf s).d f T && (okf f && T == 1) && decide (x = f)) := fun x => by rw [h2, put1_bit0 hok]
  have bd : ∀ x, isb sd x = (hallb (houseP hf s).u (houseP hf s).d f T && (okf f && T == -1) && decide (x = f)) := fun x => by rw [h3, put1_bit0 hok]
  have hT3 : T = 1 ∨ T = -1 ∨ T = 0 := by omega
  refine ⟨?_, by rw [bc]; simp, floL_one (f := f) hf'.1 (by omega) (fun x => ?_), ?_⟩
  · rcases hst with h | h
    · exact .inl (house_c' hv h)
    · refine .inr ⟨fun e => ?_, house_hall hv h⟩
      rw [e, hallb_zero] at h; cases h
  · rw [anyb_or, bc, bu, bd, hok]
    rw [hcc] at hst
    rcases hst with h | h
    · rw [h]; cases decide (x = f) <;> simp
    · rw [h]
      rcases hT3 with rfl | rfl | rfl
      · cases decide (x = f) <;> simp
      · cases decide (x = f) <;> simp
      · rw [hallb_zero] at h; cases h
  · rcases hT3 with rfl | rfl | rfl
    · rw [hallb_dn, bd]; simp
    · rw [show -(-1 : Int) = 1 by rfl, hallb_up, bu]; simp
    · exact hallb_zero
end

def C_CarStops : Ctr := ⟨[.agg [.int .i64, .int .i64, .int .i64, .int .i64], .one (.int .i64), .one (.lst [.int .u64, .int .u64, .int .u64])], [.one (.bool)],
  fun | [.i hc, .i hf, .i hs, .i hd, .i fr, .l l] => (-9223372036854775808 ≤ hc ∧ hc < 9223372036854775808) ∧ (-9223372036854775808 ≤ hf ∧ hf < 9223372036854775808) ∧ (-9223372036854775808 ≤ hs ∧ hs < 9223372036854775808) ∧ (-9223372036854775808 ≤ hd ∧ hd < 9223372036854775808) ∧ (-9223372036854775808 ≤ fr ∧ fr < 9223372036854775808) ∧ True | _ => False,
  fun | [.i _, .i _, .i _, .i _, .i _, .l _] => [.b (true)] | _ => []⟩
theorem CarStops_pre {ls : List Leaf} (h_ : C_CarStops.pre ls) : ∃ (hc : Int) (hf : Int) (hs : Int) (hd : Int) (fr : Int) (l : LV), ls = [.i hc, .i hf, .i hs, .i hd, .i fr, .l l] ∧ ((-9223372036854775808 ≤ hc ∧ hc < 9223372036854775808) ∧ (-9223372036854775808 ≤ hf ∧ hf < 9223372036854775808) ∧ (-9223372036854775808 ≤ hs ∧ hs < 9223372036854775808) ∧ (-9223372036854775808 ≤ hd ∧ hd < 9223372036854775808) ∧ (-9223372036854775808 ≤ fr ∧ fr < 9223372036854775808) ∧ True) := by
  unfold C_CarStops at h_; dsimp only at h_; split at h_
  · exact ⟨_, _, _, _, _, _, rfl, h_⟩
  · exact h_.elim
theorem CarStops_mk {hc : Int} {hf : Int} {hs : Int} {hd : Int} {fr : Int} {l : LV} (h_ : (-9223372036854775808 ≤ hc ∧ hc < 9223372036854775808) ∧ (-9223372036854775808 ≤ hf ∧ hf < 9223372036854775808) ∧ (-9223372036854775808 ≤ hs ∧ hs < 9223372036854775808) ∧ (-9223372036854775808 ≤ hd ∧ hd < 9223372036854775808) ∧ (-9223372036854775808 ≤ fr ∧ fr < 9223372036854775808) ∧ True) : C_CarStops.pre [.i hc, .i hf, .i hs, .i hd, .i fr, .l l] := h_
theorem CarStops_res {hc : Int} {hf : Int} {hs : Int} {hd : Int} {fr : Int} {l : LV} {rs_ : List Leaf} (h_ : rs_ = C_CarStops.fn [.i hc, .i hf, .i hs, .i hd, .i fr, .l l]) : ∃ (q0 : Bool), q0 = (true) ∧ rs_ = [.b q0] := ⟨_, rfl, h_⟩
def inv_CarStops_10 (hc : Int) (hf : Int) (hs : Int) (hd : Int) (l : LV) (i : Int) (p : Int) (d : Int) (o : Int) (r : Bool) (h : Int) : Prop := 0 ≤ i ∧ i ≤ (l.len : Int) ∧ carRight hc hf hs hd ⟨p, d, o, r, h⟩ = true
def meas_CarStops_10 (hc : Int) (hf : Int) (hs : Int) (hd : Int) (l : LV) (i : Int) (p : Int) (d : Int) (o : Int) (r : Bool) (h : Int) : Nat := ((l.len : Int) - i).toNat
def phi_CarStops : Fm := (.call 18 [] [] 6 (.and (.imp (.v 6) .false (.ret [(.b (.t .false))])) (.imp (.v 6) .true (.call 19 [] [(.i (.v 0)), (.i (.v 1)), (.i (.v 2)), (.i (.v 3))] 7 (.and (.imp (.ite (.not (.v 7)) (.t .true) (.lt (.i 60) (.len 5))) .true (.ret [(.b (.v 6))])) (.imp (.ite (.not (.v 7)) (.t .true) (.lt (.i 60) (.len 5))) .false (.call 23 [] [(.i (.v 0)), (.i (.v 1)), (.i (.v 2)), (.i (.v 3))] 8 (.call 22 [] [(.i (.v 4)), (.i (.wrap .i64 (.add (.v 8) (.i 1))))] 9 (.call 21 [] [(.i (.v 0)), (.i (.v 1)), (.i (.v 2)), (.i (.v 3)), (.i (.v 9))] 10 (.and (.imp (.v 15) .false (.ret [(.b (.t .false))])) (.imp (.v 15) .true (.loop 10 16 [0, 1, 2, 3, 5] [(.i (.i 0)), (.i (.v 10)), (.i (.v 11)), (.i (.v 12)), (.b (.v 13)), (.i (.v 14))] [.i, .i, .i, .i, .b, .i] (.and (.imp (.lt (.v 16) (.len 5)) .true (.ob [] (.le (.i 0) (.v 16)) (.ob [] (.le (.i 0) (.v 16)) (.call 20 [] [(.i (.v 0)), (.i (.v 1)), (.i (.v 2)), (.i (.v 3)), (.i (.v 17)), (.i (.v 18)), (.i (.v 19)), (.b (.v 20)), (.i (.v 21)), (.i (.gi 5 0 (.v 16))), (.i (.gi 5 1 (.v 16))), (.i (.gi 5 2 (.v 16))), (.b (.t .false))] 22 (.and (.imp (.v 27) .true (.ob [] (.le (.i 0) (.v 16)) (.call 30 [] [(.i (.gi 5 0 (.v 16))), (.i (.gi 5 1 (.v 16))), (.i (.gi 5 2 (.v 16))), (.i (.v 29))] 35 (.call 31 [((.not (.eq (.v 30) (.i 0))), .true)] [(.i (.gi 5 0 (.v 16))), (.i (.gi 5 1 (.v 16))), (.i (.gi 5 2 (.v 16))), (.i (.v 29)), (.i (.v 30))] 36 (.call 30 [((.ite (.not (.v 35)) (.not (.ite (.not (.eq (.v 30) (.i 0))) (.v 36) (.t .false))) (.t .false)), .false)] [(.i (.v 32)), (.i (.v 33)), (.i (.v 34)), (.i (.v 29))] 37 (.and (.imp (.ite (.ite (.not (.v 35)) (.not (.ite (.not (.eq (.v 30) (.i 0))) (.v 36) (.t .false))) (.t .false)) (.t .true) (.not (.beq (.v 37) (.v 35)))) .false (.call 32 [] [(.i (.v 32)), (.i (.v 33)), (.i (.v 34))] 38 (.call 31 [((.not (.eq (.len 38) (.i 1))), .false)] [(.i (.v 32)), (.i (.v 33)), (.i (.v 34)), (.i (.v 29)), (.i (.wrap .i64 (.sub (.i 0) (.v 30))))] 39 (.and (.imp (.ite (.ite (.not (.eq (.len 38) (.i 1))) (.t .true) (.ite (.v 39) (.not (.eq (.v 30) (.i 0))) (.t .false))) (.t .true) (.not (.eq (.v 23) (.v 30)))) .true (.ret [(.b (.t .false))])) (.imp (.ite (.ite (.not (.eq (.len 38) (.i 1))) (.t .true) (.ite (.v 39) (.not (.eq (.v 30) (.i 0))) (.t .false))) (.t .true) (.not (.eq (.v 23) (.v 30)))) .false (.back 10 16 22 [0, 1, 2, 3, 5] [(.i (.wrap .i64 (.add (.v 16) (.i 1)))), (.i (.v 22)), (.i (.v 23)), (.i (.v 24)), (.b (.v 25)), (.i (.v 26))])))))) (.imp (.ite (.ite (.not (.v 35)) (.not (.ite (.not (.eq (.v 30) (.i 0))) (.v 36) (.t .false))) (.t .false)) (.t .true) (.not (.beq (.v 37) (.v 35)))) .true (.ret [(.b (.t .false))])))))))) (.imp (.v 27) .false (.and (.imp (.ite (.ite (.ite (.not (.eq (.v 32) (.i 0))) (.t .true) (.not (.eq (.v 33) (.i 0)))) (.t .true) (.not (.eq (.v 34) (.i 0)))) (.t .true) (.not (.eq (.v 30) (.i 0)))) .true (.ret [(.b (.t .false))])) (.imp (.ite (.ite (.ite (.not (.eq (.v 32) (.i 0))) (.t .true) (.not (.eq (.v 33) (.i 0)))) (.t .true) (.not (.eq (.v 34) (.i 0)))) (.t .true) (.not (.eq (.v 30) (.i 0)))) .false (.back 10 16 22 [0, 1, 2, 3, 5] [(.i (.wrap .i64 (.add (.v 16) (.i 1)))), (.i (.v 22)), (.i (.v 23)), (.i (.v 24)), (.b (.v 25)), (.i (.v 26))]))))))))) (.imp (.lt (.v 16) (.len 5)) .false (.ret [(.b (.v 6))])))))))))))))))
def tbl_CarStops : List (Nat × Ctr) := [(18, C_first16), (19, C_valid), (20, C_ctick), (21, C_cstart), (22, C_number), (23, C_top), (30, C_at), (31, C_hall), (32, C_floors)]
def inv_CarStops : List Leaf → Nat → List Leaf → Prop := fun _ key xs => match key, xs with
  | 10, [.i hc, .i hf, .i hs, .i hd, .l l, .i i, .i p, .i d, .i o, .b r, .i h] => inv_CarStops_10 hc hf hs hd l i p d o r h
  | _, _ => False
def meas_CarStops : List Leaf → Nat → List Leaf → Nat := fun _ key xs => match key, xs with
  | 10, [.i hc, .i hf, .i hs, .i hd, .l l, .i i, .i p, .i d, .i o, .b r, .i h] => meas_CarStops_10 hc hf hs hd l i p d o r h
  | _, _ => 0
theorem vc_CarStops : vcg Tryd.prog (sigT tbl_CarStops) [⟨10, [6, 11, 12, 13, 14, 39, 40, 41, 42, 43, 44, 45, 46, 47, 48, 49, 50, 51, 52, 53, 54, 55, 56, 57, 58, 59, 60, 61, 62, 63, 64, 65, 66, 67, 68, 69, 70, 71, 72, 73, 74, 75, 76, 77, 78, 79, 80, 81, 82, 83, 84, 85, 86, 87, 88, 89, 90, 91, 92, 93, 94, 95, 96, 97, 98, 99, 100, 101, 102, 103, 104, 105, 106, 107, 108, 109, 110, 111, 112, 113, 114, 115, 116, 117, 118, 119, 120, 121, 122, 123, 124, 125, 126, 127, 128, 129, 130, 131, 132, 133, 134, 135, 136, 137, 138, 139, 140, 141, 142, 143, 144], [10], [(1, 0), (1, 1), (1, 2), (1, 3), (1, 4)], [0, 1, 2, 3, 5], some (3, .i64)⟩] Tryd.f10 C_CarStops.params C_CarStops.res = some phi_CarStops := by kernel_rfl

end Go.Proofs.YtchjajnhbipkmaaDoor
