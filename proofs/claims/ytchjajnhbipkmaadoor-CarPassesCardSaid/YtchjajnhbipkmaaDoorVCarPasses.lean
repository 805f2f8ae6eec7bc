import Derived.Test.YtchjajnhbipkmaaDoorE
namespace Go.Proofs.YtchjajnhbipkmaaDoor
open Go.Vg
set_option linter.unusedVariables false
set_option linter.unusedSimpArgs false
open Go
section
variable {hc hf hs hd T A i : Int} {c : CarP} {s : StP} {l : LV} {sc sd : Int}
theorem tick_move {e : Int} {ob : Bool} (hr : carRight hc hf hs hd c = true) (h0 : c.door = 0) (hrl : c.rl = false) (he : e = 1 ∨ e = -1) (hrg : 0 ≤ c.pos + e ∧ c.pos + e ≤ top hc hf hs hd)
    (hlv : level hc hf hs hd c.pos = true → turn (houseP hf s).c (houseP hf s).u (houseP hf s).d (floor hc hf hs hd c.pos) c.dir = e ∧ isb (houseP hf s).c (floor hc hf hs hd c.pos) = false ∧ hallb (houseP hf s).u (houseP hf s).d (floor hc hf hs hd c.pos) e = false)
    (hbt : level hc hf hs hd c.pos = false → c.dir = e) :
    tickP hc hf hs hd c s ob = (⟨c.pos + e, e, 0, false, c.held⟩, ⟨false, false, floor hc hf hs hd (c.pos + e), 0, e, 0, 0, 0⟩) := by
  obtain ⟨hv, hpr, hdr', hdo, h5, h6, h7⟩ := right_iff.1 hr
  by_cases hl : level hc hf hs hd c.pos = true
  · obtain ⟨hT, h1, h2⟩ := hlv hl
    have hok := okP_floor (p := c.pos) hv hdr'
    have hst : stopP (houseP hf s).c (houseP hf s).u (houseP hf s).d (floor hc hf hs hd c.pos) c.dir = false := by
      unfold stopP
      rw [hok, hT, h1, h2]
      rfl
    have hdP : dirP (houseP hf s).c (houseP hf s).u (houseP hf s).d (floor hc hf hs hd c.pos) c.dir = e := by
      unfold dirP; rw [hok, hT]; rfl
    have hmP : moveP (houseP hf s).c (houseP hf s).u (houseP hf s).d (floor hc hf hs hd c.pos) c.dir = e := by
      unfold moveP; rw [hok, hst, hT]; rfl
    have hcl : clampM e = e := by unfold clampM; omega
    have hgo : goIs hc hf hs hd c.pos e = true := by
      unfold goIs
      rw [hv, hcl, between_iff.2 (by omega), between_iff.2 (by omega)]
      rfl
    rw [tickP_yes hr, stepP_lvl (by omega) hl, levelP_go hst (by rw [hmP, hgo]; rcases he with rfl | rfl <;> rfl), hdP, hmP, h0]
  · have hl : level hc hf hs hd c.pos = false := by simpa using hl
    rw [tick_between hr h0 hrl hl, hbt hl]
theorem tick_stop2 {f e : Int} {ob : Bool} (hr : carRight hc hf hs hd c = true) (h0 : c.door = 0) (hl : level hc hf hs hd c.pos = true) (hfl : floor hc hf hs hd c.pos = f)
    (hT : turn (houseP hf s).c (houseP hf s).u (houseP hf s).d f c.dir = e) (hst : isb (houseP hf s).c f = true ∨ hallb (houseP hf s).u (houseP hf s).d f e = true) :
    tickP hc hf hs hd c s ob = (⟨c.pos, e, hd, false, 0⟩, ⟨true, false, f, e, 0, if isb (houseP hf s).c f = true then N (1#64 <<< f.toNat) else 0,
      put1 0 f (hallb (houseP hf s).u (houseP hf s).d f e && (okf f && e == 1)), put1 0 f (hallb (houseP hf s).u (houseP hf s).d f e && (okf f && e == -1))⟩) := by
  obtain ⟨hv, hpr, hdr', hdo, h5, h6, h7⟩ := right_iff.1 hr
  have hok := okP_floor (p := c.pos) hv hdr'
  have hsp : stopP (houseP hf s).c (houseP hf s).u (houseP hf s).d (floor hc hf hs hd c.pos) c.dir = true := by
    unfold stopP
    rw [hok, hfl, hT]
    rcases hst with h | h <;> rw [h] <;> simp
  have hdP : dirP (houseP hf s).c (houseP hf s).u (houseP hf s).d (floor hc hf hs hd c.pos) c.dir = e := by
    unfold dirP; rw [hok, hfl, hT]; rfl
  rw [tickP_yes hr, stepP_lvl (by omega) hl, levelP_stop hsp, hdP, hfl, openL_eq hv]
def bitI (f : Int) : Int := N (1#64 <<< f.toNat)
theorem bitI_bit {f x : Int} (h : okf f = true) : isb (bitI f) x = decide (x = f) := isb_one h
theorem bit_put {f : Int} (h : okf f = true) : put1 0 f true = bitI f := by
  unfold put1 oneB bitI
  rw [if_pos rfl, B_zero, BitVec.zero_or, if_pos h]
theorem bit_clear {f : Int} : N (B (bitI f) &&& ~~~B (bitI f)) = 0 := by
  rw [BitVec.and_not_self]; rfl
theorem bit_keep {f : Int} : N (B (bitI f) &&& ~~~B 0) = bitI f := by
  rw [B_zero, BitVec.not_zero, BitVec.and_allOnes]; unfold bitI; rw [B_N]
theorem zero_keep {x : Int} : N (B 0 &&& ~~~B x) = 0 := by
  rw [B_zero, BitVec.zero_and]; rfl
def PS (hc hf hs hd T A i : Int) (l : LV) (c : CarP) (sc sd : Int) : Prop :=
  carRight hc hf hs hd c = true ∧ c.held = 0 ∧ c.rl = false ∧ 0 ≤ i ∧
  ((c.pos = i ∧ i ≤ T * hs ∧ c.door = 0 ∧ (c.dir = 1 ∨ c.dir = 0 ∧ i = 0) ∧ sc = bitI T ∧ sd = bitI A ∧ l = lvOf []) ∨
   (c.pos = T * hs ∧ T * hs < i ∧ c.door = hd - (i - (T * hs + 1)) ∧ c.dir = -1 ∧ sc = 0 ∧ sd = bitI A ∧ l = lvOf [T]) ∨
   (c.pos = T * hs - (i - (T * hs + 1 + hd)) ∧ A * hs ≤ c.pos ∧ c.pos ≤ T * hs ∧ c.door = 0 ∧ c.dir = -1 ∧ sc = 0 ∧ sd = bitI A ∧ l = lvOf [T]) ∨
   (c.pos = A * hs ∧ T * hs + 1 + hd + (T * hs - A * hs) + 1 ≤ i ∧ c.door = max (hd - (i - (T * hs + 1 + hd + (T * hs - A * hs) + 1))) 0 ∧ sc = 0 ∧ sd = 0 ∧ l = lvOf [T, A]))
theorem ps_step3 (hT : T < hf) (hA : 1 ≤ A ∧ A < T) (hr : carRight hc hf hs hd c = true) (hh : c.held = 0) (hrl : c.rl = false) (hi : 0 ≤ i) (p1 : c.pos = T * hs - (i - (T * hs + 1 + hd))) (p2 : A * hs ≤ c.pos) (p3 : c.pos ≤ T * hs) (p4 : c.door = 0) (p5 : c.dir = -1) :
    ∃ c' d', tickP hc hf hs hd c ⟨0, 0, bitI A⟩ false = (c', d') ∧
    PS hc hf hs hd T A (i + 1) (if d'.op = true then snoc (lvOf [T]) d'.fl else lvOf [T]) c' (if d'.op = true then N (B 0 &&& ~~~B d'.sc) else 0) (if d'.op = true then N (B (bitI A) &&& ~~~B d'.sd) else bitI A) := by
  obtain ⟨hv, hpr, hdr', hdo, h5, h6, h7⟩ := right_iff.1 hr
  have v := valid_iff.1 hv
  have LT := level_mul hv (fl := T) (by omega) hT
  have LA := level_mul hv (fl := A) (by omega) (by omega)
  have hAT : A * hs < T * hs := Int.mul_lt_mul_of_pos_right hA.2 (by omega)
  have hA1 : 1 * hs ≤ A * hs := Int.mul_le_mul_of_nonneg_right hA.1 (by omega)
  have okA : okf A = true := okf_iff.2 (by omega)
  have zc : ∀ x, isb (houseP hf ⟨0, 0, bitI A⟩).c x = false := fun x => by rw [house_c hv]; simp [isb_zero]
  have zd : ∀ x, isb (houseP hf ⟨0, 0, bitI A⟩).d x = (decide (x = A) && decide (x < hf) && decide (0 < x)) := fun x => by rw [house_d hv, bitI_bit okA]
  have zA : isb (houseP hf ⟨0, 0, bitI A⟩).d A = true := by rw [zd]; simp; omega
  have zanyA : anyb (houseP hf ⟨0, 0, bitI A⟩).c (houseP hf ⟨0, 0, bitI A⟩).u (houseP hf ⟨0, 0, bitI A⟩).d A = true := by
    rw [anyb_or, zA]; simp
  have hR := (tick_right2 (s := ⟨0, 0, bitI A⟩) (ob := false) hr (.inl rfl)).1
  by_cases hlt : A * hs < c.pos
  · have hm := tick_move (e := -1) (ob := false) (s := ⟨0, 0, bitI A⟩) hr p4 hrl (.inr rfl) (by omega) (fun hl => by
      have hpf := level_floor hv hl
      generalize floor hc hf hs hd c.pos = f at *
      have hff : A < f := by
        have : A * hs < f * hs := by omega
        exact Int.lt_of_mul_lt_mul_right this (by omega)
      have htw : toward (houseP hf ⟨0, 0, bitI A⟩).c (houseP hf ⟨0, 0, bitI A⟩).u (houseP hf ⟨0, 0, bitI A⟩).d f (-1) = true := (toward_iff (.inr rfl)).2 ⟨A, by omega, zanyA⟩
      refine ⟨by rw [p5]; exact turn_keeps (by omega) htw, zc _, ?_⟩
      rw [hallb_dn, zd]; simp; omega) (fun _ => p5)
    rw [hm] at hR
    refine ⟨_, _, hm, hR, hh, rfl, by omega, .inr (.inr (.inl ?_))⟩
    dsimp only
    exact ⟨by omega, by omega, by omega, rfl, rfl, rfl, rfl, rfl⟩
  · have hp : c.pos = A * hs := by omega
    have hT1 : turn (houseP hf ⟨0, 0, bitI A⟩).c (houseP hf ⟨0, 0, bitI A⟩).u (houseP hf ⟨0, 0, bitI A⟩).d A c.dir = -1 := by
      rw [p5]
      unfold turn way
      rw [hallb_dn, zA]
      simp
    have hm := tick_stop2 (ob := false) (s := ⟨0, 0, bitI A⟩) (f := A) hr p4 (by rw [hp]; exact LA.2.2.1) (by rw [hp]; exact LA.2.2.2) hT1 (.inr (by rw [hallb_dn, zA]))
    rw [hallb_dn, zA, zc, okA, if_neg (by decide)] at hm
    rw [hm] at hR
    refine ⟨_, _, hm, hR, rfl, rfl, by omega, .inr (.inr (.inr ?_))⟩
    dsimp only
    rw [if_pos rfl, if_pos rfl, if_pos rfl]
    refine ⟨hp, by omega, by omega, zero_keep, ?_, snoc_of [T] A⟩
    rw [show ((true && (true && (-1 : Int) == -1))) = true by rfl, bit_put okA]
    exact bit_clear
theorem ps_step (hT : T < hf) (hA : 1 ≤ A ∧ A < T) (h : PS hc hf hs hd T A i l c sc sd) : ∃ c' d', tickP hc hf hs hd c ⟨sc, 0, sd⟩ false = (c', d') ∧
    PS hc hf hs hd T A (i + 1) (if d'.op = true then snoc l d'.fl else l) c' (if d'.op = true then N (B sc &&& ~~~B d'.sc) else sc) (if d'.op = true then N (B sd &&& ~~~B d'.sd) else sd) := by
  obtain ⟨hr, hh, hrl, hi, hc4⟩ := h
  obtain ⟨hv, hpr, hdr', hdo, h5, h6, h7⟩ := right_iff.1 hr
  have v := valid_iff.1 hv
  have LT := level_mul hv (fl := T) (by omega) hT
  have LA := level_mul hv (fl := A) (by omega) (by omega)
  have L0 := level_mul hv (fl := 0) (by omega) (by omega)
  rw [Int.zero_mul] at L0
  have hAT : A * hs < T * hs := Int.mul_lt_mul_of_pos_right hA.2 (by omega)
  have hA1 : 1 * hs ≤ A * hs := Int.mul_le_mul_of_nonneg_right hA.1 (by omega)
  have okT : okf T = true := okf_iff.2 (by omega)
  have okA : okf A = true := okf_iff.2 (by omega)
  have zc : isb (houseP hf ⟨sc, 0, sd⟩).c = fun x => (isb sc x && decide (x < hf)) := funext fun x => house_c hv
  have zu : ∀ x, isb (houseP hf ⟨sc, 0, sd⟩).u x = false := fun x => by rw [house_u hv]; simp [isb_zero]
  have zd : isb (houseP hf ⟨sc, 0, sd⟩).d = fun x => (isb sd x && decide (x < hf) && decide (0 < x)) := funext fun x => house_d hv
  have hR := (tick_right2 (s := ⟨sc, 0, sd⟩) (ob := false) hr (.inl rfl)).1
  have kT : tickL c.door false = max (c.door - 1) 0 := by
    unfold tickL
    split
    · omega
    · split
      · omega
      · rw [if_neg (by decide)]; omega
  have kH : tickH c.door c.held false = 0 := by unfold tickH; rw [hh]; split <;> (try split) <;> rfl
  rcases hc4 with ⟨p1, p2, p3, p4, rfl, rfl, rfl⟩ | ⟨p1, p2, p3, p4, rfl, rfl, rfl⟩ | ⟨p1, p2, p3, p4, p5, rfl, rfl, rfl⟩ | ⟨p1, p2, p3, rfl, rfl, rfl⟩
  · simp only [bitI_bit okT] at zc
    simp only [bitI_bit okA] at zd
    have zanyT : anyb (houseP hf ⟨bitI T, 0, bitI A⟩).c (houseP hf ⟨bitI T, 0, bitI A⟩).u (houseP hf ⟨bitI T, 0, bitI A⟩).d T = true := by
      rw [anyb_or, zc]; simp [hT]
    have zanyA : anyb (houseP hf ⟨bitI T, 0, bitI A⟩).c (houseP hf ⟨bitI T, 0, bitI A⟩).u (houseP hf ⟨bitI T, 0, bitI A⟩).d A = true := by
      rw [anyb_or, zd]; simp; omega
    by_cases hlt : i < T * hs
    · have hm := tick_move (e := 1) (ob := false) (s := ⟨bitI T, 0, bitI A⟩) hr p3 hrl (.inl rfl) (by omega) (fun hl => by
        have hpf := level_floor hv hl
        generalize floor hc hf hs hd c.pos = f at *
        have hff : f < T := by
          have : f * hs < T * hs := by omega
          exact Int.lt_of_mul_lt_mul_right this (by omega)
        have htw : toward (houseP hf ⟨bitI T, 0, bitI A⟩).c (houseP hf ⟨bitI T, 0, bitI A⟩).u (houseP hf ⟨bitI T, 0, bitI A⟩).d f 1 = true := (toward_iff (.inl rfl)).2 ⟨T, by omega, zanyT⟩
        refine ⟨?_, by rw [zc]; simp; omega, by rw [hallb_up, zu]⟩
        rcases p4 with p4 | ⟨p4, p5⟩
        · rw [p4]; exact turn_keeps (by omega) htw
        · have hf0 : f = 0 := by
            have : f * hs = 0 * hs := by omega
            exact (mul_inj_iff (by omega)).1 this
          rw [p4]
          unfold turn
          rw [hallb_up, hallb_dn, zu, zd]
          simp only [beq_self_eq_true, Bool.not_true, Bool.false_and, Bool.false_eq_true, if_false]
          rw [hf0]
          simp
          rw [hf0] at htw
          generalize hz : houseP hf ⟨bitI T, 0, bitI A⟩ = z at *
          have hn := @near_range z.c z.u z.d 0
          have h1 : near z.c z.u z.d 0 ≠ 0 := fun h => by
            rw [toward_up, (near_zero.1 h).1] at htw; cases htw
          have h2 : near z.c z.u z.d 0 ≠ -1 := fun h => by
            obtain ⟨m, h3, h4⟩ := below_iff.1 (near_neg h)
            rw [← hz] at h4
            have := house_any_range hv h4
            omega
          omega) (fun hl => by
        rcases p4 with p4 | ⟨p4, p5⟩
        · exact p4
        · rw [p1, p5, L0.2.2.1] at hl; cases hl)
      rw [hm] at hR
      refine ⟨_, _, hm, hR, hh, rfl, by omega, .inl ?_⟩
      dsimp only
      exact ⟨by omega, by omega, rfl, .inl rfl, rfl, rfl, rfl⟩
    · have hp : c.pos = T * hs := by omega
      have hd1 : c.dir = 1 := by
        rcases p4 with p4 | ⟨p4, p5⟩
        · exact p4
        · omega
      have hT1 : turn (houseP hf ⟨bitI T, 0, bitI A⟩).c (houseP hf ⟨bitI T, 0, bitI A⟩).u (houseP hf ⟨bitI T, 0, bitI A⟩).d T c.dir = -1 := by
        rw [hd1]
        have t1 : toward (houseP hf ⟨bitI T, 0, bitI A⟩).c (houseP hf ⟨bitI T, 0, bitI A⟩).u (houseP hf ⟨bitI T, 0, bitI A⟩).d T 1 = false := by
          cases ht : toward (houseP hf ⟨bitI T, 0, bitI A⟩).c (houseP hf ⟨bitI T, 0, bitI A⟩).u (houseP hf ⟨bitI T, 0, bitI A⟩).d T 1
          · rfl
          · obtain ⟨x, hx, ha⟩ := (toward_iff (.inl rfl)).1 ht
            rw [anyb_or, zc, zd, zu] at ha
            simp at ha
            omega
        have t2 : toward (houseP hf ⟨bitI T, 0, bitI A⟩).c (houseP hf ⟨bitI T, 0, bitI A⟩).u (houseP hf ⟨bitI T, 0, bitI A⟩).d T (-1) = true := (toward_iff (.inr rfl)).2 ⟨A, by omega, zanyA⟩
        unfold turn way
        rw [t1, t2, hallb_up, zu]
        rfl
      have hm := tick_stop2 (ob := false) (s := ⟨bitI T, 0, bitI A⟩) (f := T) hr p3 (by rw [hp]; exact LT.2.2.1) (by rw [hp]; exact LT.2.2.2) hT1 (.inl (by rw [zc]; simp [hT]))
      have hc1 : isb (houseP hf ⟨bitI T, 0, bitI A⟩).c T = true := by rw [zc]; simp [hT]
      have hd0 : isb (houseP hf ⟨bitI T, 0, bitI A⟩).d T = false := by rw [zd]; simp; omega
      rw [hallb_dn, hd0, hc1, Bool.false_and, Bool.false_and, if_pos rfl] at hm
      rw [hm] at hR
      refine ⟨_, _, hm, hR, rfl, rfl, by omega, .inr (.inl ?_)⟩
      dsimp only
      rw [if_pos rfl, if_pos rfl, if_pos rfl]
      exact ⟨hp, by omega, by omega, rfl, bit_clear, bit_keep, snoc_of [] T⟩
  · by_cases hd0 : 0 < c.door
    · have hm := tick_door (s := ⟨0, 0, bitI A⟩) (ob := false) hr hd0
      rw [hm] at hR
      rw [kT, kH, p1] at hm hR
      refine ⟨_, _, hm, hR, rfl, hrl, by omega, .inr (.inl ?_)⟩
      dsimp only
      exact ⟨rfl, by omega, by omega, p4, rfl, rfl, rfl⟩
    · exact ps_step3 hT hA hr hh hrl hi (by omega) (by omega) (by omega) (by omega) p4
  · exact ps_step3 hT hA hr hh hrl hi p1 p2 p3 p4 p5
  · by_cases hd0 : 0 < c.door
    · have hm := tick_door (s := ⟨0, 0, 0⟩) (ob := false) hr hd0
      rw [hm] at hR
      rw [kT, kH, p1] at hm hR
      refine ⟨_, _, hm, hR, rfl, hrl, by omega, .inr (.inr (.inr ?_))⟩
      dsimp only
      exact ⟨rfl, by omega, by omega, rfl, rfl, rfl⟩
    · have hm := tick_empty (s := ⟨0, 0, 0⟩) (ob := false) hr (by omega) (by rw [p1]; exact LA.2.2.1) (fun x => by rw [house_empty]; exact any_zero x)
      rw [hm] at hR
      rw [p1, hh] at hm hR
      refine ⟨_, _, hm, hR, rfl, rfl, by omega, .inr (.inr (.inr ?_))⟩
      dsimp only
      exact ⟨rfl, by omega, by omega, rfl, rfl, rfl⟩
end

def C_CarPasses : Ctr := ⟨[.agg [.int .i64, .int .i64, .int .i64, .int .i64], .one (.int .i64), .one (.int .i64)], [.one (.bool)],
  fun | [.i hc, .i hf, .i hs, .i hd, .i at_, .i to_] => (-9223372036854775808 ≤ hc ∧ hc < 9223372036854775808) ∧ (-9223372036854775808 ≤ hf ∧ hf < 9223372036854775808) ∧ (-9223372036854775808 ≤ hs ∧ hs < 9223372036854775808) ∧ (-9223372036854775808 ≤ hd ∧ hd < 9223372036854775808) ∧ (-9223372036854775808 ≤ at_ ∧ at_ < 9223372036854775808) ∧ (-9223372036854775808 ≤ to_ ∧ to_ < 9223372036854775808) ∧ True | _ => False,
  fun | [.i _, .i _, .i _, .i _, .i _, .i _] => [.b (true)] | _ => []⟩
theorem CarPasses_pre {ls : List Leaf} (h_ : C_CarPasses.pre ls) : ∃ (hc : Int) (hf : Int) (hs : Int) (hd : Int) (at_ : Int) (to_ : Int), ls = [.i hc, .i hf, .i hs, .i hd, .i at_, .i to_] ∧ ((-9223372036854775808 ≤ hc ∧ hc < 9223372036854775808) ∧ (-9223372036854775808 ≤ hf ∧ hf < 9223372036854775808) ∧ (-9223372036854775808 ≤ hs ∧ hs < 9223372036854775808) ∧ (-9223372036854775808 ≤ hd ∧ hd < 9223372036854775808) ∧ (-9223372036854775808 ≤ at_ ∧ at_ < 9223372036854775808) ∧ (-9223372036854775808 ≤ to_ ∧ to_ < 9223372036854775808) ∧ True) := by
  unfold C_CarPasses at h_; dsimp only at h_; split at h_
  · exact ⟨_, _, _, _, _, _, rfl, h_⟩
  · exact h_.elim
theorem CarPasses_mk {hc : Int} {hf : Int} {hs : Int} {hd : Int} {at_ : Int} {to_ : Int} (h_ : (-9223372036854775808 ≤ hc ∧ hc < 9223372036854775808) ∧ (-9223372036854775808 ≤ hf ∧ hf < 9223372036854775808) ∧ (-9223372036854775808 ≤ hs ∧ hs < 9223372036854775808) ∧ (-9223372036854775808 ≤ hd ∧ hd < 9223372036854775808) ∧ (-9223372036854775808 ≤ at_ ∧ at_ < 9223372036854775808) ∧ (-9223372036854775808 ≤ to_ ∧ to_ < 9223372036854775808) ∧ True) : C_CarPasses.pre [.i hc, .i hf, .i hs, .i hd, .i at_, .i to_] := h_
theorem CarPasses_res {hc : Int} {hf : Int} {hs : Int} {hd : Int} {at_ : Int} {to_ : Int} {rs_ : List Leaf} (h_ : rs_ = C_CarPasses.fn [.i hc, .i hf, .i hs, .i hd, .i at_, .i to_]) : ∃ (q0 : Bool), q0 = (true) ∧ rs_ = [.b q0] := ⟨_, rfl, h_⟩
def inv_CarPasses_14 (hc : Int) (hf : Int) (hs : Int) (hd : Int) (t : Int) (a : Int) (l : LV) (i : Int) (p : Int) (d : Int) (o : Int) (r : Bool) (h : Int) (sc : Int) (sd : Int) : Prop := PS hc hf hs hd (t + 2) (a + 1) i l ⟨p, d, o, r, h⟩ sc sd ∧ i ≤ 2000
def meas_CarPasses_14 (hc : Int) (hf : Int) (hs : Int) (hd : Int) (t : Int) (a : Int) (l : LV) (i : Int) (p : Int) (d : Int) (o : Int) (r : Bool) (h : Int) (sc : Int) (sd : Int) : Nat := (2000 - i).toNat
def phi_CarPasses : Fm := (.call 18 [] [] 6 (.and (.imp (.v 6) .false (.ret [(.b (.t .false))])) (.imp (.v 6) .true (.call 19 [] [(.i (.v 0)), (.i (.v 1)), (.i (.v 2)), (.i (.v 3))] 7 (.and (.imp (.ite (.not (.v 7)) (.t .true) (.lt (.v 1) (.i 3))) .true (.ret [(.b (.v 6))])) (.imp (.ite (.not (.v 7)) (.t .true) (.lt (.v 1) (.i 3))) .false (.call 22 [] [(.i (.v 5)), (.i (.wrap .i64 (.sub (.v 1) (.i 2))))] 8 (.call 22 [] [(.i (.v 4)), (.i (.wrap .i64 (.sub (.wrap .i64 (.add (.v 8) (.i 2))) (.i 1))))] 9 (.call 21 [] [(.i (.v 0)), (.i (.v 1)), (.i (.v 2)), (.i (.v 3)), (.i (.i 0))] 10 (.and (.imp (.v 15) .false (.ret [(.b (.t .false))])) (.imp (.v 15) .true (.call 28 [] [(.c 1 (.osl 2 1) [(.int .i64 (.wrap .i64 (.add (.v 8) (.i 2))))]), (.c 3 .nilsl [])] 16 (.call 29 [] [(.i (.v 16)), (.i (.v 17)), (.i (.v 18)), (.i (.wrap .i64 (.add (.v 9) (.i 1)))), (.i (.i (Int.negSucc 0)))] 19 (.loop 14 22 [0, 1, 2, 3, 8, 9] [(.c 1 .nilsl []), (.i (.i 0)), (.i (.v 10)), (.i (.v 11)), (.i (.v 12)), (.b (.v 13)), (.i (.v 14)), (.i (.v 19)), (.i (.v 21))] [.l, .i, .i, .i, .i, .b, .i, .i, .i] (.and (.imp (.lt (.v 23) (.wrap .i64 (.add (.wrap .i64 (.add (.wrap .i64 (.mul (.wrap .i64 (.mul (.i 2) (.v 1))) (.wrap .i64 (.add (.v 2) (.i 1))))) (.wrap .i64 (.mul (.i 4) (.v 3))))) (.i 8)))) .true (.call 20 [] [(.i (.v 0)), (.i (.v 1)), (.i (.v 2)), (.i (.v 3)), (.i (.v 24)), (.i (.v 25)), (.i (.v 26)), (.b (.v 27)), (.i (.v 28)), (.i (.v 29)), (.i (.v 20)), (.i (.v 30)), (.b (.t .false))] 31 (.and (.imp (.v 36) .true (.app (.l 22) (.v 38) 44 (.back 14 22 31 [0, 1, 2, 3, 8, 9] [(.l 44), (.i (.wrap .i64 (.add (.v 23) (.i 1)))), (.i (.v 31)), (.i (.v 32)), (.i (.v 33)), (.b (.v 34)), (.i (.v 35)), (.i (.bit .andNot .u64 (.v 29) (.v 41))), (.i (.bit .andNot .u64 (.v 30) (.v 43)))]))) (.imp (.v 36) .false (.back 14 22 31 [0, 1, 2, 3, 8, 9] [(.l 22), (.i (.wrap .i64 (.add (.v 23) (.i 1)))), (.i (.v 31)), (.i (.v 32)), (.i (.v 33)), (.b (.v 34)), (.i (.v 35)), (.i (.v 29)), (.i (.v 30))]))))) (.imp (.lt (.v 23) (.wrap .i64 (.add (.wrap .i64 (.add (.wrap .i64 (.mul (.wrap .i64 (.mul (.i 2) (.v 1))) (.wrap .i64 (.add (.v 2) (.i 1))))) (.wrap .i64 (.mul (.i 4) (.v 3))))) (.i 8)))) .false (.ob [((.eq (.len 22) (.i 2)), .true)] (.lt (.i 0) (.len 22)) (.ob [((.eq (.len 22) (.i 2)), .true)] (.lt (.i 0) (.len 22)) (.ob [((.ite (.eq (.len 22) (.i 2)) (.eq (.gi 22 0 (.i 0)) (.wrap .i64 (.add (.v 8) (.i 2)))) (.t .false)), .true)] (.lt (.i 1) (.len 22)) (.ob [((.ite (.eq (.len 22) (.i 2)) (.eq (.gi 22 0 (.i 0)) (.wrap .i64 (.add (.v 8) (.i 2)))) (.t .false)), .true)] (.lt (.i 1) (.len 22)) (.ret [(.b (.ite (.ite (.ite (.ite (.eq (.len 22) (.i 2)) (.eq (.gi 22 0 (.i 0)) (.wrap .i64 (.add (.v 8) (.i 2)))) (.t .false)) (.eq (.gi 22 0 (.i 1)) (.wrap .i64 (.add (.v 9) (.i 1)))) (.t .false)) (.eq (.v 29) (.i 0)) (.t .false)) (.eq (.v 30) (.i 0)) (.t .false)))])))))))))))))))))))))
def tbl_CarPasses : List (Nat × Ctr) := [(18, C_first16), (19, C_valid), (20, C_ctick), (21, C_cstart), (22, C_number), (28, C_of), (29, C_put)]
def inv_CarPasses : List Leaf → Nat → List Leaf → Prop := fun _ key xs => match key, xs with
  | 14, [.i hc, .i hf, .i hs, .i hd, .i t, .i a, .l l, .i i, .i p, .i d, .i o, .b r, .i h, .i sc, .i sd] => inv_CarPasses_14 hc hf hs hd t a l i p d o r h sc sd
  | _, _ => False
def meas_CarPasses : List Leaf → Nat → List Leaf → Nat := fun _ key xs => match key, xs with
  | 14, [.i hc, .i hf, .i hs, .i hd, .i t, .i a, .l l, .i i, .i p, .i d, .i o, .b r, .i h, .i sc, .i sd] => meas_CarPasses_14 hc hf hs hd t a l i p d o r h sc sd
  | _, _ => 0
theorem vc_CarPasses : vcg Tryd.prog (sigT tbl_CarPasses) [⟨14, [13, 14, 51, 52, 53, 54, 55, 56, 57, 58, 59, 60, 61, 62, 63, 64, 65, 66, 67, 68, 69, 70, 71, 72, 73, 74, 75, 76, 77, 78, 79, 80, 81, 82, 83, 84, 85, 86, 87, 88, 89, 90, 91, 92, 93, 94, 95], [11, 12], [(1, 0), (1, 1), (1, 2), (1, 3), (1, 4), (3, 0), (3, 2)], [0, 1, 2, 3, 8, 9], some (3, .i64)⟩] Tryd.f9 C_CarPasses.params C_CarPasses.res = some phi_CarPasses := by kernel_rfl

end Go.Proofs.YtchjajnhbipkmaaDoor
