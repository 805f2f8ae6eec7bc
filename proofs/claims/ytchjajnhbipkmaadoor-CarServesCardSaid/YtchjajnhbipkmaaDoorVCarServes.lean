import Derived.Test.YtchjajnhbipkmaaDoorEPut
namespace Go.Proofs.YtchjajnhbipkmaaDoor
open Go.Vg
set_option linter.unusedVariables false
set_option linter.unusedSimpArgs false
open Go
section
variable {hc hf hs hd T A i : Int} {c : CarP} {s : StP} {l : LV} {sc sd : Int}
theorem tick_move {e : Int} {ob : Bool} (hr : carRight hc hf hs hd c = true) (h0 : c.door = 0) (hrl : c.rl = false) (he : e = 1 ∨ e = -1) (hrg : 0 ≤ c.pos + e ∧ c.pos + e ≤ top hc hf hs hd)
    (hlv : level hc hf hs hd c.pos = true → turn (houseP hf s).c (houseP hf s).u (houseP hf s).d (floor hc hf hs hd c.pos) c.dir = e ∧ isb (houseP hf s).c (floor hc hf hs hd c.pos) = false ∧ hallb (houseP hf s).u (houseP hf s).d (floor hc hf hs hd c.pos) e = false)
    (hbt : level hc hf hs hd c.pos = false → c.dir = e) :
    tickP hc hf hs hd c s ob = (⟨c.pos + e, e, 0, false, c.held⟩, ⟨false, false, floor hc hf hs hd (c.pos + e), 0, e, 0, 0, 0⟩) := by
  obtain ⟨hv, hpr, hdr', hdo, h5, h6, h7⟩ := right_iff.1 hr
  by_cases hl : level hc hf hs hd c.pos = true
  · obtain ⟨hT, h1, h2⟩ := hlv hl
    have hok := okP_floor (p := c.pos) hv hdr'
    have hst : stopP (houseP hf s).c (houseP hf s).u (houseP hf s).d (floor hc hf hs hd c.pos) c.dir = false := by
      unfold stopP
      rw [hok, hT, h1, h2]
      rfl
    have hdP : dirP (houseP hf s).c (houseP hf s).u (houseP hf s).d (floor hc hf hs hd c.pos) c.dir = e := by
      unfold dirP; rw [hok, hT]; rfl
    have hmP : moveP (houseP hf s).c (houseP hf s).u (houseP hf s).d (floor hc hf hs hd c.pos) c.dir = e := by
      unfold moveP; rw [hok, hst, hT]; rfl
    have hcl : clampM e = e := by unfold clampM; omega
    have hgo : goIs hc hf hs hd c.pos e = true := by
      unfold goIs
      rw [hv, hcl, between_iff.2 (by omega), between_iff.2 (by omega)]
      rfl
    rw [tickP_yes hr, stepP_lvl (by omega) hl, levelP_go hst (by rw [hmP, hgo]; rcases he with rfl | rfl <;> rfl), hdP, hmP, h0]
  · have hl : level hc hf hs hd c.pos = false := by simpa using hl
    rw [tick_between hr h0 hrl hl, hbt hl]
theorem tick_stop2 {f e : Int} {ob : Bool} (hr : carRight hc hf hs hd c = true) (h0 : c.door = 0) (hl : level hc hf hs hd c.pos = true) (hfl : floor hc hf hs hd c.pos = f)
    (hT : turn (houseP hf s).c (houseP hf s).u (houseP hf s).d f c.dir = e) (hst : isb (houseP hf s).c f = true ∨ hallb (houseP hf s).u (houseP hf s).d f e = true) :
    tickP hc hf hs hd c s ob = (⟨c.pos, e, hd, false, 0⟩, ⟨true, false, f, e, 0, if isb (houseP hf s).c f = true then N (1#64 <<< f.toNat) else 0,
      put1 0 f (hallb (houseP hf s).u (houseP hf s).d f e && (okf f && e == 1)), put1 0 f (hallb (houseP hf s).u (houseP hf s).d f e && (okf f && e == -1))⟩) := by
  obtain ⟨hv, hpr, hdr', hdo, h5, h6, h7⟩ := right_iff.1 hr
  have hok := okP_floor (p := c.pos) hv hdr'
  have hsp : stopP (houseP hf s).c (houseP hf s).u (houseP hf s).d (floor hc hf hs hd c.pos) c.dir = true := by
    unfold stopP
    rw [hok, hfl, hT]
    rcases hst with h | h <;> rw [h] <;> simp
  have hdP : dirP (houseP hf s).c (houseP hf s).u (houseP hf s).d (floor hc hf hs hd c.pos) c.dir = e := by
    unfold dirP; rw [hok, hfl, hT]; rfl
  rw [tickP_yes hr, stepP_lvl (by omega) hl, levelP_stop hsp, hdP, hfl, openL_eq hv]
end
section
variable {hc hf hs hd : Int} {c : CarP} {s : StP}
theorem house_c' (hv : valid hc hf hs hd = true) {x : Int} (h : isb (houseP hf s).c x = true) : isb s.c x = true := by
  rw [house_c hv] at h
  revert h
  cases isb s.c x <;> simp
theorem house_hall (hv : valid hc hf hs hd = true) {x e : Int} (h : hallb (houseP hf s).u (houseP hf s).d x e = true) : hallb s.u s.d x e = true := by
  rcases hall_isb.1 h with ⟨rfl, h'⟩ | ⟨rfl, h'⟩
  · rw [house_u hv] at h'
    rw [hallb_up]
    revert h'
    cases isb s.u x <;> simp
  · rw [house_d hv] at h'
    rw [hallb_dn]
    revert h'
    cases isb s.d x <;> simp
/-- What a tick does: nothing, or it opens. -/
theorem tick_deed (hr : carRight hc hf hs hd c = true) :
    ((tickP hc hf hs hd c s false).2.op = false ∧ (tickP hc hf hs hd c s false).2.sc = 0 ∧ (tickP hc hf hs hd c s false).2.su = 0 ∧ (tickP hc hf hs hd c s false).2.sd = 0 ∧ (tickP hc hf hs hd c s false).2.lan = 0) ∨
    ∃ f T, (0 ≤ f ∧ f < hf) ∧ (-1 ≤ T ∧ T ≤ 1) ∧ (isb (houseP hf s).c f = true ∨ hallb (houseP hf s).u (houseP hf s).d f T = true) ∧
      tickP hc hf hs hd c s false = (⟨c.pos, T, hd, false, 0⟩, ⟨true, false, f, T, 0, if isb (houseP hf s).c f = true then N (1#64 <<< f.toNat) else 0,
      put1 0 f (hallb (houseP hf s).u (houseP hf s).d f T && (okf f && T == 1)), put1 0 f (hallb (houseP hf s).u (houseP hf s).d f T && (okf f && T == -1))⟩) := by
  obtain ⟨hv, hp, hdr, hdo, h5, h6, h7⟩ := right_iff.1 hr
  have v := valid_iff.1 hv
  by_cases hd0 : 0 < c.door
  · left
    rw [tick_door hr hd0]
    exact ⟨rfl, rfl, rfl, rfl, rfl⟩
  · by_cases hl : level hc hf hs hd c.pos = true
    · have hfo := floor_ok (p := c.pos) hv
      have hok := okP_floor (p := c.pos) hv hdr
      cases hst : stopP (houseP hf s).c (houseP hf s).u (houseP hf s).d (floor hc hf hs hd c.pos) c.dir with
      | true =>
        right
        have hst' : isb (houseP hf s).c (floor hc hf hs hd c.pos) = true ∨ hallb (houseP hf s).u (houseP hf s).d (floor hc hf hs hd c.pos) (turn (houseP hf s).c (houseP hf s).u (houseP hf s).d (floor hc hf hs hd c.pos) c.dir) = true := by
          unfold stopP at hst
          rw [hok] at hst
          simpa using hst
        refine ⟨floor hc hf hs hd c.pos, _, ?_, turn_range hdr, hst', tick_stop2 hr (by omega) hl rfl rfl hst'⟩
        rcases hst' with h | h
        · have := house_any_range hv (any_iff.2 (.inl h)); exact this
        · rcases hall_isb.1 h with ⟨_, h⟩ | ⟨_, h⟩
          · exact house_any_range hv (any_iff.2 (.inr (.inl (by rw [hallb_up]; exact h))))
          · exact house_any_range hv (any_iff.2 (.inr (.inr (by rw [hallb_dn]; exact h))))
      | false =>
        left
        rw [tickP_yes hr, stepP_lvl hd0 hl]
        cases hgo : (goIs hc hf hs hd c.pos (moveP (houseP hf s).c (houseP hf s).u (houseP hf s).d (floor hc hf hs hd c.pos) c.dir) && !(moveP (houseP hf s).c (houseP hf s).u (houseP hf s).d (floor hc hf hs hd c.pos) c.dir == 0)) with
        | true => rw [levelP_go hst hgo]; exact ⟨rfl, rfl, rfl, rfl, rfl⟩
        | false => rw [levelP_stay hst hgo]; exact ⟨rfl, rfl, rfl, rfl, rfl⟩
    · left
      have hl : level hc hf hs hd c.pos = false := by simpa using hl
      rw [tickP_yes hr, stepP_btw hd0 hl]
      cases hgo : goIs hc hf hs hd c.pos (betweenDir c) with
      | false => rw [betweenP_no rfl hgo]; exact ⟨rfl, rfl, rfl, rfl, rfl⟩
      | true =>
        cases h2 : (c.rl && level hc hf hs hd (c.pos + clampM (betweenDir c))) with
        | true => rw [betweenP_lv rfl hgo h2]; exact ⟨rfl, rfl, rfl, rfl, rfl⟩
        | false => rw [betweenP_mv rfl hgo h2]; exact ⟨rfl, rfl, rfl, rfl, rfl⟩
end
open Go
section
variable {hc hf hs hd : Int} {c : CarP} {s : StP}
/-- One tick of a car that has something to do: what is left is less. -/
theorem tick_pot0 {m : Int} (hr : carRight hc hf hs hd c = true) (hph : CarPh hc hf hs hd c s m)
    (hturn : c.door = 0 → level hc hf hs hd c.pos = true → turn (houseP hf s).c (houseP hf s).u (houseP hf s).d (floor hc hf hs hd c.pos) c.dir ≠ 0) :
    ∃ m', CarPh hc hf hs hd (tickP hc hf hs hd c s false).1 (clearP s (tickP hc hf hs hd c s false).2) m' ∧
      m' + (hd + 1) * (KP hf (clearP s (tickP hc hf hs hd c s false).2) : Int) + (tickP hc hf hs hd c s false).1.door < m + (hd + 1) * (KP hf s : Int) + c.door := by
  obtain ⟨hv, hp, hdir, hdo, h5, h6, h7⟩ := right_iff.1 hr
  have v := valid_iff.1 hv
  have ht := top_range hc hf hs hd
  have hte := top_eq hv
  have keepk : ∀ (d : DeedP), (hd + 1) * (KP hf (clearP s d) : Int) ≤ (hd + 1) * (KP hf s : Int) := fun d => by
    have := KP_le (s := s) (d := d) hv
    exact Int.mul_le_mul_of_nonneg_left (by omega) (by omega)
  by_cases h : 0 < c.door
  · rw [tick_door hr h]
    dsimp only
    refine ⟨m, ?_, ?_⟩
    · obtain ⟨h8, h9⟩ := h5 h
      cases hph with
      | rel h1 _ => rw [h9] at h1; cases h1
      | ph _ h1 hP => exact .ph _ h1 (hP.sub (clear_sub hv))
    · have hL : tickL c.door false = c.door - 1 := by
        unfold tickL
        rw [if_neg (by omega)]
        split
        · rfl
        · simp; omega
      rw [hL]
      have := keepk ⟨false, tickC c.door false, floor hc hf hs hd c.pos, 0, 0, 0, 0, 0⟩
      omega
  · have hd0 : c.door = 0 := by omega
    by_cases hl : level hc hf hs hd c.pos = true
    · -- at a floor
      have hP : Ph (houseP hf s).c (houseP hf s).u (houseP hf s).d hs (top hc hf hs hd) c.pos c.dir m := by
        cases hph with
        | rel _ h2 => rw [hl] at h2; cases h2
        | ph _ _ hP => exact hP
      have hpf := level_floor hv hl
      have hfo := floor_ok (p := c.pos) hv
      have hok := okP_floor (p := c.pos) hv hdir
      have hokf : okf (floor hc hf hs hd c.pos) = true := okf_iff.2 (by omega)
      generalize hT : turn (houseP hf s).c (houseP hf s).u (houseP hf s).d (floor hc hf hs hd c.pos) c.dir = T
      have hTr : -1 ≤ T ∧ T ≤ 1 := by rw [← hT]; exact turn_range hdir
      have hTn : T ≠ 0 := by rw [← hT]; exact hturn hd0 hl
      have hT1 : T = 1 ∨ T = -1 := by omega
      obtain ⟨⟨m1, hm1, hP1⟩, hstep⟩ := hP.level (by omega) hpf hp.1 hp.2 hT hTn hT1
      have hdP : dirP (houseP hf s).c (houseP hf s).u (houseP hf s).d (floor hc hf hs hd c.pos) c.dir = T := by unfold dirP; rw [if_pos hok, hT]
      by_cases hst : stopP (houseP hf s).c (houseP hf s).u (houseP hf s).d (floor hc hf hs hd c.pos) c.dir = true
      · -- it stops
        rw [tickP_yes hr, stepP_lvl h hl, levelP_stop hst, hdP, openL_eq hv]
        dsimp only
        generalize hfe : floor hc hf hs hd c.pos = f at *
        have hst2 : isb (houseP hf s).c f = true ∨ hallb (houseP hf s).u (houseP hf s).d f T = true := by
          unfold stopP at hst
          rw [hok, hT, Bool.true_and, Bool.or_eq_true] at hst
          exact hst
        generalize hD : (⟨true, false, f, T, 0, if isb (houseP hf s).c f = true then N (1#64 <<< f.toNat) else 0, put1 0 f (hallb (houseP hf s).u (houseP hf s).d f T && (okf f && T == 1)), put1 0 f (hallb (houseP hf s).u (houseP hf s).d f T && (okf f && T == -1))⟩ : DeedP) = D at *
        have hsu : ∀ x, isb D.su x = (hallb (houseP hf s).u (houseP hf s).d f T && T == 1 && decide (x = f)) := fun x => by
          rw [← hD]; dsimp only; rw [put1_bit, isb_zero, hokf]; simp
        have hsd : ∀ x, isb D.sd x = (hallb (houseP hf s).u (houseP hf s).d f T && T == -1 && decide (x = f)) := fun x => by
          rw [← hD]; dsimp only; rw [put1_bit, isb_zero, hokf]; simp
        have hscx : isb (houseP hf s).c f = true → isb D.sc f = true := fun hcf => by
          rw [← hD]; dsimp only; rw [if_pos hcf, isb_one hokf]; simp
        refine ⟨m1, .ph _ (.inl rfl) (hP1.sub (clear_sub hv)), ?_⟩
        · have hlt : KP hf (clearP s D) < KP hf s := by
            have l1 := cnt_le (p := isb (houseP hf s).c) (q := isb (houseP hf (clearP s D)).c) (fun x h => by rw [clear_c hv] at h; simp at h; exact h.1)
            have l2 := cnt_le (p := isb (houseP hf s).u) (q := isb (houseP hf (clearP s D)).u) (fun x h => by rw [clear_u hv] at h; simp at h; exact h.1)
            have l3 := cnt_le (p := isb (houseP hf s).d) (q := isb (houseP hf (clearP s D)).d) (fun x h => by rw [clear_d hv] at h; simp at h; exact h.1)
            unfold KP
            rcases hst2 with h8 | h8
            · have := cnt_lt (p := isb (houseP hf s).c) (q := isb (houseP hf (clearP s D)).c) (fun x h => by rw [clear_c hv] at h; simp at h; exact h.1) (x := f) (by omega) (by omega) h8 (by rw [clear_c hv, hscx h8]; simp)
              omega
            · rw [hall_isb] at h8
              rcases h8 with ⟨e1, h9⟩ | ⟨e1, h9⟩
              · have := cnt_lt (p := isb (houseP hf s).u) (q := isb (houseP hf (clearP s D)).u) (fun x h => by rw [clear_u hv] at h; simp at h; exact h.1) (x := f) (by omega) (by omega) h9 (by rw [clear_u hv, hsu, e1, hallb_up, h9]; simp)
                omega
              · have := cnt_lt (p := isb (houseP hf s).d) (q := isb (houseP hf (clearP s D)).d) (fun x h => by rw [clear_d hv] at h; simp at h; exact h.1) (x := f) (by omega) (by omega) h9 (by rw [clear_d hv, hsd, e1, hallb_dn, h9]; simp)
                omega
          have : (hd + 1) * (KP hf (clearP s D) : Int) ≤ (hd + 1) * ((KP hf s : Int) - 1) := Int.mul_le_mul_of_nonneg_left (by omega) (by omega)
          rw [Int.mul_sub, Int.mul_one] at this
          omega
      · -- it goes on
        have hst : stopP (houseP hf s).c (houseP hf s).u (houseP hf s).d (floor hc hf hs hd c.pos) c.dir = false := by simpa using hst
        have hmP : moveP (houseP hf s).c (houseP hf s).u (houseP hf s).d (floor hc hf hs hd c.pos) c.dir = T := by
          unfold moveP; rw [hok, hst, hT]; rfl
        have hst2 : isb (houseP hf s).c (floor hc hf hs hd c.pos) = false ∧ hallb (houseP hf s).u (houseP hf s).d (floor hc hf hs hd c.pos) T = false := by
          unfold stopP at hst
          rw [hok, hT, Bool.true_and, Bool.or_eq_false_iff] at hst
          exact hst
        obtain ⟨m2, hm2, hP2⟩ := hstep hst2.1 hst2.2
        have htw : toward (houseP hf s).c (houseP hf s).u (houseP hf s).d (floor hc hf hs hd c.pos) T = true := by
          have := turn_move (c := (houseP hf s).c) (u := (houseP hf s).u) (d := (houseP hf s).d) (n := floor hc hf hs hd c.pos) hdir (by rw [hT]; exact hTn) (by rw [hT]; exact hst2.2)
          rwa [hT] at this
        obtain ⟨x, hx, hax⟩ := (toward_iff hT1).1 htw
        have hxr := house_any_range hv hax
        have hcl : clampM T = T := by unfold clampM; omega
        have hgo : goIs hc hf hs hd c.pos T = true := by
          have hb : 0 ≤ c.pos + T ∧ c.pos + T ≤ top hc hf hs hd := by
            rcases hT1 with rfl | rfl
            · have h8 : (floor hc hf hs hd c.pos + 1) * hs ≤ (hf - 1) * hs := Int.mul_le_mul_of_nonneg_right (by omega) (by omega)
              rw [Int.add_mul, ← hpf] at h8
              omega
            · have h8 : 1 * hs ≤ floor hc hf hs hd c.pos * hs := Int.mul_le_mul_of_nonneg_right (by omega) (by omega)
              rw [← hpf] at h8
              omega
          unfold goIs
          rw [hv, hcl, between_iff.2 (by omega), between_iff.2 hb]
          rfl
        rw [tickP_yes hr, stepP_lvl h hl, levelP_go hst (by rw [hmP, hgo]; simp [hTn]), hdP, hmP]
        dsimp only
        refine ⟨m2, .ph _ (.inl rfl) (hP2.sub (clear_sub hv)), ?_⟩
        have := keepk ⟨false, false, floor hc hf hs hd (c.pos + T), 0, T, 0, 0, 0⟩
        omega
    · -- between floors
      have hl : level hc hf hs hd c.pos = false := by simpa using hl
      have hne : c.pos % hs ≠ 0 := by
        have h8 := hl
        rw [level_iff hv hp.1 hp.2] at h8
        simpa using h8
      have hm0 := Int.emod_nonneg c.pos (show hs ≠ 0 by omega)
      have hm1 := Int.emod_lt_of_pos c.pos (show 0 < hs by omega)
      cases hph with
      | rel h1 _ =>
        rw [tick_down hr hd0 h1 hl]
        dsimp only
        have hk := keepk ⟨false, false, floor hc hf hs hd (c.pos - 1), 0, -1, 0, 0, 0⟩
        have hme : (c.pos - 1) % hs = c.pos % hs - 1 := by
          have h9 := Int.mul_ediv_add_emod c.pos hs
          rw [show c.pos - 1 = (c.pos % hs - 1) + hs * (c.pos / hs) by omega, Int.add_mul_emod_self_left]
          exact Int.emod_eq_of_lt (by omega) (by omega)
        cases hlv : level hc hf hs hd (c.pos - 1) with
        | true =>
          refine ⟨3 * top hc hf hs hd, .ph _ (.inl rfl) ?_, by omega⟩
          exact .z
        | false =>
          refine ⟨3 * top hc hf hs hd + (c.pos - 1) % hs, .rel rfl hlv, ?_⟩
          rw [hme]
          omega
      | ph _ h1 hP =>
        have hrl : c.rl = false := by
          rcases h1 with h1 | h1
          · exact h1
          · rw [hl] at h1; cases h1
        have hdn : c.dir = 1 ∨ c.dir = -1 := by
          rcases h6 with h6 | h6 | h6
          · rw [hl] at h6; cases h6
          · omega
          · rw [hrl] at h6; cases h6
        rw [tick_between hr hd0 hrl hl]
        dsimp only
        have hk := keepk ⟨false, false, floor hc hf hs hd (c.pos + c.dir), 0, c.dir, 0, 0, 0⟩
        refine ⟨m - 1, .ph _ (.inl rfl) ((hP.between hdn (fun x e => hne (by rw [← e, Int.mul_emod_left]))).sub (clear_sub hv)), by omega⟩

def Emp3 (hf : Int) (s : StP) : Prop := ∀ x, anyb (houseP hf s).c (houseP hf s).u (houseP hf s).d x = false
/-- What is left to do, at most B ticks. -/
inductive Good (hc hf hs hd : Int) (c : CarP) (s : StP) (B : Int) : Prop
  | e (h1 : Emp3 hf s) (h2 : level hc hf hs hd c.pos = true) (h3 : c.door ≤ B)
  | r (h1 : Emp3 hf s) (h2 : c.rl = true) (h3 : level hc hf hs hd c.pos = false) (h4 : c.pos % hs ≤ B)
  | n (m : Int) (h1 : ¬ Emp3 hf s) (h2 : CarPh hc hf hs hd c s m) (h3 : m + (hd + 1) * (KP hf s : Int) + c.door ≤ B)
theorem emp_house {s' : StP} (h : houseP hf s' = houseP hf s) (he : Emp3 hf s) : Emp3 hf s' := fun x => by rw [h]; exact he x
theorem KP_pos (h : ¬ Emp3 hf s) : 1 ≤ KP hf s := by
  have hx : ∃ x, anyb (houseP hf s).c (houseP hf s).u (houseP hf s).d x = true := Classical.byContradiction fun hn => h fun x => by
    cases ha : anyb (houseP hf s).c (houseP hf s).u (houseP hf s).d x
    · rfl
    · exact absurd ⟨x, ha⟩ hn
  obtain ⟨x, hx⟩ := hx
  have hr := anyb_range hx
  have key : ∀ p : Int → Bool, p x = true → 1 ≤ cnt p := fun p hp => by
    have := cnt_lt (p := p) (q := fun _ => false) (fun y hy => by cases hy) hr.1 hr.2 hp rfl
    omega
  unfold KP
  rw [anyb_or] at hx
  simp only [Bool.or_eq_true] at hx
  rcases hx with (h1 | h1) | h1
  · have := key _ h1; omega
  · have := key _ h1; omega
  · have := key _ h1; omega
theorem tick_shut (hr : carRight hc hf hs hd c = true) (ho : (tickP hc hf hs hd c s false).2.op = false) : (tickP hc hf hs hd c s false).2.sc = 0 ∧ (tickP hc hf hs hd c s false).2.su = 0 ∧ (tickP hc hf hs hd c s false).2.sd = 0 := by
  rcases tick_deed hr with h | ⟨f, T, _, _, _, E⟩
  · exact ⟨h.2.1, h.2.2.1, h.2.2.2.1⟩
  · rw [E] at ho; cases ho
theorem good_step {B : Int} (hr : carRight hc hf hs hd c = true) (hB : 0 ≤ B) (h : Good hc hf hs hd c s B) :
    carRight hc hf hs hd (tickP hc hf hs hd c s false).1 = true ∧ Good hc hf hs hd (tickP hc hf hs hd c s false).1 (clearP s (tickP hc hf hs hd c s false).2) (max (B - 1) 0) := by
  have hR := tick_right2 (s := s) (ob := false) hr (.inl rfl)
  refine ⟨hR.1, ?_⟩
  obtain ⟨hv, hp, hdir, hdo, h5, h6, h7⟩ := right_iff.1 hr
  have v := valid_iff.1 hv
  cases h with
  | e h1 h2 h3 =>
    by_cases hd1 : 0 < c.door
    · rw [tick_door hr hd1]
      refine .e (emp_house (house_keep rfl rfl rfl) h1) h2 ?_
      have hL : tickL c.door false = c.door - 1 := by
        unfold tickL
        rw [if_neg (by omega)]
        split
        · rfl
        · simp; omega
      dsimp only
      rw [hL]; omega
    · rw [tick_empty hr (by omega) h2 h1]
      exact .e (emp_house (house_keep rfl rfl rfl) h1) h2 (by dsimp only; omega)
  | r h1 h2 h3 h4 =>
    have hd0 : c.door = 0 := by
      rcases Int.lt_or_le 0 c.door with h | h
      · rw [(h5 h).2] at h2; cases h2
      · omega
    have hne : c.pos % hs ≠ 0 := by
      have h8 := h3
      rw [level_iff hv hp.1 hp.2] at h8
      simpa using h8
    have hm0 := Int.emod_nonneg c.pos (show hs ≠ 0 by omega)
    have hm1 := Int.emod_lt_of_pos c.pos (show 0 < hs by omega)
    have hme : (c.pos - 1) % hs = c.pos % hs - 1 := by
      have h9 := Int.mul_ediv_add_emod c.pos hs
      rw [show c.pos - 1 = (c.pos % hs - 1) + hs * (c.pos / hs) by omega, Int.add_mul_emod_self_left]
      exact Int.emod_eq_of_lt (by omega) (by omega)
    rw [tick_down hr hd0 h2 h3]
    cases hlv : level hc hf hs hd (c.pos - 1) with
    | true => exact .e (emp_house (house_keep rfl rfl rfl) h1) hlv (by dsimp only; omega)
    | false => exact .r (emp_house (house_keep rfl rfl rfl) h1) rfl hlv (by dsimp only; rw [hme]; omega)
  | n m h1 h2 h3 =>
    have hK := KP_pos h1
    have hm := carPh_range hr h2
    have hK2 : (hd + 1) * 1 ≤ (hd + 1) * (KP hf s : Int) := Int.mul_le_mul_of_nonneg_left (by omega) (by omega)
    rw [Int.mul_one] at hK2
    by_cases hT : c.door = 0 ∧ level hc hf hs hd c.pos = true ∧ turn (houseP hf s).c (houseP hf s).u (houseP hf s).d (floor hc hf hs hd c.pos) c.dir = 0
    · obtain ⟨hd0, hl, hT⟩ := hT
      have hok := okP_floor (p := c.pos) hv hdir
      have hfo := floor_ok (p := c.pos) hv
      obtain ⟨z1, z2, z3, z4⟩ := turn_zero hdir hT
      have honly : ∀ x, anyb (houseP hf s).c (houseP hf s).u (houseP hf s).d x = true → x = floor hc hf hs hd c.pos := fun x hx => by
        rcases Int.lt_trichotomy (floor hc hf hs hd c.pos) x with h8 | h8 | h8
        · rw [above_iff.2 ⟨x, h8, hx⟩] at z1; cases z1
        · exact h8.symm
        · rw [below_iff.2 ⟨x, h8, hx⟩] at z2; cases z2
      have hcf : isb (houseP hf s).c (floor hc hf hs hd c.pos) = true := Classical.byContradiction fun hn => h1 fun x => by
        cases ha : anyb (houseP hf s).c (houseP hf s).u (houseP hf s).d x
        · rfl
        · have e := honly x ha
          subst e
          rw [anyb_or, z3, z4] at ha
          simp at ha
          exact absurd ha hn
      have hst : stopP (houseP hf s).c (houseP hf s).u (houseP hf s).d (floor hc hf hs hd c.pos) c.dir = true := by
        unfold stopP
        rw [hok, hcf]
        rfl
      have hE : Emp3 hf (clearP s (tickP hc hf hs hd c s false).2) := fun x => by
        cases ha : anyb (houseP hf (clearP s (tickP hc hf hs hd c s false).2)).c (houseP hf (clearP s (tickP hc hf hs hd c s false).2)).u (houseP hf (clearP s (tickP hc hf hs hd c s false).2)).d x
        · rfl
        · have hx := honly x ((clear_sub hv).any ha)
          subst hx
          rw [anyb_or, clear_c hv, clear_u hv, clear_d hv, z3, z4, hcf, tickP_yes hr, stepP_lvl (by omega) hl, levelP_stop hst] at ha
          dsimp only at ha
          rw [if_pos hcf, isb_one (okf_iff.2 (by omega))] at ha
          simp at ha
      refine .e hE ?_ ?_
      · rw [tickP_yes hr, stepP_lvl (by omega) hl, levelP_stop hst]
        exact hl
      · rw [tickP_yes hr, stepP_lvl (by omega) hl, levelP_stop hst, openL_eq hv]
        dsimp only
        omega
    · obtain ⟨m', p1, p2⟩ := tick_pot0 hr h2 (fun a b e => hT ⟨a, b, e⟩)
      have hm' := carPh_range hR.1 p1
      have hdo' := (right_iff.1 hR.1).2.2.2.1
      by_cases hE : Emp3 hf (clearP s (tickP hc hf hs hd c s false).2)
      · have hK' : 0 ≤ (hd + 1) * (KP hf (clearP s (tickP hc hf hs hd c s false).2) : Int) := Int.mul_nonneg (by omega) (by omega)
        refine .e hE ?_ (by omega)
        cases ho : (tickP hc hf hs hd c s false).2.op with
        | true => exact (hR.2.2.2.2.2.2.1 ho).2.1
        | false =>
          exfalso
          have z : (tickP hc hf hs hd c s false).2.sc = 0 ∧ (tickP hc hf hs hd c s false).2.su = 0 ∧ (tickP hc hf hs hd c s false).2.sd = 0 := tick_shut hr ho
          exact h1 (emp_house (house_keep z.1 z.2.1 z.2.2).symm hE)
      · exact .n m' hE p1 (by omega)
theorem good_more {B B' : Int} (h : Good hc hf hs hd c s B) (hb : B ≤ B') : Good hc hf hs hd c s B' := by
  cases h with
  | e h1 h2 h3 => exact .e h1 h2 (by omega)
  | r h1 h2 h3 h4 => exact .r h1 h2 h3 (by omega)
  | n m h1 h2 h3 => exact .n m h1 h2 (by omega)
theorem good_end (hr : carRight hc hf hs hd c = true) (h : Good hc hf hs hd c s 0) : Emp3 hf s ∧ level hc hf hs hd c.pos = true ∧ c.door = 0 := by
  obtain ⟨hv, hp, hdir, hdo, h5, h6, h7⟩ := right_iff.1 hr
  have v := valid_iff.1 hv
  cases h with
  | e h1 h2 h3 => exact ⟨h1, h2, by omega⟩
  | r h1 h2 h3 h4 =>
    exfalso
    have h8 := h3
    rw [level_iff hv hp.1 hp.2] at h8
    have hm0 := Int.emod_nonneg c.pos (show hs ≠ 0 by omega)
    simp at h8
    omega
  | n m h1 h2 h3 =>
    exfalso
    have hK := KP_pos h1
    have hm := carPh_range hr h2
    have hK2 : (hd + 1) * 1 ≤ (hd + 1) * (KP hf s : Int) := Int.mul_le_mul_of_nonneg_left (by omega) (by omega)
    omega
end
theorem cnt_one {p q : Int → Bool} {f : Int} (h : ∀ x, q x = true → p x = true ∨ x = f) : cnt q ≤ cnt p + 1 := by
  have key : ∀ n : Nat, ((List.range n).countP fun i : Nat => q (i : Int)) ≤ ((List.range n).countP fun i : Nat => p (i : Int)) + (if 0 ≤ f ∧ f < n then 1 else 0) := by
    intro n
    induction n with
    | zero => simp
    | succ n ih =>
      have mono : (if 0 ≤ f ∧ f < ((n : Nat) : Int) then 1 else 0) ≤ (if 0 ≤ f ∧ f < ((n + 1 : Nat) : Int) then (1 : Nat) else 0) := by
        by_cases h1 : 0 ≤ f ∧ f < ((n : Nat) : Int)
        · rw [if_pos h1, if_pos (by omega)]; omega
        · rw [if_neg h1]; omega
      rw [List.range_succ, List.countP_append, List.countP_append, List.countP_singleton, List.countP_singleton]
      cases hq : q (n : Int) with
      | false =>
        simp only [Bool.false_eq_true, if_false]
        omega
      | true =>
        rcases h _ hq with hp | hp
        · simp only [hp, if_true]
          omega
        · rw [if_neg (by omega)] at ih
          rw [if_pos (show 0 ≤ f ∧ f < ((n + 1 : Nat) : Int) by omega)]
          simp only [if_true]
          omega
  have := key 64
  unfold cnt
  split at this <;> omega
theorem cnt_zero : cnt (isb 0) = 0 := by
  unfold cnt
  rw [List.countP_eq_zero]
  intro i _
  rw [isb_zero]
  simp
theorem cnt_of (l : LV) : ∀ k, cnt (isb (ofCar l k)) ≤ k
  | 0 => by rw [ofCar, cnt_zero]; omega
  | k + 1 => by
    have := cnt_of l k
    have h2 := cnt_one (p := isb (ofCar l k)) (q := isb (ofCar l (k + 1))) (f := l.gi k 0) (fun x hx => by
      rw [ofCar, put1_bit] at hx
      simp only [Bool.or_eq_true, Bool.and_eq_true, decide_eq_true_eq] at hx
      rcases hx with h | h
      · exact .inl h
      · exact .inr h.2)
    omega
theorem of_bits {l : LV} {hf : Int} (h : ∀ j : Nat, j < l.len → 0 ≤ l.gi j 0 ∧ l.gi j 0 < hf) : ∀ k, k ≤ l.len → ∀ x, isb (ofCar l k) x = true → x < hf
  | 0, _, x, hx => by rw [ofCar, isb_zero] at hx; cases hx
  | k + 1, hk, x, hx => by
    rw [ofCar, put1_bit] at hx
    simp only [Bool.or_eq_true, Bool.and_eq_true, decide_eq_true_eq] at hx
    rcases hx with h1 | h1
    · exact of_bits h k (by omega) x h1
    · rw [h1.2]; exact (h k (by omega)).2
theorem posP_le (f : Nat → Int) (x : Int) : ∀ m k, posP f x m k ≤ m + k
  | 0, k => by simp [posP]
  | m + 1, k => by
    rw [posP_succ]
    split
    · have := posP_le f x m (k + 1); omega
    · omega
theorem putV_facts {l : LV} {x hf : Int} (hx : 0 ≤ x ∧ x < hf) (h : ∀ j : Nat, j < l.len → 0 ≤ l.gi j 0 ∧ l.gi j 0 < hf) :
    (putV l x).len ≤ l.len + 1 ∧ ∀ j : Nat, j < (putV l x).len → 0 ≤ (putV l x).gi j 0 ∧ (putV l x).gi j 0 < hf := by
  have hp := posP_le (fun i => l.gi i 0) x l.len 0
  unfold putV
  dsimp only
  generalize posP (fun i => l.gi i 0) x l.len 0 = k at *
  by_cases hk : k < l.len ∧ l.gi k 0 = x
  · rw [if_pos hk]; exact ⟨by omega, h⟩
  · rw [if_neg hk]
    refine ⟨Nat.le_refl _, fun j hj => ?_⟩
    dsimp only at hj ⊢
    split
    · exact h j (by omega)
    · split
      · exact hx
      · exact h (j - 1) (by omega)
theorem clear_car {a : Int} {d : DeedP} : clearP ⟨a, 0, 0⟩ d = ⟨N (B a &&& ~~~B d.sc), 0, 0⟩ := by
  unfold clearP
  dsimp only
  rw [B_zero, BitVec.zero_and, BitVec.zero_and, N_zero]
theorem good_start {hc hf hs hd p : Int} {l : LV} (hr : carRight hc hf hs hd ⟨p, 0, 0, !level hc hf hs hd p, 0⟩ = true) :
    Good hc hf hs hd ⟨p, 0, 0, !level hc hf hs hd p, 0⟩ ⟨ofCar l l.len, 0, 0⟩ (hs + 3 * top hc hf hs hd + (hd + 1) * (l.len : Int)) := by
  obtain ⟨hv, hp, hdir, hdo, h5, h6, h7⟩ := right_iff.1 hr
  have v := valid_iff.1 hv
  have ht := top_range hc hf hs hd
  have hl0 : 0 ≤ (hd + 1) * (l.len : Int) := Int.mul_nonneg (by omega) (by omega)
  dsimp only at *
  have hm1 := Int.emod_lt_of_pos p (show 0 < hs by omega)
  by_cases hE : Emp3 hf ⟨ofCar l l.len, 0, 0⟩
  · cases hl : level hc hf hs hd p with
    | true => exact .e hE hl (by dsimp only; omega)
    | false => exact .r hE rfl hl (by dsimp only; omega)
  · obtain ⟨m, hph⟩ := carPh_some (s := ⟨ofCar l l.len, 0, 0⟩) hr
    have hmr := carPh_range hr hph
    refine .n m hE hph ?_
    have hK : KP hf ⟨ofCar l l.len, 0, 0⟩ ≤ l.len := by
      have h1 := cnt_le (p := isb (ofCar l l.len)) (q := isb (houseP hf ⟨ofCar l l.len, 0, 0⟩).c) (fun x h => by rw [house_c hv] at h; simp at h; exact h.1)
      have h2 := cnt_le (p := isb 0) (q := isb (houseP hf ⟨ofCar l l.len, 0, 0⟩).u) (fun x h => by rw [house_u hv] at h; simp at h; exact h.1)
      have h3 := cnt_le (p := isb 0) (q := isb (houseP hf ⟨ofCar l l.len, 0, 0⟩).d) (fun x h => by rw [house_d hv] at h; simp at h; exact h.1.1)
      have h4 := cnt_of l l.len
      rw [cnt_zero] at h2 h3
      unfold KP
      omega
    have hK2 : (hd + 1) * (KP hf ⟨ofCar l l.len, 0, 0⟩ : Int) ≤ (hd + 1) * (l.len : Int) := Int.mul_le_mul_of_nonneg_left (by omega) (by omega)
    dsimp only
    omega
theorem car_zero {hf hc hs hd a : Int} (hv : valid hc hf hs hd = true) (ha : N (B a) = a) (hb : ∀ x, isb a x = true → x < hf) (h : Emp3 hf ⟨a, 0, 0⟩) : a = 0 := by
  rw [← ha, ← N_zero, N_inj]
  apply BitVec.eq_of_getLsbD_eq
  intro i hi
  rw [BitVec.getLsbD_zero]
  cases hx : (B a).getLsbD i with
  | false => rfl
  | true =>
    have h1 : isb a (i : Int) = true := by
      unfold isb
      rw [okf_iff.2 (by omega), Int.toNat_natCast, hx]
      rfl
    have h2 := h i
    rw [anyb_or, house_c hv] at h2
    dsimp only at h2
    rw [h1, decide_eq_true (hb _ h1)] at h2
    simp at h2

def C_CarServes : Ctr := ⟨[.agg [.int .i64, .int .i64, .int .i64, .int .i64], .one (.int .i64), .one (.lst [.int .i64])], [.one (.bool)],
  fun | [.i hc, .i hf, .i hs, .i hd, .i fr, .l fs] => (-9223372036854775808 ≤ hc ∧ hc < 9223372036854775808) ∧ (-9223372036854775808 ≤ hf ∧ hf < 9223372036854775808) ∧ (-9223372036854775808 ≤ hs ∧ hs < 9223372036854775808) ∧ (-9223372036854775808 ≤ hd ∧ hd < 9223372036854775808) ∧ (-9223372036854775808 ≤ fr ∧ fr < 9223372036854775808) ∧ True | _ => False,
  fun | [.i _, .i _, .i _, .i _, .i _, .l _] => [.b (true)] | _ => []⟩
theorem CarServes_pre {ls : List Leaf} (h_ : C_CarServes.pre ls) : ∃ (hc : Int) (hf : Int) (hs : Int) (hd : Int) (fr : Int) (fs : LV), ls = [.i hc, .i hf, .i hs, .i hd, .i fr, .l fs] ∧ ((-9223372036854775808 ≤ hc ∧ hc < 9223372036854775808) ∧ (-9223372036854775808 ≤ hf ∧ hf < 9223372036854775808) ∧ (-9223372036854775808 ≤ hs ∧ hs < 9223372036854775808) ∧ (-9223372036854775808 ≤ hd ∧ hd < 9223372036854775808) ∧ (-9223372036854775808 ≤ fr ∧ fr < 9223372036854775808) ∧ True) := by
  unfold C_CarServes at h_; dsimp only at h_; split at h_
  · exact ⟨_, _, _, _, _, _, rfl, h_⟩
  · exact h_.elim
theorem CarServes_mk {hc : Int} {hf : Int} {hs : Int} {hd : Int} {fr : Int} {fs : LV} (h_ : (-9223372036854775808 ≤ hc ∧ hc < 9223372036854775808) ∧ (-9223372036854775808 ≤ hf ∧ hf < 9223372036854775808) ∧ (-9223372036854775808 ≤ hs ∧ hs < 9223372036854775808) ∧ (-9223372036854775808 ≤ hd ∧ hd < 9223372036854775808) ∧ (-9223372036854775808 ≤ fr ∧ fr < 9223372036854775808) ∧ True) : C_CarServes.pre [.i hc, .i hf, .i hs, .i hd, .i fr, .l fs] := h_
theorem CarServes_res {hc : Int} {hf : Int} {hs : Int} {hd : Int} {fr : Int} {fs : LV} {rs_ : List Leaf} (h_ : rs_ = C_CarServes.fn [.i hc, .i hf, .i hs, .i hd, .i fr, .l fs]) : ∃ (q0 : Bool), q0 = (true) ∧ rs_ = [.b q0] := ⟨_, rfl, h_⟩
def inv_CarServes_11 (hf : Int) (fs : LV) (l : LV) (i : Int) : Prop := 0 ≤ i ∧ i ≤ (fs.len : Int) ∧ (l.len : Int) ≤ i ∧ ∀ j : Nat, j < l.len → 0 ≤ l.gi j 0 ∧ l.gi j 0 < hf
def meas_CarServes_11 (hf : Int) (fs : LV) (l : LV) (i : Int) : Nat := ((fs.len : Int) - i).toNat
def inv_CarServes_17 (hc : Int) (hf : Int) (hs : Int) (hd : Int) (l : LV) (i : Int) (p : Int) (d : Int) (o : Int) (r : Bool) (h : Int) (sc : Int) : Prop := 0 ≤ i ∧ i ≤ (hs + 3 * top hc hf hs hd + (hd + 2) * ((l.len : Int) + 1)) ∧ carRight hc hf hs hd ⟨p, d, o, r, h⟩ = true ∧ N (B sc) = sc ∧ (∀ x, isb sc x = true → x < hf) ∧ Good hc hf hs hd ⟨p, d, o, r, h⟩ ⟨sc, 0, 0⟩ (max ((hs + 3 * top hc hf hs hd + (hd + 2) * ((l.len : Int) + 1)) - i) 0)
def meas_CarServes_17 (hc : Int) (hf : Int) (hs : Int) (hd : Int) (l : LV) (i : Int) (p : Int) (d : Int) (o : Int) (r : Bool) (h : Int) (sc : Int) : Nat := ((hs + 3 * top hc hf hs hd + (hd + 2) * ((l.len : Int) + 1)) - i).toNat
def phi_CarServes : Fm := (.call 18 [] [] 6 (.and (.imp (.v 6) .false (.ret [(.b (.t .false))])) (.imp (.v 6) .true (.call 19 [] [(.i (.v 0)), (.i (.v 1)), (.i (.v 2)), (.i (.v 3))] 7 (.and (.imp (.ite (.not (.v 7)) (.t .true) (.lt (.i 10) (.len 5))) .true (.ret [(.b (.v 6))])) (.imp (.ite (.not (.v 7)) (.t .true) (.lt (.i 10) (.len 5))) .false (.call 23 [] [(.i (.v 0)), (.i (.v 1)), (.i (.v 2)), (.i (.v 3))] 8 (.call 22 [] [(.i (.v 4)), (.i (.wrap .i64 (.add (.v 8) (.i 1))))] 9 (.call 21 [] [(.i (.v 0)), (.i (.v 1)), (.i (.v 2)), (.i (.v 3)), (.i (.v 9))] 10 (.and (.imp (.v 15) .false (.ret [(.b (.t .false))])) (.imp (.v 15) .true (.loop 11 16 [1, 5] [(.c 1 .nilsl []), (.i (.i 0))] [.l, .i] (.and (.imp (.lt (.v 17) (.len 5)) .true (.ob [] (.le (.i 0) (.v 17)) (.call 22 [] [(.i (.gi 5 0 (.v 17))), (.i (.v 1))] 18 (.call 27 [] [(.l 16), (.i (.v 18))] 19 (.back 11 16 18 [1, 5] [(.l 19), (.i (.wrap .i64 (.add (.v 17) (.i 1))))]))))) (.imp (.lt (.v 17) (.len 5)) .false (.call 28 [] [(.l 16), (.c 3 .nilsl [])] 18 (.call 23 [] [(.i (.v 0)), (.i (.v 1)), (.i (.v 2)), (.i (.v 3))] 21 (.loop 17 22 [0, 1, 2, 3, 16] [(.i (.i 0)), (.i (.v 10)), (.i (.v 11)), (.i (.v 12)), (.b (.v 13)), (.i (.v 14)), (.i (.v 18))] [.i, .i, .i, .i, .b, .i, .i] (.and (.imp (.lt (.v 22) (.wrap .i64 (.add (.wrap .i64 (.add (.v 2) (.wrap .i64 (.mul (.i 3) (.v 21))))) (.wrap .i64 (.mul (.wrap .i64 (.add (.v 3) (.i 2))) (.wrap .i64 (.add (.len 16) (.i 1)))))))) .true (.call 20 [] [(.i (.v 0)), (.i (.v 1)), (.i (.v 2)), (.i (.v 3)), (.i (.v 23)), (.i (.v 24)), (.i (.v 25)), (.b (.v 26)), (.i (.v 27)), (.i (.v 28)), (.i (.v 19)), (.i (.v 20)), (.b (.t .false))] 29 (.back 17 22 29 [0, 1, 2, 3, 16] [(.i (.wrap .i64 (.add (.v 22) (.i 1)))), (.i (.v 29)), (.i (.v 30)), (.i (.v 31)), (.b (.v 32)), (.i (.v 33)), (.i (.bit .andNot .u64 (.v 28) (.v 39)))]))) (.imp (.lt (.v 22) (.wrap .i64 (.add (.wrap .i64 (.add (.v 2) (.wrap .i64 (.mul (.i 3) (.v 21))))) (.wrap .i64 (.mul (.wrap .i64 (.add (.v 3) (.i 2))) (.wrap .i64 (.add (.len 16) (.i 1)))))))) .false (.call 20 [] [(.i (.v 0)), (.i (.v 1)), (.i (.v 2)), (.i (.v 3)), (.i (.v 23)), (.i (.v 24)), (.i (.v 25)), (.b (.v 26)), (.i (.v 27)), (.i (.v 28)), (.i (.v 19)), (.i (.v 20)), (.b (.t .false))] 29 (.call 25 [((.ite (.ite (.ite (.eq (.v 28) (.i 0)) (.eq (.v 38) (.i 0)) (.t .false)) (.not (.v 34)) (.t .false)) (.eq (.v 31) (.i 0)) (.t .false)), .true)] [(.i (.v 0)), (.i (.v 1)), (.i (.v 2)), (.i (.v 3)), (.i (.v 29))] 42 (.ret [(.b (.ite (.ite (.ite (.ite (.eq (.v 28) (.i 0)) (.eq (.v 38) (.i 0)) (.t .false)) (.not (.v 34)) (.t .false)) (.eq (.v 31) (.i 0)) (.t .false)) (.v 42) (.t .false)))]))))))))))))))))))))))
def tbl_CarServes : List (Nat × Ctr) := [(18, C_first16), (19, C_valid), (20, C_ctick), (21, C_cstart), (22, C_number), (23, C_top), (25, C_level), (27, C_putS), (28, C_of)]
def inv_CarServes : List Leaf → Nat → List Leaf → Prop := fun _ key xs => match key, xs with
  | 11, [.i hf, .l fs, .l l, .i i] => inv_CarServes_11 hf fs l i
  | 17, [.i hc, .i hf, .i hs, .i hd, .l l, .i i, .i p, .i d, .i o, .b r, .i h, .i sc] => inv_CarServes_17 hc hf hs hd l i p d o r h sc
  | _, _ => False
def meas_CarServes : List Leaf → Nat → List Leaf → Nat := fun _ key xs => match key, xs with
  | 11, [.i hf, .l fs, .l l, .i i] => meas_CarServes_11 hf fs l i
  | 17, [.i hc, .i hf, .i hs, .i hd, .l l, .i i, .i p, .i d, .i o, .b r, .i h, .i sc] => meas_CarServes_17 hc hf hs hd l i p d o r h sc
  | _, _ => 0
theorem vc_CarServes : vcg Tryd.prog (sigT tbl_CarServes) [⟨11, [43, 44, 45, 46, 47, 48, 49, 50, 51, 52, 53, 54, 55, 56, 57], [10, 11], [], [1, 5], some (tagB, [.i64]), []⟩, ⟨17, [15, 16, 74, 75, 76, 77, 78, 79, 80, 81, 82, 83, 84, 85, 86, 87, 88, 89, 90, 91, 92, 93], [14], [(1, 0), (1, 1), (1, 2), (1, 3), (1, 4), (2, 0)], [0, 1, 2, 3, 16], some (3, [.i64]), []⟩] Tryd.f5 C_CarServes.params C_CarServes.res = some phi_CarServes := by kernel_rfl

end Go.Proofs.YtchjajnhbipkmaaDoor
