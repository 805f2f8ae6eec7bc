import Derived.Test.YtccdhkmohimfhaaDoorVRiserPlaysIn
namespace Go.Proofs.YtccdhkmohimfhaaDoor
open Go.Vg
set_option linter.unusedVariables false
set_option linter.unusedSimpArgs false
open Go
theorem lrng_i64 {ek : List EK} {x : LV} (h : LV.rng ek x) {i : Int} {c : Nat} (h0 : 0 ≤ i) (h1 : i < x.len) (hc : ek[c]? = some (.int .i64)) : -9223372036854775808 ≤ x.gi (Int.toNat i) c ∧ x.gi (Int.toNat i) c < 9223372036854775808 := by
  have h2 := h.2 i.toNat c .i64 (by omega) hc
  have h3 := wf_has h2
  have e1 : IntKind.min .i64 = -9223372036854775808 := by decide
  have e2 : IntKind.max .i64 = 9223372036854775807 := by decide
  rw [e1, e2] at h3
  omega
theorem idx_inj {f d f' d' k : Int} (hk : 0 ≤ k) (hf : 0 ≤ f) (hf' : 0 ≤ f') (hd : d = 1 ∨ d = -1) (hd' : d' = 1 ∨ d' = -1) : (k + f' * 2 + sideI d').toNat = (k + f * 2 + sideI d).toNat ↔ f' = f ∧ d' = d := by
  have s1 : sideI 1 = 1 := rfl
  have s2 : sideI (-1) = 0 := rfl
  constructor
  · intro h
    have h2 : k + f' * 2 + sideI d' = k + f * 2 + sideI d := by
      have := sideI_rng d
      have := sideI_rng d'
      omega
    rcases hd with rfl | rfl <;> rcases hd' with rfl | rfl <;> simp only [s1, s2] at h2 <;> omega
  · rintro ⟨rfl, rfl⟩
    rfl
section
variable {x : LV} {f d f' d' g : Int}
theorem press6_zero (hp : pressIs6 x f d = true) (hf : 0 ≤ f) : (press6 x f d).gi 0 0 = x.gi 0 0 := by
  have := sideI_rng d
  unfold press6
  rw [if_pos hp]
  unfold LV.upd LV.updb
  dsimp only
  rw [if_neg (by omega)]
theorem press6_gen (hp : pressIs6 x f d = true) (hf : 0 ≤ f) (hf' : 0 ≤ f') (hd : d = 1 ∨ d = -1) (hd' : d' = 1 ∨ d' = -1) : gen6 (press6 x f d) f' d' = if f' = f ∧ d' = d then IntKind.wrap .i64 (gen6 x f d + 1) else gen6 x f' d' := by
  unfold press6
  rw [if_pos hp]
  unfold LV.upd LV.updb
  show (if _ ∧ (0 : Nat) = 0 then _ else _) = _
  simp only [and_true, idx_inj (k := 1) (by omega) hf hf' hd hd']
  rfl
theorem press6_is (hp : pressIs6 x f d = true) (hf : 0 ≤ f) (hf' : 0 ≤ f') (hd : d = 1 ∨ d = -1) (hd' : d' = 1 ∨ d' = -1) : is6 (press6 x f d) f' d' = if f' = f ∧ d' = d then true else is6 x f' d' := by
  unfold press6
  rw [if_pos hp]
  unfold LV.upd LV.updb
  show (if _ ∧ (0 : Nat) = 0 then _ else _) = _
  simp only [and_true, idx_inj (k := 129) (by omega) hf hf' hd hd']
  rfl
theorem press6_no (hp : pressIs6 x f d = false) : press6 x f d = x := by unfold press6; rw [hp]; rfl
theorem clear6_no (hp : lights6 x f d g = false) : clear6 x f d g = x := by unfold clear6; rw [hp]; rfl
theorem clear6_gi (i c : Nat) : (clear6 x f d g).gi i c = x.gi i c := by
  unfold clear6
  split <;> rfl
theorem clear6_is (hp : lights6 x f d g = true) (hf : 0 ≤ f) (hf' : 0 ≤ f') (hd : d = 1 ∨ d = -1) (hd' : d' = 1 ∨ d' = -1) : is6 (clear6 x f d g) f' d' = if f' = f ∧ d' = d then false else is6 x f' d' := by
  unfold clear6
  rw [if_pos hp]
  unfold LV.updb
  show (if _ ∧ (0 : Nat) = 0 then _ else _) = _
  simp only [and_true, idx_inj (k := 129) (by omega) hf hf' hd hd']
  rfl
end
theorem may_dir {F f d : Int} (h : mayP F f d = true) : 0 ≤ f ∧ f < F ∧ (d = 1 ∨ d = -1) := by
  have := mayP_iff.1 h
  omega
theorem not_t {b : Bool} (h : ¬ b = true) : b = false := by cases b <;> simp_all
section
variable {r x : LV} {F n f d g : Int}
theorem rel_pressIs (h : Rel6 r x F n) (hf : i64R f) (hd : i64R d) : pressIs r f d = pressIs6 x f d := by
  obtain ⟨z1, z2, h1, h2⟩ := h
  unfold pressIs pressIs6
  rw [z1, z2]
  cases hm : mayP F f d with
  | false => rfl
  | true =>
    obtain ⟨a1, a2, a3, a4, a5⟩ := (h1 f d hf hd).1 hm
    cases hi : is6 x f d with
    | true =>
      obtain ⟨b1, b2⟩ := a4 hi
      rw [b1, decide_eq_true b2]
    | false =>
      rw [a5 hi]
      rfl
theorem rel_press (h : Rel6 r x F n) (hn : 0 ≤ n ∧ n ≤ 1000) (hf : i64R f) (hd : i64R d) : Rel6 (pressR r f d) (press6 x f d) F (n + 1) ∧ pressG r f d = if pressIs6 x f d = true then gen6 (press6 x f d) f d else 0 := by
  have hpi := rel_pressIs h hf hd
  obtain ⟨z1, z2, h1, h2⟩ := h
  cases hp : pressIs6 x f d with
  | false =>
    rw [hp] at hpi
    rw [press_no hpi, press6_no hp]
    refine ⟨⟨z1, z2, fun f' d' hf' hd' => ⟨fun hm => ?_, (h1 f' d' hf' hd').2⟩, h2⟩, ?_⟩
    · obtain ⟨a1, a2, a3, a4, a5⟩ := (h1 f' d' hf' hd').1 hm
      exact ⟨a1, a2, by omega, a4, a5⟩
    · rw [press_G hf hd, hpi]
      rfl
  | true =>
    rw [hp] at hpi
    have hm : mayP F f d = true := by rw [← z1]; exact (pressIs_iff.1 hpi).1
    obtain ⟨m1, m2, m3⟩ := may_dir hm
    obtain ⟨a1, a2, a3, a4, a5⟩ := (h1 f d hf hd).1 hm
    have w : IntKind.wrap .i64 (gen6 x f d + 1) = gen6 x f d + 1 := wrap_in (by omega) (by omega)
    refine ⟨⟨by rw [press_zero hf hd, z1], by rw [press6_zero hp m1, z2], fun f' d' hf' hd' => ⟨fun hm' => ?_, fun hm' => ?_⟩, fun f' d' q1 q2 q3 hm' => ?_⟩, ?_⟩
    · obtain ⟨m1', m2', m3'⟩ := may_dir hm'
      obtain ⟨b1, b2, b3, b4, b5⟩ := (h1 f' d' hf' hd').1 hm'
      rw [press_gen hf hd hf' hd', press_lit hf hd hf' hd', press6_gen hp m1 m1' m3 m3', press6_is hp m1 m1' m3 m3', hpi, a1, w]
      by_cases he : f' = f ∧ d' = d
      · rw [if_pos ⟨rfl, he⟩, if_pos he, if_pos he, if_pos ⟨rfl, he⟩]
        exact ⟨rfl, by omega, by omega, fun _ => ⟨rfl, by omega⟩, fun h => (by cases h)⟩
      · rw [if_neg (fun h => he h.2), if_neg he, if_neg he, if_neg (fun h => he h.2)]
        exact ⟨b1, b2, by omega, b4, b5⟩
    · have hne : ¬ (f' = f ∧ d' = d) := fun he => by
        rw [he.1, he.2, hm] at hm'
        cases hm'
      rw [press_gen hf hd hf' hd', press_lit hf hd hf' hd', if_neg (fun h => hne h.2), if_neg (fun h => hne h.2)]
      exact (h1 f' d' hf' hd').2 hm'
    · have hne : ¬ (f' = f ∧ d' = d) := fun he => by
        rw [he.1, he.2, hm] at hm'
        cases hm'
      rw [press6_is hp m1 q1 m3 q3, if_neg hne]
      exact h2 f' d' q1 q2 q3 hm'
    · rw [press_G hf hd, if_pos hpi, if_pos rfl, press6_gen hp m1 m1 m3 m3, if_pos ⟨rfl, rfl⟩, a1]
theorem rel_is (h : Rel6 r x F n) (hf : i64R f) (hd : i64R d) : isR r f d g = lights6 x f d g := by
  obtain ⟨z1, z2, h1, h2⟩ := h
  unfold lights6
  rw [z2]
  cases hm : mayP F f d with
  | false =>
    obtain ⟨b1, b2⟩ := (h1 f d hf hd).2 hm
    rw [isR_no (fun h => by rw [b2] at h; omega)]
    rfl
  | true =>
    obtain ⟨a1, a2, a3, a4, a5⟩ := (h1 f d hf hd).1 hm
    cases hi : is6 x f d with
    | true =>
      obtain ⟨b1, b2⟩ := a4 hi
      unfold isR
      rw [b1]
      by_cases hg : gen6 x f d = g
      · rw [← hg, decide_eq_true b2]
        rfl
      · rw [show (gen6 x f d == g) = false from beq_eq_false_iff_ne.2 hg]
        simp
    | false =>
      have := a5 hi
      rw [isR_no (fun h => by rw [this] at h; omega)]
      rfl
theorem rel_gen (h : Rel6 r x F n) (hf : i64R f) (hd : i64R d) : genR r f d = genOr6 x f d := by
  obtain ⟨z1, z2, h1, h2⟩ := h
  unfold genOr6
  rw [z2]
  cases hm : mayP F f d with
  | false => exact ((h1 f d hf hd).2 hm).1
  | true => exact ((h1 f d hf hd).1 hm).1
theorem rel_clear (h : Rel6 r x F n) (hf : i64R f) (hd : i64R d) : Rel6 (clearR r f d g) (clear6 x f d g) F n := by
  have hpi := rel_is (g := g) h hf hd
  cases hp : lights6 x f d g with
  | false =>
    rw [hp] at hpi
    rw [clear_no hpi, clear6_no hp]
    exact h
  | true =>
    rw [hp] at hpi
    obtain ⟨z1, z2, h1, h2⟩ := h
    have hm : mayP F f d = true := by
      unfold lights6 at hp
      simp only [Bool.and_eq_true] at hp
      rw [← z2]
      exact hp.1.1
    obtain ⟨m1, m2, m3⟩ := may_dir hm
    have hgn : ∀ f' d', gen6 (clear6 x f d g) f' d' = gen6 x f' d' := fun f' d' => clear6_gi _ _
    refine ⟨by rw [clear_zero hf hd, z1], by rw [clear6_gi, z2], fun f' d' hf' hd' => ⟨fun hm' => ?_, fun hm' => ?_⟩, fun f' d' q1 q2 q3 hm' => ?_⟩
    · obtain ⟨m1', m2', m3'⟩ := may_dir hm'
      obtain ⟨b1, b2, b3, b4, b5⟩ := (h1 f' d' hf' hd').1 hm'
      rw [clear_gen hf hd hf' hd', clear_lit hf hd hf' hd', hgn, clear6_is hp m1 m1' m3 m3', hpi]
      by_cases he : f' = f ∧ d' = d
      · rw [if_pos he, if_pos ⟨rfl, he⟩]
        exact ⟨b1, b2, b3, fun h => (by cases h), fun _ => rfl⟩
      · rw [if_neg he, if_neg (fun h => he h.2)]
        exact ⟨b1, b2, b3, b4, b5⟩
    · have hne : ¬ (f' = f ∧ d' = d) := fun he => by
        rw [he.1, he.2, hm] at hm'
        cases hm'
      rw [clear_gen hf hd hf' hd', clear_lit hf hd hf' hd', if_neg (fun h => hne h.2)]
      exact (h1 f' d' hf' hd').2 hm'
    · have hne : ¬ (f' = f ∧ d' = d) := fun he => by
        rw [he.1, he.2, hm] at hm'
        cases hm'
      rw [clear6_is hp m1 q1 m3 q3, if_neg hne]
      exact h2 f' d' q1 q2 q3 hm'
theorem rel_at (h : Rel6 r x F n) (hF : F ≤ 64) (h0 : 0 ≤ f) (h1 : f < F) (hd : d = 1 ∨ d = -1) (y : LV) : litAt r f d y = lit6At x f d y := by
  obtain ⟨z1, z2, h2, h3⟩ := h
  have qf : i64R f := i64_small (by omega)
  have qd : i64R d := i64_small (by omega)
  cases hm : mayP F f d with
  | false =>
    rw [litAt_no (by rw [((h2 f d qf qd).2 hm).2]; decide), lit6At_no (by rw [h3 f d h0 h1 hd hm]; decide)]
  | true =>
    obtain ⟨a1, a2, a3, a4, a5⟩ := (h2 f d qf qd).1 hm
    cases hi : is6 x f d with
    | true =>
      obtain ⟨b1, b2⟩ := a4 hi
      rw [litAt_yes (by rw [b1]; exact b2), lit6At_yes hi, b1]
    | false => rw [litAt_no (by rw [a5 hi]; decide), lit6At_no (by rw [hi]; decide)]
theorem rel_lit (h : Rel6 r x F n) (hF : F ≤ 64) : ∀ k : Nat, (k : Int) ≤ F → litTo r k = lit6To x k
  | 0, _ => rfl
  | k + 1, hk => by
    show litAt r k 1 (litAt r k (-1) (litTo r k)) = lit6At x k 1 (lit6At x k (-1) (lit6To x k))
    rw [rel_lit h hF k (by omega), rel_at h hF (by omega) (by omega) (.inr rfl), rel_at h hF (by omega) (by omega) (.inl rfl)]
end
theorem sameLt_refl (a : LV) : sameLt a a = true := by simp [sameLt]
theorem rel_new {x : LV} {F : Int} (hz : x.gi 0 0 = F) (hg : ∀ j : Nat, j ≠ 0 → x.gi j 0 = 0) (hb : ∀ j : Nat, x.gb j 0 = false) : Rel6 (newR F) x F 0 := by
  refine ⟨new_zero F, hz, fun f d hf hd => ⟨fun hm => ?_, fun _ => ⟨new_gen F hf hd, new_lit F hf hd⟩⟩, fun f d _ _ _ _ => hb _⟩
  obtain ⟨m1, m2, m3⟩ := may_dir hm
  have := sideI_rng d
  have e : gen6 x f d = 0 := hg _ (by omega)
  rw [e, new_gen F hf hd, new_lit F hf hd]
  refine ⟨rfl, by omega, by omega, fun h => ?_, fun _ => rfl⟩
  unfold is6 at h
  rw [hb] at h
  cases h
theorem getD_all {Q : CV → Prop} : ∀ (l : List CV), (∀ c, c ∈ l → Q c) → Q .nilp → ∀ j, Q (l.getD j .nilp)
  | [], _, hn, j => by simpa using hn
  | c :: l, h, hn, 0 => by simpa using h c (by simp)
  | c :: l, h, hn, j + 1 => by
    have := getD_all l (fun c' hc => h c' (by simp [hc])) hn j
    simpa using this
def mixL (e : Ex) : List CV := .int .i64 e :: (List.replicate 128 (.int .i64 (.i 0)) ++ List.replicate 128 (.bool (.t false)))
theorem mix_rel {ρ : Env} {e : Ex} {cs : List CV} {F : Int} (hcs : cs = mixL e) (he : e.int ρ = F) : Rel6 (newR F) (cellsLV ρ 1 cs) F 0 := by
  subst hcs
  have ht : ∀ c, c ∈ List.replicate 128 (CV.int .i64 (.i 0)) ++ List.replicate 128 (CV.bool (.t false)) → CV.intv ρ c = 0 ∧ CV.boolv ρ c = false := fun c hc => by
    rcases List.mem_append.1 hc with h | h
    · rw [(List.mem_replicate.1 h).2]; exact ⟨rfl, rfl⟩
    · rw [(List.mem_replicate.1 h).2]; exact ⟨rfl, rfl⟩
  have hk := getD_all (Q := fun c => CV.intv ρ c = 0 ∧ CV.boolv ρ c = false) _ ht ⟨rfl, rfl⟩
  refine rel_new he (fun j hj => ?_) (fun j => ?_)
  · obtain ⟨k, rfl⟩ : ∃ k, j = k + 1 := ⟨j - 1, by omega⟩
    show CV.intv ρ ((mixL e).getD ((k + 1) * 1 + 0) .nilp) = 0
    rw [show (k + 1) * 1 + 0 = k + 1 by omega]
    exact (hk k).1
  · show CV.boolv ρ ((mixL e).getD (j * 1 + 0) .nilp) = false
    rw [show j * 1 + 0 = j by omega]
    cases j with
    | zero => rfl
    | succ k => exact (hk k).2


set_option maxRecDepth 100000 in
theorem RiserPlaysIn_sound : C_RiserPlaysIn.Sound Tryd.prog G 6 := by
  refine fn_ok mixed stable tbl_RiserPlaysIn [⟨13, [6, 12, 13, 14, 15, 16, 17, 18, 55, 56, 57, 58, 59, 60, 61, 62, 63, 64, 65, 66, 67, 68, 69, 70, 71, 72, 73, 74, 75, 76, 77, 78, 79, 80, 81, 82, 83, 84, 85, 86, 87, 88, 89, 90, 91, 92, 93, 94, 95, 96, 97, 98, 99, 100, 101, 102, 103, 104, 105, 106, 107, 108, 109, 110, 111, 112, 113, 114, 115, 116, 117, 118, 119, 120, 121, 122, 123, 124, 125, 126, 127, 128, 129, 130, 131, 132, 133, 134, 135, 136, 137, 138, 139], [11], [(1, 0), (4, 0)], [0, 1], some (3, [.i64]), []⟩, ⟨11, [], [], [], [], none, [(4, 2)]⟩] Tryd.func6 (by kernel_rfl) phi_RiserPlaysIn vc_RiserPlaysIn ⟨first10_sound, rnew_sound, may_sound, rpress_sound, rlit_sound, sameLatchs_sound, rclone_sound, ris_sound, rclear_sound, rgen_sound, press6_sound, sameLatch_sound, clear6_sound, lit6_sound, lights6_sound, genOr6_sound, may6_sound, trivial⟩ inv_RiserPlaysIn meas_RiserPlaysIn ?_
  intro ls hp
  obtain ⟨fs, l, af, ad, ag, rfl, hpre⟩ := RiserPlaysIn_pre hp
  clear hp
  rw [envOf_lk]
  unfold phi_RiserPlaysIn
  refine vg_call (C := C_first10) rfl rfl (xs := []) rfl (fun hg => ?_) (fun rs hrs => ?_)
  ·
    exact trivial
  obtain ⟨r5, hr5, rfl⟩ := first10_res hrs
  clear hrs
  change Fm.holds _ _ (lk [.i fs, .l l, .i af, .i ad, .i ag, .b r5])
  obtain ⟨hF, hfs, hL, haf, had, hag, -⟩ := hpre
  have qaf : i64R af := haf
  have qad : i64R ad := had
  refine ⟨fun hcond => ?_, fun hcond => ?_⟩
  ·
    have c1 : r5 = false := hcond
    clear hcond
    suffices hfin : (false) = (true) from (c_b hfin rfl)
    -- leaf 1 (ret)
    rw [hr5] at c1
    cases c1
  ·
    have c2 : r5 = true := hcond
    clear hcond
    refine vg_call (C := C_rnew) rfl rfl (xs := [.i fs]) rfl (fun hg => ?_) (fun rs hrs => ?_)
    ·
      refine rnew_mk ?_
      -- leaf 2 (pre)
      exact hF
    obtain ⟨r6, r7, hr6, hr7, rfl⟩ := rnew_res hrs
    clear hrs
    change Fm.holds _ _ (lk [.i fs, .l l, .i af, .i ad, .i ag, .b r5, .l r6, .v r7])
    refine ⟨fun hcond => ?_, fun hcond => ?_⟩
    ·
      have c3 : (if (decide (fs < (2 : Int))) = true then true else (decide ((64 : Int) < fs))) = true := hcond
      clear hcond
      suffices hfin : (false) = (true) from (c_b hfin rfl)
      -- leaf 3 (ret)
      rw [if_neg (by simp; omega)] at c3
      simp at c3
      omega
    ·
      have c4 : (if (decide (fs < (2 : Int))) = true then true else (decide ((64 : Int) < fs))) = false := hcond
      clear hcond
      refine ⟨fun hcond => ?_, fun hcond => ?_⟩
      ·
        have c5 : (isNilV r7) = false := hcond
        clear hcond
        suffices hfin : (false) = (true) from (c_b hfin rfl)
        -- leaf 4 (ret)
        rw [hr7] at c5
        cases c5
      ·
        have c6 : (isNilV r7) = true := hcond
        clear hcond
        refine ⟨fun hcond => ?_, fun hcond => ?_⟩
        ·
          have c7 : (decide ((60 : Int) < (l.len : Int))) = true := hcond
          clear hcond
          suffices hfin : (r5) = (true) from (c_b hfin rfl)
          -- leaf 5 (ret)
          exact hr5
        ·
          have c8 : (decide ((60 : Int) < (l.len : Int))) = false := hcond
          clear hcond
          refine vg_lett rfl (x := _) rfl (fun r8 hr8 => ?_)
          change Fm.holds _ _ (lk [.i fs, .l l, .i af, .i ad, .i ag, .b r5, .l r6, .v r7, .l r8])
          have hlen := of_decide_eq_false c8
          have hrel8 : Rel6 r6 r8 fs 0 := by
            rw [hr6, hr8]
            exact mix_rel (e := .v 0) rfl rfl
          clear hr8
          refine vg_loop rfl ?_ (fun xs hfit hi => ?_)
          ·
            show inv_RiserPlaysIn_13 fs l (0 : Int) r6 r8
            -- leaf 6 (init)
            exact ⟨by omega, by omega, hrel8⟩
          obtain ⟨x9, xs0, rfl, hfit0⟩ := fits_i hfit
          obtain ⟨x10, xs1, rfl, hfit1⟩ := fits_l hfit0
          obtain ⟨x11, xs2, rfl, hfit2⟩ := fits_l hfit1
          obtain rfl := fits_nil hfit2
          clear hfit hfit0 hfit1 hfit2
          replace hi : inv_RiserPlaysIn_13 fs l x9 x10 x11 := hi
          have hi13 := hi; clear hi
          change Fm.holds _ _ (lk [.i fs, .l l, .i af, .i ad, .i ag, .b r5, .l r6, .v r7, .l r8, .i x9, .l x10, .l x11])
          obtain ⟨i0, i1, irel⟩ := hi13
          have i60 : x9 ≤ 60 := by omega
          have iz := irel.1
          have ix := irel.2.1
          refine ⟨fun hcond => ?_, fun hcond => ?_⟩
          ·
            have c9 : (decide (x9 < (l.len : Int))) = true := hcond
            clear hcond
            have h9 := of_decide_eq_true c9
            have w9 : IntKind.wrap .i64 (x9 + 1) = x9 + 1 := wrap_in (by omega) (by omega)
            have ql1 : i64R (l.gi (Int.toNat x9) 1) := lrng_i64 hL i0 h9 rfl
            have ql2 : i64R (l.gi (Int.toNat x9) 2) := lrng_i64 hL i0 h9 rfl
            refine ⟨fun hg => ?_, ?_⟩
            ·
              show (decide ((0 : Int) ≤ x9)) = true
              -- leaf 7 (ob)
              exact decide_eq_true i0
            refine vg_call (C := C_rclone) rfl rfl (xs := [.l x10]) rfl (fun hg => ?_) (fun rs hrs => ?_)
            ·
              exact trivial
            obtain ⟨r12, hr12, rfl⟩ := rclone_res hrs
            clear hrs
            change Fm.holds _ _ (lk [.i fs, .l l, .i af, .i ad, .i ag, .b r5, .l r6, .v r7, .l r8, .i x9, .l x10, .l x11, .l r12])
            refine vg_call (C := C_rlit) rfl rfl (xs := [.l r12]) rfl (fun hg => ?_) (fun rs hrs => ?_)
            ·
              refine rlit_mk ?_
              -- leaf 8 (pre)
              rw [hr12, iz]
              omega
            obtain ⟨r13, hr13, rfl⟩ := rlit_res hrs
            clear hrs
            change Fm.holds _ _ (lk [.i fs, .l l, .i af, .i ad, .i ag, .b r5, .l r6, .v r7, .l r8, .i x9, .l x10, .l x11, .l r12, .l r13])
            rw [hr12] at hr13
            have b13 := litTo_len x10 (x10.gi 0 0).toNat
            rw [← hr13, iz] at b13
            refine ⟨fun hcond => ?_, fun hcond => ?_⟩
            ·
              have c10 : ((l.gi (Int.toNat x9) 0) == (1 : Int)) = true := hcond
              clear hcond
              refine vg_call (C := C_rpress) rfl rfl (xs := [.l x10, .i (l.gi (Int.toNat x9) 1), .i (l.gi (Int.toNat x9) 2)]) rfl (fun hg => ?_) (fun rs hrs => ?_)
              ·
                refine rpress_mk ?_
                -- leaf 9 (pre)
                unfold i64R at ql1 ql2
                rw [iz]
                omega
              obtain ⟨r14, r15, r16, r17, r18, hr14, hr15, hr16, hr17, hr18, rfl⟩ := rpress_res hrs
              clear hrs
              change Fm.holds _ _ (lk [.i fs, .l l, .i af, .i ad, .i ag, .b r5, .l r6, .v r7, .l r8, .i x9, .l x10, .l x11, .l r12, .l r13, .l r14, .i r15, .i r16, .i r17, .b r18])
              refine vg_call (C := C_press6) rfl rfl (xs := [.l x11, .i (l.gi (Int.toNat x9) 1), .i (l.gi (Int.toNat x9) 2)]) rfl (fun hg => ?_) (fun rs hrs => ?_)
              ·
                refine press6_mk ?_
                -- leaf 10 (pre)
                rw [ix]
                omega
              obtain ⟨r19, r20, r21, r22, r23, hr19, hr20, hr21, hr22, hr23, rfl⟩ := press6_res hrs
              clear hrs
              change Fm.holds _ _ (lk [.i fs, .l l, .i af, .i ad, .i ag, .b r5, .l r6, .v r7, .l r8, .i x9, .l x10, .l x11, .l r12, .l r13, .l r14, .i r15, .i r16, .i r17, .b r18, .l r19, .i r20, .i r21, .i r22, .b r23])
              obtain ⟨hrel, hG⟩ := rel_press irel (by omega) ql1 ql2
              have hpi := rel_pressIs irel ql1 ql2
              rw [← hr14, ← hr19] at hrel
              have tz : r14.gi 0 0 = fs := hrel.1
              have tx : r19.gi 0 0 = fs := hrel.2.1
              have tl := rel_lit hrel (by omega) fs.toNat (by omega)
              refine vg_call (C := C_sameLatch) rfl rfl (xs := [.i r15, .i r16, .i r17, .i r20, .i r21, .i r22]) rfl (fun hg => ?_) (fun rs hrs => ?_)
              ·
                exact trivial
              obtain ⟨r24, hr24, rfl⟩ := sameLatch_res hrs
              clear hrs
              change Fm.holds _ _ (lk [.i fs, .l l, .i af, .i ad, .i ag, .b r5, .l r6, .v r7, .l r8, .i x9, .l x10, .l x11, .l r12, .l r13, .l r14, .i r15, .i r16, .i r17, .b r18, .l r19, .i r20, .i r21, .i r22, .b r23, .b r24])
              refine ⟨fun hcond => ?_, fun hcond => ?_⟩
              ·
                have c11 : (if (!(r18 == r23)) = true then true else (!r24)) = true := hcond
                clear hcond
                suffices hfin : (false) = (true) from (c_b hfin rfl)
                -- leaf 11 (ret)
                have e1 : r18 = r23 := by rw [hr18, hr23, hpi]
                have e2 : r24 = true := by
                  rw [hr24, hr15, hr16, hr17, hr20, hr21, hr22, hpi, hG]
                  simp
                rw [e1, e2] at c11
                simp at c11
              ·
                have c12 : (if (!(r18 == r23)) = true then true else (!r24)) = false := hcond
                clear hcond
                refine vg_call (C := C_rlit) rfl rfl (xs := [.l r14]) rfl (fun hg => ?_) (fun rs hrs => ?_)
                ·
                  refine rlit_mk ?_
                  -- leaf 12 (pre)
                  rw [tz]
                  omega
                obtain ⟨r25, hr25, rfl⟩ := rlit_res hrs
                clear hrs
                change Fm.holds _ _ (lk [.i fs, .l l, .i af, .i ad, .i ag, .b r5, .l r6, .v r7, .l r8, .i x9, .l x10, .l x11, .l r12, .l r13, .l r14, .i r15, .i r16, .i r17, .b r18, .l r19, .i r20, .i r21, .i r22, .b r23, .b r24, .l r25])
                refine vg_call (C := C_lit6) rfl rfl (xs := [.l r19]) rfl (fun hg => ?_) (fun rs hrs => ?_)
                ·
                  refine lit6_mk ?_
                  -- leaf 13 (pre)
                  rw [tx]
                  omega
                obtain ⟨r26, hr26, rfl⟩ := lit6_res hrs
                clear hrs
                change Fm.holds _ _ (lk [.i fs, .l l, .i af, .i ad, .i ag, .b r5, .l r6, .v r7, .l r8, .i x9, .l x10, .l x11, .l r12, .l r13, .l r14, .i r15, .i r16, .i r17, .b r18, .l r19, .i r20, .i r21, .i r22, .b r23, .b r24, .l r25, .l r26])
                refine vg_call (C := C_sameLatchs) rfl rfl (xs := [.l r25, .l r26]) rfl (fun hg => ?_) (fun rs hrs => ?_)
                ·
                  refine sameLatchs_mk ?_
                  -- leaf 14 (pre)
                  have b1 := litTo_len r14 (r14.gi 0 0).toNat
                  have b2 := lit6To_len r19 (r19.gi 0 0).toNat
                  rw [← hr25, tz] at b1
                  rw [← hr26, tx] at b2
                  omega
                obtain ⟨r27, hr27, rfl⟩ := sameLatchs_res hrs
                clear hrs
                change Fm.holds _ _ (lk [.i fs, .l l, .i af, .i ad, .i ag, .b r5, .l r6, .v r7, .l r8, .i x9, .l x10, .l x11, .l r12, .l r13, .l r14, .i r15, .i r16, .i r17, .b r18, .l r19, .i r20, .i r21, .i r22, .b r23, .b r24, .l r25, .l r26, .b r27])
                refine vg_call (C := C_rlit) rfl rfl (xs := [.l r12]) rfl (fun hg => ?_) (fun rs hrs => ?_)
                ·
                  simp only [gd_cons, gd_nil, and_true] at hg
                  replace hg : (!r27) = false := hg
                  refine rlit_mk ?_
                  -- leaf 15 (pre)
                  rw [hr12, iz]
                  omega
                obtain ⟨r28, hr28, rfl⟩ := rlit_res hrs
                clear hrs
                change Fm.holds _ _ (lk [.i fs, .l l, .i af, .i ad, .i ag, .b r5, .l r6, .v r7, .l r8, .i x9, .l x10, .l x11, .l r12, .l r13, .l r14, .i r15, .i r16, .i r17, .b r18, .l r19, .i r20, .i r21, .i r22, .b r23, .b r24, .l r25, .l r26, .b r27, .l r28])
                refine vg_call (C := C_ris) rfl rfl (xs := [.l r14, .i af, .i ad, .i ag]) rfl (fun hg => ?_) (fun rs hrs => ?_)
                ·
                  simp only [gd_cons, gd_nil, and_true] at hg
                  replace hg : (if (!r27) = true then true else (!((r28.len : Int) == (r13.len : Int)))) = false := hg
                  refine ris_mk ?_
                  -- leaf 16 (pre)
                  unfold i64R at qaf qad
                  omega
                obtain ⟨r29, hr29, rfl⟩ := ris_res hrs
                clear hrs
                change Fm.holds _ _ (lk [.i fs, .l l, .i af, .i ad, .i ag, .b r5, .l r6, .v r7, .l r8, .i x9, .l x10, .l x11, .l r12, .l r13, .l r14, .i r15, .i r16, .i r17, .b r18, .l r19, .i r20, .i r21, .i r22, .b r23, .b r24, .l r25, .l r26, .b r27, .l r28, .b r29])
                refine vg_call (C := C_lights6) rfl rfl (xs := [.l r19, .i af, .i ad, .i ag]) rfl (fun hg => ?_) (fun rs hrs => ?_)
                ·
                  simp only [gd_cons, gd_nil, and_true] at hg
                  replace hg : (if (!r27) = true then true else (!((r28.len : Int) == (r13.len : Int)))) = false := hg
                  refine lights6_mk ?_
                  -- leaf 17 (pre)
                  rw [tx]
                  omega
                obtain ⟨r30, hr30, rfl⟩ := lights6_res hrs
                clear hrs
                change Fm.holds _ _ (lk [.i fs, .l l, .i af, .i ad, .i ag, .b r5, .l r6, .v r7, .l r8, .i x9, .l x10, .l x11, .l r12, .l r13, .l r14, .i r15, .i r16, .i r17, .b r18, .l r19, .i r20, .i r21, .i r22, .b r23, .b r24, .l r25, .l r26, .b r27, .l r28, .b r29, .b r30])
                refine vg_call (C := C_rgen) rfl rfl (xs := [.l r14, .i af, .i ad]) rfl (fun hg => ?_) (fun rs hrs => ?_)
                ·
                  simp only [gd_cons, gd_nil, and_true] at hg
                  replace hg : (if (if (!r27) = true then true else (!((r28.len : Int) == (r13.len : Int)))) = true then true else (!(r29 == r30))) = false := hg
                  refine rgen_mk ?_
                  -- leaf 18 (pre)
                  unfold i64R at qaf qad
                  omega
                obtain ⟨r31, hr31, rfl⟩ := rgen_res hrs
                clear hrs
                change Fm.holds _ _ (lk [.i fs, .l l, .i af, .i ad, .i ag, .b r5, .l r6, .v r7, .l r8, .i x9, .l x10, .l x11, .l r12, .l r13, .l r14, .i r15, .i r16, .i r17, .b r18, .l r19, .i r20, .i r21, .i r22, .b r23, .b r24, .l r25, .l r26, .b r27, .l r28, .b r29, .b r30, .i r31])
                refine vg_call (C := C_genOr6) rfl rfl (xs := [.l r19, .i af, .i ad]) rfl (fun hg => ?_) (fun rs hrs => ?_)
                ·
                  simp only [gd_cons, gd_nil, and_true] at hg
                  replace hg : (if (if (!r27) = true then true else (!((r28.len : Int) == (r13.len : Int)))) = true then true else (!(r29 == r30))) = false := hg
                  refine genOr6_mk ?_
                  -- leaf 19 (pre)
                  rw [tx]
                  omega
                obtain ⟨r32, hr32, rfl⟩ := genOr6_res hrs
                clear hrs
                change Fm.holds _ _ (lk [.i fs, .l l, .i af, .i ad, .i ag, .b r5, .l r6, .v r7, .l r8, .i x9, .l x10, .l x11, .l r12, .l r13, .l r14, .i r15, .i r16, .i r17, .b r18, .l r19, .i r20, .i r21, .i r22, .b r23, .b r24, .l r25, .l r26, .b r27, .l r28, .b r29, .b r30, .i r31, .i r32])
                refine ⟨fun hcond => ?_, fun hcond => ?_⟩
                ·
                  have c13 : (if (if (if (!r27) = true then true else (!((r28.len : Int) == (r13.len : Int)))) = true then true else (!(r29 == r30))) = true then true else (!(r31 == r32))) = true := hcond
                  clear hcond
                  suffices hfin : (false) = (true) from (c_b hfin rfl)
                  -- leaf 20 (ret)
                  have e1 : r27 = true := by rw [hr27, hr25, hr26, tz, tx, tl]; exact sameLt_refl _
                  have e2 : (r28.len : Int) = r13.len := by rw [hr28, hr12, hr13]
                  have e3 : r29 = r30 := by rw [hr29, hr30]; exact rel_is hrel qaf qad
                  have e4 : r31 = r32 := by rw [hr31, hr32]; exact rel_gen hrel qaf qad
                  rw [e1, e2, e3, e4] at c13
                  simp at c13
                ·
                  have c14 : (if (if (if (!r27) = true then true else (!((r28.len : Int) == (r13.len : Int)))) = true then true else (!(r29 == r30))) = true then true else (!(r31 == r32))) = false := hcond
                  clear hcond
                  refine ⟨?_, ?_⟩
                  ·
                    show inv_RiserPlaysIn_13 fs l (IntKind.wrap .i64 (x9 + (1 : Int))) r14 r19
                    -- leaf 21 (back)
                    rw [w9]
                    exact ⟨by omega, by omega, hrel⟩
                  ·
                    show meas_RiserPlaysIn_13 fs l (IntKind.wrap .i64 (x9 + (1 : Int))) r14 r19 < meas_RiserPlaysIn_13 fs l x9 x10 x11
                    -- leaf 22 (meas)
                    unfold meas_RiserPlaysIn_13
                    rw [w9]
                    omega
            ·
              have c15 : ((l.gi (Int.toNat x9) 0) == (1 : Int)) = false := hcond
              clear hcond
              refine vg_call (C := C_rclear) rfl rfl (xs := [.l x10, .i (l.gi (Int.toNat x9) 1), .i (l.gi (Int.toNat x9) 2), .i (l.gi (Int.toNat x9) 3)]) rfl (fun hg => ?_) (fun rs hrs => ?_)
              ·
                refine rclear_mk ?_
                -- leaf 23 (pre)
                unfold i64R at ql1 ql2
                omega
              obtain ⟨r14, r15, hr14, hr15, rfl⟩ := rclear_res hrs
              clear hrs
              change Fm.holds _ _ (lk [.i fs, .l l, .i af, .i ad, .i ag, .b r5, .l r6, .v r7, .l r8, .i x9, .l x10, .l x11, .l r12, .l r13, .l r14, .b r15])
              refine vg_call (C := C_clear6) rfl rfl (xs := [.l x11, .i (l.gi (Int.toNat x9) 1), .i (l.gi (Int.toNat x9) 2), .i (l.gi (Int.toNat x9) 3)]) rfl (fun hg => ?_) (fun rs hrs => ?_)
              ·
                refine clear6_mk ?_
                -- leaf 24 (pre)
                rw [ix]
                omega
              obtain ⟨r16, r17, hr16, hr17, rfl⟩ := clear6_res hrs
              clear hrs
              change Fm.holds _ _ (lk [.i fs, .l l, .i af, .i ad, .i ag, .b r5, .l r6, .v r7, .l r8, .i x9, .l x10, .l x11, .l r12, .l r13, .l r14, .b r15, .l r16, .b r17])
              have hrel := rel_clear (g := l.gi (Int.toNat x9) 3) irel ql1 ql2
              have his := rel_is (g := l.gi (Int.toNat x9) 3) irel ql1 ql2
              rw [← hr14, ← hr16] at hrel
              have tz : r14.gi 0 0 = fs := hrel.1
              have tx : r16.gi 0 0 = fs := hrel.2.1
              have tl := rel_lit hrel (by omega) fs.toNat (by omega)
              refine ⟨fun hcond => ?_, fun hcond => ?_⟩
              ·
                have c16 : (r15 == r17) = false := hcond
                clear hcond
                suffices hfin : (false) = (true) from (c_b hfin rfl)
                -- leaf 25 (ret)
                rw [hr15, hr17, his] at c16
                simp at c16
              ·
                have c17 : (r15 == r17) = true := hcond
                clear hcond
                refine vg_call (C := C_rlit) rfl rfl (xs := [.l r14]) rfl (fun hg => ?_) (fun rs hrs => ?_)
                ·
                  refine rlit_mk ?_
                  -- leaf 26 (pre)
                  rw [tz]
                  omega
                obtain ⟨r18, hr18, rfl⟩ := rlit_res hrs
                clear hrs
                change Fm.holds _ _ (lk [.i fs, .l l, .i af, .i ad, .i ag, .b r5, .l r6, .v r7, .l r8, .i x9, .l x10, .l x11, .l r12, .l r13, .l r14, .b r15, .l r16, .b r17, .l r18])
                refine vg_call (C := C_lit6) rfl rfl (xs := [.l r16]) rfl (fun hg => ?_) (fun rs hrs => ?_)
                ·
                  refine lit6_mk ?_
                  -- leaf 27 (pre)
                  rw [tx]
                  omega
                obtain ⟨r19, hr19, rfl⟩ := lit6_res hrs
                clear hrs
                change Fm.holds _ _ (lk [.i fs, .l l, .i af, .i ad, .i ag, .b r5, .l r6, .v r7, .l r8, .i x9, .l x10, .l x11, .l r12, .l r13, .l r14, .b r15, .l r16, .b r17, .l r18, .l r19])
                refine vg_call (C := C_sameLatchs) rfl rfl (xs := [.l r18, .l r19]) rfl (fun hg => ?_) (fun rs hrs => ?_)
                ·
                  refine sameLatchs_mk ?_
                  -- leaf 28 (pre)
                  have b1 := litTo_len r14 (r14.gi 0 0).toNat
                  have b2 := lit6To_len r16 (r16.gi 0 0).toNat
                  rw [← hr18, tz] at b1
                  rw [← hr19, tx] at b2
                  omega
                obtain ⟨r20, hr20, rfl⟩ := sameLatchs_res hrs
                clear hrs
                change Fm.holds _ _ (lk [.i fs, .l l, .i af, .i ad, .i ag, .b r5, .l r6, .v r7, .l r8, .i x9, .l x10, .l x11, .l r12, .l r13, .l r14, .b r15, .l r16, .b r17, .l r18, .l r19, .b r20])
                refine vg_call (C := C_rlit) rfl rfl (xs := [.l r12]) rfl (fun hg => ?_) (fun rs hrs => ?_)
                ·
                  simp only [gd_cons, gd_nil, and_true] at hg
                  replace hg : (!r20) = false := hg
                  refine rlit_mk ?_
                  -- leaf 29 (pre)
                  rw [hr12, iz]
                  omega
                obtain ⟨r21, hr21, rfl⟩ := rlit_res hrs
                clear hrs
                change Fm.holds _ _ (lk [.i fs, .l l, .i af, .i ad, .i ag, .b r5, .l r6, .v r7, .l r8, .i x9, .l x10, .l x11, .l r12, .l r13, .l r14, .b r15, .l r16, .b r17, .l r18, .l r19, .b r20, .l r21])
                refine vg_call (C := C_ris) rfl rfl (xs := [.l r14, .i af, .i ad, .i ag]) rfl (fun hg => ?_) (fun rs hrs => ?_)
                ·
                  simp only [gd_cons, gd_nil, and_true] at hg
                  replace hg : (if (!r20) = true then true else (!((r21.len : Int) == (r13.len : Int)))) = false := hg
                  refine ris_mk ?_
                  -- leaf 30 (pre)
                  unfold i64R at qaf qad
                  omega
                obtain ⟨r22, hr22, rfl⟩ := ris_res hrs
                clear hrs
                change Fm.holds _ _ (lk [.i fs, .l l, .i af, .i ad, .i ag, .b r5, .l r6, .v r7, .l r8, .i x9, .l x10, .l x11, .l r12, .l r13, .l r14, .b r15, .l r16, .b r17, .l r18, .l r19, .b r20, .l r21, .b r22])
                refine vg_call (C := C_lights6) rfl rfl (xs := [.l r16, .i af, .i ad, .i ag]) rfl (fun hg => ?_) (fun rs hrs => ?_)
                ·
                  simp only [gd_cons, gd_nil, and_true] at hg
                  replace hg : (if (!r20) = true then true else (!((r21.len : Int) == (r13.len : Int)))) = false := hg
                  refine lights6_mk ?_
                  -- leaf 31 (pre)
                  rw [tx]
                  omega
                obtain ⟨r23, hr23, rfl⟩ := lights6_res hrs
                clear hrs
                change Fm.holds _ _ (lk [.i fs, .l l, .i af, .i ad, .i ag, .b r5, .l r6, .v r7, .l r8, .i x9, .l x10, .l x11, .l r12, .l r13, .l r14, .b r15, .l r16, .b r17, .l r18, .l r19, .b r20, .l r21, .b r22, .b r23])
                refine vg_call (C := C_rgen) rfl rfl (xs := [.l r14, .i af, .i ad]) rfl (fun hg => ?_) (fun rs hrs => ?_)
                ·
                  simp only [gd_cons, gd_nil, and_true] at hg
                  replace hg : (if (if (!r20) = true then true else (!((r21.len : Int) == (r13.len : Int)))) = true then true else (!(r22 == r23))) = false := hg
                  refine rgen_mk ?_
                  -- leaf 32 (pre)
                  unfold i64R at qaf qad
                  omega
                obtain ⟨r24, hr24, rfl⟩ := rgen_res hrs
                clear hrs
                change Fm.holds _ _ (lk [.i fs, .l l, .i af, .i ad, .i ag, .b r5, .l r6, .v r7, .l r8, .i x9, .l x10, .l x11, .l r12, .l r13, .l r14, .b r15, .l r16, .b r17, .l r18, .l r19, .b r20, .l r21, .b r22, .b r23, .i r24])
                refine vg_call (C := C_genOr6) rfl rfl (xs := [.l r16, .i af, .i ad]) rfl (fun hg => ?_) (fun rs hrs => ?_)
                ·
                  simp only [gd_cons, gd_nil, and_true] at hg
                  replace hg : (if (if (!r20) = true then true else (!((r21.len : Int) == (r13.len : Int)))) = true then true else (!(r22 == r23))) = false := hg
                  refine genOr6_mk ?_
                  -- leaf 33 (pre)
                  rw [tx]
                  omega
                obtain ⟨r25, hr25, rfl⟩ := genOr6_res hrs
                clear hrs
                change Fm.holds _ _ (lk [.i fs, .l l, .i af, .i ad, .i ag, .b r5, .l r6, .v r7, .l r8, .i x9, .l x10, .l x11, .l r12, .l r13, .l r14, .b r15, .l r16, .b r17, .l r18, .l r19, .b r20, .l r21, .b r22, .b r23, .i r24, .i r25])
                refine ⟨fun hcond => ?_, fun hcond => ?_⟩
                ·
                  have c18 : (if (if (if (!r20) = true then true else (!((r21.len : Int) == (r13.len : Int)))) = true then true else (!(r22 == r23))) = true then true else (!(r24 == r25))) = true := hcond
                  clear hcond
                  suffices hfin : (false) = (true) from (c_b hfin rfl)
                  -- leaf 34 (ret)
                  have e1 : r20 = true := by rw [hr20, hr18, hr19, tz, tx, tl]; exact sameLt_refl _
                  have e2 : (r21.len : Int) = r13.len := by rw [hr21, hr12, hr13]
                  have e3 : r22 = r23 := by rw [hr22, hr23]; exact rel_is hrel qaf qad
                  have e4 : r24 = r25 := by rw [hr24, hr25]; exact rel_gen hrel qaf qad
                  rw [e1, e2, e3, e4] at c18
                  simp at c18
                ·
                  have c19 : (if (if (if (!r20) = true then true else (!((r21.len : Int) == (r13.len : Int)))) = true then true else (!(r22 == r23))) = true then true else (!(r24 == r25))) = false := hcond
                  clear hcond
                  refine ⟨?_, ?_⟩
                  ·
                    show inv_RiserPlaysIn_13 fs l (IntKind.wrap .i64 (x9 + (1 : Int))) r14 r16
                    -- leaf 35 (back)
                    rw [w9]
                    obtain ⟨z1, z2, z3, z4⟩ := hrel
                    exact ⟨by omega, by omega, z1, z2, fun f d h1 h2 => ⟨fun hm => by obtain ⟨a1, a2, a3, a4, a5⟩ := (z3 f d h1 h2).1 hm; exact ⟨a1, a2, by omega, a4, a5⟩, (z3 f d h1 h2).2⟩, z4⟩
                  ·
                    show meas_RiserPlaysIn_13 fs l (IntKind.wrap .i64 (x9 + (1 : Int))) r14 r16 < meas_RiserPlaysIn_13 fs l x9 x10 x11
                    -- leaf 36 (meas)
                    unfold meas_RiserPlaysIn_13
                    rw [w9]
                    omega
          ·
            have c20 : (decide (x9 < (l.len : Int))) = false := hcond
            clear hcond
            refine vg_call (C := C_may) rfl rfl (xs := [.i fs, .i af, .i ad]) rfl (fun hg => ?_) (fun rs hrs => ?_)
            ·
              simp only [gd_cons, gd_nil, and_true] at hg
              replace hg : r5 = true := hg
              refine may_mk ?_
              -- leaf 37 (pre)
              unfold i64R at qaf qad
              omega
            obtain ⟨r12, hr12, rfl⟩ := may_res hrs
            clear hrs
            change Fm.holds _ _ (lk [.i fs, .l l, .i af, .i ad, .i ag, .b r5, .l r6, .v r7, .l r8, .i x9, .l x10, .l x11, .b r12])
            refine vg_call (C := C_may6) rfl rfl (xs := [.i fs, .i af, .i ad]) rfl (fun hg => ?_) (fun rs hrs => ?_)
            ·
              simp only [gd_cons, gd_nil, and_true] at hg
              replace hg : r5 = true := hg
              refine may6_mk ?_
              -- leaf 38 (pre)
              omega
            obtain ⟨r13, hr13, rfl⟩ := may6_res hrs
            clear hrs
            change Fm.holds _ _ (lk [.i fs, .l l, .i af, .i ad, .i ag, .b r5, .l r6, .v r7, .l r8, .i x9, .l x10, .l x11, .b r12, .b r13])
            suffices hfin : ((r12 == r13)) = (true) from (c_b hfin rfl)
            -- leaf 39 (ret)
            rw [hr12, hr13]
            simp
end Go.Proofs.YtccdhkmohimfhaaDoor
