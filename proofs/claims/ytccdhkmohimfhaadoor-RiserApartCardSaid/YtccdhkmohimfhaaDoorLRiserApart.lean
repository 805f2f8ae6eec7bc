import Derived.Test.YtccdhkmohimfhaaDoorVRiserApart
namespace Go.Proofs.YtccdhkmohimfhaaDoor
open Go.Vg
set_option linter.unusedVariables false
set_option linter.unusedSimpArgs false
open Go
theorem lrng_i64 {ek : List EK} {x : LV} (h : LV.rng ek x) {i : Int} {c : Nat} (h0 : 0 ≤ i) (h1 : i < x.len) (hc : ek[c]? = some (.int .i64)) : -9223372036854775808 ≤ x.gi (Int.toNat i) c ∧ x.gi (Int.toNat i) c < 9223372036854775808 := by
  have h2 := h.2 i.toNat c .i64 (by omega) hc
  have h3 := wf_has h2
  have e1 : IntKind.min .i64 = -9223372036854775808 := by decide
  have e2 : IntKind.max .i64 = 9223372036854775807 := by decide
  rw [e1, e2] at h3
  omega

theorem i64_floor {g : Int} {k : Nat} (h0 : 0 ≤ g) (h1 : g < k) (hk : k ≤ 1000) : i64R g := i64_small (by omega)
theorem i64_dir {e : Int} (h : e = 1 ∨ e = -1) : i64R e := i64_small (by omega)
theorem apart_press {x : LV} {n f d : Int} (hn : 0 ≤ n ∧ n ≤ 1000) (h : ApartOk x n) (hf : i64R f) (hd : i64R d) :
    ApartOk (pressR x f d) (n + 1) ∧ (∀ g e, i64R g → i64R e → ¬ (g = f ∧ e = d) → litR (pressR x f d) g e = litR x g e ∧ genR (pressR x f d) g e = genR x g e) ∧
      (pressIs x f d = true → cntL (pressR x f d) 7 = cntL x 7 + 1 ∧ isR (pressR x f d) f d (pressG x f d) = true) ∧ (pressIs x f d = false → cntL (pressR x f d) 7 = cntL x 7) := by
  obtain ⟨z, hm, hg⟩ := h
  obtain ⟨g1, g2⟩ := hg f d hf hd
  have w : IntKind.wrap .i64 (genR x f d + 1) = genR x f d + 1 := wrap_in (by omega) (by omega)
  have hl : ∀ g e, i64R g → i64R e → litR (pressR x f d) g e = if pressIs x f d = true ∧ g = f ∧ e = d then genR x f d + 1 else litR x g e := fun g e h1 h2 => by rw [press_lit hf hd h1 h2, w]
  have hgn : ∀ g e, i64R g → i64R e → genR (pressR x f d) g e = if pressIs x f d = true ∧ g = f ∧ e = d then genR x f d + 1 else genR x g e := fun g e h1 h2 => by rw [press_gen hf hd h1 h2, w]
  refine ⟨⟨by rw [press_zero hf hd, z], fun g e h1 h2 h3 => ?_, fun g e h1 h2 => ?_⟩, fun g e h1 h2 h3 => ?_, fun hp => ?_, fun hp => by rw [press_no hp]⟩
  · rw [hl g e h1 h2] at h3
    by_cases hh : pressIs x f d = true ∧ g = f ∧ e = d
    · obtain ⟨hp, rfl, rfl⟩ := hh
      rw [← z]
      exact (pressIs_iff.1 hp).1
    · rw [if_neg hh] at h3
      exact hm g e h1 h2 h3
  · have := hg g e h1 h2
    rw [hgn g e h1 h2]
    split <;> omega
  · rw [hl g e h1 h2, hgn g e h1 h2, if_neg (fun hh => h3 hh.2), if_neg (fun hh => h3 hh.2)]
    exact ⟨rfl, rfl⟩
  · obtain ⟨p1, p2⟩ := pressIs_iff.1 hp
    rw [z] at p1
    have q := mayP_iff.1 p1
    have y : litR (pressR x f d) f d = genR x f d + 1 := by rw [hl f d hf hd, if_pos ⟨hp, rfl, rfl⟩]
    refine ⟨cntL_one (r := x) (f0 := f) (d0 := d) q.1 (by omega) (by rw [y]; omega) p2 7 q.2.1 (fun g e h1 h2 h3 h4 => ?_), ?_⟩
    · rw [hl g e (i64_floor h1 h2 (by omega)) (i64_dir h3), if_neg (fun hh => h4 hh.2)]
    · rw [isR_iff, press_G hf hd, if_pos hp, w, y]
      exact ⟨by omega, rfl⟩
theorem apart_clear {x : LV} {n f d k : Int} (h : ApartOk x n) (hf : i64R f) (hd : i64R d) :
    ApartOk (clearR x f d k) n ∧ (∀ g e, i64R g → i64R e → ¬ (g = f ∧ e = d) → litR (clearR x f d k) g e = litR x g e ∧ genR (clearR x f d k) g e = genR x g e) ∧
      (isR x f d k = true → cntL x 7 = cntL (clearR x f d k) 7 + 1) ∧ (isR x f d k = false → cntL (clearR x f d k) 7 = cntL x 7) := by
  obtain ⟨z, hm, hg⟩ := h
  have hl : ∀ g e, i64R g → i64R e → litR (clearR x f d k) g e = if isR x f d k = true ∧ g = f ∧ e = d then 0 else litR x g e := fun g e h1 h2 => clear_lit hf hd h1 h2
  refine ⟨⟨by rw [clear_zero hf hd, z], fun g e h1 h2 h3 => ?_, fun g e h1 h2 => by rw [clear_gen hf hd h1 h2]; exact hg g e h1 h2⟩, fun g e h1 h2 h3 => ?_, fun hp => ?_, fun hp => by rw [clear_no hp]⟩
  · rw [hl g e h1 h2] at h3
    by_cases hh : isR x f d k = true ∧ g = f ∧ e = d
    · rw [if_pos hh] at h3
      omega
    · rw [if_neg hh] at h3
      exact hm g e h1 h2 h3
  · rw [hl g e h1 h2, clear_gen hf hd h1 h2, if_neg (fun hh => h3 hh.2)]
    exact ⟨rfl, rfl⟩
  · obtain ⟨p1, p2⟩ := isR_iff.1 hp
    have q := mayP_iff.1 (hm f d hf hd (by omega))
    refine cntL_one (r := clearR x f d k) (f0 := f) (d0 := d) q.1 (by omega) (by omega) (by rw [hl f d hf hd, if_pos ⟨hp, rfl, rfl⟩]; omega) 7 q.2.1 (fun g e h1 h2 h3 h4 => ?_)
    rw [hl g e (i64_floor h1 h2 (by omega)) (i64_dir h3), if_neg (fun hh => h4 hh.2)]
theorem cntL_le (r : LV) : ∀ k, cntL r k ≤ 2 * k
  | 0 => Nat.le_refl _
  | k + 1 => by
    have := cntL_le r k
    show cntL r k + _ + _ ≤ _
    split <;> split <;> omega


theorem RiserApart_sound : C_RiserApart.Sound Tryd.prog G 4 := by
  refine fn_ok mixed stable tbl_RiserApart [⟨11, [4, 11, 12, 13, 37, 38, 39, 40, 41, 42, 43, 44, 45, 46, 47, 48, 49, 50, 51, 52, 53, 54, 55, 56, 57, 58, 59, 60, 61, 62, 63, 64, 65, 66, 67, 68, 69, 70, 71, 72, 73, 74, 75, 76, 77, 78, 79, 80, 81, 82, 83, 84, 85, 86, 87, 88, 89, 90, 91, 92, 93, 94, 95, 96, 97, 98, 99, 100, 101], [10], [(1, 0)], [0, 1, 2], some (3, [.i64]), []⟩] Tryd.func4 (by kernel_rfl) phi_RiserApart vc_RiserApart ⟨first10_sound, rnew_sound, may_sound, rpress_sound, rlit_sound, sameCall_sound, ris_sound, rclear_sound, rgen_sound, trivial⟩ inv_RiserApart meas_RiserApart ?_
  intro ls hp
  obtain ⟨l, f, d, rfl, hpre⟩ := RiserApart_pre hp
  clear hp
  rw [envOf_lk]
  unfold phi_RiserApart
  refine vg_call (C := C_first10) rfl rfl (xs := []) rfl (fun hg => ?_) (fun rs hrs => ?_)
  ·
    exact trivial
  obtain ⟨r3, hr3, rfl⟩ := first10_res hrs
  clear hrs
  change Fm.holds _ _ (lk [.l l, .i f, .i d, .b r3])
  obtain ⟨hL, hf0, hd0, -⟩ := hpre
  have qf : i64R f := hf0
  have qd : i64R d := hd0
  have q0 : i64R 0 := i64_small (by omega)
  refine ⟨fun hcond => ?_, fun hcond => ?_⟩
  ·
    have c1 : r3 = false := hcond
    clear hcond
    suffices hfin : (false) = (true) from (c_b hfin rfl)
    -- leaf 1 (ret)
    rw [hr3] at c1
    cases c1
  ·
    have c2 : r3 = true := hcond
    clear hcond
    refine vg_call (C := C_rnew) rfl rfl (xs := [.i (7 : Int)]) rfl (fun hg => ?_) (fun rs hrs => ?_)
    ·
      refine rnew_mk ?_
      -- leaf 2 (pre)
      omega
    obtain ⟨r4, r5, hr4, hr5, rfl⟩ := rnew_res hrs
    clear hrs
    change Fm.holds _ _ (lk [.l l, .i f, .i d, .b r3, .l r4, .v r5])
    have z4 : r4.gi 0 0 = 7 := by rw [hr4, new_zero]
    have l4 : ∀ f d, i64R f → i64R d → litR r4 f d = 0 := fun f d h1 h2 => by rw [hr4]; exact new_lit _ h1 h2
    have g4 : ∀ f d, i64R f → i64R d → genR r4 f d = 0 := fun f d h1 h2 => by rw [hr4]; exact new_gen _ h1 h2
    have ok4 : ApartOk r4 0 := ⟨z4, fun g e h1 h2 h3 => by rw [l4 g e h1 h2] at h3; omega, fun g e h1 h2 => by rw [g4 g e h1 h2]; omega⟩
    obtain ⟨u1, u2, u3, u4⟩ := apart_press (by omega) ok4 qf qd
    refine ⟨fun hcond => ?_, fun hcond => ?_⟩
    ·
      have c3 : (isNilV r5) = false := hcond
      clear hcond
      suffices hfin : (false) = (true) from (c_b hfin rfl)
      -- leaf 3 (ret)
      rw [hr5] at c3
      cases c3
    ·
      have c4 : (isNilV r5) = true := hcond
      clear hcond
      refine ⟨fun hcond => ?_, fun hcond => ?_⟩
      ·
        have c5 : (decide ((30 : Int) < (l.len : Int))) = true := hcond
        clear hcond
        suffices hfin : (r3) = (true) from (c_b hfin rfl)
        -- leaf 4 (ret)
        exact hr3
      ·
        have c6 : (decide ((30 : Int) < (l.len : Int))) = false := hcond
        clear hcond
        refine vg_call (C := C_rpress) rfl rfl (xs := [.l r4, .i f, .i d]) rfl (fun hg => ?_) (fun rs hrs => ?_)
        ·
          refine rpress_mk ?_
          -- leaf 5 (pre)
          rw [z4]
          unfold i64R at qf qd
          omega
        obtain ⟨r6, r7, r8, r9, r10, hr6, hr7, hr8, hr9, hr10, rfl⟩ := rpress_res hrs
        clear hrs
        change Fm.holds _ _ (lk [.l l, .i f, .i d, .b r3, .l r4, .v r5, .l r6, .i r7, .i r8, .i r9, .b r10])
        have hlen := of_decide_eq_false c6
        have ep : pressIs r4 f d = mayP 7 f d := by
          unfold pressIs
          rw [z4, l4 f d qf qd]
          simp
        have l6 : litR r6 f d = if mayP 7 f d = true then 1 else 0 := by
          rw [hr6, press_lit qf qd qf qd, ep, l4 f d qf qd, g4 f d qf qd]
          by_cases hm : mayP 7 f d = true
          · rw [if_pos ⟨hm, rfl, rfl⟩, if_pos hm]
            rfl
          · rw [if_neg (fun h => hm h.1), if_neg hm]
        have g6 : genR r6 f d = if mayP 7 f d = true then 1 else 0 := by
          rw [hr6, press_gen qf qd qf qd, ep, g4 f d qf qd]
          by_cases hm : mayP 7 f d = true
          · rw [if_pos ⟨hm, rfl, rfl⟩, if_pos hm]
            rfl
          · rw [if_neg (fun h => hm h.1), if_neg hm]
        have eG : pressG r4 f d = if mayP 7 f d = true then 1 else 0 := by
          rw [press_G qf qd, ep, g4 f d qf qd]
          rfl
        rw [← hr6] at u1
        rw [ep] at hr7 hr8 hr10
        rw [eG] at hr9
        refine vg_loop rfl ?_ (fun xs hfit hi => ?_)
        ·
          show inv_RiserApart_11 l f d (0 : Int) r6
          -- leaf 6 (init)
          refine ⟨by omega, by omega, ?_, l6, g6⟩
          exact u1
        obtain ⟨x11, xs0, rfl, hfit0⟩ := fits_i hfit
        obtain ⟨x12, xs1, rfl, hfit1⟩ := fits_l hfit0
        obtain rfl := fits_nil hfit1
        clear hfit hfit0 hfit1
        replace hi : inv_RiserApart_11 l f d x11 x12 := hi
        have hi11 := hi; clear hi
        change Fm.holds _ _ (lk [.l l, .i f, .i d, .b r3, .l r4, .v r5, .l r6, .i r7, .i r8, .i r9, .b r10, .i x11, .l x12])
        obtain ⟨i0, i1, iok, il, ig⟩ := hi11
        have i1' : x11 ≤ 30 := by omega
        refine ⟨fun hcond => ?_, fun hcond => ?_⟩
        ·
          have c7 : (decide (x11 < (l.len : Int))) = true := hcond
          clear hcond
          have h7 := of_decide_eq_true c7
          have w11 : IntKind.wrap .i64 (x11 + 1) = x11 + 1 := wrap_in (by omega) (by omega)
          have ql1 : i64R (l.gi (Int.toNat x11) 1) := lrng_i64 hL i0 h7 rfl
          have ql2 : i64R (l.gi (Int.toNat x11) 2) := lrng_i64 hL i0 h7 rfl
          refine ⟨fun hg => ?_, ?_⟩
          ·
            show (decide ((0 : Int) ≤ x11)) = true
            -- leaf 7 (ob)
            exact decide_eq_true i0
          refine vg_call (C := C_sameCall) rfl rfl (xs := [.i (l.gi (Int.toNat x11) 1), .i (l.gi (Int.toNat x11) 2), .i f, .i d]) rfl (fun hg => ?_) (fun rs hrs => ?_)
          ·
            exact trivial
          obtain ⟨r13, hr13, rfl⟩ := sameCall_res hrs
          clear hrs
          change Fm.holds _ _ (lk [.l l, .i f, .i d, .b r3, .l r4, .v r5, .l r6, .i r7, .i r8, .i r9, .b r10, .i x11, .l x12, .b r13])
          refine ⟨fun hcond => ?_, fun hcond => ?_⟩
          ·
            have c8 : r13 = true := hcond
            clear hcond
            refine ⟨?_, ?_⟩
            ·
              show inv_RiserApart_11 l f d (IntKind.wrap .i64 (x11 + (1 : Int))) x12
              -- leaf 8 (back)
              rw [w11]
              exact ⟨by omega, by omega, ⟨iok.1, iok.2.1, fun g e h1 h2 => by have := iok.2.2 g e h1 h2; omega⟩, il, ig⟩
            ·
              show meas_RiserApart_11 l f d (IntKind.wrap .i64 (x11 + (1 : Int))) x12 < meas_RiserApart_11 l f d x11 x12
              -- leaf 9 (meas)
              unfold meas_RiserApart_11
              rw [w11]
              omega
          ·
            have c9 : r13 = false := hcond
            clear hcond
            have nq : ¬ (f = l.gi (Int.toNat x11) 1 ∧ d = l.gi (Int.toNat x11) 2) := fun h => by
              rw [hr13, ← h.1, ← h.2] at c9
              simp at c9
            refine vg_call (C := C_rlit) rfl rfl (xs := [.l x12]) rfl (fun hg => ?_) (fun rs hrs => ?_)
            ·
              refine rlit_mk ?_
              -- leaf 10 (pre)
              rw [iok.1]
              omega
            obtain ⟨r14, hr14, rfl⟩ := rlit_res hrs
            clear hrs
            change Fm.holds _ _ (lk [.l l, .i f, .i d, .b r3, .l r4, .v r5, .l r6, .i r7, .i r8, .i r9, .b r10, .i x11, .l x12, .b r13, .l r14])
            rw [iok.1] at hr14
            have b14 := cntL_le x12 7
            have n14 : (r14.len : Int) = cntL x12 7 := by rw [hr14, litTo_cnt]; rfl
            refine ⟨fun hcond => ?_, fun hcond => ?_⟩
            ·
              have c10 : ((l.gi (Int.toNat x11) 0) == (1 : Int)) = true := hcond
              clear hcond
              refine vg_call (C := C_rpress) rfl rfl (xs := [.l x12, .i (l.gi (Int.toNat x11) 1), .i (l.gi (Int.toNat x11) 2)]) rfl (fun hg => ?_) (fun rs hrs => ?_)
              ·
                refine rpress_mk ?_
                -- leaf 11 (pre)
                rw [iok.1]
                unfold i64R at ql1 ql2
                omega
              obtain ⟨r15, r16, r17, r18, r19, hr15, hr16, hr17, hr18, hr19, rfl⟩ := rpress_res hrs
              clear hrs
              change Fm.holds _ _ (lk [.l l, .i f, .i d, .b r3, .l r4, .v r5, .l r6, .i r7, .i r8, .i r9, .b r10, .i x11, .l x12, .b r13, .l r14, .l r15, .i r16, .i r17, .i r18, .b r19])
              obtain ⟨v1, v2, v3, v4⟩ := apart_press (by omega) iok ql1 ql2
              rw [← hr15] at v1 v2 v3 v4
              have b15 := cntL_le r15 7
              have wl : IntKind.wrap .i64 ((r14.len : Int) + 1) = (r14.len : Int) + 1 := wrap_in (by omega) (by omega)
              refine vg_call (C := C_rlit) rfl rfl (xs := [.l r15]) rfl (fun hg => ?_) (fun rs hrs => ?_)
              ·
                refine rlit_mk ?_
                -- leaf 12 (pre)
                rw [v1.1]
                omega
              obtain ⟨r20, hr20, rfl⟩ := rlit_res hrs
              clear hrs
              change Fm.holds _ _ (lk [.l l, .i f, .i d, .b r3, .l r4, .v r5, .l r6, .i r7, .i r8, .i r9, .b r10, .i x11, .l x12, .b r13, .l r14, .l r15, .i r16, .i r17, .i r18, .b r19, .l r20])
              rw [v1.1] at hr20
              have n20 : (r20.len : Int) = cntL r15 7 := by rw [hr20, litTo_cnt]; rfl
              refine vg_call (C := C_ris) rfl rfl (xs := [.l r15, .i r16, .i r17, .i r18]) rfl (fun hg => ?_) (fun rs hrs => ?_)
              ·
                simp only [gd_cons, gd_nil, and_true] at hg
                replace hg : r19 = true ∧ (!(r19 == ((r20.len : Int) == (IntKind.wrap .i64 ((r14.len : Int) + (1 : Int)))))) = false := hg
                refine ris_mk ?_
                -- leaf 13 (pre)
                have hp' := hr19.symm.trans hg.1
                rw [hr16, hr17, if_pos hp', if_pos hp']
                unfold i64R at ql1 ql2
                omega
              obtain ⟨r21, hr21, rfl⟩ := ris_res hrs
              clear hrs
              change Fm.holds _ _ (lk [.l l, .i f, .i d, .b r3, .l r4, .v r5, .l r6, .i r7, .i r8, .i r9, .b r10, .i x11, .l x12, .b r13, .l r14, .l r15, .i r16, .i r17, .i r18, .b r19, .l r20, .b r21])
              have c11' : (r19 = true → ((r20.len : Int) = (r14.len : Int) + 1 ∧ r21 = true)) ∧ (r19 = false → ¬ (r20.len : Int) = (r14.len : Int) + 1) := by
                constructor
                · intro hp
                  have hp' := hr19.symm.trans hp
                  obtain ⟨a1, a2⟩ := v3 hp'
                  refine ⟨by omega, ?_⟩
                  rw [hr21, hr16, hr17, hr18, if_pos hp', if_pos hp']
                  exact a2
                · intro hp
                  have a1 := v4 (hr19.symm.trans hp)
                  omega
              refine ⟨fun hcond => ?_, fun hcond => ?_⟩
              ·
                have c11 : (if (!(r19 == ((r20.len : Int) == (IntKind.wrap .i64 ((r14.len : Int) + (1 : Int)))))) = true then true else (if r19 = true then (!r21) else false)) = true := hcond
                clear hcond
                suffices hfin : (false) = (true) from (c_b hfin rfl)
                -- leaf 14 (ret)
                rw [wl] at c11
                cases hp : r19 with
                | true =>
                  obtain ⟨a1, a2⟩ := c11'.1 hp
                  rw [hp, a2, a1] at c11
                  simp at c11
                | false =>
                  have a1 := c11'.2 hp
                  rw [hp] at c11
                  simp [a1] at c11
              ·
                have c12 : (if (!(r19 == ((r20.len : Int) == (IntKind.wrap .i64 ((r14.len : Int) + (1 : Int)))))) = true then true else (if r19 = true then (!r21) else false)) = false := hcond
                clear hcond
                refine ⟨?_, ?_⟩
                ·
                  show inv_RiserApart_11 l f d (IntKind.wrap .i64 (x11 + (1 : Int))) r15
                  -- leaf 15 (back)
                  obtain ⟨a1, a2⟩ := v2 f d qf qd nq
                  rw [w11]
                  exact ⟨by omega, by omega, v1, by rw [a1, il], by rw [a2, ig]⟩
                ·
                  show meas_RiserApart_11 l f d (IntKind.wrap .i64 (x11 + (1 : Int))) r15 < meas_RiserApart_11 l f d x11 x12
                  -- leaf 16 (meas)
                  unfold meas_RiserApart_11
                  rw [w11]
                  omega
            ·
              have c13 : ((l.gi (Int.toNat x11) 0) == (1 : Int)) = false := hcond
              clear hcond
              refine vg_call (C := C_rclear) rfl rfl (xs := [.l x12, .i (l.gi (Int.toNat x11) 1), .i (l.gi (Int.toNat x11) 2), .i (l.gi (Int.toNat x11) 3)]) rfl (fun hg => ?_) (fun rs hrs => ?_)
              ·
                refine rclear_mk ?_
                -- leaf 17 (pre)
                unfold i64R at ql1 ql2
                omega
              obtain ⟨r15, r16, hr15, hr16, rfl⟩ := rclear_res hrs
              clear hrs
              change Fm.holds _ _ (lk [.l l, .i f, .i d, .b r3, .l r4, .v r5, .l r6, .i r7, .i r8, .i r9, .b r10, .i x11, .l x12, .b r13, .l r14, .l r15, .b r16])
              obtain ⟨v1, v2, v3, v4⟩ := apart_clear (k := l.gi (Int.toNat x11) 3) iok ql1 ql2
              rw [← hr15] at v1 v2 v3 v4
              have b15 := cntL_le r15 7
              have wl : IntKind.wrap .i64 ((r14.len : Int) - 1) = (r14.len : Int) - 1 := wrap_in (by omega) (by omega)
              refine vg_call (C := C_rlit) rfl rfl (xs := [.l r15]) rfl (fun hg => ?_) (fun rs hrs => ?_)
              ·
                refine rlit_mk ?_
                -- leaf 18 (pre)
                rw [v1.1]
                omega
              obtain ⟨r17, hr17, rfl⟩ := rlit_res hrs
              clear hrs
              change Fm.holds _ _ (lk [.l l, .i f, .i d, .b r3, .l r4, .v r5, .l r6, .i r7, .i r8, .i r9, .b r10, .i x11, .l x12, .b r13, .l r14, .l r15, .b r16, .l r17])
              rw [v1.1] at hr17
              have n17 : (r17.len : Int) = cntL r15 7 := by rw [hr17, litTo_cnt]; rfl
              have c14' : (r16 = true ↔ ((r17.len : Int) = (r14.len : Int) - 1)) := by
                constructor
                · intro hp
                  have a1 := v3 (hr16.symm.trans hp)
                  omega
                · intro hp
                  rw [← Bool.not_eq_false]
                  intro hq
                  have a1 := v4 (hr16.symm.trans hq)
                  omega
              refine ⟨fun hcond => ?_, fun hcond => ?_⟩
              ·
                have c14 : (r16 == ((r17.len : Int) == (IntKind.wrap .i64 ((r14.len : Int) - (1 : Int))))) = false := hcond
                clear hcond
                suffices hfin : (false) = (true) from (c_b hfin rfl)
                -- leaf 19 (ret)
                rw [wl] at c14
                cases hp : r16 with
                | true =>
                  have a1 := c14'.1 hp
                  rw [hp, a1] at c14
                  simp at c14
                | false =>
                  have a1 : ¬ (r17.len : Int) = (r14.len : Int) - 1 := fun h => by
                    rw [c14'.2 h] at hp
                    cases hp
                  rw [hp] at c14
                  simp [a1] at c14
              ·
                have c15 : (r16 == ((r17.len : Int) == (IntKind.wrap .i64 ((r14.len : Int) - (1 : Int))))) = true := hcond
                clear hcond
                refine ⟨?_, ?_⟩
                ·
                  show inv_RiserApart_11 l f d (IntKind.wrap .i64 (x11 + (1 : Int))) r15
                  -- leaf 20 (back)
                  obtain ⟨a1, a2⟩ := v2 f d qf qd nq
                  rw [w11]
                  exact ⟨by omega, by omega, ⟨v1.1, v1.2.1, fun g e h1 h2 => by have := v1.2.2 g e h1 h2; omega⟩, by rw [a1, il], by rw [a2, ig]⟩
                ·
                  show meas_RiserApart_11 l f d (IntKind.wrap .i64 (x11 + (1 : Int))) r15 < meas_RiserApart_11 l f d x11 x12
                  -- leaf 21 (meas)
                  unfold meas_RiserApart_11
                  rw [w11]
                  omega
        ·
          have c16 : (decide (x11 < (l.len : Int))) = false := hcond
          clear hcond
          refine vg_call (C := C_may) rfl rfl (xs := [.i (7 : Int), .i f, .i d]) rfl (fun hg => ?_) (fun rs hrs => ?_)
          ·
            refine may_mk ?_
            -- leaf 22 (pre)
            subst_vars
            try simp only [decide_eq_true_eq, decide_eq_false_iff_not] at *
            try simp (disch := omega) only [wrap_in]
            grind
          obtain ⟨r13, hr13, rfl⟩ := may_res hrs
          clear hrs
          change Fm.holds _ _ (lk [.l l, .i f, .i d, .b r3, .l r4, .v r5, .l r6, .i r7, .i r8, .i r9, .b r10, .i x11, .l x12, .b r13])
          refine vg_call (C := C_ris) rfl rfl (xs := [.l x12, .i r7, .i r8, .i r9]) rfl (fun hg => ?_) (fun rs hrs => ?_)
          ·
            simp only [gd_cons, gd_nil, and_true] at hg
            replace hg : (!r10) = false ∧ (r10 == r13) = true := hg
            refine ris_mk ?_
            -- leaf 23 (pre)
            subst_vars
            try simp only [decide_eq_true_eq, decide_eq_false_iff_not] at *
            try simp (disch := omega) only [wrap_in]
            grind
          obtain ⟨r14, hr14, rfl⟩ := ris_res hrs
          clear hrs
          change Fm.holds _ _ (lk [.l l, .i f, .i d, .b r3, .l r4, .v r5, .l r6, .i r7, .i r8, .i r9, .b r10, .i x11, .l x12, .b r13, .b r14])
          refine vg_call (C := C_rgen) rfl rfl (xs := [.l x12, .i f, .i d]) rfl (fun hg => ?_) (fun rs hrs => ?_)
          ·
            simp only [gd_cons, gd_nil, and_true] at hg
            replace hg : r14 = true ∧ (!r10) = false ∧ (r10 == r13) = true := hg
            refine rgen_mk ?_
            -- leaf 24 (pre)
            subst_vars
            try simp only [decide_eq_true_eq, decide_eq_false_iff_not] at *
            try simp (disch := omega) only [wrap_in]
            grind
          obtain ⟨r15, hr15, rfl⟩ := rgen_res hrs
          clear hrs
          change Fm.holds _ _ (lk [.l l, .i f, .i d, .b r3, .l r4, .v r5, .l r6, .i r7, .i r8, .i r9, .b r10, .i x11, .l x12, .b r13, .b r14, .i r15])
          refine ⟨fun hcond => ?_, fun hcond => ?_⟩
          ·
            have c17 : (if r14 = true then (r15 == (1 : Int)) else false) = true := hcond
            clear hcond
            refine ⟨fun hcond => ?_, fun hcond => ?_⟩
            ·
              have c18 : r10 = true := hcond
              clear hcond
              refine ⟨fun hcond => ?_, fun hcond => ?_⟩
              ·
                have c19 : (r10 == r13) = true := hcond
                clear hcond
                refine vg_call (C := C_rclear) rfl rfl (xs := [.l x12, .i r7, .i r8, .i r9]) rfl (fun hg => ?_) (fun rs hrs => ?_)
                ·
                  refine rclear_mk ?_
                  -- leaf 25 (pre)
                  subst_vars
                  try simp only [decide_eq_true_eq, decide_eq_false_iff_not] at *
                  try simp (disch := omega) only [wrap_in]
                  grind
                obtain ⟨r16, r17, hr16, hr17, rfl⟩ := rclear_res hrs
                clear hrs
                change Fm.holds _ _ (lk [.l l, .i f, .i d, .b r3, .l r4, .v r5, .l r6, .i r7, .i r8, .i r9, .b r10, .i x11, .l x12, .b r13, .b r14, .i r15, .l r16, .b r17])
                refine vg_call (C := C_ris) rfl rfl (xs := [.l r16, .i r7, .i r8, .i r9]) rfl (fun hg => ?_) (fun rs hrs => ?_)
                ·
                  simp only [gd_cons, gd_nil, and_true] at hg
                  replace hg : r17 = true := hg
                  refine ris_mk ?_
                  -- leaf 26 (pre)
                  subst_vars
                  try simp only [decide_eq_true_eq, decide_eq_false_iff_not] at *
                  try simp (disch := omega) only [wrap_in]
                  grind
                obtain ⟨r18, hr18, rfl⟩ := ris_res hrs
                clear hrs
                change Fm.holds _ _ (lk [.l l, .i f, .i d, .b r3, .l r4, .v r5, .l r6, .i r7, .i r8, .i r9, .b r10, .i x11, .l x12, .b r13, .b r14, .i r15, .l r16, .b r17, .b r18])
                suffices hfin : ((if r17 = true then (!r18) else false)) = (true) from (c_b hfin rfl)
                -- leaf 27 (ret)
                have m : mayP 7 f d = true := hr10.symm.trans c18
                rw [if_pos m] at hr7 hr8 hr9 il ig
                rw [hr7, hr8, hr9] at hr16 hr17 hr18
                have i17 : isR x12 f d 1 = true := isR_iff.2 ⟨by omega, il⟩
                have i18 : isR r16 f d 1 = false := isR_no (fun h => by
                  rw [hr16, clear_lit qf qd qf qd, if_pos ⟨i17, rfl, rfl⟩] at h
                  omega)
                rw [hr17, i17, hr18, i18]
                rfl
              ·
                have c20 : (r10 == r13) = false := hcond
                clear hcond
                suffices hfin : (false) = (true) from (c_b hfin rfl)
                -- leaf 28 (ret)
                rw [hr10, hr13] at c20
                simp at c20
            ·
              have c21 : r10 = false := hcond
              clear hcond
              suffices hfin : ((r10 == r13)) = (true) from (c_b hfin rfl)
              -- leaf 29 (ret)
              rw [hr10, hr13]
              simp
          ·
            have c22 : (if r14 = true then (r15 == (1 : Int)) else false) = false := hcond
            clear hcond
            suffices hfin : ((if (r10 == r13) = true then (!r10) else false)) = (true) from (c_b hfin rfl)
            -- leaf 30 (ret)
            have e : r10 = r13 := by rw [hr10, hr13]
            rw [← e]
            cases hm : r10 with
            | false => rfl
            | true =>
              have m : mayP 7 f d = true := hr10.symm.trans hm
              rw [if_pos m] at hr7 hr8 hr9 il ig
              rw [hr7, hr8, hr9] at hr14
              have i14 : isR x12 f d 1 = true := isR_iff.2 ⟨by omega, il⟩
              rw [hr14, i14, hr15, ig] at c22
              cases c22
end Go.Proofs.YtccdhkmohimfhaaDoor
