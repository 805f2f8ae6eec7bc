import Derived.Test.YtchjajnhbipkmaaDoorVEtaRuns
namespace Go.Proofs.YtchjajnhbipkmaaDoor
open Go.Vg
set_option linter.unusedVariables false
set_option linter.unusedSimpArgs false
open Go

theorem newRun_facts (hc hf hs hd cp cdir cdo : Int) (crl : Bool) (ch s0 s1 s2 fl dr : Int) : (newRun hc hf hs hd cp cdir cdo crl ch s0 s1 s2 fl dr).gi 14 0 = 0 ∧ (newRun hc hf hs hd cp cdir cdo crl ch s0 s1 s2 fl dr).gi 15 0 = 0 ∧ (newRun hc hf hs hd cp cdir cdo crl ch s0 s1 s2 fl dr).gi 6 0 = cdo ∧
    (newRun hc hf hs hd cp cdir cdo crl ch s0 s1 s2 fl dr).gi 18 0 = 0 ∧ etaR (newRun hc hf hs hd cp cdir cdo crl ch s0 s1 s2 fl dr) = etaP hc hf hs hd ⟨cp, cdir, cdo, crl, ch⟩ ⟨s0, s1, s2⟩ fl dr := ⟨rfl, rfl, rfl, rfl, rfl⟩
theorem ticks_facts {r : LV} (h : r.gi 14 0 = 0) (h2 : r.gi 18 0 = 0) : (ticksR r).gi 15 0 = r.gi 15 0 ∧ (ticksR r).gi 6 0 = r.gi 6 0 ∧ (ticksR r).gi 17 0 = etaR r ∧ (ticksR r).gi 18 0 = 1 ∧ ticksR (ticksR r) = ticksR r := by
  have e : ticksR r = (closR r).upd 14 1 := by unfold ticksR; rw [if_pos h]
  have e2 : (ticksR r).gi 14 0 = 1 := by rw [e]; rfl
  refine ⟨by rw [e]; rfl, by rw [e]; rfl, by rw [e]; rfl, ?_, ?_⟩
  · rw [e]
    show IntKind.wrap .i64 (r.gi 18 0 + 1) = 1
    rw [h2]
    rfl
  · rw [show ticksR (ticksR r) = if (ticksR r).gi 14 0 = 0 then (closR (ticksR r)).upd 14 1 else ticksR r from rfl, if_neg (by rw [e2]; decide)]


theorem EtaRuns_sound : C_EtaRuns.Sound Tryd.prog G 17 := by
  refine fn_ok mixed stable tbl_EtaRuns [⟨12, [12, 42, 43, 44, 45, 46, 47, 48, 49, 50, 51, 52, 53, 54, 55, 56, 57, 58, 59, 60, 61, 62, 63, 64], [16], [(5, 0)], [19, 21], some (3, [.i64]), []⟩] Tryd.func17 (by kernel_rfl) phi_EtaRuns vc_EtaRuns ⟨valid_sound, number_sound, first17_sound, eta_sound, enew_sound, etimes_sound, eticks_sound, trivial⟩ inv_EtaRuns meas_EtaRuns ?_
  intro ls hp
  obtain ⟨hc, hf, hs, hd, cp, cdir, cdo, crl, ch, s0, s1, s2, a1, a2, b1, b2, n, rfl, hpre⟩ := EtaRuns_pre hp
  clear hp
  rw [envOf_lk]
  unfold phi_EtaRuns
  refine vg_call (C := C_first17) rfl rfl (xs := []) rfl (fun hg => ?_) (fun rs hrs => ?_)
  ·
    exact trivial
  obtain ⟨r17, hr17, rfl⟩ := first17_res hrs
  clear hrs
  change Fm.holds _ _ (lk [.i hc, .i hf, .i hs, .i hd, .i cp, .i cdir, .i cdo, .b crl, .i ch, .i s0, .i s1, .i s2, .i a1, .i a2, .i b1, .i b2, .i n, .b r17])
  refine ⟨fun hcond => ?_, fun hcond => ?_⟩
  ·
    have c1 : r17 = false := hcond
    clear hcond
    suffices hfin : (false) = (true) from (c_b hfin rfl)
    -- leaf 1 (ret)
    subst_vars
    try simp only [decide_eq_true_eq, decide_eq_false_iff_not] at *
    try simp (disch := omega) only [wrap_in]
    grind
  ·
    have c2 : r17 = true := hcond
    clear hcond
    refine vg_call (C := C_valid) rfl rfl (xs := [.i hc, .i hf, .i hs, .i hd]) rfl (fun hg => ?_) (fun rs hrs => ?_)
    ·
      exact trivial
    obtain ⟨r18, hr18, rfl⟩ := valid_res hrs
    clear hrs
    change Fm.holds _ _ (lk [.i hc, .i hf, .i hs, .i hd, .i cp, .i cdir, .i cdo, .b crl, .i ch, .i s0, .i s1, .i s2, .i a1, .i a2, .i b1, .i b2, .i n, .b r17, .b r18])
    refine ⟨fun hcond => ?_, fun hcond => ?_⟩
    ·
      have c3 : r18 = false := hcond
      clear hcond
      suffices hfin : (r17) = (true) from (c_b hfin rfl)
      -- leaf 2 (ret)
      exact c2
    ·
      have c4 : r18 = true := hcond
      clear hcond
      refine vg_call (C := C_enew) rfl rfl (xs := [.i hc, .i hf, .i hs, .i hd, .i cp, .i cdir, .i cdo, .b crl, .i ch, .i s0, .i s1, .i s2, .i a1, .i a2]) rfl (fun hg => ?_) (fun rs hrs => ?_)
      ·
        exact trivial
      obtain ⟨r19, hr19, rfl⟩ := enew_res hrs
      clear hrs
      change Fm.holds _ _ (lk [.i hc, .i hf, .i hs, .i hd, .i cp, .i cdir, .i cdo, .b crl, .i ch, .i s0, .i s1, .i s2, .i a1, .i a2, .i b1, .i b2, .i n, .b r17, .b r18, .l r19])
      refine vg_call (C := C_enew) rfl rfl (xs := [.i hc, .i hf, .i hs, .i hd, .i cp, .i cdir, .i cdo, .b crl, .i ch, .i s0, .i s1, .i s2, .i b1, .i b2]) rfl (fun hg => ?_) (fun rs hrs => ?_)
      ·
        exact trivial
      obtain ⟨r20, hr20, rfl⟩ := enew_res hrs
      clear hrs
      change Fm.holds _ _ (lk [.i hc, .i hf, .i hs, .i hd, .i cp, .i cdir, .i cdo, .b crl, .i ch, .i s0, .i s1, .i s2, .i a1, .i a2, .i b1, .i b2, .i n, .b r17, .b r18, .l r19, .l r20])
      have F := newRun_facts hc hf hs hd cp cdir cdo crl ch s0 s1 s2 a1 a2
      rw [← hr19] at F
      have T := ticks_facts F.1 F.2.2.2.1
      have F2 := newRun_facts hc hf hs hd cp cdir cdo crl ch s0 s1 s2 b1 b2
      rw [← hr20] at F2
      have T2 := ticks_facts F2.1 F2.2.2.2.1
      refine vg_call (C := C_number) rfl rfl (xs := [.i n, .i (9 : Int)]) rfl (fun hg => ?_) (fun rs hrs => ?_)
      ·
        refine number_mk ?_
        -- leaf 3 (pre)
        omega
      obtain ⟨r21, hr21, rfl⟩ := number_res hrs
      clear hrs
      change Fm.holds _ _ (lk [.i hc, .i hf, .i hs, .i hd, .i cp, .i cdir, .i cdo, .b crl, .i ch, .i s0, .i s1, .i s2, .i a1, .i a2, .i b1, .i b2, .i n, .b r17, .b r18, .l r19, .l r20, .i r21])
      have n1 := number_range n (b := 9) (by omega)
      rw [← hr21] at n1
      refine vg_loop rfl ?_ (fun xs hfit hi => ?_)
      ·
        show inv_EtaRuns_12 r19 r21 (0 : Int) r19
        -- leaf 4 (init)
        exact ⟨by omega, by omega, (if_pos rfl).symm⟩
      obtain ⟨x22, xs0, rfl, hfit0⟩ := fits_i hfit
      obtain ⟨x23, xs1, rfl, hfit1⟩ := fits_l hfit0
      obtain rfl := fits_nil hfit1
      clear hfit hfit0 hfit1
      replace hi : inv_EtaRuns_12 r19 r21 x22 x23 := hi
      have hi12 := hi; clear hi
      change Fm.holds _ _ (lk [.i hc, .i hf, .i hs, .i hd, .i cp, .i cdir, .i cdo, .b crl, .i ch, .i s0, .i s1, .i s2, .i a1, .i a2, .i b1, .i b2, .i n, .b r17, .b r18, .l r19, .l r20, .i r21, .i x22, .l x23])
      obtain ⟨i0, i1, i2⟩ := hi12
      have e1 : x22 < r21 → IntKind.wrap .i64 (x22 + 1) = x22 + 1 := fun h => wrap_in (by omega) (by omega)
      have X : x23.gi 15 0 = 0 ∧ x23.gi 6 0 = cdo ∧ ticksR x23 = ticksR r19 := by
        rw [i2]
        split
        · exact ⟨F.2.1, F.2.2.1, rfl⟩
        · exact ⟨T.1.trans F.2.1, T.2.1.trans F.2.2.1, T.2.2.2.2⟩
      refine ⟨fun hcond => ?_, fun hcond => ?_⟩
      ·
        have c5 : (decide (x22 < r21)) = true := hcond
        clear hcond
        refine vg_call (C := C_eticks) rfl rfl (xs := [.l x23]) rfl (fun hg => ?_) (fun rs hrs => ?_)
        ·
          refine eticks_mk ?_
          -- leaf 5 (pre)
          exact ⟨X.1, by rw [X.2.1]; omega, by rw [X.2.1]; omega⟩
        obtain ⟨r24, r25, hr24, hr25, rfl⟩ := eticks_res hrs
        clear hrs
        change Fm.holds _ _ (lk [.i hc, .i hf, .i hs, .i hd, .i cp, .i cdir, .i cdo, .b crl, .i ch, .i s0, .i s1, .i s2, .i a1, .i a2, .i b1, .i b2, .i n, .b r17, .b r18, .l r19, .l r20, .i r21, .i x22, .l x23, .l r24, .i r25])
        refine vg_call (C := C_eta) rfl rfl (xs := [.i hc, .i hf, .i hs, .i hd, .i cp, .i cdir, .i cdo, .b crl, .i ch, .i s0, .i s1, .i s2, .i a1, .i a2]) rfl (fun hg => ?_) (fun rs hrs => ?_)
        ·
          refine eta_mk ?_
          -- leaf 6 (pre)
          omega
        obtain ⟨r26, hr26, rfl⟩ := eta_res hrs
        clear hrs
        change Fm.holds _ _ (lk [.i hc, .i hf, .i hs, .i hd, .i cp, .i cdir, .i cdo, .b crl, .i ch, .i s0, .i s1, .i s2, .i a1, .i a2, .i b1, .i b2, .i n, .b r17, .b r18, .l r19, .l r20, .i r21, .i x22, .l x23, .l r24, .i r25, .i r26])
        refine vg_call (C := C_etimes) rfl rfl (xs := [.l r24]) rfl (fun hg => ?_) (fun rs hrs => ?_)
        ·
          exact trivial
        obtain ⟨r27, hr27, rfl⟩ := etimes_res hrs
        clear hrs
        change Fm.holds _ _ (lk [.i hc, .i hf, .i hs, .i hd, .i cp, .i cdir, .i cdo, .b crl, .i ch, .i s0, .i s1, .i s2, .i a1, .i a2, .i b1, .i b2, .i n, .b r17, .b r18, .l r19, .l r20, .i r21, .i x22, .l x23, .l r24, .i r25, .i r26, .i r27])
        refine vg_call (C := C_etimes) rfl rfl (xs := [.l r20]) rfl (fun hg => ?_) (fun rs hrs => ?_)
        ·
          exact trivial
        obtain ⟨r28, hr28, rfl⟩ := etimes_res hrs
        clear hrs
        change Fm.holds _ _ (lk [.i hc, .i hf, .i hs, .i hd, .i cp, .i cdir, .i cdo, .b crl, .i ch, .i s0, .i s1, .i s2, .i a1, .i a2, .i b1, .i b2, .i n, .b r17, .b r18, .l r19, .l r20, .i r21, .i x22, .l x23, .l r24, .i r25, .i r26, .i r27, .i r28])
        refine ⟨fun hcond => ?_, fun hcond => ?_⟩
        ·
          have c6 : (if (if (!(r25 == r26)) = true then true else (!(r27 == (1 : Int)))) = true then true else (!(r28 == (0 : Int)))) = true := hcond
          clear hcond
          suffices hfin : (false) = (true) from (c_b hfin rfl)
          -- leaf 7 (ret)
          rw [X.2.2] at hr24 hr25
          rw [T.2.2.1, F.2.2.2.2] at hr25
          rw [hr24, T.2.2.2.1] at hr27
          rw [F2.2.2.2.1] at hr28
          rw [hr25, hr26, hr27, hr28] at c6
          simp at c6
        ·
          have c7 : (if (if (!(r25 == r26)) = true then true else (!(r27 == (1 : Int)))) = true then true else (!(r28 == (0 : Int)))) = false := hcond
          clear hcond
          refine ⟨?_, ?_⟩
          ·
            show inv_EtaRuns_12 r19 r21 (IntKind.wrap .i64 (x22 + (1 : Int))) r24
            -- leaf 8 (back)
            have hlt := of_decide_eq_true c5
            rw [e1 hlt]
            refine ⟨by omega, by omega, ?_⟩
            rw [if_neg (by omega), hr24, X.2.2]
          ·
            show meas_EtaRuns_12 r19 r21 (IntKind.wrap .i64 (x22 + (1 : Int))) r24 < meas_EtaRuns_12 r19 r21 x22 x23
            -- leaf 9 (meas)
            have hlt := of_decide_eq_true c5
            unfold meas_EtaRuns_12
            rw [e1 hlt]
            omega
      ·
        have c8 : (decide (x22 < r21)) = false := hcond
        clear hcond
        refine vg_call (C := C_etimes) rfl rfl (xs := [.l x23]) rfl (fun hg => ?_) (fun rs hrs => ?_)
        ·
          exact trivial
        obtain ⟨r24, hr24, rfl⟩ := etimes_res hrs
        clear hrs
        change Fm.holds _ _ (lk [.i hc, .i hf, .i hs, .i hd, .i cp, .i cdir, .i cdo, .b crl, .i ch, .i s0, .i s1, .i s2, .i a1, .i a2, .i b1, .i b2, .i n, .b r17, .b r18, .l r19, .l r20, .i r21, .i x22, .l x23, .i r24])
        refine ⟨fun hcond => ?_, fun hcond => ?_⟩
        ·
          have c9 : (r24 == (if (decide ((1 : Int) < r21)) = true then (1 : Int) else r21)) = true := hcond
          clear hcond
          refine vg_call (C := C_eticks) rfl rfl (xs := [.l r20]) rfl (fun hg => ?_) (fun rs hrs => ?_)
          ·
            refine eticks_mk ?_
            -- leaf 10 (pre)
            exact ⟨F2.2.1, by rw [F2.2.2.1]; omega, by rw [F2.2.2.1]; omega⟩
          obtain ⟨r25, r26, hr25, hr26, rfl⟩ := eticks_res hrs
          clear hrs
          change Fm.holds _ _ (lk [.i hc, .i hf, .i hs, .i hd, .i cp, .i cdir, .i cdo, .b crl, .i ch, .i s0, .i s1, .i s2, .i a1, .i a2, .i b1, .i b2, .i n, .b r17, .b r18, .l r19, .l r20, .i r21, .i x22, .l x23, .i r24, .l r25, .i r26])
          refine vg_call (C := C_eta) rfl rfl (xs := [.i hc, .i hf, .i hs, .i hd, .i cp, .i cdir, .i cdo, .b crl, .i ch, .i s0, .i s1, .i s2, .i b1, .i b2]) rfl (fun hg => ?_) (fun rs hrs => ?_)
          ·
            refine eta_mk ?_
            -- leaf 11 (pre)
            omega
          obtain ⟨r27, hr27, rfl⟩ := eta_res hrs
          clear hrs
          change Fm.holds _ _ (lk [.i hc, .i hf, .i hs, .i hd, .i cp, .i cdir, .i cdo, .b crl, .i ch, .i s0, .i s1, .i s2, .i a1, .i a2, .i b1, .i b2, .i n, .b r17, .b r18, .l r19, .l r20, .i r21, .i x22, .l x23, .i r24, .l r25, .i r26, .i r27])
          refine vg_call (C := C_etimes) rfl rfl (xs := [.l r25]) rfl (fun hg => ?_) (fun rs hrs => ?_)
          ·
            exact trivial
          obtain ⟨r28, hr28, rfl⟩ := etimes_res hrs
          clear hrs
          change Fm.holds _ _ (lk [.i hc, .i hf, .i hs, .i hd, .i cp, .i cdir, .i cdo, .b crl, .i ch, .i s0, .i s1, .i s2, .i a1, .i a2, .i b1, .i b2, .i n, .b r17, .b r18, .l r19, .l r20, .i r21, .i x22, .l x23, .i r24, .l r25, .i r26, .i r27, .i r28])
          suffices hfin : ((if (r26 == r27) = true then (r28 == (1 : Int)) else false)) = (true) from (c_b hfin rfl)
          -- leaf 12 (ret)
          rw [T2.2.2.1, F2.2.2.2.2] at hr26
          rw [hr25, T2.2.2.2.1] at hr28
          rw [hr26, hr27, hr28]
          simp
        ·
          have c10 : (r24 == (if (decide ((1 : Int) < r21)) = true then (1 : Int) else r21)) = false := hcond
          clear hcond
          suffices hfin : (false) = (true) from (c_b hfin rfl)
          -- leaf 13 (ret)
          exfalso
          have hge := of_decide_eq_false c8
          rw [hr24, i2] at c10
          split at c10
          · rw [F.2.2.2.1] at c10
            have : r21 = 0 := by omega
            rw [this] at c10
            simp at c10
          · rw [T.2.2.2.1] at c10
            have h1 : ((1 : Int) == if decide ((1 : Int) < r21) = true then (1 : Int) else r21) = true := by
              by_cases h : (1 : Int) < r21
              · simp [h]
              · have : r21 = 1 := by omega
                simp [this]
            rw [h1] at c10
            cases c10
end Go.Proofs.YtchjajnhbipkmaaDoor
