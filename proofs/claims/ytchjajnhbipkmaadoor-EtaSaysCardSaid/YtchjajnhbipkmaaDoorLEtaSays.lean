import Derived.Test.YtchjajnhbipkmaaDoorVEtaSays
namespace Go.Proofs.YtchjajnhbipkmaaDoor
open Go.Vg
set_option linter.unusedVariables false
set_option linter.unusedSimpArgs false
open Go

theorem newRun_facts (hc hf hs hd cp cdir cdo : Int) (crl : Bool) (ch s0 s1 s2 fl dr : Int) : (newRun hc hf hs hd cp cdir cdo crl ch s0 s1 s2 fl dr).gi 14 0 = 0 ∧ (newRun hc hf hs hd cp cdir cdo crl ch s0 s1 s2 fl dr).gi 15 0 = 0 ∧ (newRun hc hf hs hd cp cdir cdo crl ch s0 s1 s2 fl dr).gi 6 0 = cdo ∧
    (newRun hc hf hs hd cp cdir cdo crl ch s0 s1 s2 fl dr).gi 18 0 = 0 ∧ etaR (newRun hc hf hs hd cp cdir cdo crl ch s0 s1 s2 fl dr) = etaP hc hf hs hd ⟨cp, cdir, cdo, crl, ch⟩ ⟨s0, s1, s2⟩ fl dr := ⟨rfl, rfl, rfl, rfl, rfl⟩
theorem ticks_facts {r : LV} (h : r.gi 14 0 = 0) (h2 : r.gi 18 0 = 0) : (ticksR r).gi 15 0 = r.gi 15 0 ∧ (ticksR r).gi 6 0 = r.gi 6 0 ∧ (ticksR r).gi 17 0 = etaR r ∧ (ticksR r).gi 18 0 = 1 ∧ ticksR (ticksR r) = ticksR r := by
  have e : ticksR r = (closR r).upd 14 1 := by unfold ticksR; rw [if_pos h]
  have e2 : (ticksR r).gi 14 0 = 1 := by rw [e]; rfl
  refine ⟨by rw [e]; rfl, by rw [e]; rfl, by rw [e]; rfl, ?_, ?_⟩
  · rw [e]
    show IntKind.wrap .i64 (r.gi 18 0 + 1) = 1
    rw [h2]
    rfl
  · rw [show ticksR (ticksR r) = if (ticksR r).gi 14 0 = 0 then (closR (ticksR r)).upd 14 1 else ticksR r from rfl, if_neg (by rw [e2]; decide)]


theorem EtaSays_sound : C_EtaSays.Sound Tryd.prog G 16 := by
  refine fn_ok mixed stable tbl_EtaSays [] Tryd.func16 (by kernel_rfl) phi_EtaSays vc_EtaSays ⟨valid_sound, first17_sound, eta_sound, reta_sound, enew_sound, etimes_sound, eticks_sound, trivial⟩ (fun _ _ _ => False) (fun _ _ _ => 0) ?_
  intro ls hp
  obtain ⟨hc, hf, hs, hd, cp, cdir, cdo, crl, ch, s0, s1, s2, a1, a2, rfl, hpre⟩ := EtaSays_pre hp
  clear hp
  rw [envOf_lk]
  unfold phi_EtaSays
  refine vg_call (C := C_first17) rfl rfl (xs := []) rfl (fun hg => ?_) (fun rs hrs => ?_)
  ·
    exact trivial
  obtain ⟨r14, hr14, rfl⟩ := first17_res hrs
  clear hrs
  change Fm.holds _ _ (lk [.i hc, .i hf, .i hs, .i hd, .i cp, .i cdir, .i cdo, .b crl, .i ch, .i s0, .i s1, .i s2, .i a1, .i a2, .b r14])
  refine ⟨fun hcond => ?_, fun hcond => ?_⟩
  ·
    have c1 : r14 = false := hcond
    clear hcond
    suffices hfin : (false) = (true) from (c_b hfin rfl)
    -- leaf 1 (ret)
    subst_vars
    try simp only [decide_eq_true_eq, decide_eq_false_iff_not] at *
    try simp (disch := omega) only [wrap_in]
    grind
  ·
    have c2 : r14 = true := hcond
    clear hcond
    refine vg_call (C := C_valid) rfl rfl (xs := [.i hc, .i hf, .i hs, .i hd]) rfl (fun hg => ?_) (fun rs hrs => ?_)
    ·
      exact trivial
    obtain ⟨r15, hr15, rfl⟩ := valid_res hrs
    clear hrs
    change Fm.holds _ _ (lk [.i hc, .i hf, .i hs, .i hd, .i cp, .i cdir, .i cdo, .b crl, .i ch, .i s0, .i s1, .i s2, .i a1, .i a2, .b r14, .b r15])
    refine ⟨fun hcond => ?_, fun hcond => ?_⟩
    ·
      have c3 : r15 = false := hcond
      clear hcond
      suffices hfin : (r14) = (true) from (c_b hfin rfl)
      -- leaf 2 (ret)
      exact c2
    ·
      have c4 : r15 = true := hcond
      clear hcond
      refine vg_call (C := C_reta) rfl rfl (xs := [.i hc, .i hf, .i hs, .i hd, .i cp, .i cdir, .i cdo, .b crl, .i ch, .i s0, .i s1, .i s2, .i a1, .i a2]) rfl (fun hg => ?_) (fun rs hrs => ?_)
      ·
        refine reta_mk ?_
        -- leaf 3 (pre)
        exact ⟨N_B (by omega) (by omega), N_B (by omega) (by omega)⟩
      obtain ⟨r16, hr16, rfl⟩ := reta_res hrs
      clear hrs
      change Fm.holds _ _ (lk [.i hc, .i hf, .i hs, .i hd, .i cp, .i cdir, .i cdo, .b crl, .i ch, .i s0, .i s1, .i s2, .i a1, .i a2, .b r14, .b r15, .i r16])
      refine vg_call (C := C_enew) rfl rfl (xs := [.i hc, .i hf, .i hs, .i hd, .i cp, .i cdir, .i cdo, .b crl, .i ch, .i s0, .i s1, .i s2, .i a1, .i a2]) rfl (fun hg => ?_) (fun rs hrs => ?_)
      ·
        exact trivial
      obtain ⟨r17, hr17, rfl⟩ := enew_res hrs
      clear hrs
      change Fm.holds _ _ (lk [.i hc, .i hf, .i hs, .i hd, .i cp, .i cdir, .i cdo, .b crl, .i ch, .i s0, .i s1, .i s2, .i a1, .i a2, .b r14, .b r15, .i r16, .l r17])
      have F := newRun_facts hc hf hs hd cp cdir cdo crl ch s0 s1 s2 a1 a2
      rw [← hr17] at F
      have T := ticks_facts F.1 F.2.2.2.1
      refine vg_call (C := C_etimes) rfl rfl (xs := [.l r17]) rfl (fun hg => ?_) (fun rs hrs => ?_)
      ·
        exact trivial
      obtain ⟨r18, hr18, rfl⟩ := etimes_res hrs
      clear hrs
      change Fm.holds _ _ (lk [.i hc, .i hf, .i hs, .i hd, .i cp, .i cdir, .i cdo, .b crl, .i ch, .i s0, .i s1, .i s2, .i a1, .i a2, .b r14, .b r15, .i r16, .l r17, .i r18])
      refine ⟨fun hcond => ?_, fun hcond => ?_⟩
      ·
        have c5 : (r18 == (0 : Int)) = false := hcond
        clear hcond
        suffices hfin : (false) = (true) from (c_b hfin rfl)
        -- leaf 4 (ret)
        rw [hr18, F.2.2.2.1] at c5
        cases c5
      ·
        have c6 : (r18 == (0 : Int)) = true := hcond
        clear hcond
        refine vg_call (C := C_eticks) rfl rfl (xs := [.l r17]) rfl (fun hg => ?_) (fun rs hrs => ?_)
        ·
          refine eticks_mk ?_
          -- leaf 5 (pre)
          exact ⟨F.2.1, by rw [F.2.2.1]; omega, by rw [F.2.2.1]; omega⟩
        obtain ⟨r19, r20, hr19, hr20, rfl⟩ := eticks_res hrs
        clear hrs
        change Fm.holds _ _ (lk [.i hc, .i hf, .i hs, .i hd, .i cp, .i cdir, .i cdo, .b crl, .i ch, .i s0, .i s1, .i s2, .i a1, .i a2, .b r14, .b r15, .i r16, .l r17, .i r18, .l r19, .i r20])
        refine vg_call (C := C_eticks) rfl rfl (xs := [.l r19]) rfl (fun hg => ?_) (fun rs hrs => ?_)
        ·
          refine eticks_mk ?_
          -- leaf 6 (pre)
          rw [hr19]
          exact ⟨T.1.trans F.2.1, by rw [T.2.1, F.2.2.1]; omega, by rw [T.2.1, F.2.2.1]; omega⟩
        obtain ⟨r21, r22, hr21, hr22, rfl⟩ := eticks_res hrs
        clear hrs
        change Fm.holds _ _ (lk [.i hc, .i hf, .i hs, .i hd, .i cp, .i cdir, .i cdo, .b crl, .i ch, .i s0, .i s1, .i s2, .i a1, .i a2, .b r14, .b r15, .i r16, .l r17, .i r18, .l r19, .i r20, .l r21, .i r22])
        refine vg_call (C := C_eta) rfl rfl (xs := [.i hc, .i hf, .i hs, .i hd, .i cp, .i cdir, .i cdo, .b crl, .i ch, .i s0, .i s1, .i s2, .i a1, .i a2]) rfl (fun hg => ?_) (fun rs hrs => ?_)
        ·
          refine eta_mk ?_
          -- leaf 7 (pre)
          omega
        obtain ⟨r23, hr23, rfl⟩ := eta_res hrs
        clear hrs
        change Fm.holds _ _ (lk [.i hc, .i hf, .i hs, .i hd, .i cp, .i cdir, .i cdo, .b crl, .i ch, .i s0, .i s1, .i s2, .i a1, .i a2, .b r14, .b r15, .i r16, .l r17, .i r18, .l r19, .i r20, .l r21, .i r22, .i r23])
        refine vg_call (C := C_etimes) rfl rfl (xs := [.l r21]) rfl (fun hg => ?_) (fun rs hrs => ?_)
        ·
          exact trivial
        obtain ⟨r24, hr24, rfl⟩ := etimes_res hrs
        clear hrs
        change Fm.holds _ _ (lk [.i hc, .i hf, .i hs, .i hd, .i cp, .i cdir, .i cdo, .b crl, .i ch, .i s0, .i s1, .i s2, .i a1, .i a2, .b r14, .b r15, .i r16, .l r17, .i r18, .l r19, .i r20, .l r21, .i r22, .i r23, .i r24])
        suffices hfin : ((if (if (if (r23 == r16) = true then (r20 == r16) else false) = true then (r22 == r16) else false) = true then (r24 == (1 : Int)) else false)) = (true) from (c_b hfin rfl)
        -- leaf 8 (ret)
        rw [etaRef_eq] at hr16
        rw [T.2.2.1, F.2.2.2.2] at hr20
        rw [hr19, T.2.2.2.2, T.2.2.1, F.2.2.2.2] at hr22
        rw [hr21, hr19, T.2.2.2.2, T.2.2.2.1] at hr24
        rw [hr23, hr20, hr22, hr24, hr16]
        simp
end Go.Proofs.YtchjajnhbipkmaaDoor
