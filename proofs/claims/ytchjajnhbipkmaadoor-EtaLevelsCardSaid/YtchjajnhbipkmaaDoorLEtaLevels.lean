import Derived.Test.YtchjajnhbipkmaaDoorVEtaLevels
namespace Go.Proofs.YtchjajnhbipkmaaDoor
open Go.Vg
set_option linter.unusedVariables false
set_option linter.unusedSimpArgs false
open Go

open Go in
theorem eta_levels {hc hf hs hd fl dr P : Int} {s : StP} (hv : valid hc hf hs hd = true) (hm : mayP hf fl dr = true) (h0 : 0 ≤ P) (h1 : P ≤ top hc hf hs hd) :
    etaP hc hf hs hd ⟨P, 0, 0, !level hc hf hs hd P, 0⟩ s fl dr = etaP hc hf hs hd ⟨P / hs * hs, 0, 0, !level hc hf hs hd (P / hs * hs), 0⟩ s fl dr + P % hs := by
  have v := valid_iff.1 hv
  have htr := top_range hc hf hs hd
  have m0 := Int.emod_nonneg P (show hs ≠ 0 by omega)
  have m1 := Int.emod_lt_of_pos P (show 0 < hs by omega)
  have m2 := Int.mul_ediv_add_emod P hs
  have m3 : 0 ≤ hs * (P / hs) := Int.mul_nonneg (by omega) (Int.ediv_nonneg h0 (by omega))
  have hq : P / hs * hs = P - P % hs := by rw [Int.mul_comm]; omega
  have hlq : level hc hf hs hd (P - P % hs) = true := by
    rw [level_iff hv (by omega) (by omega), ← hq, Int.mul_emod_left]
    rfl
  by_cases hz : P % hs = 0
  · rw [hq, hz, Int.sub_zero]; omega
  have hlP : level hc hf hs hd P = false := by rw [level_iff hv h0 h1]; exact decide_eq_false hz
  rw [hq, hlP, hlq, Bool.not_true, Bool.not_false]
  have hr1 : carRight hc hf hs hd ⟨P, 0, 0, true, 0⟩ = true := right_iff.2 ⟨hv, ⟨h0, h1⟩, by dsimp only; omega, by dsimp only; omega, fun h => by dsimp only at h; omega, .inr (.inr rfl), .inl rfl⟩
  have hr2 : carRight hc hf hs hd ⟨P - P % hs, 0, 0, false, 0⟩ = true := right_iff.2 ⟨hv, by dsimp only; omega, by dsimp only; omega, by dsimp only; omega, fun h => by dsimp only at h; omega, .inl hlq, .inl rfl⟩
  obtain ⟨r, hr⟩ : ∃ r : Nat, P % hs = (r : Int) + 1 := ⟨(P % hs - 1).toNat, by omega⟩
  have hE := eta_rel (s := putP s fl dr) (fl := fl) (dr := dr) r (1048575 - (r + 1)) ⟨P, 0, 0, true, 0⟩ 1 hr1 rfl rfl hr
  obtain ⟨p1, p2⟩ := put_there (s := s) hv hm
  obtain ⟨m, hph⟩ := carPh_some (s := putP s fl dr) hr2
  have hb := pot_bound hr2 hph
  have hS := eta_shift p1 (1048575 - (r + 1)) 1048575 _ _ (1 + ((r : Int) + 1)) 1 m hr2 hph p2 (by omega) (by omega)
  unfold etaP
  rw [hr1, hr2, hm, Bool.and_true, if_pos rfl, if_pos rfl]
  rw [show 1048575 - (r + 1) + (r + 1) = 1048575 by omega] at hE
  rw [hE, hr]
  rw [hr] at hS
  dsimp only at hS ⊢
  omega


theorem EtaLevels_sound : C_EtaLevels.Sound Tryd.prog G 12 := by
  refine fn_ok mixed stable tbl_EtaLevels [] Tryd.func12 (by kernel_rfl) phi_EtaLevels vc_EtaLevels ⟨valid_sound, cstart_sound, number_sound, top_sound, first17_sound, rmay_sound, eta_sound, trivial⟩ (fun _ _ _ => False) (fun _ _ _ => 0) ?_
  intro ls hp
  obtain ⟨hc, hf, hs, hd, fr, s0, s1, s2, fl, dr, rfl, hpre⟩ := EtaLevels_pre hp
  clear hp
  rw [envOf_lk]
  unfold phi_EtaLevels
  refine vg_call (C := C_first17) rfl rfl (xs := []) rfl (fun hg => ?_) (fun rs hrs => ?_)
  ·
    exact trivial
  obtain ⟨r10, hr10, rfl⟩ := first17_res hrs
  clear hrs
  change Fm.holds _ _ (lk [.i hc, .i hf, .i hs, .i hd, .i fr, .i s0, .i s1, .i s2, .i fl, .i dr, .b r10])
  refine ⟨fun hcond => ?_, fun hcond => ?_⟩
  ·
    have c1 : r10 = false := hcond
    clear hcond
    suffices hfin : (false) = (true) from (c_b hfin rfl)
    -- leaf 1 (ret)
    simp_all
  ·
    have c2 : r10 = true := hcond
    clear hcond
    refine vg_call (C := C_valid) rfl rfl (xs := [.i hc, .i hf, .i hs, .i hd]) rfl (fun hg => ?_) (fun rs hrs => ?_)
    ·
      exact trivial
    obtain ⟨r11, hr11, rfl⟩ := valid_res hrs
    clear hrs
    change Fm.holds _ _ (lk [.i hc, .i hf, .i hs, .i hd, .i fr, .i s0, .i s1, .i s2, .i fl, .i dr, .b r10, .b r11])
    refine vg_call (C := C_rmay) rfl rfl (xs := [.i hf, .i fl, .i dr]) rfl (fun hg => ?_) (fun rs hrs => ?_)
    ·
      simp only [gd_cons, gd_nil, and_true] at hg
      replace hg : (!r11) = false := hg
      refine rmay_mk ?_
      -- leaf 2 (pre)
      have h11 : r11 = true := by revert hg; cases r11 <;> simp
      have v := valid_iff.1 (hr11.symm.trans h11)
      omega
    obtain ⟨r12, hr12, rfl⟩ := rmay_res hrs
    clear hrs
    change Fm.holds _ _ (lk [.i hc, .i hf, .i hs, .i hd, .i fr, .i s0, .i s1, .i s2, .i fl, .i dr, .b r10, .b r11, .b r12])
    refine ⟨fun hcond => ?_, fun hcond => ?_⟩
    ·
      have c3 : (if (!r11) = true then true else (!r12)) = true := hcond
      clear hcond
      suffices hfin : (r10) = (true) from (c_b hfin rfl)
      -- leaf 3 (ret)
      simp_all
    ·
      have c4 : (if (!r11) = true then true else (!r12)) = false := hcond
      clear hcond
      have h11 : r11 = true := by revert c4; cases r11 <;> simp
      have h12 : r12 = true := by revert c4; cases r11 <;> cases r12 <;> simp
      have hv : valid hc hf hs hd = true := hr11.symm.trans h11
      have hm : mayP hf fl dr = true := hr12.symm.trans h12
      have v := valid_iff.1 hv
      have ht := top_range hc hf hs hd
      refine vg_call (C := C_top) rfl rfl (xs := [.i hc, .i hf, .i hs, .i hd]) rfl (fun hg => ?_) (fun rs hrs => ?_)
      ·
        exact trivial
      obtain ⟨r13, hr13, rfl⟩ := top_res hrs
      clear hrs
      change Fm.holds _ _ (lk [.i hc, .i hf, .i hs, .i hd, .i fr, .i s0, .i s1, .i s2, .i fl, .i dr, .b r10, .b r11, .b r12, .i r13])
      have e10 : IntKind.wrap .i64 (r13 + 1) = r13 + 1 := wrap_in (by omega) (by omega)
      refine vg_call (C := C_number) rfl rfl (xs := [.i fr, .i (IntKind.wrap .i64 (r13 + (1 : Int)))]) rfl (fun hg => ?_) (fun rs hrs => ?_)
      ·
        refine number_mk ?_
        -- leaf 4 (pre)
        omega
      obtain ⟨r14, hr14, rfl⟩ := number_res hrs
      clear hrs
      change Fm.holds _ _ (lk [.i hc, .i hf, .i hs, .i hd, .i fr, .i s0, .i s1, .i s2, .i fl, .i dr, .b r10, .b r11, .b r12, .i r13, .i r14])
      have n1 := number_range fr (b := r13 + 1) (by omega)
      rw [e10] at hr14
      rw [← hr14, hr13] at n1
      have S := start_at (p := r14) hv n1.1 (by omega)
      have m2 := Int.mul_ediv_add_emod r14 hs
      have m3 : 0 ≤ hs * (r14 / hs) := Int.mul_nonneg (by omega) (Int.ediv_nonneg n1.1 (by omega))
      have m4 := Int.emod_nonneg r14 (show hs ≠ 0 by omega)
      have hq : r14 / hs * hs = r14 - r14 % hs := by rw [Int.mul_comm]; omega
      have hdle : r14 / hs ≤ r14 := Int.ediv_le_self _ n1.1
      have hdnn : 0 ≤ r14 / hs := Int.ediv_nonneg n1.1 (by omega)
      have S2 := start_at (p := r14 / hs * hs) hv (by omega) (by omega)
      have htd : Int.tdiv r14 hs = r14 / hs := Int.tdiv_eq_ediv_of_nonneg n1.1
      have htm : Int.tmod r14 hs = r14 % hs := tmod_emod n1.1
      have w1 : IntKind.wrap .i64 (r14 / hs) = r14 / hs := wrap_in (by omega) (by omega)
      have w2 : IntKind.wrap .i64 (r14 / hs * hs) = r14 / hs * hs := wrap_in (by omega) (by omega)
      refine vg_call (C := C_cstart) rfl rfl (xs := [.i hc, .i hf, .i hs, .i hd, .i r14]) rfl (fun hg => ?_) (fun rs hrs => ?_)
      ·
        exact trivial
      obtain ⟨r15, r16, r17, r18, r19, r20, hr15, hr16, hr17, hr18, hr19, hr20, rfl⟩ := cstart_res hrs
      clear hrs
      change Fm.holds _ _ (lk [.i hc, .i hf, .i hs, .i hd, .i fr, .i s0, .i s1, .i s2, .i fl, .i dr, .b r10, .b r11, .b r12, .i r13, .i r14, .i r15, .i r16, .i r17, .b r18, .i r19, .b r20])
      rw [S.1] at hr20
      simp only [S.2] at hr15 hr16 hr17 hr18 hr19
      refine ⟨fun hg => ?_, ?_⟩
      ·
        show (!(hs == (0 : Int))) = true
        -- leaf 5 (ob)
        simp; omega
      refine vg_call (C := C_cstart) rfl rfl (xs := [.i hc, .i hf, .i hs, .i hd, .i (IntKind.wrap .i64 ((IntKind.wrap .i64 (Int.tdiv r14 hs)) * hs))]) rfl (fun hg => ?_) (fun rs hrs => ?_)
      ·
        exact trivial
      obtain ⟨r21, r22, r23, r24, r25, r26, hr21, hr22, hr23, hr24, hr25, hr26, rfl⟩ := cstart_res hrs
      clear hrs
      change Fm.holds _ _ (lk [.i hc, .i hf, .i hs, .i hd, .i fr, .i s0, .i s1, .i s2, .i fl, .i dr, .b r10, .b r11, .b r12, .i r13, .i r14, .i r15, .i r16, .i r17, .b r18, .i r19, .b r20, .i r21, .i r22, .i r23, .b r24, .i r25, .b r26])
      simp only [htd, w1, w2] at hr21 hr22 hr23 hr24 hr25 hr26
      rw [S2.1] at hr26
      simp only [S2.2] at hr21 hr22 hr23 hr24 hr25
      refine vg_call (C := C_eta) rfl rfl (xs := [.i hc, .i hf, .i hs, .i hd, .i r15, .i r16, .i r17, .b r18, .i r19, .i s0, .i s1, .i s2, .i fl, .i dr]) rfl (fun hg => ?_) (fun rs hrs => ?_)
      ·
        simp only [gd_cons, gd_nil, and_true] at hg
        replace hg : (if r20 = true then r26 else false) = true := hg
        refine eta_mk ?_
        -- leaf 6 (pre)
        omega
      obtain ⟨r27, hr27, rfl⟩ := eta_res hrs
      clear hrs
      change Fm.holds _ _ (lk [.i hc, .i hf, .i hs, .i hd, .i fr, .i s0, .i s1, .i s2, .i fl, .i dr, .b r10, .b r11, .b r12, .i r13, .i r14, .i r15, .i r16, .i r17, .b r18, .i r19, .b r20, .i r21, .i r22, .i r23, .b r24, .i r25, .b r26, .i r27])
      refine vg_call (C := C_eta) rfl rfl (xs := [.i hc, .i hf, .i hs, .i hd, .i r21, .i r22, .i r23, .b r24, .i r25, .i s0, .i s1, .i s2, .i fl, .i dr]) rfl (fun hg => ?_) (fun rs hrs => ?_)
      ·
        simp only [gd_cons, gd_nil, and_true] at hg
        replace hg : (if r20 = true then r26 else false) = true := hg
        refine eta_mk ?_
        -- leaf 7 (pre)
        omega
      obtain ⟨r28, hr28, rfl⟩ := eta_res hrs
      clear hrs
      change Fm.holds _ _ (lk [.i hc, .i hf, .i hs, .i hd, .i fr, .i s0, .i s1, .i s2, .i fl, .i dr, .b r10, .b r11, .b r12, .i r13, .i r14, .i r15, .i r16, .i r17, .b r18, .i r19, .b r20, .i r21, .i r22, .i r23, .b r24, .i r25, .b r26, .i r27, .i r28])
      refine ⟨fun hg => ?_, ?_⟩
      ·
        simp only [gd_cons, gd_nil, and_true] at hg
        replace hg : (if r20 = true then r26 else false) = true := hg
        show (!(hs == (0 : Int))) = true
        -- leaf 8 (ob)
        simp; omega
      suffices hfin : ((if (if r20 = true then r26 else false) = true then (r27 == (IntKind.wrap .i64 (r28 + (Int.tmod r14 hs)))) else false)) = (true) from (c_b hfin rfl)
      -- leaf 9 (ret)
      have E := eta_levels (s := ⟨s0, s1, s2⟩) hv hm n1.1 (by omega)
      have hb := eta_bound (fl := fl) (dr := dr) (s := ⟨s0, s1, s2⟩) (c := ⟨r14, 0, 0, !level hc hf hs hd r14, 0⟩) (right_iff.2 ⟨hv, by dsimp only; omega, by dsimp only; omega, by dsimp only; omega, fun h => by dsimp only at h; omega, by
        dsimp only
        cases hl : level hc hf hs hd r14 with
        | true => exact .inl rfl
        | false => exact .inr (.inr rfl), .inl rfl⟩) hm
      rw [hr20, hr26, htm]
      simp only [hr15, hr16, hr17, hr18, hr19, hr21, hr22, hr23, hr24, hr25] at hr27 hr28
      rw [← hr27, ← hr28] at E
      rw [← hr27] at hb
      rw [wrap_in (by omega) (by omega), E]
      simp
end Go.Proofs.YtchjajnhbipkmaaDoor
