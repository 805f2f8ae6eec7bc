import Derived.Test.YtchjajnhbipkmaaDoorVCarOut
namespace Go.Proofs.YtchjajnhbipkmaaDoor
open Go.Vg
set_option linter.unusedVariables false
set_option linter.unusedSimpArgs false
open Go

theorem out_house {hc hf hs hd s0 s1 s2 m0 m1 m2 : Int} (hv : valid hc hf hs hd = true) (h63 : hf ≤ 63) :
    houseP hf ⟨N (B s0 ||| (B m0 &&& (BitVec.allOnes 64 <<< hf.toNat))), N (B s1 ||| (B m1 &&& (BitVec.allOnes 64 <<< hf.toNat)) ||| 1#64 <<< (hf - 1).toNat), N (B s2 ||| (B m2 &&& (BitVec.allOnes 64 <<< hf.toNat)) ||| 1#64)⟩ =
    houseP hf ⟨N (B s0 &&& ~~~(BitVec.allOnes 64 <<< hf.toNat)), N (B s1 &&& ~~~(BitVec.allOnes 64 <<< hf.toNat) &&& ~~~(1#64 <<< (hf - 1).toNat)), N (B s2 &&& ~~~(BitVec.allOnes 64 <<< hf.toNat) &&& ~~~1#64)⟩ := by
  have v := valid_iff.1 hv
  have hout : ∀ i : Nat, i < 64 → (BitVec.allOnes 64 <<< hf.toNat).getLsbD i = decide (hf ≤ (i : Int)) := fun i hi => by
    rw [BitVec.getLsbD_shiftLeft, BitVec.getLsbD_allOnes]
    rw [Bool.eq_iff_iff]; simp; omega
  unfold houseP
  simp only [B_N]
  congr 1 <;> (rw [N_inj]; apply BitVec.eq_of_getLsbD_eq; intro i hi)
  · simp only [BitVec.getLsbD_and, BitVec.getLsbD_or, BitVec.getLsbD_not, hout i hi, lowB_bit (n := hf) (by omega) (by omega) hi]
    by_cases h : (i : Int) < hf
    · rw [decide_eq_true h, decide_eq_false (show ¬ hf ≤ (i : Int) by omega)]; simp [hi]
    · rw [decide_eq_false h]; simp
  · simp only [BitVec.getLsbD_and, BitVec.getLsbD_or, BitVec.getLsbD_not, hout i hi, lowB_bit (n := hf - 1) (by omega) (by omega) hi, one_bit (k := (hf - 1).toNat) (by omega)]
    by_cases h : (i : Int) < hf - 1
    · rw [decide_eq_true h, decide_eq_false (show ¬ hf ≤ (i : Int) by omega), decide_eq_false (show ¬ i = (hf - 1).toNat by omega)]; simp [hi]
    · rw [decide_eq_false h]; simp
  · simp only [BitVec.getLsbD_and, BitVec.getLsbD_or, BitVec.getLsbD_not, hout i hi, lowB_bit (n := hf) (by omega) (by omega) hi, BitVec.getLsbD_one]
    by_cases h : (i : Int) < hf
    · rw [decide_eq_true h, decide_eq_false (show ¬ hf ≤ (i : Int) by omega)]
      by_cases h0 : i = 0
      · subst h0; simp
      · simp [hi, h0]
    · rw [decide_eq_false h]; simp


theorem CarOut_sound : C_CarOut.Sound Tryd.prog G 3 := by
  refine fn_ok mixed stable tbl_CarOut [] Tryd.func3 (by kernel_rfl) phi_CarOut vc_CarOut ⟨first16_sound, valid_sound, ctick_sound, trivial⟩ (fun _ _ _ => False) (fun _ _ _ => 0) ?_
  intro ls hp
  obtain ⟨hc, hf, hs, hd, cp, cdir, cdo, crl, ch, s0, s1, s2, m0, m1, m2, ob, rfl, hpre⟩ := CarOut_pre hp
  clear hp
  rw [envOf_lk]
  unfold phi_CarOut
  refine vg_call (C := C_first16) rfl rfl (xs := []) rfl (fun hg => ?_) (fun rs hrs => ?_)
  ·
    exact trivial
  obtain ⟨r16, hr16, rfl⟩ := first16_res hrs
  clear hrs
  change Fm.holds _ _ (lk [.i hc, .i hf, .i hs, .i hd, .i cp, .i cdir, .i cdo, .b crl, .i ch, .i s0, .i s1, .i s2, .i m0, .i m1, .i m2, .b ob, .b r16])
  refine ⟨fun hcond => ?_, fun hcond => ?_⟩
  ·
    have c1 : r16 = false := hcond
    clear hcond
    suffices hfin : (false) = (true) from (c_b hfin rfl)
    -- leaf 1 (ret)
    simp_all
  ·
    have c2 : r16 = true := hcond
    clear hcond
    refine vg_call (C := C_valid) rfl rfl (xs := [.i hc, .i hf, .i hs, .i hd]) rfl (fun hg => ?_) (fun rs hrs => ?_)
    ·
      exact trivial
    obtain ⟨r17, hr17, rfl⟩ := valid_res hrs
    clear hrs
    change Fm.holds _ _ (lk [.i hc, .i hf, .i hs, .i hd, .i cp, .i cdir, .i cdo, .b crl, .i ch, .i s0, .i s1, .i s2, .i m0, .i m1, .i m2, .b ob, .b r16, .b r17])
    refine ⟨fun hcond => ?_, fun hcond => ?_⟩
    ·
      have c3 : (if (!r17) = true then true else (decide ((63 : Int) < hf))) = true := hcond
      clear hcond
      suffices hfin : (r16) = (true) from (c_b hfin rfl)
      -- leaf 2 (ret)
      simp_all
    ·
      have c4 : (if (!r17) = true then true else (decide ((63 : Int) < hf))) = false := hcond
      clear hcond
      have hv : valid hc hf hs hd = true := by
        rw [← hr17]
        revert c4
        cases r17 <;> simp
      have v := valid_iff.1 hv
      have h63 : hf ≤ 63 := by
        rw [← hr17] at hv
        rw [hv] at c4
        simp at c4
        exact c4
      have w1 : IntKind.wrap .u64 hf = hf := by rw [wrap_u64]; omega
      have w2 : IntKind.wrap .u64 (IntKind.wrap .i64 (hf - 1)) = hf - 1 := by rw [wrap_in (by omega) (by omega), wrap_u64]; omega
      have w3 : B 18446744073709551615 = BitVec.allOnes 64 := by decide
      have hh := out_house (s0 := s0) (s1 := s1) (s2 := s2) (m0 := m0) (m1 := m1) (m2 := m2) hv h63
      refine ⟨fun hg => ?_, ?_⟩
      ·
        show (decide ((0 : Int) ≤ (IntKind.wrap .u64 hf))) = true
        -- leaf 3 (ob)
        first | (rw [w1]; simp; omega) | (rw [w2]; simp; omega)
      refine ⟨fun hg => ?_, ?_⟩
      ·
        show (decide ((0 : Int) ≤ (IntKind.wrap .u64 (IntKind.wrap .i64 (hf - (1 : Int)))))) = true
        -- leaf 4 (ob)
        first | (rw [w1]; simp; omega) | (rw [w2]; simp; omega)
      refine vg_call (C := C_ctick) rfl rfl (xs := [.i hc, .i hf, .i hs, .i hd, .i cp, .i cdir, .i cdo, .b crl, .i ch, .i (bitv .or .u64 s0 (bitv .and .u64 m0 (IntKind.wrap .u64 ((18446744073709551615 : Int) * 2 ^ (min (Int.toNat (IntKind.wrap .u64 hf)) (IntKind.bits .u64)))))), .i (bitv .or .u64 (bitv .or .u64 s1 (bitv .and .u64 m1 (IntKind.wrap .u64 ((18446744073709551615 : Int) * 2 ^ (min (Int.toNat (IntKind.wrap .u64 hf)) (IntKind.bits .u64)))))) (IntKind.wrap .u64 ((1 : Int) * 2 ^ (min (Int.toNat (IntKind.wrap .u64 (IntKind.wrap .i64 (hf - (1 : Int))))) (IntKind.bits .u64))))), .i (bitv .or .u64 (bitv .or .u64 s2 (bitv .and .u64 m2 (IntKind.wrap .u64 ((18446744073709551615 : Int) * 2 ^ (min (Int.toNat (IntKind.wrap .u64 hf)) (IntKind.bits .u64)))))) (1 : Int)), .b ob]) rfl (fun hg => ?_) (fun rs hrs => ?_)
      ·
        refine ctick_mk ?_
        -- leaf 5 (pre)
        omega
      obtain ⟨r18, r19, r20, r21, r22, r23, r24, r25, r26, r27, r28, r29, r30, hr18, hr19, hr20, hr21, hr22, hr23, hr24, hr25, hr26, hr27, hr28, hr29, hr30, rfl⟩ := ctick_res hrs
      clear hrs
      change Fm.holds _ _ (lk [.i hc, .i hf, .i hs, .i hd, .i cp, .i cdir, .i cdo, .b crl, .i ch, .i s0, .i s1, .i s2, .i m0, .i m1, .i m2, .b ob, .b r16, .b r17, .i r18, .i r19, .i r20, .b r21, .i r22, .b r23, .b r24, .i r25, .i r26, .i r27, .i r28, .i r29, .i r30])
      refine vg_call (C := C_ctick) rfl rfl (xs := [.i hc, .i hf, .i hs, .i hd, .i cp, .i cdir, .i cdo, .b crl, .i ch, .i (bitv .andNot .u64 s0 (IntKind.wrap .u64 ((18446744073709551615 : Int) * 2 ^ (min (Int.toNat (IntKind.wrap .u64 hf)) (IntKind.bits .u64))))), .i (bitv .andNot .u64 (bitv .andNot .u64 s1 (IntKind.wrap .u64 ((18446744073709551615 : Int) * 2 ^ (min (Int.toNat (IntKind.wrap .u64 hf)) (IntKind.bits .u64))))) (IntKind.wrap .u64 ((1 : Int) * 2 ^ (min (Int.toNat (IntKind.wrap .u64 (IntKind.wrap .i64 (hf - (1 : Int))))) (IntKind.bits .u64))))), .i (bitv .andNot .u64 (bitv .andNot .u64 s2 (IntKind.wrap .u64 ((18446744073709551615 : Int) * 2 ^ (min (Int.toNat (IntKind.wrap .u64 hf)) (IntKind.bits .u64))))) (1 : Int)), .b ob]) rfl (fun hg => ?_) (fun rs hrs => ?_)
      ·
        refine ctick_mk ?_
        -- leaf 6 (pre)
        omega
      obtain ⟨r31, r32, r33, r34, r35, r36, r37, r38, r39, r40, r41, r42, r43, hr31, hr32, hr33, hr34, hr35, hr36, hr37, hr38, hr39, hr40, hr41, hr42, hr43, rfl⟩ := ctick_res hrs
      clear hrs
      change Fm.holds _ _ (lk [.i hc, .i hf, .i hs, .i hd, .i cp, .i cdir, .i cdo, .b crl, .i ch, .i s0, .i s1, .i s2, .i m0, .i m1, .i m2, .b ob, .b r16, .b r17, .i r18, .i r19, .i r20, .b r21, .i r22, .b r23, .b r24, .i r25, .i r26, .i r27, .i r28, .i r29, .i r30, .i r31, .i r32, .i r33, .b r34, .i r35, .b r36, .b r37, .i r38, .i r39, .i r40, .i r41, .i r42, .i r43])
      simp only [w1, w2, bv_or, bv_and, bv_andNot, bv_shl, B_N, B_one, w3] at hr18 hr19 hr20 hr21 hr22 hr23 hr24 hr25 hr26 hr27 hr28 hr29 hr30 hr31 hr32 hr33 hr34 hr35 hr36 hr37 hr38 hr39 hr40 hr41 hr42 hr43
      rw [tick_house hh] at hr18 hr19 hr20 hr21 hr22 hr23 hr24 hr25 hr26 hr27 hr28 hr29 hr30
      suffices hfin : ((if (if (if (if (if (if (if (if (if (if (if (r18 == r31) = true then (r19 == r32) else false) = true then (r20 == r33) else false) = true then (r21 == r34) else false) = true then (r22 == r35) else false) = true then (r23 == r36) else false) = true then (r24 == r37) else false) = true then (r27 == r40) else false) = true then (r26 == r39) else false) = true then (r28 == r41) else false) = true then (r29 == r42) else false) = true then (r30 == r43) else false)) = (true) from (c_b hfin rfl)
      -- leaf 7 (ret)
      rw [hr18, hr19, hr20, hr21, hr22, hr23, hr24, hr26, hr27, hr28, hr29, hr30, hr31, hr32, hr33, hr34, hr35, hr36, hr37, hr39, hr40, hr41, hr42, hr43]
      simp
end Go.Proofs.YtchjajnhbipkmaaDoor
