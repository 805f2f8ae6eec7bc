import Derived.Test.YtchjajnhbipkmaaDoorVEtaOpen
namespace Go.Proofs.YtchjajnhbipkmaaDoor
open Go.Vg
set_option linter.unusedVariables false
set_option linter.unusedSimpArgs false
open Go

open Go in
theorem at_right {hc hf hs hd a l : Int} (hv : valid hc hf hs hd = true) (ha : 0 ≤ a ∧ a < hf) (hl : 0 ≤ l ∧ l ≤ hd) : carRight hc hf hs hd ⟨a * hs, 0, l, false, 0⟩ = true := by
  have v := valid_iff.1 hv
  have L := level_mul hv ha.1 ha.2
  exact right_iff.2 ⟨hv, ⟨L.1, L.2.1⟩, by dsimp only; omega, hl, fun h => ⟨L.2.2.1, rfl⟩, .inl L.2.2.1, .inl rfl⟩
open Go in
theorem eta_at {hc hf hs hd fl dr a : Int} (hv : valid hc hf hs hd = true) (hm : mayP hf fl dr = true) (ha : 0 ≤ a ∧ a < hf) :
    etaP hc hf hs hd ⟨a * hs, 0, 0, false, 0⟩ ⟨0, 0, 0⟩ fl dr = 1 + (if a ≤ fl then (fl - a) * hs else (a - fl) * hs) := by
  have v := valid_iff.1 hv
  unfold etaP
  rw [at_right hv ha (by omega), hm, Bool.and_true, if_pos rfl, eta_near hv hm ha (by omega)]

open Go in
theorem eta_open {hc hf hs hd fl dr a l : Int} (hv : valid hc hf hs hd = true) (hm : mayP hf fl dr = true) (ha : 0 ≤ a ∧ a < hf) (hl : 0 ≤ l ∧ l ≤ hd) :
    etaP hc hf hs hd ⟨a * hs, 0, l, false, 0⟩ ⟨0, 0, 0⟩ fl dr = etaP hc hf hs hd ⟨a * hs, 0, 0, false, 0⟩ ⟨0, 0, 0⟩ fl dr + l := by
  have v := valid_iff.1 hv
  rw [eta_at hv hm ha]
  unfold etaP
  rw [at_right hv ha hl, hm, Bool.and_true, if_pos rfl]
  have hr := at_right hv ha hl
  obtain ⟨r, rfl⟩ : ∃ r : Nat, l = (r : Int) := ⟨l.toNat, by omega⟩
  have E := eta_door (s := putP ⟨0, 0, 0⟩ fl dr) (fl := fl) (dr := dr) r (1048575 - r) (a * hs) 1 hr
  rw [show 1048575 - r + r = 1048575 by omega] at E
  rw [E, eta_near hv hm ha (by omega)]
  omega


theorem EtaOpen_sound : C_EtaOpen.Sound Tryd.prog G 11 := by
  refine fn_ok mixed stable tbl_EtaOpen [] Tryd.func11 (by kernel_rfl) phi_EtaOpen vc_EtaOpen ⟨valid_sound, cstart_sound, number_sound, first17_sound, rmay_sound, eta_sound, trivial⟩ (fun _ _ _ => False) (fun _ _ _ => 0) ?_
  intro ls hp
  obtain ⟨hc, hf, hs, hd, fr, left, fl, dr, rfl, hpre⟩ := EtaOpen_pre hp
  clear hp
  rw [envOf_lk]
  unfold phi_EtaOpen
  refine vg_call (C := C_first17) rfl rfl (xs := []) rfl (fun hg => ?_) (fun rs hrs => ?_)
  ·
    exact trivial
  obtain ⟨r8, hr8, rfl⟩ := first17_res hrs
  clear hrs
  change Fm.holds _ _ (lk [.i hc, .i hf, .i hs, .i hd, .i fr, .i left, .i fl, .i dr, .b r8])
  refine ⟨fun hcond => ?_, fun hcond => ?_⟩
  ·
    have c1 : r8 = false := hcond
    clear hcond
    suffices hfin : (false) = (true) from (c_b hfin rfl)
    -- leaf 1 (ret)
    simp_all
  ·
    have c2 : r8 = true := hcond
    clear hcond
    refine vg_call (C := C_valid) rfl rfl (xs := [.i hc, .i hf, .i hs, .i hd]) rfl (fun hg => ?_) (fun rs hrs => ?_)
    ·
      exact trivial
    obtain ⟨r9, hr9, rfl⟩ := valid_res hrs
    clear hrs
    change Fm.holds _ _ (lk [.i hc, .i hf, .i hs, .i hd, .i fr, .i left, .i fl, .i dr, .b r8, .b r9])
    refine vg_call (C := C_rmay) rfl rfl (xs := [.i hf, .i fl, .i dr]) rfl (fun hg => ?_) (fun rs hrs => ?_)
    ·
      simp only [gd_cons, gd_nil, and_true] at hg
      replace hg : (!r9) = false := hg
      refine rmay_mk ?_
      -- leaf 2 (pre)
      have h9 : r9 = true := by revert hg; cases r9 <;> simp
      have v := valid_iff.1 (hr9.symm.trans h9)
      omega
    obtain ⟨r10, hr10, rfl⟩ := rmay_res hrs
    clear hrs
    change Fm.holds _ _ (lk [.i hc, .i hf, .i hs, .i hd, .i fr, .i left, .i fl, .i dr, .b r8, .b r9, .b r10])
    refine ⟨fun hcond => ?_, fun hcond => ?_⟩
    ·
      have c3 : (if (!r9) = true then true else (!r10)) = true := hcond
      clear hcond
      suffices hfin : (r8) = (true) from (c_b hfin rfl)
      -- leaf 3 (ret)
      simp_all
    ·
      have c4 : (if (!r9) = true then true else (!r10)) = false := hcond
      clear hcond
      have h9 : r9 = true := by revert c4; cases r9 <;> simp
      have h10 : r10 = true := by revert c4; cases r9 <;> cases r10 <;> simp
      have hv : valid hc hf hs hd = true := hr9.symm.trans h9
      have hm : mayP hf fl dr = true := hr10.symm.trans h10
      have v := valid_iff.1 hv
      have ht := top_range hc hf hs hd
      refine vg_call (C := C_number) rfl rfl (xs := [.i fr, .i hf]) rfl (fun hg => ?_) (fun rs hrs => ?_)
      ·
        refine number_mk ?_
        -- leaf 4 (pre)
        omega
      obtain ⟨r11, hr11, rfl⟩ := number_res hrs
      clear hrs
      change Fm.holds _ _ (lk [.i hc, .i hf, .i hs, .i hd, .i fr, .i left, .i fl, .i dr, .b r8, .b r9, .b r10, .i r11])
      have n1 := number_range fr (b := hf) (by omega)
      rw [← hr11] at n1
      have L := level_mul hv n1.1 n1.2
      have w1 : IntKind.wrap .i64 (r11 * hs) = r11 * hs := wrap_in (by omega) (by omega)
      have S := start_at (p := r11 * hs) hv L.1 L.2.1
      refine vg_call (C := C_cstart) rfl rfl (xs := [.i hc, .i hf, .i hs, .i hd, .i (IntKind.wrap .i64 (r11 * hs))]) rfl (fun hg => ?_) (fun rs hrs => ?_)
      ·
        exact trivial
      obtain ⟨r12, r13, r14, r15, r16, r17, hr12, hr13, hr14, hr15, hr16, hr17, rfl⟩ := cstart_res hrs
      clear hrs
      change Fm.holds _ _ (lk [.i hc, .i hf, .i hs, .i hd, .i fr, .i left, .i fl, .i dr, .b r8, .b r9, .b r10, .i r11, .i r12, .i r13, .i r14, .b r15, .i r16, .b r17])
      rw [w1, S.1] at hr17
      simp only [w1, S.2] at hr12 hr13 hr14 hr15 hr16
      refine ⟨fun hcond => ?_, fun hcond => ?_⟩
      ·
        have c5 : r17 = false := hcond
        clear hcond
        suffices hfin : (false) = (true) from (c_b hfin rfl)
        -- leaf 5 (ret)
        rw [hr17] at c5
        cases c5
      ·
        have c6 : r17 = true := hcond
        clear hcond
        refine vg_call (C := C_eta) rfl rfl (xs := [.i hc, .i hf, .i hs, .i hd, .i r12, .i r13, .i r14, .b r15, .i r16, .i (0 : Int), .i (0 : Int), .i (0 : Int), .i fl, .i dr]) rfl (fun hg => ?_) (fun rs hrs => ?_)
        ·
          refine eta_mk ?_
          -- leaf 6 (pre)
          omega
        obtain ⟨r18, hr18, rfl⟩ := eta_res hrs
        clear hrs
        change Fm.holds _ _ (lk [.i hc, .i hf, .i hs, .i hd, .i fr, .i left, .i fl, .i dr, .b r8, .b r9, .b r10, .i r11, .i r12, .i r13, .i r14, .b r15, .i r16, .b r17, .i r18])
        refine vg_call (C := C_number) rfl rfl (xs := [.i left, .i hd]) rfl (fun hg => ?_) (fun rs hrs => ?_)
        ·
          refine number_mk ?_
          -- leaf 7 (pre)
          omega
        obtain ⟨r19, hr19, rfl⟩ := number_res hrs
        clear hrs
        change Fm.holds _ _ (lk [.i hc, .i hf, .i hs, .i hd, .i fr, .i left, .i fl, .i dr, .b r8, .b r9, .b r10, .i r11, .i r12, .i r13, .i r14, .b r15, .i r16, .b r17, .i r18, .i r19])
        have n2 := number_range left (b := hd) (by omega)
        rw [← hr19] at n2
        have w2 : IntKind.wrap .i64 (r19 + 1) = r19 + 1 := wrap_in (by omega) (by omega)
        refine vg_call (C := C_eta) rfl rfl (xs := [.i hc, .i hf, .i hs, .i hd, .i r12, .i r13, .i (IntKind.wrap .i64 (r19 + (1 : Int))), .b r15, .i r16, .i (0 : Int), .i (0 : Int), .i (0 : Int), .i fl, .i dr]) rfl (fun hg => ?_) (fun rs hrs => ?_)
        ·
          refine eta_mk ?_
          -- leaf 8 (pre)
          omega
        obtain ⟨r20, hr20, rfl⟩ := eta_res hrs
        clear hrs
        change Fm.holds _ _ (lk [.i hc, .i hf, .i hs, .i hd, .i fr, .i left, .i fl, .i dr, .b r8, .b r9, .b r10, .i r11, .i r12, .i r13, .i r14, .b r15, .i r16, .b r17, .i r18, .i r19, .i r20])
        suffices hfin : ((r20 == (IntKind.wrap .i64 (r18 + (IntKind.wrap .i64 (r19 + (1 : Int))))))) = (true) from (c_b hfin rfl)
        -- leaf 9 (ret)
        have E := eta_open (fl := fl) (dr := dr) hv hm n1 (l := r19 + 1) (by omega)
        have A := eta_at (fl := fl) (dr := dr) hv hm n1
        have hb := eta_bound (fl := fl) (dr := dr) (s := ⟨0, 0, 0⟩) (at_right hv n1 (l := 0) (by omega)) hm
        rw [L.2.2.1] at hr15
        simp only [w2, hr12, hr13, hr14, hr15, hr16, Bool.not_true] at hr18 hr20
        rw [w2]
        rw [hr18, hr20, wrap_in (by omega) (by omega)]
        exact beq_iff_eq.2 E
end Go.Proofs.YtchjajnhbipkmaaDoor
