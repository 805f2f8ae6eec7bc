import Derived.Test.YtchjajnhbipkmaaDoorG
namespace Go.Proofs.YtchjajnhbipkmaaDoor
open Go.Vg
set_option linter.unusedVariables false
set_option linter.unusedSimpArgs false
open Go
def FB (s : Int) (Q : Int → Bool) (f b : Int) : Prop := N (B b) = b ∧ ∀ x, isb b x = (isb s x && Q x && decide (x < f))
def Qc (_ : Int) : Bool := true
def Qu (hf x : Int) : Bool := decide (x < hf - 1)
def Qd (hf x : Int) : Bool := decide (x < hf) && decide (0 < x)
theorem isb_in {b x : Int} (h : isb b x = true) : 0 ≤ x ∧ x < 64 := by
  unfold isb at h
  rw [Bool.and_eq_true, okf_iff] at h
  exact h.1
theorem isb_ext {a b : Int} (ha : N (B a) = a) (hb : N (B b) = b) (h : ∀ x, isb a x = isb b x) : a = b := by
  rw [← ha, ← hb]
  congr 1
  apply BitVec.eq_of_getLsbD_eq
  intro i hi
  have h1 := h (i : Int)
  unfold isb at h1
  rw [show okf (i : Int) = true from okf_iff.2 ⟨by omega, by omega⟩, Bool.true_and, Bool.true_and, Int.toNat_natCast] at h1
  exact h1
theorem fb_zero (s : Int) (Q : Int → Bool) : FB s Q 0 0 := by
  refine ⟨by decide, fun x => ?_⟩
  rw [isb_zero]
  cases h : isb s x with
  | false => simp
  | true =>
    have := (isb_in h).1
    rw [decide_eq_false (show ¬ x < 0 by omega)]
    simp
theorem FB.hit {s f b : Int} {Q : Int → Bool} (h : FB s Q f b) (hf : okf f = true) (hs : (isb s f && Q f) = true) : FB s Q (f + 1) (put1 b f true) := by
  refine ⟨?_, fun x => ?_⟩
  · unfold put1
    rw [if_pos rfl, B_N]
  · rw [put1_bit, h.2 x, hf]
    by_cases hx : x = f
    · subst hx
      rw [hs, decide_eq_true (show x < x + 1 by omega)]
      simp
    · rw [decide_eq_false hx]
      have : decide (x < f + 1) = decide (x < f) := decide_eq_decide.2 (by omega)
      rw [this]
      simp
theorem FB.miss {s f b : Int} {Q : Int → Bool} (h : FB s Q f b) (hs : (isb s f && Q f) = false) : FB s Q (f + 1) b := by
  refine ⟨h.1, fun x => ?_⟩
  rw [h.2 x]
  by_cases hx : x = f
  · subst hx
    rw [hs]
    simp
  · have : decide (x < f + 1) = decide (x < f) := decide_eq_decide.2 (by omega)
    rw [this]
def FI8 (hf s0 s1 s2 f dr c u d : Int) : Prop := 0 ≤ f ∧ f < hf ∧ FB s0 Qc (f + 1) c ∧ (dr = -1 ∧ FB s1 (Qu hf) f u ∧ FB s2 (Qd hf) f d ∨ dr = 1 ∧ FB s1 (Qu hf) f u ∧ FB s2 (Qd hf) (f + 1) d ∨ dr = 3 ∧ FB s1 (Qu hf) (f + 1) u ∧ FB s2 (Qd hf) (f + 1) d)
section
variable {hf s0 s1 s2 f dr c u d : Int}
theorem FI8.can (h : FI8 hf s0 s1 s2 f dr c u d) : N (B u) = u ∧ N (B d) = d := by
  obtain ⟨_, _, _, ⟨_, h1, h2⟩ | ⟨_, h1, h2⟩ | ⟨_, h1, h2⟩⟩ := h <;> exact ⟨h1.1, h2.1⟩
theorem FI8.hit (h : FI8 hf s0 s1 s2 f dr c u d) (h64 : hf ≤ 64) (hd : dr ≤ 1) (hh : hallb s1 s2 f dr = true) (hm : mayP hf f dr = true) : FI8 hf s0 s1 s2 f (dr + 2) c (put1 u f (okf f && dr == 1)) (put1 d f (okf f && dr == -1)) := by
  obtain ⟨h1, h2, h3, ⟨rfl, h4, h5⟩ | ⟨rfl, h4, h5⟩ | ⟨rfl, h4, h5⟩⟩ := h
  · have ok : okf f = true := okf_iff.2 ⟨h1, by omega⟩
    refine ⟨h1, h2, h3, .inr (.inl ⟨rfl, ?_, ?_⟩)⟩
    · rw [ok]; exact h4
    · rw [ok]
      refine h5.hit ok ?_
      simp [hallb] at hh
      simp [mayP] at hm
      simp [Qd, hh, hm]
  · have ok : okf f = true := okf_iff.2 ⟨h1, by omega⟩
    refine ⟨h1, h2, h3, .inr (.inr ⟨rfl, ?_, ?_⟩)⟩
    · rw [ok]
      refine h4.hit ok ?_
      simp [hallb] at hh
      simp [mayP] at hm
      simp [Qu, hh, hm]
    · rw [ok]; exact h5
  · omega
theorem FI8.miss (h : FI8 hf s0 s1 s2 f dr c u d) (hd : dr ≤ 1) (hh : (hallb s1 s2 f dr && mayP hf f dr) = false) : FI8 hf s0 s1 s2 f (dr + 2) c u d := by
  obtain ⟨h1, h2, h3, ⟨rfl, h4, h5⟩ | ⟨rfl, h4, h5⟩ | ⟨rfl, h4, h5⟩⟩ := h
  · refine ⟨h1, h2, h3, .inr (.inl ⟨rfl, h4, h5.miss ?_⟩)⟩
    simp [hallb, mayP, h1, h2] at hh
    cases hb : isb s2 f with
    | false => rfl
    | true => simp [Qd]; intro _; exact hh hb
  · refine ⟨h1, h2, h3, .inr (.inr ⟨rfl, h4.miss ?_, h5⟩)⟩
    simp [hallb, mayP, h1, h2] at hh
    cases hb : isb s1 f with
    | false => rfl
    | true => simp [Qu]; exact hh hb
  · omega
theorem FI8.out (h : FI8 hf s0 s1 s2 f dr c u d) (hd : 1 < dr) : 0 ≤ f + 1 ∧ f + 1 ≤ hf ∧ FB s0 Qc (f + 1) c ∧ FB s1 (Qu hf) (f + 1) u ∧ FB s2 (Qd hf) (f + 1) d := by
  obtain ⟨h1, h2, h3, ⟨rfl, h4, h5⟩ | ⟨rfl, h4, h5⟩ | ⟨rfl, h4, h5⟩⟩ := h
  · omega
  · omega
  · exact ⟨by omega, by omega, h3, h4, h5⟩
theorem fit_end {hc hs hd : Int} (hv : valid hc hf hs hd = true) (h1 : FB s0 Qc hf c) (h2 : FB s1 (Qu hf) hf u) (h3 : FB s2 (Qd hf) hf d) : c = (houseP hf ⟨s0, s1, s2⟩).c ∧ u = (houseP hf ⟨s0, s1, s2⟩).u ∧ d = (houseP hf ⟨s0, s1, s2⟩).d := by
  refine ⟨isb_ext h1.1 N_B_N fun x => ?_, isb_ext h2.1 N_B_N fun x => ?_, isb_ext h3.1 N_B_N fun x => ?_⟩
  · rw [h1.2 x, house_c hv]
    simp [Qc]
  · rw [h2.2 x, house_u hv]
    simp only [Qu]
    by_cases hx : x < hf - 1
    · rw [decide_eq_true hx, decide_eq_true (show x < hf by omega)]; simp
    · rw [decide_eq_false hx]; simp
  · rw [h3.2 x, house_d hv]
    simp only [Qd]
    by_cases hx : x < hf
    · rw [decide_eq_true hx]; simp
    · rw [decide_eq_false hx]; simp
end
theorem btw_go {hc hf hs hd : Int} {c : CarP} (hr : carRight hc hf hs hd c = true) (hl : level hc hf hs hd c.pos = false) : goIs hc hf hs hd c.pos (betweenDir c) = true := by
  obtain ⟨hv, hp, hdir, _, _, h6, _⟩ := right_iff.1 hr
  have v := valid_iff.1 hv
  have hlv := level_iff hv hp.1 hp.2
  rw [hl] at hlv
  have hm : ¬ c.pos % hs = 0 := of_decide_eq_false hlv.symm
  have h0 : c.pos ≠ 0 := fun e => hm (by rw [e]; exact Int.zero_emod _)
  have h1 : c.pos ≠ top hc hf hs hd := fun e => hm (by rw [e, top_eq hv]; exact Int.mul_emod_left _ _)
  have hb : betweenDir c = 1 ∨ betweenDir c = -1 := by
    unfold betweenDir
    split
    · exact .inr rfl
    · rename_i hrl
      rcases h6 with h6 | h6 | h6
      · rw [hl] at h6; cases h6
      · omega
      · exact absurd h6 hrl
  unfold goIs
  rw [hv, between_iff.2 ⟨by omega, by omega⟩]
  rcases hb with e | e <;> rw [e] <;> simp only [Bool.true_and] <;> exact between_iff.2 ⟨by simp [clampM]; omega, by simp [clampM]; omega⟩
theorem oneB_shl {f : Int} (h : okf f = true) : oneB f = 1#64 <<< f.toNat := by unfold oneB; rw [if_pos h]
theorem put_false (u f : Int) : put1 u f false = u := rfl
theorem etaGo_cut {hc hf hs hd fl dr : Int} : ∀ (k j : Nat) (c : CarP) (s : StP) (n : Int), k ≤ j → n + j ≤ 1048576 → etaGo hc hf hs hd fl dr j c s n < n + k → etaGo hc hf hs hd fl dr k c s n = etaGo hc hf hs hd fl dr j c s n
  | 0, j, c, s, n, _, h2, h3 => by
    have := etaGo_ge (hc := hc) (hf := hf) (hs := hs) (hd := hd) (fl := fl) (dr := dr) j c s n h2
    simp at h3
    omega
  | k + 1, 0, c, s, n, h1, _, _ => by omega
  | k + 1, j + 1, c, s, n, h1, h2, h3 => by
    cases hh : hitP (tickP hc hf hs hd c s false).2 fl dr with
    | true => rw [etaGo_hit hh, etaGo_hit hh]
    | false =>
      rw [etaGo_miss hh] at h3
      rw [etaGo_miss hh, etaGo_miss hh]
      exact etaGo_cut k j _ _ (n + 1) (by omega) (by omega) (by omega)

def etaRef (hc hf hs hd : Int) (c : CarP) (s : StP) (fl dr : Int) : Int :=
  if (carRight hc hf hs hd c && mayP hf fl dr) = true then etaGo hc hf hs hd fl dr 19999 c (putP s fl dr) 1 else 1048576
theorem etaRef_eq {hc hf hs hd fl dr : Int} {c : CarP} {s : StP} : etaRef hc hf hs hd c s fl dr = etaP hc hf hs hd c s fl dr := by
  unfold etaRef
  split
  · rename_i h
    have hb := eta_bound (s := s) (Bool.and_eq_true_iff.1 h).1 (Bool.and_eq_true_iff.1 h).2
    have e : etaP hc hf hs hd c s fl dr = etaGo hc hf hs hd fl dr 1048575 c (putP s fl dr) 1 := by unfold etaP; rw [if_pos h]
    rw [e] at hb ⊢
    exact etaGo_cut 19999 1048575 _ _ 1 (by omega) (by omega) (by omega)
  · rename_i h
    unfold etaP
    rw [if_neg h]

def C_ropen : Ctr := ⟨[.one (.int .i64)], [.agg [.int .i64, .int .i64]],
  fun | [.i _] => True | _ => False,
  fun | [.i dwell] => [.i (openL dwell), .i (0)] | _ => []⟩
theorem ropen_pre {ls : List Leaf} (h_ : C_ropen.pre ls) : ∃ (dwell : Int), ls = [.i dwell] := by
  unfold C_ropen at h_; dsimp only at h_; split at h_
  · exact ⟨_, rfl⟩
  · exact h_.elim
theorem ropen_res {dwell : Int} {rs_ : List Leaf} (h_ : rs_ = C_ropen.fn [.i dwell]) : ∃ (q0 : Int) (q1 : Int), q0 = (openL dwell) ∧ q1 = (0) ∧ rs_ = [.i q0, .i q1] := ⟨_, _, rfl, rfl, h_⟩
def phi_ropen : Fm := (.ret [(.i (.ite (.lt (.i 8) (.ite (.lt (.v 0) (.i 1)) (.i 1) (.v 0))) (.i 8) (.ite (.lt (.v 0) (.i 1)) (.i 1) (.v 0)))), (.i (.i 0))])
def tbl_ropen : List (Nat × Ctr) := []
theorem vc_ropen : vcg Tryd.prog (sigT tbl_ropen) [] Tryd.f73 C_ropen.params C_ropen.res = some phi_ropen := by kernel_rfl
--SPLIT
theorem ropen_sound : C_ropen.Sound Tryd.prog G 73 := by
  refine fn_ok mixed stable tbl_ropen [] Tryd.func73 (by kernel_rfl) phi_ropen vc_ropen trivial (fun _ _ _ => False) (fun _ _ _ => 0) ?_
  intro ls hp
  obtain ⟨dwell, rfl⟩ := ropen_pre hp
  clear hp
  rw [envOf_lk]
  unfold phi_ropen
  suffices hfin : ((if (decide ((8 : Int) < (if (decide (dwell < (1 : Int))) = true then (1 : Int) else dwell))) = true then (8 : Int) else (if (decide (dwell < (1 : Int))) = true then (1 : Int) else dwell))) = (openL dwell) ∧ ((0 : Int)) = (0) from (c_i hfin.1 (c_i hfin.2 rfl))
  -- leaf 1 (ret)
  simp only [openL]
  grind
def C_rtickd : Ctr := ⟨[.agg [.int .i64, .int .i64], .one (.bool)], [.agg [.int .i64, .int .i64], .one (.bool)],
  fun | [.i l, .i h, .b ob] => -9223372036854775808 ≤ l ∧ l < 9223372036854775808 | _ => False,
  fun | [.i l, .i h, .b ob] => [.i (tickL l ob), .i (tickH l h ob), .b (tickC l ob)] | _ => []⟩
theorem rtickd_pre {ls : List Leaf} (h_ : C_rtickd.pre ls) : ∃ (l : Int) (h : Int) (ob : Bool), ls = [.i l, .i h, .b ob] ∧ (-9223372036854775808 ≤ l ∧ l < 9223372036854775808) := by
  unfold C_rtickd at h_; dsimp only at h_; split at h_
  · exact ⟨_, _, _, rfl, h_⟩
  · exact h_.elim
theorem rtickd_mk {l : Int} {h : Int} {ob : Bool} (h_ : -9223372036854775808 ≤ l ∧ l < 9223372036854775808) : C_rtickd.pre [.i l, .i h, .b ob] := h_
theorem rtickd_res {l : Int} {h : Int} {ob : Bool} {rs_ : List Leaf} (h_ : rs_ = C_rtickd.fn [.i l, .i h, .b ob]) : ∃ (q0 : Int) (q1 : Int) (q2 : Bool), q0 = (tickL l ob) ∧ q1 = (tickH l h ob) ∧ q2 = (tickC l ob) ∧ rs_ = [.i q0, .i q1, .b q2] := ⟨_, _, _, rfl, rfl, rfl, h_⟩
def phi_rtickd : Fm := (.and (.imp (.le (.v 0) (.i 0)) .true (.ret [(.i (.i 0)), (.i (.i 0)), (.b (.t .false))])) (.imp (.le (.v 0) (.i 0)) .false (.and (.imp (.lt (.i 1) (.v 0)) .true (.ret [(.i (.wrap .i64 (.sub (.v 0) (.i 1)))), (.i (.v 1)), (.b (.t .false))])) (.imp (.lt (.i 1) (.v 0)) .false (.and (.imp (.v 2) .true (.ret [(.i (.i 1)), (.i (.wrap .i64 (.add (.v 1) (.i 1)))), (.b (.t .false))])) (.imp (.v 2) .false (.ret [(.i (.i 0)), (.i (.i 0)), (.b (.t .true))])))))))
def tbl_rtickd : List (Nat × Ctr) := []
theorem vc_rtickd : vcg Tryd.prog (sigT tbl_rtickd) [] Tryd.f67 C_rtickd.params C_rtickd.res = some phi_rtickd := by kernel_rfl
--SPLIT
theorem rtickd_sound : C_rtickd.Sound Tryd.prog G 67 := by
  refine fn_ok mixed stable tbl_rtickd [] Tryd.func67 (by kernel_rfl) phi_rtickd vc_rtickd trivial (fun _ _ _ => False) (fun _ _ _ => 0) ?_
  intro ls hp
  obtain ⟨l, h, ob, rfl, hpre⟩ := rtickd_pre hp
  clear hp
  rw [envOf_lk]
  unfold phi_rtickd
  refine ⟨fun hcond => ?_, fun hcond => ?_⟩
  ·
    have c1 : (decide (l ≤ (0 : Int))) = true := hcond
    clear hcond
    suffices hfin : ((0 : Int)) = (tickL l ob) ∧ ((0 : Int)) = (tickH l h ob) ∧ (false) = (tickC l ob) from (c_i hfin.1 (c_i hfin.2.1 (c_b hfin.2.2 rfl)))
    -- leaf 1 (ret)
    simp only [tickL, tickH, tickC]
    subst_vars
    try simp only [decide_eq_true_eq, decide_eq_false_iff_not] at *
    try simp (disch := omega) only [wrap_in]
    grind
  ·
    have c2 : (decide (l ≤ (0 : Int))) = false := hcond
    clear hcond
    refine ⟨fun hcond => ?_, fun hcond => ?_⟩
    ·
      have c3 : (decide ((1 : Int) < l)) = true := hcond
      clear hcond
      suffices hfin : ((IntKind.wrap .i64 (l - (1 : Int)))) = (tickL l ob) ∧ (h) = (tickH l h ob) ∧ (false) = (tickC l ob) from (c_i hfin.1 (c_i hfin.2.1 (c_b hfin.2.2 rfl)))
      -- leaf 2 (ret)
      simp only [tickL, tickH, tickC]
      subst_vars
      try simp only [decide_eq_true_eq, decide_eq_false_iff_not] at *
      try simp (disch := omega) only [wrap_in]
      grind
    ·
      have c4 : (decide ((1 : Int) < l)) = false := hcond
      clear hcond
      refine ⟨fun hcond => ?_, fun hcond => ?_⟩
      ·
        have c5 : ob = true := hcond
        clear hcond
        suffices hfin : ((1 : Int)) = (tickL l ob) ∧ ((IntKind.wrap .i64 (h + (1 : Int)))) = (tickH l h ob) ∧ (false) = (tickC l ob) from (c_i hfin.1 (c_i hfin.2.1 (c_b hfin.2.2 rfl)))
        -- leaf 3 (ret)
        simp only [tickL, tickH, tickC]
        subst_vars
        try simp only [decide_eq_true_eq, decide_eq_false_iff_not] at *
        try simp (disch := omega) only [wrap_in]
        grind
      ·
        have c6 : ob = false := hcond
        clear hcond
        suffices hfin : ((0 : Int)) = (tickL l ob) ∧ ((0 : Int)) = (tickH l h ob) ∧ (true) = (tickC l ob) from (c_i hfin.1 (c_i hfin.2.1 (c_b hfin.2.2 rfl)))
        -- leaf 4 (ret)
        simp only [tickL, tickH, tickC]
        subst_vars
        try simp only [decide_eq_true_eq, decide_eq_false_iff_not] at *
        try simp (disch := omega) only [wrap_in]
        grind
def C_rcright : Ctr := ⟨[.agg [.int .i64, .int .i64, .int .i64, .int .i64], .agg [.int .i64, .int .i64, .int .i64, .bool, .int .i64]], [.one (.bool)],
  fun | [.i _, .i _, .i _, .i _, .i _, .i _, .i _, .b _, .i _] => True | _ => False,
  fun | [.i hc, .i hf, .i hs, .i hd, .i cp, .i cdir, .i cdo, .b crl, .i ch] => [.b (carRight hc hf hs hd ⟨cp, cdir, cdo, crl, ch⟩)] | _ => []⟩
theorem rcright_pre {ls : List Leaf} (h_ : C_rcright.pre ls) : ∃ (hc : Int) (hf : Int) (hs : Int) (hd : Int) (cp : Int) (cdir : Int) (cdo : Int) (crl : Bool) (ch : Int), ls = [.i hc, .i hf, .i hs, .i hd, .i cp, .i cdir, .i cdo, .b crl, .i ch] := by
  unfold C_rcright at h_; dsimp only at h_; split at h_
  · exact ⟨_, _, _, _, _, _, _, _, _, rfl⟩
  · exact h_.elim
theorem rcright_res {hc : Int} {hf : Int} {hs : Int} {hd : Int} {cp : Int} {cdir : Int} {cdo : Int} {crl : Bool} {ch : Int} {rs_ : List Leaf} (h_ : rs_ = C_rcright.fn [.i hc, .i hf, .i hs, .i hd, .i cp, .i cdir, .i cdo, .b crl, .i ch]) : ∃ (q0 : Bool), q0 = (carRight hc hf hs hd ⟨cp, cdir, cdo, crl, ch⟩) ∧ rs_ = [.b q0] := ⟨_, rfl, h_⟩
def phi_rcright : Fm := (.call 65 [] [(.i (.v 0)), (.i (.v 1)), (.i (.v 2)), (.i (.v 3)), (.i (.v 4)), (.i (.v 5)), (.i (.v 6)), (.b (.v 7))] 9 (.ret [(.b (.ite (.v 9) (.ite (.eq (.v 8) (.i 0)) (.t .true) (.ite (.lt (.i 0) (.v 8)) (.eq (.v 6) (.i 1)) (.t .false))) (.t .false)))]))
def tbl_rcright : List (Nat × Ctr) := [(65, C_rright)]
theorem vc_rcright : vcg Tryd.prog (sigT tbl_rcright) [] Tryd.f52 C_rcright.params C_rcright.res = some phi_rcright := by kernel_rfl
--SPLIT
theorem rcright_sound : C_rcright.Sound Tryd.prog G 52 := by
  refine fn_ok mixed stable tbl_rcright [] Tryd.func52 (by kernel_rfl) phi_rcright vc_rcright ⟨rright_sound, trivial⟩ (fun _ _ _ => False) (fun _ _ _ => 0) ?_
  intro ls hp
  obtain ⟨hc, hf, hs, hd, cp, cdir, cdo, crl, ch, rfl⟩ := rcright_pre hp
  clear hp
  rw [envOf_lk]
  unfold phi_rcright
  refine vg_call (C := C_rright) rfl rfl (xs := [.i hc, .i hf, .i hs, .i hd, .i cp, .i cdir, .i cdo, .b crl]) rfl (fun hg => ?_) (fun rs hrs => ?_)
  ·
    exact trivial
  obtain ⟨r9, hr9, rfl⟩ := rright_res hrs
  clear hrs
  change Fm.holds _ _ (lk [.i hc, .i hf, .i hs, .i hd, .i cp, .i cdir, .i cdo, .b crl, .i ch, .b r9])
  suffices hfin : ((if r9 = true then (if (ch == (0 : Int)) = true then true else (if (decide ((0 : Int) < ch)) = true then (cdo == (1 : Int)) else false)) else false)) = (carRight hc hf hs hd ⟨cp, cdir, cdo, crl, ch⟩) from (c_b hfin rfl)
  -- leaf 1 (ret)
  subst_vars
  simp only [carRight]
  grind
def C_rfit : Ctr := ⟨[.agg [.int .i64, .int .i64, .int .i64, .int .i64], .agg [.int .u64, .int .u64, .int .u64]], [.agg [.int .u64, .int .u64, .int .u64]],
  fun | [.i hc, .i hf, .i hs, .i hd, .i s0, .i s1, .i s2] => valid hc hf hs hd = true | _ => False,
  fun | [.i _, .i hf, .i _, .i _, .i s0, .i s1, .i s2] => [.i ((houseP hf ⟨s0, s1, s2⟩).c), .i ((houseP hf ⟨s0, s1, s2⟩).u), .i ((houseP hf ⟨s0, s1, s2⟩).d)] | _ => []⟩
theorem rfit_pre {ls : List Leaf} (h_ : C_rfit.pre ls) : ∃ (hc : Int) (hf : Int) (hs : Int) (hd : Int) (s0 : Int) (s1 : Int) (s2 : Int), ls = [.i hc, .i hf, .i hs, .i hd, .i s0, .i s1, .i s2] ∧ (valid hc hf hs hd = true) := by
  unfold C_rfit at h_; dsimp only at h_; split at h_
  · exact ⟨_, _, _, _, _, _, _, rfl, h_⟩
  · exact h_.elim
theorem rfit_mk {hc : Int} {hf : Int} {hs : Int} {hd : Int} {s0 : Int} {s1 : Int} {s2 : Int} (h_ : valid hc hf hs hd = true) : C_rfit.pre [.i hc, .i hf, .i hs, .i hd, .i s0, .i s1, .i s2] := h_
theorem rfit_res {hc : Int} {hf : Int} {hs : Int} {hd : Int} {s0 : Int} {s1 : Int} {s2 : Int} {rs_ : List Leaf} (h_ : rs_ = C_rfit.fn [.i hc, .i hf, .i hs, .i hd, .i s0, .i s1, .i s2]) : ∃ (q0 : Int) (q1 : Int) (q2 : Int), q0 = ((houseP hf ⟨s0, s1, s2⟩).c) ∧ q1 = ((houseP hf ⟨s0, s1, s2⟩).u) ∧ q2 = ((houseP hf ⟨s0, s1, s2⟩).d) ∧ rs_ = [.i q0, .i q1, .i q2] := ⟨_, _, _, rfl, rfl, rfl, h_⟩
def inv_rfit_3 (hf : Int) (s0 : Int) (s1 : Int) (s2 : Int) (f : Int) (c : Int) (u : Int) (d : Int) : Prop := 0 ≤ f ∧ f ≤ hf ∧ FB s0 Qc f c ∧ FB s1 (Qu hf) f u ∧ FB s2 (Qd hf) f d
def meas_rfit_3 (hf : Int) (s0 : Int) (s1 : Int) (s2 : Int) (f : Int) (c : Int) (u : Int) (d : Int) : Nat := (hf - f).toNat
def inv_rfit_8 (hf : Int) (s0 : Int) (s1 : Int) (s2 : Int) (f : Int) (dr : Int) (c : Int) (u : Int) (d : Int) : Prop := FI8 hf s0 s1 s2 f dr c u d
def meas_rfit_8 (hf : Int) (s0 : Int) (s1 : Int) (s2 : Int) (f : Int) (dr : Int) (c : Int) (u : Int) (d : Int) : Nat := (3 - dr).toNat
def phi_rfit : Fm := (.loop 3 7 [1, 4, 5, 6] [(.i (.i 0)), (.i (.i 0)), (.i (.i 0)), (.i (.i 0))] [.i, .i, .i, .i] (.and (.imp (.lt (.v 7) (.v 1)) .true (.call 74 [] [(.i (.v 4)), (.i (.v 5)), (.i (.v 6)), (.i (.v 7))] 11 (.and (.imp (.v 11) .true (.call 66 [] [(.i (.v 7))] 12 (.loop 8 13 [1, 4, 5, 6, 7] [(.i (.i (Int.negSucc 0))), (.i (.bit .or .u64 (.v 8) (.v 12))), (.i (.v 9)), (.i (.v 10))] [.i, .i, .i, .i] (.and (.imp (.le (.v 13) (.i 1)) .true (.call 75 [] [(.i (.v 4)), (.i (.v 5)), (.i (.v 6)), (.i (.v 7)), (.i (.v 13))] 17 (.call 34 [((.v 17), .true)] [(.i (.v 1)), (.i (.v 7)), (.i (.v 13))] 18 (.and (.imp (.ite (.v 17) (.v 18) (.t .false)) .true (.call 53 [] [(.i (.v 14)), (.i (.v 15)), (.i (.v 16)), (.i (.v 7)), (.i (.v 13))] 19 (.back 8 13 17 [1, 4, 5, 6, 7] [(.i (.wrap .i64 (.add (.v 13) (.i 2)))), (.i (.v 19)), (.i (.v 20)), (.i (.v 21))]))) (.imp (.ite (.v 17) (.v 18) (.t .false)) .false (.back 8 13 17 [1, 4, 5, 6, 7] [(.i (.wrap .i64 (.add (.v 13) (.i 2)))), (.i (.v 14)), (.i (.v 15)), (.i (.v 16))])))))) (.imp (.le (.v 13) (.i 1)) .false (.back 3 7 11 [1, 4, 5, 6] [(.i (.wrap .i64 (.add (.v 7) (.i 1)))), (.i (.v 14)), (.i (.v 15)), (.i (.v 16))])))))) (.imp (.v 11) .false (.loop 8 12 [1, 4, 5, 6, 7] [(.i (.i (Int.negSucc 0))), (.i (.v 8)), (.i (.v 9)), (.i (.v 10))] [.i, .i, .i, .i] (.and (.imp (.le (.v 12) (.i 1)) .true (.call 75 [] [(.i (.v 4)), (.i (.v 5)), (.i (.v 6)), (.i (.v 7)), (.i (.v 12))] 16 (.call 34 [((.v 16), .true)] [(.i (.v 1)), (.i (.v 7)), (.i (.v 12))] 17 (.and (.imp (.ite (.v 16) (.v 17) (.t .false)) .true (.call 53 [] [(.i (.v 13)), (.i (.v 14)), (.i (.v 15)), (.i (.v 7)), (.i (.v 12))] 18 (.back 8 12 16 [1, 4, 5, 6, 7] [(.i (.wrap .i64 (.add (.v 12) (.i 2)))), (.i (.v 18)), (.i (.v 19)), (.i (.v 20))]))) (.imp (.ite (.v 16) (.v 17) (.t .false)) .false (.back 8 12 16 [1, 4, 5, 6, 7] [(.i (.wrap .i64 (.add (.v 12) (.i 2)))), (.i (.v 13)), (.i (.v 14)), (.i (.v 15))])))))) (.imp (.le (.v 12) (.i 1)) .false (.back 3 7 11 [1, 4, 5, 6] [(.i (.wrap .i64 (.add (.v 7) (.i 1)))), (.i (.v 13)), (.i (.v 14)), (.i (.v 15))])))))))) (.imp (.lt (.v 7) (.v 1)) .false (.ret [(.i (.v 8)), (.i (.v 9)), (.i (.v 10))]))))
def tbl_rfit : List (Nat × Ctr) := [(34, C_rmay), (53, C_rput), (66, C_rone), (74, C_rat), (75, C_rhall)]
def inv_rfit : List Leaf → Nat → List Leaf → Prop := fun _ key xs => match key, xs with
  | 3, [.i hf, .i s0, .i s1, .i s2, .i f, .i c, .i u, .i d] => inv_rfit_3 hf s0 s1 s2 f c u d
  | 8, [.i hf, .i s0, .i s1, .i s2, .i f, .i dr, .i c, .i u, .i d] => inv_rfit_8 hf s0 s1 s2 f dr c u d
  | _, _ => False
def meas_rfit : List Leaf → Nat → List Leaf → Nat := fun _ key xs => match key, xs with
  | 3, [.i hf, .i s0, .i s1, .i s2, .i f, .i c, .i u, .i d] => meas_rfit_3 hf s0 s1 s2 f c u d
  | 8, [.i hf, .i s0, .i s1, .i s2, .i f, .i dr, .i c, .i u, .i d] => meas_rfit_8 hf s0 s1 s2 f dr c u d
  | _, _ => 0
theorem vc_rfit : vcg Tryd.prog (sigT tbl_rfit) [⟨3, [7, 8, 10, 11, 12, 13, 14, 15, 16, 17, 18, 19, 20, 21, 22, 23, 24, 25, 26, 27, 28, 29, 30, 31, 32, 33, 34, 35, 36, 37, 38, 39, 40, 41, 42, 43, 44], [6], [(3, 0), (3, 1), (3, 2)], [1, 4, 5, 6], some (3, [.i64]), []⟩, ⟨8, [8, 25, 26, 27, 28, 29, 30, 31, 32, 33, 34, 35, 36, 37, 38, 39, 40, 41, 42, 43, 44], [7], [(3, 0), (3, 1), (3, 2)], [1, 4, 5, 6, 7], some (3, [.i64]), []⟩] Tryd.f72 C_rfit.params C_rfit.res = some phi_rfit := by kernel_rfl
--SPLIT
theorem rfit_sound : C_rfit.Sound Tryd.prog G 72 := by
  refine fn_ok mixed stable tbl_rfit [⟨3, [7, 8, 10, 11, 12, 13, 14, 15, 16, 17, 18, 19, 20, 21, 22, 23, 24, 25, 26, 27, 28, 29, 30, 31, 32, 33, 34, 35, 36, 37, 38, 39, 40, 41, 42, 43, 44], [6], [(3, 0), (3, 1), (3, 2)], [1, 4, 5, 6], some (3, [.i64]), []⟩, ⟨8, [8, 25, 26, 27, 28, 29, 30, 31, 32, 33, 34, 35, 36, 37, 38, 39, 40, 41, 42, 43, 44], [7], [(3, 0), (3, 1), (3, 2)], [1, 4, 5, 6, 7], some (3, [.i64]), []⟩] Tryd.func72 (by kernel_rfl) phi_rfit vc_rfit ⟨rmay_sound, rput_sound, rone_sound, rat_sound, rhall_sound, trivial⟩ inv_rfit meas_rfit ?_
  intro ls hp
  obtain ⟨hc, hf, hs, hd, s0, s1, s2, rfl, hpre⟩ := rfit_pre hp
  clear hp
  rw [envOf_lk]
  unfold phi_rfit
  refine vg_loop rfl ?_ (fun xs hfit hi => ?_)
  ·
    show inv_rfit_3 hf s0 s1 s2 (0 : Int) (0 : Int) (0 : Int) (0 : Int)
    -- leaf 1 (init)
    have v := valid_iff.1 hpre
    exact ⟨by omega, by omega, fb_zero _ _, fb_zero _ _, fb_zero _ _⟩
  obtain ⟨x7, xs0, rfl, hfit0⟩ := fits_i hfit
  obtain ⟨x8, xs1, rfl, hfit1⟩ := fits_i hfit0
  obtain ⟨x9, xs2, rfl, hfit2⟩ := fits_i hfit1
  obtain ⟨x10, xs3, rfl, hfit3⟩ := fits_i hfit2
  obtain rfl := fits_nil hfit3
  clear hfit hfit0 hfit1 hfit2 hfit3
  replace hi : inv_rfit_3 hf s0 s1 s2 x7 x8 x9 x10 := hi
  have hi3 := hi; clear hi
  change Fm.holds _ _ (lk [.i hc, .i hf, .i hs, .i hd, .i s0, .i s1, .i s2, .i x7, .i x8, .i x9, .i x10])
  have v := valid_iff.1 hpre
  obtain ⟨i0, i1, i2, i3, i4⟩ := hi3
  have e1 : x7 < hf → IntKind.wrap .i64 (x7 + 1) = x7 + 1 := fun h => wrap_in (by omega) (by omega)
  refine ⟨fun hcond => ?_, fun hcond => ?_⟩
  ·
    have c1 : (decide (x7 < hf)) = true := hcond
    clear hcond
    refine vg_call (C := C_rat) rfl rfl (xs := [.i s0, .i s1, .i s2, .i x7]) rfl (fun hg => ?_) (fun rs hrs => ?_)
    ·
      exact trivial
    obtain ⟨r11, hr11, rfl⟩ := rat_res hrs
    clear hrs
    change Fm.holds _ _ (lk [.i hc, .i hf, .i hs, .i hd, .i s0, .i s1, .i s2, .i x7, .i x8, .i x9, .i x10, .b r11])
    refine ⟨fun hcond => ?_, fun hcond => ?_⟩
    ·
      have c2 : r11 = true := hcond
      clear hcond
      refine vg_call (C := C_rone) rfl rfl (xs := [.i x7]) rfl (fun hg => ?_) (fun rs hrs => ?_)
      ·
        exact trivial
      obtain ⟨r12, hr12, rfl⟩ := rone_res hrs
      clear hrs
      change Fm.holds _ _ (lk [.i hc, .i hf, .i hs, .i hd, .i s0, .i s1, .i s2, .i x7, .i x8, .i x9, .i x10, .b r11, .i r12])
      refine vg_loop rfl ?_ (fun xs hfit hi => ?_)
      ·
        show inv_rfit_8 hf s0 s1 s2 x7 (-1) (bitv .or .u64 x8 r12) x9 x10
        -- leaf 2 (init)
        have hlt := of_decide_eq_true c1
        rw [bv_or, hr12, B_N]
        exact ⟨by omega, hlt, FB.hit i2 (okf_iff.2 ⟨by omega, by omega⟩) (by rw [← hr11, c2]; rfl), .inl ⟨rfl, i3, i4⟩⟩
      obtain ⟨x13, xs0, rfl, hfit0⟩ := fits_i hfit
      obtain ⟨x14, xs1, rfl, hfit1⟩ := fits_i hfit0
      obtain ⟨x15, xs2, rfl, hfit2⟩ := fits_i hfit1
      obtain ⟨x16, xs3, rfl, hfit3⟩ := fits_i hfit2
      obtain rfl := fits_nil hfit3
      clear hfit hfit0 hfit1 hfit2 hfit3
      replace hi : inv_rfit_8 hf s0 s1 s2 x7 x13 x14 x15 x16 := hi
      have hi8 := hi; clear hi
      change Fm.holds _ _ (lk [.i hc, .i hf, .i hs, .i hd, .i s0, .i s1, .i s2, .i x7, .i x8, .i x9, .i x10, .b r11, .i r12, .i x13, .i x14, .i x15, .i x16])
      refine ⟨fun hcond => ?_, fun hcond => ?_⟩
      ·
        have c3 : (decide (x13 ≤ (1 : Int))) = true := hcond
        clear hcond
        refine vg_call (C := C_rhall) rfl rfl (xs := [.i s0, .i s1, .i s2, .i x7, .i x13]) rfl (fun hg => ?_) (fun rs hrs => ?_)
        ·
          exact trivial
        obtain ⟨r17, hr17, rfl⟩ := rhall_res hrs
        clear hrs
        change Fm.holds _ _ (lk [.i hc, .i hf, .i hs, .i hd, .i s0, .i s1, .i s2, .i x7, .i x8, .i x9, .i x10, .b r11, .i r12, .i x13, .i x14, .i x15, .i x16, .b r17])
        refine vg_call (C := C_rmay) rfl rfl (xs := [.i hf, .i x7, .i x13]) rfl (fun hg => ?_) (fun rs hrs => ?_)
        ·
          simp only [gd_cons, gd_nil, and_true] at hg
          replace hg : r17 = true := hg
          refine rmay_mk ?_
          -- leaf 3 (pre)
          omega
        obtain ⟨r18, hr18, rfl⟩ := rmay_res hrs
        clear hrs
        change Fm.holds _ _ (lk [.i hc, .i hf, .i hs, .i hd, .i s0, .i s1, .i s2, .i x7, .i x8, .i x9, .i x10, .b r11, .i r12, .i x13, .i x14, .i x15, .i x16, .b r17, .b r18])
        refine ⟨fun hcond => ?_, fun hcond => ?_⟩
        ·
          have c4 : (if r17 = true then r18 else false) = true := hcond
          clear hcond
          refine vg_call (C := C_rput) rfl rfl (xs := [.i x14, .i x15, .i x16, .i x7, .i x13]) rfl (fun hg => ?_) (fun rs hrs => ?_)
          ·
            refine rput_mk ?_
            -- leaf 4 (pre)
            exact FI8.can hi8
          obtain ⟨r19, r20, r21, hr19, hr20, hr21, rfl⟩ := rput_res hrs
          clear hrs
          change Fm.holds _ _ (lk [.i hc, .i hf, .i hs, .i hd, .i s0, .i s1, .i s2, .i x7, .i x8, .i x9, .i x10, .b r11, .i r12, .i x13, .i x14, .i x15, .i x16, .b r17, .b r18, .i r19, .i r20, .i r21])
          refine ⟨?_, ?_⟩
          ·
            show inv_rfit_8 hf s0 s1 s2 x7 (IntKind.wrap .i64 (x13 + (2 : Int))) r19 r20 r21
            -- leaf 5 (back)
            have hle := of_decide_eq_true c3
            have e2 : IntKind.wrap .i64 (x13 + 2) = x13 + 2 := by
              obtain ⟨_, _, _, ⟨h, _⟩ | ⟨h, _⟩ | ⟨h, _⟩⟩ := hi8 <;> exact wrap_in (by omega) (by omega)
            have hb : hallb s1 s2 x7 x13 = true ∧ mayP hf x7 x13 = true := by
              rw [← hr17, ← hr18]
              revert c4
              cases r17 <;> cases r18 <;> simp
            rw [e2, hr19, hr20, hr21]
            exact FI8.hit hi8 (by omega) hle hb.1 hb.2
          ·
            show meas_rfit_8 hf s0 s1 s2 x7 (IntKind.wrap .i64 (x13 + (2 : Int))) r19 r20 r21 < meas_rfit_8 hf s0 s1 s2 x7 x13 x14 x15 x16
            -- leaf 6 (meas)
            have hle := of_decide_eq_true c3
            have e2 : IntKind.wrap .i64 (x13 + 2) = x13 + 2 := by
              obtain ⟨_, _, _, ⟨h, _⟩ | ⟨h, _⟩ | ⟨h, _⟩⟩ := hi8 <;> exact wrap_in (by omega) (by omega)
            unfold meas_rfit_8
            rw [e2]
            omega
        ·
          have c5 : (if r17 = true then r18 else false) = false := hcond
          clear hcond
          refine ⟨?_, ?_⟩
          ·
            show inv_rfit_8 hf s0 s1 s2 x7 (IntKind.wrap .i64 (x13 + (2 : Int))) x14 x15 x16
            -- leaf 7 (back)
            have hle := of_decide_eq_true c3
            have e2 : IntKind.wrap .i64 (x13 + 2) = x13 + 2 := by
              obtain ⟨_, _, _, ⟨h, _⟩ | ⟨h, _⟩ | ⟨h, _⟩⟩ := hi8 <;> exact wrap_in (by omega) (by omega)
            have hb : (hallb s1 s2 x7 x13 && mayP hf x7 x13) = false := by
              rw [← hr17, ← hr18]
              revert c5
              cases r17 <;> cases r18 <;> simp
            rw [e2]
            exact FI8.miss hi8 hle hb
          ·
            show meas_rfit_8 hf s0 s1 s2 x7 (IntKind.wrap .i64 (x13 + (2 : Int))) x14 x15 x16 < meas_rfit_8 hf s0 s1 s2 x7 x13 x14 x15 x16
            -- leaf 8 (meas)
            have hle := of_decide_eq_true c3
            have e2 : IntKind.wrap .i64 (x13 + 2) = x13 + 2 := by
              obtain ⟨_, _, _, ⟨h, _⟩ | ⟨h, _⟩ | ⟨h, _⟩⟩ := hi8 <;> exact wrap_in (by omega) (by omega)
            unfold meas_rfit_8
            rw [e2]
            omega
      ·
        have c6 : (decide (x13 ≤ (1 : Int))) = false := hcond
        clear hcond
        refine ⟨?_, ?_⟩
        ·
          show inv_rfit_3 hf s0 s1 s2 (IntKind.wrap .i64 (x7 + (1 : Int))) x14 x15 x16
          -- leaf 9 (back)
          have hgt := of_decide_eq_false c6
          rw [e1 (of_decide_eq_true c1)]
          exact FI8.out hi8 (by omega)
        ·
          show meas_rfit_3 hf s0 s1 s2 (IntKind.wrap .i64 (x7 + (1 : Int))) x14 x15 x16 < meas_rfit_3 hf s0 s1 s2 x7 x8 x9 x10
          -- leaf 10 (meas)
          have hlt := of_decide_eq_true c1
          unfold meas_rfit_3
          rw [e1 hlt]
          omega
    ·
      have c7 : r11 = false := hcond
      clear hcond
      refine vg_loop rfl ?_ (fun xs hfit hi => ?_)
      ·
        show inv_rfit_8 hf s0 s1 s2 x7 (-1) x8 x9 x10
        -- leaf 11 (init)
        have hlt := of_decide_eq_true c1
        exact ⟨by omega, hlt, i2.miss (by rw [← hr11, c7]; rfl), .inl ⟨rfl, i3, i4⟩⟩
      obtain ⟨x12, xs0, rfl, hfit0⟩ := fits_i hfit
      obtain ⟨x13, xs1, rfl, hfit1⟩ := fits_i hfit0
      obtain ⟨x14, xs2, rfl, hfit2⟩ := fits_i hfit1
      obtain ⟨x15, xs3, rfl, hfit3⟩ := fits_i hfit2
      obtain rfl := fits_nil hfit3
      clear hfit hfit0 hfit1 hfit2 hfit3
      replace hi : inv_rfit_8 hf s0 s1 s2 x7 x12 x13 x14 x15 := hi
      have hi8 := hi; clear hi
      change Fm.holds _ _ (lk [.i hc, .i hf, .i hs, .i hd, .i s0, .i s1, .i s2, .i x7, .i x8, .i x9, .i x10, .b r11, .i x12, .i x13, .i x14, .i x15])
      refine ⟨fun hcond => ?_, fun hcond => ?_⟩
      ·
        have c8 : (decide (x12 ≤ (1 : Int))) = true := hcond
        clear hcond
        refine vg_call (C := C_rhall) rfl rfl (xs := [.i s0, .i s1, .i s2, .i x7, .i x12]) rfl (fun hg => ?_) (fun rs hrs => ?_)
        ·
          exact trivial
        obtain ⟨r16, hr16, rfl⟩ := rhall_res hrs
        clear hrs
        change Fm.holds _ _ (lk [.i hc, .i hf, .i hs, .i hd, .i s0, .i s1, .i s2, .i x7, .i x8, .i x9, .i x10, .b r11, .i x12, .i x13, .i x14, .i x15, .b r16])
        refine vg_call (C := C_rmay) rfl rfl (xs := [.i hf, .i x7, .i x12]) rfl (fun hg => ?_) (fun rs hrs => ?_)
        ·
          simp only [gd_cons, gd_nil, and_true] at hg
          replace hg : r16 = true := hg
          refine rmay_mk ?_
          -- leaf 12 (pre)
          omega
        obtain ⟨r17, hr17, rfl⟩ := rmay_res hrs
        clear hrs
        change Fm.holds _ _ (lk [.i hc, .i hf, .i hs, .i hd, .i s0, .i s1, .i s2, .i x7, .i x8, .i x9, .i x10, .b r11, .i x12, .i x13, .i x14, .i x15, .b r16, .b r17])
        refine ⟨fun hcond => ?_, fun hcond => ?_⟩
        ·
          have c9 : (if r16 = true then r17 else false) = true := hcond
          clear hcond
          refine vg_call (C := C_rput) rfl rfl (xs := [.i x13, .i x14, .i x15, .i x7, .i x12]) rfl (fun hg => ?_) (fun rs hrs => ?_)
          ·
            refine rput_mk ?_
            -- leaf 13 (pre)
            exact FI8.can hi8
          obtain ⟨r18, r19, r20, hr18, hr19, hr20, rfl⟩ := rput_res hrs
          clear hrs
          change Fm.holds _ _ (lk [.i hc, .i hf, .i hs, .i hd, .i s0, .i s1, .i s2, .i x7, .i x8, .i x9, .i x10, .b r11, .i x12, .i x13, .i x14, .i x15, .b r16, .b r17, .i r18, .i r19, .i r20])
          refine ⟨?_, ?_⟩
          ·
            show inv_rfit_8 hf s0 s1 s2 x7 (IntKind.wrap .i64 (x12 + (2 : Int))) r18 r19 r20
            -- leaf 14 (back)
            have hle := of_decide_eq_true c8
            have e2 : IntKind.wrap .i64 (x12 + 2) = x12 + 2 := by
              obtain ⟨_, _, _, ⟨h, _⟩ | ⟨h, _⟩ | ⟨h, _⟩⟩ := hi8 <;> exact wrap_in (by omega) (by omega)
            have hb : hallb s1 s2 x7 x12 = true ∧ mayP hf x7 x12 = true := by
              rw [← hr16, ← hr17]
              revert c9
              cases r16 <;> cases r17 <;> simp
            rw [e2, hr18, hr19, hr20]
            exact FI8.hit hi8 (by omega) hle hb.1 hb.2
          ·
            show meas_rfit_8 hf s0 s1 s2 x7 (IntKind.wrap .i64 (x12 + (2 : Int))) r18 r19 r20 < meas_rfit_8 hf s0 s1 s2 x7 x12 x13 x14 x15
            -- leaf 15 (meas)
            have hle := of_decide_eq_true c8
            have e2 : IntKind.wrap .i64 (x12 + 2) = x12 + 2 := by
              obtain ⟨_, _, _, ⟨h, _⟩ | ⟨h, _⟩ | ⟨h, _⟩⟩ := hi8 <;> exact wrap_in (by omega) (by omega)
            unfold meas_rfit_8
            rw [e2]
            omega
        ·
          have c10 : (if r16 = true then r17 else false) = false := hcond
          clear hcond
          refine ⟨?_, ?_⟩
          ·
            show inv_rfit_8 hf s0 s1 s2 x7 (IntKind.wrap .i64 (x12 + (2 : Int))) x13 x14 x15
            -- leaf 16 (back)
            have hle := of_decide_eq_true c8
            have e2 : IntKind.wrap .i64 (x12 + 2) = x12 + 2 := by
              obtain ⟨_, _, _, ⟨h, _⟩ | ⟨h, _⟩ | ⟨h, _⟩⟩ := hi8 <;> exact wrap_in (by omega) (by omega)
            have hb : (hallb s1 s2 x7 x12 && mayP hf x7 x12) = false := by
              rw [← hr16, ← hr17]
              revert c10
              cases r16 <;> cases r17 <;> simp
            rw [e2]
            exact FI8.miss hi8 hle hb
          ·
            show meas_rfit_8 hf s0 s1 s2 x7 (IntKind.wrap .i64 (x12 + (2 : Int))) x13 x14 x15 < meas_rfit_8 hf s0 s1 s2 x7 x12 x13 x14 x15
            -- leaf 17 (meas)
            have hle := of_decide_eq_true c8
            have e2 : IntKind.wrap .i64 (x12 + 2) = x12 + 2 := by
              obtain ⟨_, _, _, ⟨h, _⟩ | ⟨h, _⟩ | ⟨h, _⟩⟩ := hi8 <;> exact wrap_in (by omega) (by omega)
            unfold meas_rfit_8
            rw [e2]
            omega
      ·
        have c11 : (decide (x12 ≤ (1 : Int))) = false := hcond
        clear hcond
        refine ⟨?_, ?_⟩
        ·
          show inv_rfit_3 hf s0 s1 s2 (IntKind.wrap .i64 (x7 + (1 : Int))) x13 x14 x15
          -- leaf 18 (back)
          have hgt := of_decide_eq_false c11
          rw [e1 (of_decide_eq_true c1)]
          exact FI8.out hi8 (by omega)
        ·
          show meas_rfit_3 hf s0 s1 s2 (IntKind.wrap .i64 (x7 + (1 : Int))) x13 x14 x15 < meas_rfit_3 hf s0 s1 s2 x7 x8 x9 x10
          -- leaf 19 (meas)
          have hlt := of_decide_eq_true c1
          unfold meas_rfit_3
          rw [e1 hlt]
          omega
  ·
    have c12 : (decide (x7 < hf)) = false := hcond
    clear hcond
    suffices hfin : (x8) = ((houseP hf ⟨s0, s1, s2⟩).c) ∧ (x9) = ((houseP hf ⟨s0, s1, s2⟩).u) ∧ (x10) = ((houseP hf ⟨s0, s1, s2⟩).d) from (c_i hfin.1 (c_i hfin.2.1 (c_i hfin.2.2 rfl)))
    -- leaf 20 (ret)
    have hge := of_decide_eq_false c12
    have e : x7 = hf := by omega
    subst e
    exact fit_end hpre i2 i3 i4
def C_rctick : Ctr := ⟨[.agg [.int .i64, .int .i64, .int .i64, .int .i64], .agg [.int .i64, .int .i64, .int .i64, .bool, .int .i64], .agg [.int .u64, .int .u64, .int .u64], .one (.bool)], [.agg [.int .i64, .int .i64, .int .i64, .bool, .int .i64], .agg [.bool, .bool, .int .i64, .int .i64, .int .i64, .int .u64, .int .u64, .int .u64]],
  fun | [.i _, .i _, .i _, .i _, .i _, .i _, .i _, .b _, .i _, .i _, .i _, .i _, .b _] => True | _ => False,
  fun | [.i hc, .i hf, .i hs, .i hd, .i cp, .i cdir, .i cdo, .b crl, .i ch, .i s0, .i s1, .i s2, .b ob] => [.i ((tickP hc hf hs hd ⟨cp, cdir, cdo, crl, ch⟩ ⟨s0, s1, s2⟩ ob).1.pos), .i ((tickP hc hf hs hd ⟨cp, cdir, cdo, crl, ch⟩ ⟨s0, s1, s2⟩ ob).1.dir), .i ((tickP hc hf hs hd ⟨cp, cdir, cdo, crl, ch⟩ ⟨s0, s1, s2⟩ ob).1.door), .b ((tickP hc hf hs hd ⟨cp, cdir, cdo, crl, ch⟩ ⟨s0, s1, s2⟩ ob).1.rl), .i ((tickP hc hf hs hd ⟨cp, cdir, cdo, crl, ch⟩ ⟨s0, s1, s2⟩ ob).1.held), .b ((tickP hc hf hs hd ⟨cp, cdir, cdo, crl, ch⟩ ⟨s0, s1, s2⟩ ob).2.op), .b ((tickP hc hf hs hd ⟨cp, cdir, cdo, crl, ch⟩ ⟨s0, s1, s2⟩ ob).2.cl), .i ((tickP hc hf hs hd ⟨cp, cdir, cdo, crl, ch⟩ ⟨s0, s1, s2⟩ ob).2.fl), .i ((tickP hc hf hs hd ⟨cp, cdir, cdo, crl, ch⟩ ⟨s0, s1, s2⟩ ob).2.lan), .i ((tickP hc hf hs hd ⟨cp, cdir, cdo, crl, ch⟩ ⟨s0, s1, s2⟩ ob).2.mv), .i ((tickP hc hf hs hd ⟨cp, cdir, cdo, crl, ch⟩ ⟨s0, s1, s2⟩ ob).2.sc), .i ((tickP hc hf hs hd ⟨cp, cdir, cdo, crl, ch⟩ ⟨s0, s1, s2⟩ ob).2.su), .i ((tickP hc hf hs hd ⟨cp, cdir, cdo, crl, ch⟩ ⟨s0, s1, s2⟩ ob).2.sd)] | _ => []⟩
theorem rctick_pre {ls : List Leaf} (h_ : C_rctick.pre ls) : ∃ (hc : Int) (hf : Int) (hs : Int) (hd : Int) (cp : Int) (cdir : Int) (cdo : Int) (crl : Bool) (ch : Int) (s0 : Int) (s1 : Int) (s2 : Int) (ob : Bool), ls = [.i hc, .i hf, .i hs, .i hd, .i cp, .i cdir, .i cdo, .b crl, .i ch, .i s0, .i s1, .i s2, .b ob] := by
  unfold C_rctick at h_; dsimp only at h_; split at h_
  · exact ⟨_, _, _, _, _, _, _, _, _, _, _, _, _, rfl⟩
  · exact h_.elim
theorem rctick_res {hc : Int} {hf : Int} {hs : Int} {hd : Int} {cp : Int} {cdir : Int} {cdo : Int} {crl : Bool} {ch : Int} {s0 : Int} {s1 : Int} {s2 : Int} {ob : Bool} {rs_ : List Leaf} (h_ : rs_ = C_rctick.fn [.i hc, .i hf, .i hs, .i hd, .i cp, .i cdir, .i cdo, .b crl, .i ch, .i s0, .i s1, .i s2, .b ob]) : ∃ (q0 : Int) (q1 : Int) (q2 : Int) (q3 : Bool) (q4 : Int) (q5 : Bool) (q6 : Bool) (q7 : Int) (q8 : Int) (q9 : Int) (q10 : Int) (q11 : Int) (q12 : Int), q0 = ((tickP hc hf hs hd ⟨cp, cdir, cdo, crl, ch⟩ ⟨s0, s1, s2⟩ ob).1.pos) ∧ q1 = ((tickP hc hf hs hd ⟨cp, cdir, cdo, crl, ch⟩ ⟨s0, s1, s2⟩ ob).1.dir) ∧ q2 = ((tickP hc hf hs hd ⟨cp, cdir, cdo, crl, ch⟩ ⟨s0, s1, s2⟩ ob).1.door) ∧ q3 = ((tickP hc hf hs hd ⟨cp, cdir, cdo, crl, ch⟩ ⟨s0, s1, s2⟩ ob).1.rl) ∧ q4 = ((tickP hc hf hs hd ⟨cp, cdir, cdo, crl, ch⟩ ⟨s0, s1, s2⟩ ob).1.held) ∧ q5 = ((tickP hc hf hs hd ⟨cp, cdir, cdo, crl, ch⟩ ⟨s0, s1, s2⟩ ob).2.op) ∧ q6 = ((tickP hc hf hs hd ⟨cp, cdir, cdo, crl, ch⟩ ⟨s0, s1, s2⟩ ob).2.cl) ∧ q7 = ((tickP hc hf hs hd ⟨cp, cdir, cdo, crl, ch⟩ ⟨s0, s1, s2⟩ ob).2.fl) ∧ q8 = ((tickP hc hf hs hd ⟨cp, cdir, cdo, crl, ch⟩ ⟨s0, s1, s2⟩ ob).2.lan) ∧ q9 = ((tickP hc hf hs hd ⟨cp, cdir, cdo, crl, ch⟩ ⟨s0, s1, s2⟩ ob).2.mv) ∧ q10 = ((tickP hc hf hs hd ⟨cp, cdir, cdo, crl, ch⟩ ⟨s0, s1, s2⟩ ob).2.sc) ∧ q11 = ((tickP hc hf hs hd ⟨cp, cdir, cdo, crl, ch⟩ ⟨s0, s1, s2⟩ ob).2.su) ∧ q12 = ((tickP hc hf hs hd ⟨cp, cdir, cdo, crl, ch⟩ ⟨s0, s1, s2⟩ ob).2.sd) ∧ rs_ = [.i q0, .i q1, .i q2, .b q3, .i q4, .b q5, .b q6, .i q7, .i q8, .i q9, .i q10, .i q11, .i q12] := ⟨_, _, _, _, _, _, _, _, _, _, _, _, _, rfl, rfl, rfl, rfl, rfl, rfl, rfl, rfl, rfl, rfl, rfl, rfl, rfl, h_⟩
def phi_rctick : Fm := (.call 51 [] [(.i (.v 0)), (.i (.v 1)), (.i (.v 2)), (.i (.v 3))] 13 (.call 52 [((.not (.v 13)), .false)] [(.i (.v 0)), (.i (.v 1)), (.i (.v 2)), (.i (.v 3)), (.i (.v 4)), (.i (.v 5)), (.i (.v 6)), (.b (.v 7)), (.i (.v 8))] 14 (.and (.imp (.ite (.not (.v 13)) (.t .true) (.not (.v 14))) .true (.ret [(.i (.v 4)), (.i (.v 5)), (.i (.v 6)), (.b (.v 7)), (.i (.v 8)), (.b (.t .false)), (.b (.t .false)), (.i (.i 0)), (.i (.i 0)), (.i (.i 0)), (.i (.i 0)), (.i (.i 0)), (.i (.i 0))])) (.imp (.ite (.not (.v 13)) (.t .true) (.not (.v 14))) .false (.and (.imp (.lt (.i 0) (.v 6)) .true (.call 67 [] [(.i (.v 6)), (.i (.v 8)), (.b (.v 12))] 15 (.call 68 [] [(.i (.v 0)), (.i (.v 1)), (.i (.v 2)), (.i (.v 3)), (.i (.v 4))] 18 (.ret [(.i (.v 4)), (.i (.v 5)), (.i (.v 15)), (.b (.v 7)), (.i (.v 16)), (.b (.t .false)), (.b (.v 17)), (.i (.v 18)), (.i (.i 0)), (.i (.i 0)), (.i (.i 0)), (.i (.i 0)), (.i (.i 0))])))) (.imp (.lt (.i 0) (.v 6)) .false (.call 69 [] [(.i (.v 0)), (.i (.v 1)), (.i (.v 2)), (.i (.v 3)), (.i (.v 4))] 15 (.and (.imp (.v 15) .false (.and (.imp (.v 7) .true (.call 70 [] [(.i (.v 0)), (.i (.v 1)), (.i (.v 2)), (.i (.v 3)), (.i (.v 4)), (.i (.i (Int.negSucc 0)))] 16 (.call 69 [] [(.i (.v 0)), (.i (.v 1)), (.i (.v 2)), (.i (.v 3)), (.i (.v 16))] 18 (.and (.imp (.ite (.v 18) (.v 7) (.t .false)) .true (.call 68 [] [(.i (.v 0)), (.i (.v 1)), (.i (.v 2)), (.i (.v 3)), (.i (.v 16))] 19 (.ret [(.i (.v 16)), (.i (.i 0)), (.i (.v 6)), (.b (.t .false)), (.i (.v 8)), (.b (.t .false)), (.b (.t .false)), (.i (.v 19)), (.i (.i 0)), (.i (.wrap .i64 (.sub (.v 16) (.v 4)))), (.i (.i 0)), (.i (.i 0)), (.i (.i 0))]))) (.imp (.ite (.v 18) (.v 7) (.t .false)) .false (.call 68 [] [(.i (.v 0)), (.i (.v 1)), (.i (.v 2)), (.i (.v 3)), (.i (.v 16))] 19 (.ret [(.i (.v 16)), (.i (.i (Int.negSucc 0))), (.i (.v 6)), (.b (.v 7)), (.i (.v 8)), (.b (.t .false)), (.b (.t .false)), (.i (.v 19)), (.i (.i 0)), (.i (.wrap .i64 (.sub (.v 16) (.v 4)))), (.i (.i 0)), (.i (.i 0)), (.i (.i 0))]))))))) (.imp (.v 7) .false (.call 70 [] [(.i (.v 0)), (.i (.v 1)), (.i (.v 2)), (.i (.v 3)), (.i (.v 4)), (.i (.v 5))] 16 (.call 69 [] [(.i (.v 0)), (.i (.v 1)), (.i (.v 2)), (.i (.v 3)), (.i (.v 16))] 18 (.and (.imp (.ite (.v 18) (.v 7) (.t .false)) .true (.call 68 [] [(.i (.v 0)), (.i (.v 1)), (.i (.v 2)), (.i (.v 3)), (.i (.v 16))] 19 (.ret [(.i (.v 16)), (.i (.i 0)), (.i (.v 6)), (.b (.t .false)), (.i (.v 8)), (.b (.t .false)), (.b (.t .false)), (.i (.v 19)), (.i (.i 0)), (.i (.wrap .i64 (.sub (.v 16) (.v 4)))), (.i (.i 0)), (.i (.i 0)), (.i (.i 0))]))) (.imp (.ite (.v 18) (.v 7) (.t .false)) .false (.call 68 [] [(.i (.v 0)), (.i (.v 1)), (.i (.v 2)), (.i (.v 3)), (.i (.v 16))] 19 (.ret [(.i (.v 16)), (.i (.v 5)), (.i (.v 6)), (.b (.v 7)), (.i (.v 8)), (.b (.t .false)), (.b (.t .false)), (.i (.v 19)), (.i (.i 0)), (.i (.wrap .i64 (.sub (.v 16) (.v 4)))), (.i (.i 0)), (.i (.i 0)), (.i (.i 0))]))))))))) (.imp (.v 15) .true (.call 68 [] [(.i (.v 0)), (.i (.v 1)), (.i (.v 2)), (.i (.v 3)), (.i (.v 4))] 16 (.call 72 [] [(.i (.v 0)), (.i (.v 1)), (.i (.v 2)), (.i (.v 3)), (.i (.v 9)), (.i (.v 10)), (.i (.v 11))] 17 (.call 71 [] [(.i (.v 17)), (.i (.v 18)), (.i (.v 19)), (.i (.v 16)), (.i (.v 5))] 20 (.and (.imp (.v 20) .true (.call 73 [] [(.i (.v 3))] 23 (.call 74 [] [(.i (.v 9)), (.i (.v 10)), (.i (.v 11)), (.i (.v 16))] 25 (.and (.imp (.v 25) .true (.call 66 [] [(.i (.v 16))] 26 (.call 72 [] [(.i (.v 0)), (.i (.v 1)), (.i (.v 2)), (.i (.v 3)), (.i (.v 9)), (.i (.v 10)), (.i (.v 11))] 27 (.call 75 [] [(.i (.v 27)), (.i (.v 28)), (.i (.v 29)), (.i (.v 16)), (.i (.v 21))] 30 (.and (.imp (.v 30) .true (.call 53 [] [(.i (.v 26)), (.i (.i 0)), (.i (.i 0)), (.i (.v 16)), (.i (.v 21))] 31 (.ret [(.i (.v 4)), (.i (.v 21)), (.i (.v 23)), (.b (.t .false)), (.i (.i 0)), (.b (.t .true)), (.b (.t .false)), (.i (.v 16)), (.i (.v 21)), (.i (.i 0)), (.i (.v 31)), (.i (.v 32)), (.i (.v 33))]))) (.imp (.v 30) .false (.ret [(.i (.v 4)), (.i (.v 21)), (.i (.v 23)), (.b (.t .false)), (.i (.i 0)), (.b (.t .true)), (.b (.t .false)), (.i (.v 16)), (.i (.v 21)), (.i (.i 0)), (.i (.v 26)), (.i (.i 0)), (.i (.i 0))]))))))) (.imp (.v 25) .false (.call 72 [] [(.i (.v 0)), (.i (.v 1)), (.i (.v 2)), (.i (.v 3)), (.i (.v 9)), (.i (.v 10)), (.i (.v 11))] 26 (.call 75 [] [(.i (.v 26)), (.i (.v 27)), (.i (.v 28)), (.i (.v 16)), (.i (.v 21))] 29 (.and (.imp (.v 29) .true (.call 53 [] [(.i (.i 0)), (.i (.i 0)), (.i (.i 0)), (.i (.v 16)), (.i (.v 21))] 30 (.ret [(.i (.v 4)), (.i (.v 21)), (.i (.v 23)), (.b (.t .false)), (.i (.i 0)), (.b (.t .true)), (.b (.t .false)), (.i (.v 16)), (.i (.v 21)), (.i (.i 0)), (.i (.v 30)), (.i (.v 31)), (.i (.v 32))]))) (.imp (.v 29) .false (.ret [(.i (.v 4)), (.i (.v 21)), (.i (.v 23)), (.b (.t .false)), (.i (.i 0)), (.b (.t .true)), (.b (.t .false)), (.i (.v 16)), (.i (.v 21)), (.i (.i 0)), (.i (.i 0)), (.i (.i 0)), (.i (.i 0))])))))))))) (.imp (.v 20) .false (.call 70 [] [(.i (.v 0)), (.i (.v 1)), (.i (.v 2)), (.i (.v 3)), (.i (.v 4)), (.i (.v 22))] 23 (.and (.imp (.v 24) .true (.call 68 [] [(.i (.v 0)), (.i (.v 1)), (.i (.v 2)), (.i (.v 3)), (.i (.v 23))] 25 (.ret [(.i (.v 23)), (.i (.v 21)), (.i (.v 6)), (.b (.t .false)), (.i (.v 8)), (.b (.t .false)), (.b (.t .false)), (.i (.v 25)), (.i (.i 0)), (.i (.wrap .i64 (.sub (.v 23) (.v 4)))), (.i (.i 0)), (.i (.i 0)), (.i (.i 0))]))) (.imp (.v 24) .false (.call 68 [] [(.i (.v 0)), (.i (.v 1)), (.i (.v 2)), (.i (.v 3)), (.i (.v 4))] 25 (.ret [(.i (.v 4)), (.i (.v 21)), (.i (.v 6)), (.b (.t .false)), (.i (.v 8)), (.b (.t .false)), (.b (.t .false)), (.i (.v 25)), (.i (.i 0)), (.i (.i 0)), (.i (.i 0)), (.i (.i 0)), (.i (.i 0))])))))))))))))))))))
def tbl_rctick : List (Nat × Ctr) := [(51, C_rvalid), (52, C_rcright), (53, C_rput), (66, C_rone), (67, C_rtickd), (68, C_rfloor), (69, C_rlevel), (70, C_rgo), (71, C_rplan), (72, C_rfit), (73, C_ropen), (74, C_rat), (75, C_rhall)]
theorem vc_rctick : vcg Tryd.prog (sigT tbl_rctick) [] Tryd.f54 C_rctick.params C_rctick.res = some phi_rctick := by kernel_rfl
--SPLIT
theorem rctick_sound : C_rctick.Sound Tryd.prog G 54 := by
  refine fn_ok mixed stable tbl_rctick [] Tryd.func54 (by kernel_rfl) phi_rctick vc_rctick ⟨rvalid_sound, rcright_sound, rput_sound, rone_sound, rtickd_sound, rfloor_sound, rlevel_sound, rgo_sound, rplan_sound, rfit_sound, ropen_sound, rat_sound, rhall_sound, trivial⟩ (fun _ _ _ => False) (fun _ _ _ => 0) ?_
  intro ls hp
  obtain ⟨hc, hf, hs, hd, cp, cdir, cdo, crl, ch, s0, s1, s2, ob, rfl⟩ := rctick_pre hp
  clear hp
  rw [envOf_lk]
  unfold phi_rctick
  refine vg_call (C := C_rvalid) rfl rfl (xs := [.i hc, .i hf, .i hs, .i hd]) rfl (fun hg => ?_) (fun rs hrs => ?_)
  ·
    exact trivial
  obtain ⟨r13, hr13, rfl⟩ := rvalid_res hrs
  clear hrs
  change Fm.holds _ _ (lk [.i hc, .i hf, .i hs, .i hd, .i cp, .i cdir, .i cdo, .b crl, .i ch, .i s0, .i s1, .i s2, .b ob, .b r13])
  refine vg_call (C := C_rcright) rfl rfl (xs := [.i hc, .i hf, .i hs, .i hd, .i cp, .i cdir, .i cdo, .b crl, .i ch]) rfl (fun hg => ?_) (fun rs hrs => ?_)
  ·
    exact trivial
  obtain ⟨r14, hr14, rfl⟩ := rcright_res hrs
  clear hrs
  change Fm.holds _ _ (lk [.i hc, .i hf, .i hs, .i hd, .i cp, .i cdir, .i cdo, .b crl, .i ch, .i s0, .i s1, .i s2, .b ob, .b r13, .b r14])
  refine ⟨fun hcond => ?_, fun hcond => ?_⟩
  ·
    have c1 : (if (!r13) = true then true else (!r14)) = true := hcond
    clear hcond
    suffices hfin : (cp) = ((tickP hc hf hs hd ⟨cp, cdir, cdo, crl, ch⟩ ⟨s0, s1, s2⟩ ob).1.pos) ∧ (cdir) = ((tickP hc hf hs hd ⟨cp, cdir, cdo, crl, ch⟩ ⟨s0, s1, s2⟩ ob).1.dir) ∧ (cdo) = ((tickP hc hf hs hd ⟨cp, cdir, cdo, crl, ch⟩ ⟨s0, s1, s2⟩ ob).1.door) ∧ (crl) = ((tickP hc hf hs hd ⟨cp, cdir, cdo, crl, ch⟩ ⟨s0, s1, s2⟩ ob).1.rl) ∧ (ch) = ((tickP hc hf hs hd ⟨cp, cdir, cdo, crl, ch⟩ ⟨s0, s1, s2⟩ ob).1.held) ∧ (false) = ((tickP hc hf hs hd ⟨cp, cdir, cdo, crl, ch⟩ ⟨s0, s1, s2⟩ ob).2.op) ∧ (false) = ((tickP hc hf hs hd ⟨cp, cdir, cdo, crl, ch⟩ ⟨s0, s1, s2⟩ ob).2.cl) ∧ ((0 : Int)) = ((tickP hc hf hs hd ⟨cp, cdir, cdo, crl, ch⟩ ⟨s0, s1, s2⟩ ob).2.fl) ∧ ((0 : Int)) = ((tickP hc hf hs hd ⟨cp, cdir, cdo, crl, ch⟩ ⟨s0, s1, s2⟩ ob).2.lan) ∧ ((0 : Int)) = ((tickP hc hf hs hd ⟨cp, cdir, cdo, crl, ch⟩ ⟨s0, s1, s2⟩ ob).2.mv) ∧ ((0 : Int)) = ((tickP hc hf hs hd ⟨cp, cdir, cdo, crl, ch⟩ ⟨s0, s1, s2⟩ ob).2.sc) ∧ ((0 : Int)) = ((tickP hc hf hs hd ⟨cp, cdir, cdo, crl, ch⟩ ⟨s0, s1, s2⟩ ob).2.su) ∧ ((0 : Int)) = ((tickP hc hf hs hd ⟨cp, cdir, cdo, crl, ch⟩ ⟨s0, s1, s2⟩ ob).2.sd) from (c_i hfin.1 (c_i hfin.2.1 (c_i hfin.2.2.1 (c_b hfin.2.2.2.1 (c_i hfin.2.2.2.2.1 (c_b hfin.2.2.2.2.2.1 (c_b hfin.2.2.2.2.2.2.1 (c_i hfin.2.2.2.2.2.2.2.1 (c_i hfin.2.2.2.2.2.2.2.2.1 (c_i hfin.2.2.2.2.2.2.2.2.2.1 (c_i hfin.2.2.2.2.2.2.2.2.2.2.1 (c_i hfin.2.2.2.2.2.2.2.2.2.2.2.1 (c_i hfin.2.2.2.2.2.2.2.2.2.2.2.2 rfl)))))))))))))
    -- leaf 1 (ret)
    have h14 : r14 = false := by
      cases h : r14 with
      | false => rfl
      | true =>
        have := (carRight_valid (hr14.symm.trans h)).1
        rw [hr13, this, h] at c1
        simp at c1
    rw [tickP_no (hr14.symm.trans h14)]
    exact ⟨rfl, rfl, rfl, rfl, rfl, rfl, rfl, rfl, rfl, rfl, rfl, rfl, rfl⟩
  ·
    have c2 : (if (!r13) = true then true else (!r14)) = false := hcond
    clear hcond
    have h14 : r14 = true := by revert c2; cases r13 <;> cases r14 <;> simp
    have hR : carRight hc hf hs hd ⟨cp, cdir, cdo, crl, ch⟩ = true := hr14.symm.trans h14
    have hv := carRight_valid hR
    simp only at hv
    have hv2 := valid_iff.1 hv.1
    have ht := top_range hc hf hs hd
    refine ⟨fun hcond => ?_, fun hcond => ?_⟩
    ·
      have c3 : (decide ((0 : Int) < cdo)) = true := hcond
      clear hcond
      refine vg_call (C := C_rtickd) rfl rfl (xs := [.i cdo, .i ch, .b ob]) rfl (fun hg => ?_) (fun rs hrs => ?_)
      ·
        refine rtickd_mk ?_
        -- leaf 2 (pre)
        omega
      obtain ⟨r15, r16, r17, hr15, hr16, hr17, rfl⟩ := rtickd_res hrs
      clear hrs
      change Fm.holds _ _ (lk [.i hc, .i hf, .i hs, .i hd, .i cp, .i cdir, .i cdo, .b crl, .i ch, .i s0, .i s1, .i s2, .b ob, .b r13, .b r14, .i r15, .i r16, .b r17])
      refine vg_call (C := C_rfloor) rfl rfl (xs := [.i hc, .i hf, .i hs, .i hd, .i cp]) rfl (fun hg => ?_) (fun rs hrs => ?_)
      ·
        exact trivial
      obtain ⟨r18, hr18, rfl⟩ := rfloor_res hrs
      clear hrs
      change Fm.holds _ _ (lk [.i hc, .i hf, .i hs, .i hd, .i cp, .i cdir, .i cdo, .b crl, .i ch, .i s0, .i s1, .i s2, .b ob, .b r13, .b r14, .i r15, .i r16, .b r17, .i r18])
      suffices hfin : (cp) = ((tickP hc hf hs hd ⟨cp, cdir, cdo, crl, ch⟩ ⟨s0, s1, s2⟩ ob).1.pos) ∧ (cdir) = ((tickP hc hf hs hd ⟨cp, cdir, cdo, crl, ch⟩ ⟨s0, s1, s2⟩ ob).1.dir) ∧ (r15) = ((tickP hc hf hs hd ⟨cp, cdir, cdo, crl, ch⟩ ⟨s0, s1, s2⟩ ob).1.door) ∧ (crl) = ((tickP hc hf hs hd ⟨cp, cdir, cdo, crl, ch⟩ ⟨s0, s1, s2⟩ ob).1.rl) ∧ (r16) = ((tickP hc hf hs hd ⟨cp, cdir, cdo, crl, ch⟩ ⟨s0, s1, s2⟩ ob).1.held) ∧ (false) = ((tickP hc hf hs hd ⟨cp, cdir, cdo, crl, ch⟩ ⟨s0, s1, s2⟩ ob).2.op) ∧ (r17) = ((tickP hc hf hs hd ⟨cp, cdir, cdo, crl, ch⟩ ⟨s0, s1, s2⟩ ob).2.cl) ∧ (r18) = ((tickP hc hf hs hd ⟨cp, cdir, cdo, crl, ch⟩ ⟨s0, s1, s2⟩ ob).2.fl) ∧ ((0 : Int)) = ((tickP hc hf hs hd ⟨cp, cdir, cdo, crl, ch⟩ ⟨s0, s1, s2⟩ ob).2.lan) ∧ ((0 : Int)) = ((tickP hc hf hs hd ⟨cp, cdir, cdo, crl, ch⟩ ⟨s0, s1, s2⟩ ob).2.mv) ∧ ((0 : Int)) = ((tickP hc hf hs hd ⟨cp, cdir, cdo, crl, ch⟩ ⟨s0, s1, s2⟩ ob).2.sc) ∧ ((0 : Int)) = ((tickP hc hf hs hd ⟨cp, cdir, cdo, crl, ch⟩ ⟨s0, s1, s2⟩ ob).2.su) ∧ ((0 : Int)) = ((tickP hc hf hs hd ⟨cp, cdir, cdo, crl, ch⟩ ⟨s0, s1, s2⟩ ob).2.sd) from (c_i hfin.1 (c_i hfin.2.1 (c_i hfin.2.2.1 (c_b hfin.2.2.2.1 (c_i hfin.2.2.2.2.1 (c_b hfin.2.2.2.2.2.1 (c_b hfin.2.2.2.2.2.2.1 (c_i hfin.2.2.2.2.2.2.2.1 (c_i hfin.2.2.2.2.2.2.2.2.1 (c_i hfin.2.2.2.2.2.2.2.2.2.1 (c_i hfin.2.2.2.2.2.2.2.2.2.2.1 (c_i hfin.2.2.2.2.2.2.2.2.2.2.2.1 (c_i hfin.2.2.2.2.2.2.2.2.2.2.2.2 rfl)))))))))))))
      -- leaf 3 (ret)
      rw [tickP_yes hR, stepP_door (of_decide_eq_true c3)]
      exact ⟨rfl, rfl, hr15, rfl, hr16, rfl, hr17, hr18, rfl, rfl, rfl, rfl, rfl⟩
    ·
      have c4 : (decide ((0 : Int) < cdo)) = false := hcond
      clear hcond
      refine vg_call (C := C_rlevel) rfl rfl (xs := [.i hc, .i hf, .i hs, .i hd, .i cp]) rfl (fun hg => ?_) (fun rs hrs => ?_)
      ·
        exact trivial
      obtain ⟨r15, hr15, rfl⟩ := rlevel_res hrs
      clear hrs
      change Fm.holds _ _ (lk [.i hc, .i hf, .i hs, .i hd, .i cp, .i cdir, .i cdo, .b crl, .i ch, .i s0, .i s1, .i s2, .b ob, .b r13, .b r14, .b r15])
      refine ⟨fun hcond => ?_, fun hcond => ?_⟩
      ·
        have c5 : r15 = false := hcond
        clear hcond
        refine ⟨fun hcond => ?_, fun hcond => ?_⟩
        ·
          have c6 : crl = true := hcond
          clear hcond
          refine vg_call (C := C_rgo) rfl rfl (xs := [.i hc, .i hf, .i hs, .i hd, .i cp, .i (-1)]) rfl (fun hg => ?_) (fun rs hrs => ?_)
          ·
            exact trivial
          obtain ⟨r16, r17, hr16, hr17, rfl⟩ := rgo_res hrs
          clear hrs
          change Fm.holds _ _ (lk [.i hc, .i hf, .i hs, .i hd, .i cp, .i cdir, .i cdo, .b crl, .i ch, .i s0, .i s1, .i s2, .b ob, .b r13, .b r14, .b r15, .i r16, .b r17])
          refine vg_call (C := C_rlevel) rfl rfl (xs := [.i hc, .i hf, .i hs, .i hd, .i r16]) rfl (fun hg => ?_) (fun rs hrs => ?_)
          ·
            exact trivial
          obtain ⟨r18, hr18, rfl⟩ := rlevel_res hrs
          clear hrs
          change Fm.holds _ _ (lk [.i hc, .i hf, .i hs, .i hd, .i cp, .i cdir, .i cdo, .b crl, .i ch, .i s0, .i s1, .i s2, .b ob, .b r13, .b r14, .b r15, .i r16, .b r17, .b r18])
          refine ⟨fun hcond => ?_, fun hcond => ?_⟩
          ·
            have c7 : (if r18 = true then crl else false) = true := hcond
            clear hcond
            refine vg_call (C := C_rfloor) rfl rfl (xs := [.i hc, .i hf, .i hs, .i hd, .i r16]) rfl (fun hg => ?_) (fun rs hrs => ?_)
            ·
              exact trivial
            obtain ⟨r19, hr19, rfl⟩ := rfloor_res hrs
            clear hrs
            change Fm.holds _ _ (lk [.i hc, .i hf, .i hs, .i hd, .i cp, .i cdir, .i cdo, .b crl, .i ch, .i s0, .i s1, .i s2, .b ob, .b r13, .b r14, .b r15, .i r16, .b r17, .b r18, .i r19])
            suffices hfin : (r16) = ((tickP hc hf hs hd ⟨cp, cdir, cdo, crl, ch⟩ ⟨s0, s1, s2⟩ ob).1.pos) ∧ ((0 : Int)) = ((tickP hc hf hs hd ⟨cp, cdir, cdo, crl, ch⟩ ⟨s0, s1, s2⟩ ob).1.dir) ∧ (cdo) = ((tickP hc hf hs hd ⟨cp, cdir, cdo, crl, ch⟩ ⟨s0, s1, s2⟩ ob).1.door) ∧ (false) = ((tickP hc hf hs hd ⟨cp, cdir, cdo, crl, ch⟩ ⟨s0, s1, s2⟩ ob).1.rl) ∧ (ch) = ((tickP hc hf hs hd ⟨cp, cdir, cdo, crl, ch⟩ ⟨s0, s1, s2⟩ ob).1.held) ∧ (false) = ((tickP hc hf hs hd ⟨cp, cdir, cdo, crl, ch⟩ ⟨s0, s1, s2⟩ ob).2.op) ∧ (false) = ((tickP hc hf hs hd ⟨cp, cdir, cdo, crl, ch⟩ ⟨s0, s1, s2⟩ ob).2.cl) ∧ (r19) = ((tickP hc hf hs hd ⟨cp, cdir, cdo, crl, ch⟩ ⟨s0, s1, s2⟩ ob).2.fl) ∧ ((0 : Int)) = ((tickP hc hf hs hd ⟨cp, cdir, cdo, crl, ch⟩ ⟨s0, s1, s2⟩ ob).2.lan) ∧ ((IntKind.wrap .i64 (r16 - cp))) = ((tickP hc hf hs hd ⟨cp, cdir, cdo, crl, ch⟩ ⟨s0, s1, s2⟩ ob).2.mv) ∧ ((0 : Int)) = ((tickP hc hf hs hd ⟨cp, cdir, cdo, crl, ch⟩ ⟨s0, s1, s2⟩ ob).2.sc) ∧ ((0 : Int)) = ((tickP hc hf hs hd ⟨cp, cdir, cdo, crl, ch⟩ ⟨s0, s1, s2⟩ ob).2.su) ∧ ((0 : Int)) = ((tickP hc hf hs hd ⟨cp, cdir, cdo, crl, ch⟩ ⟨s0, s1, s2⟩ ob).2.sd) from (c_i hfin.1 (c_i hfin.2.1 (c_i hfin.2.2.1 (c_b hfin.2.2.2.1 (c_i hfin.2.2.2.2.1 (c_b hfin.2.2.2.2.2.1 (c_b hfin.2.2.2.2.2.2.1 (c_i hfin.2.2.2.2.2.2.2.1 (c_i hfin.2.2.2.2.2.2.2.2.1 (c_i hfin.2.2.2.2.2.2.2.2.2.1 (c_i hfin.2.2.2.2.2.2.2.2.2.2.1 (c_i hfin.2.2.2.2.2.2.2.2.2.2.2.1 (c_i hfin.2.2.2.2.2.2.2.2.2.2.2.2 rfl)))))))))))))
            -- leaf 4 (ret)
            have hg := btw_go hR (hr15.symm.trans c5)
            have hb : betweenDir ⟨cp, cdir, cdo, crl, ch⟩ = -1 := by simp [betweenDir, c6]
            rw [hb] at hg
            simp only at hg
            have e16 : r16 = cp + clampM (-1) := hr16.trans (goPos_eq hg)
            have hk := clampM_range (-1)
            have em : IntKind.wrap .i64 (r16 - cp) = clampM (-1) := by rw [wrap_in (by omega) (by omega)]; omega
            have e18 : r18 = true := by revert c7; cases r18 <;> simp
            have e : (crl && level hc hf hs hd (cp + clampM (-1))) = true := by rw [c6, Bool.true_and, ← e16]; exact hr18.symm.trans e18
            rw [tickP_yes hR, stepP_btw (of_decide_eq_false c4) (hr15.symm.trans c5), betweenP_lv (c := ⟨cp, cdir, cdo, crl, ch⟩) (x := -1) hb hg e]
            exact ⟨e16, rfl, rfl, rfl, rfl, rfl, rfl, by rw [hr19, e16], rfl, em, rfl, rfl, rfl⟩
          ·
            have c8 : (if r18 = true then crl else false) = false := hcond
            clear hcond
            refine vg_call (C := C_rfloor) rfl rfl (xs := [.i hc, .i hf, .i hs, .i hd, .i r16]) rfl (fun hg => ?_) (fun rs hrs => ?_)
            ·
              exact trivial
            obtain ⟨r19, hr19, rfl⟩ := rfloor_res hrs
            clear hrs
            change Fm.holds _ _ (lk [.i hc, .i hf, .i hs, .i hd, .i cp, .i cdir, .i cdo, .b crl, .i ch, .i s0, .i s1, .i s2, .b ob, .b r13, .b r14, .b r15, .i r16, .b r17, .b r18, .i r19])
            suffices hfin : (r16) = ((tickP hc hf hs hd ⟨cp, cdir, cdo, crl, ch⟩ ⟨s0, s1, s2⟩ ob).1.pos) ∧ ((-1)) = ((tickP hc hf hs hd ⟨cp, cdir, cdo, crl, ch⟩ ⟨s0, s1, s2⟩ ob).1.dir) ∧ (cdo) = ((tickP hc hf hs hd ⟨cp, cdir, cdo, crl, ch⟩ ⟨s0, s1, s2⟩ ob).1.door) ∧ (crl) = ((tickP hc hf hs hd ⟨cp, cdir, cdo, crl, ch⟩ ⟨s0, s1, s2⟩ ob).1.rl) ∧ (ch) = ((tickP hc hf hs hd ⟨cp, cdir, cdo, crl, ch⟩ ⟨s0, s1, s2⟩ ob).1.held) ∧ (false) = ((tickP hc hf hs hd ⟨cp, cdir, cdo, crl, ch⟩ ⟨s0, s1, s2⟩ ob).2.op) ∧ (false) = ((tickP hc hf hs hd ⟨cp, cdir, cdo, crl, ch⟩ ⟨s0, s1, s2⟩ ob).2.cl) ∧ (r19) = ((tickP hc hf hs hd ⟨cp, cdir, cdo, crl, ch⟩ ⟨s0, s1, s2⟩ ob).2.fl) ∧ ((0 : Int)) = ((tickP hc hf hs hd ⟨cp, cdir, cdo, crl, ch⟩ ⟨s0, s1, s2⟩ ob).2.lan) ∧ ((IntKind.wrap .i64 (r16 - cp))) = ((tickP hc hf hs hd ⟨cp, cdir, cdo, crl, ch⟩ ⟨s0, s1, s2⟩ ob).2.mv) ∧ ((0 : Int)) = ((tickP hc hf hs hd ⟨cp, cdir, cdo, crl, ch⟩ ⟨s0, s1, s2⟩ ob).2.sc) ∧ ((0 : Int)) = ((tickP hc hf hs hd ⟨cp, cdir, cdo, crl, ch⟩ ⟨s0, s1, s2⟩ ob).2.su) ∧ ((0 : Int)) = ((tickP hc hf hs hd ⟨cp, cdir, cdo, crl, ch⟩ ⟨s0, s1, s2⟩ ob).2.sd) from (c_i hfin.1 (c_i hfin.2.1 (c_i hfin.2.2.1 (c_b hfin.2.2.2.1 (c_i hfin.2.2.2.2.1 (c_b hfin.2.2.2.2.2.1 (c_b hfin.2.2.2.2.2.2.1 (c_i hfin.2.2.2.2.2.2.2.1 (c_i hfin.2.2.2.2.2.2.2.2.1 (c_i hfin.2.2.2.2.2.2.2.2.2.1 (c_i hfin.2.2.2.2.2.2.2.2.2.2.1 (c_i hfin.2.2.2.2.2.2.2.2.2.2.2.1 (c_i hfin.2.2.2.2.2.2.2.2.2.2.2.2 rfl)))))))))))))
            -- leaf 5 (ret)
            have hg := btw_go hR (hr15.symm.trans c5)
            have hb : betweenDir ⟨cp, cdir, cdo, crl, ch⟩ = -1 := by simp [betweenDir, c6]
            rw [hb] at hg
            simp only at hg
            have e16 : r16 = cp + clampM (-1) := hr16.trans (goPos_eq hg)
            have hk := clampM_range (-1)
            have em : IntKind.wrap .i64 (r16 - cp) = clampM (-1) := by rw [wrap_in (by omega) (by omega)]; omega
            have e18 : r18 = false := by rw [c6] at c8; revert c8; cases r18 <;> simp
            have e : (crl && level hc hf hs hd (cp + clampM (-1))) = false := by rw [c6, Bool.true_and, ← e16]; exact hr18.symm.trans e18
            rw [tickP_yes hR, stepP_btw (of_decide_eq_false c4) (hr15.symm.trans c5), betweenP_mv (c := ⟨cp, cdir, cdo, crl, ch⟩) (x := -1) hb hg e]
            exact ⟨e16, rfl, rfl, rfl, rfl, rfl, rfl, by rw [hr19, e16], rfl, em, rfl, rfl, rfl⟩
        ·
          have c9 : crl = false := hcond
          clear hcond
          refine vg_call (C := C_rgo) rfl rfl (xs := [.i hc, .i hf, .i hs, .i hd, .i cp, .i cdir]) rfl (fun hg => ?_) (fun rs hrs => ?_)
          ·
            exact trivial
          obtain ⟨r16, r17, hr16, hr17, rfl⟩ := rgo_res hrs
          clear hrs
          change Fm.holds _ _ (lk [.i hc, .i hf, .i hs, .i hd, .i cp, .i cdir, .i cdo, .b crl, .i ch, .i s0, .i s1, .i s2, .b ob, .b r13, .b r14, .b r15, .i r16, .b r17])
          refine vg_call (C := C_rlevel) rfl rfl (xs := [.i hc, .i hf, .i hs, .i hd, .i r16]) rfl (fun hg => ?_) (fun rs hrs => ?_)
          ·
            exact trivial
          obtain ⟨r18, hr18, rfl⟩ := rlevel_res hrs
          clear hrs
          change Fm.holds _ _ (lk [.i hc, .i hf, .i hs, .i hd, .i cp, .i cdir, .i cdo, .b crl, .i ch, .i s0, .i s1, .i s2, .b ob, .b r13, .b r14, .b r15, .i r16, .b r17, .b r18])
          refine ⟨fun hcond => ?_, fun hcond => ?_⟩
          ·
            have c10 : (if r18 = true then crl else false) = true := hcond
            clear hcond
            refine vg_call (C := C_rfloor) rfl rfl (xs := [.i hc, .i hf, .i hs, .i hd, .i r16]) rfl (fun hg => ?_) (fun rs hrs => ?_)
            ·
              exact trivial
            obtain ⟨r19, hr19, rfl⟩ := rfloor_res hrs
            clear hrs
            change Fm.holds _ _ (lk [.i hc, .i hf, .i hs, .i hd, .i cp, .i cdir, .i cdo, .b crl, .i ch, .i s0, .i s1, .i s2, .b ob, .b r13, .b r14, .b r15, .i r16, .b r17, .b r18, .i r19])
            suffices hfin : (r16) = ((tickP hc hf hs hd ⟨cp, cdir, cdo, crl, ch⟩ ⟨s0, s1, s2⟩ ob).1.pos) ∧ ((0 : Int)) = ((tickP hc hf hs hd ⟨cp, cdir, cdo, crl, ch⟩ ⟨s0, s1, s2⟩ ob).1.dir) ∧ (cdo) = ((tickP hc hf hs hd ⟨cp, cdir, cdo, crl, ch⟩ ⟨s0, s1, s2⟩ ob).1.door) ∧ (false) = ((tickP hc hf hs hd ⟨cp, cdir, cdo, crl, ch⟩ ⟨s0, s1, s2⟩ ob).1.rl) ∧ (ch) = ((tickP hc hf hs hd ⟨cp, cdir, cdo, crl, ch⟩ ⟨s0, s1, s2⟩ ob).1.held) ∧ (false) = ((tickP hc hf hs hd ⟨cp, cdir, cdo, crl, ch⟩ ⟨s0, s1, s2⟩ ob).2.op) ∧ (false) = ((tickP hc hf hs hd ⟨cp, cdir, cdo, crl, ch⟩ ⟨s0, s1, s2⟩ ob).2.cl) ∧ (r19) = ((tickP hc hf hs hd ⟨cp, cdir, cdo, crl, ch⟩ ⟨s0, s1, s2⟩ ob).2.fl) ∧ ((0 : Int)) = ((tickP hc hf hs hd ⟨cp, cdir, cdo, crl, ch⟩ ⟨s0, s1, s2⟩ ob).2.lan) ∧ ((IntKind.wrap .i64 (r16 - cp))) = ((tickP hc hf hs hd ⟨cp, cdir, cdo, crl, ch⟩ ⟨s0, s1, s2⟩ ob).2.mv) ∧ ((0 : Int)) = ((tickP hc hf hs hd ⟨cp, cdir, cdo, crl, ch⟩ ⟨s0, s1, s2⟩ ob).2.sc) ∧ ((0 : Int)) = ((tickP hc hf hs hd ⟨cp, cdir, cdo, crl, ch⟩ ⟨s0, s1, s2⟩ ob).2.su) ∧ ((0 : Int)) = ((tickP hc hf hs hd ⟨cp, cdir, cdo, crl, ch⟩ ⟨s0, s1, s2⟩ ob).2.sd) from (c_i hfin.1 (c_i hfin.2.1 (c_i hfin.2.2.1 (c_b hfin.2.2.2.1 (c_i hfin.2.2.2.2.1 (c_b hfin.2.2.2.2.2.1 (c_b hfin.2.2.2.2.2.2.1 (c_i hfin.2.2.2.2.2.2.2.1 (c_i hfin.2.2.2.2.2.2.2.2.1 (c_i hfin.2.2.2.2.2.2.2.2.2.1 (c_i hfin.2.2.2.2.2.2.2.2.2.2.1 (c_i hfin.2.2.2.2.2.2.2.2.2.2.2.1 (c_i hfin.2.2.2.2.2.2.2.2.2.2.2.2 rfl)))))))))))))
            -- leaf 6 (ret)
            exfalso
            rw [c9] at c10
            revert c10
            cases r18 <;> simp
          ·
            have c11 : (if r18 = true then crl else false) = false := hcond
            clear hcond
            refine vg_call (C := C_rfloor) rfl rfl (xs := [.i hc, .i hf, .i hs, .i hd, .i r16]) rfl (fun hg => ?_) (fun rs hrs => ?_)
            ·
              exact trivial
            obtain ⟨r19, hr19, rfl⟩ := rfloor_res hrs
            clear hrs
            change Fm.holds _ _ (lk [.i hc, .i hf, .i hs, .i hd, .i cp, .i cdir, .i cdo, .b crl, .i ch, .i s0, .i s1, .i s2, .b ob, .b r13, .b r14, .b r15, .i r16, .b r17, .b r18, .i r19])
            suffices hfin : (r16) = ((tickP hc hf hs hd ⟨cp, cdir, cdo, crl, ch⟩ ⟨s0, s1, s2⟩ ob).1.pos) ∧ (cdir) = ((tickP hc hf hs hd ⟨cp, cdir, cdo, crl, ch⟩ ⟨s0, s1, s2⟩ ob).1.dir) ∧ (cdo) = ((tickP hc hf hs hd ⟨cp, cdir, cdo, crl, ch⟩ ⟨s0, s1, s2⟩ ob).1.door) ∧ (crl) = ((tickP hc hf hs hd ⟨cp, cdir, cdo, crl, ch⟩ ⟨s0, s1, s2⟩ ob).1.rl) ∧ (ch) = ((tickP hc hf hs hd ⟨cp, cdir, cdo, crl, ch⟩ ⟨s0, s1, s2⟩ ob).1.held) ∧ (false) = ((tickP hc hf hs hd ⟨cp, cdir, cdo, crl, ch⟩ ⟨s0, s1, s2⟩ ob).2.op) ∧ (false) = ((tickP hc hf hs hd ⟨cp, cdir, cdo, crl, ch⟩ ⟨s0, s1, s2⟩ ob).2.cl) ∧ (r19) = ((tickP hc hf hs hd ⟨cp, cdir, cdo, crl, ch⟩ ⟨s0, s1, s2⟩ ob).2.fl) ∧ ((0 : Int)) = ((tickP hc hf hs hd ⟨cp, cdir, cdo, crl, ch⟩ ⟨s0, s1, s2⟩ ob).2.lan) ∧ ((IntKind.wrap .i64 (r16 - cp))) = ((tickP hc hf hs hd ⟨cp, cdir, cdo, crl, ch⟩ ⟨s0, s1, s2⟩ ob).2.mv) ∧ ((0 : Int)) = ((tickP hc hf hs hd ⟨cp, cdir, cdo, crl, ch⟩ ⟨s0, s1, s2⟩ ob).2.sc) ∧ ((0 : Int)) = ((tickP hc hf hs hd ⟨cp, cdir, cdo, crl, ch⟩ ⟨s0, s1, s2⟩ ob).2.su) ∧ ((0 : Int)) = ((tickP hc hf hs hd ⟨cp, cdir, cdo, crl, ch⟩ ⟨s0, s1, s2⟩ ob).2.sd) from (c_i hfin.1 (c_i hfin.2.1 (c_i hfin.2.2.1 (c_b hfin.2.2.2.1 (c_i hfin.2.2.2.2.1 (c_b hfin.2.2.2.2.2.1 (c_b hfin.2.2.2.2.2.2.1 (c_i hfin.2.2.2.2.2.2.2.1 (c_i hfin.2.2.2.2.2.2.2.2.1 (c_i hfin.2.2.2.2.2.2.2.2.2.1 (c_i hfin.2.2.2.2.2.2.2.2.2.2.1 (c_i hfin.2.2.2.2.2.2.2.2.2.2.2.1 (c_i hfin.2.2.2.2.2.2.2.2.2.2.2.2 rfl)))))))))))))
            -- leaf 7 (ret)
            have hg := btw_go hR (hr15.symm.trans c5)
            have hb : betweenDir ⟨cp, cdir, cdo, crl, ch⟩ = cdir := by simp [betweenDir, c9]
            rw [hb] at hg
            simp only at hg
            have e16 : r16 = cp + clampM (cdir) := hr16.trans (goPos_eq hg)
            have hk := clampM_range (cdir)
            have em : IntKind.wrap .i64 (r16 - cp) = clampM (cdir) := by rw [wrap_in (by omega) (by omega)]; omega
            have e : (crl && level hc hf hs hd (cp + clampM cdir)) = false := by rw [c9]; rfl
            rw [tickP_yes hR, stepP_btw (of_decide_eq_false c4) (hr15.symm.trans c5), betweenP_mv (c := ⟨cp, cdir, cdo, crl, ch⟩) (x := cdir) hb hg e]
            exact ⟨e16, rfl, rfl, rfl, rfl, rfl, rfl, by rw [hr19, e16], rfl, em, rfl, rfl, rfl⟩
      ·
        have c12 : r15 = true := hcond
        clear hcond
        refine vg_call (C := C_rfloor) rfl rfl (xs := [.i hc, .i hf, .i hs, .i hd, .i cp]) rfl (fun hg => ?_) (fun rs hrs => ?_)
        ·
          exact trivial
        obtain ⟨r16, hr16, rfl⟩ := rfloor_res hrs
        clear hrs
        change Fm.holds _ _ (lk [.i hc, .i hf, .i hs, .i hd, .i cp, .i cdir, .i cdo, .b crl, .i ch, .i s0, .i s1, .i s2, .b ob, .b r13, .b r14, .b r15, .i r16])
        refine vg_call (C := C_rfit) rfl rfl (xs := [.i hc, .i hf, .i hs, .i hd, .i s0, .i s1, .i s2]) rfl (fun hg => ?_) (fun rs hrs => ?_)
        ·
          refine rfit_mk ?_
          -- leaf 8 (pre)
          exact hv.1
        obtain ⟨r17, r18, r19, hr17, hr18, hr19, rfl⟩ := rfit_res hrs
        clear hrs
        change Fm.holds _ _ (lk [.i hc, .i hf, .i hs, .i hd, .i cp, .i cdir, .i cdo, .b crl, .i ch, .i s0, .i s1, .i s2, .b ob, .b r13, .b r14, .b r15, .i r16, .i r17, .i r18, .i r19])
        refine vg_call (C := C_rplan) rfl rfl (xs := [.i r17, .i r18, .i r19, .i r16, .i cdir]) rfl (fun hg => ?_) (fun rs hrs => ?_)
        ·
          exact trivial
        obtain ⟨r20, r21, r22, hr20, hr21, hr22, rfl⟩ := rplan_res hrs
        clear hrs
        change Fm.holds _ _ (lk [.i hc, .i hf, .i hs, .i hd, .i cp, .i cdir, .i cdo, .b crl, .i ch, .i s0, .i s1, .i s2, .b ob, .b r13, .b r14, .b r15, .i r16, .i r17, .i r18, .i r19, .b r20, .i r21, .i r22])
        refine ⟨fun hcond => ?_, fun hcond => ?_⟩
        ·
          have c13 : r20 = true := hcond
          clear hcond
          refine vg_call (C := C_ropen) rfl rfl (xs := [.i hd]) rfl (fun hg => ?_) (fun rs hrs => ?_)
          ·
            exact trivial
          obtain ⟨r23, r24, hr23, hr24, rfl⟩ := ropen_res hrs
          clear hrs
          change Fm.holds _ _ (lk [.i hc, .i hf, .i hs, .i hd, .i cp, .i cdir, .i cdo, .b crl, .i ch, .i s0, .i s1, .i s2, .b ob, .b r13, .b r14, .b r15, .i r16, .i r17, .i r18, .i r19, .b r20, .i r21, .i r22, .i r23, .i r24])
          refine vg_call (C := C_rat) rfl rfl (xs := [.i s0, .i s1, .i s2, .i r16]) rfl (fun hg => ?_) (fun rs hrs => ?_)
          ·
            exact trivial
          obtain ⟨r25, hr25, rfl⟩ := rat_res hrs
          clear hrs
          change Fm.holds _ _ (lk [.i hc, .i hf, .i hs, .i hd, .i cp, .i cdir, .i cdo, .b crl, .i ch, .i s0, .i s1, .i s2, .b ob, .b r13, .b r14, .b r15, .i r16, .i r17, .i r18, .i r19, .b r20, .i r21, .i r22, .i r23, .i r24, .b r25])
          refine ⟨fun hcond => ?_, fun hcond => ?_⟩
          ·
            have c14 : r25 = true := hcond
            clear hcond
            refine vg_call (C := C_rone) rfl rfl (xs := [.i r16]) rfl (fun hg => ?_) (fun rs hrs => ?_)
            ·
              exact trivial
            obtain ⟨r26, hr26, rfl⟩ := rone_res hrs
            clear hrs
            change Fm.holds _ _ (lk [.i hc, .i hf, .i hs, .i hd, .i cp, .i cdir, .i cdo, .b crl, .i ch, .i s0, .i s1, .i s2, .b ob, .b r13, .b r14, .b r15, .i r16, .i r17, .i r18, .i r19, .b r20, .i r21, .i r22, .i r23, .i r24, .b r25, .i r26])
            refine vg_call (C := C_rfit) rfl rfl (xs := [.i hc, .i hf, .i hs, .i hd, .i s0, .i s1, .i s2]) rfl (fun hg => ?_) (fun rs hrs => ?_)
            ·
              refine rfit_mk ?_
              -- leaf 9 (pre)
              exact hv.1
            obtain ⟨r27, r28, r29, hr27, hr28, hr29, rfl⟩ := rfit_res hrs
            clear hrs
            change Fm.holds _ _ (lk [.i hc, .i hf, .i hs, .i hd, .i cp, .i cdir, .i cdo, .b crl, .i ch, .i s0, .i s1, .i s2, .b ob, .b r13, .b r14, .b r15, .i r16, .i r17, .i r18, .i r19, .b r20, .i r21, .i r22, .i r23, .i r24, .b r25, .i r26, .i r27, .i r28, .i r29])
            refine vg_call (C := C_rhall) rfl rfl (xs := [.i r27, .i r28, .i r29, .i r16, .i r21]) rfl (fun hg => ?_) (fun rs hrs => ?_)
            ·
              exact trivial
            obtain ⟨r30, hr30, rfl⟩ := rhall_res hrs
            clear hrs
            change Fm.holds _ _ (lk [.i hc, .i hf, .i hs, .i hd, .i cp, .i cdir, .i cdo, .b crl, .i ch, .i s0, .i s1, .i s2, .b ob, .b r13, .b r14, .b r15, .i r16, .i r17, .i r18, .i r19, .b r20, .i r21, .i r22, .i r23, .i r24, .b r25, .i r26, .i r27, .i r28, .i r29, .b r30])
            refine ⟨fun hcond => ?_, fun hcond => ?_⟩
            ·
              have c15 : r30 = true := hcond
              clear hcond
              refine vg_call (C := C_rput) rfl rfl (xs := [.i r26, .i (0 : Int), .i (0 : Int), .i r16, .i r21]) rfl (fun hg => ?_) (fun rs hrs => ?_)
              ·
                refine rput_mk ?_
                -- leaf 10 (pre)
                exact ⟨by decide, by decide⟩
              obtain ⟨r31, r32, r33, hr31, hr32, hr33, rfl⟩ := rput_res hrs
              clear hrs
              change Fm.holds _ _ (lk [.i hc, .i hf, .i hs, .i hd, .i cp, .i cdir, .i cdo, .b crl, .i ch, .i s0, .i s1, .i s2, .b ob, .b r13, .b r14, .b r15, .i r16, .i r17, .i r18, .i r19, .b r20, .i r21, .i r22, .i r23, .i r24, .b r25, .i r26, .i r27, .i r28, .i r29, .b r30, .i r31, .i r32, .i r33])
              suffices hfin : (cp) = ((tickP hc hf hs hd ⟨cp, cdir, cdo, crl, ch⟩ ⟨s0, s1, s2⟩ ob).1.pos) ∧ (r21) = ((tickP hc hf hs hd ⟨cp, cdir, cdo, crl, ch⟩ ⟨s0, s1, s2⟩ ob).1.dir) ∧ (r23) = ((tickP hc hf hs hd ⟨cp, cdir, cdo, crl, ch⟩ ⟨s0, s1, s2⟩ ob).1.door) ∧ (false) = ((tickP hc hf hs hd ⟨cp, cdir, cdo, crl, ch⟩ ⟨s0, s1, s2⟩ ob).1.rl) ∧ ((0 : Int)) = ((tickP hc hf hs hd ⟨cp, cdir, cdo, crl, ch⟩ ⟨s0, s1, s2⟩ ob).1.held) ∧ (true) = ((tickP hc hf hs hd ⟨cp, cdir, cdo, crl, ch⟩ ⟨s0, s1, s2⟩ ob).2.op) ∧ (false) = ((tickP hc hf hs hd ⟨cp, cdir, cdo, crl, ch⟩ ⟨s0, s1, s2⟩ ob).2.cl) ∧ (r16) = ((tickP hc hf hs hd ⟨cp, cdir, cdo, crl, ch⟩ ⟨s0, s1, s2⟩ ob).2.fl) ∧ (r21) = ((tickP hc hf hs hd ⟨cp, cdir, cdo, crl, ch⟩ ⟨s0, s1, s2⟩ ob).2.lan) ∧ ((0 : Int)) = ((tickP hc hf hs hd ⟨cp, cdir, cdo, crl, ch⟩ ⟨s0, s1, s2⟩ ob).2.mv) ∧ (r31) = ((tickP hc hf hs hd ⟨cp, cdir, cdo, crl, ch⟩ ⟨s0, s1, s2⟩ ob).2.sc) ∧ (r32) = ((tickP hc hf hs hd ⟨cp, cdir, cdo, crl, ch⟩ ⟨s0, s1, s2⟩ ob).2.su) ∧ (r33) = ((tickP hc hf hs hd ⟨cp, cdir, cdo, crl, ch⟩ ⟨s0, s1, s2⟩ ob).2.sd) from (c_i hfin.1 (c_i hfin.2.1 (c_i hfin.2.2.1 (c_b hfin.2.2.2.1 (c_i hfin.2.2.2.2.1 (c_b hfin.2.2.2.2.2.1 (c_b hfin.2.2.2.2.2.2.1 (c_i hfin.2.2.2.2.2.2.2.1 (c_i hfin.2.2.2.2.2.2.2.2.1 (c_i hfin.2.2.2.2.2.2.2.2.2.1 (c_i hfin.2.2.2.2.2.2.2.2.2.2.1 (c_i hfin.2.2.2.2.2.2.2.2.2.2.2.1 (c_i hfin.2.2.2.2.2.2.2.2.2.2.2.2 rfl)))))))))))))
              -- leaf 11 (ret)
              subst hr16 hr17 hr18 hr19
              have hst : stopP (houseP hf ⟨s0, s1, s2⟩).c (houseP hf ⟨s0, s1, s2⟩).u (houseP hf ⟨s0, s1, s2⟩).d (floor hc hf hs hd cp) cdir = true := hr20.symm.trans c13
              have hfl := floor_ok (p := cp) hv.1
              have ok : okf (floor hc hf hs hd cp) = true := okf_iff.2 ⟨by omega, by omega⟩
              have hat : isb (houseP hf ⟨s0, s1, s2⟩).c (floor hc hf hs hd cp) = true := by
                rw [house_c hv.1, decide_eq_true hfl.2, Bool.and_true]
                exact hr25.symm.trans c14
              have hha : hallb (houseP hf ⟨s0, s1, s2⟩).u (houseP hf ⟨s0, s1, s2⟩).d (floor hc hf hs hd cp) (dirP (houseP hf ⟨s0, s1, s2⟩).c (houseP hf ⟨s0, s1, s2⟩).u (houseP hf ⟨s0, s1, s2⟩).d (floor hc hf hs hd cp) cdir) = true := by
                have := hr30.symm.trans c15
                rw [hr21, hr28, hr29] at this
                exact this
              rw [tickP_yes hR, stepP_lvl (of_decide_eq_false c4) (hr15.symm.trans c12), levelP_stop (c := ⟨cp, cdir, cdo, crl, ch⟩) (s := houseP hf ⟨s0, s1, s2⟩) hst]
              dsimp only
              rw [hat, hha]
              refine ⟨rfl, hr21, hr23, rfl, rfl, rfl, rfl, rfl, hr21, rfl, ?_, ?_, ?_⟩
              · rw [hr31, hr26, if_pos rfl, oneB_shl ok]
              · rw [hr32, hr21, Bool.true_and]
              · rw [hr33, hr21, Bool.true_and]
            ·
              have c16 : r30 = false := hcond
              clear hcond
              suffices hfin : (cp) = ((tickP hc hf hs hd ⟨cp, cdir, cdo, crl, ch⟩ ⟨s0, s1, s2⟩ ob).1.pos) ∧ (r21) = ((tickP hc hf hs hd ⟨cp, cdir, cdo, crl, ch⟩ ⟨s0, s1, s2⟩ ob).1.dir) ∧ (r23) = ((tickP hc hf hs hd ⟨cp, cdir, cdo, crl, ch⟩ ⟨s0, s1, s2⟩ ob).1.door) ∧ (false) = ((tickP hc hf hs hd ⟨cp, cdir, cdo, crl, ch⟩ ⟨s0, s1, s2⟩ ob).1.rl) ∧ ((0 : Int)) = ((tickP hc hf hs hd ⟨cp, cdir, cdo, crl, ch⟩ ⟨s0, s1, s2⟩ ob).1.held) ∧ (true) = ((tickP hc hf hs hd ⟨cp, cdir, cdo, crl, ch⟩ ⟨s0, s1, s2⟩ ob).2.op) ∧ (false) = ((tickP hc hf hs hd ⟨cp, cdir, cdo, crl, ch⟩ ⟨s0, s1, s2⟩ ob).2.cl) ∧ (r16) = ((tickP hc hf hs hd ⟨cp, cdir, cdo, crl, ch⟩ ⟨s0, s1, s2⟩ ob).2.fl) ∧ (r21) = ((tickP hc hf hs hd ⟨cp, cdir, cdo, crl, ch⟩ ⟨s0, s1, s2⟩ ob).2.lan) ∧ ((0 : Int)) = ((tickP hc hf hs hd ⟨cp, cdir, cdo, crl, ch⟩ ⟨s0, s1, s2⟩ ob).2.mv) ∧ (r26) = ((tickP hc hf hs hd ⟨cp, cdir, cdo, crl, ch⟩ ⟨s0, s1, s2⟩ ob).2.sc) ∧ ((0 : Int)) = ((tickP hc hf hs hd ⟨cp, cdir, cdo, crl, ch⟩ ⟨s0, s1, s2⟩ ob).2.su) ∧ ((0 : Int)) = ((tickP hc hf hs hd ⟨cp, cdir, cdo, crl, ch⟩ ⟨s0, s1, s2⟩ ob).2.sd) from (c_i hfin.1 (c_i hfin.2.1 (c_i hfin.2.2.1 (c_b hfin.2.2.2.1 (c_i hfin.2.2.2.2.1 (c_b hfin.2.2.2.2.2.1 (c_b hfin.2.2.2.2.2.2.1 (c_i hfin.2.2.2.2.2.2.2.1 (c_i hfin.2.2.2.2.2.2.2.2.1 (c_i hfin.2.2.2.2.2.2.2.2.2.1 (c_i hfin.2.2.2.2.2.2.2.2.2.2.1 (c_i hfin.2.2.2.2.2.2.2.2.2.2.2.1 (c_i hfin.2.2.2.2.2.2.2.2.2.2.2.2 rfl)))))))))))))
              -- leaf 12 (ret)
              subst hr16 hr17 hr18 hr19
              have hst : stopP (houseP hf ⟨s0, s1, s2⟩).c (houseP hf ⟨s0, s1, s2⟩).u (houseP hf ⟨s0, s1, s2⟩).d (floor hc hf hs hd cp) cdir = true := hr20.symm.trans c13
              have hfl := floor_ok (p := cp) hv.1
              have ok : okf (floor hc hf hs hd cp) = true := okf_iff.2 ⟨by omega, by omega⟩
              have hat : isb (houseP hf ⟨s0, s1, s2⟩).c (floor hc hf hs hd cp) = true := by
                rw [house_c hv.1, decide_eq_true hfl.2, Bool.and_true]
                exact hr25.symm.trans c14
              have hha : hallb (houseP hf ⟨s0, s1, s2⟩).u (houseP hf ⟨s0, s1, s2⟩).d (floor hc hf hs hd cp) (dirP (houseP hf ⟨s0, s1, s2⟩).c (houseP hf ⟨s0, s1, s2⟩).u (houseP hf ⟨s0, s1, s2⟩).d (floor hc hf hs hd cp) cdir) = false := by
                have := hr30.symm.trans c16
                rw [hr21, hr28, hr29] at this
                exact this
              rw [tickP_yes hR, stepP_lvl (of_decide_eq_false c4) (hr15.symm.trans c12), levelP_stop (c := ⟨cp, cdir, cdo, crl, ch⟩) (s := houseP hf ⟨s0, s1, s2⟩) hst]
              dsimp only
              rw [hat, hha]
              refine ⟨rfl, hr21, hr23, rfl, rfl, rfl, rfl, rfl, hr21, rfl, ?_, ?_, ?_⟩
              · rw [hr26, if_pos rfl, oneB_shl ok]
              · rfl
              · rfl
          ·
            have c17 : r25 = false := hcond
            clear hcond
            refine vg_call (C := C_rfit) rfl rfl (xs := [.i hc, .i hf, .i hs, .i hd, .i s0, .i s1, .i s2]) rfl (fun hg => ?_) (fun rs hrs => ?_)
            ·
              refine rfit_mk ?_
              -- leaf 13 (pre)
              exact hv.1
            obtain ⟨r26, r27, r28, hr26, hr27, hr28, rfl⟩ := rfit_res hrs
            clear hrs
            change Fm.holds _ _ (lk [.i hc, .i hf, .i hs, .i hd, .i cp, .i cdir, .i cdo, .b crl, .i ch, .i s0, .i s1, .i s2, .b ob, .b r13, .b r14, .b r15, .i r16, .i r17, .i r18, .i r19, .b r20, .i r21, .i r22, .i r23, .i r24, .b r25, .i r26, .i r27, .i r28])
            refine vg_call (C := C_rhall) rfl rfl (xs := [.i r26, .i r27, .i r28, .i r16, .i r21]) rfl (fun hg => ?_) (fun rs hrs => ?_)
            ·
              exact trivial
            obtain ⟨r29, hr29, rfl⟩ := rhall_res hrs
            clear hrs
            change Fm.holds _ _ (lk [.i hc, .i hf, .i hs, .i hd, .i cp, .i cdir, .i cdo, .b crl, .i ch, .i s0, .i s1, .i s2, .b ob, .b r13, .b r14, .b r15, .i r16, .i r17, .i r18, .i r19, .b r20, .i r21, .i r22, .i r23, .i r24, .b r25, .i r26, .i r27, .i r28, .b r29])
            refine ⟨fun hcond => ?_, fun hcond => ?_⟩
            ·
              have c18 : r29 = true := hcond
              clear hcond
              refine vg_call (C := C_rput) rfl rfl (xs := [.i (0 : Int), .i (0 : Int), .i (0 : Int), .i r16, .i r21]) rfl (fun hg => ?_) (fun rs hrs => ?_)
              ·
                refine rput_mk ?_
                -- leaf 14 (pre)
                exact ⟨by decide, by decide⟩
              obtain ⟨r30, r31, r32, hr30, hr31, hr32, rfl⟩ := rput_res hrs
              clear hrs
              change Fm.holds _ _ (lk [.i hc, .i hf, .i hs, .i hd, .i cp, .i cdir, .i cdo, .b crl, .i ch, .i s0, .i s1, .i s2, .b ob, .b r13, .b r14, .b r15, .i r16, .i r17, .i r18, .i r19, .b r20, .i r21, .i r22, .i r23, .i r24, .b r25, .i r26, .i r27, .i r28, .b r29, .i r30, .i r31, .i r32])
              suffices hfin : (cp) = ((tickP hc hf hs hd ⟨cp, cdir, cdo, crl, ch⟩ ⟨s0, s1, s2⟩ ob).1.pos) ∧ (r21) = ((tickP hc hf hs hd ⟨cp, cdir, cdo, crl, ch⟩ ⟨s0, s1, s2⟩ ob).1.dir) ∧ (r23) = ((tickP hc hf hs hd ⟨cp, cdir, cdo, crl, ch⟩ ⟨s0, s1, s2⟩ ob).1.door) ∧ (false) = ((tickP hc hf hs hd ⟨cp, cdir, cdo, crl, ch⟩ ⟨s0, s1, s2⟩ ob).1.rl) ∧ ((0 : Int)) = ((tickP hc hf hs hd ⟨cp, cdir, cdo, crl, ch⟩ ⟨s0, s1, s2⟩ ob).1.held) ∧ (true) = ((tickP hc hf hs hd ⟨cp, cdir, cdo, crl, ch⟩ ⟨s0, s1, s2⟩ ob).2.op) ∧ (false) = ((tickP hc hf hs hd ⟨cp, cdir, cdo, crl, ch⟩ ⟨s0, s1, s2⟩ ob).2.cl) ∧ (r16) = ((tickP hc hf hs hd ⟨cp, cdir, cdo, crl, ch⟩ ⟨s0, s1, s2⟩ ob).2.fl) ∧ (r21) = ((tickP hc hf hs hd ⟨cp, cdir, cdo, crl, ch⟩ ⟨s0, s1, s2⟩ ob).2.lan) ∧ ((0 : Int)) = ((tickP hc hf hs hd ⟨cp, cdir, cdo, crl, ch⟩ ⟨s0, s1, s2⟩ ob).2.mv) ∧ (r30) = ((tickP hc hf hs hd ⟨cp, cdir, cdo, crl, ch⟩ ⟨s0, s1, s2⟩ ob).2.sc) ∧ (r31) = ((tickP hc hf hs hd ⟨cp, cdir, cdo, crl, ch⟩ ⟨s0, s1, s2⟩ ob).2.su) ∧ (r32) = ((tickP hc hf hs hd ⟨cp, cdir, cdo, crl, ch⟩ ⟨s0, s1, s2⟩ ob).2.sd) from (c_i hfin.1 (c_i hfin.2.1 (c_i hfin.2.2.1 (c_b hfin.2.2.2.1 (c_i hfin.2.2.2.2.1 (c_b hfin.2.2.2.2.2.1 (c_b hfin.2.2.2.2.2.2.1 (c_i hfin.2.2.2.2.2.2.2.1 (c_i hfin.2.2.2.2.2.2.2.2.1 (c_i hfin.2.2.2.2.2.2.2.2.2.1 (c_i hfin.2.2.2.2.2.2.2.2.2.2.1 (c_i hfin.2.2.2.2.2.2.2.2.2.2.2.1 (c_i hfin.2.2.2.2.2.2.2.2.2.2.2.2 rfl)))))))))))))
              -- leaf 15 (ret)
              subst hr16 hr17 hr18 hr19
              have hst : stopP (houseP hf ⟨s0, s1, s2⟩).c (houseP hf ⟨s0, s1, s2⟩).u (houseP hf ⟨s0, s1, s2⟩).d (floor hc hf hs hd cp) cdir = true := hr20.symm.trans c13
              have hfl := floor_ok (p := cp) hv.1
              have ok : okf (floor hc hf hs hd cp) = true := okf_iff.2 ⟨by omega, by omega⟩
              have hat : isb (houseP hf ⟨s0, s1, s2⟩).c (floor hc hf hs hd cp) = false := by
                rw [house_c hv.1, decide_eq_true hfl.2, Bool.and_true]
                exact hr25.symm.trans c17
              have hha : hallb (houseP hf ⟨s0, s1, s2⟩).u (houseP hf ⟨s0, s1, s2⟩).d (floor hc hf hs hd cp) (dirP (houseP hf ⟨s0, s1, s2⟩).c (houseP hf ⟨s0, s1, s2⟩).u (houseP hf ⟨s0, s1, s2⟩).d (floor hc hf hs hd cp) cdir) = true := by
                have := hr29.symm.trans c18
                rw [hr21, hr27, hr28] at this
                exact this
              rw [tickP_yes hR, stepP_lvl (of_decide_eq_false c4) (hr15.symm.trans c12), levelP_stop (c := ⟨cp, cdir, cdo, crl, ch⟩) (s := houseP hf ⟨s0, s1, s2⟩) hst]
              dsimp only
              rw [hat, hha]
              refine ⟨rfl, hr21, hr23, rfl, rfl, rfl, rfl, rfl, hr21, rfl, ?_, ?_, ?_⟩
              · rw [hr30]; rfl
              · rw [hr31, hr21, Bool.true_and]
              · rw [hr32, hr21, Bool.true_and]
            ·
              have c19 : r29 = false := hcond
              clear hcond
              suffices hfin : (cp) = ((tickP hc hf hs hd ⟨cp, cdir, cdo, crl, ch⟩ ⟨s0, s1, s2⟩ ob).1.pos) ∧ (r21) = ((tickP hc hf hs hd ⟨cp, cdir, cdo, crl, ch⟩ ⟨s0, s1, s2⟩ ob).1.dir) ∧ (r23) = ((tickP hc hf hs hd ⟨cp, cdir, cdo, crl, ch⟩ ⟨s0, s1, s2⟩ ob).1.door) ∧ (false) = ((tickP hc hf hs hd ⟨cp, cdir, cdo, crl, ch⟩ ⟨s0, s1, s2⟩ ob).1.rl) ∧ ((0 : Int)) = ((tickP hc hf hs hd ⟨cp, cdir, cdo, crl, ch⟩ ⟨s0, s1, s2⟩ ob).1.held) ∧ (true) = ((tickP hc hf hs hd ⟨cp, cdir, cdo, crl, ch⟩ ⟨s0, s1, s2⟩ ob).2.op) ∧ (false) = ((tickP hc hf hs hd ⟨cp, cdir, cdo, crl, ch⟩ ⟨s0, s1, s2⟩ ob).2.cl) ∧ (r16) = ((tickP hc hf hs hd ⟨cp, cdir, cdo, crl, ch⟩ ⟨s0, s1, s2⟩ ob).2.fl) ∧ (r21) = ((tickP hc hf hs hd ⟨cp, cdir, cdo, crl, ch⟩ ⟨s0, s1, s2⟩ ob).2.lan) ∧ ((0 : Int)) = ((tickP hc hf hs hd ⟨cp, cdir, cdo, crl, ch⟩ ⟨s0, s1, s2⟩ ob).2.mv) ∧ ((0 : Int)) = ((tickP hc hf hs hd ⟨cp, cdir, cdo, crl, ch⟩ ⟨s0, s1, s2⟩ ob).2.sc) ∧ ((0 : Int)) = ((tickP hc hf hs hd ⟨cp, cdir, cdo, crl, ch⟩ ⟨s0, s1, s2⟩ ob).2.su) ∧ ((0 : Int)) = ((tickP hc hf hs hd ⟨cp, cdir, cdo, crl, ch⟩ ⟨s0, s1, s2⟩ ob).2.sd) from (c_i hfin.1 (c_i hfin.2.1 (c_i hfin.2.2.1 (c_b hfin.2.2.2.1 (c_i hfin.2.2.2.2.1 (c_b hfin.2.2.2.2.2.1 (c_b hfin.2.2.2.2.2.2.1 (c_i hfin.2.2.2.2.2.2.2.1 (c_i hfin.2.2.2.2.2.2.2.2.1 (c_i hfin.2.2.2.2.2.2.2.2.2.1 (c_i hfin.2.2.2.2.2.2.2.2.2.2.1 (c_i hfin.2.2.2.2.2.2.2.2.2.2.2.1 (c_i hfin.2.2.2.2.2.2.2.2.2.2.2.2 rfl)))))))))))))
              -- leaf 16 (ret)
              subst hr16 hr17 hr18 hr19
              have hst : stopP (houseP hf ⟨s0, s1, s2⟩).c (houseP hf ⟨s0, s1, s2⟩).u (houseP hf ⟨s0, s1, s2⟩).d (floor hc hf hs hd cp) cdir = true := hr20.symm.trans c13
              have hfl := floor_ok (p := cp) hv.1
              have ok : okf (floor hc hf hs hd cp) = true := okf_iff.2 ⟨by omega, by omega⟩
              have hat : isb (houseP hf ⟨s0, s1, s2⟩).c (floor hc hf hs hd cp) = false := by
                rw [house_c hv.1, decide_eq_true hfl.2, Bool.and_true]
                exact hr25.symm.trans c17
              have hha : hallb (houseP hf ⟨s0, s1, s2⟩).u (houseP hf ⟨s0, s1, s2⟩).d (floor hc hf hs hd cp) (dirP (houseP hf ⟨s0, s1, s2⟩).c (houseP hf ⟨s0, s1, s2⟩).u (houseP hf ⟨s0, s1, s2⟩).d (floor hc hf hs hd cp) cdir) = false := by
                have := hr29.symm.trans c19
                rw [hr21, hr27, hr28] at this
                exact this
              rw [tickP_yes hR, stepP_lvl (of_decide_eq_false c4) (hr15.symm.trans c12), levelP_stop (c := ⟨cp, cdir, cdo, crl, ch⟩) (s := houseP hf ⟨s0, s1, s2⟩) hst]
              dsimp only
              rw [hat, hha]
              refine ⟨rfl, hr21, hr23, rfl, rfl, rfl, rfl, rfl, hr21, rfl, ?_, ?_, ?_⟩
              · rfl
              · rfl
              · rfl
        ·
          have c20 : r20 = false := hcond
          clear hcond
          refine vg_call (C := C_rgo) rfl rfl (xs := [.i hc, .i hf, .i hs, .i hd, .i cp, .i r22]) rfl (fun hg => ?_) (fun rs hrs => ?_)
          ·
            exact trivial
          obtain ⟨r23, r24, hr23, hr24, rfl⟩ := rgo_res hrs
          clear hrs
          change Fm.holds _ _ (lk [.i hc, .i hf, .i hs, .i hd, .i cp, .i cdir, .i cdo, .b crl, .i ch, .i s0, .i s1, .i s2, .b ob, .b r13, .b r14, .b r15, .i r16, .i r17, .i r18, .i r19, .b r20, .i r21, .i r22, .i r23, .b r24])
          refine ⟨fun hcond => ?_, fun hcond => ?_⟩
          ·
            have c21 : r24 = true := hcond
            clear hcond
            refine vg_call (C := C_rfloor) rfl rfl (xs := [.i hc, .i hf, .i hs, .i hd, .i r23]) rfl (fun hg => ?_) (fun rs hrs => ?_)
            ·
              exact trivial
            obtain ⟨r25, hr25, rfl⟩ := rfloor_res hrs
            clear hrs
            change Fm.holds _ _ (lk [.i hc, .i hf, .i hs, .i hd, .i cp, .i cdir, .i cdo, .b crl, .i ch, .i s0, .i s1, .i s2, .b ob, .b r13, .b r14, .b r15, .i r16, .i r17, .i r18, .i r19, .b r20, .i r21, .i r22, .i r23, .b r24, .i r25])
            suffices hfin : (r23) = ((tickP hc hf hs hd ⟨cp, cdir, cdo, crl, ch⟩ ⟨s0, s1, s2⟩ ob).1.pos) ∧ (r21) = ((tickP hc hf hs hd ⟨cp, cdir, cdo, crl, ch⟩ ⟨s0, s1, s2⟩ ob).1.dir) ∧ (cdo) = ((tickP hc hf hs hd ⟨cp, cdir, cdo, crl, ch⟩ ⟨s0, s1, s2⟩ ob).1.door) ∧ (false) = ((tickP hc hf hs hd ⟨cp, cdir, cdo, crl, ch⟩ ⟨s0, s1, s2⟩ ob).1.rl) ∧ (ch) = ((tickP hc hf hs hd ⟨cp, cdir, cdo, crl, ch⟩ ⟨s0, s1, s2⟩ ob).1.held) ∧ (false) = ((tickP hc hf hs hd ⟨cp, cdir, cdo, crl, ch⟩ ⟨s0, s1, s2⟩ ob).2.op) ∧ (false) = ((tickP hc hf hs hd ⟨cp, cdir, cdo, crl, ch⟩ ⟨s0, s1, s2⟩ ob).2.cl) ∧ (r25) = ((tickP hc hf hs hd ⟨cp, cdir, cdo, crl, ch⟩ ⟨s0, s1, s2⟩ ob).2.fl) ∧ ((0 : Int)) = ((tickP hc hf hs hd ⟨cp, cdir, cdo, crl, ch⟩ ⟨s0, s1, s2⟩ ob).2.lan) ∧ ((IntKind.wrap .i64 (r23 - cp))) = ((tickP hc hf hs hd ⟨cp, cdir, cdo, crl, ch⟩ ⟨s0, s1, s2⟩ ob).2.mv) ∧ ((0 : Int)) = ((tickP hc hf hs hd ⟨cp, cdir, cdo, crl, ch⟩ ⟨s0, s1, s2⟩ ob).2.sc) ∧ ((0 : Int)) = ((tickP hc hf hs hd ⟨cp, cdir, cdo, crl, ch⟩ ⟨s0, s1, s2⟩ ob).2.su) ∧ ((0 : Int)) = ((tickP hc hf hs hd ⟨cp, cdir, cdo, crl, ch⟩ ⟨s0, s1, s2⟩ ob).2.sd) from (c_i hfin.1 (c_i hfin.2.1 (c_i hfin.2.2.1 (c_b hfin.2.2.2.1 (c_i hfin.2.2.2.2.1 (c_b hfin.2.2.2.2.2.1 (c_b hfin.2.2.2.2.2.2.1 (c_i hfin.2.2.2.2.2.2.2.1 (c_i hfin.2.2.2.2.2.2.2.2.1 (c_i hfin.2.2.2.2.2.2.2.2.2.1 (c_i hfin.2.2.2.2.2.2.2.2.2.2.1 (c_i hfin.2.2.2.2.2.2.2.2.2.2.2.1 (c_i hfin.2.2.2.2.2.2.2.2.2.2.2.2 rfl)))))))))))))
            -- leaf 17 (ret)
            subst hr16 hr17 hr18 hr19
            have hst : stopP (houseP hf ⟨s0, s1, s2⟩).c (houseP hf ⟨s0, s1, s2⟩).u (houseP hf ⟨s0, s1, s2⟩).d (floor hc hf hs hd cp) cdir = false := hr20.symm.trans c20
            have hg : goIs hc hf hs hd cp r22 = true := hr24.symm.trans c21
            have hm := moveP_range (houseP hf ⟨s0, s1, s2⟩).c (houseP hf ⟨s0, s1, s2⟩).u (houseP hf ⟨s0, s1, s2⟩).d (floor hc hf hs hd cp) cdir
            rw [← hr22] at hm
            have hk : clampM r22 = r22 := by unfold clampM; omega
            have e23 : r23 = cp + r22 := by rw [hr23, goPos_eq hg, hk]
            have em : IntKind.wrap .i64 (r23 - cp) = r22 := by rw [wrap_in (by omega) (by omega)]; omega
            rw [tickP_yes hR, stepP_lvl (of_decide_eq_false c4) (hr15.symm.trans c12)]
            by_cases h0 : r22 = 0
            · rw [levelP_stay (c := ⟨cp, cdir, cdo, crl, ch⟩) (s := houseP hf ⟨s0, s1, s2⟩) hst (by simp only; rw [← hr22, h0]; simp)]
              exact ⟨by rw [e23, h0]; simp, hr21, rfl, rfl, rfl, rfl, rfl, by rw [hr25, e23, h0]; simp, rfl, by rw [em, h0]; rfl, rfl, rfl, rfl⟩
            · rw [levelP_go (c := ⟨cp, cdir, cdo, crl, ch⟩) (s := houseP hf ⟨s0, s1, s2⟩) hst (by simp only; rw [← hr22, hg]; simp [h0])]
              exact ⟨by rw [e23, hr22], hr21, rfl, rfl, rfl, rfl, rfl, by rw [hr25, e23, hr22], rfl, by rw [em, hr22], rfl, rfl, rfl⟩
          ·
            have c22 : r24 = false := hcond
            clear hcond
            refine vg_call (C := C_rfloor) rfl rfl (xs := [.i hc, .i hf, .i hs, .i hd, .i cp]) rfl (fun hg => ?_) (fun rs hrs => ?_)
            ·
              exact trivial
            obtain ⟨r25, hr25, rfl⟩ := rfloor_res hrs
            clear hrs
            change Fm.holds _ _ (lk [.i hc, .i hf, .i hs, .i hd, .i cp, .i cdir, .i cdo, .b crl, .i ch, .i s0, .i s1, .i s2, .b ob, .b r13, .b r14, .b r15, .i r16, .i r17, .i r18, .i r19, .b r20, .i r21, .i r22, .i r23, .b r24, .i r25])
            suffices hfin : (cp) = ((tickP hc hf hs hd ⟨cp, cdir, cdo, crl, ch⟩ ⟨s0, s1, s2⟩ ob).1.pos) ∧ (r21) = ((tickP hc hf hs hd ⟨cp, cdir, cdo, crl, ch⟩ ⟨s0, s1, s2⟩ ob).1.dir) ∧ (cdo) = ((tickP hc hf hs hd ⟨cp, cdir, cdo, crl, ch⟩ ⟨s0, s1, s2⟩ ob).1.door) ∧ (false) = ((tickP hc hf hs hd ⟨cp, cdir, cdo, crl, ch⟩ ⟨s0, s1, s2⟩ ob).1.rl) ∧ (ch) = ((tickP hc hf hs hd ⟨cp, cdir, cdo, crl, ch⟩ ⟨s0, s1, s2⟩ ob).1.held) ∧ (false) = ((tickP hc hf hs hd ⟨cp, cdir, cdo, crl, ch⟩ ⟨s0, s1, s2⟩ ob).2.op) ∧ (false) = ((tickP hc hf hs hd ⟨cp, cdir, cdo, crl, ch⟩ ⟨s0, s1, s2⟩ ob).2.cl) ∧ (r25) = ((tickP hc hf hs hd ⟨cp, cdir, cdo, crl, ch⟩ ⟨s0, s1, s2⟩ ob).2.fl) ∧ ((0 : Int)) = ((tickP hc hf hs hd ⟨cp, cdir, cdo, crl, ch⟩ ⟨s0, s1, s2⟩ ob).2.lan) ∧ ((0 : Int)) = ((tickP hc hf hs hd ⟨cp, cdir, cdo, crl, ch⟩ ⟨s0, s1, s2⟩ ob).2.mv) ∧ ((0 : Int)) = ((tickP hc hf hs hd ⟨cp, cdir, cdo, crl, ch⟩ ⟨s0, s1, s2⟩ ob).2.sc) ∧ ((0 : Int)) = ((tickP hc hf hs hd ⟨cp, cdir, cdo, crl, ch⟩ ⟨s0, s1, s2⟩ ob).2.su) ∧ ((0 : Int)) = ((tickP hc hf hs hd ⟨cp, cdir, cdo, crl, ch⟩ ⟨s0, s1, s2⟩ ob).2.sd) from (c_i hfin.1 (c_i hfin.2.1 (c_i hfin.2.2.1 (c_b hfin.2.2.2.1 (c_i hfin.2.2.2.2.1 (c_b hfin.2.2.2.2.2.1 (c_b hfin.2.2.2.2.2.2.1 (c_i hfin.2.2.2.2.2.2.2.1 (c_i hfin.2.2.2.2.2.2.2.2.1 (c_i hfin.2.2.2.2.2.2.2.2.2.1 (c_i hfin.2.2.2.2.2.2.2.2.2.2.1 (c_i hfin.2.2.2.2.2.2.2.2.2.2.2.1 (c_i hfin.2.2.2.2.2.2.2.2.2.2.2.2 rfl)))))))))))))
            -- leaf 18 (ret)
            subst hr16 hr17 hr18 hr19
            have hst : stopP (houseP hf ⟨s0, s1, s2⟩).c (houseP hf ⟨s0, s1, s2⟩).u (houseP hf ⟨s0, s1, s2⟩).d (floor hc hf hs hd cp) cdir = false := hr20.symm.trans c20
            have hg : goIs hc hf hs hd cp r22 = false := hr24.symm.trans c22
            rw [tickP_yes hR, stepP_lvl (of_decide_eq_false c4) (hr15.symm.trans c12), levelP_stay (c := ⟨cp, cdir, cdo, crl, ch⟩) (s := houseP hf ⟨s0, s1, s2⟩) hst (by simp only; rw [← hr22, hg]; rfl)]
            exact ⟨rfl, hr21, rfl, rfl, rfl, rfl, rfl, hr25, rfl, rfl, rfl, rfl, rfl⟩
def C_rless : Ctr := ⟨[.agg [.int .u64, .int .u64, .int .u64], .agg [.int .u64, .int .u64, .int .u64]], [.agg [.int .u64, .int .u64, .int .u64]],
  fun | [.i _, .i _, .i _, .i _, .i _, .i _] => True | _ => False,
  fun | [.i s0, .i s1, .i s2, .i t0, .i t1, .i t2] => [.i (N (B s0 &&& ~~~B t0)), .i (N (B s1 &&& ~~~B t1)), .i (N (B s2 &&& ~~~B t2))] | _ => []⟩
theorem rless_pre {ls : List Leaf} (h_ : C_rless.pre ls) : ∃ (s0 : Int) (s1 : Int) (s2 : Int) (t0 : Int) (t1 : Int) (t2 : Int), ls = [.i s0, .i s1, .i s2, .i t0, .i t1, .i t2] := by
  unfold C_rless at h_; dsimp only at h_; split at h_
  · exact ⟨_, _, _, _, _, _, rfl⟩
  · exact h_.elim
theorem rless_res {s0 : Int} {s1 : Int} {s2 : Int} {t0 : Int} {t1 : Int} {t2 : Int} {rs_ : List Leaf} (h_ : rs_ = C_rless.fn [.i s0, .i s1, .i s2, .i t0, .i t1, .i t2]) : ∃ (q0 : Int) (q1 : Int) (q2 : Int), q0 = (N (B s0 &&& ~~~B t0)) ∧ q1 = (N (B s1 &&& ~~~B t1)) ∧ q2 = (N (B s2 &&& ~~~B t2)) ∧ rs_ = [.i q0, .i q1, .i q2] := ⟨_, _, _, rfl, rfl, rfl, h_⟩
def phi_rless : Fm := (.ret [(.i (.bit .andNot .u64 (.v 0) (.v 3))), (.i (.bit .andNot .u64 (.v 1) (.v 4))), (.i (.bit .andNot .u64 (.v 2) (.v 5)))])
def tbl_rless : List (Nat × Ctr) := []
theorem vc_rless : vcg Tryd.prog (sigT tbl_rless) [] Tryd.f55 C_rless.params C_rless.res = some phi_rless := by kernel_rfl
--SPLIT
theorem rless_sound : C_rless.Sound Tryd.prog G 55 := by
  refine fn_ok mixed stable tbl_rless [] Tryd.func55 (by kernel_rfl) phi_rless vc_rless trivial (fun _ _ _ => False) (fun _ _ _ => 0) ?_
  intro ls hp
  obtain ⟨s0, s1, s2, t0, t1, t2, rfl⟩ := rless_pre hp
  clear hp
  rw [envOf_lk]
  unfold phi_rless
  suffices hfin : ((bitv .andNot .u64 s0 t0)) = (N (B s0 &&& ~~~B t0)) ∧ ((bitv .andNot .u64 s1 t1)) = (N (B s1 &&& ~~~B t1)) ∧ ((bitv .andNot .u64 s2 t2)) = (N (B s2 &&& ~~~B t2)) from (c_i hfin.1 (c_i hfin.2.1 (c_i hfin.2.2 rfl)))
  -- leaf 1 (ret)
  exact ⟨bv_andNot _ _, bv_andNot _ _, bv_andNot _ _⟩
def C_reta : Ctr := ⟨[.agg [.int .i64, .int .i64, .int .i64, .int .i64], .agg [.int .i64, .int .i64, .int .i64, .bool, .int .i64], .agg [.int .u64, .int .u64, .int .u64], .agg [.int .i64, .int .i64]], [.one (.int .i64)],
  fun | [.i hc, .i hf, .i hs, .i hd, .i cp, .i cdir, .i cdo, .b crl, .i ch, .i s0, .i s1, .i s2, .i fl, .i dr] => N (B s1) = s1 ∧ N (B s2) = s2 | _ => False,
  fun | [.i hc, .i hf, .i hs, .i hd, .i cp, .i cdir, .i cdo, .b crl, .i ch, .i s0, .i s1, .i s2, .i fl, .i dr] => [.i (etaRef hc hf hs hd ⟨cp, cdir, cdo, crl, ch⟩ ⟨s0, s1, s2⟩ fl dr)] | _ => []⟩
theorem reta_pre {ls : List Leaf} (h_ : C_reta.pre ls) : ∃ (hc : Int) (hf : Int) (hs : Int) (hd : Int) (cp : Int) (cdir : Int) (cdo : Int) (crl : Bool) (ch : Int) (s0 : Int) (s1 : Int) (s2 : Int) (fl : Int) (dr : Int), ls = [.i hc, .i hf, .i hs, .i hd, .i cp, .i cdir, .i cdo, .b crl, .i ch, .i s0, .i s1, .i s2, .i fl, .i dr] ∧ (N (B s1) = s1 ∧ N (B s2) = s2) := by
  unfold C_reta at h_; dsimp only at h_; split at h_
  · exact ⟨_, _, _, _, _, _, _, _, _, _, _, _, _, _, rfl, h_⟩
  · exact h_.elim
theorem reta_mk {hc : Int} {hf : Int} {hs : Int} {hd : Int} {cp : Int} {cdir : Int} {cdo : Int} {crl : Bool} {ch : Int} {s0 : Int} {s1 : Int} {s2 : Int} {fl : Int} {dr : Int} (h_ : N (B s1) = s1 ∧ N (B s2) = s2) : C_reta.pre [.i hc, .i hf, .i hs, .i hd, .i cp, .i cdir, .i cdo, .b crl, .i ch, .i s0, .i s1, .i s2, .i fl, .i dr] := h_
theorem reta_res {hc : Int} {hf : Int} {hs : Int} {hd : Int} {cp : Int} {cdir : Int} {cdo : Int} {crl : Bool} {ch : Int} {s0 : Int} {s1 : Int} {s2 : Int} {fl : Int} {dr : Int} {rs_ : List Leaf} (h_ : rs_ = C_reta.fn [.i hc, .i hf, .i hs, .i hd, .i cp, .i cdir, .i cdo, .b crl, .i ch, .i s0, .i s1, .i s2, .i fl, .i dr]) : ∃ (q0 : Int), q0 = (etaRef hc hf hs hd ⟨cp, cdir, cdo, crl, ch⟩ ⟨s0, s1, s2⟩ fl dr) ∧ rs_ = [.i q0] := ⟨_, rfl, h_⟩
def inv_reta_5 (hc : Int) (hf : Int) (hs : Int) (hd : Int) (p0 : Int) (d0 : Int) (o0 : Int) (r0 : Bool) (h0 : Int) (s0 : Int) (s1 : Int) (s2 : Int) (fl : Int) (dr : Int) (n : Int) (p : Int) (d : Int) (o : Int) (r : Bool) (h : Int) (a : Int) (b : Int) (c : Int) : Prop := 1 ≤ n ∧ n ≤ 20000 ∧ carRight hc hf hs hd ⟨p, d, o, r, h⟩ = true ∧ etaGo hc hf hs hd fl dr (20000 - n).toNat ⟨p, d, o, r, h⟩ ⟨a, b, c⟩ n = etaRef hc hf hs hd ⟨p0, d0, o0, r0, h0⟩ ⟨s0, s1, s2⟩ fl dr
def meas_reta_5 (hc : Int) (hf : Int) (hs : Int) (hd : Int) (p0 : Int) (d0 : Int) (o0 : Int) (r0 : Bool) (h0 : Int) (s0 : Int) (s1 : Int) (s2 : Int) (fl : Int) (dr : Int) (n : Int) (p : Int) (d : Int) (o : Int) (r : Bool) (h : Int) (a : Int) (b : Int) (c : Int) : Nat := (20000 - n).toNat
def phi_reta : Fm := (.call 51 [] [(.i (.v 0)), (.i (.v 1)), (.i (.v 2)), (.i (.v 3))] 14 (.call 34 [((.not (.v 14)), .false)] [(.i (.v 1)), (.i (.v 12)), (.i (.v 13))] 15 (.call 52 [((.ite (.not (.v 14)) (.t .true) (.not (.v 15))), .false)] [(.i (.v 0)), (.i (.v 1)), (.i (.v 2)), (.i (.v 3)), (.i (.v 4)), (.i (.v 5)), (.i (.v 6)), (.b (.v 7)), (.i (.v 8))] 16 (.and (.imp (.ite (.ite (.not (.v 14)) (.t .true) (.not (.v 15))) (.t .true) (.not (.v 16))) .true (.ret [(.i (.i 1048576))])) (.imp (.ite (.ite (.not (.v 14)) (.t .true) (.not (.v 15))) (.t .true) (.not (.v 16))) .false (.call 53 [] [(.i (.v 9)), (.i (.v 10)), (.i (.v 11)), (.i (.v 12)), (.i (.v 13))] 17 (.loop 5 20 [0, 1, 2, 3, 4, 5, 6, 7, 8, 9, 10, 11, 12, 13] [(.i (.i 1)), (.i (.v 4)), (.i (.v 5)), (.i (.v 6)), (.b (.v 7)), (.i (.v 8)), (.i (.v 17)), (.i (.v 18)), (.i (.v 19))] [.i, .i, .i, .i, .b, .i, .i, .i, .i] (.and (.imp (.lt (.v 20) (.i 20000)) .true (.call 54 [] [(.i (.v 0)), (.i (.v 1)), (.i (.v 2)), (.i (.v 3)), (.i (.v 21)), (.i (.v 22)), (.i (.v 23)), (.b (.v 24)), (.i (.v 25)), (.i (.v 26)), (.i (.v 27)), (.i (.v 28)), (.b (.t .false))] 29 (.and (.imp (.ite (.ite (.v 34) (.eq (.v 36) (.v 12)) (.t .false)) (.eq (.v 37) (.v 13)) (.t .false)) .true (.ret [(.i (.v 20))])) (.imp (.ite (.ite (.v 34) (.eq (.v 36) (.v 12)) (.t .false)) (.eq (.v 37) (.v 13)) (.t .false)) .false (.call 55 [] [(.i (.v 26)), (.i (.v 27)), (.i (.v 28)), (.i (.v 39)), (.i (.v 40)), (.i (.v 41))] 42 (.back 5 20 29 [0, 1, 2, 3, 4, 5, 6, 7, 8, 9, 10, 11, 12, 13] [(.i (.wrap .i64 (.add (.v 20) (.i 1)))), (.i (.v 29)), (.i (.v 30)), (.i (.v 31)), (.b (.v 32)), (.i (.v 33)), (.i (.v 42)), (.i (.v 43)), (.i (.v 44))])))))) (.imp (.lt (.v 20) (.i 20000)) .false (.ret [(.i (.i 1048576))]))))))))))
def tbl_reta : List (Nat × Ctr) := [(34, C_rmay), (51, C_rvalid), (52, C_rcright), (53, C_rput), (54, C_rctick), (55, C_rless)]
def inv_reta : List Leaf → Nat → List Leaf → Prop := fun _ key xs => match key, xs with
  | 5, [.i hc, .i hf, .i hs, .i hd, .i p0, .i d0, .i o0, .b r0, .i h0, .i s0, .i s1, .i s2, .i fl, .i dr, .i n, .i p, .i d, .i o, .b r, .i h, .i a, .i b, .i c] => inv_reta_5 hc hf hs hd p0 d0 o0 r0 h0 s0 s1 s2 fl dr n p d o r h a b c
  | _, _ => False
def meas_reta : List Leaf → Nat → List Leaf → Nat := fun _ key xs => match key, xs with
  | 5, [.i hc, .i hf, .i hs, .i hd, .i p0, .i d0, .i o0, .b r0, .i h0, .i s0, .i s1, .i s2, .i fl, .i dr, .i n, .i p, .i d, .i o, .b r, .i h, .i a, .i b, .i c] => meas_reta_5 hc hf hs hd p0 d0 o0 r0 h0 s0 s1 s2 fl dr n p d o r h a b c
  | _, _ => 0
theorem vc_reta : vcg Tryd.prog (sigT tbl_reta) [⟨5, [8, 10, 11, 31, 32, 33, 34, 35, 36, 37, 38, 39, 40, 41, 42, 43, 44, 45, 46, 47, 48, 49, 50, 51, 52, 53, 54, 55, 56, 57, 58, 59, 60, 61, 62, 63], [9], [(1, 0), (1, 1), (1, 2), (1, 3), (1, 4), (2, 0), (2, 1), (2, 2)], [0, 1, 2, 3, 4, 5, 6, 7, 8, 9, 10, 11, 12, 13], some (3, [.i64]), []⟩] Tryd.f36 C_reta.params C_reta.res = some phi_reta := by kernel_rfl
--SPLIT
theorem reta_sound : C_reta.Sound Tryd.prog G 36 := by
  refine fn_ok mixed stable tbl_reta [⟨5, [8, 10, 11, 31, 32, 33, 34, 35, 36, 37, 38, 39, 40, 41, 42, 43, 44, 45, 46, 47, 48, 49, 50, 51, 52, 53, 54, 55, 56, 57, 58, 59, 60, 61, 62, 63], [9], [(1, 0), (1, 1), (1, 2), (1, 3), (1, 4), (2, 0), (2, 1), (2, 2)], [0, 1, 2, 3, 4, 5, 6, 7, 8, 9, 10, 11, 12, 13], some (3, [.i64]), []⟩] Tryd.func36 (by kernel_rfl) phi_reta vc_reta ⟨rmay_sound, rvalid_sound, rcright_sound, rput_sound, rctick_sound, rless_sound, trivial⟩ inv_reta meas_reta ?_
  intro ls hp
  obtain ⟨hc, hf, hs, hd, cp, cdir, cdo, crl, ch, s0, s1, s2, fl, dr, rfl, hpre⟩ := reta_pre hp
  clear hp
  rw [envOf_lk]
  unfold phi_reta
  refine vg_call (C := C_rvalid) rfl rfl (xs := [.i hc, .i hf, .i hs, .i hd]) rfl (fun hg => ?_) (fun rs hrs => ?_)
  ·
    exact trivial
  obtain ⟨r14, hr14, rfl⟩ := rvalid_res hrs
  clear hrs
  change Fm.holds _ _ (lk [.i hc, .i hf, .i hs, .i hd, .i cp, .i cdir, .i cdo, .b crl, .i ch, .i s0, .i s1, .i s2, .i fl, .i dr, .b r14])
  refine vg_call (C := C_rmay) rfl rfl (xs := [.i hf, .i fl, .i dr]) rfl (fun hg => ?_) (fun rs hrs => ?_)
  ·
    simp only [gd_cons, gd_nil, and_true] at hg
    replace hg : (!r14) = false := hg
    refine rmay_mk ?_
    -- leaf 1 (pre)
    have h14 : r14 = true := by revert hg; cases r14 <;> simp
    have v := valid_iff.1 (hr14.symm.trans h14)
    omega
  obtain ⟨r15, hr15, rfl⟩ := rmay_res hrs
  clear hrs
  change Fm.holds _ _ (lk [.i hc, .i hf, .i hs, .i hd, .i cp, .i cdir, .i cdo, .b crl, .i ch, .i s0, .i s1, .i s2, .i fl, .i dr, .b r14, .b r15])
  refine vg_call (C := C_rcright) rfl rfl (xs := [.i hc, .i hf, .i hs, .i hd, .i cp, .i cdir, .i cdo, .b crl, .i ch]) rfl (fun hg => ?_) (fun rs hrs => ?_)
  ·
    exact trivial
  obtain ⟨r16, hr16, rfl⟩ := rcright_res hrs
  clear hrs
  change Fm.holds _ _ (lk [.i hc, .i hf, .i hs, .i hd, .i cp, .i cdir, .i cdo, .b crl, .i ch, .i s0, .i s1, .i s2, .i fl, .i dr, .b r14, .b r15, .b r16])
  refine ⟨fun hcond => ?_, fun hcond => ?_⟩
  ·
    have c1 : (if (if (!r14) = true then true else (!r15)) = true then true else (!r16)) = true := hcond
    clear hcond
    suffices hfin : ((1048576 : Int)) = (etaRef hc hf hs hd ⟨cp, cdir, cdo, crl, ch⟩ ⟨s0, s1, s2⟩ fl dr) from (c_i hfin rfl)
    -- leaf 2 (ret)
    unfold etaRef
    rw [if_neg]
    rw [← hr16, ← hr15]
    intro h
    rw [Bool.and_eq_true] at h
    have := (carRight_valid (hr16.symm.trans h.1)).1
    rw [hr14, this, h.1, h.2] at c1
    simp at c1
  ·
    have c2 : (if (if (!r14) = true then true else (!r15)) = true then true else (!r16)) = false := hcond
    clear hcond
    have h14 : r14 = true := by revert c2; cases r14 <;> simp
    have h15 : r15 = true := by revert c2; cases r14 <;> cases r15 <;> simp
    have h16 : r16 = true := by revert c2; cases r14 <;> cases r15 <;> cases r16 <;> simp
    have hR : carRight hc hf hs hd ⟨cp, cdir, cdo, crl, ch⟩ = true := hr16.symm.trans h16
    have E : etaRef hc hf hs hd ⟨cp, cdir, cdo, crl, ch⟩ ⟨s0, s1, s2⟩ fl dr = etaGo hc hf hs hd fl dr 19999 ⟨cp, cdir, cdo, crl, ch⟩ (putP ⟨s0, s1, s2⟩ fl dr) 1 := by
      unfold etaRef
      rw [if_pos (by rw [hR, ← hr15, h15]; rfl)]
    refine vg_call (C := C_rput) rfl rfl (xs := [.i s0, .i s1, .i s2, .i fl, .i dr]) rfl (fun hg => ?_) (fun rs hrs => ?_)
    ·
      refine rput_mk ?_
      -- leaf 3 (pre)
      exact hpre
    obtain ⟨r17, r18, r19, hr17, hr18, hr19, rfl⟩ := rput_res hrs
    clear hrs
    change Fm.holds _ _ (lk [.i hc, .i hf, .i hs, .i hd, .i cp, .i cdir, .i cdo, .b crl, .i ch, .i s0, .i s1, .i s2, .i fl, .i dr, .b r14, .b r15, .b r16, .i r17, .i r18, .i r19])
    refine vg_loop rfl ?_ (fun xs hfit hi => ?_)
    ·
      show inv_reta_5 hc hf hs hd cp cdir cdo crl ch s0 s1 s2 fl dr (1 : Int) cp cdir cdo crl ch r17 r18 r19
      -- leaf 4 (init)
      refine ⟨by omega, by omega, hR, ?_⟩
      rw [E, hr17, hr18, hr19]
      rfl
    obtain ⟨x20, xs0, rfl, hfit0⟩ := fits_i hfit
    obtain ⟨x21, xs1, rfl, hfit1⟩ := fits_i hfit0
    obtain ⟨x22, xs2, rfl, hfit2⟩ := fits_i hfit1
    obtain ⟨x23, xs3, rfl, hfit3⟩ := fits_i hfit2
    obtain ⟨x24, xs4, rfl, hfit4⟩ := fits_b hfit3
    obtain ⟨x25, xs5, rfl, hfit5⟩ := fits_i hfit4
    obtain ⟨x26, xs6, rfl, hfit6⟩ := fits_i hfit5
    obtain ⟨x27, xs7, rfl, hfit7⟩ := fits_i hfit6
    obtain ⟨x28, xs8, rfl, hfit8⟩ := fits_i hfit7
    obtain rfl := fits_nil hfit8
    clear hfit hfit0 hfit1 hfit2 hfit3 hfit4 hfit5 hfit6 hfit7 hfit8
    replace hi : inv_reta_5 hc hf hs hd cp cdir cdo crl ch s0 s1 s2 fl dr x20 x21 x22 x23 x24 x25 x26 x27 x28 := hi
    have hi5 := hi; clear hi
    change Fm.holds _ _ (lk [.i hc, .i hf, .i hs, .i hd, .i cp, .i cdir, .i cdo, .b crl, .i ch, .i s0, .i s1, .i s2, .i fl, .i dr, .b r14, .b r15, .b r16, .i r17, .i r18, .i r19, .i x20, .i x21, .i x22, .i x23, .b x24, .i x25, .i x26, .i x27, .i x28])
    obtain ⟨i0, i1, i2, i3⟩ := hi5
    have e1 : x20 < 20000 → IntKind.wrap .i64 (x20 + 1) = x20 + 1 := fun h => wrap_in (by omega) (by omega)
    refine ⟨fun hcond => ?_, fun hcond => ?_⟩
    ·
      have c3 : (decide (x20 < (20000 : Int))) = true := hcond
      clear hcond
      refine vg_call (C := C_rctick) rfl rfl (xs := [.i hc, .i hf, .i hs, .i hd, .i x21, .i x22, .i x23, .b x24, .i x25, .i x26, .i x27, .i x28, .b false]) rfl (fun hg => ?_) (fun rs hrs => ?_)
      ·
        exact trivial
      obtain ⟨r29, r30, r31, r32, r33, r34, r35, r36, r37, r38, r39, r40, r41, hr29, hr30, hr31, hr32, hr33, hr34, hr35, hr36, hr37, hr38, hr39, hr40, hr41, rfl⟩ := rctick_res hrs
      clear hrs
      change Fm.holds _ _ (lk [.i hc, .i hf, .i hs, .i hd, .i cp, .i cdir, .i cdo, .b crl, .i ch, .i s0, .i s1, .i s2, .i fl, .i dr, .b r14, .b r15, .b r16, .i r17, .i r18, .i r19, .i x20, .i x21, .i x22, .i x23, .b x24, .i x25, .i x26, .i x27, .i x28, .i r29, .i r30, .i r31, .b r32, .i r33, .b r34, .b r35, .i r36, .i r37, .i r38, .i r39, .i r40, .i r41])
      have hh : hitP (tickP hc hf hs hd ⟨x21, x22, x23, x24, x25⟩ ⟨x26, x27, x28⟩ false).2 fl dr = (if (if r34 = true then (r36 == fl) else false) = true then (r37 == dr) else false) := by
        unfold hitP
        rw [← hr34, ← hr36, ← hr37]
        cases r34 <;> cases (r36 == fl) <;> simp
      have eX : (tickP hc hf hs hd ⟨x21, x22, x23, x24, x25⟩ ⟨x26, x27, x28⟩ false).1 = ⟨r29, r30, r31, r32, r33⟩ := by
        rw [hr29, hr30, hr31, hr32, hr33]
      obtain ⟨k, hk⟩ : ∃ k, (20000 - x20).toNat = k + 1 := ⟨(20000 - x20).toNat - 1, by have := of_decide_eq_true c3; omega⟩
      rw [hk] at i3
      refine ⟨fun hcond => ?_, fun hcond => ?_⟩
      ·
        have c4 : (if (if r34 = true then (r36 == fl) else false) = true then (r37 == dr) else false) = true := hcond
        clear hcond
        suffices hfin : (x20) = (etaRef hc hf hs hd ⟨cp, cdir, cdo, crl, ch⟩ ⟨s0, s1, s2⟩ fl dr) from (c_i hfin rfl)
        -- leaf 5 (ret)
        rw [etaGo_hit (hh.trans c4)] at i3
        exact i3
      ·
        have c5 : (if (if r34 = true then (r36 == fl) else false) = true then (r37 == dr) else false) = false := hcond
        clear hcond
        refine vg_call (C := C_rless) rfl rfl (xs := [.i x26, .i x27, .i x28, .i r39, .i r40, .i r41]) rfl (fun hg => ?_) (fun rs hrs => ?_)
        ·
          exact trivial
        obtain ⟨r42, r43, r44, hr42, hr43, hr44, rfl⟩ := rless_res hrs
        clear hrs
        change Fm.holds _ _ (lk [.i hc, .i hf, .i hs, .i hd, .i cp, .i cdir, .i cdo, .b crl, .i ch, .i s0, .i s1, .i s2, .i fl, .i dr, .b r14, .b r15, .b r16, .i r17, .i r18, .i r19, .i x20, .i x21, .i x22, .i x23, .b x24, .i x25, .i x26, .i x27, .i x28, .i r29, .i r30, .i r31, .b r32, .i r33, .b r34, .b r35, .i r36, .i r37, .i r38, .i r39, .i r40, .i r41, .i r42, .i r43, .i r44])
        refine ⟨?_, ?_⟩
        ·
          show inv_reta_5 hc hf hs hd cp cdir cdo crl ch s0 s1 s2 fl dr (IntKind.wrap .i64 (x20 + (1 : Int))) r29 r30 r31 r32 r33 r42 r43 r44
          -- leaf 6 (back)
          have hlt := of_decide_eq_true c3
          rw [etaGo_miss (hh.trans c5), eX] at i3
          rw [e1 hlt]
          refine ⟨by omega, by omega, ?_, ?_⟩
          · have := (tick_right2 (s := ⟨x26, x27, x28⟩) (ob := false) i2 (.inl rfl)).1
            rwa [eX] at this
          · rw [show (20000 - (x20 + 1)).toNat = k by omega, ← i3]
            simp only [hr39, hr40, hr41, hr42, hr43, hr44]
            rfl
        ·
          show meas_reta_5 hc hf hs hd cp cdir cdo crl ch s0 s1 s2 fl dr (IntKind.wrap .i64 (x20 + (1 : Int))) r29 r30 r31 r32 r33 r42 r43 r44 < meas_reta_5 hc hf hs hd cp cdir cdo crl ch s0 s1 s2 fl dr x20 x21 x22 x23 x24 x25 x26 x27 x28
          -- leaf 7 (meas)
          have hlt := of_decide_eq_true c3
          unfold meas_reta_5
          rw [e1 hlt]
          omega
    ·
      have c6 : (decide (x20 < (20000 : Int))) = false := hcond
      clear hcond
      suffices hfin : ((1048576 : Int)) = (etaRef hc hf hs hd ⟨cp, cdir, cdo, crl, ch⟩ ⟨s0, s1, s2⟩ fl dr) from (c_i hfin rfl)
      -- leaf 8 (ret)
      have hge := of_decide_eq_false c6
      rw [show (20000 - x20).toNat = 0 by omega] at i3
      exact i3
end Go.Proofs.YtchjajnhbipkmaaDoor
