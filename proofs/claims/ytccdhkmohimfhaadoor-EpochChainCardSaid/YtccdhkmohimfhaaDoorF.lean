import Derived.Test.YtccdhkmohimfhaaDoorVg
import Derived.Test.YtccdhkmohimfhaaDoorProg
import Derived.Test.YtccdhkmohimfhaaDoorShelf
import Derived.Lib.ItoaLen
import Derived.WalkSmall
namespace Go.Proofs.YtccdhkmohimfhaaDoor
open Go.Vg
set_option linter.unusedVariables false
set_option linter.unusedSimpArgs false
theorem mixed : Tryd.prog.follows .mixedOrders = true := by kernel_rfl
def G : World → Prop := fun w => Lib.TabIs Tryd.prog w "internal/strconv.uint64pow10" .u64 Lib.pow10Tab
theorem gPow : Tryd.prog.globalNamed "internal/strconv.uint64pow10" = some 1 := by kernel_rfl
theorem stable : Stable G := fun w w' h hb => by
  have h1 : w.var? Tryd.prog "internal/strconv.uint64pow10" = _ := h
  refine var?_below (g := 1) hb gPow ?_ h1
  unfold World.var? at h1
  rw [gPow] at h1
  simp only [Option.bind_some] at h1
  rcases Nat.lt_or_ge 1 w.heap.size with h2 | h2
  · exact h2
  · rw [Array.getElem?_eq_none h2] at h1; cases h1
theorem below_grow (w : World) (k : Nat) (os : Array Obj) : Go.RowKit.Below w.heap.size w (Sort.grow (w.drewN k) os) :=
  ⟨rfl, rfl, rfl, by simp [Sort.grow, World.drewN], fun b hb => by
    show (w.heap ++ os)[b]? = w.heap[b]?
    rw [Array.getElem?_append_left hb]⟩
open Go

def itoaS (n : Int) : Int := encS ⟨(Lib.itoa n).toArray⟩
def textS (n f : Int) : Int := catS (catS (itoaS n) 47) (itoaS f)
theorem catS_enc (a b : ByteArray) : catS (encS a) (encS b) = encS (a ++ b) := by unfold catS; rw [decS_encS, decS_encS]
theorem slenS_enc (a : ByteArray) : slenS (encS a) = (a.size : Int) := by unfold slenS; rw [decS_encS]; rfl
theorem itoaS_len {n : Int} (h0 : -9223372036854775808 ≤ n) (h1 : n < 9223372036854775808) : 0 ≤ slenS (itoaS n) ∧ slenS (itoaS n) ≤ 21 := by
  have := Lib.itoa_length_le n h0 (by omega)
  unfold itoaS
  rw [slenS_enc]
  show 0 ≤ (((Lib.itoa n).toArray.size : Nat) : Int) ∧ _
  rw [List.size_toArray]
  show _ ∧ (((Lib.itoa n).toArray.size : Nat) : Int) ≤ 21
  rw [List.size_toArray]
  omega
theorem dot_enc : (47 : Int) = encS ⟨#[46]⟩ := by decide
theorem slen_dot : slenS 47 = 1 := by rw [dot_enc, slenS_enc]; rfl
theorem slen_cat {a b : ByteArray} : slenS (catS (encS a) (encS b)) = slenS (encS a) + slenS (encS b) := by
  rw [catS_enc, slenS_enc, slenS_enc, slenS_enc, ByteArray.size_append]
  omega
theorem slen_itoa_dot {n : Int} : slenS (catS (itoaS n) 47) = slenS (itoaS n) + 1 := by
  unfold itoaS
  rw [dot_enc, slen_cat, ← dot_enc, slen_dot]
def lessE (ac af bc bf : Int) : Bool := decide (ac < bc) || (ac == bc && decide (af < bf))
def sameE (ac af bc bf : Int) : Bool := ac == bc && af == bf
def validE (c f : Int) : Bool := decide (1 ≤ c) && decide (c ≤ 4294967295) && decide (0 ≤ f) && decide (f < 16)
def nextIs (s f : Int) : Bool := decide (0 ≤ s) && decide (s < 4294967295) && decide (0 ≤ f) && decide (f < 16)


def number (n b : Int) : Int := n % b
theorem number_cases (n b : Int) (h : 0 < b) : (Int.tmod n b = n % b ∧ True) ∨ (Int.tmod n b = n % b - b ∧ True) := by
  have h1 := @Int.tmod_eq_emod n b
  split at h1
  · exact .inl ⟨by omega, trivial⟩
  · exact .inr ⟨by rw [h1, Int.natAbs_of_nonneg (by omega)], trivial⟩
theorem number_range (n : Int) {b : Int} (h : 0 < b) : 0 ≤ number n b ∧ number n b < b := ⟨Int.emod_nonneg _ (by omega), Int.emod_lt_of_pos _ h⟩

def C_fmtint : Ctr := ⟨[.one (.int .i64), .one (.int .i64)], [.one (.str)],
  fun | [.i n, .i base] => base = 10 ∧ (-9223372036854775808 ≤ n ∧ n < 9223372036854775808) | _ => False,
  fun | [.i n, .i _] => [.i (itoaS n)] | _ => []⟩
theorem fmtint_pre {ls : List Leaf} (h_ : C_fmtint.pre ls) : ∃ (n : Int) (base : Int), ls = [.i n, .i base] ∧ (base = 10 ∧ (-9223372036854775808 ≤ n ∧ n < 9223372036854775808)) := by
  unfold C_fmtint at h_; dsimp only at h_; split at h_
  · exact ⟨_, _, rfl, h_⟩
  · exact h_.elim
theorem fmtint_mk {n : Int} {base : Int} (h_ : base = 10 ∧ (-9223372036854775808 ≤ n ∧ n < 9223372036854775808)) : C_fmtint.pre [.i n, .i base] := h_
theorem fmtint_res {n : Int} {base : Int} {rs_ : List Leaf} (h_ : rs_ = C_fmtint.fn [.i n, .i base]) : ∃ (q0 : Int), q0 = (itoaS n) ∧ rs_ = [.i q0] := ⟨_, rfl, h_⟩
theorem fmtint_sound : C_fmtint.Sound Tryd.prog G 45 := by
  refine ⟨⟨_, Tryd.func45, by kernel_rfl, by kernel_rfl⟩, ?_⟩
  intro ls S w hG hp _
  obtain ⟨n, base, rfl, rfl, h0, h1⟩ := fmtint_pre hp
  have h := Tryd.strconv_FormatInt_10 n h0 (by omega) w hG
  refine Calls.mono (show Calls Tryd.prog 45 #[.int .i64 n, .int .i64 10] w _ from h) ?_
  rintro e w' ⟨rfl, k, os, rfl⟩
  refine ⟨below_grow w k os, _, rfl, fun _ => undef, ?_, fun p hp => by cases hp⟩
  show _ = Value.string (decS (itoaS n))
  unfold itoaS
  rw [decS_encS]
def C_itoa : Ctr := ⟨[.one (.int .i64)], [.one (.str)],
  fun | [.i n] => (-9223372036854775808 ≤ n ∧ n < 9223372036854775808) | _ => False,
  fun | [.i n] => [.i (itoaS n)] | _ => []⟩
theorem itoa_pre {ls : List Leaf} (h_ : C_itoa.pre ls) : ∃ (n : Int), ls = [.i n] ∧ ((-9223372036854775808 ≤ n ∧ n < 9223372036854775808)) := by
  unfold C_itoa at h_; dsimp only at h_; split at h_
  · exact ⟨_, rfl, h_⟩
  · exact h_.elim
theorem itoa_mk {n : Int} (h_ : (-9223372036854775808 ≤ n ∧ n < 9223372036854775808)) : C_itoa.pre [.i n] := h_
theorem itoa_res {n : Int} {rs_ : List Leaf} (h_ : rs_ = C_itoa.fn [.i n]) : ∃ (q0 : Int), q0 = (itoaS n) ∧ rs_ = [.i q0] := ⟨_, rfl, h_⟩
theorem itoa_sound : C_itoa.Sound Tryd.prog G 46 := by
  refine ⟨⟨_, Tryd.func46, by kernel_rfl, by kernel_rfl⟩, ?_⟩
  intro ls S w hG hp _
  obtain ⟨n, rfl, h0, h1⟩ := itoa_pre hp
  have h := Tryd.strconv_Itoa n h0 (by omega) w hG
  refine Calls.mono (show Calls Tryd.prog 46 #[.int .i64 n] w _ from h) ?_
  rintro e w' ⟨rfl, k, os, rfl⟩
  refine ⟨below_grow w k os, _, rfl, fun _ => undef, ?_, fun p hp => by cases hp⟩
  show _ = Value.string (decS (itoaS n))
  unfold itoaS
  rw [decS_encS]
def C_text : Ctr := ⟨[.agg [.int .i64, .int .i64]], [.one (.str)],
  fun | [.i n, .i f] => (-9223372036854775808 ≤ n ∧ n < 9223372036854775808) ∧ (-9223372036854775808 ≤ f ∧ f < 9223372036854775808) | _ => False,
  fun | [.i n, .i f] => [.i (textS n f)] | _ => []⟩
theorem text_pre {ls : List Leaf} (h_ : C_text.pre ls) : ∃ (n : Int) (f : Int), ls = [.i n, .i f] ∧ ((-9223372036854775808 ≤ n ∧ n < 9223372036854775808) ∧ (-9223372036854775808 ≤ f ∧ f < 9223372036854775808)) := by
  unfold C_text at h_; dsimp only at h_; split at h_
  · exact ⟨_, _, rfl, h_⟩
  · exact h_.elim
theorem text_mk {n : Int} {f : Int} (h_ : (-9223372036854775808 ≤ n ∧ n < 9223372036854775808) ∧ (-9223372036854775808 ≤ f ∧ f < 9223372036854775808)) : C_text.pre [.i n, .i f] := h_
theorem text_res {n : Int} {f : Int} {rs_ : List Leaf} (h_ : rs_ = C_text.fn [.i n, .i f]) : ∃ (q0 : Int), q0 = (textS n f) ∧ rs_ = [.i q0] := ⟨_, rfl, h_⟩
def phi_text : Fm := (.call 45 [] [(.i (.v 0)), (.i (.i 10))] 2 (.ob [] (.le (.add (.slen (.v 2)) (.slen (.i 47))) (.i 9223372036854775807)) (.call 46 [] [(.i (.v 1))] 3 (.ob [] (.le (.add (.slen (.cat (.v 2) (.i 47))) (.slen (.v 3))) (.i 9223372036854775807)) (.ret [(.i (.cat (.cat (.v 2) (.i 47)) (.v 3)))])))))
def tbl_text : List (Nat × Ctr) := [(45, C_fmtint), (46, C_itoa)]
theorem vc_text : vcg Tryd.prog (sigT tbl_text) [] Tryd.f39 C_text.params C_text.res = some phi_text := by kernel_rfl
--SPLIT
theorem text_sound : C_text.Sound Tryd.prog G 39 := by
  refine fn_ok mixed stable tbl_text [] Tryd.func39 (by kernel_rfl) phi_text vc_text ⟨fmtint_sound, itoa_sound, trivial⟩ (fun _ _ _ => False) (fun _ _ _ => 0) ?_
  intro ls hp
  obtain ⟨n, f, rfl, hpre⟩ := text_pre hp
  clear hp
  rw [envOf_lk]
  unfold phi_text
  refine vg_call (C := C_fmtint) rfl rfl (xs := [.i n, .i (10 : Int)]) rfl (fun hg => ?_) (fun rs hrs => ?_)
  ·
    refine fmtint_mk ?_
    -- leaf 1 (pre)
    omega
  obtain ⟨r2, hr2, rfl⟩ := fmtint_res hrs
  clear hrs
  change Fm.holds _ _ (lk [.i n, .i f, .i r2])
  refine ⟨fun hg => ?_, ?_⟩
  ·
    show (decide (((slenS r2) + (slenS (47 : Int))) ≤ (9223372036854775807 : Int))) = true
    -- leaf 2 (ob)
    have l1 := itoaS_len hpre.1.1 hpre.1.2
    have l2 := itoaS_len hpre.2.1 hpre.2.2
    first
      | (simp only [*, slen_dot, decide_eq_true_eq]; omega)
      | (simp only [*, slen_itoa_dot, decide_eq_true_eq]; omega)
  refine vg_call (C := C_itoa) rfl rfl (xs := [.i f]) rfl (fun hg => ?_) (fun rs hrs => ?_)
  ·
    refine itoa_mk ?_
    -- leaf 3 (pre)
    omega
  obtain ⟨r3, hr3, rfl⟩ := itoa_res hrs
  clear hrs
  change Fm.holds _ _ (lk [.i n, .i f, .i r2, .i r3])
  refine ⟨fun hg => ?_, ?_⟩
  ·
    show (decide (((slenS (catS r2 (47 : Int))) + (slenS r3)) ≤ (9223372036854775807 : Int))) = true
    -- leaf 4 (ob)
    have l1 := itoaS_len hpre.1.1 hpre.1.2
    have l2 := itoaS_len hpre.2.1 hpre.2.2
    first
      | (simp only [*, slen_dot, decide_eq_true_eq]; omega)
      | (simp only [*, slen_itoa_dot, decide_eq_true_eq]; omega)
  suffices hfin : ((catS (catS r2 (47 : Int)) r3)) = (textS n f) from (c_i hfin rfl)
  -- leaf 5 (ret)
  subst_vars
  rfl
def C_rtext : Ctr := ⟨[.agg [.int .i64, .int .i64]], [.one (.str)],
  fun | [.i n, .i f] => (-9223372036854775808 ≤ n ∧ n < 9223372036854775808) ∧ (-9223372036854775808 ≤ f ∧ f < 9223372036854775808) | _ => False,
  fun | [.i n, .i f] => [.i (textS n f)] | _ => []⟩
theorem rtext_pre {ls : List Leaf} (h_ : C_rtext.pre ls) : ∃ (n : Int) (f : Int), ls = [.i n, .i f] ∧ ((-9223372036854775808 ≤ n ∧ n < 9223372036854775808) ∧ (-9223372036854775808 ≤ f ∧ f < 9223372036854775808)) := by
  unfold C_rtext at h_; dsimp only at h_; split at h_
  · exact ⟨_, _, rfl, h_⟩
  · exact h_.elim
theorem rtext_mk {n : Int} {f : Int} (h_ : (-9223372036854775808 ≤ n ∧ n < 9223372036854775808) ∧ (-9223372036854775808 ≤ f ∧ f < 9223372036854775808)) : C_rtext.pre [.i n, .i f] := h_
theorem rtext_res {n : Int} {f : Int} {rs_ : List Leaf} (h_ : rs_ = C_rtext.fn [.i n, .i f]) : ∃ (q0 : Int), q0 = (textS n f) ∧ rs_ = [.i q0] := ⟨_, rfl, h_⟩
def phi_rtext : Fm := (.call 45 [] [(.i (.v 0)), (.i (.i 10))] 2 (.ob [] (.le (.add (.slen (.v 2)) (.slen (.i 47))) (.i 9223372036854775807)) (.call 46 [] [(.i (.v 1))] 3 (.ob [] (.le (.add (.slen (.cat (.v 2) (.i 47))) (.slen (.v 3))) (.i 9223372036854775807)) (.ret [(.i (.cat (.cat (.v 2) (.i 47)) (.v 3)))])))))
def tbl_rtext : List (Nat × Ctr) := [(45, C_fmtint), (46, C_itoa)]
theorem vc_rtext : vcg Tryd.prog (sigT tbl_rtext) [] Tryd.f40 C_rtext.params C_rtext.res = some phi_rtext := by kernel_rfl
--SPLIT
theorem rtext_sound : C_rtext.Sound Tryd.prog G 40 := by
  refine fn_ok mixed stable tbl_rtext [] Tryd.func40 (by kernel_rfl) phi_rtext vc_rtext ⟨fmtint_sound, itoa_sound, trivial⟩ (fun _ _ _ => False) (fun _ _ _ => 0) ?_
  intro ls hp
  obtain ⟨n, f, rfl, hpre⟩ := rtext_pre hp
  clear hp
  rw [envOf_lk]
  unfold phi_rtext
  refine vg_call (C := C_fmtint) rfl rfl (xs := [.i n, .i (10 : Int)]) rfl (fun hg => ?_) (fun rs hrs => ?_)
  ·
    refine fmtint_mk ?_
    -- leaf 1 (pre)
    omega
  obtain ⟨r2, hr2, rfl⟩ := fmtint_res hrs
  clear hrs
  change Fm.holds _ _ (lk [.i n, .i f, .i r2])
  refine ⟨fun hg => ?_, ?_⟩
  ·
    show (decide (((slenS r2) + (slenS (47 : Int))) ≤ (9223372036854775807 : Int))) = true
    -- leaf 2 (ob)
    have l1 := itoaS_len hpre.1.1 hpre.1.2
    have l2 := itoaS_len hpre.2.1 hpre.2.2
    first
      | (simp only [*, slen_dot, decide_eq_true_eq]; omega)
      | (simp only [*, slen_itoa_dot, decide_eq_true_eq]; omega)
  refine vg_call (C := C_itoa) rfl rfl (xs := [.i f]) rfl (fun hg => ?_) (fun rs hrs => ?_)
  ·
    refine itoa_mk ?_
    -- leaf 3 (pre)
    omega
  obtain ⟨r3, hr3, rfl⟩ := itoa_res hrs
  clear hrs
  change Fm.holds _ _ (lk [.i n, .i f, .i r2, .i r3])
  refine ⟨fun hg => ?_, ?_⟩
  ·
    show (decide (((slenS (catS r2 (47 : Int))) + (slenS r3)) ≤ (9223372036854775807 : Int))) = true
    -- leaf 4 (ob)
    have l1 := itoaS_len hpre.1.1 hpre.1.2
    have l2 := itoaS_len hpre.2.1 hpre.2.2
    first
      | (simp only [*, slen_dot, decide_eq_true_eq]; omega)
      | (simp only [*, slen_itoa_dot, decide_eq_true_eq]; omega)
  suffices hfin : ((catS (catS r2 (47 : Int)) r3)) = (textS n f) from (c_i hfin rfl)
  -- leaf 5 (ret)
  subst_vars
  rfl
def C_less : Ctr := ⟨[.agg [.int .i64, .int .i64], .agg [.int .i64, .int .i64]], [.one (.bool)],
  fun | [.i _, .i _, .i _, .i _] => True | _ => False,
  fun | [.i ac, .i af, .i bc, .i bf] => [.b (lessE ac af bc bf)] | _ => []⟩
theorem less_pre {ls : List Leaf} (h_ : C_less.pre ls) : ∃ (ac : Int) (af : Int) (bc : Int) (bf : Int), ls = [.i ac, .i af, .i bc, .i bf] := by
  unfold C_less at h_; dsimp only at h_; split at h_
  · exact ⟨_, _, _, _, rfl⟩
  · exact h_.elim
theorem less_res {ac : Int} {af : Int} {bc : Int} {bf : Int} {rs_ : List Leaf} (h_ : rs_ = C_less.fn [.i ac, .i af, .i bc, .i bf]) : ∃ (q0 : Bool), q0 = (lessE ac af bc bf) ∧ rs_ = [.b q0] := ⟨_, rfl, h_⟩
def phi_less : Fm := (.ret [(.b (.ite (.lt (.v 0) (.v 2)) (.t .true) (.ite (.eq (.v 0) (.v 2)) (.lt (.v 1) (.v 3)) (.t .false))))])
def tbl_less : List (Nat × Ctr) := []
theorem vc_less : vcg Tryd.prog (sigT tbl_less) [] Tryd.f32 C_less.params C_less.res = some phi_less := by kernel_rfl
--SPLIT
theorem less_sound : C_less.Sound Tryd.prog G 32 := by
  refine fn_ok mixed stable tbl_less [] Tryd.func32 (by kernel_rfl) phi_less vc_less trivial (fun _ _ _ => False) (fun _ _ _ => 0) ?_
  intro ls hp
  obtain ⟨ac, af, bc, bf, rfl⟩ := less_pre hp
  clear hp
  rw [envOf_lk]
  unfold phi_less
  suffices hfin : ((if (decide (ac < bc)) = true then true else (if (ac == bc) = true then (decide (af < bf)) else false))) = (lessE ac af bc bf) from (c_b hfin rfl)
  -- leaf 1 (ret)
  subst_vars
  simp only [lessE]
  grind
def C_rless : Ctr := ⟨[.agg [.int .i64, .int .i64], .agg [.int .i64, .int .i64]], [.one (.bool)],
  fun | [.i _, .i _, .i _, .i _] => True | _ => False,
  fun | [.i ac, .i af, .i bc, .i bf] => [.b (lessE ac af bc bf)] | _ => []⟩
theorem rless_pre {ls : List Leaf} (h_ : C_rless.pre ls) : ∃ (ac : Int) (af : Int) (bc : Int) (bf : Int), ls = [.i ac, .i af, .i bc, .i bf] := by
  unfold C_rless at h_; dsimp only at h_; split at h_
  · exact ⟨_, _, _, _, rfl⟩
  · exact h_.elim
theorem rless_res {ac : Int} {af : Int} {bc : Int} {bf : Int} {rs_ : List Leaf} (h_ : rs_ = C_rless.fn [.i ac, .i af, .i bc, .i bf]) : ∃ (q0 : Bool), q0 = (lessE ac af bc bf) ∧ rs_ = [.b q0] := ⟨_, rfl, h_⟩
def phi_rless : Fm := (.ret [(.b (.ite (.lt (.v 0) (.v 2)) (.t .true) (.ite (.eq (.v 0) (.v 2)) (.lt (.v 1) (.v 3)) (.t .false))))])
def tbl_rless : List (Nat × Ctr) := []
theorem vc_rless : vcg Tryd.prog (sigT tbl_rless) [] Tryd.f38 C_rless.params C_rless.res = some phi_rless := by kernel_rfl
--SPLIT
theorem rless_sound : C_rless.Sound Tryd.prog G 38 := by
  refine fn_ok mixed stable tbl_rless [] Tryd.func38 (by kernel_rfl) phi_rless vc_rless trivial (fun _ _ _ => False) (fun _ _ _ => 0) ?_
  intro ls hp
  obtain ⟨ac, af, bc, bf, rfl⟩ := rless_pre hp
  clear hp
  rw [envOf_lk]
  unfold phi_rless
  suffices hfin : ((if (decide (ac < bc)) = true then true else (if (ac == bc) = true then (decide (af < bf)) else false))) = (lessE ac af bc bf) from (c_b hfin rfl)
  -- leaf 1 (ret)
  subst_vars
  simp only [lessE]
  grind
def C_sameEp : Ctr := ⟨[.agg [.int .i64, .int .i64], .agg [.int .i64, .int .i64]], [.one (.bool)],
  fun | [.i _, .i _, .i _, .i _] => True | _ => False,
  fun | [.i ac, .i af, .i bc, .i bf] => [.b (sameE ac af bc bf)] | _ => []⟩
theorem sameEp_pre {ls : List Leaf} (h_ : C_sameEp.pre ls) : ∃ (ac : Int) (af : Int) (bc : Int) (bf : Int), ls = [.i ac, .i af, .i bc, .i bf] := by
  unfold C_sameEp at h_; dsimp only at h_; split at h_
  · exact ⟨_, _, _, _, rfl⟩
  · exact h_.elim
theorem sameEp_res {ac : Int} {af : Int} {bc : Int} {bf : Int} {rs_ : List Leaf} (h_ : rs_ = C_sameEp.fn [.i ac, .i af, .i bc, .i bf]) : ∃ (q0 : Bool), q0 = (sameE ac af bc bf) ∧ rs_ = [.b q0] := ⟨_, rfl, h_⟩
def phi_sameEp : Fm := (.ret [(.b (.ite (.eq (.v 0) (.v 2)) (.eq (.v 1) (.v 3)) (.t .false)))])
def tbl_sameEp : List (Nat × Ctr) := []
theorem vc_sameEp : vcg Tryd.prog (sigT tbl_sameEp) [] Tryd.f31 C_sameEp.params C_sameEp.res = some phi_sameEp := by kernel_rfl
--SPLIT
theorem sameEp_sound : C_sameEp.Sound Tryd.prog G 31 := by
  refine fn_ok mixed stable tbl_sameEp [] Tryd.func31 (by kernel_rfl) phi_sameEp vc_sameEp trivial (fun _ _ _ => False) (fun _ _ _ => 0) ?_
  intro ls hp
  obtain ⟨ac, af, bc, bf, rfl⟩ := sameEp_pre hp
  clear hp
  rw [envOf_lk]
  unfold phi_sameEp
  suffices hfin : ((if (ac == bc) = true then (af == bf) else false)) = (sameE ac af bc bf) from (c_b hfin rfl)
  -- leaf 1 (ret)
  subst_vars
  simp only [sameE]
  grind
def C_none : Ctr := ⟨[.agg [.int .i64, .int .i64]], [.one (.bool)],
  fun | [.i _, .i _] => True | _ => False,
  fun | [.i c, .i _] => [.b (c == 0)] | _ => []⟩
theorem none_pre {ls : List Leaf} (h_ : C_none.pre ls) : ∃ (c : Int) (f : Int), ls = [.i c, .i f] := by
  unfold C_none at h_; dsimp only at h_; split at h_
  · exact ⟨_, _, rfl⟩
  · exact h_.elim
theorem none_res {c : Int} {f : Int} {rs_ : List Leaf} (h_ : rs_ = C_none.fn [.i c, .i f]) : ∃ (q0 : Bool), q0 = (c == 0) ∧ rs_ = [.b q0] := ⟨_, rfl, h_⟩
def phi_none : Fm := (.ret [(.b (.eq (.v 0) (.i 0)))])
def tbl_none : List (Nat × Ctr) := []
theorem vc_none : vcg Tryd.prog (sigT tbl_none) [] Tryd.f37 C_none.params C_none.res = some phi_none := by kernel_rfl
--SPLIT
theorem none_sound : C_none.Sound Tryd.prog G 37 := by
  refine fn_ok mixed stable tbl_none [] Tryd.func37 (by kernel_rfl) phi_none vc_none trivial (fun _ _ _ => False) (fun _ _ _ => 0) ?_
  intro ls hp
  obtain ⟨c, f, rfl⟩ := none_pre hp
  clear hp
  rw [envOf_lk]
  unfold phi_none
  suffices hfin : ((c == (0 : Int))) = (c == 0) from (c_b hfin rfl)
  -- leaf 1 (ret)
  subst_vars
  rfl
def C_validEp : Ctr := ⟨[.agg [.int .i64, .int .i64]], [.one (.bool)],
  fun | [.i _, .i _] => True | _ => False,
  fun | [.i c, .i f] => [.b (validE c f)] | _ => []⟩
theorem validEp_pre {ls : List Leaf} (h_ : C_validEp.pre ls) : ∃ (c : Int) (f : Int), ls = [.i c, .i f] := by
  unfold C_validEp at h_; dsimp only at h_; split at h_
  · exact ⟨_, _, rfl⟩
  · exact h_.elim
theorem validEp_res {c : Int} {f : Int} {rs_ : List Leaf} (h_ : rs_ = C_validEp.fn [.i c, .i f]) : ∃ (q0 : Bool), q0 = (validE c f) ∧ rs_ = [.b q0] := ⟨_, rfl, h_⟩
def phi_validEp : Fm := (.ret [(.b (.ite (.ite (.ite (.le (.i 1) (.v 0)) (.le (.v 0) (.i 4294967295)) (.t .false)) (.le (.i 0) (.v 1)) (.t .false)) (.lt (.v 1) (.i 16)) (.t .false)))])
def tbl_validEp : List (Nat × Ctr) := []
theorem vc_validEp : vcg Tryd.prog (sigT tbl_validEp) [] Tryd.f34 C_validEp.params C_validEp.res = some phi_validEp := by kernel_rfl
--SPLIT
theorem validEp_sound : C_validEp.Sound Tryd.prog G 34 := by
  refine fn_ok mixed stable tbl_validEp [] Tryd.func34 (by kernel_rfl) phi_validEp vc_validEp trivial (fun _ _ _ => False) (fun _ _ _ => 0) ?_
  intro ls hp
  obtain ⟨c, f, rfl⟩ := validEp_pre hp
  clear hp
  rw [envOf_lk]
  unfold phi_validEp
  suffices hfin : ((if (if (if (decide ((1 : Int) ≤ c)) = true then (decide (c ≤ (4294967295 : Int))) else false) = true then (decide ((0 : Int) ≤ f)) else false) = true then (decide (f < (16 : Int))) else false)) = (validE c f) from (c_b hfin rfl)
  -- leaf 1 (ret)
  subst_vars
  simp only [validE]
  grind
def C_rvalidEp : Ctr := ⟨[.agg [.int .i64, .int .i64]], [.one (.bool)],
  fun | [.i _, .i _] => True | _ => False,
  fun | [.i c, .i f] => [.b (validE c f)] | _ => []⟩
theorem rvalidEp_pre {ls : List Leaf} (h_ : C_rvalidEp.pre ls) : ∃ (c : Int) (f : Int), ls = [.i c, .i f] := by
  unfold C_rvalidEp at h_; dsimp only at h_; split at h_
  · exact ⟨_, _, rfl⟩
  · exact h_.elim
theorem rvalidEp_res {c : Int} {f : Int} {rs_ : List Leaf} (h_ : rs_ = C_rvalidEp.fn [.i c, .i f]) : ∃ (q0 : Bool), q0 = (validE c f) ∧ rs_ = [.b q0] := ⟨_, rfl, h_⟩
def phi_rvalidEp : Fm := (.ret [(.b (.ite (.ite (.ite (.le (.i 1) (.v 0)) (.le (.v 0) (.i 4294967295)) (.t .false)) (.le (.i 0) (.v 1)) (.t .false)) (.lt (.v 1) (.i 16)) (.t .false)))])
def tbl_rvalidEp : List (Nat × Ctr) := []
theorem vc_rvalidEp : vcg Tryd.prog (sigT tbl_rvalidEp) [] Tryd.f36 C_rvalidEp.params C_rvalidEp.res = some phi_rvalidEp := by kernel_rfl
--SPLIT
theorem rvalidEp_sound : C_rvalidEp.Sound Tryd.prog G 36 := by
  refine fn_ok mixed stable tbl_rvalidEp [] Tryd.func36 (by kernel_rfl) phi_rvalidEp vc_rvalidEp trivial (fun _ _ _ => False) (fun _ _ _ => 0) ?_
  intro ls hp
  obtain ⟨c, f, rfl⟩ := rvalidEp_pre hp
  clear hp
  rw [envOf_lk]
  unfold phi_rvalidEp
  suffices hfin : ((if (if (if (decide ((1 : Int) ≤ c)) = true then (decide (c ≤ (4294967295 : Int))) else false) = true then (decide ((0 : Int) ≤ f)) else false) = true then (decide (f < (16 : Int))) else false)) = (validE c f) from (c_b hfin rfl)
  -- leaf 1 (ret)
  subst_vars
  simp only [validE]
  grind
def C_next : Ctr := ⟨[.one (.int .i64), .one (.int .i64)], [.agg [.int .i64, .int .i64], .one (.bool)],
  fun | [.i _, .i _] => True | _ => False,
  fun | [.i sn, .i fo] => [.i (if nextIs sn fo = true then sn + 1 else 0), .i (if nextIs sn fo = true then fo else 0), .b (nextIs sn fo)] | _ => []⟩
theorem next_pre {ls : List Leaf} (h_ : C_next.pre ls) : ∃ (sn : Int) (fo : Int), ls = [.i sn, .i fo] := by
  unfold C_next at h_; dsimp only at h_; split at h_
  · exact ⟨_, _, rfl⟩
  · exact h_.elim
theorem next_res {sn : Int} {fo : Int} {rs_ : List Leaf} (h_ : rs_ = C_next.fn [.i sn, .i fo]) : ∃ (q0 : Int) (q1 : Int) (q2 : Bool), q0 = (if nextIs sn fo = true then sn + 1 else 0) ∧ q1 = (if nextIs sn fo = true then fo else 0) ∧ q2 = (nextIs sn fo) ∧ rs_ = [.i q0, .i q1, .b q2] := ⟨_, _, _, rfl, rfl, rfl, h_⟩
def phi_next : Fm := (.and (.imp (.ite (.lt (.v 0) (.i 0)) (.t .true) (.le (.i 4294967295) (.v 0))) .true (.ret [(.i (.i 0)), (.i (.i 0)), (.b (.t .false))])) (.imp (.ite (.lt (.v 0) (.i 0)) (.t .true) (.le (.i 4294967295) (.v 0))) .false (.call 34 [] [(.i (.wrap .i64 (.add (.v 0) (.i 1)))), (.i (.v 1))] 2 (.and (.imp (.v 2) .false (.ret [(.i (.i 0)), (.i (.i 0)), (.b (.t .false))])) (.imp (.v 2) .true (.ret [(.i (.wrap .i64 (.add (.v 0) (.i 1)))), (.i (.v 1)), (.b (.t .true))]))))))
def tbl_next : List (Nat × Ctr) := [(34, C_validEp)]
theorem vc_next : vcg Tryd.prog (sigT tbl_next) [] Tryd.f33 C_next.params C_next.res = some phi_next := by kernel_rfl
--SPLIT
theorem next_sound : C_next.Sound Tryd.prog G 33 := by
  refine fn_ok mixed stable tbl_next [] Tryd.func33 (by kernel_rfl) phi_next vc_next ⟨validEp_sound, trivial⟩ (fun _ _ _ => False) (fun _ _ _ => 0) ?_
  intro ls hp
  obtain ⟨sn, fo, rfl⟩ := next_pre hp
  clear hp
  rw [envOf_lk]
  unfold phi_next
  refine ⟨fun hcond => ?_, fun hcond => ?_⟩
  ·
    have c1 : (if (decide (sn < (0 : Int))) = true then true else (decide ((4294967295 : Int) ≤ sn))) = true := hcond
    clear hcond
    suffices hfin : ((0 : Int)) = (if nextIs sn fo = true then sn + 1 else 0) ∧ ((0 : Int)) = (if nextIs sn fo = true then fo else 0) ∧ (false) = (nextIs sn fo) from (c_i hfin.1 (c_i hfin.2.1 (c_b hfin.2.2 rfl)))
    -- leaf 1 (ret)
    simp only [nextIs]
    try simp only [validE] at *
    subst_vars
    try simp only [decide_eq_true_eq, decide_eq_false_iff_not] at *
    try simp only [w1] at *
    grind
  ·
    have c2 : (if (decide (sn < (0 : Int))) = true then true else (decide ((4294967295 : Int) ≤ sn))) = false := hcond
    clear hcond
    have hb : 0 ≤ sn ∧ sn < 4294967295 := by
      revert c2
      by_cases h1 : sn < 0
      · simp [h1]
      · by_cases h2 : (4294967295 : Int) ≤ sn
        · simp [h1, h2]
        · omega
    have w1 : IntKind.wrap .i64 (sn + 1) = sn + 1 := wrap_in (by omega) (by omega)
    try simp only [w1]
    refine vg_call (C := C_validEp) rfl rfl (xs := [.i (IntKind.wrap .i64 (sn + (1 : Int))), .i fo]) rfl (fun hg => ?_) (fun rs hrs => ?_)
    ·
      exact trivial
    obtain ⟨r2, hr2, rfl⟩ := validEp_res hrs
    clear hrs
    change Fm.holds _ _ (lk [.i sn, .i fo, .b r2])
    refine ⟨fun hcond => ?_, fun hcond => ?_⟩
    ·
      have c3 : r2 = false := hcond
      clear hcond
      suffices hfin : ((0 : Int)) = (if nextIs sn fo = true then sn + 1 else 0) ∧ ((0 : Int)) = (if nextIs sn fo = true then fo else 0) ∧ (false) = (nextIs sn fo) from (c_i hfin.1 (c_i hfin.2.1 (c_b hfin.2.2 rfl)))
      -- leaf 2 (ret)
      simp only [nextIs]
      try simp only [validE] at *
      subst_vars
      try simp only [decide_eq_true_eq, decide_eq_false_iff_not] at *
      try simp only [w1] at *
      grind
    ·
      have c4 : r2 = true := hcond
      clear hcond
      suffices hfin : ((IntKind.wrap .i64 (sn + (1 : Int)))) = (if nextIs sn fo = true then sn + 1 else 0) ∧ (fo) = (if nextIs sn fo = true then fo else 0) ∧ (true) = (nextIs sn fo) from (c_i hfin.1 (c_i hfin.2.1 (c_b hfin.2.2 rfl)))
      -- leaf 3 (ret)
      simp only [nextIs]
      try simp only [validE] at *
      subst_vars
      try simp only [decide_eq_true_eq, decide_eq_false_iff_not] at *
      try simp only [w1] at *
      grind
def C_rnext : Ctr := ⟨[.one (.int .i64), .one (.int .i64)], [.agg [.int .i64, .int .i64], .one (.bool)],
  fun | [.i _, .i _] => True | _ => False,
  fun | [.i sn, .i fo] => [.i (if nextIs sn fo = true then sn + 1 else 0), .i (if nextIs sn fo = true then fo else 0), .b (nextIs sn fo)] | _ => []⟩
theorem rnext_pre {ls : List Leaf} (h_ : C_rnext.pre ls) : ∃ (sn : Int) (fo : Int), ls = [.i sn, .i fo] := by
  unfold C_rnext at h_; dsimp only at h_; split at h_
  · exact ⟨_, _, rfl⟩
  · exact h_.elim
theorem rnext_res {sn : Int} {fo : Int} {rs_ : List Leaf} (h_ : rs_ = C_rnext.fn [.i sn, .i fo]) : ∃ (q0 : Int) (q1 : Int) (q2 : Bool), q0 = (if nextIs sn fo = true then sn + 1 else 0) ∧ q1 = (if nextIs sn fo = true then fo else 0) ∧ q2 = (nextIs sn fo) ∧ rs_ = [.i q0, .i q1, .b q2] := ⟨_, _, _, rfl, rfl, rfl, h_⟩
def phi_rnext : Fm := (.and (.imp (.ite (.lt (.v 0) (.i 0)) (.t .true) (.le (.i 4294967295) (.v 0))) .true (.ret [(.i (.i 0)), (.i (.i 0)), (.b (.t .false))])) (.imp (.ite (.lt (.v 0) (.i 0)) (.t .true) (.le (.i 4294967295) (.v 0))) .false (.call 36 [] [(.i (.wrap .i64 (.add (.v 0) (.i 1)))), (.i (.v 1))] 2 (.and (.imp (.v 2) .false (.ret [(.i (.i 0)), (.i (.i 0)), (.b (.t .false))])) (.imp (.v 2) .true (.ret [(.i (.wrap .i64 (.add (.v 0) (.i 1)))), (.i (.v 1)), (.b (.t .true))]))))))
def tbl_rnext : List (Nat × Ctr) := [(36, C_rvalidEp)]
theorem vc_rnext : vcg Tryd.prog (sigT tbl_rnext) [] Tryd.f35 C_rnext.params C_rnext.res = some phi_rnext := by kernel_rfl
--SPLIT
theorem rnext_sound : C_rnext.Sound Tryd.prog G 35 := by
  refine fn_ok mixed stable tbl_rnext [] Tryd.func35 (by kernel_rfl) phi_rnext vc_rnext ⟨rvalidEp_sound, trivial⟩ (fun _ _ _ => False) (fun _ _ _ => 0) ?_
  intro ls hp
  obtain ⟨sn, fo, rfl⟩ := rnext_pre hp
  clear hp
  rw [envOf_lk]
  unfold phi_rnext
  refine ⟨fun hcond => ?_, fun hcond => ?_⟩
  ·
    have c1 : (if (decide (sn < (0 : Int))) = true then true else (decide ((4294967295 : Int) ≤ sn))) = true := hcond
    clear hcond
    suffices hfin : ((0 : Int)) = (if nextIs sn fo = true then sn + 1 else 0) ∧ ((0 : Int)) = (if nextIs sn fo = true then fo else 0) ∧ (false) = (nextIs sn fo) from (c_i hfin.1 (c_i hfin.2.1 (c_b hfin.2.2 rfl)))
    -- leaf 1 (ret)
    simp only [nextIs]
    try simp only [validE] at *
    subst_vars
    try simp only [decide_eq_true_eq, decide_eq_false_iff_not] at *
    try simp only [w1] at *
    grind
  ·
    have c2 : (if (decide (sn < (0 : Int))) = true then true else (decide ((4294967295 : Int) ≤ sn))) = false := hcond
    clear hcond
    have hb : 0 ≤ sn ∧ sn < 4294967295 := by
      revert c2
      by_cases h1 : sn < 0
      · simp [h1]
      · by_cases h2 : (4294967295 : Int) ≤ sn
        · simp [h1, h2]
        · omega
    have w1 : IntKind.wrap .i64 (sn + 1) = sn + 1 := wrap_in (by omega) (by omega)
    try simp only [w1]
    refine vg_call (C := C_rvalidEp) rfl rfl (xs := [.i (IntKind.wrap .i64 (sn + (1 : Int))), .i fo]) rfl (fun hg => ?_) (fun rs hrs => ?_)
    ·
      exact trivial
    obtain ⟨r2, hr2, rfl⟩ := rvalidEp_res hrs
    clear hrs
    change Fm.holds _ _ (lk [.i sn, .i fo, .b r2])
    refine ⟨fun hcond => ?_, fun hcond => ?_⟩
    ·
      have c3 : r2 = false := hcond
      clear hcond
      suffices hfin : ((0 : Int)) = (if nextIs sn fo = true then sn + 1 else 0) ∧ ((0 : Int)) = (if nextIs sn fo = true then fo else 0) ∧ (false) = (nextIs sn fo) from (c_i hfin.1 (c_i hfin.2.1 (c_b hfin.2.2 rfl)))
      -- leaf 2 (ret)
      simp only [nextIs]
      try simp only [validE] at *
      subst_vars
      try simp only [decide_eq_true_eq, decide_eq_false_iff_not] at *
      try simp only [w1] at *
      grind
    ·
      have c4 : r2 = true := hcond
      clear hcond
      suffices hfin : ((IntKind.wrap .i64 (sn + (1 : Int)))) = (if nextIs sn fo = true then sn + 1 else 0) ∧ (fo) = (if nextIs sn fo = true then fo else 0) ∧ (true) = (nextIs sn fo) from (c_i hfin.1 (c_i hfin.2.1 (c_b hfin.2.2 rfl)))
      -- leaf 3 (ret)
      simp only [nextIs]
      try simp only [validE] at *
      subst_vars
      try simp only [decide_eq_true_eq, decide_eq_false_iff_not] at *
      try simp only [w1] at *
      grind
def C_number : Ctr := ⟨[.one (.int .i64), .one (.int .i64)], [.one (.int .i64)],
  fun | [.i n, .i b] => 0 < b ∧ b ≤ 4611686018427387904 | _ => False,
  fun | [.i n, .i b] => [.i (number n b)] | _ => []⟩
theorem number_pre {ls : List Leaf} (h_ : C_number.pre ls) : ∃ (n : Int) (b : Int), ls = [.i n, .i b] ∧ (0 < b ∧ b ≤ 4611686018427387904) := by
  unfold C_number at h_; dsimp only at h_; split at h_
  · exact ⟨_, _, rfl, h_⟩
  · exact h_.elim
theorem number_mk {n : Int} {b : Int} (h_ : 0 < b ∧ b ≤ 4611686018427387904) : C_number.pre [.i n, .i b] := h_
theorem number_res {n : Int} {b : Int} {rs_ : List Leaf} (h_ : rs_ = C_number.fn [.i n, .i b]) : ∃ (q0 : Int), q0 = (number n b) ∧ rs_ = [.i q0] := ⟨_, rfl, h_⟩
def phi_number : Fm := (.ob [] (.not (.eq (.v 1) (.i 0))) (.and (.imp (.lt (.rem (.v 0) (.v 1)) (.i 0)) .true (.ret [(.i (.wrap .i64 (.add (.rem (.v 0) (.v 1)) (.v 1))))])) (.imp (.lt (.rem (.v 0) (.v 1)) (.i 0)) .false (.ret [(.i (.rem (.v 0) (.v 1)))]))))
def tbl_number : List (Nat × Ctr) := []
theorem vc_number : vcg Tryd.prog (sigT tbl_number) [] Tryd.f11 C_number.params C_number.res = some phi_number := by kernel_rfl
--SPLIT
theorem number_sound : C_number.Sound Tryd.prog G 11 := by
  refine fn_ok mixed stable tbl_number [] Tryd.func11 (by kernel_rfl) phi_number vc_number trivial (fun _ _ _ => False) (fun _ _ _ => 0) ?_
  intro ls hp
  obtain ⟨n, b, rfl, hpre⟩ := number_pre hp
  clear hp
  rw [envOf_lk]
  unfold phi_number
  refine ⟨fun hg => ?_, ?_⟩
  ·
    show (!(b == (0 : Int))) = true
    -- leaf 1 (ob)
    simp; omega
  refine ⟨fun hcond => ?_, fun hcond => ?_⟩
  ·
    have c1 : (decide ((Int.tmod n b) < (0 : Int))) = true := hcond
    clear hcond
    suffices hfin : ((IntKind.wrap .i64 ((Int.tmod n b) + b))) = (number n b) from (c_i hfin rfl)
    -- leaf 2 (ret)
    simp only [number]
    have h1 := Int.emod_nonneg n (show b ≠ 0 by omega)
    have h2 := Int.emod_lt_of_pos n (show 0 < b by omega)
    rcases number_cases n b hpre.1 with ⟨h3, _⟩ | ⟨h3, _⟩ <;> rw [h3] at c1 ⊢ <;> simp at c1 <;> (try simp (disch := omega) only [wrap_in]) <;> omega
  ·
    have c2 : (decide ((Int.tmod n b) < (0 : Int))) = false := hcond
    clear hcond
    suffices hfin : ((Int.tmod n b)) = (number n b) from (c_i hfin rfl)
    -- leaf 3 (ret)
    simp only [number]
    have h1 := Int.emod_nonneg n (show b ≠ 0 by omega)
    have h2 := Int.emod_lt_of_pos n (show 0 < b by omega)
    rcases number_cases n b hpre.1 with ⟨h3, _⟩ | ⟨h3, _⟩ <;> rw [h3] at c2 ⊢ <;> simp at c2 <;> (try simp (disch := omega) only [wrap_in]) <;> omega
def C_first4 : Ctr := ⟨[], [.one (.bool)],
  fun | [] => True | _ => False,
  fun | [] => [.b (true)] | _ => []⟩
theorem first4_pre {ls : List Leaf} (h_ : C_first4.pre ls) : ls = [] := by
  unfold C_first4 at h_; dsimp only at h_; split at h_
  · rfl
  · exact h_.elim
theorem first4_res  {rs_ : List Leaf} (h_ : rs_ = C_first4.fn []) : ∃ (q0 : Bool), q0 = (true) ∧ rs_ = [.b q0] := ⟨_, rfl, h_⟩
def phi_first4 : Fm := (.call 33 [] [(.i (.i 0)), (.i (.i 3))] 0 (.call 39 [((.v 2), .true)] [(.i (.v 0)), (.i (.v 1))] 3 (.ret [(.b (.ite (.v 2) (.eq (.ite (.lt (.v 3) (.i 0)) (.i 0) (.v 3)) (.i 3419954)) (.t .false)))])))
def tbl_first4 : List (Nat × Ctr) := [(33, C_next), (39, C_text)]
theorem vc_first4 : vcg Tryd.prog (sigT tbl_first4) [] Tryd.f30 C_first4.params C_first4.res = some phi_first4 := by kernel_rfl
--SPLIT
theorem first4_sound : C_first4.Sound Tryd.prog G 30 := by
  refine fn_ok mixed stable tbl_first4 [] Tryd.func30 (by kernel_rfl) phi_first4 vc_first4 ⟨next_sound, text_sound, trivial⟩ (fun _ _ _ => False) (fun _ _ _ => 0) ?_
  intro ls hp
  obtain rfl := first4_pre hp
  clear hp
  rw [envOf_lk]
  unfold phi_first4
  refine vg_call (C := C_next) rfl rfl (xs := [.i (0 : Int), .i (3 : Int)]) rfl (fun hg => ?_) (fun rs hrs => ?_)
  ·
    exact trivial
  obtain ⟨r0, r1, r2, hr0, hr1, hr2, rfl⟩ := next_res hrs
  clear hrs
  change Fm.holds _ _ (lk [.i r0, .i r1, .b r2])
  refine vg_call (C := C_text) rfl rfl (xs := [.i r0, .i r1]) rfl (fun hg => ?_) (fun rs hrs => ?_)
  ·
    simp only [gd_cons, gd_nil, and_true] at hg
    replace hg : r2 = true := hg
    refine text_mk ?_
    -- leaf 1 (pre)
    subst_vars
    decide +kernel
  obtain ⟨r3, hr3, rfl⟩ := text_res hrs
  clear hrs
  change Fm.holds _ _ (lk [.i r0, .i r1, .b r2, .i r3])
  suffices hfin : ((if r2 = true then ((if (decide (r3 < (0 : Int))) = true then (0 : Int) else r3) == (3419954 : Int)) else false)) = (true) from (c_b hfin rfl)
  -- leaf 2 (ret)
  subst_vars
  decide +kernel
end Go.Proofs.YtccdhkmohimfhaaDoor
