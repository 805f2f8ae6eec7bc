import Derived.Test.YtccdhkmohimfhaaDoorF2
namespace Go.Proofs.YtccdhkmohimfhaaDoor
open Go.Vg
set_option linter.unusedVariables false
set_option linter.unusedSimpArgs false
open Go

def sideI (d : Int) : Int := if d == 1 then 1 else 0
def gen6 (x : LV) (f d : Int) : Int := x.gi (Int.toNat (1 + f * 2 + sideI d)) 0
def is6 (x : LV) (f d : Int) : Bool := x.gb (Int.toNat (129 + f * 2 + sideI d)) 0
def lights6 (x : LV) (f d g : Int) : Bool := (mayP (x.gi 0 0) f d && is6 x f d) && gen6 x f d == g
def pressIs6 (x : LV) (f d : Int) : Bool := mayP (x.gi 0 0) f d && !is6 x f d
def press6 (x : LV) (f d : Int) : LV := if pressIs6 x f d = true then (x.updb (129 + f * 2 + sideI d) true).upd (1 + f * 2 + sideI d) (IntKind.wrap .i64 (gen6 x f d + 1)) else x
def clear6 (x : LV) (f d g : Int) : LV := if lights6 x f d g = true then x.updb (129 + f * 2 + sideI d) false else x
def genOr6 (x : LV) (f d : Int) : Int := if mayP (x.gi 0 0) f d = true then gen6 x f d else 0
def lit6At (r : LV) (f d : Int) (x : LV) : LV := if is6 r f d = true then snoc x [f, d, gen6 r f d] else x
def lit6To (r : LV) : Nat → LV
  | 0 => nilLV
  | k + 1 => lit6At r k 1 (lit6At r k (-1) (lit6To r k))
def lit6In (r : LV) (f : Int) : Nat → LV
  | 0 => lit6To r f.toNat
  | 1 => lit6At r f (-1) (lit6To r f.toNat)
  | _ => lit6At r f 1 (lit6At r f (-1) (lit6To r f.toNat))
theorem lit6At_len (r : LV) (f d : Int) (x : LV) : x.len ≤ (lit6At r f d x).len ∧ (lit6At r f d x).len ≤ x.len + 1 := by
  unfold lit6At
  split
  · show x.len ≤ x.len + 1 ∧ x.len + 1 ≤ x.len + 1
    omega
  · omega
theorem lit6To_len (r : LV) : ∀ k, (lit6To r k).len ≤ 2 * k
  | 0 => Nat.le_refl _
  | k + 1 => by
    have h0 := lit6To_len r k
    have h1 := lit6At_len r k (-1) (lit6To r k)
    have h2 := lit6At_len r k 1 (lit6At r k (-1) (lit6To r k))
    show (lit6At r k 1 (lit6At r k (-1) (lit6To r k))).len ≤ _
    omega
theorem lit6In_len (r : LV) (f : Int) (j : Nat) : (lit6In r f j).len ≤ 2 * f.toNat + 2 := by
  have h0 := lit6To_len r f.toNat
  have h1 := lit6At_len r f (-1) (lit6To r f.toNat)
  have h2 := lit6At_len r f 1 (lit6At r f (-1) (lit6To r f.toNat))
  match j with
  | 0 => show (lit6To r f.toNat).len ≤ _; omega
  | 1 => show (lit6At r f (-1) (lit6To r f.toNat)).len ≤ _; omega
  | _ + 2 => show (lit6At r f 1 (lit6At r f (-1) (lit6To r f.toNat))).len ≤ _; omega
theorem lit6At_yes {r : LV} {f d : Int} {x : LV} (h : is6 r f d = true) : lit6At r f d x = snoc x [f, d, gen6 r f d] := if_pos h
theorem lit6At_no {r : LV} {f d : Int} {x : LV} (h : ¬ is6 r f d = true) : lit6At r f d x = x := if_neg h
theorem sideI_rng (d : Int) : 0 ≤ sideI d ∧ sideI d < 2 := by unfold sideI; split <;> omega
theorem mayP_rng {fs f d : Int} (h : mayP fs f d = true) : 0 ≤ f ∧ f < fs := by
  simp [mayP] at h
  omega

def C_side6 : Ctr := ⟨[.one (.int .i64)], [.one (.int .i64)],
  fun | [.i _] => True | _ => False,
  fun | [.i d] => [.i (sideI d)] | _ => []⟩
theorem side6_pre {ls : List Leaf} (h_ : C_side6.pre ls) : ∃ (d : Int), ls = [.i d] := by
  unfold C_side6 at h_; dsimp only at h_; split at h_
  · exact ⟨_, rfl⟩
  · exact h_.elim
theorem side6_res {d : Int} {rs_ : List Leaf} (h_ : rs_ = C_side6.fn [.i d]) : ∃ (q0 : Int), q0 = (sideI d) ∧ rs_ = [.i q0] := ⟨_, rfl, h_⟩
def phi_side6 : Fm := (.and (.imp (.eq (.v 0) (.i 1)) .true (.ret [(.i (.i 1))])) (.imp (.eq (.v 0) (.i 1)) .false (.ret [(.i (.i 0))])))
def tbl_side6 : List (Nat × Ctr) := []
theorem vc_side6 : vcg Tryd.prog (sigT tbl_side6) [] Tryd.f44 C_side6.params C_side6.res = some phi_side6 := by kernel_rfl
--SPLIT
theorem side6_sound : C_side6.Sound Tryd.prog G 44 := by
  refine fn_ok mixed stable tbl_side6 [] Tryd.func44 (by kernel_rfl) phi_side6 vc_side6 trivial (fun _ _ _ => False) (fun _ _ _ => 0) ?_
  intro ls hp
  obtain ⟨d, rfl⟩ := side6_pre hp
  clear hp
  rw [envOf_lk]
  unfold phi_side6
  refine ⟨fun hcond => ?_, fun hcond => ?_⟩
  ·
    have c1 : (d == (1 : Int)) = true := hcond
    clear hcond
    suffices hfin : ((1 : Int)) = (sideI d) from (c_i hfin rfl)
    -- leaf 1 (ret)
    unfold sideI
    grind
  ·
    have c2 : (d == (1 : Int)) = false := hcond
    clear hcond
    suffices hfin : ((0 : Int)) = (sideI d) from (c_i hfin rfl)
    -- leaf 2 (ret)
    unfold sideI
    grind
def C_may6 : Ctr := ⟨[.one (.int .i64), .agg [.int .i64, .int .i64]], [.one (.bool)],
  fun | [.i fs, .i fl, .i dr] => -9223372036854775808 < fs ∧ fs < 9223372036854775808 | _ => False,
  fun | [.i fs, .i fl, .i dr] => [.b (mayP fs fl dr)] | _ => []⟩
theorem may6_pre {ls : List Leaf} (h_ : C_may6.pre ls) : ∃ (fs : Int) (fl : Int) (dr : Int), ls = [.i fs, .i fl, .i dr] ∧ (-9223372036854775808 < fs ∧ fs < 9223372036854775808) := by
  unfold C_may6 at h_; dsimp only at h_; split at h_
  · exact ⟨_, _, _, rfl, h_⟩
  · exact h_.elim
theorem may6_mk {fs : Int} {fl : Int} {dr : Int} (h_ : -9223372036854775808 < fs ∧ fs < 9223372036854775808) : C_may6.pre [.i fs, .i fl, .i dr] := h_
theorem may6_res {fs : Int} {fl : Int} {dr : Int} {rs_ : List Leaf} (h_ : rs_ = C_may6.fn [.i fs, .i fl, .i dr]) : ∃ (q0 : Bool), q0 = (mayP fs fl dr) ∧ rs_ = [.b q0] := ⟨_, rfl, h_⟩
def phi_may6 : Fm := (.ret [(.b (.ite (.ite (.le (.i 0) (.v 1)) (.lt (.v 1) (.v 0)) (.t .false)) (.ite (.ite (.eq (.v 2) (.i 1)) (.lt (.v 1) (.wrap .i64 (.sub (.v 0) (.i 1)))) (.t .false)) (.t .true) (.ite (.eq (.v 2) (.i (Int.negSucc 0))) (.lt (.i 0) (.v 1)) (.t .false))) (.t .false)))])
def tbl_may6 : List (Nat × Ctr) := []
theorem vc_may6 : vcg Tryd.prog (sigT tbl_may6) [] Tryd.f29 C_may6.params C_may6.res = some phi_may6 := by kernel_rfl
--SPLIT
theorem may6_sound : C_may6.Sound Tryd.prog G 29 := by
  refine fn_ok mixed stable tbl_may6 [] Tryd.func29 (by kernel_rfl) phi_may6 vc_may6 trivial (fun _ _ _ => False) (fun _ _ _ => 0) ?_
  intro ls hp
  obtain ⟨fs, fl, dr, rfl, hpre⟩ := may6_pre hp
  clear hp
  rw [envOf_lk]
  unfold phi_may6
  suffices hfin : ((if (if (decide ((0 : Int) ≤ fl)) = true then (decide (fl < fs)) else false) = true then (if (if (dr == (1 : Int)) = true then (decide (fl < (IntKind.wrap .i64 (fs - (1 : Int))))) else false) = true then true else (if (dr == (-1)) = true then (decide ((0 : Int) < fl)) else false)) else false)) = (mayP fs fl dr) from (c_b hfin rfl)
  -- leaf 1 (ret)
  simp only [mayP]
  try simp (disch := omega) only [wrap_in] at *
  grind
def C_lights6 : Ctr := ⟨[.one (.obj 2), .agg [.int .i64, .int .i64, .int .i64]], [.one (.bool)],
  fun | [.l x, .i f, .i d, .i g] => (2 ≤ x.gi 0 0 ∧ x.gi 0 0 ≤ 64) | _ => False,
  fun | [.l x, .i f, .i d, .i g] => [.b (lights6 x f d g)] | _ => []⟩
theorem lights6_pre {ls : List Leaf} (h_ : C_lights6.pre ls) : ∃ (x : LV) (f : Int) (d : Int) (g : Int), ls = [.l x, .i f, .i d, .i g] ∧ ((2 ≤ x.gi 0 0 ∧ x.gi 0 0 ≤ 64)) := by
  unfold C_lights6 at h_; dsimp only at h_; split at h_
  · exact ⟨_, _, _, _, rfl, h_⟩
  · exact h_.elim
theorem lights6_mk {x : LV} {f : Int} {d : Int} {g : Int} (h_ : (2 ≤ x.gi 0 0 ∧ x.gi 0 0 ≤ 64)) : C_lights6.pre [.l x, .i f, .i d, .i g] := h_
theorem lights6_res {x : LV} {f : Int} {d : Int} {g : Int} {rs_ : List Leaf} (h_ : rs_ = C_lights6.fn [.l x, .i f, .i d, .i g]) : ∃ (q0 : Bool), q0 = (lights6 x f d g) ∧ rs_ = [.b q0] := ⟨_, rfl, h_⟩
def phi_lights6 : Fm := (.call 29 [] [(.i (.gi 0 0 (.i 0))), (.i (.v 1)), (.i (.v 2))] 4 (.call 44 [((.v 4), .true)] [(.i (.v 2))] 5 (.ob [((.v 4), .true)] (.le (.i 0) (.v 1)) (.ob [((.v 4), .true)] (.lt (.v 1) (.i 64)) (.ob [((.v 4), .true)] (.le (.i 0) (.add (.i 129) (.mul (.v 1) (.i 2)))) (.ob [((.v 4), .true)] (.le (.i 0) (.v 5)) (.ob [((.v 4), .true)] (.lt (.v 5) (.i 2)) (.ob [((.v 4), .true)] (.le (.i 129) (.add (.add (.i 129) (.mul (.v 1) (.i 2))) (.v 5))) (.ob [((.v 4), .true)] (.lt (.add (.add (.i 129) (.mul (.v 1) (.i 2))) (.v 5)) (.i 257)) (.call 44 [((.ite (.v 4) (.gb 0 0 (.add (.add (.i 129) (.mul (.v 1) (.i 2))) (.v 5))) (.t .false)), .true)] [(.i (.v 2))] 6 (.ob [((.ite (.v 4) (.gb 0 0 (.add (.add (.i 129) (.mul (.v 1) (.i 2))) (.v 5))) (.t .false)), .true)] (.le (.i 0) (.v 1)) (.ob [((.ite (.v 4) (.gb 0 0 (.add (.add (.i 129) (.mul (.v 1) (.i 2))) (.v 5))) (.t .false)), .true)] (.lt (.v 1) (.i 64)) (.ob [((.ite (.v 4) (.gb 0 0 (.add (.add (.i 129) (.mul (.v 1) (.i 2))) (.v 5))) (.t .false)), .true)] (.le (.i 0) (.add (.i 1) (.mul (.v 1) (.i 2)))) (.ob [((.ite (.v 4) (.gb 0 0 (.add (.add (.i 129) (.mul (.v 1) (.i 2))) (.v 5))) (.t .false)), .true)] (.le (.i 0) (.v 6)) (.ob [((.ite (.v 4) (.gb 0 0 (.add (.add (.i 129) (.mul (.v 1) (.i 2))) (.v 5))) (.t .false)), .true)] (.lt (.v 6) (.i 2)) (.ob [((.ite (.v 4) (.gb 0 0 (.add (.add (.i 129) (.mul (.v 1) (.i 2))) (.v 5))) (.t .false)), .true)] (.le (.i 0) (.add (.add (.i 1) (.mul (.v 1) (.i 2))) (.v 6))) (.ob [((.ite (.v 4) (.gb 0 0 (.add (.add (.i 129) (.mul (.v 1) (.i 2))) (.v 5))) (.t .false)), .true)] (.lt (.add (.add (.i 1) (.mul (.v 1) (.i 2))) (.v 6)) (.i 129)) (.ret [(.b (.ite (.ite (.v 4) (.gb 0 0 (.add (.add (.i 129) (.mul (.v 1) (.i 2))) (.v 5))) (.t .false)) (.eq (.gi 0 0 (.add (.add (.i 1) (.mul (.v 1) (.i 2))) (.v 6))) (.v 3)) (.t .false)))]))))))))))))))))))
def tbl_lights6 : List (Nat × Ctr) := [(29, C_may6), (44, C_side6)]
theorem vc_lights6 : vcgO Tryd.prog (sigT tbl_lights6) [] Tryd.f27 C_lights6.params C_lights6.res = some phi_lights6 := by kernel_rfl
--SPLIT
theorem lights6_sound : C_lights6.Sound Tryd.prog G 27 := by
  refine fn_okO mixed stable tbl_lights6 [] Tryd.func27 (by kernel_rfl) phi_lights6 vc_lights6 ⟨may6_sound, side6_sound, trivial⟩ (fun _ _ _ => False) (fun _ _ _ => 0) ?_
  intro ls hp
  obtain ⟨x, f, d, g, rfl, hpre⟩ := lights6_pre hp
  clear hp
  rw [envOf_lk]
  unfold phi_lights6
  refine vg_call (C := C_may6) rfl rfl (xs := [.i (x.gi (Int.toNat (0 : Int)) 0), .i f, .i d]) rfl (fun hg => ?_) (fun rs hrs => ?_)
  ·
    refine may6_mk ?_
    -- leaf 1 (pre)
    subst_vars
    try simp only [decide_eq_true_eq, decide_eq_false_iff_not] at *
    try simp (disch := omega) only [wrap_in]
    grind
  obtain ⟨r4, hr4, rfl⟩ := may6_res hrs
  clear hrs
  change Fm.holds _ _ (lk [.l x, .i f, .i d, .i g, .b r4])
  refine vg_call (C := C_side6) rfl rfl (xs := [.i d]) rfl (fun hg => ?_) (fun rs hrs => ?_)
  ·
    exact trivial
  obtain ⟨r5, hr5, rfl⟩ := side6_res hrs
  clear hrs
  change Fm.holds _ _ (lk [.l x, .i f, .i d, .i g, .b r4, .i r5])
  refine ⟨fun hg => ?_, ?_⟩
  ·
    simp only [gd_cons, gd_nil, and_true] at hg
    replace hg : r4 = true := hg
    show (decide ((0 : Int) ≤ f)) = true
    -- leaf 2 (ob)
    have hm : mayP (x.gi 0 0) f d = true := by
      cases e : r4 with
      | true => exact hr4.symm.trans e
      | false => rw [e] at hg; simp at hg
    have hr := mayP_rng hm
    have hs := sideI_rng d
    exact decide_eq_true (by omega)
  refine ⟨fun hg => ?_, ?_⟩
  ·
    simp only [gd_cons, gd_nil, and_true] at hg
    replace hg : r4 = true := hg
    show (decide (f < (64 : Int))) = true
    -- leaf 3 (ob)
    have hm : mayP (x.gi 0 0) f d = true := by
      cases e : r4 with
      | true => exact hr4.symm.trans e
      | false => rw [e] at hg; simp at hg
    have hr := mayP_rng hm
    have hs := sideI_rng d
    exact decide_eq_true (by omega)
  refine ⟨fun hg => ?_, ?_⟩
  ·
    simp only [gd_cons, gd_nil, and_true] at hg
    replace hg : r4 = true := hg
    show (decide ((0 : Int) ≤ ((129 : Int) + (f * (2 : Int))))) = true
    -- leaf 4 (ob)
    have hm : mayP (x.gi 0 0) f d = true := by
      cases e : r4 with
      | true => exact hr4.symm.trans e
      | false => rw [e] at hg; simp at hg
    have hr := mayP_rng hm
    have hs := sideI_rng d
    exact decide_eq_true (by omega)
  refine ⟨fun hg => ?_, ?_⟩
  ·
    simp only [gd_cons, gd_nil, and_true] at hg
    replace hg : r4 = true := hg
    show (decide ((0 : Int) ≤ r5)) = true
    -- leaf 5 (ob)
    have hm : mayP (x.gi 0 0) f d = true := by
      cases e : r4 with
      | true => exact hr4.symm.trans e
      | false => rw [e] at hg; simp at hg
    have hr := mayP_rng hm
    have hs := sideI_rng d
    exact decide_eq_true (by omega)
  refine ⟨fun hg => ?_, ?_⟩
  ·
    simp only [gd_cons, gd_nil, and_true] at hg
    replace hg : r4 = true := hg
    show (decide (r5 < (2 : Int))) = true
    -- leaf 6 (ob)
    have hm : mayP (x.gi 0 0) f d = true := by
      cases e : r4 with
      | true => exact hr4.symm.trans e
      | false => rw [e] at hg; simp at hg
    have hr := mayP_rng hm
    have hs := sideI_rng d
    exact decide_eq_true (by omega)
  refine ⟨fun hg => ?_, ?_⟩
  ·
    simp only [gd_cons, gd_nil, and_true] at hg
    replace hg : r4 = true := hg
    show (decide ((129 : Int) ≤ (((129 : Int) + (f * (2 : Int))) + r5))) = true
    -- leaf 7 (ob)
    have hm : mayP (x.gi 0 0) f d = true := by
      cases e : r4 with
      | true => exact hr4.symm.trans e
      | false => rw [e] at hg; simp at hg
    have hr := mayP_rng hm
    have hs := sideI_rng d
    exact decide_eq_true (by omega)
  refine ⟨fun hg => ?_, ?_⟩
  ·
    simp only [gd_cons, gd_nil, and_true] at hg
    replace hg : r4 = true := hg
    show (decide ((((129 : Int) + (f * (2 : Int))) + r5) < (257 : Int))) = true
    -- leaf 8 (ob)
    have hm : mayP (x.gi 0 0) f d = true := by
      cases e : r4 with
      | true => exact hr4.symm.trans e
      | false => rw [e] at hg; simp at hg
    have hr := mayP_rng hm
    have hs := sideI_rng d
    exact decide_eq_true (by omega)
  refine vg_call (C := C_side6) rfl rfl (xs := [.i d]) rfl (fun hg => ?_) (fun rs hrs => ?_)
  ·
    exact trivial
  obtain ⟨r6, hr6, rfl⟩ := side6_res hrs
  clear hrs
  change Fm.holds _ _ (lk [.l x, .i f, .i d, .i g, .b r4, .i r5, .i r6])
  refine ⟨fun hg => ?_, ?_⟩
  ·
    simp only [gd_cons, gd_nil, and_true] at hg
    replace hg : (if r4 = true then (x.gb (Int.toNat (((129 : Int) + (f * (2 : Int))) + r5)) 0) else false) = true := hg
    show (decide ((0 : Int) ≤ f)) = true
    -- leaf 9 (ob)
    have hm : mayP (x.gi 0 0) f d = true := by
      cases e : r4 with
      | true => exact hr4.symm.trans e
      | false => rw [e] at hg; simp at hg
    have hr := mayP_rng hm
    have hs := sideI_rng d
    exact decide_eq_true (by omega)
  refine ⟨fun hg => ?_, ?_⟩
  ·
    simp only [gd_cons, gd_nil, and_true] at hg
    replace hg : (if r4 = true then (x.gb (Int.toNat (((129 : Int) + (f * (2 : Int))) + r5)) 0) else false) = true := hg
    show (decide (f < (64 : Int))) = true
    -- leaf 10 (ob)
    have hm : mayP (x.gi 0 0) f d = true := by
      cases e : r4 with
      | true => exact hr4.symm.trans e
      | false => rw [e] at hg; simp at hg
    have hr := mayP_rng hm
    have hs := sideI_rng d
    exact decide_eq_true (by omega)
  refine ⟨fun hg => ?_, ?_⟩
  ·
    simp only [gd_cons, gd_nil, and_true] at hg
    replace hg : (if r4 = true then (x.gb (Int.toNat (((129 : Int) + (f * (2 : Int))) + r5)) 0) else false) = true := hg
    show (decide ((0 : Int) ≤ ((1 : Int) + (f * (2 : Int))))) = true
    -- leaf 11 (ob)
    have hm : mayP (x.gi 0 0) f d = true := by
      cases e : r4 with
      | true => exact hr4.symm.trans e
      | false => rw [e] at hg; simp at hg
    have hr := mayP_rng hm
    have hs := sideI_rng d
    exact decide_eq_true (by omega)
  refine ⟨fun hg => ?_, ?_⟩
  ·
    simp only [gd_cons, gd_nil, and_true] at hg
    replace hg : (if r4 = true then (x.gb (Int.toNat (((129 : Int) + (f * (2 : Int))) + r5)) 0) else false) = true := hg
    show (decide ((0 : Int) ≤ r6)) = true
    -- leaf 12 (ob)
    have hm : mayP (x.gi 0 0) f d = true := by
      cases e : r4 with
      | true => exact hr4.symm.trans e
      | false => rw [e] at hg; simp at hg
    have hr := mayP_rng hm
    have hs := sideI_rng d
    exact decide_eq_true (by omega)
  refine ⟨fun hg => ?_, ?_⟩
  ·
    simp only [gd_cons, gd_nil, and_true] at hg
    replace hg : (if r4 = true then (x.gb (Int.toNat (((129 : Int) + (f * (2 : Int))) + r5)) 0) else false) = true := hg
    show (decide (r6 < (2 : Int))) = true
    -- leaf 13 (ob)
    have hm : mayP (x.gi 0 0) f d = true := by
      cases e : r4 with
      | true => exact hr4.symm.trans e
      | false => rw [e] at hg; simp at hg
    have hr := mayP_rng hm
    have hs := sideI_rng d
    exact decide_eq_true (by omega)
  refine ⟨fun hg => ?_, ?_⟩
  ·
    simp only [gd_cons, gd_nil, and_true] at hg
    replace hg : (if r4 = true then (x.gb (Int.toNat (((129 : Int) + (f * (2 : Int))) + r5)) 0) else false) = true := hg
    show (decide ((0 : Int) ≤ (((1 : Int) + (f * (2 : Int))) + r6))) = true
    -- leaf 14 (ob)
    have hm : mayP (x.gi 0 0) f d = true := by
      cases e : r4 with
      | true => exact hr4.symm.trans e
      | false => rw [e] at hg; simp at hg
    have hr := mayP_rng hm
    have hs := sideI_rng d
    exact decide_eq_true (by omega)
  refine ⟨fun hg => ?_, ?_⟩
  ·
    simp only [gd_cons, gd_nil, and_true] at hg
    replace hg : (if r4 = true then (x.gb (Int.toNat (((129 : Int) + (f * (2 : Int))) + r5)) 0) else false) = true := hg
    show (decide ((((1 : Int) + (f * (2 : Int))) + r6) < (129 : Int))) = true
    -- leaf 15 (ob)
    have hm : mayP (x.gi 0 0) f d = true := by
      cases e : r4 with
      | true => exact hr4.symm.trans e
      | false => rw [e] at hg; simp at hg
    have hr := mayP_rng hm
    have hs := sideI_rng d
    exact decide_eq_true (by omega)
  suffices hfin : ((if (if r4 = true then (x.gb (Int.toNat (((129 : Int) + (f * (2 : Int))) + r5)) 0) else false) = true then ((x.gi (Int.toNat (((1 : Int) + (f * (2 : Int))) + r6)) 0) == g) else false)) = (lights6 x f d g) from (c_b hfin rfl)
  -- leaf 16 (ret)
  have h4 : r4 = mayP (x.gi 0 0) f d := hr4
  have h5 : is6 x f d = x.gb (Int.toNat (129 + f * 2 + r5)) 0 := by rw [hr5]; rfl
  have h6 : gen6 x f d = x.gi (Int.toNat (1 + f * 2 + r6)) 0 := by rw [hr6]; rfl
  unfold lights6
  rw [h5, h6, ← h4]
  cases r4 <;> cases x.gb (Int.toNat (129 + f * 2 + r5)) 0 <;> simp
def C_press6 : Ctr := ⟨[.one (.mut 2), .agg [.int .i64, .int .i64]], [.agg [.int .i64, .int .i64, .int .i64], .one (.bool)],
  fun | [.l x, .i f, .i d] => (2 ≤ x.gi 0 0 ∧ x.gi 0 0 ≤ 64) | _ => False,
  fun | [.l x, .i f, .i d] => [.l (press6 x f d), .i (if pressIs6 x f d = true then f else 0), .i (if pressIs6 x f d = true then d else 0), .i (if pressIs6 x f d = true then gen6 (press6 x f d) f d else 0), .b (pressIs6 x f d)] | _ => []⟩
theorem press6_pre {ls : List Leaf} (h_ : C_press6.pre ls) : ∃ (x : LV) (f : Int) (d : Int), ls = [.l x, .i f, .i d] ∧ ((2 ≤ x.gi 0 0 ∧ x.gi 0 0 ≤ 64)) := by
  unfold C_press6 at h_; dsimp only at h_; split at h_
  · exact ⟨_, _, _, rfl, h_⟩
  · exact h_.elim
theorem press6_mk {x : LV} {f : Int} {d : Int} (h_ : (2 ≤ x.gi 0 0 ∧ x.gi 0 0 ≤ 64)) : C_press6.pre [.l x, .i f, .i d] := h_
theorem press6_res {x : LV} {f : Int} {d : Int} {rs_ : List Leaf} (h_ : rs_ = C_press6.fn [.l x, .i f, .i d]) : ∃ (q0 : LV) (q1 : Int) (q2 : Int) (q3 : Int) (q4 : Bool), q0 = (press6 x f d) ∧ q1 = (if pressIs6 x f d = true then f else 0) ∧ q2 = (if pressIs6 x f d = true then d else 0) ∧ q3 = (if pressIs6 x f d = true then gen6 (press6 x f d) f d else 0) ∧ q4 = (pressIs6 x f d) ∧ rs_ = [.l q0, .i q1, .i q2, .i q3, .b q4] := ⟨_, _, _, _, _, rfl, rfl, rfl, rfl, rfl, h_⟩
def phi_press6 : Fm := (.call 29 [] [(.i (.gi 0 0 (.i 0))), (.i (.v 1)), (.i (.v 2))] 3 (.call 44 [((.not (.v 3)), .false)] [(.i (.v 2))] 4 (.ob [((.not (.v 3)), .false)] (.le (.i 0) (.v 1)) (.ob [((.not (.v 3)), .false)] (.lt (.v 1) (.i 64)) (.ob [((.not (.v 3)), .false)] (.le (.i 0) (.add (.i 129) (.mul (.v 1) (.i 2)))) (.ob [((.not (.v 3)), .false)] (.le (.i 0) (.v 4)) (.ob [((.not (.v 3)), .false)] (.lt (.v 4) (.i 2)) (.ob [((.not (.v 3)), .false)] (.le (.i 129) (.add (.add (.i 129) (.mul (.v 1) (.i 2))) (.v 4))) (.ob [((.not (.v 3)), .false)] (.lt (.add (.add (.i 129) (.mul (.v 1) (.i 2))) (.v 4)) (.i 257)) (.and (.imp (.ite (.not (.v 3)) (.t .true) (.gb 0 0 (.add (.add (.i 129) (.mul (.v 1) (.i 2))) (.v 4)))) .true (.ret [(.l 0), (.i (.i 0)), (.i (.i 0)), (.i (.i 0)), (.b (.t .false))])) (.imp (.ite (.not (.v 3)) (.t .true) (.gb 0 0 (.add (.add (.i 129) (.mul (.v 1) (.i 2))) (.v 4)))) .false (.call 44 [] [(.i (.v 2))] 5 (.ob [] (.le (.i 0) (.v 1)) (.ob [] (.lt (.v 1) (.i 64)) (.ob [] (.le (.i 0) (.add (.i 129) (.mul (.v 1) (.i 2)))) (.ob [] (.le (.i 0) (.v 5)) (.ob [] (.lt (.v 5) (.i 2)) (.ob [] (.le (.i 129) (.add (.add (.i 129) (.mul (.v 1) (.i 2))) (.v 5))) (.ob [] (.lt (.add (.add (.i 129) (.mul (.v 1) (.i 2))) (.v 5)) (.i 257)) (.lett (.updb 0 (.add (.add (.i 129) (.mul (.v 1) (.i 2))) (.v 5)) (.t .true)) 6 (.call 44 [] [(.i (.v 2))] 7 (.call 44 [] [(.i (.v 2))] 8 (.ob [] (.le (.i 0) (.add (.i 1) (.mul (.v 1) (.i 2)))) (.ob [] (.le (.i 0) (.v 8)) (.ob [] (.lt (.v 8) (.i 2)) (.ob [] (.le (.i 0) (.add (.add (.i 1) (.mul (.v 1) (.i 2))) (.v 8))) (.ob [] (.lt (.add (.add (.i 1) (.mul (.v 1) (.i 2))) (.v 8)) (.i 129)) (.ob [] (.le (.i 0) (.v 7)) (.ob [] (.lt (.v 7) (.i 2)) (.ob [] (.le (.i 0) (.add (.add (.i 1) (.mul (.v 1) (.i 2))) (.v 7))) (.ob [] (.lt (.add (.add (.i 1) (.mul (.v 1) (.i 2))) (.v 7)) (.i 129)) (.lett (.upd 6 (.add (.add (.i 1) (.mul (.v 1) (.i 2))) (.v 7)) (.wrap .i64 (.add (.gi 6 0 (.add (.add (.i 1) (.mul (.v 1) (.i 2))) (.v 8))) (.i 1)))) 9 (.call 44 [] [(.i (.v 2))] 10 (.ob [] (.le (.i 0) (.v 10)) (.ob [] (.lt (.v 10) (.i 2)) (.ob [] (.le (.i 0) (.add (.add (.i 1) (.mul (.v 1) (.i 2))) (.v 10))) (.ob [] (.lt (.add (.add (.i 1) (.mul (.v 1) (.i 2))) (.v 10)) (.i 129)) (.ret [(.l 9), (.i (.v 1)), (.i (.v 2)), (.i (.gi 9 0 (.add (.add (.i 1) (.mul (.v 1) (.i 2))) (.v 10)))), (.b (.t .true))]))))))))))))))))))))))))))))))))))))))
def tbl_press6 : List (Nat × Ctr) := [(29, C_may6), (44, C_side6)]
theorem vc_press6 : vcgO Tryd.prog (sigT tbl_press6) [] Tryd.f23 C_press6.params C_press6.res = some phi_press6 := by kernel_rfl
--SPLIT
theorem press6_sound : C_press6.Sound Tryd.prog G 23 := by
  refine fn_okO mixed stable tbl_press6 [] Tryd.func23 (by kernel_rfl) phi_press6 vc_press6 ⟨may6_sound, side6_sound, trivial⟩ (fun _ _ _ => False) (fun _ _ _ => 0) ?_
  intro ls hp
  obtain ⟨x, f, d, rfl, hpre⟩ := press6_pre hp
  clear hp
  rw [envOf_lk]
  unfold phi_press6
  refine vg_call (C := C_may6) rfl rfl (xs := [.i (x.gi (Int.toNat (0 : Int)) 0), .i f, .i d]) rfl (fun hg => ?_) (fun rs hrs => ?_)
  ·
    refine may6_mk ?_
    -- leaf 1 (pre)
    subst_vars
    try simp only [decide_eq_true_eq, decide_eq_false_iff_not] at *
    try simp (disch := omega) only [wrap_in]
    grind
  obtain ⟨r3, hr3, rfl⟩ := may6_res hrs
  clear hrs
  change Fm.holds _ _ (lk [.l x, .i f, .i d, .b r3])
  refine vg_call (C := C_side6) rfl rfl (xs := [.i d]) rfl (fun hg => ?_) (fun rs hrs => ?_)
  ·
    exact trivial
  obtain ⟨r4, hr4, rfl⟩ := side6_res hrs
  clear hrs
  change Fm.holds _ _ (lk [.l x, .i f, .i d, .b r3, .i r4])
  have ep : pressIs6 x f d = (r3 && !x.gb (Int.toNat (129 + f * 2 + r4)) 0) := by
    unfold pressIs6
    rw [show mayP (x.gi 0 0) f d = r3 from hr3.symm, show is6 x f d = x.gb (Int.toNat (129 + f * 2 + r4)) 0 by rw [hr4]; rfl]
  refine ⟨fun hg => ?_, ?_⟩
  ·
    simp only [gd_cons, gd_nil, and_true] at hg
    replace hg : (!r3) = false := hg
    show (decide ((0 : Int) ≤ f)) = true
    -- leaf 2 (ob)
    have hm : mayP (x.gi 0 0) f d = true := by
      cases e : r3 with
      | true => exact hr3.symm.trans e
      | false => rw [e] at hg; simp at hg
    have hr := mayP_rng hm
    have hs := sideI_rng d
    exact decide_eq_true (by omega)
  refine ⟨fun hg => ?_, ?_⟩
  ·
    simp only [gd_cons, gd_nil, and_true] at hg
    replace hg : (!r3) = false := hg
    show (decide (f < (64 : Int))) = true
    -- leaf 3 (ob)
    have hm : mayP (x.gi 0 0) f d = true := by
      cases e : r3 with
      | true => exact hr3.symm.trans e
      | false => rw [e] at hg; simp at hg
    have hr := mayP_rng hm
    have hs := sideI_rng d
    exact decide_eq_true (by omega)
  refine ⟨fun hg => ?_, ?_⟩
  ·
    simp only [gd_cons, gd_nil, and_true] at hg
    replace hg : (!r3) = false := hg
    show (decide ((0 : Int) ≤ ((129 : Int) + (f * (2 : Int))))) = true
    -- leaf 4 (ob)
    have hm : mayP (x.gi 0 0) f d = true := by
      cases e : r3 with
      | true => exact hr3.symm.trans e
      | false => rw [e] at hg; simp at hg
    have hr := mayP_rng hm
    have hs := sideI_rng d
    exact decide_eq_true (by omega)
  refine ⟨fun hg => ?_, ?_⟩
  ·
    simp only [gd_cons, gd_nil, and_true] at hg
    replace hg : (!r3) = false := hg
    show (decide ((0 : Int) ≤ r4)) = true
    -- leaf 5 (ob)
    have hm : mayP (x.gi 0 0) f d = true := by
      cases e : r3 with
      | true => exact hr3.symm.trans e
      | false => rw [e] at hg; simp at hg
    have hr := mayP_rng hm
    have hs := sideI_rng d
    exact decide_eq_true (by omega)
  refine ⟨fun hg => ?_, ?_⟩
  ·
    simp only [gd_cons, gd_nil, and_true] at hg
    replace hg : (!r3) = false := hg
    show (decide (r4 < (2 : Int))) = true
    -- leaf 6 (ob)
    have hm : mayP (x.gi 0 0) f d = true := by
      cases e : r3 with
      | true => exact hr3.symm.trans e
      | false => rw [e] at hg; simp at hg
    have hr := mayP_rng hm
    have hs := sideI_rng d
    exact decide_eq_true (by omega)
  refine ⟨fun hg => ?_, ?_⟩
  ·
    simp only [gd_cons, gd_nil, and_true] at hg
    replace hg : (!r3) = false := hg
    show (decide ((129 : Int) ≤ (((129 : Int) + (f * (2 : Int))) + r4))) = true
    -- leaf 7 (ob)
    have hm : mayP (x.gi 0 0) f d = true := by
      cases e : r3 with
      | true => exact hr3.symm.trans e
      | false => rw [e] at hg; simp at hg
    have hr := mayP_rng hm
    have hs := sideI_rng d
    exact decide_eq_true (by omega)
  refine ⟨fun hg => ?_, ?_⟩
  ·
    simp only [gd_cons, gd_nil, and_true] at hg
    replace hg : (!r3) = false := hg
    show (decide ((((129 : Int) + (f * (2 : Int))) + r4) < (257 : Int))) = true
    -- leaf 8 (ob)
    have hm : mayP (x.gi 0 0) f d = true := by
      cases e : r3 with
      | true => exact hr3.symm.trans e
      | false => rw [e] at hg; simp at hg
    have hr := mayP_rng hm
    have hs := sideI_rng d
    exact decide_eq_true (by omega)
  refine ⟨fun hcond => ?_, fun hcond => ?_⟩
  ·
    have c1 : (if (!r3) = true then true else (x.gb (Int.toNat (((129 : Int) + (f * (2 : Int))) + r4)) 0)) = true := hcond
    clear hcond
    suffices hfin : (x) = (press6 x f d) ∧ ((0 : Int)) = (if pressIs6 x f d = true then f else 0) ∧ ((0 : Int)) = (if pressIs6 x f d = true then d else 0) ∧ ((0 : Int)) = (if pressIs6 x f d = true then gen6 (press6 x f d) f d else 0) ∧ (false) = (pressIs6 x f d) from (c_l hfin.1 (c_i hfin.2.1 (c_i hfin.2.2.1 (c_i hfin.2.2.2.1 (c_b hfin.2.2.2.2 rfl)))))
    -- leaf 9 (ret)
    have e : pressIs6 x f d = false := by
      rw [ep]
      revert c1
      cases r3 <;> cases x.gb (Int.toNat (129 + f * 2 + r4)) 0 <;> simp
    unfold press6
    rw [e]
    exact ⟨rfl, rfl, rfl, rfl, rfl⟩
  ·
    have c2 : (if (!r3) = true then true else (x.gb (Int.toNat (((129 : Int) + (f * (2 : Int))) + r4)) 0)) = false := hcond
    clear hcond
    have e : pressIs6 x f d = true := by
      rw [ep]
      revert c2
      cases r3 <;> cases x.gb (Int.toNat (129 + f * 2 + r4)) 0 <;> simp
    have hm : mayP (x.gi 0 0) f d = true := by
      unfold pressIs6 at e
      simp only [Bool.and_eq_true] at e
      exact e.1
    have hr := mayP_rng hm
    have hs := sideI_rng d
    refine vg_call (C := C_side6) rfl rfl (xs := [.i d]) rfl (fun hg => ?_) (fun rs hrs => ?_)
    ·
      exact trivial
    obtain ⟨r5, hr5, rfl⟩ := side6_res hrs
    clear hrs
    change Fm.holds _ _ (lk [.l x, .i f, .i d, .b r3, .i r4, .i r5])
    refine ⟨fun hg => ?_, ?_⟩
    ·
      show (decide ((0 : Int) ≤ f)) = true
      -- leaf 10 (ob)
      exact decide_eq_true (by omega)
    refine ⟨fun hg => ?_, ?_⟩
    ·
      show (decide (f < (64 : Int))) = true
      -- leaf 11 (ob)
      exact decide_eq_true (by omega)
    refine ⟨fun hg => ?_, ?_⟩
    ·
      show (decide ((0 : Int) ≤ ((129 : Int) + (f * (2 : Int))))) = true
      -- leaf 12 (ob)
      exact decide_eq_true (by omega)
    refine ⟨fun hg => ?_, ?_⟩
    ·
      show (decide ((0 : Int) ≤ r5)) = true
      -- leaf 13 (ob)
      exact decide_eq_true (by omega)
    refine ⟨fun hg => ?_, ?_⟩
    ·
      show (decide (r5 < (2 : Int))) = true
      -- leaf 14 (ob)
      exact decide_eq_true (by omega)
    refine ⟨fun hg => ?_, ?_⟩
    ·
      show (decide ((129 : Int) ≤ (((129 : Int) + (f * (2 : Int))) + r5))) = true
      -- leaf 15 (ob)
      exact decide_eq_true (by omega)
    refine ⟨fun hg => ?_, ?_⟩
    ·
      show (decide ((((129 : Int) + (f * (2 : Int))) + r5) < (257 : Int))) = true
      -- leaf 16 (ob)
      exact decide_eq_true (by omega)
    refine vg_lett rfl (x := (LV.updb x (((129 : Int) + (f * (2 : Int))) + r5) true)) rfl (fun r6 hr6 => ?_)
    change Fm.holds _ _ (lk [.l x, .i f, .i d, .b r3, .i r4, .i r5, .l r6])
    refine vg_call (C := C_side6) rfl rfl (xs := [.i d]) rfl (fun hg => ?_) (fun rs hrs => ?_)
    ·
      exact trivial
    obtain ⟨r7, hr7, rfl⟩ := side6_res hrs
    clear hrs
    change Fm.holds _ _ (lk [.l x, .i f, .i d, .b r3, .i r4, .i r5, .l r6, .i r7])
    refine vg_call (C := C_side6) rfl rfl (xs := [.i d]) rfl (fun hg => ?_) (fun rs hrs => ?_)
    ·
      exact trivial
    obtain ⟨r8, hr8, rfl⟩ := side6_res hrs
    clear hrs
    change Fm.holds _ _ (lk [.l x, .i f, .i d, .b r3, .i r4, .i r5, .l r6, .i r7, .i r8])
    refine ⟨fun hg => ?_, ?_⟩
    ·
      show (decide ((0 : Int) ≤ ((1 : Int) + (f * (2 : Int))))) = true
      -- leaf 17 (ob)
      exact decide_eq_true (by omega)
    refine ⟨fun hg => ?_, ?_⟩
    ·
      show (decide ((0 : Int) ≤ r8)) = true
      -- leaf 18 (ob)
      exact decide_eq_true (by omega)
    refine ⟨fun hg => ?_, ?_⟩
    ·
      show (decide (r8 < (2 : Int))) = true
      -- leaf 19 (ob)
      exact decide_eq_true (by omega)
    refine ⟨fun hg => ?_, ?_⟩
    ·
      show (decide ((0 : Int) ≤ (((1 : Int) + (f * (2 : Int))) + r8))) = true
      -- leaf 20 (ob)
      exact decide_eq_true (by omega)
    refine ⟨fun hg => ?_, ?_⟩
    ·
      show (decide ((((1 : Int) + (f * (2 : Int))) + r8) < (129 : Int))) = true
      -- leaf 21 (ob)
      exact decide_eq_true (by omega)
    refine ⟨fun hg => ?_, ?_⟩
    ·
      show (decide ((0 : Int) ≤ r7)) = true
      -- leaf 22 (ob)
      exact decide_eq_true (by omega)
    refine ⟨fun hg => ?_, ?_⟩
    ·
      show (decide (r7 < (2 : Int))) = true
      -- leaf 23 (ob)
      exact decide_eq_true (by omega)
    refine ⟨fun hg => ?_, ?_⟩
    ·
      show (decide ((0 : Int) ≤ (((1 : Int) + (f * (2 : Int))) + r7))) = true
      -- leaf 24 (ob)
      exact decide_eq_true (by omega)
    refine ⟨fun hg => ?_, ?_⟩
    ·
      show (decide ((((1 : Int) + (f * (2 : Int))) + r7) < (129 : Int))) = true
      -- leaf 25 (ob)
      exact decide_eq_true (by omega)
    refine vg_lett rfl (x := (LV.upd r6 (((1 : Int) + (f * (2 : Int))) + r7) (IntKind.wrap .i64 ((r6.gi (Int.toNat (((1 : Int) + (f * (2 : Int))) + r8)) 0) + (1 : Int))))) rfl (fun r9 hr9 => ?_)
    change Fm.holds _ _ (lk [.l x, .i f, .i d, .b r3, .i r4, .i r5, .l r6, .i r7, .i r8, .l r9])
    refine vg_call (C := C_side6) rfl rfl (xs := [.i d]) rfl (fun hg => ?_) (fun rs hrs => ?_)
    ·
      exact trivial
    obtain ⟨r10, hr10, rfl⟩ := side6_res hrs
    clear hrs
    change Fm.holds _ _ (lk [.l x, .i f, .i d, .b r3, .i r4, .i r5, .l r6, .i r7, .i r8, .l r9, .i r10])
    refine ⟨fun hg => ?_, ?_⟩
    ·
      show (decide ((0 : Int) ≤ r10)) = true
      -- leaf 26 (ob)
      exact decide_eq_true (by omega)
    refine ⟨fun hg => ?_, ?_⟩
    ·
      show (decide (r10 < (2 : Int))) = true
      -- leaf 27 (ob)
      exact decide_eq_true (by omega)
    refine ⟨fun hg => ?_, ?_⟩
    ·
      show (decide ((0 : Int) ≤ (((1 : Int) + (f * (2 : Int))) + r10))) = true
      -- leaf 28 (ob)
      exact decide_eq_true (by omega)
    refine ⟨fun hg => ?_, ?_⟩
    ·
      show (decide ((((1 : Int) + (f * (2 : Int))) + r10) < (129 : Int))) = true
      -- leaf 29 (ob)
      exact decide_eq_true (by omega)
    suffices hfin : (r9) = (press6 x f d) ∧ (f) = (if pressIs6 x f d = true then f else 0) ∧ (d) = (if pressIs6 x f d = true then d else 0) ∧ ((r9.gi (Int.toNat (((1 : Int) + (f * (2 : Int))) + r10)) 0)) = (if pressIs6 x f d = true then gen6 (press6 x f d) f d else 0) ∧ (true) = (pressIs6 x f d) from (c_l hfin.1 (c_i hfin.2.1 (c_i hfin.2.2.1 (c_i hfin.2.2.2.1 (c_b hfin.2.2.2.2 rfl)))))
    -- leaf 30 (ret)
    have e9 : r9 = press6 x f d := by
      unfold press6
      rw [if_pos e, hr9, hr6, hr7, hr8, hr5]
      rfl
    refine ⟨e9, (if_pos e).symm, (if_pos e).symm, ?_, e.symm⟩
    rw [if_pos e, e9, hr10]
    rfl
def C_clear6 : Ctr := ⟨[.one (.mut 2), .agg [.int .i64, .int .i64, .int .i64]], [.one (.bool)],
  fun | [.l x, .i f, .i d, .i g] => (2 ≤ x.gi 0 0 ∧ x.gi 0 0 ≤ 64) | _ => False,
  fun | [.l x, .i f, .i d, .i g] => [.l (clear6 x f d g), .b (lights6 x f d g)] | _ => []⟩
theorem clear6_pre {ls : List Leaf} (h_ : C_clear6.pre ls) : ∃ (x : LV) (f : Int) (d : Int) (g : Int), ls = [.l x, .i f, .i d, .i g] ∧ ((2 ≤ x.gi 0 0 ∧ x.gi 0 0 ≤ 64)) := by
  unfold C_clear6 at h_; dsimp only at h_; split at h_
  · exact ⟨_, _, _, _, rfl, h_⟩
  · exact h_.elim
theorem clear6_mk {x : LV} {f : Int} {d : Int} {g : Int} (h_ : (2 ≤ x.gi 0 0 ∧ x.gi 0 0 ≤ 64)) : C_clear6.pre [.l x, .i f, .i d, .i g] := h_
theorem clear6_res {x : LV} {f : Int} {d : Int} {g : Int} {rs_ : List Leaf} (h_ : rs_ = C_clear6.fn [.l x, .i f, .i d, .i g]) : ∃ (q0 : LV) (q1 : Bool), q0 = (clear6 x f d g) ∧ q1 = (lights6 x f d g) ∧ rs_ = [.l q0, .b q1] := ⟨_, _, rfl, rfl, h_⟩
def phi_clear6 : Fm := (.call 27 [] [(.o 0 (.ptr 0 0)), (.i (.v 1)), (.i (.v 2)), (.i (.v 3))] 4 (.and (.imp (.v 4) .false (.ret [(.l 0), (.b (.t .false))])) (.imp (.v 4) .true (.call 44 [] [(.i (.v 2))] 5 (.ob [] (.le (.i 0) (.v 1)) (.ob [] (.lt (.v 1) (.i 64)) (.ob [] (.le (.i 0) (.add (.i 129) (.mul (.v 1) (.i 2)))) (.ob [] (.le (.i 0) (.v 5)) (.ob [] (.lt (.v 5) (.i 2)) (.ob [] (.le (.i 129) (.add (.add (.i 129) (.mul (.v 1) (.i 2))) (.v 5))) (.ob [] (.lt (.add (.add (.i 129) (.mul (.v 1) (.i 2))) (.v 5)) (.i 257)) (.lett (.updb 0 (.add (.add (.i 129) (.mul (.v 1) (.i 2))) (.v 5)) (.t .false)) 6 (.ret [(.l 6), (.b (.t .true))])))))))))))))
def tbl_clear6 : List (Nat × Ctr) := [(27, C_lights6), (44, C_side6)]
theorem vc_clear6 : vcgO Tryd.prog (sigT tbl_clear6) [] Tryd.f25 C_clear6.params C_clear6.res = some phi_clear6 := by kernel_rfl
--SPLIT
theorem clear6_sound : C_clear6.Sound Tryd.prog G 25 := by
  refine fn_okO mixed stable tbl_clear6 [] Tryd.func25 (by kernel_rfl) phi_clear6 vc_clear6 ⟨lights6_sound, side6_sound, trivial⟩ (fun _ _ _ => False) (fun _ _ _ => 0) ?_
  intro ls hp
  obtain ⟨x, f, d, g, rfl, hpre⟩ := clear6_pre hp
  clear hp
  rw [envOf_lk]
  unfold phi_clear6
  refine vg_call (C := C_lights6) rfl rfl (xs := [.l x, .i f, .i d, .i g]) rfl (fun hg => ?_) (fun rs hrs => ?_)
  ·
    refine lights6_mk ?_
    -- leaf 1 (pre)
    exact hpre
  obtain ⟨r4, hr4, rfl⟩ := lights6_res hrs
  clear hrs
  change Fm.holds _ _ (lk [.l x, .i f, .i d, .i g, .b r4])
  refine ⟨fun hcond => ?_, fun hcond => ?_⟩
  ·
    have c1 : r4 = false := hcond
    clear hcond
    suffices hfin : (x) = (clear6 x f d g) ∧ (false) = (lights6 x f d g) from (c_l hfin.1 (c_b hfin.2 rfl))
    -- leaf 2 (ret)
    have e : lights6 x f d g = false := hr4.symm.trans c1
    unfold clear6
    rw [e]
    exact ⟨rfl, rfl⟩
  ·
    have c2 : r4 = true := hcond
    clear hcond
    have e : lights6 x f d g = true := hr4.symm.trans c2
    have hm : mayP (x.gi 0 0) f d = true := by
      unfold lights6 at e
      simp only [Bool.and_eq_true] at e
      exact e.1.1
    have hr := mayP_rng hm
    have hs := sideI_rng d
    refine vg_call (C := C_side6) rfl rfl (xs := [.i d]) rfl (fun hg => ?_) (fun rs hrs => ?_)
    ·
      exact trivial
    obtain ⟨r5, hr5, rfl⟩ := side6_res hrs
    clear hrs
    change Fm.holds _ _ (lk [.l x, .i f, .i d, .i g, .b r4, .i r5])
    refine ⟨fun hg => ?_, ?_⟩
    ·
      show (decide ((0 : Int) ≤ f)) = true
      -- leaf 3 (ob)
      exact decide_eq_true (by omega)
    refine ⟨fun hg => ?_, ?_⟩
    ·
      show (decide (f < (64 : Int))) = true
      -- leaf 4 (ob)
      exact decide_eq_true (by omega)
    refine ⟨fun hg => ?_, ?_⟩
    ·
      show (decide ((0 : Int) ≤ ((129 : Int) + (f * (2 : Int))))) = true
      -- leaf 5 (ob)
      exact decide_eq_true (by omega)
    refine ⟨fun hg => ?_, ?_⟩
    ·
      show (decide ((0 : Int) ≤ r5)) = true
      -- leaf 6 (ob)
      exact decide_eq_true (by omega)
    refine ⟨fun hg => ?_, ?_⟩
    ·
      show (decide (r5 < (2 : Int))) = true
      -- leaf 7 (ob)
      exact decide_eq_true (by omega)
    refine ⟨fun hg => ?_, ?_⟩
    ·
      show (decide ((129 : Int) ≤ (((129 : Int) + (f * (2 : Int))) + r5))) = true
      -- leaf 8 (ob)
      exact decide_eq_true (by omega)
    refine ⟨fun hg => ?_, ?_⟩
    ·
      show (decide ((((129 : Int) + (f * (2 : Int))) + r5) < (257 : Int))) = true
      -- leaf 9 (ob)
      exact decide_eq_true (by omega)
    refine vg_lett rfl (x := (LV.updb x (((129 : Int) + (f * (2 : Int))) + r5) false)) rfl (fun r6 hr6 => ?_)
    change Fm.holds _ _ (lk [.l x, .i f, .i d, .i g, .b r4, .i r5, .l r6])
    suffices hfin : (r6) = (clear6 x f d g) ∧ (true) = (lights6 x f d g) from (c_l hfin.1 (c_b hfin.2 rfl))
    -- leaf 10 (ret)
    refine ⟨?_, e.symm⟩
    unfold clear6
    rw [if_pos e, hr6, hr5]
def C_lit6 : Ctr := ⟨[.one (.obj 2)], [.one (.lst [.int .i64, .int .i64, .int .i64])],
  fun | [.l x] => 0 ≤ x.gi 0 0 ∧ x.gi 0 0 ≤ 64 | _ => False,
  fun | [.l x] => [.l (lit6To x (x.gi 0 0).toNat)] | _ => []⟩
theorem lit6_pre {ls : List Leaf} (h_ : C_lit6.pre ls) : ∃ (x : LV), ls = [.l x] ∧ (0 ≤ x.gi 0 0 ∧ x.gi 0 0 ≤ 64) := by
  unfold C_lit6 at h_; dsimp only at h_; split at h_
  · exact ⟨_, rfl, h_⟩
  · exact h_.elim
theorem lit6_mk {x : LV} (h_ : 0 ≤ x.gi 0 0 ∧ x.gi 0 0 ≤ 64) : C_lit6.pre [.l x] := h_
theorem lit6_res {x : LV} {rs_ : List Leaf} (h_ : rs_ = C_lit6.fn [.l x]) : ∃ (q0 : LV), q0 = (lit6To x (x.gi 0 0).toNat) ∧ rs_ = [.l q0] := ⟨_, rfl, h_⟩
def inv_lit6_3 (r : LV) (y : LV) (i : Int) : Prop := 0 ≤ i ∧ i ≤ r.gi 0 0 ∧ y = lit6To r i.toNat
def meas_lit6_3 (r : LV) (y : LV) (i : Int) : Nat := (r.gi 0 0 - i).toNat
def inv_lit6_6 (r : LV) (f : Int) (y : LV) (j : Int) : Prop := 0 ≤ j ∧ j ≤ 2 ∧ y = lit6In r f j.toNat
def meas_lit6_6 (r : LV) (f : Int) (y : LV) (j : Int) : Nat := (2 - j).toNat
def phi_lit6 : Fm := (.loop 3 1 [0] [(.c 1 .nilsl []), (.i (.i 0))] [.l, .i] (.and (.imp (.lt (.v 2) (.gi 0 0 (.i 0))) .true (.loop 6 3 [0, 2] [(.l 1), (.i (.i 0))] [.l, .i] (.and (.imp (.lt (.v 4) (.i 2)) .true (.ob [] (.le (.i 0) (.v 2)) (.ob [] (.lt (.v 2) (.i 64)) (.ob [] (.le (.i 0) (.add (.i 129) (.mul (.v 2) (.i 2)))) (.ob [] (.le (.i 0) (.v 4)) (.ob [] (.le (.i 129) (.add (.add (.i 129) (.mul (.v 2) (.i 2))) (.v 4))) (.ob [] (.lt (.add (.add (.i 129) (.mul (.v 2) (.i 2))) (.v 4)) (.i 257)) (.and (.imp (.gb 0 0 (.add (.add (.i 129) (.mul (.v 2) (.i 2))) (.v 4))) .true (.ob [] (.le (.i 0) (.add (.i 1) (.mul (.v 2) (.i 2)))) (.ob [] (.le (.i 0) (.add (.add (.i 1) (.mul (.v 2) (.i 2))) (.v 4))) (.ob [] (.lt (.add (.add (.i 1) (.mul (.v 2) (.i 2))) (.v 4)) (.i 129)) (.app (.l 3) [(.v 2), (.wrap .i64 (.sub (.wrap .i64 (.mul (.i 2) (.v 4))) (.i 1))), (.gi 0 0 (.add (.add (.i 1) (.mul (.v 2) (.i 2))) (.v 4)))] 5 (.back 6 3 5 [0, 2] [(.l 5), (.i (.wrap .i64 (.add (.v 4) (.i 1))))])))))) (.imp (.gb 0 0 (.add (.add (.i 129) (.mul (.v 2) (.i 2))) (.v 4))) .false (.back 6 3 5 [0, 2] [(.l 3), (.i (.wrap .i64 (.add (.v 4) (.i 1))))])))))))))) (.imp (.lt (.v 4) (.i 2)) .false (.back 3 1 3 [0] [(.l 3), (.i (.wrap .i64 (.add (.v 2) (.i 1))))]))))) (.imp (.lt (.v 2) (.gi 0 0 (.i 0))) .false (.ret [(.l 1)]))))
def tbl_lit6 : List (Nat × Ctr) := []
def inv_lit6 : List Leaf → Nat → List Leaf → Prop := fun _ key xs => match key, xs with
  | 3, [.l r, .l y, .i i] => inv_lit6_3 r y i
  | 6, [.l r, .i f, .l y, .i j] => inv_lit6_6 r f y j
  | _, _ => False
def meas_lit6 : List Leaf → Nat → List Leaf → Nat := fun _ key xs => match key, xs with
  | 3, [.l r, .l y, .i i] => meas_lit6_3 r y i
  | 6, [.l r, .i f, .l y, .i j] => meas_lit6_6 r f y j
  | _, _ => 0
theorem vc_lit6 : vcgO Tryd.prog (sigT tbl_lit6) [⟨3, [5, 6, 7, 8, 9, 10, 11, 12, 13, 14, 15, 16, 17, 18, 19, 20, 21, 22, 23, 24, 25, 26, 27, 28, 29, 30, 31, 32, 33, 34, 35, 36, 37, 38, 39, 40, 41, 42], [3, 4], [], [0], some (33, [.i64, .i64, .i64]), []⟩, ⟨6, [14, 15, 16, 17, 18, 19, 20, 21, 22, 23, 24, 25, 26, 27, 28, 29, 30, 31, 32, 33, 34, 35, 36, 37, 38, 39, 40, 41, 42], [3, 5], [], [0, 2], some (33, [.i64, .i64, .i64]), []⟩] Tryd.f26 C_lit6.params C_lit6.res = some phi_lit6 := by kernel_rfl
--SPLIT
theorem lit6_sound : C_lit6.Sound Tryd.prog G 26 := by
  refine fn_okO mixed stable tbl_lit6 [⟨3, [5, 6, 7, 8, 9, 10, 11, 12, 13, 14, 15, 16, 17, 18, 19, 20, 21, 22, 23, 24, 25, 26, 27, 28, 29, 30, 31, 32, 33, 34, 35, 36, 37, 38, 39, 40, 41, 42], [3, 4], [], [0], some (33, [.i64, .i64, .i64]), []⟩, ⟨6, [14, 15, 16, 17, 18, 19, 20, 21, 22, 23, 24, 25, 26, 27, 28, 29, 30, 31, 32, 33, 34, 35, 36, 37, 38, 39, 40, 41, 42], [3, 5], [], [0, 2], some (33, [.i64, .i64, .i64]), []⟩] Tryd.func26 (by kernel_rfl) phi_lit6 vc_lit6 trivial inv_lit6 meas_lit6 ?_
  intro ls hp
  obtain ⟨x, rfl, hpre⟩ := lit6_pre hp
  clear hp
  rw [envOf_lk]
  unfold phi_lit6
  refine vg_loop rfl ?_ (fun xs hfit hi => ?_)
  ·
    show inv_lit6_3 x nilLV (0 : Int)
    -- leaf 1 (init)
    exact ⟨by omega, by omega, rfl⟩
  obtain ⟨x1, xs0, rfl, hfit0⟩ := fits_l hfit
  obtain ⟨x2, xs1, rfl, hfit1⟩ := fits_i hfit0
  obtain rfl := fits_nil hfit1
  clear hfit hfit0 hfit1
  replace hi : inv_lit6_3 x x1 x2 := hi
  have hi3 := hi; clear hi
  change Fm.holds _ _ (lk [.l x, .l x1, .i x2])
  obtain ⟨i0, i1, i2⟩ := hi3
  have e0 : x.gi (Int.toNat (0 : Int)) 0 = x.gi 0 0 := rfl
  have e1 : x2 < x.gi 0 0 → IntKind.wrap .i64 (x2 + 1) = x2 + 1 := fun h => wrap_in (by omega) (by omega)
  refine ⟨fun hcond => ?_, fun hcond => ?_⟩
  ·
    have c1 : (decide (x2 < (x.gi (Int.toNat (0 : Int)) 0))) = true := hcond
    clear hcond
    refine vg_loop rfl ?_ (fun xs hfit hi => ?_)
    ·
      show inv_lit6_6 x x2 x1 (0 : Int)
      -- leaf 2 (init)
      exact ⟨by omega, by omega, by rw [i2]; rfl⟩
    obtain ⟨x3, xs0, rfl, hfit0⟩ := fits_l hfit
    obtain ⟨x4, xs1, rfl, hfit1⟩ := fits_i hfit0
    obtain rfl := fits_nil hfit1
    clear hfit hfit0 hfit1
    replace hi : inv_lit6_6 x x2 x3 x4 := hi
    have hi6 := hi; clear hi
    change Fm.holds _ _ (lk [.l x, .l x1, .i x2, .l x3, .i x4])
    obtain ⟨k0, k1, k2⟩ := hi6
    have hx2 := of_decide_eq_true c1
    rw [e0] at hx2
    have eL := lit6In_len x x2 x4.toNat
    rw [← k2] at eL
    refine ⟨fun hcond => ?_, fun hcond => ?_⟩
    ·
      have c2 : (decide (x4 < (2 : Int))) = true := hcond
      clear hcond
      have hlt := of_decide_eq_true c2
      have e3 : IntKind.wrap .i64 (x4 + 1) = x4 + 1 := wrap_in (by omega) (by omega)
      have e4 : IntKind.wrap .i64 (IntKind.wrap .i64 (2 * x4) - 1) = 2 * x4 - 1 := by rw [wrap_in (n := 2 * x4) (by omega) (by omega), wrap_in (by omega) (by omega)]
      have eI : is6 x x2 (2 * x4 - 1) = x.gb (Int.toNat (129 + x2 * 2 + x4)) 0 := by
        unfold is6
        rw [show sideI (2 * x4 - 1) = x4 by rcases (show x4 = 0 ∨ x4 = 1 by omega) with rfl | rfl <;> rfl]
      have eG : gen6 x x2 (2 * x4 - 1) = x.gi (Int.toNat (1 + x2 * 2 + x4)) 0 := by
        unfold gen6
        rw [show sideI (2 * x4 - 1) = x4 by rcases (show x4 = 0 ∨ x4 = 1 by omega) with rfl | rfl <;> rfl]
      refine ⟨fun hg => ?_, ?_⟩
      ·
        show (decide ((0 : Int) ≤ x2)) = true
        -- leaf 3 (ob)
        exact decide_eq_true (by omega)
      refine ⟨fun hg => ?_, ?_⟩
      ·
        show (decide (x2 < (64 : Int))) = true
        -- leaf 4 (ob)
        exact decide_eq_true (by omega)
      refine ⟨fun hg => ?_, ?_⟩
      ·
        show (decide ((0 : Int) ≤ ((129 : Int) + (x2 * (2 : Int))))) = true
        -- leaf 5 (ob)
        exact decide_eq_true (by omega)
      refine ⟨fun hg => ?_, ?_⟩
      ·
        show (decide ((0 : Int) ≤ x4)) = true
        -- leaf 6 (ob)
        exact decide_eq_true (by omega)
      refine ⟨fun hg => ?_, ?_⟩
      ·
        show (decide ((129 : Int) ≤ (((129 : Int) + (x2 * (2 : Int))) + x4))) = true
        -- leaf 7 (ob)
        exact decide_eq_true (by omega)
      refine ⟨fun hg => ?_, ?_⟩
      ·
        show (decide ((((129 : Int) + (x2 * (2 : Int))) + x4) < (257 : Int))) = true
        -- leaf 8 (ob)
        exact decide_eq_true (by omega)
      refine ⟨fun hcond => ?_, fun hcond => ?_⟩
      ·
        have c3 : (x.gb (Int.toNat (((129 : Int) + (x2 * (2 : Int))) + x4)) 0) = true := hcond
        clear hcond
        refine ⟨fun hg => ?_, ?_⟩
        ·
          show (decide ((0 : Int) ≤ ((1 : Int) + (x2 * (2 : Int))))) = true
          -- leaf 9 (ob)
          exact decide_eq_true (by omega)
        refine ⟨fun hg => ?_, ?_⟩
        ·
          show (decide ((0 : Int) ≤ (((1 : Int) + (x2 * (2 : Int))) + x4))) = true
          -- leaf 10 (ob)
          exact decide_eq_true (by omega)
        refine ⟨fun hg => ?_, ?_⟩
        ·
          show (decide ((((1 : Int) + (x2 * (2 : Int))) + x4) < (129 : Int))) = true
          -- leaf 11 (ob)
          exact decide_eq_true (by omega)
        refine vg_app rfl (x := x3) (y := [x2, (IntKind.wrap .i64 ((IntKind.wrap .i64 ((2 : Int) * x4)) - (1 : Int))), (x.gi (Int.toNat (((1 : Int) + (x2 * (2 : Int))) + x4)) 0)]) rfl rfl ?_ (fun r5 hr5 => ?_)
        ·
          show ((x3).len : Int) < 1000000000
          -- leaf 12 (app)
          omega
        change Fm.holds _ _ (lk [.l x, .l x1, .i x2, .l x3, .i x4, .l r5])
        refine ⟨?_, ?_⟩
        ·
          show inv_lit6_6 x x2 r5 (IntKind.wrap .i64 (x4 + (1 : Int)))
          -- leaf 13 (back)
          rw [e3]
          refine ⟨by omega, by omega, ?_⟩
          rw [hr5, e4, ← eG, k2]
          rw [← eI] at c3
          rcases (show x4 = 0 ∨ x4 = 1 by omega) with rfl | rfl
          · exact (lit6At_yes c3).symm
          · exact (lit6At_yes c3).symm
        ·
          show meas_lit6_6 x x2 r5 (IntKind.wrap .i64 (x4 + (1 : Int))) < meas_lit6_6 x x2 x3 x4
          -- leaf 14 (meas)
          unfold meas_lit6_6
          rw [e3]
          omega
      ·
        have c4 : (x.gb (Int.toNat (((129 : Int) + (x2 * (2 : Int))) + x4)) 0) = false := hcond
        clear hcond
        refine ⟨?_, ?_⟩
        ·
          show inv_lit6_6 x x2 x3 (IntKind.wrap .i64 (x4 + (1 : Int)))
          -- leaf 15 (back)
          rw [e3]
          refine ⟨by omega, by omega, ?_⟩
          rw [k2]
          rw [← eI] at c4
          have h4 : ¬ is6 x x2 (2 * x4 - 1) = true := by rw [c4]; decide
          rcases (show x4 = 0 ∨ x4 = 1 by omega) with rfl | rfl
          · exact (lit6At_no h4).symm
          · exact (lit6At_no h4).symm
        ·
          show meas_lit6_6 x x2 x3 (IntKind.wrap .i64 (x4 + (1 : Int))) < meas_lit6_6 x x2 x3 x4
          -- leaf 16 (meas)
          unfold meas_lit6_6
          rw [e3]
          omega
    ·
      have c5 : (decide (x4 < (2 : Int))) = false := hcond
      clear hcond
      refine ⟨?_, ?_⟩
      ·
        show inv_lit6_3 x x3 (IntKind.wrap .i64 (x2 + (1 : Int)))
        -- leaf 17 (back)
        have hge := of_decide_eq_false c5
        rw [e1 hx2]
        refine ⟨by omega, by omega, ?_⟩
        have : x4 = 2 := by omega
        subst this
        rw [k2]
        rw [show (x2 + 1).toNat = x2.toNat + 1 by omega]
        have e4 : ((x2.toNat : Nat) : Int) = x2 := by omega
        show lit6At x x2 1 (lit6At x x2 (-1) (lit6To x x2.toNat)) = lit6At x ((x2.toNat : Nat) : Int) 1 (lit6At x ((x2.toNat : Nat) : Int) (-1) (lit6To x x2.toNat))
        rw [e4]
      ·
        show meas_lit6_3 x x3 (IntKind.wrap .i64 (x2 + (1 : Int))) < meas_lit6_3 x x1 x2
        -- leaf 18 (meas)
        unfold meas_lit6_3
        rw [e1 hx2]
        omega
  ·
    have c6 : (decide (x2 < (x.gi (Int.toNat (0 : Int)) 0))) = false := hcond
    clear hcond
    suffices hfin : (x1) = (lit6To x (x.gi 0 0).toNat) from (c_l hfin rfl)
    -- leaf 19 (ret)
    have hge := of_decide_eq_false c6
    rw [e0] at hge
    have : x2 = x.gi 0 0 := by omega
    rw [i2, this]
def C_genOr6 : Ctr := ⟨[.one (.obj 2), .agg [.int .i64, .int .i64]], [.one (.int .i64)],
  fun | [.l x, .i f, .i d] => (2 ≤ x.gi 0 0 ∧ x.gi 0 0 ≤ 64) | _ => False,
  fun | [.l x, .i f, .i d] => [.i (genOr6 x f d)] | _ => []⟩
theorem genOr6_pre {ls : List Leaf} (h_ : C_genOr6.pre ls) : ∃ (x : LV) (f : Int) (d : Int), ls = [.l x, .i f, .i d] ∧ ((2 ≤ x.gi 0 0 ∧ x.gi 0 0 ≤ 64)) := by
  unfold C_genOr6 at h_; dsimp only at h_; split at h_
  · exact ⟨_, _, _, rfl, h_⟩
  · exact h_.elim
theorem genOr6_mk {x : LV} {f : Int} {d : Int} (h_ : (2 ≤ x.gi 0 0 ∧ x.gi 0 0 ≤ 64)) : C_genOr6.pre [.l x, .i f, .i d] := h_
theorem genOr6_res {x : LV} {f : Int} {d : Int} {rs_ : List Leaf} (h_ : rs_ = C_genOr6.fn [.l x, .i f, .i d]) : ∃ (q0 : Int), q0 = (genOr6 x f d) ∧ rs_ = [.i q0] := ⟨_, rfl, h_⟩
def phi_genOr6 : Fm := (.call 29 [] [(.i (.gi 0 0 (.i 0))), (.i (.v 1)), (.i (.v 2))] 3 (.and (.imp (.v 3) .false (.ret [(.i (.i 0))])) (.imp (.v 3) .true (.call 44 [] [(.i (.v 2))] 4 (.ob [] (.le (.i 0) (.v 1)) (.ob [] (.lt (.v 1) (.i 64)) (.ob [] (.le (.i 0) (.add (.i 1) (.mul (.v 1) (.i 2)))) (.ob [] (.le (.i 0) (.v 4)) (.ob [] (.lt (.v 4) (.i 2)) (.ob [] (.le (.i 0) (.add (.add (.i 1) (.mul (.v 1) (.i 2))) (.v 4))) (.ob [] (.lt (.add (.add (.i 1) (.mul (.v 1) (.i 2))) (.v 4)) (.i 129)) (.ret [(.i (.gi 0 0 (.add (.add (.i 1) (.mul (.v 1) (.i 2))) (.v 4))))]))))))))))))
def tbl_genOr6 : List (Nat × Ctr) := [(29, C_may6), (44, C_side6)]
theorem vc_genOr6 : vcgO Tryd.prog (sigT tbl_genOr6) [] Tryd.f28 C_genOr6.params C_genOr6.res = some phi_genOr6 := by kernel_rfl
--SPLIT
theorem genOr6_sound : C_genOr6.Sound Tryd.prog G 28 := by
  refine fn_okO mixed stable tbl_genOr6 [] Tryd.func28 (by kernel_rfl) phi_genOr6 vc_genOr6 ⟨may6_sound, side6_sound, trivial⟩ (fun _ _ _ => False) (fun _ _ _ => 0) ?_
  intro ls hp
  obtain ⟨x, f, d, rfl, hpre⟩ := genOr6_pre hp
  clear hp
  rw [envOf_lk]
  unfold phi_genOr6
  refine vg_call (C := C_may6) rfl rfl (xs := [.i (x.gi (Int.toNat (0 : Int)) 0), .i f, .i d]) rfl (fun hg => ?_) (fun rs hrs => ?_)
  ·
    refine may6_mk ?_
    -- leaf 1 (pre)
    subst_vars
    try simp only [decide_eq_true_eq, decide_eq_false_iff_not] at *
    try simp (disch := omega) only [wrap_in]
    grind
  obtain ⟨r3, hr3, rfl⟩ := may6_res hrs
  clear hrs
  change Fm.holds _ _ (lk [.l x, .i f, .i d, .b r3])
  refine ⟨fun hcond => ?_, fun hcond => ?_⟩
  ·
    have c1 : r3 = false := hcond
    clear hcond
    suffices hfin : ((0 : Int)) = (genOr6 x f d) from (c_i hfin rfl)
    -- leaf 2 (ret)
    unfold genOr6
    rw [show mayP (x.gi 0 0) f d = r3 from hr3.symm, c1]
    rfl
  ·
    have c2 : r3 = true := hcond
    clear hcond
    have hm : mayP (x.gi 0 0) f d = true := hr3.symm.trans c2
    have hr := mayP_rng hm
    have hs := sideI_rng d
    refine vg_call (C := C_side6) rfl rfl (xs := [.i d]) rfl (fun hg => ?_) (fun rs hrs => ?_)
    ·
      exact trivial
    obtain ⟨r4, hr4, rfl⟩ := side6_res hrs
    clear hrs
    change Fm.holds _ _ (lk [.l x, .i f, .i d, .b r3, .i r4])
    refine ⟨fun hg => ?_, ?_⟩
    ·
      show (decide ((0 : Int) ≤ f)) = true
      -- leaf 3 (ob)
      exact decide_eq_true (by omega)
    refine ⟨fun hg => ?_, ?_⟩
    ·
      show (decide (f < (64 : Int))) = true
      -- leaf 4 (ob)
      exact decide_eq_true (by omega)
    refine ⟨fun hg => ?_, ?_⟩
    ·
      show (decide ((0 : Int) ≤ ((1 : Int) + (f * (2 : Int))))) = true
      -- leaf 5 (ob)
      exact decide_eq_true (by omega)
    refine ⟨fun hg => ?_, ?_⟩
    ·
      show (decide ((0 : Int) ≤ r4)) = true
      -- leaf 6 (ob)
      exact decide_eq_true (by omega)
    refine ⟨fun hg => ?_, ?_⟩
    ·
      show (decide (r4 < (2 : Int))) = true
      -- leaf 7 (ob)
      exact decide_eq_true (by omega)
    refine ⟨fun hg => ?_, ?_⟩
    ·
      show (decide ((0 : Int) ≤ (((1 : Int) + (f * (2 : Int))) + r4))) = true
      -- leaf 8 (ob)
      exact decide_eq_true (by omega)
    refine ⟨fun hg => ?_, ?_⟩
    ·
      show (decide ((((1 : Int) + (f * (2 : Int))) + r4) < (129 : Int))) = true
      -- leaf 9 (ob)
      exact decide_eq_true (by omega)
    suffices hfin : ((x.gi (Int.toNat (((1 : Int) + (f * (2 : Int))) + r4)) 0)) = (genOr6 x f d) from (c_i hfin rfl)
    -- leaf 10 (ret)
    unfold genOr6
    rw [if_pos hm, hr4]
    rfl
def C_seeIs : Ctr := ⟨[.one (.opq), .one (.int .i64)], [.one (.bool)],
  fun | [.v e, .i c] => False | _ => False,
  fun | [.v _, .i _] => [.b (true)] | _ => []⟩
theorem seeIs_pre {ls : List Leaf} (h_ : C_seeIs.pre ls) : ∃ (e : Value) (c : Int), ls = [.v e, .i c] ∧ (False) := by
  unfold C_seeIs at h_; dsimp only at h_; split at h_
  · exact ⟨_, _, rfl, h_⟩
  · exact h_.elim
theorem seeIs_mk {e : Value} {c : Int} (h_ : False) : C_seeIs.pre [.v e, .i c] := h_
theorem seeIs_res {e : Value} {c : Int} {rs_ : List Leaf} (h_ : rs_ = C_seeIs.fn [.v e, .i c]) : ∃ (q0 : Bool), q0 = (true) ∧ rs_ = [.b q0] := ⟨_, rfl, h_⟩
theorem seeIs_sound : C_seeIs.Sound Tryd.prog G 22 := by
  refine Ctr.PSound.sound ⟨⟨_, Tryd.func22, by kernel_rfl, by kernel_rfl⟩, ?_⟩ rfl
  intro ls S w hG hp
  obtain ⟨e, c, rfl, hpre⟩ := seeIs_pre hp
  exact hpre.elim
end Go.Proofs.YtccdhkmohimfhaaDoor
