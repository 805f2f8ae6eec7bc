import Derived.Test.YtchjajnhbipkmaaDoorE
import Derived.Tactics
import Derived.Tactics2
import Derived.Laws.Pointers
import Derived.Laws.LoneSync
import Derived.RegionTactic
import Derived.RegionCalls
import Derived.Defers
import Derived.Laws.NewBlocks
import Derived.ChangeAlike
namespace Go.Proofs.YtchjajnhbipkmaaDoor
open Go.Vg
set_option linter.unusedVariables false
set_option linter.unusedSimpArgs false
open Go

theorem load_calls (b off : Nat) (x : Int) (w : World) (h0 : w.cell? ⟨b, off, none⟩ = some (.int .i64 x)) :
    Calls Tryd.prog 56 #[.pointer (some ⟨b, off, none⟩)] w fun e w' => e = .returned (.int .i64 x) ∧ w' = w := by
  have hl := run_call_load (P := Tryd.prog) Tryd.func76 (by kernel_rfl) (by kernel_rfl) (by kernel_rfl) .i64 (by kernel_rfl) h0
  go_enter Tryd.func56, Tryd.ntmps56
  go_wp2
  go_ret
  exact ⟨rfl, rfl⟩
theorem add_calls (b off : Nat) (x d s : Int) (hs : s = IntKind.wrap .i64 (x + d)) (w : World) (h0 : w.cell? ⟨b, off, none⟩ = some (.int .i64 x)) (hz : w.frozen? ⟨b, off, none⟩ = false) :
    Calls Tryd.prog 59 #[.pointer (some ⟨b, off, none⟩), .int .i64 d] w fun e w' => e = .returned (.int .i64 s) ∧ w' = w.setCell ⟨b, off, none⟩ (.int .i64 s) := by
  have hl := run_call_add (P := Tryd.prog) Tryd.func79 (by kernel_rfl) (by kernel_rfl) (by kernel_rfl) .i64 (by kernel_rfl) (y := d) (s := s) h0 hz (by rw [hs]; simp only [Op.intArith]; simp)
  clear hs
  go_enter Tryd.func59, Tryd.ntmps59
  go_wp2
  go_ret
  exact ⟨rfl, rfl⟩


def newRun (hc hf hs hd cp cdir cdo : Int) (crl : Bool) (ch s0 s1 s2 fl dr : Int) : LV := cellsLV (lk [.i hc, .i hf, .i hs, .i hd, .i cp, .i cdir, .i cdo, .b crl, .i ch, .i s0, .i s1, .i s2, .i fl, .i dr]) 1 [.int .i64 (.v 0), .int .i64 (.v 1), .int .i64 (.v 2), .int .i64 (.v 3), .int .i64 (.v 4), .int .i64 (.v 5), .int .i64 (.v 6), .bool (.v 7), .int .i64 (.v 8), .int .u64 (.v 9), .int .u64 (.v 10), .int .u64 (.v 11), .int .i64 (.v 12), .int .i64 (.v 13), .int .u32 (.i 0), .int .i32 (.i 0), .int .u32 (.i 0), .int .i64 (.i 0), .int .i64 (.i 0)]
def etaR (r : LV) : Int := etaP (r.gi 0 0) (r.gi 1 0) (r.gi 2 0) (r.gi 3 0) ⟨r.gi 4 0, r.gi 5 0, r.gi 6 0, r.gb 7 0, r.gi 8 0⟩ ⟨r.gi 9 0, r.gi 10 0, r.gi 11 0⟩ (r.gi 12 0) (r.gi 13 0)
def closR (r : LV) : LV := (r.upd 17 (etaR r)).upd 18 (IntKind.wrap .i64 (r.gi 18 0 + 1))
def ticksR (r : LV) : LV := if r.gi 14 0 = 0 then (closR r).upd 14 1 else r

def C_aload : Ctr := ⟨[.one (.cell .i64)], [.one (.int .i64)],
  fun | [.i _] => True | _ => False,
  fun | [.i x] => [.i (x)] | _ => []⟩
theorem aload_pre {ls : List Leaf} (h_ : C_aload.pre ls) : ∃ (x : Int), ls = [.i x] := by
  unfold C_aload at h_; dsimp only at h_; split at h_
  · exact ⟨_, rfl⟩
  · exact h_.elim
theorem aload_res {x : Int} {rs_ : List Leaf} (h_ : rs_ = C_aload.fn [.i x]) : ∃ (q0 : Int), q0 = (x) ∧ rs_ = [.i q0] := ⟨_, rfl, h_⟩
theorem aload_sound : C_aload.Sound Tryd.prog G 56 := by
  refine Ctr.PSound.sound ⟨⟨_, Tryd.func56, by kernel_rfl, by kernel_rfl⟩, ?_⟩ rfl
  intro ls S w hG hp hpar
  obtain ⟨x, rfl⟩ := aload_pre hp
  obtain ⟨b, off, hS, hc⟩ := hpar.2.2 (0, .i64) (by simp [C_aload, shCells, Sh.cells, resCells])
  have h := load_calls b off x w hc
  have hS : S 0 = _ := hS
  have ea : (([TV.one (.lst 0)] : List TV).map (TV.val (envOf [.i x]) S β0)).toArray = #[.pointer (some ⟨b, off, none⟩)] := by
    simp only [List.map_cons, List.map_nil, TV.val, CV.val, hS, asSl]
  show Calls Tryd.prog 56 (([TV.one (.lst 0)] : List TV).map (TV.val (envOf [.i x]) S β0)).toArray w _
  rw [ea]
  refine h.mono ?_
  · rintro e w' ⟨rfl, rfl⟩
    exact ⟨Go.RowKit.Below.refl _ _, _, rfl, fun _ => undef, rfl, fun p hp => by cases hp⟩
def C_aadd : Ctr := ⟨[.one (.mcell .i64), .one (.int .i64)], [.one (.int .i64)],
  fun | [.i _, .i _] => True | _ => False,
  fun | [.i x, .i d] => [.i (IntKind.wrap .i64 (x + d)), .i (IntKind.wrap .i64 (x + d))] | _ => []⟩
theorem aadd_pre {ls : List Leaf} (h_ : C_aadd.pre ls) : ∃ (x : Int) (d : Int), ls = [.i x, .i d] := by
  unfold C_aadd at h_; dsimp only at h_; split at h_
  · exact ⟨_, _, rfl⟩
  · exact h_.elim
theorem aadd_res {x : Int} {d : Int} {rs_ : List Leaf} (h_ : rs_ = C_aadd.fn [.i x, .i d]) : ∃ (q0 : Int) (q1 : Int), q0 = (IntKind.wrap .i64 (x + d)) ∧ q1 = (IntKind.wrap .i64 (x + d)) ∧ rs_ = [.i q0, .i q1] := ⟨_, _, rfl, rfl, h_⟩
theorem aadd_sound : C_aadd.Sound Tryd.prog G 59 := by
  refine Ctr.CSound.sound ⟨⟨_, Tryd.func59, by kernel_rfl, by kernel_rfl⟩, ?_⟩ rfl
  intro ls S w b off cells t k hG hp hpar hk hS hheap hcell
  obtain ⟨x, d, rfl⟩ := aadd_pre hp
  have hk : IntKind.i64 = k := Option.some.inj hk
  subst hk
  obtain ⟨h1, h2, h3⟩ := cell_facts hheap hcell
  have h1 : w.cell? ⟨b, off, none⟩ = some (.int .i64 x) := h1
  have h := add_calls b off x d _ rfl w h1 h2
  have ea : (([TV.one (.lst 0), .one (.int .i64 (.v 1))] : List TV).map (TV.val (envOf [.i x, .i d]) S β0)).toArray = #[.pointer (some ⟨b, off, none⟩), .int .i64 d] := by
    simp only [List.map_cons, List.map_nil, TV.val, CV.val, hS, asSl]
    rfl
  show Calls Tryd.prog 59 (([TV.one (.lst 0), .one (.int .i64 (.v 1))] : List TV).map (TV.val (envOf [.i x, .i d]) S β0)).toArray w _
  rw [ea]
  refine h.mono ?_
  · rintro e w' ⟨rfl, rfl⟩
    exact ⟨h3 _, _, rfl, rfl⟩
def C_enew : Ctr := ⟨[.agg [.int .i64, .int .i64, .int .i64, .int .i64], .agg [.int .i64, .int .i64, .int .i64, .bool, .int .i64], .agg [.int .u64, .int .u64, .int .u64], .agg [.int .i64, .int .i64]], [.one (.new 3 false)],
  fun | [.i _, .i _, .i _, .i _, .i _, .i _, .i _, .b _, .i _, .i _, .i _, .i _, .i _, .i _] => True | _ => False,
  fun | [.i hc, .i hf, .i hs, .i hd, .i cp, .i cdir, .i cdo, .b crl, .i ch, .i s0, .i s1, .i s2, .i fl, .i dr] => [.l (newRun hc hf hs hd cp cdir cdo crl ch s0 s1 s2 fl dr)] | _ => []⟩
theorem enew_pre {ls : List Leaf} (h_ : C_enew.pre ls) : ∃ (hc : Int) (hf : Int) (hs : Int) (hd : Int) (cp : Int) (cdir : Int) (cdo : Int) (crl : Bool) (ch : Int) (s0 : Int) (s1 : Int) (s2 : Int) (fl : Int) (dr : Int), ls = [.i hc, .i hf, .i hs, .i hd, .i cp, .i cdir, .i cdo, .b crl, .i ch, .i s0, .i s1, .i s2, .i fl, .i dr] := by
  unfold C_enew at h_; dsimp only at h_; split at h_
  · exact ⟨_, _, _, _, _, _, _, _, _, _, _, _, _, _, rfl⟩
  · exact h_.elim
theorem enew_res {hc : Int} {hf : Int} {hs : Int} {hd : Int} {cp : Int} {cdir : Int} {cdo : Int} {crl : Bool} {ch : Int} {s0 : Int} {s1 : Int} {s2 : Int} {fl : Int} {dr : Int} {rs_ : List Leaf} (h_ : rs_ = C_enew.fn [.i hc, .i hf, .i hs, .i hd, .i cp, .i cdir, .i cdo, .b crl, .i ch, .i s0, .i s1, .i s2, .i fl, .i dr]) : ∃ (q0 : LV), q0 = (newRun hc hf hs hd cp cdir cdo crl ch s0 s1 s2 fl dr) ∧ rs_ = [.l q0] := ⟨_, rfl, h_⟩
def phi_enew : Fm := (.lett (.c 1 .nilp [(.int .i64 (.v 0)), (.int .i64 (.v 1)), (.int .i64 (.v 2)), (.int .i64 (.v 3)), (.int .i64 (.v 4)), (.int .i64 (.v 5)), (.int .i64 (.v 6)), (.bool (.v 7)), (.int .i64 (.v 8)), (.int .u64 (.v 9)), (.int .u64 (.v 10)), (.int .u64 (.v 11)), (.int .i64 (.v 12)), (.int .i64 (.v 13)), (.int .u32 (.i 0)), (.int .i32 (.i 0)), (.int .u32 (.i 0)), (.int .i64 (.i 0)), (.int .i64 (.i 0))]) 14 (.ret [(.o 14 (.ptr 4 0))]))
def tbl_enew : List (Nat × Ctr) := []
theorem vc_enew : vcgO Tryd.prog (sigT tbl_enew) [⟨1, [], [], [], [], none, [(4, 3)]⟩] Tryd.f37 C_enew.params C_enew.res = some phi_enew := by kernel_rfl
--SPLIT
theorem enew_sound : C_enew.Sound Tryd.prog G 37 := by
  refine fn_okO mixed stable tbl_enew [⟨1, [], [], [], [], none, [(4, 3)]⟩] Tryd.func37 (by kernel_rfl) phi_enew vc_enew trivial (fun _ _ _ => False) (fun _ _ _ => 0) ?_
  intro ls hp
  obtain ⟨hc, hf, hs, hd, cp, cdir, cdo, crl, ch, s0, s1, s2, fl, dr, rfl⟩ := enew_pre hp
  clear hp
  rw [envOf_lk]
  unfold phi_enew
  refine vg_lett rfl (x := _) rfl (fun r14 hr14 => ?_)
  change Fm.holds _ _ (lk [.i hc, .i hf, .i hs, .i hd, .i cp, .i cdir, .i cdo, .b crl, .i ch, .i s0, .i s1, .i s2, .i fl, .i dr, .l r14])
  suffices hfin : (r14) = (newRun hc hf hs hd cp cdir cdo crl ch s0 s1 s2 fl dr) from (c_l hfin rfl)
  -- leaf 1 (ret)
  subst_vars
  rfl
def C_etimes : Ctr := ⟨[.one (.obj 3)], [.one (.int .i64)],
  fun | [.l _] => True | _ => False,
  fun | [.l r] => [.i (r.gi 18 0)] | _ => []⟩
theorem etimes_pre {ls : List Leaf} (h_ : C_etimes.pre ls) : ∃ (r : LV), ls = [.l r] := by
  unfold C_etimes at h_; dsimp only at h_; split at h_
  · exact ⟨_, rfl⟩
  · exact h_.elim
theorem etimes_res {r : LV} {rs_ : List Leaf} (h_ : rs_ = C_etimes.fn [.l r]) : ∃ (q0 : Int), q0 = (r.gi 18 0) ∧ rs_ = [.i q0] := ⟨_, rfl, h_⟩
def phi_etimes : Fm := (.call 56 [] [(.p (.gi 0 0 (.i 18)) (.ptr 0 18))] 1 (.ret [(.i (.v 1))]))
def tbl_etimes : List (Nat × Ctr) := [(56, C_aload)]
theorem vc_etimes : vcgO Tryd.prog (sigT tbl_etimes) [] Tryd.f38 C_etimes.params C_etimes.res = some phi_etimes := by kernel_rfl
--SPLIT
theorem etimes_sound : C_etimes.Sound Tryd.prog G 38 := by
  refine fn_okO mixed stable tbl_etimes [] Tryd.func38 (by kernel_rfl) phi_etimes vc_etimes ⟨aload_sound, trivial⟩ (fun _ _ _ => False) (fun _ _ _ => 0) ?_
  intro ls hp
  obtain ⟨r, rfl⟩ := etimes_pre hp
  clear hp
  rw [envOf_lk]
  unfold phi_etimes
  refine vg_call (C := C_aload) rfl rfl (xs := [.i (r.gi (Int.toNat (18 : Int)) 0)]) rfl (fun hg => ?_) (fun rs hrs => ?_)
  ·
    exact trivial
  obtain ⟨r1, hr1, rfl⟩ := aload_res hrs
  clear hrs
  change Fm.holds _ _ (lk [.l r, .i r1])
  suffices hfin : (r1) = (r.gi 18 0) from (c_i hfin rfl)
  -- leaf 1 (ret)
  subst_vars
  try simp only [decide_eq_true_eq, decide_eq_false_iff_not] at *
  try simp (disch := omega) only [wrap_in]
  grind
def C_eclos : Ctr := ⟨[.one (.mut 3)], [],
  fun | [.l r] => -9223372036854775808 ≤ r.gi 6 0 ∧ r.gi 6 0 < 9223372036854775808 | _ => False,
  fun | [.l r] => [.l (closR r)] | _ => []⟩
theorem eclos_pre {ls : List Leaf} (h_ : C_eclos.pre ls) : ∃ (r : LV), ls = [.l r] ∧ (-9223372036854775808 ≤ r.gi 6 0 ∧ r.gi 6 0 < 9223372036854775808) := by
  unfold C_eclos at h_; dsimp only at h_; split at h_
  · exact ⟨_, rfl, h_⟩
  · exact h_.elim
theorem eclos_mk {r : LV} (h_ : -9223372036854775808 ≤ r.gi 6 0 ∧ r.gi 6 0 < 9223372036854775808) : C_eclos.pre [.l r] := h_
theorem eclos_res {r : LV} {rs_ : List Leaf} (h_ : rs_ = C_eclos.fn [.l r]) : ∃ (q0 : LV), q0 = (closR r) ∧ rs_ = [.l q0] := ⟨_, rfl, h_⟩
def phi_eclos : Fm := (.call 35 [] [(.i (.gi 0 0 (.i 0))), (.i (.gi 0 0 (.i 1))), (.i (.gi 0 0 (.i 2))), (.i (.gi 0 0 (.i 3))), (.i (.gi 0 0 (.i 4))), (.i (.gi 0 0 (.i 5))), (.i (.gi 0 0 (.i 6))), (.b (.gb 0 0 (.i 7))), (.i (.gi 0 0 (.i 8))), (.i (.gi 0 0 (.i 9))), (.i (.gi 0 0 (.i 10))), (.i (.gi 0 0 (.i 11))), (.i (.gi 0 0 (.i 12))), (.i (.gi 0 0 (.i 13)))] 1 (.lett (.upd 0 (.i 17) (.v 1)) 2 (.call 59 [] [(.p (.gi 2 0 (.i 18)) (.ptr 0 18)), (.i (.i 1))] 3 (.lett (.upd 2 (.i 18) (.v 3)) 5 (.ret [(.l 5)])))))
def tbl_eclos : List (Nat × Ctr) := [(35, C_eta), (59, C_aadd)]
theorem vc_eclos : vcgC Tryd.prog (sigT tbl_eclos) [] Tryd.f58 3 72 = some phi_eclos := by kernel_rfl
--SPLIT
theorem eclos_caps {r : LV} (hpre : -9223372036854775808 ≤ r.gi 6 0 ∧ r.gi 6 0 < 9223372036854775808) {w : World} {b v : Nat} (hbv : b ≠ v) (ho : IsObj 3 w.heap [b] r) (hv : w.heap[v]? = some (.cells #[.pointer (some ⟨b, 0, none⟩)] 72 (0, 0))) (hG : GOk G ⟨w, [b, v], [b, v]⟩) :
    Calls Tryd.prog 58 #[.pointer (some ⟨v, 0, none⟩)] w fun e w' => e = .returned (.tuple #[]) ∧ BelowX [b, v] w w' ∧ w'.heap[v]? = some (.cells #[.pointer (some ⟨b, 0, none⟩)] 72 (0, 0)) ∧ IsObj 3 w'.heap [b] (closR r) := by
  refine (vcgC_ok mixed stable Tryd.func58 vc_eclos (Γ := ⟨ctrT tbl_eclos, (fun _ _ => False), (fun _ _ => 0), fun rs => rs = [.l (closR r)]⟩) (sigT_ok (show AllSound Tryd.prog G tbl_eclos from ⟨eta_sound, aadd_sound, trivial⟩)) ?_ hbv ho hv hG).mono ?_
  · rw [envOf_lk]
    unfold phi_eclos
    refine vg_call (C := C_eta) rfl rfl (xs := [.i (r.gi (Int.toNat (0 : Int)) 0), .i (r.gi (Int.toNat (1 : Int)) 0), .i (r.gi (Int.toNat (2 : Int)) 0), .i (r.gi (Int.toNat (3 : Int)) 0), .i (r.gi (Int.toNat (4 : Int)) 0), .i (r.gi (Int.toNat (5 : Int)) 0), .i (r.gi (Int.toNat (6 : Int)) 0), .b (r.gb (Int.toNat (7 : Int)) 0), .i (r.gi (Int.toNat (8 : Int)) 0), .i (r.gi (Int.toNat (9 : Int)) 0), .i (r.gi (Int.toNat (10 : Int)) 0), .i (r.gi (Int.toNat (11 : Int)) 0), .i (r.gi (Int.toNat (12 : Int)) 0), .i (r.gi (Int.toNat (13 : Int)) 0)]) rfl (fun hg => ?_) (fun rs hrs => ?_)
    ·
      refine eta_mk ?_
      -- leaf 1 (pre)
      subst_vars
      try simp only [decide_eq_true_eq, decide_eq_false_iff_not] at *
      try simp (disch := omega) only [wrap_in]
      grind
    obtain ⟨r1, hr1, rfl⟩ := eta_res hrs
    clear hrs
    change Fm.holds _ _ (lk [.l r, .i r1])
    refine vg_lett rfl (x := (LV.upd r (17 : Int) r1)) rfl (fun r2 hr2 => ?_)
    change Fm.holds _ _ (lk [.l r, .i r1, .l r2])
    refine vg_call (C := C_aadd) rfl rfl (xs := [.i (r2.gi (Int.toNat (18 : Int)) 0), .i (1 : Int)]) rfl (fun hg => ?_) (fun rs hrs => ?_)
    ·
      exact trivial
    obtain ⟨r3, r4, hr3, hr4, rfl⟩ := aadd_res hrs
    clear hrs
    change Fm.holds _ _ (lk [.l r, .i r1, .l r2, .i r3, .i r4])
    refine vg_lett rfl (x := (LV.upd r2 (18 : Int) r3)) rfl (fun r5 hr5 => ?_)
    change Fm.holds _ _ (lk [.l r, .i r1, .l r2, .i r3, .i r4, .l r5])
    suffices hfin : (r5) = (closR r) from (c_l hfin rfl)
    -- leaf 2 (ret)
    subst_vars
    rfl
  · rintro e w' ⟨h1, h2, h3, r', h4, h5⟩
    have h4 : [Leaf.l r'] = [.l (closR r)] := h4
    injection h4 with h4 _
    injection h4 with h4
    subst h4
    exact ⟨h1, h2, h3, h5⟩
def C_eticks : Ctr := ⟨[.one (.mut 3)], [.one (.int .i64)],
  fun | [.l r] => r.gi 15 0 = 0 ∧ -9223372036854775808 ≤ r.gi 6 0 ∧ r.gi 6 0 < 9223372036854775808 | _ => False,
  fun | [.l r] => [.l (ticksR r), .i ((ticksR r).gi 17 0)] | _ => []⟩
theorem eticks_pre {ls : List Leaf} (h_ : C_eticks.pre ls) : ∃ (r : LV), ls = [.l r] ∧ (r.gi 15 0 = 0 ∧ -9223372036854775808 ≤ r.gi 6 0 ∧ r.gi 6 0 < 9223372036854775808) := by
  unfold C_eticks at h_; dsimp only at h_; split at h_
  · exact ⟨_, rfl, h_⟩
  · exact h_.elim
theorem eticks_mk {r : LV} (h_ : r.gi 15 0 = 0 ∧ -9223372036854775808 ≤ r.gi 6 0 ∧ r.gi 6 0 < 9223372036854775808) : C_eticks.pre [.l r] := h_
theorem eticks_res {r : LV} {rs_ : List Leaf} (h_ : rs_ = C_eticks.fn [.l r]) : ∃ (q0 : LV) (q1 : Int), q0 = (ticksR r) ∧ q1 = ((ticksR r).gi 17 0) ∧ rs_ = [.l q0, .i q1] := ⟨_, _, rfl, rfl, h_⟩
theorem BelowX.trans {X : List Nat} {a b c : World} (h : BelowX X a b) (h2 : BelowX X b c) : BelowX X a c :=
  ⟨h2.os.trans h.os, h2.tape.trans h.tape, h2.output.trans h.output, Nat.le_trans h.size h2.size, fun k hk hm => (h2.block k (Nat.lt_of_lt_of_le hk h.size) hm).trans (h.block k hk hm)⟩
theorem BelowX.more {X Y : List Nat} {a b : World} (h : BelowX X a b) (hs : ∀ k, k ∈ X → k ∈ Y) : BelowX Y a b :=
  ⟨h.os, h.tape, h.output, h.size, fun k hk hm => h.block k hk (fun hx => hm (hs k hx))⟩
theorem BelowX.drewX {X : List Nat} {a b : World} (h : BelowX X a b) : BelowX X a b.drew := ⟨h.os, h.tape, h.output, h.size, h.block⟩
theorem obj_cell {c : Nat} {ks : List EK} (hk : flatK c = some ks) {w : World} {b : Nat} {r : LV} (ho : IsObj c w.heap [b] r) {j : Nat} {k : IntKind} (hj : ks[j]? = some (.int k)) :
    w.cell? ⟨b, j, none⟩ = some (.int k (r.gi j 0)) ∧ w.frozen? ⟨b, j, none⟩ = false ∧ ∀ v, BelowX [b] w (w.setCell ⟨b, j, none⟩ (.int k v)) ∧ IsObj c (w.setCell ⟨b, j, none⟩ (.int k v)).heap [b] (r.upd (j : Int) v) := by
  unfold IsObj at ho
  rw [hk] at ho
  obtain ⟨b', t, hb, h1⟩ := ho
  cases hb
  have h2 := flatVals_get 0 ks r j _ hj
  rw [Nat.zero_add] at h2
  obtain ⟨h3, h4, h5⟩ := cell_facts h1 h2
  refine ⟨h3, h4, fun v => ⟨(h5 _).1, ?_⟩⟩
  unfold IsObj
  rw [hk]
  refine ⟨b, t, rfl, ?_⟩
  rw [(h5 _).2, flatVals_upd (k := k) (by simpa using hj)]
  rfl
theorem obj_drew {c : Nat} {w : World} {F : List Nat} {r : LV} (h : IsObj c w.heap F r) : IsObj c w.drew.heap F r := h
theorem disable (w : World) : (callFunc 103 #[]).run Tryd.prog w = .ok (.value (.tuple #[])) w := run_call_mark0 Tryd.func103 (by kernel_rfl) (by kernel_rfl) (by kernel_rfl) .disable (by kernel_rfl) w
theorem enable (w : World) : (callFunc 105 #[]).run Tryd.prog w = .ok (.value (.tuple #[])) w := run_call_mark0 Tryd.func105 (by kernel_rfl) (by kernel_rfl) (by kernel_rfl) .enable (by kernel_rfl) w
theorem acquire (a : Addr) (w : World) : (callFunc 106 #[.pointer (some a)]).run Tryd.prog w = .ok (.value (.tuple #[])) w := run_call_marked Tryd.func106 (by kernel_rfl) (by kernel_rfl) (by kernel_rfl) .acquire (by kernel_rfl) a w
theorem releaseMerge (a : Addr) (w : World) : (callFunc 108 #[.pointer (some a)]).run Tryd.prog w = .ok (.value (.tuple #[])) w := run_call_marked Tryd.func108 (by kernel_rfl) (by kernel_rfl) (by kernel_rfl) .releaseMerge (by kernel_rfl) a w
theorem store_deferred (a : Addr) (x : Value) (u : FrameMode) (w : World) (hc : w.cell? a = some x) (hz : w.frozen? a = false) :
    CallsD Tryd.prog 88 #[.pointer (some a), .bool true] u w fun e u' w' => u' = u ∧ (e = .returned (.tuple #[]) ∧ w' = w.drew.setCell a (.int .u32 1)) := by
  have hc' : w.drew.cell? a = some x := by go_simp
  have hz' : w.drew.frozen? a = false := by go_simp
  have hst := run_call_store (P := Tryd.prog) Tryd.func96 (by kernel_rfl) (by kernel_rfl) (by kernel_rfl) (by kernel_rfl) (k := .u32) (y := 1) hc' hz'
  go_enter_d Tryd.func88, Tryd.ntmps88
  go_wp2
  go_region_calls
  all_goals (go_end0; exact ⟨rfl, rfl⟩)
set_option maxRecDepth 100000 in
theorem unlock_deferred (a : Addr) (u : FrameMode) (w : World) (hc : w.cell? a = some (.int .i32 1)) (hz : w.frozen? a = false) :
    CallsD Tryd.prog 87 #[.pointer (some a)] u w fun e u' w' => u' = u ∧ (e = .returned (.tuple #[]) ∧ w' = w.setCell a (.int .i32 0)) := by
  have hd := disable
  have he := enable
  have hr := releaseMerge
  have hadd := run_call_add (P := Tryd.prog) Tryd.func109 (by kernel_rfl) (by kernel_rfl) (by kernel_rfl) .i32 (by kernel_rfl) (y := -1) (s := 0) hc hz (by simp [go_sem]; rfl)
  have hcv := run_convert_to_unsafe (P := Tryd.prog) (src := 153) (dst := 157) Tryd.underlying153 Tryd.underlying157 (by kernel_rfl) hc
  go_enter_d Tryd.func87, Tryd.ntmps87
  go_wp2
  go_end0
  go_wp2
  go_end0
  exact ⟨rfl, rfl⟩
set_option maxRecDepth 100000 in
theorem lock_free (a : Addr) (w : World) (hc : w.cell? a = some (.int .i32 0)) (hz : w.frozen? a = false) :
    Calls Tryd.prog 86 #[.pointer (some a)] w fun e w' => e = .returned (.tuple #[]) ∧ w' = w.setCell a (.int .i32 1) := by
  have hd := disable
  have he := enable
  have ha := acquire
  have hcas := run_call_cas_hit (P := Tryd.prog) Tryd.func104 (by kernel_rfl) (by kernel_rfl) (by kernel_rfl) .i32 (by kernel_rfl) (y := 1) hc hz
  have hc' : (w.setCell a (.int .i32 1)).cell? a = some (.int .i32 1) := World.cell?_setCell_same w a _ hc
  have hcv := run_convert_to_unsafe (P := Tryd.prog) (src := 153) (dst := 157) Tryd.underlying153 Tryd.underlying157 (by kernel_rfl) hc'
  go_enter Tryd.func86, Tryd.ntmps86
  go_wp2
  first | go_end0 | (simp only [Exit.inBlock, Exit.then]; refine bodyPost_ret (results_none rfl _ _ _) rfl ?_) | refine bodyPost_ret (results_none rfl _ _ _) rfl ?_
  go_wp2
  go_end0
  exact ⟨rfl, rfl⟩
set_option maxRecDepth 100000 in
set_option maxHeartbeats 1600000 in
theorem slow_first (b v : Nat) (hbv : b ≠ v) (r : LV) (hpre : -9223372036854775808 ≤ r.gi 6 0 ∧ r.gi 6 0 < 9223372036854775808) (h14 : r.gi 14 0 = 0) (h15 : r.gi 15 0 = 0) (w : World) (hG : GOk G ⟨w, [b, v], [b, v]⟩)
    (ho : IsObj 3 w.heap [b] r) (hv : w.heap[v]? = some (.cells #[.pointer (some ⟨b, 0, none⟩)] 72 (0, 0))) :
    Calls Tryd.prog 78 #[.pointer (some ⟨b, 14, none⟩), .func (.func 58) #[] #[.pointer (some ⟨v, 0, none⟩)]] w fun e w' => e = .returned (.tuple #[]) ∧
      BelowX [b, v] w w' ∧ w'.heap[v]? = some (.cells #[.pointer (some ⟨b, 0, none⟩)] 72 (0, 0)) ∧ ∃ r', IsObj 3 w'.heap [b] r' ∧ flatVals 0 (flatK 3).get! r' = flatVals 0 (flatK 3).get! (ticksR r) := by
  have c15 := obj_cell (k := .i32) rfl ho (j := 15) rfl
  rw [h15] at c15
  obtain ⟨l1, l2, l3⟩ := c15
  obtain ⟨l4, l5⟩ := l3 1
  have ho1 : IsObj 3 (w.setCell ⟨b, 15, none⟩ (.int .i32 1)).heap [b] (r.upd 15 1) := l5
  have hv1 : (w.setCell ⟨b, 15, none⟩ (.int .i32 1)).heap[v]? = some (.cells #[.pointer (some ⟨b, 0, none⟩)] 72 (0, 0)) := by
    simp only [World.setCell, Array.getElem?_modify, if_neg hbv]
    exact hv
  have c14 := (obj_cell (k := .u32) rfl ho1 (j := 14) rfl).1
  have g14 : (r.upd 15 1).gi 14 0 = 0 := h14
  rw [g14] at c14
  have hl := run_call_load (P := Tryd.prog) Tryd.func85 (by kernel_rfl) (by kernel_rfl) (by kernel_rfl) .u32 (by kernel_rfl) (w := w.setCell ⟨b, 15, none⟩ (.int .i32 1)) (a := ⟨b, 14, none⟩) (x := 0) c14
  have hnot : ∀ (x : Bool) (w : World), (Op.unary .not (.bool x)).run Tryd.prog w = .ok (.bool (!x)) w := fun _ _ => rfl
  have hG1 : GOk G ⟨w.setCell ⟨b, 15, none⟩ (.int .i32 1), [b, v], [b, v]⟩ := fun w2 h2 => hG w2 (BelowX.trans (BelowX.more l4 (by simp)) h2)
  have hclos := eclos_caps (r := r.upd 15 1) hpre hbv ho1 hv1 hG1
  go_enter_defers Tryd.func78, Tryd.ntmps78
  go_wp2_with (go_at_call 86; refine (lock_free ⟨b, 15, none⟩ _ l1 l2).mono ?_; rintro e w' ⟨rfl, rfl⟩)
  go_wp2_with (first | (go_at_call 58; refine hclos.mono ?_; rintro e w2 ⟨rfl, k1, k2, k3⟩) | (go_at_call 77; go_in))
  -- two deferred calls, the last laid first
  have d14 := obj_cell (k := .u32) rfl k3 (j := 14) rfl
  have e14 := (obj_cell (w := w2.drew) (k := .u32) rfl (obj_drew k3) (j := 14) rfl).2.2 1
  have f15 := obj_cell (k := .i32) rfl e14.2 (j := 15) rfl
  have f1 : ((w2.drew.setCell ⟨b, 14, none⟩ (.int .u32 1))).cell? ⟨b, 15, none⟩ = some (.int .i32 1) := f15.1
  have f2 := f15.2.2 0
  refine leaves_cons (f := 88) (args := #[.pointer (some ⟨b, 14, none⟩), .bool true]) (by simp) (by simp [go_sem]) ?_
  refine (store_deferred ⟨b, 14, none⟩ _ .returning _ d14.1 d14.2.1).mono ?_
  rintro e u' w3 ⟨rfl, rfl, rfl⟩
  refine leaves_cons (f := 87) (args := #[.pointer (some ⟨b, 15, none⟩)]) (by simp [settle]) (by simp [go_sem]) ?_
  refine (unlock_deferred ⟨b, 15, none⟩ _ _ f1 f15.2.1).mono ?_
  rintro e u' w4 ⟨rfl, rfl, rfl⟩
  have q1 : BelowX [b, v] w (((w2.drew.setCell ⟨b, 14, none⟩ (.int .u32 1))).setCell ⟨b, 15, none⟩ (.int .i32 0)) :=
    BelowX.trans (BelowX.more l4 (by simp)) (BelowX.trans (BelowX.drewX k1) (BelowX.trans (BelowX.more e14.1 (by simp)) (BelowX.more f2.1 (by simp))))
  have q2 : (((w2.drew.setCell ⟨b, 14, none⟩ (.int .u32 1))).setCell ⟨b, 15, none⟩ (.int .i32 0)).heap[v]? = some (.cells #[.pointer (some ⟨b, 0, none⟩)] 72 (0, 0)) := by
    simp only [World.setCell, Array.getElem?_modify, if_neg hbv]
    exact k2
  simp only [Leaves, settle]
  refine ⟨.tuple #[], results_none rfl _ _ _, rfl, q1, q2, _, f2.2, ?_⟩
  have e1 : etaR (r.upd 15 1) = etaR r := rfl
  simp [flatK, flatVals, ticksR, h14, h15, closR, e1, LV.upd, EK.val]
  rfl
set_option maxRecDepth 100000 in
set_option maxHeartbeats 1600000 in
theorem do_first (b v : Nat) (hbv : b ≠ v) (r : LV) (hpre : -9223372036854775808 ≤ r.gi 6 0 ∧ r.gi 6 0 < 9223372036854775808) (h14 : r.gi 14 0 = 0) (h15 : r.gi 15 0 = 0) (w : World) (hG : GOk G ⟨w, [b, v], [b, v]⟩)
    (ho : IsObj 3 w.heap [b] r) (hv : w.heap[v]? = some (.cells #[.pointer (some ⟨b, 0, none⟩)] 72 (0, 0))) :
    Calls Tryd.prog 57 #[.pointer (some ⟨b, 14, none⟩), .func (.func 58) #[] #[.pointer (some ⟨v, 0, none⟩)]] w fun e w' => e = .returned (.tuple #[]) ∧
      BelowX [b, v] w w' ∧ w'.heap[v]? = some (.cells #[.pointer (some ⟨b, 0, none⟩)] 72 (0, 0)) ∧ ∃ r', IsObj 3 w'.heap [b] r' ∧ flatVals 0 (flatK 3).get! r' = flatVals 0 (flatK 3).get! (ticksR r) := by
  have c14 := (obj_cell (k := .u32) rfl ho (j := 14) rfl).1
  rw [h14] at c14
  have hl := run_call_load (P := Tryd.prog) Tryd.func85 (by kernel_rfl) (by kernel_rfl) (by kernel_rfl) .u32 (by kernel_rfl) c14
  have hnot : ∀ (x : Bool) (w : World), (Op.unary .not (.bool x)).run Tryd.prog w = .ok (.bool (!x)) w := fun _ _ => rfl
  have hs := slow_first b v hbv r hpre h14 h15 w hG ho hv
  go_enter Tryd.func57, Tryd.ntmps57
  go_wp2_with (first | (go_at_call 78; refine hs.mono ?_; rintro e w2 ⟨rfl, k1, k2, k3⟩) | (go_at_call 77; go_in))
  go_end0
  exact ⟨rfl, k1, k2, k3⟩
set_option maxRecDepth 100000 in
set_option maxHeartbeats 1600000 in
theorem do_done (a : Addr) (d : Int) (hd : ¬ d = 0) (fv : Value) (w : World) (h0 : w.cell? a = some (.int .u32 d)) :
    Calls Tryd.prog 57 #[.pointer (some a), fv] w fun e w' => e = .returned (.tuple #[]) ∧ w' = w := by
  have hl := run_call_load (P := Tryd.prog) Tryd.func85 (by kernel_rfl) (by kernel_rfl) (by kernel_rfl) .u32 (by kernel_rfl) h0
  have hnot : ∀ (x : Bool) (w : World), (Op.unary .not (.bool x)).run Tryd.prog w = .ok (.bool (!x)) w := fun _ _ => rfl
  have hd' : (d != 0) = true := by simp [hd]
  go_enter Tryd.func57, Tryd.ntmps57
  go_wp2
  go_end0
  exact ⟨rfl, rfl⟩
theorem al_old (w : World) (o : Obj) {k : Nat} (h : k < w.heap.size) : (w.alloc o).heap[k]? = w.heap[k]? := by
  show (w.heap.push o)[k]? = _
  rw [Array.getElem?_push, if_neg (by omega)]
theorem al_new (w : World) (o : Obj) : (w.alloc o).heap[w.heap.size]? = some o := by
  show (w.heap.push o)[w.heap.size]? = _
  rw [Array.getElem?_push, if_pos rfl]
theorem al_size (w : World) (o : Obj) : (w.alloc o).heap.size = w.heap.size + 1 := by
  show (w.heap.push o).size = _
  rw [Array.size_push]
theorem obj_congr {c : Nat} {ks : List EK} (hk : flatK c = some ks) {h : Array Obj} {F : List Nat} {x y : LV} (ho : IsObj c h F x) (e : flatVals 0 ks x = flatVals 0 ks y) : IsObj c h F y := by
  unfold IsObj at ho ⊢
  rw [hk] at ho ⊢
  obtain ⟨b, t, h1, h2⟩ := ho
  exact ⟨b, t, h1, by rw [← e]; exact h2⟩
set_option maxRecDepth 100000 in
set_option maxHeartbeats 1600000 in
theorem ticks_calls (b : Nat) (r : LV) (hpre : r.gi 15 0 = 0 ∧ -9223372036854775808 ≤ r.gi 6 0 ∧ r.gi 6 0 < 9223372036854775808) (w : World) (hG : GOk G ⟨w, [b], []⟩) (ho : IsObj 3 w.heap [b] r) :
    Calls Tryd.prog 39 #[.pointer (some ⟨b, 0, none⟩)] w fun e w' => e = .returned (.int .i64 ((ticksR r).gi 17 0)) ∧ BelowX [b] w w' ∧ IsObj 3 w'.heap [b] (ticksR r) := by
  have hmf : ∀ (fn : Fn) (first cap : Array Value) (w : World), (Instr.makeFunc fn first cap).run Tryd.prog w = .ok (.func fn first cap) w := fun _ _ _ _ => rfl
  have hb : b < w.heap.size := ho.lt b (List.mem_singleton.2 rfl)
  have hbv : b ≠ w.heap.size := by omega
  have ho1 : IsObj 3 (w.alloc (.cells #[.pointer (some ⟨b, 0, none⟩)] 72)).heap [b] r := ho.frame fun k hk => by
    rw [List.mem_singleton.1 hk]
    exact al_old w _ hb
  have hv1 : (w.alloc (.cells #[.pointer (some ⟨b, 0, none⟩)] 72)).heap[w.heap.size]? = some (.cells #[.pointer (some ⟨b, 0, none⟩)] 72 (0, 0)) := al_new w _
  have b1 : BelowX [b] w (w.alloc (.cells #[.pointer (some ⟨b, 0, none⟩)] 72)) := ⟨rfl, rfl, rfl, by rw [al_size]; omega, fun k hk _ => al_old w _ hk⟩
  have back : ∀ w', BelowX [b, w.heap.size] (w.alloc (.cells #[.pointer (some ⟨b, 0, none⟩)] 72)) w' → BelowX [b] w w' := fun w' h => ⟨h.os, h.tape, h.output, Nat.le_trans b1.size h.size, fun k hk hm => by
    rw [h.block k (by rw [al_size]; omega) (by simp at hm ⊢; exact ⟨hm, by omega⟩)]
    exact b1.block k hk hm⟩
  have hG1 : GOk G ⟨w.alloc (.cells #[.pointer (some ⟨b, 0, none⟩)] 72), [b, w.heap.size], [b, w.heap.size]⟩ := fun w2 h2 => hG w2 (back w2 h2)
  by_cases h14 : r.gi 14 0 = 0
  · have hd := do_first b w.heap.size hbv r hpre.2 h14 hpre.1 _ hG1 ho1 hv1
    go_enter Tryd.func39, Tryd.ntmps39
    go_wp2_with (go_at_call 57; refine hd.mono ?_; rintro e w2 ⟨rfl, k1, k2, r', k3, k4⟩; have k5 := obj_congr (c := 3) rfl k3 k4; have p1 : w2.cell? ⟨w.heap.size, 0, none⟩ = some (.pointer (some ⟨b, 0, none⟩)) := (by simp [World.cell?, k2]); have p2 := (obj_cell (k := .i64) rfl k5 (j := 17) rfl).1)
    go_ret
    exact ⟨rfl, back _ k1, k5⟩
  · have et : ticksR r = r := if_neg h14
    rw [et]
    have c14 := (obj_cell (k := .u32) rfl ho1 (j := 14) rfl).1
    have hd := do_done ⟨b, 14, none⟩ _ h14 (.func (.func 58) #[] #[.pointer (some ⟨w.heap.size, 0, none⟩)]) _ c14
    have p1 : (w.alloc (.cells #[.pointer (some ⟨b, 0, none⟩)] 72)).cell? ⟨w.heap.size, 0, none⟩ = some (.pointer (some ⟨b, 0, none⟩)) := by simp
    have p2 := (obj_cell (k := .i64) rfl ho1 (j := 17) rfl).1
    go_enter Tryd.func39, Tryd.ntmps39
    go_wp2_with (go_at_call 57; refine hd.mono ?_; rintro e w2 ⟨rfl, rfl⟩)
    go_ret
    exact ⟨rfl, b1, ho1⟩
theorem eticks_sound : C_eticks.Sound Tryd.prog G 39 := by
  refine Ctr.OSound.sound ⟨⟨_, Tryd.func39, by kernel_rfl, by kernel_rfl⟩, ?_⟩ rfl rfl
  intro ls S w F hG hp hpar hF
  obtain ⟨r, rfl, hpre⟩ := eticks_pre hp
  have hF : objAt w 3 r (S 0) F := hF
  obtain ⟨b, rs, rfl, hS, ho⟩ := hF
  have hl := ho.len.1
  have hrs : rs = [] := by
    cases rs with
    | nil => rfl
    | cons x y => simp [feetN] at hl
  subst hrs
  have h := ticks_calls b r hpre w hG ho
  have ea : (([TV.one (.lst 0)] : List TV).map (TV.val (envOf [.l r]) S β0)).toArray = #[.pointer (some ⟨b, 0, none⟩)] := by
    simp only [List.map_cons, List.map_nil, TV.val, CV.val, hS, asSl]
  show Calls Tryd.prog 39 (([TV.one (.lst 0)] : List TV).map (TV.val (envOf [.l r]) S β0)).toArray w _
  rw [ea]
  refine h.mono ?_
  rintro e w' ⟨rfl, h1, h2⟩
  refine ⟨h1, _, rfl, fun c hc => ?_, fun _ => undef, rfl, fun c nb hn => by cases hn⟩
  cases hc
  exact h2

end Go.Proofs.YtchjajnhbipkmaaDoor
