import Derived.Test.YtccdhkmohimfhaaDoorLRiserPlaysIn
import Derived.Test.YtccdhkmohimfhaaDoorHSee
namespace Go.Proofs.YtccdhkmohimfhaaDoor
open Go.Vg
set_option linter.unusedVariables false
set_option linter.unusedSimpArgs false
open Go
def C_RiserPlays : Ctr := ⟨[.one (.int .i64), .one (.lst [.int .i64, .int .i64, .int .i64, .int .i64]), .agg [.int .i64, .int .i64, .int .i64]], [.one (.bool)],
  fun | [.i fs, .l l, .i af, .i ad, .i ag] => (-9223372036854775808 ≤ fs ∧ fs < 9223372036854775808) ∧ LV.rng [.int .i64, .int .i64, .int .i64, .int .i64] l ∧ (-9223372036854775808 ≤ af ∧ af < 9223372036854775808) ∧ (-9223372036854775808 ≤ ad ∧ ad < 9223372036854775808) ∧ (-9223372036854775808 ≤ ag ∧ ag < 9223372036854775808) ∧ True | _ => False,
  fun | [.i _, .l _, .i _, .i _, .i _] => [.b (true)] | _ => []⟩
theorem RiserPlays_pre {ls : List Leaf} (h_ : C_RiserPlays.pre ls) : ∃ (fs : Int) (l : LV) (af : Int) (ad : Int) (ag : Int), ls = [.i fs, .l l, .i af, .i ad, .i ag] ∧ ((-9223372036854775808 ≤ fs ∧ fs < 9223372036854775808) ∧ LV.rng [.int .i64, .int .i64, .int .i64, .int .i64] l ∧ (-9223372036854775808 ≤ af ∧ af < 9223372036854775808) ∧ (-9223372036854775808 ≤ ad ∧ ad < 9223372036854775808) ∧ (-9223372036854775808 ≤ ag ∧ ag < 9223372036854775808) ∧ True) := by
  unfold C_RiserPlays at h_; dsimp only at h_; split at h_
  · exact ⟨_, _, _, _, _, rfl, h_⟩
  · exact h_.elim
theorem RiserPlays_mk {fs : Int} {l : LV} {af : Int} {ad : Int} {ag : Int} (h_ : (-9223372036854775808 ≤ fs ∧ fs < 9223372036854775808) ∧ LV.rng [.int .i64, .int .i64, .int .i64, .int .i64] l ∧ (-9223372036854775808 ≤ af ∧ af < 9223372036854775808) ∧ (-9223372036854775808 ≤ ad ∧ ad < 9223372036854775808) ∧ (-9223372036854775808 ≤ ag ∧ ag < 9223372036854775808) ∧ True) : C_RiserPlays.pre [.i fs, .l l, .i af, .i ad, .i ag] := h_
theorem RiserPlays_res {fs : Int} {l : LV} {af : Int} {ad : Int} {ag : Int} {rs_ : List Leaf} (h_ : rs_ = C_RiserPlays.fn [.i fs, .l l, .i af, .i ad, .i ag]) : ∃ (q0 : Bool), q0 = (true) ∧ rs_ = [.b q0] := ⟨_, rfl, h_⟩
def G6 (w : World) : Prop := ∃ p, SentAt w p
theorem first_calls (w : World) : Calls Tryd.prog 10 #[] w fun x w' => x = .returned (.bool true) ∧ RowKit.Below w.heap.size w w' := by
  have h := (first10_sound.plain rfl).2 [] (fun _ => undef) w trivial trivial (by
    refine ⟨?_, ?_⟩ <;> simp [C_first10, shCells, resLists, resObjs, resCells])
  refine Calls.mono h ?_
  rintro e w' ⟨hb, v, rfl, S, hv, _⟩
  refine ⟨?_, hb⟩
  rw [hv]
  rfl
set_option maxRecDepth 100000 in
set_option maxHeartbeats 1600000 in
theorem plays_bad (fs : Int) (hp : fs < 2 ∨ 64 < fs) (x : Value) (af ad ag : Int) {p : Nat → Addr} {w : World} (h : SentAt w p) : Calls Tryd.prog 6 #[.int .i64 fs, x, .agg #[.int .i64 af, .int .i64 ad, .int .i64 ag]] w fun x w' => x = .returned (.bool true) ∧ RowKit.Below w.heap.size w w' := by
  have h1 := h.below ((RowKit.Below.refl w.heap.size w).alloc (Nat.le_refl _) (.cells #[.int .i64 af, .int .i64 ad, .int .i64 ag] 33))
  go_enter Tryd.func6, Tryd.ntmps6
  go_wp2_with (first | (go_at_call 10; refine (first_calls _).mono ?_; rintro e w' ⟨rfl, hb⟩) | (go_at_call 12; refine (new_bad fs hp _ _ ((h1.below hb).g 0 (by omega) (by omega))).mono ?_; rintro e w'' ⟨rfl, rfl⟩) | (go_at_call 22; refine (isRange_calls ((h1.below hb).below (RowKit.Below.refl _ _).drew)).mono ?_; rintro e w'' ⟨rfl, hb2⟩))
  all_goals go_ret
  all_goals exact ⟨rfl, (((RowKit.Below.refl _ _).alloc (Nat.le_refl _) _).trans (hb.mono (by simp))).trans (((RowKit.Below.refl _ _).drew).trans (hb2.mono (by have := hb.size; simp at this; show w.heap.size ≤ w'.heap.size; omega)))⟩
theorem RiserPlays_sound : C_RiserPlays.Sound Tryd.prog G6 6 := by
  have hin := RiserPlaysIn_sound.plain rfl
  refine Ctr.PSound.sound ⟨hin.1, fun ls S w hG hp hpar => ?_⟩ rfl
  obtain ⟨fs, l, af, ad, ag, rfl, hpre⟩ := RiserPlays_pre hp
  by_cases hf : 2 ≤ fs ∧ fs ≤ 64
  · exact hin.2 [.i fs, .l l, .i af, .i ad, .i ag] S w trivial ⟨hf, hpre⟩ hpar
  · obtain ⟨p, hs⟩ := hG
    have h := plays_bad fs (by omega) (asSl (S 1)) af ad ag hs
    have ea : ((resTs 0 C_RiserPlays.params).map (TV.val (envOf [.i fs, .l l, .i af, .i ad, .i ag]) S β0)).toArray = #[.int .i64 fs, asSl (S 1), .agg #[.int .i64 af, .int .i64 ad, .int .i64 ag]] := rfl
    rw [ea]
    refine h.mono ?_
    rintro e w' ⟨rfl, hb⟩
    exact ⟨hb, _, rfl, S, rfl, fun q hq => by simp [C_RiserPlays, shCells, Sh.cells, resLists] at hq⟩

end Go.Proofs.YtccdhkmohimfhaaDoor
