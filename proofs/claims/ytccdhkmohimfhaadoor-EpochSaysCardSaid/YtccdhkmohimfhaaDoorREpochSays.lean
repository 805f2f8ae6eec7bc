/- EpochSays answers true for every input: whether any epoch may be, is none, is ahead of another one, the one behind any count, its text, are what the reference says. Conditions: none beyond the row; the tables of math/bits and strconv are tied by the card. -/
import Derived.Test.YtccdhkmohimfhaaDoorCards
import Derived.Test.YtccdhkmohimfhaaDoorTie
import Derived.Test.YtccdhkmohimfhaaDoorLEpochSays
import Derived.WalkKit
import Derived.ProofKit
import Derived.OpenShut
import Derived.Deep.DeepHandedRow
import Derived.Lib.LaidTab
import Derived.LaidSub
namespace Go.Proofs.YtccdhkmohimfhaaDoor.epochSays
open Go Go.ChangeShapes Go.WideShapes Go.ChangeAt Go.RowKit
set_option linter.unusedVariables false
theorem own : ownKnob Tryd.prog.godebug = none := by kernel_rfl
theorem laidOut : laidOutB Tryd.prog = true := by kernel_rfl
theorem gPowType : (Tryd.prog.globals[1]?).map (·.type) = some 103 := by kernel_rfl
theorem cells103 : Tryd.prog.cellsOf 103 = 20 := by kernel_rfl
theorem cells93 : Tryd.prog.cellsOf 93 = 1 := by kernel_rfl
theorem known {W : World} (h : laidMetH Tryd.prog Rows.epochSaysRow.laid W) : G W := by
  have h1 := laidMetH.filter (fun x => x.1 == "internal/strconv.uint64pow10") h
  have e : Rows.epochSaysRow.laid.filter (fun x => x.1 == "internal/strconv.uint64pow10") = [("internal/strconv.uint64pow10", Lib.tabData .u64 Lib.pow10Tab)] := by kernel_rfl
  rw [e] at h1
  exact Lib.tabIs_of_head (rest := []) gPow gPowType Tryd.underlying103 Tryd.underlying93 cells93 cells103 h1
def laidCells : DataW Unit → Array Value
  | .agg l => (l.map fun | .lit (.int k n) => Value.int k n | _ => .int .u8 0).toArray
  | _ => #[]
theorem inputs (ls : List Vg.Leaf) (h0 : Vg.rngs (Vg.shCells C_EpochSays.params) ls) : C_EpochSays.pre ls ∧ C_EpochSays.fn ls = [.b true] := by
  have h : Vg.rngs [.int .i64, .int .i64, .int .i64, .int .i64, .int .i64, .int .i64] ls := h0
  clear h0
  obtain ⟨n0, l0, rfl, h0, h⟩ := Vg.rngs_i h
  obtain ⟨n1, l1, rfl, h1, h⟩ := Vg.rngs_i h
  obtain ⟨n2, l2, rfl, h2, h⟩ := Vg.rngs_i h
  obtain ⟨n3, l3, rfl, h3, h⟩ := Vg.rngs_i h
  obtain ⟨n4, l4, rfl, h4, h⟩ := Vg.rngs_i h
  obtain ⟨n5, l5, rfl, h5, h⟩ := Vg.rngs_i h
  obtain rfl := Vg.rngs_nil h
  exact ⟨⟨h0, h1, h2, h3, h4, h5, trivial⟩, rfl⟩
noncomputable def laidWorld (os : Os) : World :=
  { World.holding Tryd.prog os ⟨#[], #[], []⟩ with heap := ((((World.holding Tryd.prog os ⟨#[], #[], []⟩).heap.modify 1 fun
      | .cells _ t frozen => .cells (laidCells Rows.laid_internal_strconv_uint64pow10) t frozen
      | o => o).modify 14 fun
      | .cells _ t frozen => .cells (laidCells Rows.laid_math_bits_deBruijn32tab) t frozen
      | o => o).modify 15 fun
      | .cells _ t frozen => .cells (laidCells Rows.laid_math_bits_deBruijn64tab) t frozen
      | o => o) }
theorem laid_met (os : Os) : laidMet Tryd.prog Rows.epochSaysRow.laid ((laidWorld os).forCall (fun _ _ => 0) ⟨#[], #[.agg #[.int .i64 0, .int .i64 0], .agg #[.int .i64 0, .int .i64 0], .int .i64 0, .int .i64 0], []⟩).memory :=
  laidMet_of_run' 8 (by kernel_rfl) (by kernel_rfl)
theorem reads (os : Os) {H : Type} (enc : TypeId × Value → H) : ∃ places, DataW.whole enc Tryd.prog ((laidWorld os).forCall (fun _ _ => 0) ⟨#[], #[.agg #[.int .i64 0, .int .i64 0], .agg #[.int .i64 0, .int .i64 0], .int .i64 0, .int .i64 0], []⟩).memory Tryd.f8.params.toList Rows.epochSaysSpec.vars false (#[.agg #[.int .i64 0, .int .i64 0], .agg #[.int .i64 0, .int .i64 0], .int .i64 0, .int .i64 0] : Array Value).toList 8 = some ([.agg [.lit (.int .i64 0), .lit (.int .i64 0)], .agg [.lit (.int .i64 0), .lit (.int .i64 0)], .lit (.int .i64 0), .lit (.int .i64 0)], [], places) :=
  ⟨[], by kernel_rfl⟩
set_option maxRecDepth 100000 in
theorem lifted (os : Os) (started : os.Started) (H : Type) (enc : TypeId × Value → H) (F : Stop.Interp) :
    ReturnsInHanded {} Tryd.checked os 8 .any ((OpenSpec.ofChange Rows.epochSaysSpec).preRow enc Tryd.prog Tryd.f8 Rows.epochSaysRow.domain false Rows.epochSaysRow.laid) (((OpenSpec.ofChange Rows.epochSaysSpec).at F).post enc Tryd.prog Tryd.f8 false true false false) := by
  obtain ⟨places, hx⟩ := reads os enc
  refine returnsInHanded_of_row (C := Tryd.checked) (s := OpenSpec.ofChange Rows.epochSaysSpec) own started (by kernel_rfl) Tryd.func8
    (witness_row_at (enc := enc) (C := Tryd.checked) false (laidWorld os) #[.agg #[.int .i64 0, .int .i64 0], .agg #[.int .i64 0, .int .i64 0], .int .i64 0, .int .i64 0] rfl (by kernel_rfl) (by kernel_rfl) (by kernel_rfl)
      (OpenSpec.preRow_of_cond 8 hx (by kernel_rfl) (fun k hk => by cases hk) (by kernel_rfl) (laid_met os))) ?_
  intro W base args ds gs before hval hW _ _ _ hL _ _
  refine Vg.law_calls (P := Tryd.prog) (fn := Tryd.f8) laidOut EpochSays_sound (s := Rows.epochSaysSpec) (tb := 4) rfl Tryd.underlying4 (by kernel_rfl) rfl (Vg.all_rd (by kernel_rfl)) inputs rfl ?_ (known hL) hval hW
  intro ds hds
  match ds, hds with
  | [d0, d1, d2, d3], _ => exact ⟨rfl, rfl, rfl⟩
theorem said : Rows.EpochSaysSaid :=
  OpenClaim.holds_of_cond 8 Tryd.f8 rfl rfl rfl rfl rfl rfl rfl ⟨rfl, rfl, rfl, rfl, rfl⟩ rfl rfl rfl rfl rfl (by kernel_rfl) Tryd.func8 (by kernel_rfl)
    (of_decide_eq_true (by kernel_rfl)) (by unfold Func.isWrapper; first | (rw [if_pos (by decide +kernel)]; kernel_rfl) | (rw [if_neg (by decide +kernel)]; exact ⟨rfl, rfl⟩))
    (fun os started H enc _ F => by rw [OpenClaim.pre_eq_preRow]; exact lifted os started H enc F)
theorem plain (f : FuncId) (fn : Func) (hf : Tryd.pinned.checked.prog.funcNamed "paternoster/paternosterlaw4.EpochSays" = some f) (hfn : Tryd.pinned.checked.prog.funcs[f]? = some fn) :
    true = Tryd.pinned.checked.prog.looks [] ∧ ∀ (j : Nat) t, fn.params[j]? = some t → Tryd.pinned.checked.prog.wantsStandIn t = false := by
  obtain rfl : f = 8 := Option.some.inj ((show Tryd.prog.funcNamed "paternoster/paternosterlaw4.EpochSays" = some 8 by kernel_rfl).symm.trans hf) |>.symm
  obtain rfl : fn = Tryd.f8 := (Option.some.inj (Tryd.func8.symm.trans hfn)).symm
  refine ⟨by kernel_rfl, fun j t ht => ?_⟩
  have hm : t ∈ Tryd.f8.params.toList := by simpa using Array.mem_of_getElem? ht
  have hall : (Tryd.f8.params.toList.all fun u => !Tryd.prog.wantsStandIn u) = true := by kernel_rfl
  exact (show Tryd.prog.wantsStandIn t = false by simpa using List.all_eq_true.1 hall t hm)
theorem card : Rows.EpochSaysCardSaid :=
  Claim7.holds_tied_plain_at .later [] _ _ _ _ said (fun _ h => by cases h) (by kernel_rfl) (fun _ h => by cases h) epochSays_row_tie rfl ⟨rfl, rfl⟩ (by kernel_rfl) rfl plain (by kernel_rfl)
end Go.Proofs.YtccdhkmohimfhaaDoor.epochSays
namespace Go.Proofs.YtccdhkmohimfhaaDoor
/-- The card, under a short name, for the claim. -/
theorem epochSays_holds : Rows.EpochSaysCardSaid := epochSays.card
end Go.Proofs.YtccdhkmohimfhaaDoor
