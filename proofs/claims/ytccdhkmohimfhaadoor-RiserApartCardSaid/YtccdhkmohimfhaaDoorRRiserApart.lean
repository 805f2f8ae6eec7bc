/- RiserApart answers true for every input: pressing and clearing a call leaves all the others as they were. Conditions: none beyond the row; the sentinel error is tied by the card. -/
import Derived.Test.YtccdhkmohimfhaaDoorCards
import Derived.Test.YtccdhkmohimfhaaDoorTie
import Derived.Test.YtccdhkmohimfhaaDoorLRiserApart
import Derived.WalkKit
import Derived.ProofKit
import Derived.OpenShut
import Derived.Deep.DeepHandedRow
import Derived.Lib.LaidTab
import Derived.LaidSub
namespace Go.Proofs.YtccdhkmohimfhaaDoor.riserApart
open Go Go.ChangeShapes Go.WideShapes Go.ChangeAt Go.RowKit
set_option linter.unusedVariables false
theorem own : ownKnob Tryd.prog.godebug = none := by kernel_rfl
theorem laidOut : laidOutB Tryd.prog = true := by kernel_rfl
theorem known {W : World} (h : laidMetH Tryd.prog Rows.riserApartRow.laid W) : G W := trivial
def laidText : DataW Unit → ByteArray
  | .iface _ (.ptr (.agg [.lit (.string l)])) => ⟨l.toArray⟩
  | _ => ⟨#[]⟩
theorem inputs (ls : List Vg.Leaf) (h0 : Vg.rngs (Vg.shCells C_RiserApart.params) ls) : C_RiserApart.pre ls ∧ C_RiserApart.fn ls = [.b true] := by
  have h : Vg.rngs [.lst [.int .i64, .int .i64, .int .i64, .int .i64], .int .i64, .int .i64] ls := h0
  clear h0
  obtain ⟨n0, l0, rfl, h0, h⟩ := Vg.rngs_l h
  obtain ⟨n1, l1, rfl, h1, h⟩ := Vg.rngs_i h
  obtain ⟨n2, l2, rfl, h2, h⟩ := Vg.rngs_i h
  obtain rfl := Vg.rngs_nil h
  exact ⟨⟨h0, h1, h2, trivial⟩, rfl⟩
noncomputable def laidWorld (os : Os) : World :=
  { World.holding Tryd.prog os ⟨#[.cells #[.string (laidText Rows.laid_paternoster_api_ErrRange)] 128], #[], []⟩ with heap := ((World.holding Tryd.prog os ⟨#[.cells #[.string (laidText Rows.laid_paternoster_api_ErrRange)] 128], #[], []⟩).heap.modify 0 fun
      | .cells _ t frozen => .cells #[.iface 111 (.pointer (some ⟨21, 0, none⟩))] t frozen
      | o => o) }
theorem laid_met (os : Os) : laidMet Tryd.prog Rows.riserApartRow.laid ((laidWorld os).forCall (fun _ _ => 0) ⟨#[], #[.slice none 0 0, .agg #[.int .i64 0, .int .i64 0]], []⟩).memory :=
  laidMet_of_run' 8 (by kernel_rfl) (by kernel_rfl)
theorem reads (os : Os) {H : Type} (enc : TypeId × Value → H) : ∃ places, DataW.whole enc Tryd.prog ((laidWorld os).forCall (fun _ _ => 0) ⟨#[], #[.slice none 0 0, .agg #[.int .i64 0, .int .i64 0]], []⟩).memory Tryd.f4.params.toList Rows.riserApartSpec.vars false (#[.slice none 0 0, .agg #[.int .i64 0, .int .i64 0]] : Array Value).toList 8 = some ([.nil, .agg [.lit (.int .i64 0), .lit (.int .i64 0)]], [], places) :=
  ⟨[], by kernel_rfl⟩
set_option maxRecDepth 100000 in
theorem lifted (os : Os) (started : os.Started) (H : Type) (enc : TypeId × Value → H) (F : Stop.Interp) :
    ReturnsInHanded {} Tryd.checked os 4 .any ((OpenSpec.ofChange Rows.riserApartSpec).preRow enc Tryd.prog Tryd.f4 Rows.riserApartRow.domain false Rows.riserApartRow.laid) (((OpenSpec.ofChange Rows.riserApartSpec).at F).post enc Tryd.prog Tryd.f4 false true false false) := by
  obtain ⟨places, hx⟩ := reads os enc
  refine returnsInHanded_of_row (C := Tryd.checked) (s := OpenSpec.ofChange Rows.riserApartSpec) own started (by kernel_rfl) Tryd.func4
    (witness_row_at (enc := enc) (C := Tryd.checked) false (laidWorld os) #[.slice none 0 0, .agg #[.int .i64 0, .int .i64 0]] rfl (by kernel_rfl) (by kernel_rfl) (by kernel_rfl)
      (OpenSpec.preRow_of_cond 8 hx (by kernel_rfl) (fun k hk => by cases hk) (by kernel_rfl) (laid_met os))) ?_
  intro W base args ds gs before hval hW _ _ _ hL _ _
  refine Vg.law_calls (P := Tryd.prog) (fn := Tryd.f4) laidOut RiserApart_sound (s := Rows.riserApartSpec) (tb := 4) rfl Tryd.underlying4 (by kernel_rfl) rfl (Vg.all_rd (by kernel_rfl)) inputs rfl ?_ (known hL) hval hW
  intro ds hds
  match ds, hds with
  | [d0, d1], _ => exact ⟨rfl, rfl, rfl⟩
theorem said : Rows.RiserApartSaid :=
  OpenClaim.holds_of_cond 4 Tryd.f4 rfl rfl rfl rfl rfl rfl rfl ⟨rfl, rfl, rfl, rfl, rfl⟩ rfl rfl rfl rfl rfl (by kernel_rfl) Tryd.func4 (by kernel_rfl)
    (of_decide_eq_true (by kernel_rfl)) (by unfold Func.isWrapper; first | (rw [if_pos (by decide +kernel)]; kernel_rfl) | (rw [if_neg (by decide +kernel)]; exact ⟨rfl, rfl⟩))
    (fun os started H enc _ F => by rw [OpenClaim.pre_eq_preRow]; exact lifted os started H enc F)
theorem plain (f : FuncId) (fn : Func) (hf : Tryd.pinned.checked.prog.funcNamed "paternoster/paternosterlaw10.RiserApart" = some f) (hfn : Tryd.pinned.checked.prog.funcs[f]? = some fn) :
    true = Tryd.pinned.checked.prog.looks [] ∧ ∀ (j : Nat) t, fn.params[j]? = some t → Tryd.pinned.checked.prog.wantsStandIn t = false := by
  obtain rfl : f = 4 := Option.some.inj ((show Tryd.prog.funcNamed "paternoster/paternosterlaw10.RiserApart" = some 4 by kernel_rfl).symm.trans hf) |>.symm
  obtain rfl : fn = Tryd.f4 := (Option.some.inj (Tryd.func4.symm.trans hfn)).symm
  refine ⟨by kernel_rfl, fun j t ht => ?_⟩
  have hm : t ∈ Tryd.f4.params.toList := by simpa using Array.mem_of_getElem? ht
  have hall : (Tryd.f4.params.toList.all fun u => !Tryd.prog.wantsStandIn u) = true := by kernel_rfl
  exact (show Tryd.prog.wantsStandIn t = false by simpa using List.all_eq_true.1 hall t hm)
theorem card : Rows.RiserApartCardSaid :=
  Claim7.holds_tied_plain_at .later [] _ _ _ _ said (fun _ h => by cases h) (by kernel_rfl) (fun _ h => by cases h) riserApart_row_tie rfl ⟨rfl, rfl⟩ (by kernel_rfl) rfl plain (by kernel_rfl)
end Go.Proofs.YtccdhkmohimfhaaDoor.riserApart
namespace Go.Proofs.YtccdhkmohimfhaaDoor
/-- The card, under a short name, for the claim. -/
theorem riserApart_holds : Rows.RiserApartCardSaid := riserApart.card
end Go.Proofs.YtccdhkmohimfhaaDoor
