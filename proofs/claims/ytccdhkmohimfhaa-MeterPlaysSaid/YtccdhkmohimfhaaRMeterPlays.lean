/- MeterPlays answers true for every input: whatever is counted, and set back: each counter, their sum, of which there are most, are what the reference says. Conditions: none beyond the row. -/
import Derived.Test.YtccdhkmohimfhaaRows
import Derived.Test.YtccdhkmohimfhaaLMeterPlays
import Derived.WalkKit
import Derived.ProofKit
import Derived.OpenShut
import Derived.ChangeOld
import Derived.SizedLaws
namespace Go.Proofs.Ytccdhkmohimfhaa.meterPlays
open Go.ChangeShapes Go.WideShapes Go.ChangeAt Go.RowKit
set_option linter.unusedVariables false
theorem own : ownKnob Try.prog.godebug = none := by kernel_rfl
theorem laidOut : laidOutB Try.prog = true := by kernel_rfl
theorem inputs (ls : List Vg.Leaf) (h0 : Vg.rngs (Vg.shCells C_MeterPlays.params) ls) : C_MeterPlays.pre ls ∧ C_MeterPlays.fn ls = [.b true] := by
  have h : Vg.rngs [.lst [.int .i64], .lst [.bool], .int .i64] ls := h0
  clear h0
  obtain ⟨n0, l0, rfl, h0, h⟩ := Vg.rngs_l h
  obtain ⟨n1, l1, rfl, h1, h⟩ := Vg.rngs_l h
  obtain ⟨n2, l2, rfl, h2, h⟩ := Vg.rngs_i h
  obtain rfl := Vg.rngs_nil h
  exact ⟨⟨h2, trivial⟩, rfl⟩
set_option maxRecDepth 100000 in
theorem lifted (os : Os) (started : os.Started) (H : Type) (enc : TypeId × Value → H) :
    ReturnsInHanded {} Try.checked os 4 .any (Rows.meterPlaysSpec.pre6 enc Try.prog Try.f4 Rows.meterPlaysRow.domain false) (Rows.meterPlaysSpec.post enc Try.prog Try.f4 false true false false) := by
  refine returnsInHanded_of_change_sized (C := Try.checked) own started (by kernel_rfl) Try.func4
    (ChangeSpec.witness6 (enc := enc) (C := Try.checked) false ⟨#[], #[.slice none 0 0, .slice none 0 0, .int .i64 0], []⟩ 8 (by kernel_rfl) (by kernel_rfl) (by kernel_rfl) (by kernel_rfl)) ?_
  intro W base args ds gs before hval hW _ _ _
  refine Vg.law_calls (P := Try.prog) (fn := Try.f4) laidOut MeterPlays_sound (s := Rows.meterPlaysSpec) (tb := 4) rfl Try.underlying4 (by kernel_rfl) rfl (Vg.all_rd (by kernel_rfl)) inputs rfl ?_ trivial hval hW
  intro ds hds
  match ds, hds with
  | [d0, d1, d2], _ => exact ⟨rfl, rfl, rfl⟩
theorem over : Rows.meterPlaysRow.holds Try.pinned (OpenSpec.ofChange Rows.meterPlaysSpec) :=
  OpenClaim.holds_of_wide 4 Try.f4 rfl rfl rfl rfl rfl rfl rfl ⟨rfl, rfl, rfl, rfl, rfl⟩ rfl rfl rfl rfl rfl (by kernel_rfl) Try.func4 (by kernel_rfl)
    (of_decide_eq_true (by kernel_rfl)) (by unfold Func.isWrapper; first | (rw [if_pos (by decide +kernel)]; kernel_rfl) | (rw [if_neg (by decide +kernel)]; exact ⟨rfl, rfl⟩))
    (fun os started H enc _ => lifted os started H enc)
theorem proved : Rows.MeterPlaysSaid := over
end Go.Proofs.Ytccdhkmohimfhaa.meterPlays
namespace Go.Proofs.Ytccdhkmohimfhaa
/-- The row, under a short name, for the claim. -/
theorem meterPlays_holds : Rows.MeterPlaysSaid := meterPlays.proved
end Go.Proofs.Ytccdhkmohimfhaa
