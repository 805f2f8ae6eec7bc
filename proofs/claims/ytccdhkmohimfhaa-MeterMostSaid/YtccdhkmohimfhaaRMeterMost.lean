/- MeterMost answers true for every input: the kind of which there are most is beaten by no other one; set back there is none. Conditions: none beyond the row. -/
import Derived.Test.YtccdhkmohimfhaaRows
import Derived.Test.YtccdhkmohimfhaaLMeterMost
import Derived.WalkKit
import Derived.ProofKit
import Derived.OpenShut
import Derived.ChangeOld
import Derived.SizedLaws
namespace Go.Proofs.Ytccdhkmohimfhaa.meterMost
open Go.ChangeShapes Go.WideShapes Go.ChangeAt Go.RowKit
set_option linter.unusedVariables false
theorem own : ownKnob Try.prog.godebug = none := by kernel_rfl
theorem laidOut : laidOutB Try.prog = true := by kernel_rfl
theorem inputs (ls : List Vg.Leaf) (h0 : Vg.rngs (Vg.shCells C_MeterMost.params) ls) : C_MeterMost.pre ls ∧ C_MeterMost.fn ls = [.b true] := by
  have h : Vg.rngs [.lst [.int .i64]] ls := h0
  clear h0
  obtain ⟨n0, l0, rfl, h0, h⟩ := Vg.rngs_l h
  obtain rfl := Vg.rngs_nil h
  exact ⟨trivial, rfl⟩
set_option maxRecDepth 100000 in
theorem lifted (os : Os) (started : os.Started) (H : Type) (enc : TypeId × Value → H) :
    ReturnsInHanded {} Try.checked os 5 .any (Rows.meterMostSpec.pre6 enc Try.prog Try.f5 Rows.meterMostRow.domain false) (Rows.meterMostSpec.post enc Try.prog Try.f5 false true false false) := by
  refine returnsInHanded_of_change_sized (C := Try.checked) own started (by kernel_rfl) Try.func5
    (ChangeSpec.witness6 (enc := enc) (C := Try.checked) false ⟨#[], #[.slice none 0 0], []⟩ 8 (by kernel_rfl) (by kernel_rfl) (by kernel_rfl) (by kernel_rfl)) ?_
  intro W base args ds gs before hval hW _ _ _
  refine Vg.law_calls (P := Try.prog) (fn := Try.f5) laidOut MeterMost_sound (s := Rows.meterMostSpec) (tb := 4) rfl Try.underlying4 (by kernel_rfl) rfl (Vg.all_rd (by kernel_rfl)) inputs rfl ?_ trivial hval hW
  intro ds hds
  match ds, hds with
  | [d0], _ => exact ⟨rfl, rfl, rfl⟩
theorem over : Rows.meterMostRow.holds Try.pinned (OpenSpec.ofChange Rows.meterMostSpec) :=
  OpenClaim.holds_of_wide 5 Try.f5 rfl rfl rfl rfl rfl rfl rfl ⟨rfl, rfl, rfl, rfl, rfl⟩ rfl rfl rfl rfl rfl (by kernel_rfl) Try.func5 (by kernel_rfl)
    (of_decide_eq_true (by kernel_rfl)) (by unfold Func.isWrapper; first | (rw [if_pos (by decide +kernel)]; kernel_rfl) | (rw [if_neg (by decide +kernel)]; exact ⟨rfl, rfl⟩))
    (fun os started H enc _ => lifted os started H enc)
theorem proved : Rows.MeterMostSaid := over
end Go.Proofs.Ytccdhkmohimfhaa.meterMost
namespace Go.Proofs.Ytccdhkmohimfhaa
/-- The row, under a short name, for the claim. -/
theorem meterMost_holds : Rows.MeterMostSaid := meterMost.proved
end Go.Proofs.Ytccdhkmohimfhaa
