/- PlantGoes answers true for every input: motor by motor a car comes no further than the last floors. Conditions: none beyond the row. -/
import Derived.Test.YtdbhdpljnplolaaRows
import Derived.Test.YtdbhdpljnplolaaLPlantGoes
import Derived.WalkKit
import Derived.ProofKit
import Derived.OpenShut
import Derived.ChangeOld
import Derived.SizedLaws
namespace Go.Proofs.Ytdbhdpljnplolaa.plantGoes
open Go.ChangeShapes Go.WideShapes Go.ChangeAt Go.RowKit
set_option linter.unusedVariables false
theorem own : ownKnob Try.prog.godebug = none := by kernel_rfl
theorem laidOut : laidOutB Try.prog = true := by kernel_rfl
theorem inputs (ls : List Vg.Leaf) (h0 : Vg.rngs (Vg.shCells C_PlantGoes.params) ls) : C_PlantGoes.pre ls ∧ C_PlantGoes.fn ls = [.b true] := by
  have h : Vg.rngs [.int .i64, .int .i64, .int .i64, .int .i64, .lst [.int .i64], .int .i64] ls := h0
  clear h0
  obtain ⟨n0, l0, rfl, h0, h⟩ := Vg.rngs_i h
  obtain ⟨n1, l1, rfl, h1, h⟩ := Vg.rngs_i h
  obtain ⟨n2, l2, rfl, h2, h⟩ := Vg.rngs_i h
  obtain ⟨n3, l3, rfl, h3, h⟩ := Vg.rngs_i h
  obtain ⟨n4, l4, rfl, h4, h⟩ := Vg.rngs_l h
  obtain ⟨n5, l5, rfl, h5, h⟩ := Vg.rngs_i h
  obtain rfl := Vg.rngs_nil h
  exact ⟨⟨h0, h1, h2, h3, h5, trivial⟩, rfl⟩
set_option maxRecDepth 100000 in
theorem lifted (os : Os) (started : os.Started) (H : Type) (enc : TypeId × Value → H) :
    ReturnsInHanded {} Try.checked os 8 .any (Rows.plantGoesSpec.pre6 enc Try.prog Try.f8 Rows.plantGoesRow.domain false) (Rows.plantGoesSpec.post enc Try.prog Try.f8 false true false false) := by
  refine returnsInHanded_of_change_sized (C := Try.checked) own started (by kernel_rfl) Try.func8
    (ChangeSpec.witness6 (enc := enc) (C := Try.checked) false ⟨#[], #[.agg #[.int .i64 0, .int .i64 0, .int .i64 0, .int .i64 0], .slice none 0 0, .int .i64 0], []⟩ 8 (by kernel_rfl) (by kernel_rfl) (by kernel_rfl) (by kernel_rfl)) ?_
  intro W base args ds gs before hval hW _ _ _
  refine Vg.law_calls (P := Try.prog) (fn := Try.f8) laidOut PlantGoes_sound (s := Rows.plantGoesSpec) (tb := 4) rfl Try.underlying4 (by kernel_rfl) rfl (Vg.all_rd (by kernel_rfl)) inputs rfl ?_ trivial hval hW
  intro ds hds
  match ds, hds with
  | [d0, d1, d2], _ => exact ⟨rfl, rfl, rfl⟩
theorem over : Rows.plantGoesRow.holds Try.pinned (OpenSpec.ofChange Rows.plantGoesSpec) :=
  OpenClaim.holds_of_wide 8 Try.f8 rfl rfl rfl rfl rfl rfl rfl ⟨rfl, rfl, rfl, rfl, rfl⟩ rfl rfl rfl rfl rfl (by kernel_rfl) Try.func8 (by kernel_rfl)
    (of_decide_eq_true (by kernel_rfl)) (by unfold Func.isWrapper; first | (rw [if_pos (by decide +kernel)]; kernel_rfl) | (rw [if_neg (by decide +kernel)]; exact ⟨rfl, rfl⟩))
    (fun os started H enc _ => lifted os started H enc)
theorem proved : Rows.PlantGoesSaid := over
end Go.Proofs.Ytdbhdpljnplolaa.plantGoes
namespace Go.Proofs.Ytdbhdpljnplolaa
/-- The row, under a short name, for the claim. -/
theorem plantGoes_holds : Rows.PlantGoesSaid := plantGoes.proved
end Go.Proofs.Ytdbhdpljnplolaa
