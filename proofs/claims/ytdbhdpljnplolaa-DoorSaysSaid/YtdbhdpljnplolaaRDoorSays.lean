/- DoorSays answers true for every input: a door opened, ticked, open or stuck is what the reference says. Conditions: none beyond the row. -/
import Derived.Test.YtdbhdpljnplolaaRows
import Derived.Test.YtdbhdpljnplolaaLDoorSays
import Derived.WalkKit
import Derived.ProofKit
import Derived.OpenShut
import Derived.ChangeOld
import Derived.SizedLaws
namespace Go.Proofs.Ytdbhdpljnplolaa.doorSays
open Go.ChangeShapes Go.WideShapes Go.ChangeAt Go.RowKit
set_option linter.unusedVariables false
theorem own : ownKnob Try.prog.godebug = none := by kernel_rfl
theorem laidOut : laidOutB Try.prog = true := by kernel_rfl
theorem inputs (ls : List Vg.Leaf) (h0 : Vg.rngs (Vg.shCells C_DoorSays.params) ls) : C_DoorSays.pre ls ∧ C_DoorSays.fn ls = [.b true] := by
  have h : Vg.rngs [.int .i64, .int .i64, .int .i64, .bool] ls := h0
  clear h0
  obtain ⟨n0, l0, rfl, h0, h⟩ := Vg.rngs_i h
  obtain ⟨n1, l1, rfl, h1, h⟩ := Vg.rngs_i h
  obtain ⟨n2, l2, rfl, h2, h⟩ := Vg.rngs_i h
  obtain ⟨n3, l3, rfl, h3, h⟩ := Vg.rngs_b h
  obtain rfl := Vg.rngs_nil h
  exact ⟨⟨h0, h1, h2, trivial⟩, rfl⟩
set_option maxRecDepth 100000 in
theorem lifted (os : Os) (started : os.Started) (H : Type) (enc : TypeId × Value → H) :
    ReturnsInHanded {} Try.checked os 5 .any (Rows.doorSaysSpec.pre6 enc Try.prog Try.f5 Rows.doorSaysRow.domain false) (Rows.doorSaysSpec.post enc Try.prog Try.f5 false true false false) := by
  refine returnsInHanded_of_change_sized (C := Try.checked) own started (by kernel_rfl) Try.func5
    (ChangeSpec.witness6 (enc := enc) (C := Try.checked) false ⟨#[], #[.int .i64 0, .agg #[.int .i64 0, .int .i64 0], .bool false], []⟩ 8 (by kernel_rfl) (by kernel_rfl) (by kernel_rfl) (by kernel_rfl)) ?_
  intro W base args ds gs before hval hW _ _ _
  refine Vg.law_calls (P := Try.prog) (fn := Try.f5) laidOut DoorSays_sound (s := Rows.doorSaysSpec) (tb := 4) rfl Try.underlying4 (by kernel_rfl) rfl (Vg.all_rd (by kernel_rfl)) inputs rfl ?_ trivial hval hW
  intro ds hds
  match ds, hds with
  | [d0, d1, d2], _ => exact ⟨rfl, rfl, rfl⟩
theorem over : Rows.doorSaysRow.holds Try.pinned (OpenSpec.ofChange Rows.doorSaysSpec) :=
  OpenClaim.holds_of_wide 5 Try.f5 rfl rfl rfl rfl rfl rfl rfl ⟨rfl, rfl, rfl, rfl, rfl⟩ rfl rfl rfl rfl rfl (by kernel_rfl) Try.func5 (by kernel_rfl)
    (of_decide_eq_true (by kernel_rfl)) (by unfold Func.isWrapper; first | (rw [if_pos (by decide +kernel)]; kernel_rfl) | (rw [if_neg (by decide +kernel)]; exact ⟨rfl, rfl⟩))
    (fun os started H enc _ => lifted os started H enc)
theorem proved : Rows.DoorSaysSaid := over
end Go.Proofs.Ytdbhdpljnplolaa.doorSays
namespace Go.Proofs.Ytdbhdpljnplolaa
/-- The row, under a short name, for the claim. -/
theorem doorSays_holds : Rows.DoorSaysSaid := doorSays.proved
end Go.Proofs.Ytdbhdpljnplolaa
