/-
  No cell of these rows narrows 'for every input' (looked for: loops, veiled, ifaces, maps, wideKeys, modest, calm, conditions, laid).
  DERIVED. THE GIVEN ROWS OF THIS SEAT. 8 by the template 'for every input the law returns true; each argument reads behind the call as it read before'; 0 by the template 'total and deterministic' (their statements: YtdbhdpljnplolaaTotals.lean).
  GIVEN WITH THE SEED: the statements are not yours to turn. If you find one false, say at which input.
  Laid BY PROGRAM, IN A SANDBOX (cutbox-rows.mjs): the forced cells as the released guide's own fill.sh prints them over the translation 8c0dd179d7c16f62… (all of the seat's roots in one cut). By AI agents, Wed Nov 11 2026. No macro, syntax, notation, axiom, sorry.
-/
import Derived.Test.YtdbhdpljnplolaaChecked
import GoSem.Claim
import GoSem.ClaimJoined
import GoSem.ClaimMapViews
import Derived.JoinedTies
import Derived.KernelRfl
namespace Go.Proofs.Ytdbhdpljnplolaa
/- THE CELL 'sum', in the pinned program and in every row, IS THE sha256 OF THE DUMP (.gsa) THAT YtdbhdpljnplolaaProg.lean LOADS. Nothing in Lean hashes anything: it is a label: what it is worth is what the hold of that sum in a sandbox is worth. -/
noncomputable def Try.pinned : Pinned := { name := "ytdbhdpljnplolaa", sum := "8c0dd179d7c16f62be18f944b5d61eee7881c0dcd559c7ae5f2282c2dad5769b", checked := Try.checked }
namespace Rows
def none {H : Type} : Left H := { results := [], args := [] }

/-- 'paternosterlaw12.PlantRuns': WHATEVER THE INPUT: true; the input reads as it did. -/
def plantRunsSpec : ChangeSpec := { name := "plantRuns", fn := fun _ => fun
  | [d1, d2] => { results := [.lit (.bool true)], args := [d1, d2] }
  | _ => none }
def plantRunsRow : OpenClaim := { program := "ytdbhdpljnplolaa", sum := "8c0dd179d7c16f62be18f944b5d61eee7881c0dcd559c7ae5f2282c2dad5769b", func := "paternoster/paternosterlaw12.PlantRuns", spec := "plantRuns", apart := false }
def PlantRunsSaid : Prop := plantRunsRow.holds Try.pinned (OpenSpec.ofChange plantRunsSpec)

/-- ITS FALSE NEIGHBOUR: 'it returns false'. Refute it at one input. -/
def plantRunsWrong : ChangeSpec := { name := "plantRuns", fn := fun _ => fun
  | [d1, d2] => { results := [.lit (.bool false)], args := [d1, d2] }
  | _ => none }
def PlantRunsWrongFalsely : Prop := plantRunsRow.holds Try.pinned (OpenSpec.ofChange plantRunsWrong)

/-- 'paternosterlaw13.DoorCounts': WHATEVER THE INPUT: true; the input reads as it did. -/
def doorCountsSpec : ChangeSpec := { name := "doorCounts", fn := fun _ => fun
  | [d1, d2, d3] => { results := [.lit (.bool true)], args := [d1, d2, d3] }
  | _ => none }
def doorCountsRow : OpenClaim := { program := "ytdbhdpljnplolaa", sum := "8c0dd179d7c16f62be18f944b5d61eee7881c0dcd559c7ae5f2282c2dad5769b", func := "paternoster/paternosterlaw13.DoorCounts", spec := "doorCounts", apart := false }
def DoorCountsSaid : Prop := doorCountsRow.holds Try.pinned (OpenSpec.ofChange doorCountsSpec)

/-- ITS FALSE NEIGHBOUR: 'it returns false'. Refute it at one input. -/
def doorCountsWrong : ChangeSpec := { name := "doorCounts", fn := fun _ => fun
  | [d1, d2, d3] => { results := [.lit (.bool false)], args := [d1, d2, d3] }
  | _ => none }
def DoorCountsWrongFalsely : Prop := doorCountsRow.holds Try.pinned (OpenSpec.ofChange doorCountsWrong)

/-- 'paternosterlaw13.DoorSays': WHATEVER THE INPUT: true; the input reads as it did. -/
def doorSaysSpec : ChangeSpec := { name := "doorSays", fn := fun _ => fun
  | [d1, d2, d3] => { results := [.lit (.bool true)], args := [d1, d2, d3] }
  | _ => none }
def doorSaysRow : OpenClaim := { program := "ytdbhdpljnplolaa", sum := "8c0dd179d7c16f62be18f944b5d61eee7881c0dcd559c7ae5f2282c2dad5769b", func := "paternoster/paternosterlaw13.DoorSays", spec := "doorSays", apart := false }
def DoorSaysSaid : Prop := doorSaysRow.holds Try.pinned (OpenSpec.ofChange doorSaysSpec)

/-- ITS FALSE NEIGHBOUR: 'it returns false'. Refute it at one input. -/
def doorSaysWrong : ChangeSpec := { name := "doorSays", fn := fun _ => fun
  | [d1, d2, d3] => { results := [.lit (.bool false)], args := [d1, d2, d3] }
  | _ => none }
def DoorSaysWrongFalsely : Prop := doorSaysRow.holds Try.pinned (OpenSpec.ofChange doorSaysWrong)

/-- 'paternosterlaw13.DoorStays': WHATEVER THE INPUT: true; the input reads as it did. -/
def doorStaysSpec : ChangeSpec := { name := "doorStays", fn := fun _ => fun
  | [d1, d2] => { results := [.lit (.bool true)], args := [d1, d2] }
  | _ => none }
def doorStaysRow : OpenClaim := { program := "ytdbhdpljnplolaa", sum := "8c0dd179d7c16f62be18f944b5d61eee7881c0dcd559c7ae5f2282c2dad5769b", func := "paternoster/paternosterlaw13.DoorStays", spec := "doorStays", apart := false }
def DoorStaysSaid : Prop := doorStaysRow.holds Try.pinned (OpenSpec.ofChange doorStaysSpec)

/-- ITS FALSE NEIGHBOUR: 'it returns false'. Refute it at one input. -/
def doorStaysWrong : ChangeSpec := { name := "doorStays", fn := fun _ => fun
  | [d1, d2] => { results := [.lit (.bool false)], args := [d1, d2] }
  | _ => none }
def DoorStaysWrongFalsely : Prop := doorStaysRow.holds Try.pinned (OpenSpec.ofChange doorStaysWrong)

/-- 'paternosterlaw13.DoorOpens': WHATEVER THE INPUT: true; the input reads as it did. -/
def doorOpensSpec : ChangeSpec := { name := "doorOpens", fn := fun _ => fun
  | [d1, d2] => { results := [.lit (.bool true)], args := [d1, d2] }
  | _ => none }
def doorOpensRow : OpenClaim := { program := "ytdbhdpljnplolaa", sum := "8c0dd179d7c16f62be18f944b5d61eee7881c0dcd559c7ae5f2282c2dad5769b", func := "paternoster/paternosterlaw13.DoorOpens", spec := "doorOpens", apart := false }
def DoorOpensSaid : Prop := doorOpensRow.holds Try.pinned (OpenSpec.ofChange doorOpensSpec)

/-- ITS FALSE NEIGHBOUR: 'it returns false'. Refute it at one input. -/
def doorOpensWrong : ChangeSpec := { name := "doorOpens", fn := fun _ => fun
  | [d1, d2] => { results := [.lit (.bool false)], args := [d1, d2] }
  | _ => none }
def DoorOpensWrongFalsely : Prop := doorOpensRow.holds Try.pinned (OpenSpec.ofChange doorOpensWrong)

/-- 'paternosterlaw12.PlantGoes': WHATEVER THE INPUT: true; the input reads as it did. -/
def plantGoesSpec : ChangeSpec := { name := "plantGoes", fn := fun _ => fun
  | [d1, d2, d3] => { results := [.lit (.bool true)], args := [d1, d2, d3] }
  | _ => none }
def plantGoesRow : OpenClaim := { program := "ytdbhdpljnplolaa", sum := "8c0dd179d7c16f62be18f944b5d61eee7881c0dcd559c7ae5f2282c2dad5769b", func := "paternoster/paternosterlaw12.PlantGoes", spec := "plantGoes", apart := false }
def PlantGoesSaid : Prop := plantGoesRow.holds Try.pinned (OpenSpec.ofChange plantGoesSpec)

/-- ITS FALSE NEIGHBOUR: 'it returns false'. Refute it at one input. -/
def plantGoesWrong : ChangeSpec := { name := "plantGoes", fn := fun _ => fun
  | [d1, d2, d3] => { results := [.lit (.bool false)], args := [d1, d2, d3] }
  | _ => none }
def PlantGoesWrongFalsely : Prop := plantGoesRow.holds Try.pinned (OpenSpec.ofChange plantGoesWrong)

/-- 'paternosterlaw12.PlantStates': WHATEVER THE INPUT: true; the input reads as it did. -/
def plantStatesSpec : ChangeSpec := { name := "plantStates", fn := fun _ => fun
  | [d1, d2, d3, d4, d5] => { results := [.lit (.bool true)], args := [d1, d2, d3, d4, d5] }
  | _ => none }
def plantStatesRow : OpenClaim := { program := "ytdbhdpljnplolaa", sum := "8c0dd179d7c16f62be18f944b5d61eee7881c0dcd559c7ae5f2282c2dad5769b", func := "paternoster/paternosterlaw12.PlantStates", spec := "plantStates", apart := false }
def PlantStatesSaid : Prop := plantStatesRow.holds Try.pinned (OpenSpec.ofChange plantStatesSpec)

/-- ITS FALSE NEIGHBOUR: 'it returns false'. Refute it at one input. -/
def plantStatesWrong : ChangeSpec := { name := "plantStates", fn := fun _ => fun
  | [d1, d2, d3, d4, d5] => { results := [.lit (.bool false)], args := [d1, d2, d3, d4, d5] }
  | _ => none }
def PlantStatesWrongFalsely : Prop := plantStatesRow.holds Try.pinned (OpenSpec.ofChange plantStatesWrong)

/-- 'paternosterlaw12.PlantSays': WHATEVER THE INPUT: true; the input reads as it did. -/
def plantSaysSpec : ChangeSpec := { name := "plantSays", fn := fun _ => fun
  | [d1, d2, d3, d4] => { results := [.lit (.bool true)], args := [d1, d2, d3, d4] }
  | _ => none }
def plantSaysRow : OpenClaim := { program := "ytdbhdpljnplolaa", sum := "8c0dd179d7c16f62be18f944b5d61eee7881c0dcd559c7ae5f2282c2dad5769b", func := "paternoster/paternosterlaw12.PlantSays", spec := "plantSays", apart := false }
def PlantSaysSaid : Prop := plantSaysRow.holds Try.pinned (OpenSpec.ofChange plantSaysSpec)

/-- ITS FALSE NEIGHBOUR: 'it returns false'. Refute it at one input. -/
def plantSaysWrong : ChangeSpec := { name := "plantSays", fn := fun _ => fun
  | [d1, d2, d3, d4] => { results := [.lit (.bool false)], args := [d1, d2, d3, d4] }
  | _ => none }
def PlantSaysWrongFalsely : Prop := plantSaysRow.holds Try.pinned (OpenSpec.ofChange plantSaysWrong)

/- THE SECOND FORM. 'bulk': how many values and letters a reading holds, each counted each time it is reached (what is shared counts as often as it is met; a slice's spare places count too). A statement '..UptoSaid' is the law's where the arguments, and the package variables that the reading takes, are together of bulk at most 1048576: NARROWER than '..Said'. Prove '..Said' where nothing that the law and all that it calls make is longer than what came in: it says more and counts as full. Else prove '..UptoSaid'. A law counts once. -/
mutual
def uptoBulk {H : Type} : DataW H → Nat
  | .lit (.string bytes) => bytes.length + 1
  | .lit _ => 1
  | .nil => 1
  | .ptr d => uptoBulk d + 1
  | .slice elems spare => uptoBulkAll elems + uptoBulkAll spare + 1
  | .agg parts => uptoBulkAll parts + 1
  | .iface _ d => uptoBulk d + 1
  | .map entries => uptoBulkEntries entries + 1
  | .held _ => 1
def uptoBulkAll {H : Type} : List (DataW H) → Nat
  | [] => 0
  | d :: r => uptoBulk d + uptoBulkAll r
def uptoBulkEntries {H : Type} : List (Lit × DataW H) → Nat
  | [] => 0
  | x :: r => uptoBulkEntry x + uptoBulkEntries r
def uptoBulkEntry {H : Type} : Lit × DataW H → Nat
  | (.string bytes, d) => bytes.length + uptoBulk d + 1
  | (_, d) => uptoBulk d + 1
 end
def uptoSmall : (H : Type) → List (DataW H) → Bool := fun _ ds => decide (uptoBulkAll ds ≤ 1048576)
def OpenSpec.upto (s : _root_.Go.ChangeSpec) : _root_.Go.OpenSpec := { _root_.Go.OpenSpec.ofChange s with cond := some uptoSmall }

/-- 'paternosterlaw12.PlantRuns', WHERE WHAT IT READS IS OF BULK AT MOST 1048576: true; the input reads as it did. -/
def plantRunsUptoRow : OpenClaim := { program := "ytdbhdpljnplolaa", sum := "8c0dd179d7c16f62be18f944b5d61eee7881c0dcd559c7ae5f2282c2dad5769b", func := "paternoster/paternosterlaw12.PlantRuns", spec := "plantRuns", apart := false, narrowed := true }
def PlantRunsUptoSaid : Prop := plantRunsUptoRow.holds Try.pinned (OpenSpec.upto plantRunsSpec)

/-- 'paternosterlaw13.DoorCounts', WHERE WHAT IT READS IS OF BULK AT MOST 1048576: true; the input reads as it did. -/
def doorCountsUptoRow : OpenClaim := { program := "ytdbhdpljnplolaa", sum := "8c0dd179d7c16f62be18f944b5d61eee7881c0dcd559c7ae5f2282c2dad5769b", func := "paternoster/paternosterlaw13.DoorCounts", spec := "doorCounts", apart := false, narrowed := true }
def DoorCountsUptoSaid : Prop := doorCountsUptoRow.holds Try.pinned (OpenSpec.upto doorCountsSpec)

/-- 'paternosterlaw13.DoorSays', WHERE WHAT IT READS IS OF BULK AT MOST 1048576: true; the input reads as it did. -/
def doorSaysUptoRow : OpenClaim := { program := "ytdbhdpljnplolaa", sum := "8c0dd179d7c16f62be18f944b5d61eee7881c0dcd559c7ae5f2282c2dad5769b", func := "paternoster/paternosterlaw13.DoorSays", spec := "doorSays", apart := false, narrowed := true }
def DoorSaysUptoSaid : Prop := doorSaysUptoRow.holds Try.pinned (OpenSpec.upto doorSaysSpec)

/-- 'paternosterlaw13.DoorStays', WHERE WHAT IT READS IS OF BULK AT MOST 1048576: true; the input reads as it did. -/
def doorStaysUptoRow : OpenClaim := { program := "ytdbhdpljnplolaa", sum := "8c0dd179d7c16f62be18f944b5d61eee7881c0dcd559c7ae5f2282c2dad5769b", func := "paternoster/paternosterlaw13.DoorStays", spec := "doorStays", apart := false, narrowed := true }
def DoorStaysUptoSaid : Prop := doorStaysUptoRow.holds Try.pinned (OpenSpec.upto doorStaysSpec)

/-- 'paternosterlaw13.DoorOpens', WHERE WHAT IT READS IS OF BULK AT MOST 1048576: true; the input reads as it did. -/
def doorOpensUptoRow : OpenClaim := { program := "ytdbhdpljnplolaa", sum := "8c0dd179d7c16f62be18f944b5d61eee7881c0dcd559c7ae5f2282c2dad5769b", func := "paternoster/paternosterlaw13.DoorOpens", spec := "doorOpens", apart := false, narrowed := true }
def DoorOpensUptoSaid : Prop := doorOpensUptoRow.holds Try.pinned (OpenSpec.upto doorOpensSpec)

/-- 'paternosterlaw12.PlantGoes', WHERE WHAT IT READS IS OF BULK AT MOST 1048576: true; the input reads as it did. -/
def plantGoesUptoRow : OpenClaim := { program := "ytdbhdpljnplolaa", sum := "8c0dd179d7c16f62be18f944b5d61eee7881c0dcd559c7ae5f2282c2dad5769b", func := "paternoster/paternosterlaw12.PlantGoes", spec := "plantGoes", apart := false, narrowed := true }
def PlantGoesUptoSaid : Prop := plantGoesUptoRow.holds Try.pinned (OpenSpec.upto plantGoesSpec)

/-- 'paternosterlaw12.PlantStates', WHERE WHAT IT READS IS OF BULK AT MOST 1048576: true; the input reads as it did. -/
def plantStatesUptoRow : OpenClaim := { program := "ytdbhdpljnplolaa", sum := "8c0dd179d7c16f62be18f944b5d61eee7881c0dcd559c7ae5f2282c2dad5769b", func := "paternoster/paternosterlaw12.PlantStates", spec := "plantStates", apart := false, narrowed := true }
def PlantStatesUptoSaid : Prop := plantStatesUptoRow.holds Try.pinned (OpenSpec.upto plantStatesSpec)

/-- 'paternosterlaw12.PlantSays', WHERE WHAT IT READS IS OF BULK AT MOST 1048576: true; the input reads as it did. -/
def plantSaysUptoRow : OpenClaim := { program := "ytdbhdpljnplolaa", sum := "8c0dd179d7c16f62be18f944b5d61eee7881c0dcd559c7ae5f2282c2dad5769b", func := "paternoster/paternosterlaw12.PlantSays", spec := "plantSays", apart := false, narrowed := true }
def PlantSaysUptoSaid : Prop := plantSaysUptoRow.holds Try.pinned (OpenSpec.upto plantSaysSpec)

end Rows
end Go.Proofs.Ytdbhdpljnplolaa
