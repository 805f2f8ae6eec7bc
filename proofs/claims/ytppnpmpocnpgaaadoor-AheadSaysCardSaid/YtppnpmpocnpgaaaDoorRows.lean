/-
  NARROWER THAN 'FOR EVERY INPUT', by the rows' own cells (each row's printed sentence says how): AheadSides: laid · AheadMirrors: laid · AheadSays: laid · PlanMirrors: laid · PlanNone: laid · PlanSays: laid · PlanOne: laid · PlanKeeps: laid · PlanSweeps: laid.
  DERIVED. THE GIVEN ROWS OF THIS SEAT. 9 by the template 'for every input the law returns true; each argument reads behind the call as it read before'; 0 by the template 'total and deterministic' (their statements: YtppnpmpocnpgaaaDoorTotals.lean).
  GIVEN WITH THE SEED: the statements are not yours to turn. If you find one false, say at which input.
  Laid BY PROGRAM, IN A SANDBOX (cutbox-rows.mjs): the forced cells as the released guide's own fill.sh prints them over the translation 62d73cb788aec3cd… (all of the seat's roots in one cut). By AI agents, Wed Nov 11 2026. No macro, syntax, notation, axiom, sorry.
-/
import Derived.Test.YtppnpmpocnpgaaaDoorChecked
import GoSem.Claim
import GoSem.ClaimJoined
import GoSem.ClaimMapViews
import Derived.JoinedTies
import Derived.KernelRfl
namespace Go.Proofs.YtppnpmpocnpgaaaDoor
/- THE CELL 'sum', in the pinned program and in every row, IS THE sha256 OF THE DUMP (.gsa) THAT YtppnpmpocnpgaaaDoorProg.lean LOADS. Nothing in Lean hashes anything: it is a label: what it is worth is what the hold of that sum in a sandbox is worth. -/
noncomputable def Tryd.pinned : Pinned := { name := "ytppnpmpocnpgaaadoor", sum := "62d73cb788aec3cda92b0c1973e67b1b30cfd90fc781e1634ae28c757adb4ff6", checked := Tryd.checked }
namespace Rows
def none {H : Type} : Left H := { results := [], args := [] }

/- WHAT THE LISTED PACKAGE-LEVEL VARIABLES READ AS WHEN THE CALL BEGINS. Each datum BY PROGRAM (the guide's laid-datum.mjs) off the statement by which the dump's own 'gosem.cut.vars' lays the variable. In a bare row this is a premise. The card (YtppnpmpocnpgaaaDoorCards.lean) ties it to the program's text. -/
def laid_math_bits_deBruijn64tab {H : Type} : DataW H := .agg [.lit (.int .u8 0), .lit (.int .u8 1), .lit (.int .u8 56), .lit (.int .u8 2), .lit (.int .u8 57), .lit (.int .u8 49), .lit (.int .u8 28), .lit (.int .u8 3), .lit (.int .u8 61), .lit (.int .u8 58), .lit (.int .u8 42), .lit (.int .u8 50), .lit (.int .u8 38), .lit (.int .u8 29), .lit (.int .u8 17), .lit (.int .u8 4), .lit (.int .u8 62), .lit (.int .u8 47), .lit (.int .u8 59), .lit (.int .u8 36), .lit (.int .u8 45), .lit (.int .u8 43), .lit (.int .u8 51), .lit (.int .u8 22), .lit (.int .u8 53), .lit (.int .u8 39), .lit (.int .u8 33), .lit (.int .u8 30), .lit (.int .u8 24), .lit (.int .u8 18), .lit (.int .u8 12), .lit (.int .u8 5), .lit (.int .u8 63), .lit (.int .u8 55), .lit (.int .u8 48), .lit (.int .u8 27), .lit (.int .u8 60), .lit (.int .u8 41), .lit (.int .u8 37), .lit (.int .u8 16), .lit (.int .u8 46), .lit (.int .u8 35), .lit (.int .u8 44), .lit (.int .u8 21), .lit (.int .u8 52), .lit (.int .u8 32), .lit (.int .u8 23), .lit (.int .u8 11), .lit (.int .u8 54), .lit (.int .u8 26), .lit (.int .u8 40), .lit (.int .u8 15), .lit (.int .u8 34), .lit (.int .u8 20), .lit (.int .u8 31), .lit (.int .u8 10), .lit (.int .u8 25), .lit (.int .u8 14), .lit (.int .u8 19), .lit (.int .u8 9), .lit (.int .u8 13), .lit (.int .u8 8), .lit (.int .u8 7), .lit (.int .u8 6)]

/-- 'paternosterlaw14.AheadSides': WHATEVER THE INPUT: true; the input reads as it did. -/
def aheadSidesSpec : ChangeSpec := { name := "aheadSides", fn := fun _ => fun
  | [d1, d2] => { results := [.lit (.bool true)], args := [d1, d2] }
  | _ => none }
def aheadSidesRow : OpenClaim := { program := "ytppnpmpocnpgaaadoor", sum := "62d73cb788aec3cda92b0c1973e67b1b30cfd90fc781e1634ae28c757adb4ff6", func := "paternoster/paternosterlaw14.AheadSides", spec := "aheadSides", named := ["math/bits.deBruijn64tab"], apart := false, laid := [("math/bits.deBruijn64tab", laid_math_bits_deBruijn64tab)] }
def AheadSidesSaid : Prop := aheadSidesRow.holds Tryd.pinned (OpenSpec.ofChange aheadSidesSpec)

/-- ITS FALSE NEIGHBOUR: 'it returns false'. Refute it at one input. -/
def aheadSidesWrong : ChangeSpec := { name := "aheadSides", fn := fun _ => fun
  | [d1, d2] => { results := [.lit (.bool false)], args := [d1, d2] }
  | _ => none }
def AheadSidesWrongFalsely : Prop := aheadSidesRow.holds Tryd.pinned (OpenSpec.ofChange aheadSidesWrong)

/-- 'paternosterlaw14.AheadMirrors': WHATEVER THE INPUT: true; the input reads as it did. -/
def aheadMirrorsSpec : ChangeSpec := { name := "aheadMirrors", fn := fun _ => fun
  | [d1, d2] => { results := [.lit (.bool true)], args := [d1, d2] }
  | _ => none }
def aheadMirrorsRow : OpenClaim := { program := "ytppnpmpocnpgaaadoor", sum := "62d73cb788aec3cda92b0c1973e67b1b30cfd90fc781e1634ae28c757adb4ff6", func := "paternoster/paternosterlaw14.AheadMirrors", spec := "aheadMirrors", named := ["math/bits.deBruijn64tab"], apart := false, laid := [("math/bits.deBruijn64tab", laid_math_bits_deBruijn64tab)] }
def AheadMirrorsSaid : Prop := aheadMirrorsRow.holds Tryd.pinned (OpenSpec.ofChange aheadMirrorsSpec)

/-- ITS FALSE NEIGHBOUR: 'it returns false'. Refute it at one input. -/
def aheadMirrorsWrong : ChangeSpec := { name := "aheadMirrors", fn := fun _ => fun
  | [d1, d2] => { results := [.lit (.bool false)], args := [d1, d2] }
  | _ => none }
def AheadMirrorsWrongFalsely : Prop := aheadMirrorsRow.holds Tryd.pinned (OpenSpec.ofChange aheadMirrorsWrong)

/-- 'paternosterlaw14.AheadSays': WHATEVER THE INPUT: true; the input reads as it did. -/
def aheadSaysSpec : ChangeSpec := { name := "aheadSays", fn := fun _ => fun
  | [d1, d2, d3, d4, d5, d6] => { results := [.lit (.bool true)], args := [d1, d2, d3, d4, d5, d6] }
  | _ => none }
def aheadSaysRow : OpenClaim := { program := "ytppnpmpocnpgaaadoor", sum := "62d73cb788aec3cda92b0c1973e67b1b30cfd90fc781e1634ae28c757adb4ff6", func := "paternoster/paternosterlaw14.AheadSays", spec := "aheadSays", named := ["math/bits.deBruijn64tab"], apart := false, laid := [("math/bits.deBruijn64tab", laid_math_bits_deBruijn64tab)] }
def AheadSaysSaid : Prop := aheadSaysRow.holds Tryd.pinned (OpenSpec.ofChange aheadSaysSpec)

/-- ITS FALSE NEIGHBOUR: 'it returns false'. Refute it at one input. -/
def aheadSaysWrong : ChangeSpec := { name := "aheadSays", fn := fun _ => fun
  | [d1, d2, d3, d4, d5, d6] => { results := [.lit (.bool false)], args := [d1, d2, d3, d4, d5, d6] }
  | _ => none }
def AheadSaysWrongFalsely : Prop := aheadSaysRow.holds Tryd.pinned (OpenSpec.ofChange aheadSaysWrong)

/-- 'paternosterlaw15.PlanMirrors': WHATEVER THE INPUT: true; the input reads as it did. -/
def planMirrorsSpec : ChangeSpec := { name := "planMirrors", fn := fun _ => fun
  | [d1, d2, d3] => { results := [.lit (.bool true)], args := [d1, d2, d3] }
  | _ => none }
def planMirrorsRow : OpenClaim := { program := "ytppnpmpocnpgaaadoor", sum := "62d73cb788aec3cda92b0c1973e67b1b30cfd90fc781e1634ae28c757adb4ff6", func := "paternoster/paternosterlaw15.PlanMirrors", spec := "planMirrors", named := ["math/bits.deBruijn64tab"], apart := false, laid := [("math/bits.deBruijn64tab", laid_math_bits_deBruijn64tab)] }
def PlanMirrorsSaid : Prop := planMirrorsRow.holds Tryd.pinned (OpenSpec.ofChange planMirrorsSpec)

/-- ITS FALSE NEIGHBOUR: 'it returns false'. Refute it at one input. -/
def planMirrorsWrong : ChangeSpec := { name := "planMirrors", fn := fun _ => fun
  | [d1, d2, d3] => { results := [.lit (.bool false)], args := [d1, d2, d3] }
  | _ => none }
def PlanMirrorsWrongFalsely : Prop := planMirrorsRow.holds Tryd.pinned (OpenSpec.ofChange planMirrorsWrong)

/-- 'paternosterlaw15.PlanNone': WHATEVER THE INPUT: true; the input reads as it did. -/
def planNoneSpec : ChangeSpec := { name := "planNone", fn := fun _ => fun
  | [d1, d2, d3] => { results := [.lit (.bool true)], args := [d1, d2, d3] }
  | _ => none }
def planNoneRow : OpenClaim := { program := "ytppnpmpocnpgaaadoor", sum := "62d73cb788aec3cda92b0c1973e67b1b30cfd90fc781e1634ae28c757adb4ff6", func := "paternoster/paternosterlaw15.PlanNone", spec := "planNone", named := ["math/bits.deBruijn64tab"], apart := false, laid := [("math/bits.deBruijn64tab", laid_math_bits_deBruijn64tab)] }
def PlanNoneSaid : Prop := planNoneRow.holds Tryd.pinned (OpenSpec.ofChange planNoneSpec)

/-- ITS FALSE NEIGHBOUR: 'it returns false'. Refute it at one input. -/
def planNoneWrong : ChangeSpec := { name := "planNone", fn := fun _ => fun
  | [d1, d2, d3] => { results := [.lit (.bool false)], args := [d1, d2, d3] }
  | _ => none }
def PlanNoneWrongFalsely : Prop := planNoneRow.holds Tryd.pinned (OpenSpec.ofChange planNoneWrong)

/-- 'paternosterlaw15.PlanSays': WHATEVER THE INPUT: true; the input reads as it did. -/
def planSaysSpec : ChangeSpec := { name := "planSays", fn := fun _ => fun
  | [d1, d2, d3] => { results := [.lit (.bool true)], args := [d1, d2, d3] }
  | _ => none }
def planSaysRow : OpenClaim := { program := "ytppnpmpocnpgaaadoor", sum := "62d73cb788aec3cda92b0c1973e67b1b30cfd90fc781e1634ae28c757adb4ff6", func := "paternoster/paternosterlaw15.PlanSays", spec := "planSays", named := ["math/bits.deBruijn64tab"], apart := false, laid := [("math/bits.deBruijn64tab", laid_math_bits_deBruijn64tab)] }
def PlanSaysSaid : Prop := planSaysRow.holds Tryd.pinned (OpenSpec.ofChange planSaysSpec)

/-- ITS FALSE NEIGHBOUR: 'it returns false'. Refute it at one input. -/
def planSaysWrong : ChangeSpec := { name := "planSays", fn := fun _ => fun
  | [d1, d2, d3] => { results := [.lit (.bool false)], args := [d1, d2, d3] }
  | _ => none }
def PlanSaysWrongFalsely : Prop := planSaysRow.holds Tryd.pinned (OpenSpec.ofChange planSaysWrong)

/-- 'paternosterlaw15.PlanOne': WHATEVER THE INPUT: true; the input reads as it did. -/
def planOneSpec : ChangeSpec := { name := "planOne", fn := fun _ => fun
  | [d1, d2, d3, d4] => { results := [.lit (.bool true)], args := [d1, d2, d3, d4] }
  | _ => none }
def planOneRow : OpenClaim := { program := "ytppnpmpocnpgaaadoor", sum := "62d73cb788aec3cda92b0c1973e67b1b30cfd90fc781e1634ae28c757adb4ff6", func := "paternoster/paternosterlaw15.PlanOne", spec := "planOne", named := ["math/bits.deBruijn64tab"], apart := false, laid := [("math/bits.deBruijn64tab", laid_math_bits_deBruijn64tab)] }
def PlanOneSaid : Prop := planOneRow.holds Tryd.pinned (OpenSpec.ofChange planOneSpec)

/-- ITS FALSE NEIGHBOUR: 'it returns false'. Refute it at one input. -/
def planOneWrong : ChangeSpec := { name := "planOne", fn := fun _ => fun
  | [d1, d2, d3, d4] => { results := [.lit (.bool false)], args := [d1, d2, d3, d4] }
  | _ => none }
def PlanOneWrongFalsely : Prop := planOneRow.holds Tryd.pinned (OpenSpec.ofChange planOneWrong)

/-- 'paternosterlaw15.PlanKeeps': WHATEVER THE INPUT: true; the input reads as it did. -/
def planKeepsSpec : ChangeSpec := { name := "planKeeps", fn := fun _ => fun
  | [d1, d2, d3] => { results := [.lit (.bool true)], args := [d1, d2, d3] }
  | _ => none }
def planKeepsRow : OpenClaim := { program := "ytppnpmpocnpgaaadoor", sum := "62d73cb788aec3cda92b0c1973e67b1b30cfd90fc781e1634ae28c757adb4ff6", func := "paternoster/paternosterlaw15.PlanKeeps", spec := "planKeeps", named := ["math/bits.deBruijn64tab"], apart := false, laid := [("math/bits.deBruijn64tab", laid_math_bits_deBruijn64tab)] }
def PlanKeepsSaid : Prop := planKeepsRow.holds Tryd.pinned (OpenSpec.ofChange planKeepsSpec)

/-- ITS FALSE NEIGHBOUR: 'it returns false'. Refute it at one input. -/
def planKeepsWrong : ChangeSpec := { name := "planKeeps", fn := fun _ => fun
  | [d1, d2, d3] => { results := [.lit (.bool false)], args := [d1, d2, d3] }
  | _ => none }
def PlanKeepsWrongFalsely : Prop := planKeepsRow.holds Tryd.pinned (OpenSpec.ofChange planKeepsWrong)

/-- 'paternosterlaw15.PlanSweeps': WHATEVER THE INPUT: true; the input reads as it did. -/
def planSweepsSpec : ChangeSpec := { name := "planSweeps", fn := fun _ => fun
  | [d1, d2, d3] => { results := [.lit (.bool true)], args := [d1, d2, d3] }
  | _ => none }
def planSweepsRow : OpenClaim := { program := "ytppnpmpocnpgaaadoor", sum := "62d73cb788aec3cda92b0c1973e67b1b30cfd90fc781e1634ae28c757adb4ff6", func := "paternoster/paternosterlaw15.PlanSweeps", spec := "planSweeps", named := ["math/bits.deBruijn64tab"], apart := false, laid := [("math/bits.deBruijn64tab", laid_math_bits_deBruijn64tab)] }
def PlanSweepsSaid : Prop := planSweepsRow.holds Tryd.pinned (OpenSpec.ofChange planSweepsSpec)

/-- ITS FALSE NEIGHBOUR: 'it returns false'. Refute it at one input. -/
def planSweepsWrong : ChangeSpec := { name := "planSweeps", fn := fun _ => fun
  | [d1, d2, d3] => { results := [.lit (.bool false)], args := [d1, d2, d3] }
  | _ => none }
def PlanSweepsWrongFalsely : Prop := planSweepsRow.holds Tryd.pinned (OpenSpec.ofChange planSweepsWrong)

/- THE SECOND FORM. 'bulk': how many values and letters a reading holds, each counted each time it is reached (what is shared counts as often as it is met; a slice's spare places count too). A statement '..UptoSaid' is the law's where the arguments, and the package variables that the reading takes, are together of bulk at most 1048576: NARROWER than '..Said'. Prove '..Said' where nothing that the law and all that it calls make is longer than what came in: it says more and counts as full. Else prove '..UptoSaid'. A law counts once. -/
mutual
def uptoBulk {H : Type} : DataW H → Nat
  | .lit (.string bytes) => bytes.length + 1
  | .lit _ => 1
  | .nil => 1
  | .ptr d => uptoBulk d + 1
  | .slice elems spare => uptoBulkAll elems + uptoBulkAll spare + 1
  | .agg parts => uptoBulkAll parts + 1
  | .iface _ d => uptoBulk d + 1
  | .map entries => uptoBulkEntries entries + 1
  | .held _ => 1
def uptoBulkAll {H : Type} : List (DataW H) → Nat
  | [] => 0
  | d :: r => uptoBulk d + uptoBulkAll r
def uptoBulkEntries {H : Type} : List (Lit × DataW H) → Nat
  | [] => 0
  | x :: r => uptoBulkEntry x + uptoBulkEntries r
def uptoBulkEntry {H : Type} : Lit × DataW H → Nat
  | (.string bytes, d) => bytes.length + uptoBulk d + 1
  | (_, d) => uptoBulk d + 1
 end
def uptoSmall : (H : Type) → List (DataW H) → Bool := fun _ ds => decide (uptoBulkAll ds ≤ 1048576)
def OpenSpec.upto (s : _root_.Go.ChangeSpec) : _root_.Go.OpenSpec := { _root_.Go.OpenSpec.ofChange s with cond := some uptoSmall }

/-- 'paternosterlaw14.AheadSides', WHERE WHAT IT READS IS OF BULK AT MOST 1048576: true; the input reads as it did. -/
def aheadSidesUptoRow : OpenClaim := { program := "ytppnpmpocnpgaaadoor", sum := "62d73cb788aec3cda92b0c1973e67b1b30cfd90fc781e1634ae28c757adb4ff6", func := "paternoster/paternosterlaw14.AheadSides", spec := "aheadSides", named := ["math/bits.deBruijn64tab"], apart := false, laid := [("math/bits.deBruijn64tab", laid_math_bits_deBruijn64tab)], narrowed := true }
def AheadSidesUptoSaid : Prop := aheadSidesUptoRow.holds Tryd.pinned (OpenSpec.upto aheadSidesSpec)

/-- 'paternosterlaw14.AheadMirrors', WHERE WHAT IT READS IS OF BULK AT MOST 1048576: true; the input reads as it did. -/
def aheadMirrorsUptoRow : OpenClaim := { program := "ytppnpmpocnpgaaadoor", sum := "62d73cb788aec3cda92b0c1973e67b1b30cfd90fc781e1634ae28c757adb4ff6", func := "paternoster/paternosterlaw14.AheadMirrors", spec := "aheadMirrors", named := ["math/bits.deBruijn64tab"], apart := false, laid := [("math/bits.deBruijn64tab", laid_math_bits_deBruijn64tab)], narrowed := true }
def AheadMirrorsUptoSaid : Prop := aheadMirrorsUptoRow.holds Tryd.pinned (OpenSpec.upto aheadMirrorsSpec)

/-- 'paternosterlaw14.AheadSays', WHERE WHAT IT READS IS OF BULK AT MOST 1048576: true; the input reads as it did. -/
def aheadSaysUptoRow : OpenClaim := { program := "ytppnpmpocnpgaaadoor", sum := "62d73cb788aec3cda92b0c1973e67b1b30cfd90fc781e1634ae28c757adb4ff6", func := "paternoster/paternosterlaw14.AheadSays", spec := "aheadSays", named := ["math/bits.deBruijn64tab"], apart := false, laid := [("math/bits.deBruijn64tab", laid_math_bits_deBruijn64tab)], narrowed := true }
def AheadSaysUptoSaid : Prop := aheadSaysUptoRow.holds Tryd.pinned (OpenSpec.upto aheadSaysSpec)

/-- 'paternosterlaw15.PlanMirrors', WHERE WHAT IT READS IS OF BULK AT MOST 1048576: true; the input reads as it did. -/
def planMirrorsUptoRow : OpenClaim := { program := "ytppnpmpocnpgaaadoor", sum := "62d73cb788aec3cda92b0c1973e67b1b30cfd90fc781e1634ae28c757adb4ff6", func := "paternoster/paternosterlaw15.PlanMirrors", spec := "planMirrors", named := ["math/bits.deBruijn64tab"], apart := false, laid := [("math/bits.deBruijn64tab", laid_math_bits_deBruijn64tab)], narrowed := true }
def PlanMirrorsUptoSaid : Prop := planMirrorsUptoRow.holds Tryd.pinned (OpenSpec.upto planMirrorsSpec)

/-- 'paternosterlaw15.PlanNone', WHERE WHAT IT READS IS OF BULK AT MOST 1048576: true; the input reads as it did. -/
def planNoneUptoRow : OpenClaim := { program := "ytppnpmpocnpgaaadoor", sum := "62d73cb788aec3cda92b0c1973e67b1b30cfd90fc781e1634ae28c757adb4ff6", func := "paternoster/paternosterlaw15.PlanNone", spec := "planNone", named := ["math/bits.deBruijn64tab"], apart := false, laid := [("math/bits.deBruijn64tab", laid_math_bits_deBruijn64tab)], narrowed := true }
def PlanNoneUptoSaid : Prop := planNoneUptoRow.holds Tryd.pinned (OpenSpec.upto planNoneSpec)

/-- 'paternosterlaw15.PlanSays', WHERE WHAT IT READS IS OF BULK AT MOST 1048576: true; the input reads as it did. -/
def planSaysUptoRow : OpenClaim := { program := "ytppnpmpocnpgaaadoor", sum := "62d73cb788aec3cda92b0c1973e67b1b30cfd90fc781e1634ae28c757adb4ff6", func := "paternoster/paternosterlaw15.PlanSays", spec := "planSays", named := ["math/bits.deBruijn64tab"], apart := false, laid := [("math/bits.deBruijn64tab", laid_math_bits_deBruijn64tab)], narrowed := true }
def PlanSaysUptoSaid : Prop := planSaysUptoRow.holds Tryd.pinned (OpenSpec.upto planSaysSpec)

/-- 'paternosterlaw15.PlanOne', WHERE WHAT IT READS IS OF BULK AT MOST 1048576: true; the input reads as it did. -/
def planOneUptoRow : OpenClaim := { program := "ytppnpmpocnpgaaadoor", sum := "62d73cb788aec3cda92b0c1973e67b1b30cfd90fc781e1634ae28c757adb4ff6", func := "paternoster/paternosterlaw15.PlanOne", spec := "planOne", named := ["math/bits.deBruijn64tab"], apart := false, laid := [("math/bits.deBruijn64tab", laid_math_bits_deBruijn64tab)], narrowed := true }
def PlanOneUptoSaid : Prop := planOneUptoRow.holds Tryd.pinned (OpenSpec.upto planOneSpec)

/-- 'paternosterlaw15.PlanKeeps', WHERE WHAT IT READS IS OF BULK AT MOST 1048576: true; the input reads as it did. -/
def planKeepsUptoRow : OpenClaim := { program := "ytppnpmpocnpgaaadoor", sum := "62d73cb788aec3cda92b0c1973e67b1b30cfd90fc781e1634ae28c757adb4ff6", func := "paternoster/paternosterlaw15.PlanKeeps", spec := "planKeeps", named := ["math/bits.deBruijn64tab"], apart := false, laid := [("math/bits.deBruijn64tab", laid_math_bits_deBruijn64tab)], narrowed := true }
def PlanKeepsUptoSaid : Prop := planKeepsUptoRow.holds Tryd.pinned (OpenSpec.upto planKeepsSpec)

/-- 'paternosterlaw15.PlanSweeps', WHERE WHAT IT READS IS OF BULK AT MOST 1048576: true; the input reads as it did. -/
def planSweepsUptoRow : OpenClaim := { program := "ytppnpmpocnpgaaadoor", sum := "62d73cb788aec3cda92b0c1973e67b1b30cfd90fc781e1634ae28c757adb4ff6", func := "paternoster/paternosterlaw15.PlanSweeps", spec := "planSweeps", named := ["math/bits.deBruijn64tab"], apart := false, laid := [("math/bits.deBruijn64tab", laid_math_bits_deBruijn64tab)], narrowed := true }
def PlanSweepsUptoSaid : Prop := planSweepsUptoRow.holds Tryd.pinned (OpenSpec.upto planSweepsSpec)

end Rows
end Go.Proofs.YtppnpmpocnpgaaaDoor
