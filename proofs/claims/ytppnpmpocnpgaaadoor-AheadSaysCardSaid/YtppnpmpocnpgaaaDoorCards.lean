/-
  DERIVED. GIVEN WITH THE SEED: THE CARDS: each row of YtppnpmpocnpgaaaDoorRows.lean that lists a variable, with what it lists TIED to the program's text (the seventh form; the later family's looks); each row that meets fmt, with fmt's text TOLD by the authors' own Lean function (tested against real Go, not proved from fmt's source: count such statements apart). THE CARD IS WHAT COUNTS. Prove the row's statement (the work); the ties are given (YtppnpmpocnpgaaaDoorTie.lean); close each card by the builder's one call (the guide's Derived/Test/ToyasCard.lean, 'card_holds'). Laid BY PROGRAM, IN A SANDBOX (cutbox-door.mjs). By AI agents, Wed Nov 11 2026. No macro, syntax, notation, axiom, sorry.
-/
import Derived.Test.YtppnpmpocnpgaaaDoorRows
import GoSem.ClaimSeven
namespace Go.Proofs.YtppnpmpocnpgaaaDoor
namespace Rows

/-- THE TIED CARD OF 'paternosterlaw14.AheadSides'. -/
def aheadSidesCard : Claim7 := { stood := { row := aheadSidesRow, standIns := [], harness := (true, "b3bc0a95bf661f6015fb410addd6e54d5ff576603dc4cda76f9bec698b3daedc"), looks := false }, kinds := [], alts := [], laidByText := true, laidKinds := [.data], laidTests := true, laidLooks := .later }
def AheadSidesCardSaid : Prop := Claim7.holds Tryd.pinned (.plain (OpenSpec.ofChange aheadSidesSpec)) aheadSidesCard

/-- THE TIED CARD OF 'paternosterlaw14.AheadMirrors'. -/
def aheadMirrorsCard : Claim7 := { stood := { row := aheadMirrorsRow, standIns := [], harness := (true, "b3bc0a95bf661f6015fb410addd6e54d5ff576603dc4cda76f9bec698b3daedc"), looks := false }, kinds := [], alts := [], laidByText := true, laidKinds := [.data], laidTests := true, laidLooks := .later }
def AheadMirrorsCardSaid : Prop := Claim7.holds Tryd.pinned (.plain (OpenSpec.ofChange aheadMirrorsSpec)) aheadMirrorsCard

/-- THE TIED CARD OF 'paternosterlaw14.AheadSays'. -/
def aheadSaysCard : Claim7 := { stood := { row := aheadSaysRow, standIns := [], harness := (true, "b3bc0a95bf661f6015fb410addd6e54d5ff576603dc4cda76f9bec698b3daedc"), looks := false }, kinds := [], alts := [], laidByText := true, laidKinds := [.data], laidTests := true, laidLooks := .later }
def AheadSaysCardSaid : Prop := Claim7.holds Tryd.pinned (.plain (OpenSpec.ofChange aheadSaysSpec)) aheadSaysCard

/-- THE TIED CARD OF 'paternosterlaw15.PlanMirrors'. -/
def planMirrorsCard : Claim7 := { stood := { row := planMirrorsRow, standIns := [], harness := (true, "b3bc0a95bf661f6015fb410addd6e54d5ff576603dc4cda76f9bec698b3daedc"), looks := false }, kinds := [], alts := [], laidByText := true, laidKinds := [.data], laidTests := true, laidLooks := .later }
def PlanMirrorsCardSaid : Prop := Claim7.holds Tryd.pinned (.plain (OpenSpec.ofChange planMirrorsSpec)) planMirrorsCard

/-- THE TIED CARD OF 'paternosterlaw15.PlanNone'. -/
def planNoneCard : Claim7 := { stood := { row := planNoneRow, standIns := [], harness := (true, "b3bc0a95bf661f6015fb410addd6e54d5ff576603dc4cda76f9bec698b3daedc"), looks := false }, kinds := [], alts := [], laidByText := true, laidKinds := [.data], laidTests := true, laidLooks := .later }
def PlanNoneCardSaid : Prop := Claim7.holds Tryd.pinned (.plain (OpenSpec.ofChange planNoneSpec)) planNoneCard

/-- THE TIED CARD OF 'paternosterlaw15.PlanSays'. -/
def planSaysCard : Claim7 := { stood := { row := planSaysRow, standIns := [], harness := (true, "b3bc0a95bf661f6015fb410addd6e54d5ff576603dc4cda76f9bec698b3daedc"), looks := false }, kinds := [], alts := [], laidByText := true, laidKinds := [.data], laidTests := true, laidLooks := .later }
def PlanSaysCardSaid : Prop := Claim7.holds Tryd.pinned (.plain (OpenSpec.ofChange planSaysSpec)) planSaysCard

/-- THE TIED CARD OF 'paternosterlaw15.PlanOne'. -/
def planOneCard : Claim7 := { stood := { row := planOneRow, standIns := [], harness := (true, "b3bc0a95bf661f6015fb410addd6e54d5ff576603dc4cda76f9bec698b3daedc"), looks := false }, kinds := [], alts := [], laidByText := true, laidKinds := [.data], laidTests := true, laidLooks := .later }
def PlanOneCardSaid : Prop := Claim7.holds Tryd.pinned (.plain (OpenSpec.ofChange planOneSpec)) planOneCard

/-- THE TIED CARD OF 'paternosterlaw15.PlanKeeps'. -/
def planKeepsCard : Claim7 := { stood := { row := planKeepsRow, standIns := [], harness := (true, "b3bc0a95bf661f6015fb410addd6e54d5ff576603dc4cda76f9bec698b3daedc"), looks := false }, kinds := [], alts := [], laidByText := true, laidKinds := [.data], laidTests := true, laidLooks := .later }
def PlanKeepsCardSaid : Prop := Claim7.holds Tryd.pinned (.plain (OpenSpec.ofChange planKeepsSpec)) planKeepsCard

/-- THE TIED CARD OF 'paternosterlaw15.PlanSweeps'. -/
def planSweepsCard : Claim7 := { stood := { row := planSweepsRow, standIns := [], harness := (true, "b3bc0a95bf661f6015fb410addd6e54d5ff576603dc4cda76f9bec698b3daedc"), looks := false }, kinds := [], alts := [], laidByText := true, laidKinds := [.data], laidTests := true, laidLooks := .later }
def PlanSweepsCardSaid : Prop := Claim7.holds Tryd.pinned (.plain (OpenSpec.ofChange planSweepsSpec)) planSweepsCard

/-- THE SECOND FORM's CARD OF 'paternosterlaw14.AheadSides'. -/
def aheadSidesUptoCard : Claim7 := { stood := { row := aheadSidesUptoRow, standIns := [], harness := (true, "b3bc0a95bf661f6015fb410addd6e54d5ff576603dc4cda76f9bec698b3daedc"), looks := false }, kinds := [], alts := [], laidByText := true, laidKinds := [.data], laidTests := true, laidLooks := .later }
def AheadSidesUptoCardSaid : Prop := Claim7.holds Tryd.pinned (.plain (OpenSpec.upto aheadSidesSpec)) aheadSidesUptoCard

/-- THE SECOND FORM's CARD OF 'paternosterlaw14.AheadMirrors'. -/
def aheadMirrorsUptoCard : Claim7 := { stood := { row := aheadMirrorsUptoRow, standIns := [], harness := (true, "b3bc0a95bf661f6015fb410addd6e54d5ff576603dc4cda76f9bec698b3daedc"), looks := false }, kinds := [], alts := [], laidByText := true, laidKinds := [.data], laidTests := true, laidLooks := .later }
def AheadMirrorsUptoCardSaid : Prop := Claim7.holds Tryd.pinned (.plain (OpenSpec.upto aheadMirrorsSpec)) aheadMirrorsUptoCard

/-- THE SECOND FORM's CARD OF 'paternosterlaw14.AheadSays'. -/
def aheadSaysUptoCard : Claim7 := { stood := { row := aheadSaysUptoRow, standIns := [], harness := (true, "b3bc0a95bf661f6015fb410addd6e54d5ff576603dc4cda76f9bec698b3daedc"), looks := false }, kinds := [], alts := [], laidByText := true, laidKinds := [.data], laidTests := true, laidLooks := .later }
def AheadSaysUptoCardSaid : Prop := Claim7.holds Tryd.pinned (.plain (OpenSpec.upto aheadSaysSpec)) aheadSaysUptoCard

/-- THE SECOND FORM's CARD OF 'paternosterlaw15.PlanMirrors'. -/
def planMirrorsUptoCard : Claim7 := { stood := { row := planMirrorsUptoRow, standIns := [], harness := (true, "b3bc0a95bf661f6015fb410addd6e54d5ff576603dc4cda76f9bec698b3daedc"), looks := false }, kinds := [], alts := [], laidByText := true, laidKinds := [.data], laidTests := true, laidLooks := .later }
def PlanMirrorsUptoCardSaid : Prop := Claim7.holds Tryd.pinned (.plain (OpenSpec.upto planMirrorsSpec)) planMirrorsUptoCard

/-- THE SECOND FORM's CARD OF 'paternosterlaw15.PlanNone'. -/
def planNoneUptoCard : Claim7 := { stood := { row := planNoneUptoRow, standIns := [], harness := (true, "b3bc0a95bf661f6015fb410addd6e54d5ff576603dc4cda76f9bec698b3daedc"), looks := false }, kinds := [], alts := [], laidByText := true, laidKinds := [.data], laidTests := true, laidLooks := .later }
def PlanNoneUptoCardSaid : Prop := Claim7.holds Tryd.pinned (.plain (OpenSpec.upto planNoneSpec)) planNoneUptoCard

/-- THE SECOND FORM's CARD OF 'paternosterlaw15.PlanSays'. -/
def planSaysUptoCard : Claim7 := { stood := { row := planSaysUptoRow, standIns := [], harness := (true, "b3bc0a95bf661f6015fb410addd6e54d5ff576603dc4cda76f9bec698b3daedc"), looks := false }, kinds := [], alts := [], laidByText := true, laidKinds := [.data], laidTests := true, laidLooks := .later }
def PlanSaysUptoCardSaid : Prop := Claim7.holds Tryd.pinned (.plain (OpenSpec.upto planSaysSpec)) planSaysUptoCard

/-- THE SECOND FORM's CARD OF 'paternosterlaw15.PlanOne'. -/
def planOneUptoCard : Claim7 := { stood := { row := planOneUptoRow, standIns := [], harness := (true, "b3bc0a95bf661f6015fb410addd6e54d5ff576603dc4cda76f9bec698b3daedc"), looks := false }, kinds := [], alts := [], laidByText := true, laidKinds := [.data], laidTests := true, laidLooks := .later }
def PlanOneUptoCardSaid : Prop := Claim7.holds Tryd.pinned (.plain (OpenSpec.upto planOneSpec)) planOneUptoCard

/-- THE SECOND FORM's CARD OF 'paternosterlaw15.PlanKeeps'. -/
def planKeepsUptoCard : Claim7 := { stood := { row := planKeepsUptoRow, standIns := [], harness := (true, "b3bc0a95bf661f6015fb410addd6e54d5ff576603dc4cda76f9bec698b3daedc"), looks := false }, kinds := [], alts := [], laidByText := true, laidKinds := [.data], laidTests := true, laidLooks := .later }
def PlanKeepsUptoCardSaid : Prop := Claim7.holds Tryd.pinned (.plain (OpenSpec.upto planKeepsSpec)) planKeepsUptoCard

/-- THE SECOND FORM's CARD OF 'paternosterlaw15.PlanSweeps'. -/
def planSweepsUptoCard : Claim7 := { stood := { row := planSweepsUptoRow, standIns := [], harness := (true, "b3bc0a95bf661f6015fb410addd6e54d5ff576603dc4cda76f9bec698b3daedc"), looks := false }, kinds := [], alts := [], laidByText := true, laidKinds := [.data], laidTests := true, laidLooks := .later }
def PlanSweepsUptoCardSaid : Prop := Claim7.holds Tryd.pinned (.plain (OpenSpec.upto planSweepsSpec)) planSweepsUptoCard
end Rows
end Go.Proofs.YtppnpmpocnpgaaaDoor
