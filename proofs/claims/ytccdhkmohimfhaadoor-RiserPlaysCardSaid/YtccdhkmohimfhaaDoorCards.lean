/-
  DERIVED. GIVEN WITH THE SEED: THE CARDS: each row of YtccdhkmohimfhaaDoorRows.lean that lists a variable, with what it lists TIED to the program's text (the seventh form; the later family's looks); each row that meets fmt, with fmt's text TOLD by the authors' own Lean function (tested against real Go, not proved from fmt's source: count such statements apart). THE CARD IS WHAT COUNTS. Prove the row's statement (the work); the ties are given (YtccdhkmohimfhaaDoorTie.lean); close each card by the builder's one call (the guide's Derived/Test/ToyasCard.lean, 'card_holds'). Laid BY PROGRAM, IN A SANDBOX (cutbox-door.mjs). By AI agents, Wed Nov 11 2026. No macro, syntax, notation, axiom, sorry.
-/
import Derived.Test.YtccdhkmohimfhaaDoorRows
import GoSem.ClaimSeven
namespace Go.Proofs.YtccdhkmohimfhaaDoor
namespace Rows

/-- THE TIED CARD OF 'paternosterlaw10.RiserMay'. -/
def riserMayCard : Claim7 := { stood := { row := riserMayRow, standIns := [], harness := (true, "fd365c69fdafc0f44cf748cf563f1b7fded69f5277acbe11c00f4dc0ad16ed77"), looks := true }, kinds := [], alts := [], laidByText := true, laidKinds := [.sentinel], laidTests := true, laidLooks := .later }
def RiserMayCardSaid : Prop := Claim7.holds Tryd.pinned (.plain (OpenSpec.ofChange riserMaySpec)) riserMayCard

/-- THE TIED CARD OF 'paternosterlaw10.RiserApart'. -/
def riserApartCard : Claim7 := { stood := { row := riserApartRow, standIns := [], harness := (true, "fd365c69fdafc0f44cf748cf563f1b7fded69f5277acbe11c00f4dc0ad16ed77"), looks := true }, kinds := [], alts := [], laidByText := true, laidKinds := [.sentinel], laidTests := true, laidLooks := .later }
def RiserApartCardSaid : Prop := Claim7.holds Tryd.pinned (.plain (OpenSpec.ofChange riserApartSpec)) riserApartCard

/-- THE TIED CARD OF 'paternosterlaw10.RiserTimes'. -/
def riserTimesCard : Claim7 := { stood := { row := riserTimesRow, standIns := [], harness := (true, "fd365c69fdafc0f44cf748cf563f1b7fded69f5277acbe11c00f4dc0ad16ed77"), looks := true }, kinds := [], alts := [], laidByText := true, laidKinds := [.sentinel], laidTests := true, laidLooks := .later }
def RiserTimesCardSaid : Prop := Claim7.holds Tryd.pinned (.plain (OpenSpec.ofChange riserTimesSpec)) riserTimesCard

/-- THE TIED CARD OF 'paternosterlaw10.RiserPlays'. -/
def riserPlaysCard : Claim7 := { stood := { row := riserPlaysRow, standIns := [], harness := (true, "fd365c69fdafc0f44cf748cf563f1b7fded69f5277acbe11c00f4dc0ad16ed77"), looks := true }, kinds := [], alts := [], laidByText := true, laidKinds := [.sentinel, .sentinel, .sentinel, .sentinel, .sentinel, .sentinel, .sentinel, .sentinel, .sentinel, .sentinel, .sentinel, .sentinel, .sentinel], laidTests := true, laidLooks := .later }
def RiserPlaysCardSaid : Prop := Claim7.holds Tryd.pinned (.plain (OpenSpec.ofChange riserPlaysSpec)) riserPlaysCard

/-- THE TIED CARD OF 'paternosterlaw4.EpochOrder'. -/
def epochOrderCard : Claim7 := { stood := { row := epochOrderRow, standIns := [], harness := (true, "fd365c69fdafc0f44cf748cf563f1b7fded69f5277acbe11c00f4dc0ad16ed77"), looks := true }, kinds := [], alts := [], laidByText := true, laidKinds := [.data, .data, .data], laidTests := true, laidLooks := .later }
def EpochOrderCardSaid : Prop := Claim7.holds Tryd.pinned (.plain (OpenSpec.ofChange epochOrderSpec)) epochOrderCard

/-- THE TIED CARD OF 'paternosterlaw4.EpochSays'. -/
def epochSaysCard : Claim7 := { stood := { row := epochSaysRow, standIns := [], harness := (true, "fd365c69fdafc0f44cf748cf563f1b7fded69f5277acbe11c00f4dc0ad16ed77"), looks := true }, kinds := [], alts := [], laidByText := true, laidKinds := [.data, .data, .data], laidTests := true, laidLooks := .later }
def EpochSaysCardSaid : Prop := Claim7.holds Tryd.pinned (.plain (OpenSpec.ofChange epochSaysSpec)) epochSaysCard

/-- THE TIED CARD OF 'paternosterlaw4.EpochChain'. -/
def epochChainCard : Claim7 := { stood := { row := epochChainRow, standIns := [], harness := (true, "fd365c69fdafc0f44cf748cf563f1b7fded69f5277acbe11c00f4dc0ad16ed77"), looks := true }, kinds := [], alts := [], laidByText := true, laidKinds := [.data, .data, .data], laidTests := true, laidLooks := .later }
def EpochChainCardSaid : Prop := Claim7.holds Tryd.pinned (.plain (OpenSpec.ofChange epochChainSpec)) epochChainCard

/-- THE SECOND FORM's CARD OF 'paternosterlaw10.RiserMay'. -/
def riserMayUptoCard : Claim7 := { stood := { row := riserMayUptoRow, standIns := [], harness := (true, "fd365c69fdafc0f44cf748cf563f1b7fded69f5277acbe11c00f4dc0ad16ed77"), looks := true }, kinds := [], alts := [], laidByText := true, laidKinds := [.sentinel], laidTests := true, laidLooks := .later }
def RiserMayUptoCardSaid : Prop := Claim7.holds Tryd.pinned (.plain (OpenSpec.upto riserMaySpec)) riserMayUptoCard

/-- THE SECOND FORM's CARD OF 'paternosterlaw10.RiserApart'. -/
def riserApartUptoCard : Claim7 := { stood := { row := riserApartUptoRow, standIns := [], harness := (true, "fd365c69fdafc0f44cf748cf563f1b7fded69f5277acbe11c00f4dc0ad16ed77"), looks := true }, kinds := [], alts := [], laidByText := true, laidKinds := [.sentinel], laidTests := true, laidLooks := .later }
def RiserApartUptoCardSaid : Prop := Claim7.holds Tryd.pinned (.plain (OpenSpec.upto riserApartSpec)) riserApartUptoCard

/-- THE SECOND FORM's CARD OF 'paternosterlaw10.RiserTimes'. -/
def riserTimesUptoCard : Claim7 := { stood := { row := riserTimesUptoRow, standIns := [], harness := (true, "fd365c69fdafc0f44cf748cf563f1b7fded69f5277acbe11c00f4dc0ad16ed77"), looks := true }, kinds := [], alts := [], laidByText := true, laidKinds := [.sentinel], laidTests := true, laidLooks := .later }
def RiserTimesUptoCardSaid : Prop := Claim7.holds Tryd.pinned (.plain (OpenSpec.upto riserTimesSpec)) riserTimesUptoCard

/-- THE SECOND FORM's CARD OF 'paternosterlaw10.RiserPlays'. -/
def riserPlaysUptoCard : Claim7 := { stood := { row := riserPlaysUptoRow, standIns := [], harness := (true, "fd365c69fdafc0f44cf748cf563f1b7fded69f5277acbe11c00f4dc0ad16ed77"), looks := true }, kinds := [], alts := [], laidByText := true, laidKinds := [.sentinel, .sentinel, .sentinel, .sentinel, .sentinel, .sentinel, .sentinel, .sentinel, .sentinel, .sentinel, .sentinel, .sentinel, .sentinel], laidTests := true, laidLooks := .later }
def RiserPlaysUptoCardSaid : Prop := Claim7.holds Tryd.pinned (.plain (OpenSpec.upto riserPlaysSpec)) riserPlaysUptoCard

/-- THE SECOND FORM's CARD OF 'paternosterlaw4.EpochOrder'. -/
def epochOrderUptoCard : Claim7 := { stood := { row := epochOrderUptoRow, standIns := [], harness := (true, "fd365c69fdafc0f44cf748cf563f1b7fded69f5277acbe11c00f4dc0ad16ed77"), looks := true }, kinds := [], alts := [], laidByText := true, laidKinds := [.data, .data, .data], laidTests := true, laidLooks := .later }
def EpochOrderUptoCardSaid : Prop := Claim7.holds Tryd.pinned (.plain (OpenSpec.upto epochOrderSpec)) epochOrderUptoCard

/-- THE SECOND FORM's CARD OF 'paternosterlaw4.EpochSays'. -/
def epochSaysUptoCard : Claim7 := { stood := { row := epochSaysUptoRow, standIns := [], harness := (true, "fd365c69fdafc0f44cf748cf563f1b7fded69f5277acbe11c00f4dc0ad16ed77"), looks := true }, kinds := [], alts := [], laidByText := true, laidKinds := [.data, .data, .data], laidTests := true, laidLooks := .later }
def EpochSaysUptoCardSaid : Prop := Claim7.holds Tryd.pinned (.plain (OpenSpec.upto epochSaysSpec)) epochSaysUptoCard

/-- THE SECOND FORM's CARD OF 'paternosterlaw4.EpochChain'. -/
def epochChainUptoCard : Claim7 := { stood := { row := epochChainUptoRow, standIns := [], harness := (true, "fd365c69fdafc0f44cf748cf563f1b7fded69f5277acbe11c00f4dc0ad16ed77"), looks := true }, kinds := [], alts := [], laidByText := true, laidKinds := [.data, .data, .data], laidTests := true, laidLooks := .later }
def EpochChainUptoCardSaid : Prop := Claim7.holds Tryd.pinned (.plain (OpenSpec.upto epochChainSpec)) epochChainUptoCard
end Rows
end Go.Proofs.YtccdhkmohimfhaaDoor
