/-
  DERIVED. GIVEN WITH THE SEED: THE CARDS: each row of YtchjajnhbipkmaaDoorRows.lean that lists a variable, with what it lists TIED to the program's text (the seventh form; the later family's looks); each row that meets fmt, with fmt's text TOLD by the authors' own Lean function (tested against real Go, not proved from fmt's source: count such statements apart). THE CARD IS WHAT COUNTS. Prove the row's statement (the work); the ties are given (YtchjajnhbipkmaaDoorTie.lean); close each card by the builder's one call (the guide's Derived/Test/ToyasCard.lean, 'card_holds'). Laid BY PROGRAM, IN A SANDBOX (cutbox-door.mjs). By AI agents, Wed Nov 11 2026. No macro, syntax, notation, axiom, sorry.
-/
import Derived.Test.YtchjajnhbipkmaaDoorRows
import GoSem.ClaimSeven
namespace Go.Proofs.YtchjajnhbipkmaaDoor
namespace Rows

/-- THE TIED CARD OF 'paternosterlaw16.CarOut'. -/
def carOutCard : Claim7 := { stood := { row := carOutRow, standIns := [], harness := (true, "0475b36e39aaf2b5c99dde25e9d4c7403570aabf26557f5618f1d9095ee9f95c"), looks := false }, kinds := [], alts := [], laidByText := true, laidKinds := [.data], laidTests := true, laidLooks := .later }
def CarOutCardSaid : Prop := Claim7.holds Tryd.pinned (.plain (OpenSpec.ofChange carOutSpec)) carOutCard

/-- THE TIED CARD OF 'paternosterlaw16.CarPlays'. -/
def carPlaysCard : Claim7 := { stood := { row := carPlaysRow, standIns := [], harness := (true, "0475b36e39aaf2b5c99dde25e9d4c7403570aabf26557f5618f1d9095ee9f95c"), looks := false }, kinds := [], alts := [], laidByText := true, laidKinds := [.data], laidTests := true, laidLooks := .later }
def CarPlaysCardSaid : Prop := Claim7.holds Tryd.pinned (.plain (OpenSpec.ofChange carPlaysSpec)) carPlaysCard

/-- THE TIED CARD OF 'paternosterlaw16.CarServes'. -/
def carServesCard : Claim7 := { stood := { row := carServesRow, standIns := [], harness := (true, "0475b36e39aaf2b5c99dde25e9d4c7403570aabf26557f5618f1d9095ee9f95c"), looks := false }, kinds := [], alts := [], laidByText := true, laidKinds := [.data], laidTests := true, laidLooks := .later }
def CarServesCardSaid : Prop := Claim7.holds Tryd.pinned (.plain (OpenSpec.ofChange carServesSpec)) carServesCard

/-- THE TIED CARD OF 'paternosterlaw16.CarLevels'. -/
def carLevelsCard : Claim7 := { stood := { row := carLevelsRow, standIns := [], harness := (true, "0475b36e39aaf2b5c99dde25e9d4c7403570aabf26557f5618f1d9095ee9f95c"), looks := false }, kinds := [], alts := [], laidByText := true, laidKinds := [.data], laidTests := true, laidLooks := .later }
def CarLevelsCardSaid : Prop := Claim7.holds Tryd.pinned (.plain (OpenSpec.ofChange carLevelsSpec)) carLevelsCard

/-- THE TIED CARD OF 'paternosterlaw16.CarStays'. -/
def carStaysCard : Claim7 := { stood := { row := carStaysRow, standIns := [], harness := (true, "0475b36e39aaf2b5c99dde25e9d4c7403570aabf26557f5618f1d9095ee9f95c"), looks := false }, kinds := [], alts := [], laidByText := true, laidKinds := [.data], laidTests := true, laidLooks := .later }
def CarStaysCardSaid : Prop := Claim7.holds Tryd.pinned (.plain (OpenSpec.ofChange carStaysSpec)) carStaysCard

/-- THE TIED CARD OF 'paternosterlaw16.CarHolds'. -/
def carHoldsCard : Claim7 := { stood := { row := carHoldsRow, standIns := [], harness := (true, "0475b36e39aaf2b5c99dde25e9d4c7403570aabf26557f5618f1d9095ee9f95c"), looks := false }, kinds := [], alts := [], laidByText := true, laidKinds := [.data], laidTests := true, laidLooks := .later }
def CarHoldsCardSaid : Prop := Claim7.holds Tryd.pinned (.plain (OpenSpec.ofChange carHoldsSpec)) carHoldsCard

/-- THE TIED CARD OF 'paternosterlaw16.CarPasses'. -/
def carPassesCard : Claim7 := { stood := { row := carPassesRow, standIns := [], harness := (true, "0475b36e39aaf2b5c99dde25e9d4c7403570aabf26557f5618f1d9095ee9f95c"), looks := false }, kinds := [], alts := [], laidByText := true, laidKinds := [.data], laidTests := true, laidLooks := .later }
def CarPassesCardSaid : Prop := Claim7.holds Tryd.pinned (.plain (OpenSpec.ofChange carPassesSpec)) carPassesCard

/-- THE TIED CARD OF 'paternosterlaw16.CarStops'. -/
def carStopsCard : Claim7 := { stood := { row := carStopsRow, standIns := [], harness := (true, "0475b36e39aaf2b5c99dde25e9d4c7403570aabf26557f5618f1d9095ee9f95c"), looks := false }, kinds := [], alts := [], laidByText := true, laidKinds := [.data], laidTests := true, laidLooks := .later }
def CarStopsCardSaid : Prop := Claim7.holds Tryd.pinned (.plain (OpenSpec.ofChange carStopsSpec)) carStopsCard

/-- THE TIED CARD OF 'paternosterlaw17.EtaOpen'. -/
def etaOpenCard : Claim7 := { stood := { row := etaOpenRow, standIns := [], harness := (true, "0475b36e39aaf2b5c99dde25e9d4c7403570aabf26557f5618f1d9095ee9f95c"), looks := false }, kinds := [], alts := [], laidByText := true, laidKinds := [.data], laidTests := true, laidLooks := .later }
def EtaOpenCardSaid : Prop := Claim7.holds Tryd.pinned (.plain (OpenSpec.ofChange etaOpenSpec)) etaOpenCard

/-- THE TIED CARD OF 'paternosterlaw17.EtaLevels'. -/
def etaLevelsCard : Claim7 := { stood := { row := etaLevelsRow, standIns := [], harness := (true, "0475b36e39aaf2b5c99dde25e9d4c7403570aabf26557f5618f1d9095ee9f95c"), looks := false }, kinds := [], alts := [], laidByText := true, laidKinds := [.data], laidTests := true, laidLooks := .later }
def EtaLevelsCardSaid : Prop := Claim7.holds Tryd.pinned (.plain (OpenSpec.ofChange etaLevelsSpec)) etaLevelsCard

/-- THE TIED CARD OF 'paternosterlaw17.EtaNear'. -/
def etaNearCard : Claim7 := { stood := { row := etaNearRow, standIns := [], harness := (true, "0475b36e39aaf2b5c99dde25e9d4c7403570aabf26557f5618f1d9095ee9f95c"), looks := false }, kinds := [], alts := [], laidByText := true, laidKinds := [.data], laidTests := true, laidLooks := .later }
def EtaNearCardSaid : Prop := Claim7.holds Tryd.pinned (.plain (OpenSpec.ofChange etaNearSpec)) etaNearCard

/-- THE TIED CARD OF 'paternosterlaw17.EtaBound'. -/
def etaBoundCard : Claim7 := { stood := { row := etaBoundRow, standIns := [], harness := (true, "0475b36e39aaf2b5c99dde25e9d4c7403570aabf26557f5618f1d9095ee9f95c"), looks := false }, kinds := [], alts := [], laidByText := true, laidKinds := [.data], laidTests := true, laidLooks := .later }
def EtaBoundCardSaid : Prop := Claim7.holds Tryd.pinned (.plain (OpenSpec.ofChange etaBoundSpec)) etaBoundCard

/-- THE TIED CARD OF 'paternosterlaw17.EtaTicks'. -/
def etaTicksCard : Claim7 := { stood := { row := etaTicksRow, standIns := [], harness := (true, "0475b36e39aaf2b5c99dde25e9d4c7403570aabf26557f5618f1d9095ee9f95c"), looks := false }, kinds := [], alts := [], laidByText := true, laidKinds := [.data], laidTests := true, laidLooks := .later }
def EtaTicksCardSaid : Prop := Claim7.holds Tryd.pinned (.plain (OpenSpec.ofChange etaTicksSpec)) etaTicksCard

/-- THE TIED CARD OF 'paternosterlaw17.EtaSays'. -/
def etaSaysCard : Claim7 := { stood := { row := etaSaysRow, standIns := [], harness := (true, "0475b36e39aaf2b5c99dde25e9d4c7403570aabf26557f5618f1d9095ee9f95c"), looks := false }, kinds := [], alts := [], laidByText := true, laidKinds := [.data], laidTests := true, laidLooks := .later }
def EtaSaysCardSaid : Prop := Claim7.holds Tryd.pinned (.plain (OpenSpec.ofChange etaSaysSpec)) etaSaysCard

/-- THE TIED CARD OF 'paternosterlaw17.EtaRuns'. -/
def etaRunsCard : Claim7 := { stood := { row := etaRunsRow, standIns := [], harness := (true, "0475b36e39aaf2b5c99dde25e9d4c7403570aabf26557f5618f1d9095ee9f95c"), looks := false }, kinds := [], alts := [], laidByText := true, laidKinds := [.data], laidTests := true, laidLooks := .later }
def EtaRunsCardSaid : Prop := Claim7.holds Tryd.pinned (.plain (OpenSpec.ofChange etaRunsSpec)) etaRunsCard

/-- THE SECOND FORM's CARD OF 'paternosterlaw16.CarOut'. -/
def carOutUptoCard : Claim7 := { stood := { row := carOutUptoRow, standIns := [], harness := (true, "0475b36e39aaf2b5c99dde25e9d4c7403570aabf26557f5618f1d9095ee9f95c"), looks := false }, kinds := [], alts := [], laidByText := true, laidKinds := [.data], laidTests := true, laidLooks := .later }
def CarOutUptoCardSaid : Prop := Claim7.holds Tryd.pinned (.plain (OpenSpec.upto carOutSpec)) carOutUptoCard

/-- THE SECOND FORM's CARD OF 'paternosterlaw16.CarPlays'. -/
def carPlaysUptoCard : Claim7 := { stood := { row := carPlaysUptoRow, standIns := [], harness := (true, "0475b36e39aaf2b5c99dde25e9d4c7403570aabf26557f5618f1d9095ee9f95c"), looks := false }, kinds := [], alts := [], laidByText := true, laidKinds := [.data], laidTests := true, laidLooks := .later }
def CarPlaysUptoCardSaid : Prop := Claim7.holds Tryd.pinned (.plain (OpenSpec.upto carPlaysSpec)) carPlaysUptoCard

/-- THE SECOND FORM's CARD OF 'paternosterlaw16.CarServes'. -/
def carServesUptoCard : Claim7 := { stood := { row := carServesUptoRow, standIns := [], harness := (true, "0475b36e39aaf2b5c99dde25e9d4c7403570aabf26557f5618f1d9095ee9f95c"), looks := false }, kinds := [], alts := [], laidByText := true, laidKinds := [.data], laidTests := true, laidLooks := .later }
def CarServesUptoCardSaid : Prop := Claim7.holds Tryd.pinned (.plain (OpenSpec.upto carServesSpec)) carServesUptoCard

/-- THE SECOND FORM's CARD OF 'paternosterlaw16.CarLevels'. -/
def carLevelsUptoCard : Claim7 := { stood := { row := carLevelsUptoRow, standIns := [], harness := (true, "0475b36e39aaf2b5c99dde25e9d4c7403570aabf26557f5618f1d9095ee9f95c"), looks := false }, kinds := [], alts := [], laidByText := true, laidKinds := [.data], laidTests := true, laidLooks := .later }
def CarLevelsUptoCardSaid : Prop := Claim7.holds Tryd.pinned (.plain (OpenSpec.upto carLevelsSpec)) carLevelsUptoCard

/-- THE SECOND FORM's CARD OF 'paternosterlaw16.CarStays'. -/
def carStaysUptoCard : Claim7 := { stood := { row := carStaysUptoRow, standIns := [], harness := (true, "0475b36e39aaf2b5c99dde25e9d4c7403570aabf26557f5618f1d9095ee9f95c"), looks := false }, kinds := [], alts := [], laidByText := true, laidKinds := [.data], laidTests := true, laidLooks := .later }
def CarStaysUptoCardSaid : Prop := Claim7.holds Tryd.pinned (.plain (OpenSpec.upto carStaysSpec)) carStaysUptoCard

/-- THE SECOND FORM's CARD OF 'paternosterlaw16.CarHolds'. -/
def carHoldsUptoCard : Claim7 := { stood := { row := carHoldsUptoRow, standIns := [], harness := (true, "0475b36e39aaf2b5c99dde25e9d4c7403570aabf26557f5618f1d9095ee9f95c"), looks := false }, kinds := [], alts := [], laidByText := true, laidKinds := [.data], laidTests := true, laidLooks := .later }
def CarHoldsUptoCardSaid : Prop := Claim7.holds Tryd.pinned (.plain (OpenSpec.upto carHoldsSpec)) carHoldsUptoCard

/-- THE SECOND FORM's CARD OF 'paternosterlaw16.CarPasses'. -/
def carPassesUptoCard : Claim7 := { stood := { row := carPassesUptoRow, standIns := [], harness := (true, "0475b36e39aaf2b5c99dde25e9d4c7403570aabf26557f5618f1d9095ee9f95c"), looks := false }, kinds := [], alts := [], laidByText := true, laidKinds := [.data], laidTests := true, laidLooks := .later }
def CarPassesUptoCardSaid : Prop := Claim7.holds Tryd.pinned (.plain (OpenSpec.upto carPassesSpec)) carPassesUptoCard

/-- THE SECOND FORM's CARD OF 'paternosterlaw16.CarStops'. -/
def carStopsUptoCard : Claim7 := { stood := { row := carStopsUptoRow, standIns := [], harness := (true, "0475b36e39aaf2b5c99dde25e9d4c7403570aabf26557f5618f1d9095ee9f95c"), looks := false }, kinds := [], alts := [], laidByText := true, laidKinds := [.data], laidTests := true, laidLooks := .later }
def CarStopsUptoCardSaid : Prop := Claim7.holds Tryd.pinned (.plain (OpenSpec.upto carStopsSpec)) carStopsUptoCard

/-- THE SECOND FORM's CARD OF 'paternosterlaw17.EtaOpen'. -/
def etaOpenUptoCard : Claim7 := { stood := { row := etaOpenUptoRow, standIns := [], harness := (true, "0475b36e39aaf2b5c99dde25e9d4c7403570aabf26557f5618f1d9095ee9f95c"), looks := false }, kinds := [], alts := [], laidByText := true, laidKinds := [.data], laidTests := true, laidLooks := .later }
def EtaOpenUptoCardSaid : Prop := Claim7.holds Tryd.pinned (.plain (OpenSpec.upto etaOpenSpec)) etaOpenUptoCard

/-- THE SECOND FORM's CARD OF 'paternosterlaw17.EtaLevels'. -/
def etaLevelsUptoCard : Claim7 := { stood := { row := etaLevelsUptoRow, standIns := [], harness := (true, "0475b36e39aaf2b5c99dde25e9d4c7403570aabf26557f5618f1d9095ee9f95c"), looks := false }, kinds := [], alts := [], laidByText := true, laidKinds := [.data], laidTests := true, laidLooks := .later }
def EtaLevelsUptoCardSaid : Prop := Claim7.holds Tryd.pinned (.plain (OpenSpec.upto etaLevelsSpec)) etaLevelsUptoCard

/-- THE SECOND FORM's CARD OF 'paternosterlaw17.EtaNear'. -/
def etaNearUptoCard : Claim7 := { stood := { row := etaNearUptoRow, standIns := [], harness := (true, "0475b36e39aaf2b5c99dde25e9d4c7403570aabf26557f5618f1d9095ee9f95c"), looks := false }, kinds := [], alts := [], laidByText := true, laidKinds := [.data], laidTests := true, laidLooks := .later }
def EtaNearUptoCardSaid : Prop := Claim7.holds Tryd.pinned (.plain (OpenSpec.upto etaNearSpec)) etaNearUptoCard

/-- THE SECOND FORM's CARD OF 'paternosterlaw17.EtaBound'. -/
def etaBoundUptoCard : Claim7 := { stood := { row := etaBoundUptoRow, standIns := [], harness := (true, "0475b36e39aaf2b5c99dde25e9d4c7403570aabf26557f5618f1d9095ee9f95c"), looks := false }, kinds := [], alts := [], laidByText := true, laidKinds := [.data], laidTests := true, laidLooks := .later }
def EtaBoundUptoCardSaid : Prop := Claim7.holds Tryd.pinned (.plain (OpenSpec.upto etaBoundSpec)) etaBoundUptoCard

/-- THE SECOND FORM's CARD OF 'paternosterlaw17.EtaTicks'. -/
def etaTicksUptoCard : Claim7 := { stood := { row := etaTicksUptoRow, standIns := [], harness := (true, "0475b36e39aaf2b5c99dde25e9d4c7403570aabf26557f5618f1d9095ee9f95c"), looks := false }, kinds := [], alts := [], laidByText := true, laidKinds := [.data], laidTests := true, laidLooks := .later }
def EtaTicksUptoCardSaid : Prop := Claim7.holds Tryd.pinned (.plain (OpenSpec.upto etaTicksSpec)) etaTicksUptoCard

/-- THE SECOND FORM's CARD OF 'paternosterlaw17.EtaSays'. -/
def etaSaysUptoCard : Claim7 := { stood := { row := etaSaysUptoRow, standIns := [], harness := (true, "0475b36e39aaf2b5c99dde25e9d4c7403570aabf26557f5618f1d9095ee9f95c"), looks := false }, kinds := [], alts := [], laidByText := true, laidKinds := [.data], laidTests := true, laidLooks := .later }
def EtaSaysUptoCardSaid : Prop := Claim7.holds Tryd.pinned (.plain (OpenSpec.upto etaSaysSpec)) etaSaysUptoCard

/-- THE SECOND FORM's CARD OF 'paternosterlaw17.EtaRuns'. -/
def etaRunsUptoCard : Claim7 := { stood := { row := etaRunsUptoRow, standIns := [], harness := (true, "0475b36e39aaf2b5c99dde25e9d4c7403570aabf26557f5618f1d9095ee9f95c"), looks := false }, kinds := [], alts := [], laidByText := true, laidKinds := [.data], laidTests := true, laidLooks := .later }
def EtaRunsUptoCardSaid : Prop := Claim7.holds Tryd.pinned (.plain (OpenSpec.upto etaRunsSpec)) etaRunsUptoCard
end Rows
end Go.Proofs.YtchjajnhbipkmaaDoor
