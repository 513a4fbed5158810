/-
  DERIVED. GIVEN WITH THE SEED: THE CARDS: each row of YtpojafdllcioiaaDoorRows.lean that lists a variable, with what it lists TIED to the program's text (the seventh form; the later family's looks); each row that meets fmt, with fmt's text TOLD by the authors' own Lean function (tested against real Go, not proved from fmt's source: count such statements apart). THE CARD IS WHAT COUNTS. Prove the row's statement (the work); the ties are given (YtpojafdllcioiaaDoorTie.lean); close each card by the builder's one call (the guide's Derived/Test/ToyasCard.lean, 'card_holds'). Laid BY PROGRAM, IN A SANDBOX (cutbox-door.mjs). By AI agents, Wed Nov 11 2026. No macro, syntax, notation, axiom, sorry.
-/
import Derived.Test.YtpojafdllcioiaaDoorRows
import GoSem.ClaimSeven
namespace Go.Proofs.YtpojafdllcioiaaDoor
namespace Rows

/-- THE TIED CARD OF 'paddocklaw11.AxisTurned'. -/
def axisTurnedCard : Claim7 := { stood := { row := axisTurnedRow, standIns := [], harness := (true, "a39a83aba4f2e8ea89ee23a4999ea8097e3f09841082cff4fcc15c5c20a35b40"), looks := true }, kinds := [], alts := [], laidByText := true, laidKinds := [.sentinel, .sentinel, .sentinel], laidTests := true, laidLooks := .later }
def AxisTurnedCardSaid : Prop := Claim7.holds Tryd.pinned (.plain (OpenSpec.ofChange axisTurnedSpec)) axisTurnedCard

/-- THE TIED CARD OF 'paddocklaw11.AxisSides'. -/
def axisSidesCard : Claim7 := { stood := { row := axisSidesRow, standIns := [], harness := (true, "a39a83aba4f2e8ea89ee23a4999ea8097e3f09841082cff4fcc15c5c20a35b40"), looks := true }, kinds := [], alts := [], laidByText := true, laidKinds := [.sentinel, .sentinel, .sentinel], laidTests := true, laidLooks := .later }
def AxisSidesCardSaid : Prop := Claim7.holds Tryd.pinned (.plain (OpenSpec.ofChange axisSidesSpec)) axisSidesCard

/-- THE TIED CARD OF 'paddocklaw11.AxisOrders'. -/
def axisOrdersCard : Claim7 := { stood := { row := axisOrdersRow, standIns := [], harness := (true, "a39a83aba4f2e8ea89ee23a4999ea8097e3f09841082cff4fcc15c5c20a35b40"), looks := true }, kinds := [], alts := [], laidByText := true, laidKinds := [.sentinel, .sentinel, .sentinel], laidTests := true, laidLooks := .later }
def AxisOrdersCardSaid : Prop := Claim7.holds Tryd.pinned (.plain (OpenSpec.ofChange axisOrdersSpec)) axisOrdersCard

/-- THE TIED CARD OF 'paddocklaw11.AxisPlays'. -/
def axisPlaysCard : Claim7 := { stood := { row := axisPlaysRow, standIns := [], harness := (true, "a39a83aba4f2e8ea89ee23a4999ea8097e3f09841082cff4fcc15c5c20a35b40"), looks := true }, kinds := [], alts := [], laidByText := true, laidKinds := [.sentinel, .sentinel, .sentinel, .sentinel, .sentinel, .sentinel, .sentinel, .sentinel, .sentinel, .sentinel], laidTests := true, laidLooks := .later }
def AxisPlaysCardSaid : Prop := Claim7.holds Tryd.pinned (.plain (OpenSpec.ofChange axisPlaysSpec)) axisPlaysCard

/-- THE TIED CARD OF 'paddocklaw11.AxisSweeps'. -/
def axisSweepsCard : Claim7 := { stood := { row := axisSweepsRow, standIns := [], harness := (true, "a39a83aba4f2e8ea89ee23a4999ea8097e3f09841082cff4fcc15c5c20a35b40"), looks := true }, kinds := [], alts := [], laidByText := true, laidKinds := [.sentinel, .sentinel, .sentinel, .sentinel, .sentinel, .sentinel, .sentinel, .sentinel, .sentinel, .sentinel], laidTests := true, laidLooks := .later }
def AxisSweepsCardSaid : Prop := Claim7.holds Tryd.pinned (.plain (OpenSpec.ofChange axisSweepsSpec)) axisSweepsCard

/-- THE TIED CARD OF 'paddocklaw12.QuadAgain'. -/
def quadAgainCard : Claim7 := { stood := { row := quadAgainRow, standIns := [], harness := (true, "a39a83aba4f2e8ea89ee23a4999ea8097e3f09841082cff4fcc15c5c20a35b40"), looks := true }, kinds := [], alts := [], laidByText := true, laidKinds := [.sentinel, .sentinel, .sentinel], laidTests := true, laidLooks := .later }
def QuadAgainCardSaid : Prop := Claim7.holds Tryd.pinned (.plain (OpenSpec.ofChange quadAgainSpec)) quadAgainCard

/-- THE TIED CARD OF 'paddocklaw12.QuadAll'. -/
def quadAllCard : Claim7 := { stood := { row := quadAllRow, standIns := [], harness := (true, "a39a83aba4f2e8ea89ee23a4999ea8097e3f09841082cff4fcc15c5c20a35b40"), looks := true }, kinds := [], alts := [], laidByText := true, laidKinds := [.sentinel, .sentinel, .sentinel], laidTests := true, laidLooks := .later }
def QuadAllCardSaid : Prop := Claim7.holds Tryd.pinned (.plain (OpenSpec.ofChange quadAllSpec)) quadAllCard

/-- THE SECOND FORM's CARD OF 'paddocklaw11.AxisTurned'. -/
def axisTurnedUptoCard : Claim7 := { stood := { row := axisTurnedUptoRow, standIns := [], harness := (true, "a39a83aba4f2e8ea89ee23a4999ea8097e3f09841082cff4fcc15c5c20a35b40"), looks := true }, kinds := [], alts := [], laidByText := true, laidKinds := [.sentinel, .sentinel, .sentinel], laidTests := true, laidLooks := .later }
def AxisTurnedUptoCardSaid : Prop := Claim7.holds Tryd.pinned (.plain (OpenSpec.upto axisTurnedSpec)) axisTurnedUptoCard

/-- THE SECOND FORM's CARD OF 'paddocklaw11.AxisSides'. -/
def axisSidesUptoCard : Claim7 := { stood := { row := axisSidesUptoRow, standIns := [], harness := (true, "a39a83aba4f2e8ea89ee23a4999ea8097e3f09841082cff4fcc15c5c20a35b40"), looks := true }, kinds := [], alts := [], laidByText := true, laidKinds := [.sentinel, .sentinel, .sentinel], laidTests := true, laidLooks := .later }
def AxisSidesUptoCardSaid : Prop := Claim7.holds Tryd.pinned (.plain (OpenSpec.upto axisSidesSpec)) axisSidesUptoCard

/-- THE SECOND FORM's CARD OF 'paddocklaw11.AxisOrders'. -/
def axisOrdersUptoCard : Claim7 := { stood := { row := axisOrdersUptoRow, standIns := [], harness := (true, "a39a83aba4f2e8ea89ee23a4999ea8097e3f09841082cff4fcc15c5c20a35b40"), looks := true }, kinds := [], alts := [], laidByText := true, laidKinds := [.sentinel, .sentinel, .sentinel], laidTests := true, laidLooks := .later }
def AxisOrdersUptoCardSaid : Prop := Claim7.holds Tryd.pinned (.plain (OpenSpec.upto axisOrdersSpec)) axisOrdersUptoCard

/-- THE SECOND FORM's CARD OF 'paddocklaw11.AxisPlays'. -/
def axisPlaysUptoCard : Claim7 := { stood := { row := axisPlaysUptoRow, standIns := [], harness := (true, "a39a83aba4f2e8ea89ee23a4999ea8097e3f09841082cff4fcc15c5c20a35b40"), looks := true }, kinds := [], alts := [], laidByText := true, laidKinds := [.sentinel, .sentinel, .sentinel, .sentinel, .sentinel, .sentinel, .sentinel, .sentinel, .sentinel, .sentinel], laidTests := true, laidLooks := .later }
def AxisPlaysUptoCardSaid : Prop := Claim7.holds Tryd.pinned (.plain (OpenSpec.upto axisPlaysSpec)) axisPlaysUptoCard

/-- THE SECOND FORM's CARD OF 'paddocklaw11.AxisSweeps'. -/
def axisSweepsUptoCard : Claim7 := { stood := { row := axisSweepsUptoRow, standIns := [], harness := (true, "a39a83aba4f2e8ea89ee23a4999ea8097e3f09841082cff4fcc15c5c20a35b40"), looks := true }, kinds := [], alts := [], laidByText := true, laidKinds := [.sentinel, .sentinel, .sentinel, .sentinel, .sentinel, .sentinel, .sentinel, .sentinel, .sentinel, .sentinel], laidTests := true, laidLooks := .later }
def AxisSweepsUptoCardSaid : Prop := Claim7.holds Tryd.pinned (.plain (OpenSpec.upto axisSweepsSpec)) axisSweepsUptoCard

/-- THE SECOND FORM's CARD OF 'paddocklaw12.QuadAgain'. -/
def quadAgainUptoCard : Claim7 := { stood := { row := quadAgainUptoRow, standIns := [], harness := (true, "a39a83aba4f2e8ea89ee23a4999ea8097e3f09841082cff4fcc15c5c20a35b40"), looks := true }, kinds := [], alts := [], laidByText := true, laidKinds := [.sentinel, .sentinel, .sentinel], laidTests := true, laidLooks := .later }
def QuadAgainUptoCardSaid : Prop := Claim7.holds Tryd.pinned (.plain (OpenSpec.upto quadAgainSpec)) quadAgainUptoCard

/-- THE SECOND FORM's CARD OF 'paddocklaw12.QuadAll'. -/
def quadAllUptoCard : Claim7 := { stood := { row := quadAllUptoRow, standIns := [], harness := (true, "a39a83aba4f2e8ea89ee23a4999ea8097e3f09841082cff4fcc15c5c20a35b40"), looks := true }, kinds := [], alts := [], laidByText := true, laidKinds := [.sentinel, .sentinel, .sentinel], laidTests := true, laidLooks := .later }
def QuadAllUptoCardSaid : Prop := Claim7.holds Tryd.pinned (.plain (OpenSpec.upto quadAllSpec)) quadAllUptoCard
end Rows
end Go.Proofs.YtpojafdllcioiaaDoor
