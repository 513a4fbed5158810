/-
  DERIVED. GIVEN WITH THE SEED: THE CARDS: each row of YtcnbngiplfoomaaGreatDoorRows.lean that lists a variable, with what it lists TIED to the program's text (the seventh form; the later family's looks); each row that meets fmt, with fmt's text TOLD by the authors' own Lean function (tested against real Go, not proved from fmt's source: count such statements apart). THE CARD IS WHAT COUNTS. Prove the row's statement (the work); the ties are given (YtcnbngiplfoomaaGreatDoorTie.lean); close each card by the builder's one call (the guide's Derived/Test/ToyasCard.lean, 'card_holds'). Laid BY PROGRAM, IN A SANDBOX (cutbox-door.mjs). By AI agents, Wed Nov 11 2026. No macro, syntax, notation, axiom, sorry.
-/
import Derived.Test.YtcnbngiplfoomaaGreatDoorRows
import GoSem.ClaimSeven
namespace Go.Proofs.YtcnbngiplfoomaaGreatDoor
namespace Rows

/-- THE TIED CARD OF 'paddocklaw08.TablesOrders'. -/
def tablesOrdersCard : Claim7 := { stood := { row := tablesOrdersRow, standIns := [], harness := (true, "512537e0924ab9cca3950b49a69d5ed43cdf724020b1b48d78a672fc4e965cfb"), looks := true }, kinds := [], alts := [], laidByText := true, laidKinds := [.data, .sentinel, .sentinel, .sentinel, .sentinel, .sentinel, .sentinel], laidTests := true, laidLooks := .later }
def TablesOrdersCardSaid : Prop := Claim7.holds Tryz.pinned (.plain (OpenSpec.ofChange tablesOrdersSpec)) tablesOrdersCard

/-- THE TIED CARD OF 'paddocklaw08.TablesLimits'. -/
def tablesLimitsCard : Claim7 := { stood := { row := tablesLimitsRow, standIns := [], harness := (true, "512537e0924ab9cca3950b49a69d5ed43cdf724020b1b48d78a672fc4e965cfb"), looks := true }, kinds := [], alts := [], laidByText := true, laidKinds := [.data, .sentinel, .sentinel, .sentinel, .sentinel, .sentinel, .sentinel, .sentinel, .sentinel, .sentinel, .sentinel], laidTests := true, laidLooks := .later }
def TablesLimitsCardSaid : Prop := Claim7.holds Tryz.pinned (.plain (OpenSpec.ofChange tablesLimitsSpec)) tablesLimitsCard

/-- THE TIED CARD OF 'paddocklaw08.TablesApart'. -/
def tablesApartCard : Claim7 := { stood := { row := tablesApartRow, standIns := [], harness := (true, "512537e0924ab9cca3950b49a69d5ed43cdf724020b1b48d78a672fc4e965cfb"), looks := true }, kinds := [], alts := [], laidByText := true, laidKinds := [.data, .sentinel, .sentinel, .sentinel, .sentinel, .sentinel, .sentinel], laidTests := true, laidLooks := .later }
def TablesApartCardSaid : Prop := Claim7.holds Tryz.pinned (.plain (OpenSpec.ofChange tablesApartSpec)) tablesApartCard

/-- THE TIED CARD OF 'paddocklaw08.TablesIn'. -/
def tablesInCard : Claim7 := { stood := { row := tablesInRow, standIns := [], harness := (true, "512537e0924ab9cca3950b49a69d5ed43cdf724020b1b48d78a672fc4e965cfb"), looks := true }, kinds := [], alts := [], laidByText := true, laidKinds := [.data, .sentinel, .sentinel, .sentinel, .sentinel, .sentinel, .sentinel, .sentinel, .sentinel, .sentinel, .sentinel], laidTests := true, laidLooks := .later }
def TablesInCardSaid : Prop := Claim7.holds Tryz.pinned (.plain (OpenSpec.ofChange tablesInSpec)) tablesInCard

/-- THE TIED CARD OF 'paddocklaw08.TablesTurns'. -/
def tablesTurnsCard : Claim7 := { stood := { row := tablesTurnsRow, standIns := [], harness := (true, "512537e0924ab9cca3950b49a69d5ed43cdf724020b1b48d78a672fc4e965cfb"), looks := true }, kinds := [], alts := [], laidByText := true, laidKinds := [.data, .sentinel, .sentinel, .sentinel, .sentinel, .sentinel, .sentinel], laidTests := true, laidLooks := .later }
def TablesTurnsCardSaid : Prop := Claim7.holds Tryz.pinned (.plain (OpenSpec.ofChange tablesTurnsSpec)) tablesTurnsCard

/-- THE TIED CARD OF 'paddocklaw08.TablesPlays'. -/
def tablesPlaysCard : Claim7 := { stood := { row := tablesPlaysRow, standIns := [], harness := (true, "512537e0924ab9cca3950b49a69d5ed43cdf724020b1b48d78a672fc4e965cfb"), looks := true }, kinds := [], alts := [], laidByText := true, laidKinds := [.data, .sentinel, .sentinel, .sentinel, .sentinel, .sentinel, .sentinel, .sentinel, .sentinel, .sentinel, .sentinel], laidTests := true, laidLooks := .later }
def TablesPlaysCardSaid : Prop := Claim7.holds Tryz.pinned (.plain (OpenSpec.ofChange tablesPlaysSpec)) tablesPlaysCard

/-- THE TIED CARD OF 'paddocklaw09.QueryNarrows'. -/
def queryNarrowsCard : Claim7 := { stood := { row := queryNarrowsRow, standIns := [], harness := (true, "512537e0924ab9cca3950b49a69d5ed43cdf724020b1b48d78a672fc4e965cfb"), looks := true }, kinds := [], alts := [], laidByText := true, laidKinds := [.data, .sentinel, .sentinel, .sentinel, .sentinel, .sentinel], laidTests := true, laidLooks := .later }
def QueryNarrowsCardSaid : Prop := Claim7.holds Tryz.pinned (.plain (OpenSpec.ofChange queryNarrowsSpec)) queryNarrowsCard

/-- THE TIED CARD OF 'paddocklaw09.QueryHalves'. -/
def queryHalvesCard : Claim7 := { stood := { row := queryHalvesRow, standIns := [], harness := (true, "512537e0924ab9cca3950b49a69d5ed43cdf724020b1b48d78a672fc4e965cfb"), looks := true }, kinds := [], alts := [], laidByText := true, laidKinds := [.data, .sentinel, .sentinel, .sentinel, .sentinel, .sentinel], laidTests := true, laidLooks := .later }
def QueryHalvesCardSaid : Prop := Claim7.holds Tryz.pinned (.plain (OpenSpec.ofChange queryHalvesSpec)) queryHalvesCard

/-- THE TIED CARD OF 'paddocklaw09.QueryBoth'. -/
def queryBothCard : Claim7 := { stood := { row := queryBothRow, standIns := [], harness := (true, "512537e0924ab9cca3950b49a69d5ed43cdf724020b1b48d78a672fc4e965cfb"), looks := true }, kinds := [], alts := [], laidByText := true, laidKinds := [.data, .sentinel, .sentinel, .sentinel, .sentinel, .sentinel, .sentinel], laidTests := true, laidLooks := .later }
def QueryBothCardSaid : Prop := Claim7.holds Tryz.pinned (.plain (OpenSpec.ofChange queryBothSpec)) queryBothCard

/-- THE TIED CARD OF 'paddocklaw09.QueryAnswers'. -/
def queryAnswersCard : Claim7 := { stood := { row := queryAnswersRow, standIns := [], harness := (true, "512537e0924ab9cca3950b49a69d5ed43cdf724020b1b48d78a672fc4e965cfb"), looks := true }, kinds := [], alts := [], laidByText := true, laidKinds := [.data, .sentinel, .sentinel, .sentinel, .sentinel, .sentinel, .sentinel], laidTests := true, laidLooks := .later }
def QueryAnswersCardSaid : Prop := Claim7.holds Tryz.pinned (.plain (OpenSpec.ofChange queryAnswersSpec)) queryAnswersCard

/-- THE SECOND FORM's CARD OF 'paddocklaw08.TablesOrders'. -/
def tablesOrdersUptoCard : Claim7 := { stood := { row := tablesOrdersUptoRow, standIns := [], harness := (true, "512537e0924ab9cca3950b49a69d5ed43cdf724020b1b48d78a672fc4e965cfb"), looks := true }, kinds := [], alts := [], laidByText := true, laidKinds := [.data, .sentinel, .sentinel, .sentinel, .sentinel, .sentinel, .sentinel], laidTests := true, laidLooks := .later }
def TablesOrdersUptoCardSaid : Prop := Claim7.holds Tryz.pinned (.plain (OpenSpec.upto tablesOrdersSpec)) tablesOrdersUptoCard

/-- THE SECOND FORM's CARD OF 'paddocklaw08.TablesLimits'. -/
def tablesLimitsUptoCard : Claim7 := { stood := { row := tablesLimitsUptoRow, standIns := [], harness := (true, "512537e0924ab9cca3950b49a69d5ed43cdf724020b1b48d78a672fc4e965cfb"), looks := true }, kinds := [], alts := [], laidByText := true, laidKinds := [.data, .sentinel, .sentinel, .sentinel, .sentinel, .sentinel, .sentinel, .sentinel, .sentinel, .sentinel, .sentinel], laidTests := true, laidLooks := .later }
def TablesLimitsUptoCardSaid : Prop := Claim7.holds Tryz.pinned (.plain (OpenSpec.upto tablesLimitsSpec)) tablesLimitsUptoCard

/-- THE SECOND FORM's CARD OF 'paddocklaw08.TablesApart'. -/
def tablesApartUptoCard : Claim7 := { stood := { row := tablesApartUptoRow, standIns := [], harness := (true, "512537e0924ab9cca3950b49a69d5ed43cdf724020b1b48d78a672fc4e965cfb"), looks := true }, kinds := [], alts := [], laidByText := true, laidKinds := [.data, .sentinel, .sentinel, .sentinel, .sentinel, .sentinel, .sentinel], laidTests := true, laidLooks := .later }
def TablesApartUptoCardSaid : Prop := Claim7.holds Tryz.pinned (.plain (OpenSpec.upto tablesApartSpec)) tablesApartUptoCard

/-- THE SECOND FORM's CARD OF 'paddocklaw08.TablesIn'. -/
def tablesInUptoCard : Claim7 := { stood := { row := tablesInUptoRow, standIns := [], harness := (true, "512537e0924ab9cca3950b49a69d5ed43cdf724020b1b48d78a672fc4e965cfb"), looks := true }, kinds := [], alts := [], laidByText := true, laidKinds := [.data, .sentinel, .sentinel, .sentinel, .sentinel, .sentinel, .sentinel, .sentinel, .sentinel, .sentinel, .sentinel], laidTests := true, laidLooks := .later }
def TablesInUptoCardSaid : Prop := Claim7.holds Tryz.pinned (.plain (OpenSpec.upto tablesInSpec)) tablesInUptoCard

/-- THE SECOND FORM's CARD OF 'paddocklaw08.TablesTurns'. -/
def tablesTurnsUptoCard : Claim7 := { stood := { row := tablesTurnsUptoRow, standIns := [], harness := (true, "512537e0924ab9cca3950b49a69d5ed43cdf724020b1b48d78a672fc4e965cfb"), looks := true }, kinds := [], alts := [], laidByText := true, laidKinds := [.data, .sentinel, .sentinel, .sentinel, .sentinel, .sentinel, .sentinel], laidTests := true, laidLooks := .later }
def TablesTurnsUptoCardSaid : Prop := Claim7.holds Tryz.pinned (.plain (OpenSpec.upto tablesTurnsSpec)) tablesTurnsUptoCard

/-- THE SECOND FORM's CARD OF 'paddocklaw08.TablesPlays'. -/
def tablesPlaysUptoCard : Claim7 := { stood := { row := tablesPlaysUptoRow, standIns := [], harness := (true, "512537e0924ab9cca3950b49a69d5ed43cdf724020b1b48d78a672fc4e965cfb"), looks := true }, kinds := [], alts := [], laidByText := true, laidKinds := [.data, .sentinel, .sentinel, .sentinel, .sentinel, .sentinel, .sentinel, .sentinel, .sentinel, .sentinel, .sentinel], laidTests := true, laidLooks := .later }
def TablesPlaysUptoCardSaid : Prop := Claim7.holds Tryz.pinned (.plain (OpenSpec.upto tablesPlaysSpec)) tablesPlaysUptoCard

/-- THE SECOND FORM's CARD OF 'paddocklaw09.QueryNarrows'. -/
def queryNarrowsUptoCard : Claim7 := { stood := { row := queryNarrowsUptoRow, standIns := [], harness := (true, "512537e0924ab9cca3950b49a69d5ed43cdf724020b1b48d78a672fc4e965cfb"), looks := true }, kinds := [], alts := [], laidByText := true, laidKinds := [.data, .sentinel, .sentinel, .sentinel, .sentinel, .sentinel], laidTests := true, laidLooks := .later }
def QueryNarrowsUptoCardSaid : Prop := Claim7.holds Tryz.pinned (.plain (OpenSpec.upto queryNarrowsSpec)) queryNarrowsUptoCard

/-- THE SECOND FORM's CARD OF 'paddocklaw09.QueryHalves'. -/
def queryHalvesUptoCard : Claim7 := { stood := { row := queryHalvesUptoRow, standIns := [], harness := (true, "512537e0924ab9cca3950b49a69d5ed43cdf724020b1b48d78a672fc4e965cfb"), looks := true }, kinds := [], alts := [], laidByText := true, laidKinds := [.data, .sentinel, .sentinel, .sentinel, .sentinel, .sentinel], laidTests := true, laidLooks := .later }
def QueryHalvesUptoCardSaid : Prop := Claim7.holds Tryz.pinned (.plain (OpenSpec.upto queryHalvesSpec)) queryHalvesUptoCard

/-- THE SECOND FORM's CARD OF 'paddocklaw09.QueryBoth'. -/
def queryBothUptoCard : Claim7 := { stood := { row := queryBothUptoRow, standIns := [], harness := (true, "512537e0924ab9cca3950b49a69d5ed43cdf724020b1b48d78a672fc4e965cfb"), looks := true }, kinds := [], alts := [], laidByText := true, laidKinds := [.data, .sentinel, .sentinel, .sentinel, .sentinel, .sentinel, .sentinel], laidTests := true, laidLooks := .later }
def QueryBothUptoCardSaid : Prop := Claim7.holds Tryz.pinned (.plain (OpenSpec.upto queryBothSpec)) queryBothUptoCard

/-- THE SECOND FORM's CARD OF 'paddocklaw09.QueryAnswers'. -/
def queryAnswersUptoCard : Claim7 := { stood := { row := queryAnswersUptoRow, standIns := [], harness := (true, "512537e0924ab9cca3950b49a69d5ed43cdf724020b1b48d78a672fc4e965cfb"), looks := true }, kinds := [], alts := [], laidByText := true, laidKinds := [.data, .sentinel, .sentinel, .sentinel, .sentinel, .sentinel, .sentinel], laidTests := true, laidLooks := .later }
def QueryAnswersUptoCardSaid : Prop := Claim7.holds Tryz.pinned (.plain (OpenSpec.upto queryAnswersSpec)) queryAnswersUptoCard
end Rows
end Go.Proofs.YtcnbngiplfoomaaGreatDoor
