/-
  DERIVED. GIVEN WITH THE SEED: THE CARDS: each row of YtifcgjnknikjkaaDoorRows.lean that lists a variable, with what it lists TIED to the program's text (the seventh form; the later family's looks); each row that meets fmt, with fmt's text TOLD by the authors' own Lean function (tested against real Go, not proved from fmt's source: count such statements apart). THE CARD IS WHAT COUNTS. Prove the row's statement (the work); the ties are given (YtifcgjnknikjkaaDoorTie.lean); close each card by the builder's one call (the guide's Derived/Test/ToyasCard.lean, 'card_holds'). Laid BY PROGRAM, IN A SANDBOX (cutbox-door.mjs). By AI agents, Wed Nov 11 2026. No macro, syntax, notation, axiom, sorry.
-/
import Derived.Test.YtifcgjnknikjkaaDoorRows
import GoSem.ClaimSeven
namespace Go.Proofs.YtifcgjnknikjkaaDoor
namespace Rows

/-- THE TIED CARD OF 'paddocklaw09.QueryOf'. -/
def queryOfCard : Claim7 := { stood := { row := queryOfRow, standIns := [], harness := (true, "5b82ab9aba191581ab591019ca320a684f4da009760b0ff9f354c447407e5087"), looks := true }, kinds := [], alts := [], laidByText := true, laidKinds := [.sentinel, .sentinel, .sentinel, .sentinel, .sentinel, .sentinel, .sentinel, .sentinel, .sentinel, .sentinel], laidTests := true, laidLooks := .later }
def QueryOfCardSaid : Prop := Claim7.holds Tryd.pinned (.plain (OpenSpec.ofChange queryOfSpec)) queryOfCard

/-- THE TIED CARD OF 'paddocklaw12.QuadWalks'. -/
def quadWalksCard : Claim7 := { stood := { row := quadWalksRow, standIns := [], harness := (true, "5b82ab9aba191581ab591019ca320a684f4da009760b0ff9f354c447407e5087"), looks := true }, kinds := [], alts := [], laidByText := true, laidKinds := [.sentinel, .sentinel, .sentinel], laidTests := true, laidLooks := .later }
def QuadWalksCardSaid : Prop := Claim7.holds Tryd.pinned (.plain (OpenSpec.ofChange quadWalksSpec)) quadWalksCard

/-- THE TIED CARD OF 'paddocklaw06.SchemaWay'. -/
def schemaWayCard : Claim7 := { stood := { row := schemaWayRow, standIns := [], harness := (true, "5b82ab9aba191581ab591019ca320a684f4da009760b0ff9f354c447407e5087"), looks := true }, kinds := [], alts := [], laidByText := true, laidKinds := [.sentinel, .sentinel, .sentinel], laidTests := true, laidLooks := .later }
def SchemaWayCardSaid : Prop := Claim7.holds Tryd.pinned (.plain (OpenSpec.ofChange schemaWaySpec)) schemaWayCard

/-- THE TIED CARD OF 'paddocklaw06.SchemaChanges'. -/
def schemaChangesCard : Claim7 := { stood := { row := schemaChangesRow, standIns := [], harness := (true, "5b82ab9aba191581ab591019ca320a684f4da009760b0ff9f354c447407e5087"), looks := true }, kinds := [], alts := [], laidByText := true, laidKinds := [.sentinel, .sentinel, .sentinel], laidTests := true, laidLooks := .later }
def SchemaChangesCardSaid : Prop := Claim7.holds Tryd.pinned (.plain (OpenSpec.ofChange schemaChangesSpec)) schemaChangesCard

/-- THE TIED CARD OF 'paddocklaw06.SchemaChecks'. -/
def schemaChecksCard : Claim7 := { stood := { row := schemaChecksRow, standIns := [], harness := (true, "5b82ab9aba191581ab591019ca320a684f4da009760b0ff9f354c447407e5087"), looks := true }, kinds := [], alts := [], laidByText := true, laidKinds := [.sentinel, .sentinel, .sentinel, .sentinel, .sentinel, .sentinel, .sentinel, .sentinel, .sentinel, .sentinel], laidTests := true, laidLooks := .later }
def SchemaChecksCardSaid : Prop := Claim7.holds Tryd.pinned (.plain (OpenSpec.ofChange schemaChecksSpec)) schemaChecksCard

/-- THE TIED CARD OF 'paddocklaw06.SchemaRows'. -/
def schemaRowsCard : Claim7 := { stood := { row := schemaRowsRow, standIns := [], harness := (true, "5b82ab9aba191581ab591019ca320a684f4da009760b0ff9f354c447407e5087"), looks := true }, kinds := [], alts := [], laidByText := true, laidKinds := [.sentinel, .sentinel, .sentinel, .sentinel, .sentinel, .sentinel, .sentinel, .sentinel, .sentinel, .sentinel], laidTests := true, laidLooks := .later }
def SchemaRowsCardSaid : Prop := Claim7.holds Tryd.pinned (.plain (OpenSpec.ofChange schemaRowsSpec)) schemaRowsCard

/-- THE TIED CARD OF 'paddocklaw06.SchemaAsks'. -/
def schemaAsksCard : Claim7 := { stood := { row := schemaAsksRow, standIns := [], harness := (true, "5b82ab9aba191581ab591019ca320a684f4da009760b0ff9f354c447407e5087"), looks := true }, kinds := [], alts := [], laidByText := true, laidKinds := [.sentinel, .sentinel, .sentinel], laidTests := true, laidLooks := .later }
def SchemaAsksCardSaid : Prop := Claim7.holds Tryd.pinned (.plain (OpenSpec.ofChange schemaAsksSpec)) schemaAsksCard

/-- THE TIED CARD OF 'paddocklaw06.SchemaMoves'. -/
def schemaMovesCard : Claim7 := { stood := { row := schemaMovesRow, standIns := [], harness := (true, "5b82ab9aba191581ab591019ca320a684f4da009760b0ff9f354c447407e5087"), looks := true }, kinds := [], alts := [], laidByText := true, laidKinds := [.sentinel, .sentinel, .sentinel, .sentinel, .sentinel, .sentinel, .sentinel, .sentinel, .sentinel, .sentinel], laidTests := true, laidLooks := .later }
def SchemaMovesCardSaid : Prop := Claim7.holds Tryd.pinned (.plain (OpenSpec.ofChange schemaMovesSpec)) schemaMovesCard

/-- THE TIED CARD OF 'paddocklaw06.SchemaTurns'. -/
def schemaTurnsCard : Claim7 := { stood := { row := schemaTurnsRow, standIns := [], harness := (true, "5b82ab9aba191581ab591019ca320a684f4da009760b0ff9f354c447407e5087"), looks := true }, kinds := [], alts := [], laidByText := true, laidKinds := [.sentinel, .sentinel, .sentinel], laidTests := true, laidLooks := .later }
def SchemaTurnsCardSaid : Prop := Claim7.holds Tryd.pinned (.plain (OpenSpec.ofChange schemaTurnsSpec)) schemaTurnsCard

/-- THE SECOND FORM's CARD OF 'paddocklaw09.QueryOf'. -/
def queryOfUptoCard : Claim7 := { stood := { row := queryOfUptoRow, standIns := [], harness := (true, "5b82ab9aba191581ab591019ca320a684f4da009760b0ff9f354c447407e5087"), looks := true }, kinds := [], alts := [], laidByText := true, laidKinds := [.sentinel, .sentinel, .sentinel, .sentinel, .sentinel, .sentinel, .sentinel, .sentinel, .sentinel, .sentinel], laidTests := true, laidLooks := .later }
def QueryOfUptoCardSaid : Prop := Claim7.holds Tryd.pinned (.plain (OpenSpec.upto queryOfSpec)) queryOfUptoCard

/-- THE SECOND FORM's CARD OF 'paddocklaw12.QuadWalks'. -/
def quadWalksUptoCard : Claim7 := { stood := { row := quadWalksUptoRow, standIns := [], harness := (true, "5b82ab9aba191581ab591019ca320a684f4da009760b0ff9f354c447407e5087"), looks := true }, kinds := [], alts := [], laidByText := true, laidKinds := [.sentinel, .sentinel, .sentinel], laidTests := true, laidLooks := .later }
def QuadWalksUptoCardSaid : Prop := Claim7.holds Tryd.pinned (.plain (OpenSpec.upto quadWalksSpec)) quadWalksUptoCard

/-- THE SECOND FORM's CARD OF 'paddocklaw06.SchemaWay'. -/
def schemaWayUptoCard : Claim7 := { stood := { row := schemaWayUptoRow, standIns := [], harness := (true, "5b82ab9aba191581ab591019ca320a684f4da009760b0ff9f354c447407e5087"), looks := true }, kinds := [], alts := [], laidByText := true, laidKinds := [.sentinel, .sentinel, .sentinel], laidTests := true, laidLooks := .later }
def SchemaWayUptoCardSaid : Prop := Claim7.holds Tryd.pinned (.plain (OpenSpec.upto schemaWaySpec)) schemaWayUptoCard

/-- THE SECOND FORM's CARD OF 'paddocklaw06.SchemaChanges'. -/
def schemaChangesUptoCard : Claim7 := { stood := { row := schemaChangesUptoRow, standIns := [], harness := (true, "5b82ab9aba191581ab591019ca320a684f4da009760b0ff9f354c447407e5087"), looks := true }, kinds := [], alts := [], laidByText := true, laidKinds := [.sentinel, .sentinel, .sentinel], laidTests := true, laidLooks := .later }
def SchemaChangesUptoCardSaid : Prop := Claim7.holds Tryd.pinned (.plain (OpenSpec.upto schemaChangesSpec)) schemaChangesUptoCard

/-- THE SECOND FORM's CARD OF 'paddocklaw06.SchemaChecks'. -/
def schemaChecksUptoCard : Claim7 := { stood := { row := schemaChecksUptoRow, standIns := [], harness := (true, "5b82ab9aba191581ab591019ca320a684f4da009760b0ff9f354c447407e5087"), looks := true }, kinds := [], alts := [], laidByText := true, laidKinds := [.sentinel, .sentinel, .sentinel, .sentinel, .sentinel, .sentinel, .sentinel, .sentinel, .sentinel, .sentinel], laidTests := true, laidLooks := .later }
def SchemaChecksUptoCardSaid : Prop := Claim7.holds Tryd.pinned (.plain (OpenSpec.upto schemaChecksSpec)) schemaChecksUptoCard

/-- THE SECOND FORM's CARD OF 'paddocklaw06.SchemaRows'. -/
def schemaRowsUptoCard : Claim7 := { stood := { row := schemaRowsUptoRow, standIns := [], harness := (true, "5b82ab9aba191581ab591019ca320a684f4da009760b0ff9f354c447407e5087"), looks := true }, kinds := [], alts := [], laidByText := true, laidKinds := [.sentinel, .sentinel, .sentinel, .sentinel, .sentinel, .sentinel, .sentinel, .sentinel, .sentinel, .sentinel], laidTests := true, laidLooks := .later }
def SchemaRowsUptoCardSaid : Prop := Claim7.holds Tryd.pinned (.plain (OpenSpec.upto schemaRowsSpec)) schemaRowsUptoCard

/-- THE SECOND FORM's CARD OF 'paddocklaw06.SchemaAsks'. -/
def schemaAsksUptoCard : Claim7 := { stood := { row := schemaAsksUptoRow, standIns := [], harness := (true, "5b82ab9aba191581ab591019ca320a684f4da009760b0ff9f354c447407e5087"), looks := true }, kinds := [], alts := [], laidByText := true, laidKinds := [.sentinel, .sentinel, .sentinel], laidTests := true, laidLooks := .later }
def SchemaAsksUptoCardSaid : Prop := Claim7.holds Tryd.pinned (.plain (OpenSpec.upto schemaAsksSpec)) schemaAsksUptoCard

/-- THE SECOND FORM's CARD OF 'paddocklaw06.SchemaMoves'. -/
def schemaMovesUptoCard : Claim7 := { stood := { row := schemaMovesUptoRow, standIns := [], harness := (true, "5b82ab9aba191581ab591019ca320a684f4da009760b0ff9f354c447407e5087"), looks := true }, kinds := [], alts := [], laidByText := true, laidKinds := [.sentinel, .sentinel, .sentinel, .sentinel, .sentinel, .sentinel, .sentinel, .sentinel, .sentinel, .sentinel], laidTests := true, laidLooks := .later }
def SchemaMovesUptoCardSaid : Prop := Claim7.holds Tryd.pinned (.plain (OpenSpec.upto schemaMovesSpec)) schemaMovesUptoCard

/-- THE SECOND FORM's CARD OF 'paddocklaw06.SchemaTurns'. -/
def schemaTurnsUptoCard : Claim7 := { stood := { row := schemaTurnsUptoRow, standIns := [], harness := (true, "5b82ab9aba191581ab591019ca320a684f4da009760b0ff9f354c447407e5087"), looks := true }, kinds := [], alts := [], laidByText := true, laidKinds := [.sentinel, .sentinel, .sentinel], laidTests := true, laidLooks := .later }
def SchemaTurnsUptoCardSaid : Prop := Claim7.holds Tryd.pinned (.plain (OpenSpec.upto schemaTurnsSpec)) schemaTurnsUptoCard
end Rows
end Go.Proofs.YtifcgjnknikjkaaDoor
