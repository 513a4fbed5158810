/-
  DERIVED. GIVEN WITH THE SEED: THE CARDS: each row of YtkcpadkllhgmdaaDoorRows.lean that lists a variable, with what it lists TIED to the program's text (the seventh form; the later family's looks); each row that meets fmt, with fmt's text TOLD by the authors' own Lean function (tested against real Go, not proved from fmt's source: count such statements apart). THE CARD IS WHAT COUNTS. Prove the row's statement (the work); the ties are given (YtkcpadkllhgmdaaDoorTie.lean); close each card by the builder's one call (the guide's Derived/Test/ToyasCard.lean, 'card_holds'). Laid BY PROGRAM, IN A SANDBOX (cutbox-door.mjs). By AI agents, Wed Nov 11 2026. No macro, syntax, notation, axiom, sorry.
-/
import Derived.Test.YtkcpadkllhgmdaaDoorRows
import GoSem.ClaimSeven
namespace Go.Proofs.YtkcpadkllhgmdaaDoor
namespace Rows

/-- THE TIED CARD OF 'paddocklaw09.QueryOf'. -/
def queryOfCard : Claim7 := { stood := { row := queryOfRow, standIns := [], harness := (true, "92b07c6d89db1d5c55c455fb32c9fc76b74bd2b48b7a94b879023aa6f8c10dcd"), looks := true }, kinds := [], alts := [], laidByText := true, laidKinds := [.sentinel, .sentinel, .sentinel, .sentinel, .sentinel, .sentinel, .sentinel, .sentinel, .sentinel, .sentinel], laidTests := true, laidLooks := .later }
def QueryOfCardSaid : Prop := Claim7.holds Tryd.pinned (.plain (OpenSpec.ofChange queryOfSpec)) queryOfCard

/-- THE TIED CARD OF 'paddocklaw12.QuadCells'. -/
def quadCellsCard : Claim7 := { stood := { row := quadCellsRow, standIns := [], harness := (true, "92b07c6d89db1d5c55c455fb32c9fc76b74bd2b48b7a94b879023aa6f8c10dcd"), looks := true }, kinds := [], alts := [], laidByText := true, laidKinds := [.sentinel, .sentinel, .sentinel, .sentinel, .sentinel, .sentinel, .sentinel, .sentinel, .sentinel, .sentinel], laidTests := true, laidLooks := .later }
def QuadCellsCardSaid : Prop := Claim7.holds Tryd.pinned (.plain (OpenSpec.ofChange quadCellsSpec)) quadCellsCard

/-- THE TIED CARD OF 'paddocklaw12.QuadLoose'. -/
def quadLooseCard : Claim7 := { stood := { row := quadLooseRow, standIns := [], harness := (true, "92b07c6d89db1d5c55c455fb32c9fc76b74bd2b48b7a94b879023aa6f8c10dcd"), looks := true }, kinds := [], alts := [], laidByText := true, laidKinds := [.sentinel, .sentinel, .sentinel, .sentinel, .sentinel, .sentinel, .sentinel, .sentinel, .sentinel, .sentinel], laidTests := true, laidLooks := .later }
def QuadLooseCardSaid : Prop := Claim7.holds Tryd.pinned (.plain (OpenSpec.ofChange quadLooseSpec)) quadLooseCard

/-- THE SECOND FORM's CARD OF 'paddocklaw09.QueryOf'. -/
def queryOfUptoCard : Claim7 := { stood := { row := queryOfUptoRow, standIns := [], harness := (true, "92b07c6d89db1d5c55c455fb32c9fc76b74bd2b48b7a94b879023aa6f8c10dcd"), looks := true }, kinds := [], alts := [], laidByText := true, laidKinds := [.sentinel, .sentinel, .sentinel, .sentinel, .sentinel, .sentinel, .sentinel, .sentinel, .sentinel, .sentinel], laidTests := true, laidLooks := .later }
def QueryOfUptoCardSaid : Prop := Claim7.holds Tryd.pinned (.plain (OpenSpec.upto queryOfSpec)) queryOfUptoCard

/-- THE SECOND FORM's CARD OF 'paddocklaw12.QuadCells'. -/
def quadCellsUptoCard : Claim7 := { stood := { row := quadCellsUptoRow, standIns := [], harness := (true, "92b07c6d89db1d5c55c455fb32c9fc76b74bd2b48b7a94b879023aa6f8c10dcd"), looks := true }, kinds := [], alts := [], laidByText := true, laidKinds := [.sentinel, .sentinel, .sentinel, .sentinel, .sentinel, .sentinel, .sentinel, .sentinel, .sentinel, .sentinel], laidTests := true, laidLooks := .later }
def QuadCellsUptoCardSaid : Prop := Claim7.holds Tryd.pinned (.plain (OpenSpec.upto quadCellsSpec)) quadCellsUptoCard

/-- THE SECOND FORM's CARD OF 'paddocklaw12.QuadLoose'. -/
def quadLooseUptoCard : Claim7 := { stood := { row := quadLooseUptoRow, standIns := [], harness := (true, "92b07c6d89db1d5c55c455fb32c9fc76b74bd2b48b7a94b879023aa6f8c10dcd"), looks := true }, kinds := [], alts := [], laidByText := true, laidKinds := [.sentinel, .sentinel, .sentinel, .sentinel, .sentinel, .sentinel, .sentinel, .sentinel, .sentinel, .sentinel], laidTests := true, laidLooks := .later }
def QuadLooseUptoCardSaid : Prop := Claim7.holds Tryd.pinned (.plain (OpenSpec.upto quadLooseSpec)) quadLooseUptoCard
end Rows
end Go.Proofs.YtkcpadkllhgmdaaDoor
