/-
  DERIVED. GIVEN WITH THE SEED: THE CARDS: each row of YtpojafdllcioiaaGreatDoorRows.lean that lists a variable, with what it lists TIED to the program's text (the seventh form; the later family's looks); each row that meets fmt, with fmt's text TOLD by the authors' own Lean function (tested against real Go, not proved from fmt's source: count such statements apart). THE CARD IS WHAT COUNTS. Prove the row's statement (the work); the ties are given (YtpojafdllcioiaaGreatDoorTie.lean); close each card by the builder's one call (the guide's Derived/Test/ToyasCard.lean, 'card_holds'). Laid BY PROGRAM, IN A SANDBOX (cutbox-door.mjs). By AI agents, Wed Nov 11 2026. No macro, syntax, notation, axiom, sorry.
-/
import Derived.Test.YtpojafdllcioiaaGreatDoorRows
import GoSem.ClaimSeven
namespace Go.Proofs.YtpojafdllcioiaaGreatDoor
namespace Rows

/-- THE TIED CARD OF 'paddocklaw12.QuadPlays'. -/
def quadPlaysCard : Claim7 := { stood := { row := quadPlaysRow, standIns := [], harness := (true, "c70c9279e6f087e0a6308eed680237279a41fa20fd8c9a595bb378dcc4d8e266"), looks := true }, kinds := [], alts := [], laidByText := true, laidKinds := [.sentinel, .sentinel, .sentinel, .sentinel, .sentinel, .sentinel, .sentinel, .sentinel, .sentinel, .sentinel], laidTests := true, laidLooks := .later }
def QuadPlaysCardSaid : Prop := Claim7.holds Tryz.pinned (.plain (OpenSpec.ofChange quadPlaysSpec)) quadPlaysCard

/-- THE SECOND FORM's CARD OF 'paddocklaw12.QuadPlays'. -/
def quadPlaysUptoCard : Claim7 := { stood := { row := quadPlaysUptoRow, standIns := [], harness := (true, "c70c9279e6f087e0a6308eed680237279a41fa20fd8c9a595bb378dcc4d8e266"), looks := true }, kinds := [], alts := [], laidByText := true, laidKinds := [.sentinel, .sentinel, .sentinel, .sentinel, .sentinel, .sentinel, .sentinel, .sentinel, .sentinel, .sentinel], laidTests := true, laidLooks := .later }
def QuadPlaysUptoCardSaid : Prop := Claim7.holds Tryz.pinned (.plain (OpenSpec.upto quadPlaysSpec)) quadPlaysUptoCard
end Rows
end Go.Proofs.YtpojafdllcioiaaGreatDoor
