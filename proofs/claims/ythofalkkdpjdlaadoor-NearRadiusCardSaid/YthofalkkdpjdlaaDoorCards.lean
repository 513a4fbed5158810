/-
  DERIVED. GIVEN WITH THE SEED: THE CARDS: each row of YthofalkkdpjdlaaDoorRows.lean that lists a variable, with what it lists TIED to the program's text (the seventh form; the later family's looks); each row that meets fmt, with fmt's text TOLD by the authors' own Lean function (tested against real Go, not proved from fmt's source: count such statements apart). THE CARD IS WHAT COUNTS. Prove the row's statement (the work); the ties are given (YthofalkkdpjdlaaDoorTie.lean); close each card by the builder's one call (the guide's Derived/Test/ToyasCard.lean, 'card_holds'). Laid BY PROGRAM, IN A SANDBOX (cutbox-door.mjs). By AI agents, Wed Nov 11 2026. No macro, syntax, notation, axiom, sorry.
-/
import Derived.Test.YthofalkkdpjdlaaDoorRows
import GoSem.ClaimSeven
namespace Go.Proofs.YthofalkkdpjdlaaDoor
namespace Rows

/-- THE TIED CARD OF 'paddocklaw12.QuadWalks'. -/
def quadWalksCard : Claim7 := { stood := { row := quadWalksRow, standIns := [], harness := (true, "2ebbd8ddf2b2b421df7e7629e8bac4ba5afb0d8a4dd9cd07fc05a14d5743cfca"), looks := true }, kinds := [], alts := [], laidByText := true, laidKinds := [.sentinel, .sentinel, .sentinel], laidTests := true, laidLooks := .later }
def QuadWalksCardSaid : Prop := Claim7.holds Tryd.pinned (.plain (OpenSpec.ofChange quadWalksSpec)) quadWalksCard

/-- THE TIED CARD OF 'paddocklaw13.NearGrows'. -/
def nearGrowsCard : Claim7 := { stood := { row := nearGrowsRow, standIns := [], harness := (true, "2ebbd8ddf2b2b421df7e7629e8bac4ba5afb0d8a4dd9cd07fc05a14d5743cfca"), looks := true }, kinds := [], alts := [], laidByText := true, laidKinds := [.sentinel, .sentinel, .sentinel], laidTests := true, laidLooks := .later }
def NearGrowsCardSaid : Prop := Claim7.holds Tryd.pinned (.plain (OpenSpec.ofChange nearGrowsSpec)) nearGrowsCard

/-- THE TIED CARD OF 'paddocklaw13.NearMoved'. -/
def nearMovedCard : Claim7 := { stood := { row := nearMovedRow, standIns := [], harness := (true, "2ebbd8ddf2b2b421df7e7629e8bac4ba5afb0d8a4dd9cd07fc05a14d5743cfca"), looks := true }, kinds := [], alts := [], laidByText := true, laidKinds := [.sentinel, .sentinel, .sentinel], laidTests := true, laidLooks := .later }
def NearMovedCardSaid : Prop := Claim7.holds Tryd.pinned (.plain (OpenSpec.ofChange nearMovedSpec)) nearMovedCard

/-- THE TIED CARD OF 'paddocklaw13.NearFirst'. -/
def nearFirstCard : Claim7 := { stood := { row := nearFirstRow, standIns := [], harness := (true, "2ebbd8ddf2b2b421df7e7629e8bac4ba5afb0d8a4dd9cd07fc05a14d5743cfca"), looks := true }, kinds := [], alts := [], laidByText := true, laidKinds := [.sentinel, .sentinel, .sentinel], laidTests := true, laidLooks := .later }
def NearFirstCardSaid : Prop := Claim7.holds Tryd.pinned (.plain (OpenSpec.ofChange nearFirstSpec)) nearFirstCard

/-- THE TIED CARD OF 'paddocklaw13.NearRadius'. -/
def nearRadiusCard : Claim7 := { stood := { row := nearRadiusRow, standIns := [], harness := (true, "2ebbd8ddf2b2b421df7e7629e8bac4ba5afb0d8a4dd9cd07fc05a14d5743cfca"), looks := true }, kinds := [], alts := [], laidByText := true, laidKinds := [.sentinel, .sentinel, .sentinel, .sentinel, .sentinel, .sentinel, .sentinel, .sentinel, .sentinel, .sentinel], laidTests := true, laidLooks := .later }
def NearRadiusCardSaid : Prop := Claim7.holds Tryd.pinned (.plain (OpenSpec.ofChange nearRadiusSpec)) nearRadiusCard

/-- THE TIED CARD OF 'paddocklaw13.NearNearest'. -/
def nearNearestCard : Claim7 := { stood := { row := nearNearestRow, standIns := [], harness := (true, "2ebbd8ddf2b2b421df7e7629e8bac4ba5afb0d8a4dd9cd07fc05a14d5743cfca"), looks := true }, kinds := [], alts := [], laidByText := true, laidKinds := [.sentinel, .sentinel, .sentinel, .sentinel, .sentinel, .sentinel, .sentinel, .sentinel, .sentinel, .sentinel], laidTests := true, laidLooks := .later }
def NearNearestCardSaid : Prop := Claim7.holds Tryd.pinned (.plain (OpenSpec.ofChange nearNearestSpec)) nearNearestCard

/-- THE TIED CARD OF 'paddocklaw13.NearClosest'. -/
def nearClosestCard : Claim7 := { stood := { row := nearClosestRow, standIns := [], harness := (true, "2ebbd8ddf2b2b421df7e7629e8bac4ba5afb0d8a4dd9cd07fc05a14d5743cfca"), looks := true }, kinds := [], alts := [], laidByText := true, laidKinds := [.sentinel, .sentinel, .sentinel, .sentinel, .sentinel, .sentinel, .sentinel, .sentinel, .sentinel, .sentinel], laidTests := true, laidLooks := .later }
def NearClosestCardSaid : Prop := Claim7.holds Tryd.pinned (.plain (OpenSpec.ofChange nearClosestSpec)) nearClosestCard

/-- THE SECOND FORM's CARD OF 'paddocklaw12.QuadWalks'. -/
def quadWalksUptoCard : Claim7 := { stood := { row := quadWalksUptoRow, standIns := [], harness := (true, "2ebbd8ddf2b2b421df7e7629e8bac4ba5afb0d8a4dd9cd07fc05a14d5743cfca"), looks := true }, kinds := [], alts := [], laidByText := true, laidKinds := [.sentinel, .sentinel, .sentinel], laidTests := true, laidLooks := .later }
def QuadWalksUptoCardSaid : Prop := Claim7.holds Tryd.pinned (.plain (OpenSpec.upto quadWalksSpec)) quadWalksUptoCard

/-- THE SECOND FORM's CARD OF 'paddocklaw13.NearGrows'. -/
def nearGrowsUptoCard : Claim7 := { stood := { row := nearGrowsUptoRow, standIns := [], harness := (true, "2ebbd8ddf2b2b421df7e7629e8bac4ba5afb0d8a4dd9cd07fc05a14d5743cfca"), looks := true }, kinds := [], alts := [], laidByText := true, laidKinds := [.sentinel, .sentinel, .sentinel], laidTests := true, laidLooks := .later }
def NearGrowsUptoCardSaid : Prop := Claim7.holds Tryd.pinned (.plain (OpenSpec.upto nearGrowsSpec)) nearGrowsUptoCard

/-- THE SECOND FORM's CARD OF 'paddocklaw13.NearMoved'. -/
def nearMovedUptoCard : Claim7 := { stood := { row := nearMovedUptoRow, standIns := [], harness := (true, "2ebbd8ddf2b2b421df7e7629e8bac4ba5afb0d8a4dd9cd07fc05a14d5743cfca"), looks := true }, kinds := [], alts := [], laidByText := true, laidKinds := [.sentinel, .sentinel, .sentinel], laidTests := true, laidLooks := .later }
def NearMovedUptoCardSaid : Prop := Claim7.holds Tryd.pinned (.plain (OpenSpec.upto nearMovedSpec)) nearMovedUptoCard

/-- THE SECOND FORM's CARD OF 'paddocklaw13.NearFirst'. -/
def nearFirstUptoCard : Claim7 := { stood := { row := nearFirstUptoRow, standIns := [], harness := (true, "2ebbd8ddf2b2b421df7e7629e8bac4ba5afb0d8a4dd9cd07fc05a14d5743cfca"), looks := true }, kinds := [], alts := [], laidByText := true, laidKinds := [.sentinel, .sentinel, .sentinel], laidTests := true, laidLooks := .later }
def NearFirstUptoCardSaid : Prop := Claim7.holds Tryd.pinned (.plain (OpenSpec.upto nearFirstSpec)) nearFirstUptoCard

/-- THE SECOND FORM's CARD OF 'paddocklaw13.NearRadius'. -/
def nearRadiusUptoCard : Claim7 := { stood := { row := nearRadiusUptoRow, standIns := [], harness := (true, "2ebbd8ddf2b2b421df7e7629e8bac4ba5afb0d8a4dd9cd07fc05a14d5743cfca"), looks := true }, kinds := [], alts := [], laidByText := true, laidKinds := [.sentinel, .sentinel, .sentinel, .sentinel, .sentinel, .sentinel, .sentinel, .sentinel, .sentinel, .sentinel], laidTests := true, laidLooks := .later }
def NearRadiusUptoCardSaid : Prop := Claim7.holds Tryd.pinned (.plain (OpenSpec.upto nearRadiusSpec)) nearRadiusUptoCard

/-- THE SECOND FORM's CARD OF 'paddocklaw13.NearNearest'. -/
def nearNearestUptoCard : Claim7 := { stood := { row := nearNearestUptoRow, standIns := [], harness := (true, "2ebbd8ddf2b2b421df7e7629e8bac4ba5afb0d8a4dd9cd07fc05a14d5743cfca"), looks := true }, kinds := [], alts := [], laidByText := true, laidKinds := [.sentinel, .sentinel, .sentinel, .sentinel, .sentinel, .sentinel, .sentinel, .sentinel, .sentinel, .sentinel], laidTests := true, laidLooks := .later }
def NearNearestUptoCardSaid : Prop := Claim7.holds Tryd.pinned (.plain (OpenSpec.upto nearNearestSpec)) nearNearestUptoCard

/-- THE SECOND FORM's CARD OF 'paddocklaw13.NearClosest'. -/
def nearClosestUptoCard : Claim7 := { stood := { row := nearClosestUptoRow, standIns := [], harness := (true, "2ebbd8ddf2b2b421df7e7629e8bac4ba5afb0d8a4dd9cd07fc05a14d5743cfca"), looks := true }, kinds := [], alts := [], laidByText := true, laidKinds := [.sentinel, .sentinel, .sentinel, .sentinel, .sentinel, .sentinel, .sentinel, .sentinel, .sentinel, .sentinel], laidTests := true, laidLooks := .later }
def NearClosestUptoCardSaid : Prop := Claim7.holds Tryd.pinned (.plain (OpenSpec.upto nearClosestSpec)) nearClosestUptoCard
end Rows
end Go.Proofs.YthofalkkdpjdlaaDoor
