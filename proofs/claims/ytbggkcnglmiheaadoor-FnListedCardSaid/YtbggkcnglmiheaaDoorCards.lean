/-
  DERIVED. GIVEN WITH THE SEED: THE CARDS: each row of YtbggkcnglmiheaaDoorRows.lean that lists a variable, with what it lists TIED to the program's text (the seventh form; the later family's looks); each row that meets fmt, with fmt's text TOLD by the authors' own Lean function (tested against real Go, not proved from fmt's source: count such statements apart). THE CARD IS WHAT COUNTS. Prove the row's statement (the work); the ties are given (YtbggkcnglmiheaaDoorTie.lean); close each card by the builder's one call (the guide's Derived/Test/ToyasCard.lean, 'card_holds'). Laid BY PROGRAM, IN A SANDBOX (cutbox-door.mjs). By AI agents, Wed Nov 11 2026. No macro, syntax, notation, axiom, sorry.
-/
import Derived.Test.YtbggkcnglmiheaaDoorRows
import GoSem.ClaimSeven
namespace Go.Proofs.YtbggkcnglmiheaaDoor
namespace Rows

/-- THE TIED CARD OF 'laws.FnExactAssemble'. -/
def fnExactAssembleCard : Claim7 := { stood := { row := fnExactAssembleRow, standIns := [], harness := (true, "64d3b7aff1f847cf41908511dd45384939d2613c64da2f018664faf13a04fe1b"), looks := true }, kinds := [], alts := [], laidByText := true, laidKinds := [.data, .data, .data, .data, .sentinel, .sentinel, .pinned], laidTests := true, laidLooks := .later }
def FnExactAssembleCardSaid : Prop := Claim7.holds Tryd.pinned (.plain (OpenSpec.ofChange fnExactAssembleSpec)) fnExactAssembleCard

/-- THE TIED CARD OF 'laws.FnListed'. -/
def fnListedCard : Claim7 := { stood := { row := fnListedRow, standIns := [], harness := (true, "64d3b7aff1f847cf41908511dd45384939d2613c64da2f018664faf13a04fe1b"), looks := true }, kinds := [], alts := [], laidByText := true, laidKinds := [.data, .data, .data, .data, .sentinel, .sentinel, .pinned], laidTests := true, laidLooks := .later }
def FnListedCardSaid : Prop := Claim7.holds Tryd.pinned (.plain (OpenSpec.ofChange fnListedSpec)) fnListedCard

/-- THE TIED CARD OF 'laws.FnAssembled'. -/
def fnAssembledCard : Claim7 := { stood := { row := fnAssembledRow, standIns := [], harness := (true, "64d3b7aff1f847cf41908511dd45384939d2613c64da2f018664faf13a04fe1b"), looks := true }, kinds := [], alts := [], laidByText := true, laidKinds := [.data, .data, .data, .data, .sentinel, .sentinel, .pinned], laidTests := true, laidLooks := .later }
def FnAssembledCardSaid : Prop := Claim7.holds Tryd.pinned (.plain (OpenSpec.ofChange fnAssembledSpec)) fnAssembledCard

/-- THE TIED CARD OF 'laws.FnExactLineOf'. -/
def fnExactLineOfCard : Claim7 := { stood := { row := fnExactLineOfRow, standIns := [], harness := (true, "64d3b7aff1f847cf41908511dd45384939d2613c64da2f018664faf13a04fe1b"), looks := true }, kinds := [], alts := [], laidByText := true, laidKinds := [.data, .data, .data], laidTests := true, laidLooks := .later }
def FnExactLineOfCardSaid : Prop := Claim7.holds Tryd.pinned (.plain (OpenSpec.ofChange fnExactLineOfSpec)) fnExactLineOfCard

/-- THE TIED CARD OF 'laws.FnExactListing'. -/
def fnExactListingCard : Claim7 := { stood := { row := fnExactListingRow, standIns := [], harness := (true, "64d3b7aff1f847cf41908511dd45384939d2613c64da2f018664faf13a04fe1b"), looks := true }, kinds := [], alts := [], laidByText := true, laidKinds := [.data, .data, .data], laidTests := true, laidLooks := .later }
def FnExactListingCardSaid : Prop := Claim7.holds Tryd.pinned (.plain (OpenSpec.ofChange fnExactListingSpec)) fnExactListingCard

/-- THE SECOND FORM's CARD OF 'laws.FnExactAssemble'. -/
def fnExactAssembleUptoCard : Claim7 := { stood := { row := fnExactAssembleUptoRow, standIns := [], harness := (true, "64d3b7aff1f847cf41908511dd45384939d2613c64da2f018664faf13a04fe1b"), looks := true }, kinds := [], alts := [], laidByText := true, laidKinds := [.data, .data, .data, .data, .sentinel, .sentinel, .pinned], laidTests := true, laidLooks := .later }
def FnExactAssembleUptoCardSaid : Prop := Claim7.holds Tryd.pinned (.plain (OpenSpec.upto fnExactAssembleSpec)) fnExactAssembleUptoCard

/-- THE SECOND FORM's CARD OF 'laws.FnListed'. -/
def fnListedUptoCard : Claim7 := { stood := { row := fnListedUptoRow, standIns := [], harness := (true, "64d3b7aff1f847cf41908511dd45384939d2613c64da2f018664faf13a04fe1b"), looks := true }, kinds := [], alts := [], laidByText := true, laidKinds := [.data, .data, .data, .data, .sentinel, .sentinel, .pinned], laidTests := true, laidLooks := .later }
def FnListedUptoCardSaid : Prop := Claim7.holds Tryd.pinned (.plain (OpenSpec.upto fnListedSpec)) fnListedUptoCard

/-- THE SECOND FORM's CARD OF 'laws.FnAssembled'. -/
def fnAssembledUptoCard : Claim7 := { stood := { row := fnAssembledUptoRow, standIns := [], harness := (true, "64d3b7aff1f847cf41908511dd45384939d2613c64da2f018664faf13a04fe1b"), looks := true }, kinds := [], alts := [], laidByText := true, laidKinds := [.data, .data, .data, .data, .sentinel, .sentinel, .pinned], laidTests := true, laidLooks := .later }
def FnAssembledUptoCardSaid : Prop := Claim7.holds Tryd.pinned (.plain (OpenSpec.upto fnAssembledSpec)) fnAssembledUptoCard

/-- THE SECOND FORM's CARD OF 'laws.FnExactLineOf'. -/
def fnExactLineOfUptoCard : Claim7 := { stood := { row := fnExactLineOfUptoRow, standIns := [], harness := (true, "64d3b7aff1f847cf41908511dd45384939d2613c64da2f018664faf13a04fe1b"), looks := true }, kinds := [], alts := [], laidByText := true, laidKinds := [.data, .data, .data], laidTests := true, laidLooks := .later }
def FnExactLineOfUptoCardSaid : Prop := Claim7.holds Tryd.pinned (.plain (OpenSpec.upto fnExactLineOfSpec)) fnExactLineOfUptoCard

/-- THE SECOND FORM's CARD OF 'laws.FnExactListing'. -/
def fnExactListingUptoCard : Claim7 := { stood := { row := fnExactListingUptoRow, standIns := [], harness := (true, "64d3b7aff1f847cf41908511dd45384939d2613c64da2f018664faf13a04fe1b"), looks := true }, kinds := [], alts := [], laidByText := true, laidKinds := [.data, .data, .data], laidTests := true, laidLooks := .later }
def FnExactListingUptoCardSaid : Prop := Claim7.holds Tryd.pinned (.plain (OpenSpec.upto fnExactListingSpec)) fnExactListingUptoCard
end Rows
end Go.Proofs.YtbggkcnglmiheaaDoor
