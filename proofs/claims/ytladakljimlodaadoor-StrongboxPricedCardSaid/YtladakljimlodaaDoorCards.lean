/-
  DERIVED. GIVEN WITH THE SEED: THE CARDS: each row of YtladakljimlodaaDoorRows.lean that lists a variable, with what it lists TIED to the program's text (the seventh form; the later family's looks); each row that meets fmt, with fmt's text TOLD by the authors' own Lean function (tested against real Go, not proved from fmt's source: count such statements apart). THE CARD IS WHAT COUNTS. Prove the row's statement (the work); the ties are given (YtladakljimlodaaDoorTie.lean); close each card by the builder's one call (the guide's Derived/Test/ToyasCard.lean, 'card_holds'). Laid BY PROGRAM, IN A SANDBOX (cutbox-door.mjs). By AI agents, Wed Nov 11 2026. No macro, syntax, notation, axiom, sorry.
-/
import Derived.Test.YtladakljimlodaaDoorRows
import GoSem.ClaimSeven
namespace Go.Proofs.YtladakljimlodaaDoor
namespace Rows

/-- THE TIED CARD OF 'strongboxtop.StrongboxPriced'. -/
def strongboxPricedCard : Claim7 := { stood := { row := strongboxPricedRow, standIns := [], harness := (true, "2bfdccf72b764355accb54462b61477d6d02eb75068e4a2ed3026118a04626e1"), looks := true }, kinds := [], alts := [], laidByText := true, laidKinds := [.data, .data, .data, .sentinel, .sentinel], laidTests := true, laidLooks := .later }
def StrongboxPricedCardSaid : Prop := Claim7.holds Tryd.pinned (.plain (OpenSpec.ofChange strongboxPricedSpec)) strongboxPricedCard

/-- THE SECOND FORM's CARD OF 'strongboxtop.StrongboxPriced'. -/
def strongboxPricedUptoCard : Claim7 := { stood := { row := strongboxPricedUptoRow, standIns := [], harness := (true, "2bfdccf72b764355accb54462b61477d6d02eb75068e4a2ed3026118a04626e1"), looks := true }, kinds := [], alts := [], laidByText := true, laidKinds := [.data, .data, .data, .sentinel, .sentinel], laidTests := true, laidLooks := .later }
def StrongboxPricedUptoCardSaid : Prop := Claim7.holds Tryd.pinned (.plain (OpenSpec.upto strongboxPricedSpec)) strongboxPricedUptoCard
end Rows
end Go.Proofs.YtladakljimlodaaDoor
