/-
  DERIVED. GIVEN WITH THE SEED: THE CARDS: each row of YtajkhimlpnebdaaDoorRows.lean that lists a variable, with what it lists TIED to the program's text (the seventh form; the later family's looks); each row that meets fmt, with fmt's text TOLD by the authors' own Lean function (tested against real Go, not proved from fmt's source: count such statements apart). THE CARD IS WHAT COUNTS. Prove the row's statement (the work); the ties are given (YtajkhimlpnebdaaDoorTie.lean); close each card by the builder's one call (the guide's Derived/Test/ToyasCard.lean, 'card_holds'). Laid BY PROGRAM, IN A SANDBOX (cutbox-door.mjs). By AI agents, Wed Nov 11 2026. No macro, syntax, notation, axiom, sorry.
-/
import Derived.Test.YtajkhimlpnebdaaDoorRows
import GoSem.ClaimSeven
namespace Go.Proofs.YtajkhimlpnebdaaDoor
namespace Rows

/-- THE TIED CARD OF 'strongboxlaw03.TextBech'. -/
def textBechCard : Claim7 := { stood := { row := textBechRow, standIns := [], harness := (true, "a1600d8af9025bf59334dcc8dfd5b115fdba8d64bc1e2097a9d533f05484ee66"), looks := false }, kinds := [], alts := [], laidByText := true, laidKinds := [.data, .pinned, .pinned], laidTests := true, laidLooks := .later }
def TextBechCardSaid : Prop := Claim7.holds Tryd.pinned (.plain (OpenSpec.ofChange textBechSpec)) textBechCard

/-- THE TIED CARD OF 'strongboxlaw03.TextOneLetter'. -/
def textOneLetterCard : Claim7 := { stood := { row := textOneLetterRow, standIns := [], harness := (true, "a1600d8af9025bf59334dcc8dfd5b115fdba8d64bc1e2097a9d533f05484ee66"), looks := false }, kinds := [], alts := [], laidByText := true, laidKinds := [.data, .pinned, .pinned], laidTests := true, laidLooks := .later }
def TextOneLetterCardSaid : Prop := Claim7.holds Tryd.pinned (.plain (OpenSpec.ofChange textOneLetterSpec)) textOneLetterCard

/-- THE TIED CARD OF 'strongboxlaw03.TextReads'. -/
def textReadsCard : Claim7 := { stood := { row := textReadsRow, standIns := [], harness := (true, "a1600d8af9025bf59334dcc8dfd5b115fdba8d64bc1e2097a9d533f05484ee66"), looks := false }, kinds := [], alts := [], laidByText := true, laidKinds := [.data, .pinned, .pinned], laidTests := true, laidLooks := .later }
def TextReadsCardSaid : Prop := Claim7.holds Tryd.pinned (.plain (OpenSpec.ofChange textReadsSpec)) textReadsCard

/-- THE TIED CARD OF 'strongboxlaw03.TextSegwit'. -/
def textSegwitCard : Claim7 := { stood := { row := textSegwitRow, standIns := [], harness := (true, "a1600d8af9025bf59334dcc8dfd5b115fdba8d64bc1e2097a9d533f05484ee66"), looks := false }, kinds := [], alts := [], laidByText := true, laidKinds := [.data, .pinned, .pinned], laidTests := true, laidLooks := .later }
def TextSegwitCardSaid : Prop := Claim7.holds Tryd.pinned (.plain (OpenSpec.ofChange textSegwitSpec)) textSegwitCard

/-- THE SECOND FORM's CARD OF 'strongboxlaw03.TextBech'. -/
def textBechUptoCard : Claim7 := { stood := { row := textBechUptoRow, standIns := [], harness := (true, "a1600d8af9025bf59334dcc8dfd5b115fdba8d64bc1e2097a9d533f05484ee66"), looks := false }, kinds := [], alts := [], laidByText := true, laidKinds := [.data, .pinned, .pinned], laidTests := true, laidLooks := .later }
def TextBechUptoCardSaid : Prop := Claim7.holds Tryd.pinned (.plain (OpenSpec.upto textBechSpec)) textBechUptoCard

/-- THE SECOND FORM's CARD OF 'strongboxlaw03.TextOneLetter'. -/
def textOneLetterUptoCard : Claim7 := { stood := { row := textOneLetterUptoRow, standIns := [], harness := (true, "a1600d8af9025bf59334dcc8dfd5b115fdba8d64bc1e2097a9d533f05484ee66"), looks := false }, kinds := [], alts := [], laidByText := true, laidKinds := [.data, .pinned, .pinned], laidTests := true, laidLooks := .later }
def TextOneLetterUptoCardSaid : Prop := Claim7.holds Tryd.pinned (.plain (OpenSpec.upto textOneLetterSpec)) textOneLetterUptoCard

/-- THE SECOND FORM's CARD OF 'strongboxlaw03.TextReads'. -/
def textReadsUptoCard : Claim7 := { stood := { row := textReadsUptoRow, standIns := [], harness := (true, "a1600d8af9025bf59334dcc8dfd5b115fdba8d64bc1e2097a9d533f05484ee66"), looks := false }, kinds := [], alts := [], laidByText := true, laidKinds := [.data, .pinned, .pinned], laidTests := true, laidLooks := .later }
def TextReadsUptoCardSaid : Prop := Claim7.holds Tryd.pinned (.plain (OpenSpec.upto textReadsSpec)) textReadsUptoCard

/-- THE SECOND FORM's CARD OF 'strongboxlaw03.TextSegwit'. -/
def textSegwitUptoCard : Claim7 := { stood := { row := textSegwitUptoRow, standIns := [], harness := (true, "a1600d8af9025bf59334dcc8dfd5b115fdba8d64bc1e2097a9d533f05484ee66"), looks := false }, kinds := [], alts := [], laidByText := true, laidKinds := [.data, .pinned, .pinned], laidTests := true, laidLooks := .later }
def TextSegwitUptoCardSaid : Prop := Claim7.holds Tryd.pinned (.plain (OpenSpec.upto textSegwitSpec)) textSegwitUptoCard
end Rows
end Go.Proofs.YtajkhimlpnebdaaDoor
