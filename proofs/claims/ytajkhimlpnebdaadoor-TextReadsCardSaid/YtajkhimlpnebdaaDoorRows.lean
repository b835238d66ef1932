/-
  NARROWER THAN 'FOR EVERY INPUT', by the rows' own cells (each row's printed sentence says how): TextBech: laid · TextOneLetter: laid · TextReads: laid · TextSegwit: laid.
  DERIVED. THE GIVEN ROWS OF THIS SEAT. 4 by the template 'for every input the law returns true; each argument reads behind the call as it read before'; 0 by the template 'total and deterministic' (their statements: YtajkhimlpnebdaaDoorTotals.lean).
  GIVEN WITH THE SEED: the statements are not yours to turn. If you find one false, say at which input.
  Laid BY PROGRAM, IN A SANDBOX (cutbox-rows.mjs): the forced cells as the released guide's own fill.sh prints them over the translation 9760ef0b82b8be65… (all of the seat's roots in one cut). By AI agents, Wed Nov 11 2026. No macro, syntax, notation, axiom, sorry.
-/
import Derived.Test.YtajkhimlpnebdaaDoorChecked
import GoSem.PinnedTables
import GoSem.Claim
import GoSem.ClaimJoined
import GoSem.ClaimMapViews
import Derived.JoinedTies
import Derived.KernelRfl
namespace Go.Proofs.YtajkhimlpnebdaaDoor
/- THE CELL 'sum', in the pinned program and in every row, IS THE sha256 OF THE DUMP (.gsa) THAT YtajkhimlpnebdaaDoorProg.lean LOADS. Nothing in Lean hashes anything: it is a label: what it is worth is what the hold of that sum in a sandbox is worth. -/
noncomputable def Tryd.pinned : Pinned := { name := "ytajkhimlpnebdaadoor", sum := "9760ef0b82b8be65bffdab7c860c074abedd2f9ab14a20e50c89491cec884a98", checked := Tryd.checked }
namespace Rows
def none {H : Type} : Left H := { results := [], args := [] }

/- WHAT THE LISTED PACKAGE-LEVEL VARIABLES READ AS WHEN THE CALL BEGINS. Each datum BY PROGRAM (the guide's laid-datum.mjs) off the statement by which the dump's own 'gosem.cut.vars' lays the variable. In a bare row this is a premise. The card (YtajkhimlpnebdaaDoorCards.lean) ties it to the program's text. -/
def laid_unicode_utf8_acceptRanges {H : Type} : DataW H := .agg [.agg [.lit (.int .u8 128), .lit (.int .u8 191)], .agg [.lit (.int .u8 160), .lit (.int .u8 191)], .agg [.lit (.int .u8 128), .lit (.int .u8 159)], .agg [.lit (.int .u8 144), .lit (.int .u8 191)], .agg [.lit (.int .u8 128), .lit (.int .u8 143)], .agg [.lit (.int .u8 0), .lit (.int .u8 0)], .agg [.lit (.int .u8 0), .lit (.int .u8 0)], .agg [.lit (.int .u8 0), .lit (.int .u8 0)], .agg [.lit (.int .u8 0), .lit (.int .u8 0)], .agg [.lit (.int .u8 0), .lit (.int .u8 0)], .agg [.lit (.int .u8 0), .lit (.int .u8 0)], .agg [.lit (.int .u8 0), .lit (.int .u8 0)], .agg [.lit (.int .u8 0), .lit (.int .u8 0)], .agg [.lit (.int .u8 0), .lit (.int .u8 0)], .agg [.lit (.int .u8 0), .lit (.int .u8 0)], .agg [.lit (.int .u8 0), .lit (.int .u8 0)]]
/-- One of Go's own tables, pinned by name: the form's constant. -/
def laid_unicode_CaseRanges : DataW Unit := Go.Pinned.caseRanges
/-- One of Go's own tables, pinned by name: the form's constant. -/
def laid_unicode_utf8_first : DataW Unit := Go.Pinned.utf8First

/-- 'strongboxlaw03.TextBech': WHATEVER THE INPUT: true; the input reads as it did. -/
def textBechSpec : ChangeSpec := { name := "textBech", fn := fun _ => fun
  | [d1, d2, d3] => { results := [.lit (.bool true)], args := [d1, d2, d3] }
  | _ => none }
def textBechRow : OpenClaim := { program := "ytajkhimlpnebdaadoor", sum := "9760ef0b82b8be65bffdab7c860c074abedd2f9ab14a20e50c89491cec884a98", func := "strongbox/strongboxlaw03.TextBech", spec := "textBech", inPlace := ["internal/bytealg.IndexByteString", "internal/bytealg.MakeNoZero", "internal/abi.NoEscape"], unfollowed := true, recurses := true, named := ["unicode/utf8.first", "unicode/utf8.acceptRanges", "unicode.CaseRanges"], apart := false, laid := [("unicode/utf8.acceptRanges", laid_unicode_utf8_acceptRanges), ("unicode.CaseRanges", laid_unicode_CaseRanges), ("unicode/utf8.first", laid_unicode_utf8_first)] }
def TextBechSaid : Prop := textBechRow.holds Tryd.pinned (OpenSpec.ofChange textBechSpec)

/-- ITS FALSE NEIGHBOUR: 'it returns false'. Refute it at one input. -/
def textBechWrong : ChangeSpec := { name := "textBech", fn := fun _ => fun
  | [d1, d2, d3] => { results := [.lit (.bool false)], args := [d1, d2, d3] }
  | _ => none }
def TextBechWrongFalsely : Prop := textBechRow.holds Tryd.pinned (OpenSpec.ofChange textBechWrong)

/-- 'strongboxlaw03.TextOneLetter': WHATEVER THE INPUT: true; the input reads as it did. -/
def textOneLetterSpec : ChangeSpec := { name := "textOneLetter", fn := fun _ => fun
  | [d1, d2, d3] => { results := [.lit (.bool true)], args := [d1, d2, d3] }
  | _ => none }
def textOneLetterRow : OpenClaim := { program := "ytajkhimlpnebdaadoor", sum := "9760ef0b82b8be65bffdab7c860c074abedd2f9ab14a20e50c89491cec884a98", func := "strongbox/strongboxlaw03.TextOneLetter", spec := "textOneLetter", inPlace := ["internal/bytealg.IndexByteString", "internal/bytealg.MakeNoZero", "internal/abi.NoEscape"], unfollowed := true, recurses := true, named := ["unicode/utf8.first", "unicode/utf8.acceptRanges", "unicode.CaseRanges"], apart := false, laid := [("unicode/utf8.acceptRanges", laid_unicode_utf8_acceptRanges), ("unicode.CaseRanges", laid_unicode_CaseRanges), ("unicode/utf8.first", laid_unicode_utf8_first)] }
def TextOneLetterSaid : Prop := textOneLetterRow.holds Tryd.pinned (OpenSpec.ofChange textOneLetterSpec)

/-- ITS FALSE NEIGHBOUR: 'it returns false'. Refute it at one input. -/
def textOneLetterWrong : ChangeSpec := { name := "textOneLetter", fn := fun _ => fun
  | [d1, d2, d3] => { results := [.lit (.bool false)], args := [d1, d2, d3] }
  | _ => none }
def TextOneLetterWrongFalsely : Prop := textOneLetterRow.holds Tryd.pinned (OpenSpec.ofChange textOneLetterWrong)

/-- 'strongboxlaw03.TextReads': WHATEVER THE INPUT: true; the input reads as it did. -/
def textReadsSpec : ChangeSpec := { name := "textReads", fn := fun _ => fun
  | [d1, d2] => { results := [.lit (.bool true)], args := [d1, d2] }
  | _ => none }
def textReadsRow : OpenClaim := { program := "ytajkhimlpnebdaadoor", sum := "9760ef0b82b8be65bffdab7c860c074abedd2f9ab14a20e50c89491cec884a98", func := "strongbox/strongboxlaw03.TextReads", spec := "textReads", inPlace := ["internal/bytealg.IndexByteString", "internal/bytealg.MakeNoZero", "internal/abi.NoEscape"], unfollowed := true, recurses := true, named := ["unicode/utf8.first", "unicode/utf8.acceptRanges", "unicode.CaseRanges"], apart := false, laid := [("unicode/utf8.acceptRanges", laid_unicode_utf8_acceptRanges), ("unicode.CaseRanges", laid_unicode_CaseRanges), ("unicode/utf8.first", laid_unicode_utf8_first)] }
def TextReadsSaid : Prop := textReadsRow.holds Tryd.pinned (OpenSpec.ofChange textReadsSpec)

/-- ITS FALSE NEIGHBOUR: 'it returns false'. Refute it at one input. -/
def textReadsWrong : ChangeSpec := { name := "textReads", fn := fun _ => fun
  | [d1, d2] => { results := [.lit (.bool false)], args := [d1, d2] }
  | _ => none }
def TextReadsWrongFalsely : Prop := textReadsRow.holds Tryd.pinned (OpenSpec.ofChange textReadsWrong)

/-- 'strongboxlaw03.TextSegwit': WHATEVER THE INPUT: true; the input reads as it did. -/
def textSegwitSpec : ChangeSpec := { name := "textSegwit", fn := fun _ => fun
  | [d1, d2, d3] => { results := [.lit (.bool true)], args := [d1, d2, d3] }
  | _ => none }
def textSegwitRow : OpenClaim := { program := "ytajkhimlpnebdaadoor", sum := "9760ef0b82b8be65bffdab7c860c074abedd2f9ab14a20e50c89491cec884a98", func := "strongbox/strongboxlaw03.TextSegwit", spec := "textSegwit", inPlace := ["internal/bytealg.IndexByteString", "internal/bytealg.MakeNoZero", "internal/abi.NoEscape"], unfollowed := true, recurses := true, named := ["unicode/utf8.first", "unicode/utf8.acceptRanges", "unicode.CaseRanges"], apart := false, laid := [("unicode/utf8.acceptRanges", laid_unicode_utf8_acceptRanges), ("unicode.CaseRanges", laid_unicode_CaseRanges), ("unicode/utf8.first", laid_unicode_utf8_first)] }
def TextSegwitSaid : Prop := textSegwitRow.holds Tryd.pinned (OpenSpec.ofChange textSegwitSpec)

/-- ITS FALSE NEIGHBOUR: 'it returns false'. Refute it at one input. -/
def textSegwitWrong : ChangeSpec := { name := "textSegwit", fn := fun _ => fun
  | [d1, d2, d3] => { results := [.lit (.bool false)], args := [d1, d2, d3] }
  | _ => none }
def TextSegwitWrongFalsely : Prop := textSegwitRow.holds Tryd.pinned (OpenSpec.ofChange textSegwitWrong)

/- THE SECOND FORM. 'bulk': how many values and letters a reading holds, each counted each time it is reached (what is shared counts as often as it is met; a slice's spare places count too). A statement '..UptoSaid' is the law's where the arguments, and the package variables that the reading takes, are together of bulk at most 1048576: NARROWER than '..Said'. Prove '..Said' where nothing that the law and all that it calls make is longer than what came in: it says more and counts as full. Else prove '..UptoSaid'. A law counts once. -/
mutual
def uptoBulk {H : Type} : DataW H → Nat
  | .lit (.string bytes) => bytes.length + 1
  | .lit _ => 1
  | .nil => 1
  | .ptr d => uptoBulk d + 1
  | .slice elems spare => uptoBulkAll elems + uptoBulkAll spare + 1
  | .agg parts => uptoBulkAll parts + 1
  | .iface _ d => uptoBulk d + 1
  | .map entries => uptoBulkEntries entries + 1
  | .held _ => 1
def uptoBulkAll {H : Type} : List (DataW H) → Nat
  | [] => 0
  | d :: r => uptoBulk d + uptoBulkAll r
def uptoBulkEntries {H : Type} : List (Lit × DataW H) → Nat
  | [] => 0
  | x :: r => uptoBulkEntry x + uptoBulkEntries r
def uptoBulkEntry {H : Type} : Lit × DataW H → Nat
  | (.string bytes, d) => bytes.length + uptoBulk d + 1
  | (_, d) => uptoBulk d + 1
 end
def uptoSmall : (H : Type) → List (DataW H) → Bool := fun _ ds => decide (uptoBulkAll ds ≤ 1048576)
def OpenSpec.upto (s : _root_.Go.ChangeSpec) : _root_.Go.OpenSpec := { _root_.Go.OpenSpec.ofChange s with cond := some uptoSmall }

/-- 'strongboxlaw03.TextBech', WHERE WHAT IT READS IS OF BULK AT MOST 1048576: true; the input reads as it did. -/
def textBechUptoRow : OpenClaim := { program := "ytajkhimlpnebdaadoor", sum := "9760ef0b82b8be65bffdab7c860c074abedd2f9ab14a20e50c89491cec884a98", func := "strongbox/strongboxlaw03.TextBech", spec := "textBech", inPlace := ["internal/bytealg.IndexByteString", "internal/bytealg.MakeNoZero", "internal/abi.NoEscape"], unfollowed := true, recurses := true, named := ["unicode/utf8.first", "unicode/utf8.acceptRanges", "unicode.CaseRanges"], apart := false, laid := [("unicode/utf8.acceptRanges", laid_unicode_utf8_acceptRanges), ("unicode.CaseRanges", laid_unicode_CaseRanges), ("unicode/utf8.first", laid_unicode_utf8_first)], narrowed := true }
def TextBechUptoSaid : Prop := textBechUptoRow.holds Tryd.pinned (OpenSpec.upto textBechSpec)

/-- 'strongboxlaw03.TextOneLetter', WHERE WHAT IT READS IS OF BULK AT MOST 1048576: true; the input reads as it did. -/
def textOneLetterUptoRow : OpenClaim := { program := "ytajkhimlpnebdaadoor", sum := "9760ef0b82b8be65bffdab7c860c074abedd2f9ab14a20e50c89491cec884a98", func := "strongbox/strongboxlaw03.TextOneLetter", spec := "textOneLetter", inPlace := ["internal/bytealg.IndexByteString", "internal/bytealg.MakeNoZero", "internal/abi.NoEscape"], unfollowed := true, recurses := true, named := ["unicode/utf8.first", "unicode/utf8.acceptRanges", "unicode.CaseRanges"], apart := false, laid := [("unicode/utf8.acceptRanges", laid_unicode_utf8_acceptRanges), ("unicode.CaseRanges", laid_unicode_CaseRanges), ("unicode/utf8.first", laid_unicode_utf8_first)], narrowed := true }
def TextOneLetterUptoSaid : Prop := textOneLetterUptoRow.holds Tryd.pinned (OpenSpec.upto textOneLetterSpec)

/-- 'strongboxlaw03.TextReads', WHERE WHAT IT READS IS OF BULK AT MOST 1048576: true; the input reads as it did. -/
def textReadsUptoRow : OpenClaim := { program := "ytajkhimlpnebdaadoor", sum := "9760ef0b82b8be65bffdab7c860c074abedd2f9ab14a20e50c89491cec884a98", func := "strongbox/strongboxlaw03.TextReads", spec := "textReads", inPlace := ["internal/bytealg.IndexByteString", "internal/bytealg.MakeNoZero", "internal/abi.NoEscape"], unfollowed := true, recurses := true, named := ["unicode/utf8.first", "unicode/utf8.acceptRanges", "unicode.CaseRanges"], apart := false, laid := [("unicode/utf8.acceptRanges", laid_unicode_utf8_acceptRanges), ("unicode.CaseRanges", laid_unicode_CaseRanges), ("unicode/utf8.first", laid_unicode_utf8_first)], narrowed := true }
def TextReadsUptoSaid : Prop := textReadsUptoRow.holds Tryd.pinned (OpenSpec.upto textReadsSpec)

/-- 'strongboxlaw03.TextSegwit', WHERE WHAT IT READS IS OF BULK AT MOST 1048576: true; the input reads as it did. -/
def textSegwitUptoRow : OpenClaim := { program := "ytajkhimlpnebdaadoor", sum := "9760ef0b82b8be65bffdab7c860c074abedd2f9ab14a20e50c89491cec884a98", func := "strongbox/strongboxlaw03.TextSegwit", spec := "textSegwit", inPlace := ["internal/bytealg.IndexByteString", "internal/bytealg.MakeNoZero", "internal/abi.NoEscape"], unfollowed := true, recurses := true, named := ["unicode/utf8.first", "unicode/utf8.acceptRanges", "unicode.CaseRanges"], apart := false, laid := [("unicode/utf8.acceptRanges", laid_unicode_utf8_acceptRanges), ("unicode.CaseRanges", laid_unicode_CaseRanges), ("unicode/utf8.first", laid_unicode_utf8_first)], narrowed := true }
def TextSegwitUptoSaid : Prop := textSegwitUptoRow.holds Tryd.pinned (OpenSpec.upto textSegwitSpec)

end Rows
end Go.Proofs.YtajkhimlpnebdaaDoor
