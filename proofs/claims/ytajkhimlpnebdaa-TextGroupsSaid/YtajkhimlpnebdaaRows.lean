/-
  No cell of these rows narrows 'for every input' (looked for: loops, veiled, ifaces, maps, wideKeys, modest, calm, conditions, laid).
  DERIVED. THE GIVEN ROWS OF THIS SEAT. 3 by the template 'for every input the law returns true; each argument reads behind the call as it read before'; 0 by the template 'total and deterministic' (their statements: YtajkhimlpnebdaaTotals.lean).
  GIVEN WITH THE SEED: the statements are not yours to turn. If you find one false, say at which input.
  Laid BY PROGRAM, IN A SANDBOX (cutbox-rows.mjs): the forced cells as the released guide's own fill.sh prints them over the translation ec49a859166aec5e… (all of the seat's roots in one cut). By AI agents, Wed Nov 11 2026. No macro, syntax, notation, axiom, sorry.
-/
import Derived.Test.YtajkhimlpnebdaaChecked
import GoSem.Claim
import GoSem.ClaimJoined
import GoSem.ClaimMapViews
import Derived.JoinedTies
import Derived.KernelRfl
namespace Go.Proofs.Ytajkhimlpnebdaa
/- THE CELL 'sum', in the pinned program and in every row, IS THE sha256 OF THE DUMP (.gsa) THAT YtajkhimlpnebdaaProg.lean LOADS. Nothing in Lean hashes anything: it is a label: what it is worth is what the hold of that sum in a sandbox is worth. -/
noncomputable def Try.pinned : Pinned := { name := "ytajkhimlpnebdaa", sum := "ec49a859166aec5e1dcaf46310db83569737b251cd6b40dc5dd1db6157799aee", checked := Try.checked }
namespace Rows
def none {H : Type} : Left H := { results := [], args := [] }

/-- 'strongboxlaw03.TextChecksums': WHATEVER THE INPUT: true; the input reads as it did. -/
def textChecksumsSpec : ChangeSpec := { name := "textChecksums", fn := fun _ => fun
  | [d1, d2, d3] => { results := [.lit (.bool true)], args := [d1, d2, d3] }
  | _ => none }
def textChecksumsRow : OpenClaim := { program := "ytajkhimlpnebdaa", sum := "ec49a859166aec5e1dcaf46310db83569737b251cd6b40dc5dd1db6157799aee", func := "strongbox/strongboxlaw03.TextChecksums", spec := "textChecksums", inPlace := ["internal/bytealg.IndexByteString", "internal/bytealg.MakeNoZero", "internal/abi.NoEscape"], unfollowed := true, recurses := true, apart := false }
def TextChecksumsSaid : Prop := textChecksumsRow.holds Try.pinned (OpenSpec.ofChange textChecksumsSpec)

/-- ITS FALSE NEIGHBOUR: 'it returns false'. Refute it at one input. -/
def textChecksumsWrong : ChangeSpec := { name := "textChecksums", fn := fun _ => fun
  | [d1, d2, d3] => { results := [.lit (.bool false)], args := [d1, d2, d3] }
  | _ => none }
def TextChecksumsWrongFalsely : Prop := textChecksumsRow.holds Try.pinned (OpenSpec.ofChange textChecksumsWrong)

/-- 'strongboxlaw03.TextHex': WHATEVER THE INPUT: true; the input reads as it did. -/
def textHexSpec : ChangeSpec := { name := "textHex", fn := fun _ => fun
  | [d1, d2] => { results := [.lit (.bool true)], args := [d1, d2] }
  | _ => none }
def textHexRow : OpenClaim := { program := "ytajkhimlpnebdaa", sum := "ec49a859166aec5e1dcaf46310db83569737b251cd6b40dc5dd1db6157799aee", func := "strongbox/strongboxlaw03.TextHex", spec := "textHex", inPlace := ["internal/bytealg.IndexByteString", "internal/bytealg.MakeNoZero", "internal/abi.NoEscape"], unfollowed := true, recurses := true, apart := false }
def TextHexSaid : Prop := textHexRow.holds Try.pinned (OpenSpec.ofChange textHexSpec)

/-- ITS FALSE NEIGHBOUR: 'it returns false'. Refute it at one input. -/
def textHexWrong : ChangeSpec := { name := "textHex", fn := fun _ => fun
  | [d1, d2] => { results := [.lit (.bool false)], args := [d1, d2] }
  | _ => none }
def TextHexWrongFalsely : Prop := textHexRow.holds Try.pinned (OpenSpec.ofChange textHexWrong)

/-- 'strongboxlaw03.TextGroups': WHATEVER THE INPUT: true; the input reads as it did. -/
def textGroupsSpec : ChangeSpec := { name := "textGroups", fn := fun _ => fun
  | [d1, d2, d3] => { results := [.lit (.bool true)], args := [d1, d2, d3] }
  | _ => none }
def textGroupsRow : OpenClaim := { program := "ytajkhimlpnebdaa", sum := "ec49a859166aec5e1dcaf46310db83569737b251cd6b40dc5dd1db6157799aee", func := "strongbox/strongboxlaw03.TextGroups", spec := "textGroups", inPlace := ["internal/bytealg.IndexByteString", "internal/bytealg.MakeNoZero", "internal/abi.NoEscape"], unfollowed := true, recurses := true, apart := false }
def TextGroupsSaid : Prop := textGroupsRow.holds Try.pinned (OpenSpec.ofChange textGroupsSpec)

/-- ITS FALSE NEIGHBOUR: 'it returns false'. Refute it at one input. -/
def textGroupsWrong : ChangeSpec := { name := "textGroups", fn := fun _ => fun
  | [d1, d2, d3] => { results := [.lit (.bool false)], args := [d1, d2, d3] }
  | _ => none }
def TextGroupsWrongFalsely : Prop := textGroupsRow.holds Try.pinned (OpenSpec.ofChange textGroupsWrong)

/- THE SECOND FORM. 'bulk': how many values and letters a reading holds, each counted each time it is reached (what is shared counts as often as it is met; a slice's spare places count too). A statement '..UptoSaid' is the law's where the arguments, and the package variables that the reading takes, are together of bulk at most 1048576: NARROWER than '..Said'. Prove '..Said' where nothing that the law and all that it calls make is longer than what came in: it says more and counts as full. Else prove '..UptoSaid'. A law counts once. -/
mutual
def uptoBulk {H : Type} : DataW H → Nat
  | .lit (.string bytes) => bytes.length + 1
  | .lit _ => 1
  | .nil => 1
  | .ptr d => uptoBulk d + 1
  | .slice elems spare => uptoBulkAll elems + uptoBulkAll spare + 1
  | .agg parts => uptoBulkAll parts + 1
  | .iface _ d => uptoBulk d + 1
  | .map entries => uptoBulkEntries entries + 1
  | .held _ => 1
def uptoBulkAll {H : Type} : List (DataW H) → Nat
  | [] => 0
  | d :: r => uptoBulk d + uptoBulkAll r
def uptoBulkEntries {H : Type} : List (Lit × DataW H) → Nat
  | [] => 0
  | x :: r => uptoBulkEntry x + uptoBulkEntries r
def uptoBulkEntry {H : Type} : Lit × DataW H → Nat
  | (.string bytes, d) => bytes.length + uptoBulk d + 1
  | (_, d) => uptoBulk d + 1
 end
def uptoSmall : (H : Type) → List (DataW H) → Bool := fun _ ds => decide (uptoBulkAll ds ≤ 1048576)
def OpenSpec.upto (s : _root_.Go.ChangeSpec) : _root_.Go.OpenSpec := { _root_.Go.OpenSpec.ofChange s with cond := some uptoSmall }

/-- 'strongboxlaw03.TextChecksums', WHERE WHAT IT READS IS OF BULK AT MOST 1048576: true; the input reads as it did. -/
def textChecksumsUptoRow : OpenClaim := { program := "ytajkhimlpnebdaa", sum := "ec49a859166aec5e1dcaf46310db83569737b251cd6b40dc5dd1db6157799aee", func := "strongbox/strongboxlaw03.TextChecksums", spec := "textChecksums", inPlace := ["internal/bytealg.IndexByteString", "internal/bytealg.MakeNoZero", "internal/abi.NoEscape"], unfollowed := true, recurses := true, apart := false, narrowed := true }
def TextChecksumsUptoSaid : Prop := textChecksumsUptoRow.holds Try.pinned (OpenSpec.upto textChecksumsSpec)

/-- 'strongboxlaw03.TextHex', WHERE WHAT IT READS IS OF BULK AT MOST 1048576: true; the input reads as it did. -/
def textHexUptoRow : OpenClaim := { program := "ytajkhimlpnebdaa", sum := "ec49a859166aec5e1dcaf46310db83569737b251cd6b40dc5dd1db6157799aee", func := "strongbox/strongboxlaw03.TextHex", spec := "textHex", inPlace := ["internal/bytealg.IndexByteString", "internal/bytealg.MakeNoZero", "internal/abi.NoEscape"], unfollowed := true, recurses := true, apart := false, narrowed := true }
def TextHexUptoSaid : Prop := textHexUptoRow.holds Try.pinned (OpenSpec.upto textHexSpec)

/-- 'strongboxlaw03.TextGroups', WHERE WHAT IT READS IS OF BULK AT MOST 1048576: true; the input reads as it did. -/
def textGroupsUptoRow : OpenClaim := { program := "ytajkhimlpnebdaa", sum := "ec49a859166aec5e1dcaf46310db83569737b251cd6b40dc5dd1db6157799aee", func := "strongbox/strongboxlaw03.TextGroups", spec := "textGroups", inPlace := ["internal/bytealg.IndexByteString", "internal/bytealg.MakeNoZero", "internal/abi.NoEscape"], unfollowed := true, recurses := true, apart := false, narrowed := true }
def TextGroupsUptoSaid : Prop := textGroupsUptoRow.holds Try.pinned (OpenSpec.upto textGroupsSpec)

end Rows
end Go.Proofs.Ytajkhimlpnebdaa
