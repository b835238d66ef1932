/-
  No cell of these rows narrows 'for every input' (looked for: loops, veiled, ifaces, maps, wideKeys, modest, calm, conditions, laid).
  DERIVED. THE GIVEN ROWS OF THIS SEAT. 6 by the template 'for every input the law returns true; each argument reads behind the call as it read before'; 0 by the template 'total and deterministic' (their statements: YthjijgmhicplaaaTotals.lean).
  GIVEN WITH THE SEED: the statements are not yours to turn. If you find one false, say at which input.
  Laid BY PROGRAM, IN A SANDBOX (cutbox-rows.mjs): the forced cells as the released guide's own fill.sh prints them over the translation 1b24b51d953f53f3… (all of the seat's roots in one cut). By AI agents, Wed Nov 11 2026. No macro, syntax, notation, axiom, sorry.
-/
import Derived.Test.YthjijgmhicplaaaChecked
import GoSem.Claim
import GoSem.ClaimJoined
import GoSem.ClaimMapViews
import Derived.JoinedTies
import Derived.KernelRfl
namespace Go.Proofs.Ythjijgmhicplaaa
/- THE CELL 'sum', in the pinned program and in every row, IS THE sha256 OF THE DUMP (.gsa) THAT YthjijgmhicplaaaProg.lean LOADS. Nothing in Lean hashes anything: it is a label: what it is worth is what the hold of that sum in a sandbox is worth. -/
noncomputable def Try.pinned : Pinned := { name := "ythjijgmhicplaaa", sum := "1b24b51d953f53f3afe3382dce8cc4808f6765f8f3846dc89563b524c87114f8", checked := Try.checked }
namespace Rows
def none {H : Type} : Left H := { results := [], args := [] }

/-- 'strongboxlaw11.ScriptParses': WHATEVER THE INPUT: true; the input reads as it did. -/
def scriptParsesSpec : ChangeSpec := { name := "scriptParses", fn := fun _ => fun
  | [d] => { results := [.lit (.bool true)], args := [d] }
  | _ => none }
def scriptParsesRow : OpenClaim := { program := "ythjijgmhicplaaa", sum := "1b24b51d953f53f3afe3382dce8cc4808f6765f8f3846dc89563b524c87114f8", func := "strongbox/strongboxlaw11.ScriptParses", spec := "scriptParses", unfollowed := true, recurses := true, apart := false }
def ScriptParsesSaid : Prop := scriptParsesRow.holds Try.pinned (OpenSpec.ofChange scriptParsesSpec)

/-- ITS FALSE NEIGHBOUR: 'it returns false'. Refute it at one input. -/
def scriptParsesWrong : ChangeSpec := { name := "scriptParses", fn := fun _ => fun
  | [d] => { results := [.lit (.bool false)], args := [d] }
  | _ => none }
def ScriptParsesWrongFalsely : Prop := scriptParsesRow.holds Try.pinned (OpenSpec.ofChange scriptParsesWrong)

/-- 'strongboxlaw11.ScriptPushes': WHATEVER THE INPUT: true; the input reads as it did. -/
def scriptPushesSpec : ChangeSpec := { name := "scriptPushes", fn := fun _ => fun
  | [d1, d2] => { results := [.lit (.bool true)], args := [d1, d2] }
  | _ => none }
def scriptPushesRow : OpenClaim := { program := "ythjijgmhicplaaa", sum := "1b24b51d953f53f3afe3382dce8cc4808f6765f8f3846dc89563b524c87114f8", func := "strongbox/strongboxlaw11.ScriptPushes", spec := "scriptPushes", unfollowed := true, recurses := true, apart := false }
def ScriptPushesSaid : Prop := scriptPushesRow.holds Try.pinned (OpenSpec.ofChange scriptPushesSpec)

/-- ITS FALSE NEIGHBOUR: 'it returns false'. Refute it at one input. -/
def scriptPushesWrong : ChangeSpec := { name := "scriptPushes", fn := fun _ => fun
  | [d1, d2] => { results := [.lit (.bool false)], args := [d1, d2] }
  | _ => none }
def ScriptPushesWrongFalsely : Prop := scriptPushesRow.holds Try.pinned (OpenSpec.ofChange scriptPushesWrong)

/-- 'strongboxlaw11.ScriptKinds': WHATEVER THE INPUT: true; the input reads as it did. -/
def scriptKindsSpec : ChangeSpec := { name := "scriptKinds", fn := fun _ => fun
  | [d] => { results := [.lit (.bool true)], args := [d] }
  | _ => none }
def scriptKindsRow : OpenClaim := { program := "ythjijgmhicplaaa", sum := "1b24b51d953f53f3afe3382dce8cc4808f6765f8f3846dc89563b524c87114f8", func := "strongbox/strongboxlaw11.ScriptKinds", spec := "scriptKinds", unfollowed := true, recurses := true, apart := false }
def ScriptKindsSaid : Prop := scriptKindsRow.holds Try.pinned (OpenSpec.ofChange scriptKindsSpec)

/-- ITS FALSE NEIGHBOUR: 'it returns false'. Refute it at one input. -/
def scriptKindsWrong : ChangeSpec := { name := "scriptKinds", fn := fun _ => fun
  | [d] => { results := [.lit (.bool false)], args := [d] }
  | _ => none }
def ScriptKindsWrongFalsely : Prop := scriptKindsRow.holds Try.pinned (OpenSpec.ofChange scriptKindsWrong)

/-- 'strongboxlaw11.ScriptNumbers': WHATEVER THE INPUT: true; the input reads as it did. -/
def scriptNumbersSpec : ChangeSpec := { name := "scriptNumbers", fn := fun _ => fun
  | [d1, d2, d3] => { results := [.lit (.bool true)], args := [d1, d2, d3] }
  | _ => none }
def scriptNumbersRow : OpenClaim := { program := "ythjijgmhicplaaa", sum := "1b24b51d953f53f3afe3382dce8cc4808f6765f8f3846dc89563b524c87114f8", func := "strongbox/strongboxlaw11.ScriptNumbers", spec := "scriptNumbers", unfollowed := true, recurses := true, apart := false }
def ScriptNumbersSaid : Prop := scriptNumbersRow.holds Try.pinned (OpenSpec.ofChange scriptNumbersSpec)

/-- ITS FALSE NEIGHBOUR: 'it returns false'. Refute it at one input. -/
def scriptNumbersWrong : ChangeSpec := { name := "scriptNumbers", fn := fun _ => fun
  | [d1, d2, d3] => { results := [.lit (.bool false)], args := [d1, d2, d3] }
  | _ => none }
def ScriptNumbersWrongFalsely : Prop := scriptNumbersRow.holds Try.pinned (OpenSpec.ofChange scriptNumbersWrong)

/-- 'strongboxlaw11.ScriptMultis': WHATEVER THE INPUT: true; the input reads as it did. -/
def scriptMultisSpec : ChangeSpec := { name := "scriptMultis", fn := fun _ => fun
  | [d1, d2] => { results := [.lit (.bool true)], args := [d1, d2] }
  | _ => none }
def scriptMultisRow : OpenClaim := { program := "ythjijgmhicplaaa", sum := "1b24b51d953f53f3afe3382dce8cc4808f6765f8f3846dc89563b524c87114f8", func := "strongbox/strongboxlaw11.ScriptMultis", spec := "scriptMultis", unfollowed := true, recurses := true, apart := false }
def ScriptMultisSaid : Prop := scriptMultisRow.holds Try.pinned (OpenSpec.ofChange scriptMultisSpec)

/-- ITS FALSE NEIGHBOUR: 'it returns false'. Refute it at one input. -/
def scriptMultisWrong : ChangeSpec := { name := "scriptMultis", fn := fun _ => fun
  | [d1, d2] => { results := [.lit (.bool false)], args := [d1, d2] }
  | _ => none }
def ScriptMultisWrongFalsely : Prop := scriptMultisRow.holds Try.pinned (OpenSpec.ofChange scriptMultisWrong)

/-- 'strongboxlaw11.ScriptForms': WHATEVER THE INPUT: true; the input reads as it did. -/
def scriptFormsSpec : ChangeSpec := { name := "scriptForms", fn := fun _ => fun
  | [d1, d2, d3] => { results := [.lit (.bool true)], args := [d1, d2, d3] }
  | _ => none }
def scriptFormsRow : OpenClaim := { program := "ythjijgmhicplaaa", sum := "1b24b51d953f53f3afe3382dce8cc4808f6765f8f3846dc89563b524c87114f8", func := "strongbox/strongboxlaw11.ScriptForms", spec := "scriptForms", unfollowed := true, recurses := true, apart := false }
def ScriptFormsSaid : Prop := scriptFormsRow.holds Try.pinned (OpenSpec.ofChange scriptFormsSpec)

/-- ITS FALSE NEIGHBOUR: 'it returns false'. Refute it at one input. -/
def scriptFormsWrong : ChangeSpec := { name := "scriptForms", fn := fun _ => fun
  | [d1, d2, d3] => { results := [.lit (.bool false)], args := [d1, d2, d3] }
  | _ => none }
def ScriptFormsWrongFalsely : Prop := scriptFormsRow.holds Try.pinned (OpenSpec.ofChange scriptFormsWrong)

/- THE SECOND FORM. 'bulk': how many values and letters a reading holds, each counted each time it is reached (what is shared counts as often as it is met; a slice's spare places count too). A statement '..UptoSaid' is the law's where the arguments, and the package variables that the reading takes, are together of bulk at most 1048576: NARROWER than '..Said'. Prove '..Said' where nothing that the law and all that it calls make is longer than what came in: it says more and counts as full. Else prove '..UptoSaid'. A law counts once. -/
mutual
def uptoBulk {H : Type} : DataW H → Nat
  | .lit (.string bytes) => bytes.length + 1
  | .lit _ => 1
  | .nil => 1
  | .ptr d => uptoBulk d + 1
  | .slice elems spare => uptoBulkAll elems + uptoBulkAll spare + 1
  | .agg parts => uptoBulkAll parts + 1
  | .iface _ d => uptoBulk d + 1
  | .map entries => uptoBulkEntries entries + 1
  | .held _ => 1
def uptoBulkAll {H : Type} : List (DataW H) → Nat
  | [] => 0
  | d :: r => uptoBulk d + uptoBulkAll r
def uptoBulkEntries {H : Type} : List (Lit × DataW H) → Nat
  | [] => 0
  | x :: r => uptoBulkEntry x + uptoBulkEntries r
def uptoBulkEntry {H : Type} : Lit × DataW H → Nat
  | (.string bytes, d) => bytes.length + uptoBulk d + 1
  | (_, d) => uptoBulk d + 1
 end
def uptoSmall : (H : Type) → List (DataW H) → Bool := fun _ ds => decide (uptoBulkAll ds ≤ 1048576)
def OpenSpec.upto (s : _root_.Go.ChangeSpec) : _root_.Go.OpenSpec := { _root_.Go.OpenSpec.ofChange s with cond := some uptoSmall }

/-- 'strongboxlaw11.ScriptParses', WHERE WHAT IT READS IS OF BULK AT MOST 1048576: true; the input reads as it did. -/
def scriptParsesUptoRow : OpenClaim := { program := "ythjijgmhicplaaa", sum := "1b24b51d953f53f3afe3382dce8cc4808f6765f8f3846dc89563b524c87114f8", func := "strongbox/strongboxlaw11.ScriptParses", spec := "scriptParses", unfollowed := true, recurses := true, apart := false, narrowed := true }
def ScriptParsesUptoSaid : Prop := scriptParsesUptoRow.holds Try.pinned (OpenSpec.upto scriptParsesSpec)

/-- 'strongboxlaw11.ScriptPushes', WHERE WHAT IT READS IS OF BULK AT MOST 1048576: true; the input reads as it did. -/
def scriptPushesUptoRow : OpenClaim := { program := "ythjijgmhicplaaa", sum := "1b24b51d953f53f3afe3382dce8cc4808f6765f8f3846dc89563b524c87114f8", func := "strongbox/strongboxlaw11.ScriptPushes", spec := "scriptPushes", unfollowed := true, recurses := true, apart := false, narrowed := true }
def ScriptPushesUptoSaid : Prop := scriptPushesUptoRow.holds Try.pinned (OpenSpec.upto scriptPushesSpec)

/-- 'strongboxlaw11.ScriptKinds', WHERE WHAT IT READS IS OF BULK AT MOST 1048576: true; the input reads as it did. -/
def scriptKindsUptoRow : OpenClaim := { program := "ythjijgmhicplaaa", sum := "1b24b51d953f53f3afe3382dce8cc4808f6765f8f3846dc89563b524c87114f8", func := "strongbox/strongboxlaw11.ScriptKinds", spec := "scriptKinds", unfollowed := true, recurses := true, apart := false, narrowed := true }
def ScriptKindsUptoSaid : Prop := scriptKindsUptoRow.holds Try.pinned (OpenSpec.upto scriptKindsSpec)

/-- 'strongboxlaw11.ScriptNumbers', WHERE WHAT IT READS IS OF BULK AT MOST 1048576: true; the input reads as it did. -/
def scriptNumbersUptoRow : OpenClaim := { program := "ythjijgmhicplaaa", sum := "1b24b51d953f53f3afe3382dce8cc4808f6765f8f3846dc89563b524c87114f8", func := "strongbox/strongboxlaw11.ScriptNumbers", spec := "scriptNumbers", unfollowed := true, recurses := true, apart := false, narrowed := true }
def ScriptNumbersUptoSaid : Prop := scriptNumbersUptoRow.holds Try.pinned (OpenSpec.upto scriptNumbersSpec)

/-- 'strongboxlaw11.ScriptMultis', WHERE WHAT IT READS IS OF BULK AT MOST 1048576: true; the input reads as it did. -/
def scriptMultisUptoRow : OpenClaim := { program := "ythjijgmhicplaaa", sum := "1b24b51d953f53f3afe3382dce8cc4808f6765f8f3846dc89563b524c87114f8", func := "strongbox/strongboxlaw11.ScriptMultis", spec := "scriptMultis", unfollowed := true, recurses := true, apart := false, narrowed := true }
def ScriptMultisUptoSaid : Prop := scriptMultisUptoRow.holds Try.pinned (OpenSpec.upto scriptMultisSpec)

/-- 'strongboxlaw11.ScriptForms', WHERE WHAT IT READS IS OF BULK AT MOST 1048576: true; the input reads as it did. -/
def scriptFormsUptoRow : OpenClaim := { program := "ythjijgmhicplaaa", sum := "1b24b51d953f53f3afe3382dce8cc4808f6765f8f3846dc89563b524c87114f8", func := "strongbox/strongboxlaw11.ScriptForms", spec := "scriptForms", unfollowed := true, recurses := true, apart := false, narrowed := true }
def ScriptFormsUptoSaid : Prop := scriptFormsUptoRow.holds Try.pinned (OpenSpec.upto scriptFormsSpec)

end Rows
end Go.Proofs.Ythjijgmhicplaaa
