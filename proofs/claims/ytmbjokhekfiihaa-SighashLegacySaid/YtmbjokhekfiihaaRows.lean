/-
  No cell of these rows narrows 'for every input' (looked for: loops, veiled, ifaces, maps, wideKeys, modest, calm, conditions, laid).
  DERIVED. THE GIVEN ROWS OF THIS SEAT. 4 by the template 'for every input the law returns true; each argument reads behind the call as it read before'; 0 by the template 'total and deterministic' (their statements: YtmbjokhekfiihaaTotals.lean).
  GIVEN WITH THE SEED: the statements are not yours to turn. If you find one false, say at which input.
  Laid BY PROGRAM, IN A SANDBOX (cutbox-rows.mjs): the forced cells as the released guide's own fill.sh prints them over the translation dd16df780fcaf360… (all of the seat's roots in one cut). By AI agents, Wed Nov 11 2026. No macro, syntax, notation, axiom, sorry.
-/
import Derived.Test.YtmbjokhekfiihaaChecked
import GoSem.Claim
import GoSem.ClaimJoined
import GoSem.ClaimMapViews
import Derived.JoinedTies
import Derived.KernelRfl
namespace Go.Proofs.Ytmbjokhekfiihaa
/- THE CELL 'sum', in the pinned program and in every row, IS THE sha256 OF THE DUMP (.gsa) THAT YtmbjokhekfiihaaProg.lean LOADS. Nothing in Lean hashes anything: it is a label: what it is worth is what the hold of that sum in a sandbox is worth. -/
noncomputable def Try.pinned : Pinned := { name := "ytmbjokhekfiihaa", sum := "dd16df780fcaf3600444c2d8b1bfc852fd963ff69c38d295fcb8b8409e7faeca", checked := Try.checked }
namespace Rows
def none {H : Type} : Left H := { results := [], args := [] }

/-- 'strongboxlaw12.SighashLegacy': WHATEVER THE INPUT: true; the input reads as it did. -/
def sighashLegacySpec : ChangeSpec := { name := "sighashLegacy", fn := fun _ => fun
  | [d1, d2] => { results := [.lit (.bool true)], args := [d1, d2] }
  | _ => none }
def sighashLegacyRow : OpenClaim := { program := "ytmbjokhekfiihaa", sum := "dd16df780fcaf3600444c2d8b1bfc852fd963ff69c38d295fcb8b8409e7faeca", func := "strongbox/strongboxlaw12.SighashLegacy", spec := "sighashLegacy", unfollowed := true, recurses := true, apart := false }
def SighashLegacySaid : Prop := sighashLegacyRow.holds Try.pinned (OpenSpec.ofChange sighashLegacySpec)

/-- ITS FALSE NEIGHBOUR: 'it returns false'. Refute it at one input. -/
def sighashLegacyWrong : ChangeSpec := { name := "sighashLegacy", fn := fun _ => fun
  | [d1, d2] => { results := [.lit (.bool false)], args := [d1, d2] }
  | _ => none }
def SighashLegacyWrongFalsely : Prop := sighashLegacyRow.holds Try.pinned (OpenSpec.ofChange sighashLegacyWrong)

/-- 'strongboxtop.StrongboxCommits': WHATEVER THE INPUT: true; the input reads as it did. -/
def strongboxCommitsSpec : ChangeSpec := { name := "strongboxCommits", fn := fun _ => fun
  | [d1, d2] => { results := [.lit (.bool true)], args := [d1, d2] }
  | _ => none }
def strongboxCommitsRow : OpenClaim := { program := "ytmbjokhekfiihaa", sum := "dd16df780fcaf3600444c2d8b1bfc852fd963ff69c38d295fcb8b8409e7faeca", func := "strongbox/strongboxtop.StrongboxCommits", spec := "strongboxCommits", unfollowed := true, recurses := true, apart := false }
def StrongboxCommitsSaid : Prop := strongboxCommitsRow.holds Try.pinned (OpenSpec.ofChange strongboxCommitsSpec)

/-- ITS FALSE NEIGHBOUR: 'it returns false'. Refute it at one input. -/
def strongboxCommitsWrong : ChangeSpec := { name := "strongboxCommits", fn := fun _ => fun
  | [d1, d2] => { results := [.lit (.bool false)], args := [d1, d2] }
  | _ => none }
def StrongboxCommitsWrongFalsely : Prop := strongboxCommitsRow.holds Try.pinned (OpenSpec.ofChange strongboxCommitsWrong)

/-- 'strongboxlaw12.SighashWitness': WHATEVER THE INPUT: true; the input reads as it did. -/
def sighashWitnessSpec : ChangeSpec := { name := "sighashWitness", fn := fun _ => fun
  | [d1, d2] => { results := [.lit (.bool true)], args := [d1, d2] }
  | _ => none }
def sighashWitnessRow : OpenClaim := { program := "ytmbjokhekfiihaa", sum := "dd16df780fcaf3600444c2d8b1bfc852fd963ff69c38d295fcb8b8409e7faeca", func := "strongbox/strongboxlaw12.SighashWitness", spec := "sighashWitness", unfollowed := true, recurses := true, apart := false }
def SighashWitnessSaid : Prop := sighashWitnessRow.holds Try.pinned (OpenSpec.ofChange sighashWitnessSpec)

/-- ITS FALSE NEIGHBOUR: 'it returns false'. Refute it at one input. -/
def sighashWitnessWrong : ChangeSpec := { name := "sighashWitness", fn := fun _ => fun
  | [d1, d2] => { results := [.lit (.bool false)], args := [d1, d2] }
  | _ => none }
def SighashWitnessWrongFalsely : Prop := sighashWitnessRow.holds Try.pinned (OpenSpec.ofChange sighashWitnessWrong)

/-- 'strongboxlaw12.SighashFree': WHATEVER THE INPUT: true; the input reads as it did. -/
def sighashFreeSpec : ChangeSpec := { name := "sighashFree", fn := fun _ => fun
  | [d1, d2, d3] => { results := [.lit (.bool true)], args := [d1, d2, d3] }
  | _ => none }
def sighashFreeRow : OpenClaim := { program := "ytmbjokhekfiihaa", sum := "dd16df780fcaf3600444c2d8b1bfc852fd963ff69c38d295fcb8b8409e7faeca", func := "strongbox/strongboxlaw12.SighashFree", spec := "sighashFree", unfollowed := true, recurses := true, apart := false }
def SighashFreeSaid : Prop := sighashFreeRow.holds Try.pinned (OpenSpec.ofChange sighashFreeSpec)

/-- ITS FALSE NEIGHBOUR: 'it returns false'. Refute it at one input. -/
def sighashFreeWrong : ChangeSpec := { name := "sighashFree", fn := fun _ => fun
  | [d1, d2, d3] => { results := [.lit (.bool false)], args := [d1, d2, d3] }
  | _ => none }
def SighashFreeWrongFalsely : Prop := sighashFreeRow.holds Try.pinned (OpenSpec.ofChange sighashFreeWrong)

/- THE SECOND FORM. 'bulk': how many values and letters a reading holds, each counted each time it is reached (what is shared counts as often as it is met; a slice's spare places count too). A statement '..UptoSaid' is the law's where the arguments, and the package variables that the reading takes, are together of bulk at most 1048576: NARROWER than '..Said'. Prove '..Said' where nothing that the law and all that it calls make is longer than what came in: it says more and counts as full. Else prove '..UptoSaid'. A law counts once. -/
mutual
def uptoBulk {H : Type} : DataW H → Nat
  | .lit (.string bytes) => bytes.length + 1
  | .lit _ => 1
  | .nil => 1
  | .ptr d => uptoBulk d + 1
  | .slice elems spare => uptoBulkAll elems + uptoBulkAll spare + 1
  | .agg parts => uptoBulkAll parts + 1
  | .iface _ d => uptoBulk d + 1
  | .map entries => uptoBulkEntries entries + 1
  | .held _ => 1
def uptoBulkAll {H : Type} : List (DataW H) → Nat
  | [] => 0
  | d :: r => uptoBulk d + uptoBulkAll r
def uptoBulkEntries {H : Type} : List (Lit × DataW H) → Nat
  | [] => 0
  | x :: r => uptoBulkEntry x + uptoBulkEntries r
def uptoBulkEntry {H : Type} : Lit × DataW H → Nat
  | (.string bytes, d) => bytes.length + uptoBulk d + 1
  | (_, d) => uptoBulk d + 1
 end
def uptoSmall : (H : Type) → List (DataW H) → Bool := fun _ ds => decide (uptoBulkAll ds ≤ 1048576)
def OpenSpec.upto (s : _root_.Go.ChangeSpec) : _root_.Go.OpenSpec := { _root_.Go.OpenSpec.ofChange s with cond := some uptoSmall }

/-- 'strongboxlaw12.SighashLegacy', WHERE WHAT IT READS IS OF BULK AT MOST 1048576: true; the input reads as it did. -/
def sighashLegacyUptoRow : OpenClaim := { program := "ytmbjokhekfiihaa", sum := "dd16df780fcaf3600444c2d8b1bfc852fd963ff69c38d295fcb8b8409e7faeca", func := "strongbox/strongboxlaw12.SighashLegacy", spec := "sighashLegacy", unfollowed := true, recurses := true, apart := false, narrowed := true }
def SighashLegacyUptoSaid : Prop := sighashLegacyUptoRow.holds Try.pinned (OpenSpec.upto sighashLegacySpec)

/-- 'strongboxtop.StrongboxCommits', WHERE WHAT IT READS IS OF BULK AT MOST 1048576: true; the input reads as it did. -/
def strongboxCommitsUptoRow : OpenClaim := { program := "ytmbjokhekfiihaa", sum := "dd16df780fcaf3600444c2d8b1bfc852fd963ff69c38d295fcb8b8409e7faeca", func := "strongbox/strongboxtop.StrongboxCommits", spec := "strongboxCommits", unfollowed := true, recurses := true, apart := false, narrowed := true }
def StrongboxCommitsUptoSaid : Prop := strongboxCommitsUptoRow.holds Try.pinned (OpenSpec.upto strongboxCommitsSpec)

/-- 'strongboxlaw12.SighashWitness', WHERE WHAT IT READS IS OF BULK AT MOST 1048576: true; the input reads as it did. -/
def sighashWitnessUptoRow : OpenClaim := { program := "ytmbjokhekfiihaa", sum := "dd16df780fcaf3600444c2d8b1bfc852fd963ff69c38d295fcb8b8409e7faeca", func := "strongbox/strongboxlaw12.SighashWitness", spec := "sighashWitness", unfollowed := true, recurses := true, apart := false, narrowed := true }
def SighashWitnessUptoSaid : Prop := sighashWitnessUptoRow.holds Try.pinned (OpenSpec.upto sighashWitnessSpec)

/-- 'strongboxlaw12.SighashFree', WHERE WHAT IT READS IS OF BULK AT MOST 1048576: true; the input reads as it did. -/
def sighashFreeUptoRow : OpenClaim := { program := "ytmbjokhekfiihaa", sum := "dd16df780fcaf3600444c2d8b1bfc852fd963ff69c38d295fcb8b8409e7faeca", func := "strongbox/strongboxlaw12.SighashFree", spec := "sighashFree", unfollowed := true, recurses := true, apart := false, narrowed := true }
def SighashFreeUptoSaid : Prop := sighashFreeUptoRow.holds Try.pinned (OpenSpec.upto sighashFreeSpec)

end Rows
end Go.Proofs.Ytmbjokhekfiihaa
