/-
  No cell of these rows narrows 'for every input' (looked for: loops, veiled, ifaces, maps, wideKeys, modest, calm, conditions, laid).
  DERIVED. THE GIVEN ROWS OF THIS SEAT. 5 by the template 'for every input the law returns true; each argument reads behind the call as it read before'; 0 by the template 'total and deterministic' (their statements: YtnbbgmnjjdaopaaTotals.lean).
  GIVEN WITH THE SEED: the statements are not yours to turn. If you find one false, say at which input.
  Laid BY PROGRAM, IN A SANDBOX (cutbox-rows.mjs): the forced cells as the released guide's own fill.sh prints them over the translation 6bc3bab604b89c3e… (all of the seat's roots in one cut). By AI agents, Wed Nov 11 2026. No macro, syntax, notation, axiom, sorry.
-/
import Derived.Test.YtnbbgmnjjdaopaaChecked
import GoSem.Claim
import GoSem.ClaimJoined
import GoSem.ClaimMapViews
import Derived.JoinedTies
import Derived.KernelRfl
namespace Go.Proofs.Ytnbbgmnjjdaopaa
/- THE CELL 'sum', in the pinned program and in every row, IS THE sha256 OF THE DUMP (.gsa) THAT YtnbbgmnjjdaopaaProg.lean LOADS. Nothing in Lean hashes anything: it is a label: what it is worth is what the hold of that sum in a sandbox is worth. -/
noncomputable def Try.pinned : Pinned := { name := "ytnbbgmnjjdaopaa", sum := "6bc3bab604b89c3e20a821517511f09ba6c69366281b49674700d1cf7a3cde55", checked := Try.checked }
namespace Rows
def none {H : Type} : Left H := { results := [], args := [] }

/-- 'strongboxlaw19.FeesCounts': WHATEVER THE INPUT: true; the input reads as it did. -/
def feesCountsSpec : ChangeSpec := { name := "feesCounts", fn := fun _ => fun
  | [d] => { results := [.lit (.bool true)], args := [d] }
  | _ => none }
def feesCountsRow : OpenClaim := { program := "ytnbbgmnjjdaopaa", sum := "6bc3bab604b89c3e20a821517511f09ba6c69366281b49674700d1cf7a3cde55", func := "strongbox/strongboxlaw19.FeesCounts", spec := "feesCounts", plainKeys := false, apart := false }
def FeesCountsSaid : Prop := feesCountsRow.holds Try.pinned (OpenSpec.ofChange feesCountsSpec)

/-- ITS FALSE NEIGHBOUR: 'it returns false'. Refute it at one input. -/
def feesCountsWrong : ChangeSpec := { name := "feesCounts", fn := fun _ => fun
  | [d] => { results := [.lit (.bool false)], args := [d] }
  | _ => none }
def FeesCountsWrongFalsely : Prop := feesCountsRow.holds Try.pinned (OpenSpec.ofChange feesCountsWrong)

/-- 'strongboxlaw19.FeesEstimates': WHATEVER THE INPUT: true; the input reads as it did. -/
def feesEstimatesSpec : ChangeSpec := { name := "feesEstimates", fn := fun _ => fun
  | [d1, d2, d3] => { results := [.lit (.bool true)], args := [d1, d2, d3] }
  | _ => none }
def feesEstimatesRow : OpenClaim := { program := "ytnbbgmnjjdaopaa", sum := "6bc3bab604b89c3e20a821517511f09ba6c69366281b49674700d1cf7a3cde55", func := "strongbox/strongboxlaw19.FeesEstimates", spec := "feesEstimates", plainKeys := false, apart := false }
def FeesEstimatesSaid : Prop := feesEstimatesRow.holds Try.pinned (OpenSpec.ofChange feesEstimatesSpec)

/-- ITS FALSE NEIGHBOUR: 'it returns false'. Refute it at one input. -/
def feesEstimatesWrong : ChangeSpec := { name := "feesEstimates", fn := fun _ => fun
  | [d1, d2, d3] => { results := [.lit (.bool false)], args := [d1, d2, d3] }
  | _ => none }
def FeesEstimatesWrongFalsely : Prop := feesEstimatesRow.holds Try.pinned (OpenSpec.ofChange feesEstimatesWrong)

/-- 'strongboxlaw19.FeesGrows': WHATEVER THE INPUT: true; the input reads as it did. -/
def feesGrowsSpec : ChangeSpec := { name := "feesGrows", fn := fun _ => fun
  | [d1, d2, d3] => { results := [.lit (.bool true)], args := [d1, d2, d3] }
  | _ => none }
def feesGrowsRow : OpenClaim := { program := "ytnbbgmnjjdaopaa", sum := "6bc3bab604b89c3e20a821517511f09ba6c69366281b49674700d1cf7a3cde55", func := "strongbox/strongboxlaw19.FeesGrows", spec := "feesGrows", plainKeys := false, apart := false }
def FeesGrowsSaid : Prop := feesGrowsRow.holds Try.pinned (OpenSpec.ofChange feesGrowsSpec)

/-- ITS FALSE NEIGHBOUR: 'it returns false'. Refute it at one input. -/
def feesGrowsWrong : ChangeSpec := { name := "feesGrows", fn := fun _ => fun
  | [d1, d2, d3] => { results := [.lit (.bool false)], args := [d1, d2, d3] }
  | _ => none }
def FeesGrowsWrongFalsely : Prop := feesGrowsRow.holds Try.pinned (OpenSpec.ofChange feesGrowsWrong)

/-- 'strongboxlaw19.FeesClones': WHATEVER THE INPUT: true; the input reads as it did. -/
def feesClonesSpec : ChangeSpec := { name := "feesClones", fn := fun _ => fun
  | [d1, d2, d3] => { results := [.lit (.bool true)], args := [d1, d2, d3] }
  | _ => none }
def feesClonesRow : OpenClaim := { program := "ytnbbgmnjjdaopaa", sum := "6bc3bab604b89c3e20a821517511f09ba6c69366281b49674700d1cf7a3cde55", func := "strongbox/strongboxlaw19.FeesClones", spec := "feesClones", inPlace := ["maps.clone"], plainKeys := false, apart := false }
def FeesClonesSaid : Prop := feesClonesRow.holds Try.pinned (OpenSpec.ofChange feesClonesSpec)

/-- ITS FALSE NEIGHBOUR: 'it returns false'. Refute it at one input. -/
def feesClonesWrong : ChangeSpec := { name := "feesClones", fn := fun _ => fun
  | [d1, d2, d3] => { results := [.lit (.bool false)], args := [d1, d2, d3] }
  | _ => none }
def FeesClonesWrongFalsely : Prop := feesClonesRow.holds Try.pinned (OpenSpec.ofChange feesClonesWrong)

/-- 'strongboxtop.StrongboxWaited': WHATEVER THE INPUT: true; the input reads as it did. -/
def strongboxWaitedSpec : ChangeSpec := { name := "strongboxWaited", fn := fun _ => fun
  | [d1, d2, d3] => { results := [.lit (.bool true)], args := [d1, d2, d3] }
  | _ => none }
def strongboxWaitedRow : OpenClaim := { program := "ytnbbgmnjjdaopaa", sum := "6bc3bab604b89c3e20a821517511f09ba6c69366281b49674700d1cf7a3cde55", func := "strongbox/strongboxtop.StrongboxWaited", spec := "strongboxWaited", plainKeys := false, apart := false }
def StrongboxWaitedSaid : Prop := strongboxWaitedRow.holds Try.pinned (OpenSpec.ofChange strongboxWaitedSpec)

/-- ITS FALSE NEIGHBOUR: 'it returns false'. Refute it at one input. -/
def strongboxWaitedWrong : ChangeSpec := { name := "strongboxWaited", fn := fun _ => fun
  | [d1, d2, d3] => { results := [.lit (.bool false)], args := [d1, d2, d3] }
  | _ => none }
def StrongboxWaitedWrongFalsely : Prop := strongboxWaitedRow.holds Try.pinned (OpenSpec.ofChange strongboxWaitedWrong)

/- THE SECOND FORM. 'bulk': how many values and letters a reading holds, each counted each time it is reached (what is shared counts as often as it is met; a slice's spare places count too). A statement '..UptoSaid' is the law's where the arguments, and the package variables that the reading takes, are together of bulk at most 1048576: NARROWER than '..Said'. Prove '..Said' where nothing that the law and all that it calls make is longer than what came in: it says more and counts as full. Else prove '..UptoSaid'. A law counts once. -/
mutual
def uptoBulk {H : Type} : DataW H → Nat
  | .lit (.string bytes) => bytes.length + 1
  | .lit _ => 1
  | .nil => 1
  | .ptr d => uptoBulk d + 1
  | .slice elems spare => uptoBulkAll elems + uptoBulkAll spare + 1
  | .agg parts => uptoBulkAll parts + 1
  | .iface _ d => uptoBulk d + 1
  | .map entries => uptoBulkEntries entries + 1
  | .held _ => 1
def uptoBulkAll {H : Type} : List (DataW H) → Nat
  | [] => 0
  | d :: r => uptoBulk d + uptoBulkAll r
def uptoBulkEntries {H : Type} : List (Lit × DataW H) → Nat
  | [] => 0
  | x :: r => uptoBulkEntry x + uptoBulkEntries r
def uptoBulkEntry {H : Type} : Lit × DataW H → Nat
  | (.string bytes, d) => bytes.length + uptoBulk d + 1
  | (_, d) => uptoBulk d + 1
 end
def uptoSmall : (H : Type) → List (DataW H) → Bool := fun _ ds => decide (uptoBulkAll ds ≤ 1048576)
def OpenSpec.upto (s : _root_.Go.ChangeSpec) : _root_.Go.OpenSpec := { _root_.Go.OpenSpec.ofChange s with cond := some uptoSmall }

/-- 'strongboxlaw19.FeesCounts', WHERE WHAT IT READS IS OF BULK AT MOST 1048576: true; the input reads as it did. -/
def feesCountsUptoRow : OpenClaim := { program := "ytnbbgmnjjdaopaa", sum := "6bc3bab604b89c3e20a821517511f09ba6c69366281b49674700d1cf7a3cde55", func := "strongbox/strongboxlaw19.FeesCounts", spec := "feesCounts", plainKeys := false, apart := false, narrowed := true }
def FeesCountsUptoSaid : Prop := feesCountsUptoRow.holds Try.pinned (OpenSpec.upto feesCountsSpec)

/-- 'strongboxlaw19.FeesEstimates', WHERE WHAT IT READS IS OF BULK AT MOST 1048576: true; the input reads as it did. -/
def feesEstimatesUptoRow : OpenClaim := { program := "ytnbbgmnjjdaopaa", sum := "6bc3bab604b89c3e20a821517511f09ba6c69366281b49674700d1cf7a3cde55", func := "strongbox/strongboxlaw19.FeesEstimates", spec := "feesEstimates", plainKeys := false, apart := false, narrowed := true }
def FeesEstimatesUptoSaid : Prop := feesEstimatesUptoRow.holds Try.pinned (OpenSpec.upto feesEstimatesSpec)

/-- 'strongboxlaw19.FeesGrows', WHERE WHAT IT READS IS OF BULK AT MOST 1048576: true; the input reads as it did. -/
def feesGrowsUptoRow : OpenClaim := { program := "ytnbbgmnjjdaopaa", sum := "6bc3bab604b89c3e20a821517511f09ba6c69366281b49674700d1cf7a3cde55", func := "strongbox/strongboxlaw19.FeesGrows", spec := "feesGrows", plainKeys := false, apart := false, narrowed := true }
def FeesGrowsUptoSaid : Prop := feesGrowsUptoRow.holds Try.pinned (OpenSpec.upto feesGrowsSpec)

/-- 'strongboxlaw19.FeesClones', WHERE WHAT IT READS IS OF BULK AT MOST 1048576: true; the input reads as it did. -/
def feesClonesUptoRow : OpenClaim := { program := "ytnbbgmnjjdaopaa", sum := "6bc3bab604b89c3e20a821517511f09ba6c69366281b49674700d1cf7a3cde55", func := "strongbox/strongboxlaw19.FeesClones", spec := "feesClones", inPlace := ["maps.clone"], plainKeys := false, apart := false, narrowed := true }
def FeesClonesUptoSaid : Prop := feesClonesUptoRow.holds Try.pinned (OpenSpec.upto feesClonesSpec)

/-- 'strongboxtop.StrongboxWaited', WHERE WHAT IT READS IS OF BULK AT MOST 1048576: true; the input reads as it did. -/
def strongboxWaitedUptoRow : OpenClaim := { program := "ytnbbgmnjjdaopaa", sum := "6bc3bab604b89c3e20a821517511f09ba6c69366281b49674700d1cf7a3cde55", func := "strongbox/strongboxtop.StrongboxWaited", spec := "strongboxWaited", plainKeys := false, apart := false, narrowed := true }
def StrongboxWaitedUptoSaid : Prop := strongboxWaitedUptoRow.holds Try.pinned (OpenSpec.upto strongboxWaitedSpec)

end Rows
end Go.Proofs.Ytnbbgmnjjdaopaa
