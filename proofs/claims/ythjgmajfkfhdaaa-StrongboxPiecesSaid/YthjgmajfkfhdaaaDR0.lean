/- Small facts of the program that every row of this seat needs; what its arguments hold. -/
import Derived.Test.YthjgmajfkfhdaaaRows
import Derived.Test.YthjgmajfkfhdaaaDK
set_option linter.unusedSimpArgs false
set_option linter.unusedVariables false
set_option linter.constructorNameAsVariable false
namespace Go.Proofs.Ythjgmajfkfhdaaa
open Go.Vc Go.ChangeShapes Go.WideShapes Go.ChangeAt Go.RowKit Go.Proofs
theorem Try.own : ownKnob Try.prog.godebug = none := by kernel_rfl
theorem Try.laidOut : laidOutB Try.prog = true := by kernel_rfl

end Go.Proofs.Ythjgmajfkfhdaaa
