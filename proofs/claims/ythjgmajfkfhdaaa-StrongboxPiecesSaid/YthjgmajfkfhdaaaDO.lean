/- What was kept. -/
import Derived.Test.YthjgmajfkfhdaaaDN
set_option linter.unusedSimpArgs false
set_option linter.unusedVariables false
set_option linter.constructorNameAsVariable false
namespace Go.Proofs
open Go.Vc
set_option maxRecDepth 10000

end Go.Proofs
