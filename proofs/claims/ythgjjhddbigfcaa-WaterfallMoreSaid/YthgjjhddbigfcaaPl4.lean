/- The value of a cut. -/
import Derived.Test.YthgjjhddbigfcaaPl3
namespace Go.Wf
open Go.Proofs.Share
set_option linter.unusedVariables false
set_option linter.unusedSimpArgs false

end Go.Wf
