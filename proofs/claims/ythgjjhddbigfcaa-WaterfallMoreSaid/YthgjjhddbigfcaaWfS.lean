/- Part of a proof about the given program: contracts of its functions (see the comment of the last text). -/
import Derived.Test.YthgjjhddbigfcaaWfF
import Derived.Test.YthgjjhddbigfcaaPl3
namespace Go.Proofs.Ythgjjhddbigfcaa
open Go.Eng Go.Proofs Go.Wf
set_option linter.unusedSimpArgs false
set_option linter.unusedVariables false
attribute [local irreducible] AOps AOpsX AOps2 AOpsS AWP AAnyS Go.Eng.Pure PureRow Eff
end Go.Proofs.Ythgjjhddbigfcaa
