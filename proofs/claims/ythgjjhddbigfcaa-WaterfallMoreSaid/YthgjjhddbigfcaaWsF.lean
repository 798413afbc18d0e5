/- Part of a proof about the given program: contracts of its functions (see the comment of the last text). -/
import Derived.Test.YthgjjhddbigfcaaWsD
import Derived.Test.YthgjjhddbigfcaaPl1
namespace Go.Proofs.Ythgjjhddbigfcaa
open Go.Eng Go.Proofs Go.Proofs.Share
set_option linter.unusedSimpArgs false
set_option linter.unusedVariables false
attribute [local irreducible] AOps AOpsX AOps2 AOpsS AWP AAnyS Go.Eng.Pure PureRow Eff
/-- What the reference's error is behind its two loops. -/
def w1 (total : Int) (l : List Int) (k : Nat) : Int := if 1000000000000 < total ∨ ∃ c ∈ l.take k, 1000000000000 < c then 3 else 0
def w2 (total : Int) (l : List Int) (k : Nat) : Int := if total < 0 ∨ ∃ c ∈ l.take k, c < 0 then 1 else w1 total l l.length
end Go.Proofs.Ythgjjhddbigfcaa
