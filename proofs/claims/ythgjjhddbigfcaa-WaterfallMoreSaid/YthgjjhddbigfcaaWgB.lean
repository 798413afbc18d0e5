/- Part of a proof about the given program: contracts of its functions (see the comment of the last text). -/
import Derived.Test.YthgjjhddbigfcaaWfW
import Derived.Test.YthgjjhddbigfcaaWfS
import Derived.Test.YthgjjhddbigfcaaPl4
namespace Go.Proofs.Ythgjjhddbigfcaa
open Go.Eng Go.Proofs Go.Wf
set_option linter.unusedSimpArgs false
set_option linter.unusedVariables false
attribute [local irreducible] AOps AOpsX AOps2 AOpsS AWP AAnyS Go.Eng.Pure PureRow Eff
theorem lsum_two (cs : List Cl) (d : List Int) (r : Int) : lsumF cs d r = su cs.length (pU cs r false) (dv d) + su cs.length (pU cs r true) (dv d) := by
  rw [← pA_two]
  refine sumN_congr fun i _ => ?_
  unfold lsumG pA
  by_cases h : (cs.getD i default).r ≤ r
  · rw [if_pos h, if_pos (decide_eq_true h)]
  · rw [if_neg h, if_neg (by rw [decide_eq_false h]; simp)]
end Go.Proofs.Ythgjjhddbigfcaa
