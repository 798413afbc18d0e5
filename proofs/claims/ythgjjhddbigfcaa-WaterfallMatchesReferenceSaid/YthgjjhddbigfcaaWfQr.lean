/- Part of a proof about the given program: contracts of its functions (see the comment of the last text). -/
import Derived.Test.YthgjjhddbigfcaaWfM
import Derived.Test.YthgjjhddbigfcaaPl3
import Derived.Test.YthgjjhddbigfcaaEng7
namespace Go.Proofs.Ythgjjhddbigfcaa
open Go.Eng Go.Proofs Go.Wf
set_option linter.unusedSimpArgs false
set_option linter.unusedVariables false
attribute [local irreducible] AOps AOpsX AOps2 AOpsS AWP AAnyS Go.Eng.Pure PureRow Eff
def findR (k : Nat) : Code → Option Code
  | .region id ops d => bif Nat.beq id k then some (.region id ops d) else none
  | .seq a b => match findR k a with
    | some c => some c
    | none => findR k b
  | .cond _ a b => match findR k a with
    | some c => some c
    | none => findR k b
  | .block _ b => findR k b
  | .loop b => findR k b
  | .scope b => findR k b
  | _ => none
theorem nil84 (a : Bool) : ∀ w : World, (nilAhead (Try.prog.types.size + Made.depth) (if a then 84 else 85) (.agg #[]) "wageoffice/waterfall.reaches").run Try.prog w = .ok (some false) w := by
  intro w
  cases a <;> kernel_rfl
end Go.Proofs.Ythgjjhddbigfcaa
