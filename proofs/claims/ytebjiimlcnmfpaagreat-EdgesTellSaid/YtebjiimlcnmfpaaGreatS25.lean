/-
  Ways along all edges of a history: where an edge holds there is one.
-/
import Derived.Test.YtebjiimlcnmfpaaGreatS15
import Derived.Test.YtebjiimlcnmfpaaGreatS09
import Derived.Test.YtebjiimlcnmfpaaGreatA16
set_option linter.unusedVariables false
set_option linter.unusedSimpArgs false
namespace Go.Proofs.YtebjiimlcnmfpaaGreatPr
open Go.Proofs.YtebjiimlcnmfpaaGreat
section
open Go Go.RowKit Go.Proofs Go.Shelf
set_option linter.unusedSimpArgs false
set_option linter.unusedVariables false

/-! ### ways along all edges -/
end
end Go.Proofs.YtebjiimlcnmfpaaGreatPr
