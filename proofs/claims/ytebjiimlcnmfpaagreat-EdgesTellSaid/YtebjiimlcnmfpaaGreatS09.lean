/-
  What chapter 9's reference computes of a whole history: all that are wrong, in order.
-/
import Derived.Test.YtebjiimlcnmfpaaGreatPrCartoucheref09All
import Derived.Test.YtebjiimlcnmfpaaGreatB1
set_option linter.unusedVariables false
set_option linter.unusedSimpArgs false
namespace Go.Proofs.YtebjiimlcnmfpaaGreatPr
open Go.Proofs.YtebjiimlcnmfpaaGreat
open Go Go.RowKit

end Go.Proofs.YtebjiimlcnmfpaaGreatPr
