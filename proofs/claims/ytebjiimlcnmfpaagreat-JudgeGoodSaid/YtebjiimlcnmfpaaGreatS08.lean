/-
  What all plain laws of chapter 8 lean on: the document's examples.
-/

import Derived.Test.YtebjiimlcnmfpaaGreatB1
set_option linter.unusedVariables false
set_option linter.unusedSimpArgs false
namespace Go.Proofs.YtebjiimlcnmfpaaGreatPr
open Go.Proofs.YtebjiimlcnmfpaaGreat
open Go Go.RowKit

end Go.Proofs.YtebjiimlcnmfpaaGreatPr
