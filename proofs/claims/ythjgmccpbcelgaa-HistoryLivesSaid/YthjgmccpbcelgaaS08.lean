/-
  What all plain laws of chapter 8 lean on: the document's examples.
-/
import Derived.Test.YthjgmccpbcelgaaPr39
import Derived.Test.YthjgmccpbcelgaaB1
set_option linter.unusedVariables false
set_option linter.unusedSimpArgs false
namespace Go.Proofs.YthjgmccpbcelgaaPr
open Go.Proofs.Ythjgmccpbcelgaa
open Go Go.RowKit

theorem shown08 : cartouchelaw08_shown.f = some true := by kernel_rfl
end Go.Proofs.YthjgmccpbcelgaaPr
