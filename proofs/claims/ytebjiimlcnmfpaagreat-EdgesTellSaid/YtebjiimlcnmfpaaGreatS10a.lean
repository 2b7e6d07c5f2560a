/-
  What the plain laws of chapter 10 lean on: the document's example, the small histories.
-/
import Derived.Test.YtebjiimlcnmfpaaGreatPrCartouchelaw10Shown
import Derived.Test.YtebjiimlcnmfpaaGreatPrCartouchelaw10Few
import Derived.Test.YtebjiimlcnmfpaaGreatS10
set_option linter.unusedVariables false
set_option linter.unusedSimpArgs false
namespace Go.Proofs.YtebjiimlcnmfpaaGreatPr
open Go.Proofs.YtebjiimlcnmfpaaGreat
open Go Go.RowKit

theorem shown10_at : cartouchelaw10_shown.f 60 = some true := by kernel_rfl
theorem shown10 : Evt (fun k => cartouchelaw10_shown.f k) true := YtebjiimlcnmfpaaGreatW.PrintWords.Ev.of cartouchelaw10_shown.mono shown10_at

end Go.Proofs.YtebjiimlcnmfpaaGreatPr
