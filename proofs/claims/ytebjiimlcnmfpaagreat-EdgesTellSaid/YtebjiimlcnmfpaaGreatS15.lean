/-
  Rows of edges, read from memory by hand.
-/
import Derived.Test.YtebjiimlcnmfpaaGreatS10
set_option linter.unusedVariables false
set_option linter.unusedSimpArgs false
namespace Go.Proofs.YtebjiimlcnmfpaaGreatPr
open Go.Proofs.YtebjiimlcnmfpaaGreat
section
open Go Go.RowKit Go.Proofs Go.Shelf
set_option linter.unusedSimpArgs false
set_option linter.unusedVariables false

def enth' (l : List Go.Proofs.YtebjiimlcnmfpaaGreat.Edge) (i : Nat) : Go.Proofs.YtebjiimlcnmfpaaGreat.Edge := l.getD i Go.Proofs.YtebjiimlcnmfpaaGreat.Edge.z
end
end Go.Proofs.YtebjiimlcnmfpaaGreatPr
