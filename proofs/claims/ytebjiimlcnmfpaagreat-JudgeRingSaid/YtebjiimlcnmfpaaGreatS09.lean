/-
  What chapter 9's reference computes of a whole history: all that are wrong, in order.
-/
import Derived.Test.YtebjiimlcnmfpaaGreatPrCartoucheref09All
import Derived.Test.YtebjiimlcnmfpaaGreatB1
set_option linter.unusedVariables false
set_option linter.unusedSimpArgs false
namespace Go.Proofs.YtebjiimlcnmfpaaGreatPr
open Go.Proofs.YtebjiimlcnmfpaaGreat
open Go Go.RowKit

def badOne (xs : List S50) (i : Nat) : List S40 := if (badAt (evs xs) i).kind = 0 then [] else [⟨(badAt (evs xs) i).kind, (badAt (evs xs) i).i, (badAt (evs xs) i).j⟩]
def badsS (xs : List S50) : List S40 := (List.range' 0 xs.length).flatMap (badOne xs)
theorem badOne_len (xs : List S50) (i : Nat) : (badOne xs i).length ≤ 1 := by unfold badOne; split <;> simp
end Go.Proofs.YtebjiimlcnmfpaaGreatPr
