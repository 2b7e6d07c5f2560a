/-
  What chapter 10's reference computes: whether and where a transaction was committed; the committed transactions.
-/
import Derived.Test.YtebjiimlcnmfpaaGreatPrCartoucheref10Nodes
import Derived.Test.YtebjiimlcnmfpaaGreatPrCartoucheref10Committed
import Derived.Test.YtebjiimlcnmfpaaGreatS16a
set_option linter.unusedVariables false
set_option linter.unusedSimpArgs false
namespace Go.Proofs.YtebjiimlcnmfpaaGreatPr
open Go.Proofs.YtebjiimlcnmfpaaGreat
open Go Go.RowKit

theorem wf_txn {l : List Ev} (hw : Wf l) {i : Nat} (hi : i < l.length) : 1 ≤ (nth l i).txn ∧ (nth l i).txn ≤ 32 := by
  have h := hw.step i hi
  unfold stepErr at h
  split at h
  · cases h
  · rename_i hm
    have := (may_iff _).1 (by simpa using hm)
    unfold MayP at this
    exact ⟨by omega, by omega⟩
end Go.Proofs.YtebjiimlcnmfpaaGreatPr
