/-
  The plain law of HistoryForms: that a history is well formed, or where it isn't, the program and the document tell alike.
-/
import Derived.Test.YthjgmccpbcelgaaPr41
import Derived.Test.YthjgmccpbcelgaaS08
set_option linter.unusedVariables false
set_option linter.unusedSimpArgs false
namespace Go.Proofs.Ythjgmccpbcelgaa.Pr
open Go Go.RowKit

theorem p_HistoryForms (l : List S31) (_ : ∀ y ∈ l, EvS y) (hl : l.length * 48 ≤ 140737488351232) : cartouchelaw08_HistoryForms.f l = some true := by
  have hn : l.length ≤ 140737488351232 := by omega
  unfold cartouchelaw08_HistoryForms.f cartouchelaw08_few.f history_Formed.f cartoucheref08_Formed.f
  rw [shown08]
  simp [hn]
end Go.Proofs.Ythjgmccpbcelgaa.Pr
