/-
  The plain law of EdgesTell: all edges, the committed transactions, and whether an edge holds, the program and the document tell alike.
-/
import Derived.Test.YtebjiimlcnmfpaaGreatS10a
import Derived.Test.YtebjiimlcnmfpaaGreatPrCartouchelaw10EdgesTell
import Derived.Test.YtebjiimlcnmfpaaGreatS19
import Derived.Test.YtebjiimlcnmfpaaGreatS12
import Derived.Test.YtebjiimlcnmfpaaGreatA28
import Derived.Test.YtebjiimlcnmfpaaGreatPHistoryWrites
import Derived.Test.YtebjiimlcnmfpaaGreatB13
set_option linter.unusedVariables false
set_option linter.unusedSimpArgs false
namespace Go.Proofs.YtebjiimlcnmfpaaGreatPr
open Go.Proofs.YtebjiimlcnmfpaaGreat
open Go Go.RowKit

theorem p_EdgesTell (l : List S50) (e0 e1 e2 e3 e4 : Int) (hS : ∀ y ∈ l, EvS y) (hl : l.length * 48 ≤ 140737488351232) : ∃ k, cartouchelaw10_EdgesTell.f k l e0 e1 e2 e3 e4 = some true := by
  apply Evt.rounds
  obtain ⟨b, hb, hb2⟩ := few2_evt l (by omega)
  refine Evt.bind' (fun k => rfl) shown10 ?_
  refine Evt.bind' (fun k => rfl) hb ?_
  cases b
  · exact Evt.now fun k => by rw [if_neg (by simp)]
  · obtain ⟨hn, hT⟩ := hb2 rfl
    have hAl := allE_len l (by omega)
    have hR : cartoucheref10_All.f l = some (allE l) := by
      unfold cartoucheref10_All.f
      rw [if_pos ⟨by omega, fun y hy => (hS y hy).2.2.1⟩]
    have hN : edges_Nodes.f l = some (nodesS (evs l)) := by unfold edges_Nodes.f; rw [if_pos (by omega)]
    have hH : edges_Holds.f l e0 e1 e2 e3 e4 = some (holds (evs l) ⟨e0, e1, e2, e3, e4⟩) := by unfold edges_Holds.f; rw [if_pos (by omega)]
    have hnl := nodesS_len (evs l)
    rw [evs_len] at hnl
    obtain ⟨c, hc, hc2⟩ := same_evt (allE l) (allE l) (by omega)
    obtain rfl := hc2 rfl
    refine Evt.congr (fun k => if_pos rfl) ?_
    refine Evt.bind' (fun k => rfl) (all_evt l (by omega) hS) ?_
    refine Evt.bind' (fun k => rfl) (Evt.now fun _ => hR) ?_
    refine Evt.bind' (fun k => rfl) hc ?_
    refine Evt.bind' (fun k => rfl) (Evt.now fun _ => hN) ?_
    refine Evt.bind' (fun k => rfl) (rnodes_evt l (by omega) (fun i hi => by have := hT i hi; omega)) ?_
    refine Evt.bind' (fun k => rfl) (ints_self (nodesS (evs l)) (by omega)) ?_
    refine Evt.congr (fun k => by rw [if_pos rfl, if_pos rfl, if_pos rfl]) ?_
    refine Evt.bind' (fun k => rfl) (Evt.now fun _ => hH) ?_
    exact Evt.bind' (fun k => rfl) (rholds_evt l (by omega) e0 e1 e2 e3 e4) (Evt.now fun k => by simp)
end Go.Proofs.YtebjiimlcnmfpaaGreatPr
