/-
  The contract of edges.Nodes, in the words of the printed ones.
-/
import Derived.Test.YtebjiimlcnmfpaaGreatA30
import Derived.Test.YtebjiimlcnmfpaaGreatB1
set_option linter.unusedVariables false
set_option linter.unusedSimpArgs false
namespace Go.Proofs.YtebjiimlcnmfpaaGreatPr
section
open Go Go.RowKit Go.Proofs.YtebjiimlcnmfpaaGreat

def edges_Nodes.f (l0 : List (S50)) : Option (List Int) := if l0.length ≤ 1000 then some (nodesS (evs l0)) else none
theorem edges_Nodes.calls (A0 : Option Addr) (c0 : Nat) (l0 : List (S50)) (r : List Int) (w : World) (hr0 : YtebjiimlcnmfpaaGreatW.PrintWords.Kd.C k50 w A0 l0.length l0) (hc0 : l0.length ≤ c0) (h : edges_Nodes.f l0 = some r) :
    Calls Tryz.prog 24 #[.slice A0 l0.length c0] w fun e w' => ∃ v0_ : Value, e = .returned (v0_) ∧ YtebjiimlcnmfpaaGreatW.PrintWords.Kd.R (YtebjiimlcnmfpaaGreatW.PrintWords.Kd.int .i64) 3 w' w.heap.size (fun _ => True) v0_ r ∧ Below w.heap.size w w' := by
  unfold edges_Nodes.f at h
  split at h
  · rename_i hn
    injection h with h
    subst h
    refine (e_nodes w A0 l0.length c0 (evs l0) (evs_of hr0 (by omega)) hn hc0).mono fun e w' ⟨v, he, ho, hx⟩ => ⟨v, he, ?_, hx⟩
    have := r_of (YtebjiimlcnmfpaaGreatW.PrintWords.Kd.int .i64) 3 intCs (fun x => x) (fun _ _ _ _ => rfl) (fun _ => rfl) ho
    simpa using this
  · cases h
end
end Go.Proofs.YtebjiimlcnmfpaaGreatPr
