/-
  The contract of edges.of, in the words of the printed ones.
-/
import Derived.Test.YtebjiimlcnmfpaaGreatA12
import Derived.Test.YtebjiimlcnmfpaaGreatB1
set_option linter.unusedVariables false
set_option linter.unusedSimpArgs false
namespace Go.Proofs.YtebjiimlcnmfpaaGreatPr
section
open Go Go.RowKit Go.Proofs.YtebjiimlcnmfpaaGreat

def ofEdge (x : Go.Proofs.YtebjiimlcnmfpaaGreat.Edge) : S24 := ⟨x.kind, x.from_, x.to_, x.i, x.j⟩
def edges_of.f (l0 : List (S50)) (a1 : ByteArray) : Option ((List (S24))) := if l0.length ≤ 1000 then some ((ofE (evs l0) a1).map ofEdge) else none
theorem edges_of.calls (A0 : Option Addr) (c0 : Nat) (l0 : List (S50)) (a1 : ByteArray) (r : List (S24)) (w : World) (hr0 : YtebjiimlcnmfpaaGreatW.PrintWords.Kd.C k50 w A0 l0.length l0) (hc0 : l0.length ≤ c0) (h : edges_of.f l0 a1 = some r) :
    Calls Tryz.prog 48 #[.slice A0 l0.length c0, .string a1] w fun e w' => ∃ v0_ : Value, e = .returned (v0_) ∧ YtebjiimlcnmfpaaGreatW.PrintWords.Kd.R k24 24 w' w.heap.size (fun _ => True) v0_ r ∧ Below w.heap.size w w' := by
  unfold edges_of.f at h
  split at h
  · rename_i hn
    have h1 := e_of w A0 l0.length c0 (evs l0) a1 (evs_of hr0 (by omega)) hn hc0
    injection h with h
    refine h1.mono fun e w' ⟨v, he, ho, hx⟩ => ⟨v, he, ?_, hx⟩
    rw [← h]
    exact r_of k24 24 Go.Proofs.YtebjiimlcnmfpaaGreat.Edge.cs ofEdge (fun w base ok y => k24_mkM w base ok (ofEdge y)) (fun _ => rfl) ho
  · cases h
end
end Go.Proofs.YtebjiimlcnmfpaaGreatPr
