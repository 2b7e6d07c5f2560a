/-
  Rows of numbers.
-/
import Derived.Test.YtebjiimlcnmfpaaGreatA1
set_option linter.unusedVariables false
set_option linter.unusedSimpArgs false
namespace Go.Proofs.YtebjiimlcnmfpaaGreat
section
open Go Go.RowKit Go.Proofs Go.Shelf
def intCs (x : Int) : List Value := [.int .i64 x]
def kInt : Kd Int := Kd.flat 1 0 intCs (fun _ => rfl)
abbrev Nums (w : World) (A : Option Addr) (n : Nat) (l : List Int) : Prop := Sl kInt w A n l
def inth (l : List Int) (i : Nat) : Int := l.getD i 0
theorem Nums.opn {w : World} {A : Option Addr} {n : Nat} {l : List Int} (h : Nums w A n l) (hn : 0 < n) : ∃ b o, A = some ⟨b, o, none⟩ ∧ (∀ W i, Ext w W → i < n → W.cell? ⟨b, o + i, none⟩ = some (.int .i64 (inth l i))) := by
  obtain ⟨b, o, e, hg⟩ := h.get hn
  refine ⟨b, o, e, fun W i hx hi => ?_⟩
  obtain ⟨cs, hR, hc⟩ := hg i hi
  have hcs : cs = intCs (inth l i) := hR
  have := hx.cell (hc 0 (.int .i64 (inth l i)) (by rw [hcs]; rfl))
  simpa [kInt, Kd.flat] using this
end
end Go.Proofs.YtebjiimlcnmfpaaGreat
