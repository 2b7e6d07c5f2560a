/-
  Rows of edges, read from memory by hand.
-/
import Derived.Test.YtebjiimlcnmfpaaGreatS10
set_option linter.unusedVariables false
set_option linter.unusedSimpArgs false
namespace Go.Proofs.YtebjiimlcnmfpaaGreatPr
open Go.Proofs.YtebjiimlcnmfpaaGreat
section
open Go Go.RowKit Go.Proofs Go.Shelf
set_option linter.unusedSimpArgs false
set_option linter.unusedVariables false

def toEd' (x : S24) : Go.Proofs.YtebjiimlcnmfpaaGreat.Edge := ⟨x.f0, x.f1, x.f2, x.f3, x.f4⟩
def kEd' : Go.Proofs.YtebjiimlcnmfpaaGreat.Kd Go.Proofs.YtebjiimlcnmfpaaGreat.Edge := Go.Proofs.YtebjiimlcnmfpaaGreat.Kd.flat 5 Go.Proofs.YtebjiimlcnmfpaaGreat.Edge.z Go.Proofs.YtebjiimlcnmfpaaGreat.Edge.cs (fun _ => rfl)
def enth' (l : List Go.Proofs.YtebjiimlcnmfpaaGreat.Edge) (i : Nat) : Go.Proofs.YtebjiimlcnmfpaaGreat.Edge := l.getD i Go.Proofs.YtebjiimlcnmfpaaGreat.Edge.z
theorem edgs_opn' {w : World} {A : Option Addr} {n : Nat} {l : List Go.Proofs.YtebjiimlcnmfpaaGreat.Edge} (h : Sl kEd' w A n l) (hn : 0 < n) : ∃ b o, A = some ⟨b, o, none⟩ ∧
    ∀ W i, Ext w W → i < n → W.cell? ⟨b, o + i * 5, none⟩ = some (.int .i64 (enth' l i).kind) ∧ W.cell? ⟨b, o + i * 5 + 1, none⟩ = some (.int .i64 (enth' l i).from_) ∧ W.cell? ⟨b, o + i * 5 + 2, none⟩ = some (.int .i64 (enth' l i).to_) ∧ W.cell? ⟨b, o + i * 5 + 3, none⟩ = some (.int .i64 (enth' l i).i) ∧ W.cell? ⟨b, o + i * 5 + 4, none⟩ = some (.int .i64 (enth' l i).j) := by
  obtain ⟨b, o, e, hg⟩ := h.get hn
  have hh : ∀ W i j u, Ext w W → i < n → (enth' l i).cs[j]? = some u → W.cell? ⟨b, o + i * 5 + j, none⟩ = some u := fun W i j u hx hi hu => by
    obtain ⟨cs, hR, hc⟩ := hg i hi
    have hcs : cs = (enth' l i).cs := hR
    exact hx.cell (hc j u (by rw [hcs]; exact hu))
  exact ⟨b, o, e, fun W i hx hi => ⟨hh W i 0 _ hx hi rfl, hh W i 1 _ hx hi rfl, hh W i 2 _ hx hi rfl, hh W i 3 _ hx hi rfl, hh W i 4 _ hx hi rfl⟩⟩
theorem Blk.cells5' {w : World} {g : Nat} {t : TypeId} {a b c d e : Value} (h : Blk w g t #[a, b, c, d, e]) : w.cell? ⟨g, 0, none⟩ = some a ∧ w.cell? ⟨g, 1, none⟩ = some b ∧ w.cell? ⟨g, 2, none⟩ = some c ∧ w.cell? ⟨g, 3, none⟩ = some d ∧ w.cell? ⟨g, 4, none⟩ = some e := ⟨h.cell 0, h.cell 1, h.cell 2, h.cell 3, h.cell 4⟩
end
end Go.Proofs.YtebjiimlcnmfpaaGreatPr
