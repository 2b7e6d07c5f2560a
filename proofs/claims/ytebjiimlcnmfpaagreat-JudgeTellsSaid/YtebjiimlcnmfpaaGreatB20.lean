/-
  Slices in a struct that is an argument: as lists, and how long they may be.
-/
import Derived.Test.YtebjiimlcnmfpaaGreatB1
set_option linter.unusedVariables false
set_option linter.unusedSimpArgs false
namespace Go.Proofs.YtebjiimlcnmfpaaGreatPr
open Go.Proofs.YtebjiimlcnmfpaaGreat
section
open Go Go.RowKit Go.Proofs Go.ChangeShapes Go.WideShapes Go.Deep
set_option linter.unusedSimpArgs false
set_option linter.unusedVariables false
variable {H : Type} {enc : TypeId × Value → H} {P : Program} {w : World} {base : Nat} {spare : Nat → Bool} {held : Bool}

/-- What a number that weighs bounds. -/
def Light (P : Program) (ts : List TypeId) (ds : List (DataW H)) : Prop := ∀ n ∈ DataW.weightsEach P ts ds, n ≤ 140737488351232
theorem Light.of {ts : List TypeId} {ds : List (DataW H)} {j : Nat} {t : TypeId} {fs : Array Field} {parts : List (DataW H)} (hsz : (DataW.weightsEach P ts ds).all (· ≤ reachBytes) = true) (hts : ts[j]? = some t) (hd : ds[j]? = some (.agg parts)) (ht : P.underlying t = some (.struct fs)) : Light P (fs.toList.map (·.type)) parts := fun n hn => by
  have := List.all_eq_true.1 hsz _ (DataW.weights_mem_each hts hd n (by simp only [DataW.weights, ht]; exact hn))
  exact of_decide_eq_true this
/-- A slice in a struct. -/
theorem cells_CL {α : Type} (d : YtebjiimlcnmfpaaGreatW.PrintWords.Kd α) (Q : α → Prop) {t e : TypeId} {A : Option Addr} {n cap fuel : Nat} {x : DataW H × List MemPlace} {ts : List TypeId} {ds : List (DataW H)} {j : Nat} {B : Nat}
    (hL : Light P ts ds) (hts : ts[j]? = some t) (hd : ds[j]? = some x.1) (ht : P.underlying t = some (.slice e)) (hC : P.cellsOf e = d.sz) (hB : P.bytesOf e = B)
    (hk : ∀ m cs x, DataW.trod enc P w base spare held m e cs = some x → cs.length = d.sz → ∃ v, d.K w v cs ∧ Q v)
    (h : DataW.trod enc P w base spare held fuel t [.slice A n cap] = some x) : ∃ l : List α, l.length = n ∧ n ≤ cap ∧ YtebjiimlcnmfpaaGreatW.PrintWords.Kd.C d w A l.length l ∧ (∀ y ∈ l, Q y) ∧ l.length * B ≤ 140737488351232 := by
  obtain ⟨l, h1, h2, h3, h4⟩ := cells_C d Q ht hC hk h
  refine ⟨l, h1, h2, h3, h4, ?_⟩
  rw [h1]
  rcases open_slice ht h with ⟨hcs, _⟩ | ⟨a, len, cap', m, f, D', Pl, hcs, hb, hl, hm, hmm, hx, hi⟩
  · simp at hcs
    obtain ⟨rfl, rfl, rfl⟩ := hcs
    simp
  · simp at hcs
    obtain ⟨rfl, rfl, rfl⟩ := hcs
    subst hx
    have z := hL _ (DataW.weights_mem_each hts hd _ (by simp only [DataW.weights, ht]; exact List.mem_cons_self))
    rw [hB] at z
    simp only [List.length_map, List.length_range] at z
    have : n ≤ n + (m - n) := by omega
    exact Nat.le_trans (Nat.mul_le_mul_right _ this) z
end
end Go.Proofs.YtebjiimlcnmfpaaGreatPr
