/-
  Committed transactions; the steps of a history.
-/
import Derived.Test.YtebjiimlcnmfpaaGreatS10
import Derived.Test.YtebjiimlcnmfpaaGreatA12
import Derived.Test.YtebjiimlcnmfpaaGreatB1
set_option linter.unusedVariables false
set_option linter.unusedSimpArgs false
namespace Go.Proofs.YtebjiimlcnmfpaaGreatPr
open Go.Proofs.YtebjiimlcnmfpaaGreat
open Go Go.RowKit

/-! ### committed -/
theorem find_comS (l : List Ev) (t : Int) : (findL l t).1.com = comOf l t := by
  by_cases h : firstOf l t < 0
  · have he : endOf l t < 0 := by
      rcases Int.lt_or_le (endOf l t) 0 with h2 | h2
      · exact h2
      · obtain ⟨e, _, he, ht, _⟩ := endOf_place h2
        exact absurd ht (firstOf_neg h e he)
    unfold findL comOf
    rw [if_pos h, decide_eq_false (by omega)]
    rfl
  · by_cases he : endOf l t < 0
    · unfold findL comOf
      rw [if_neg h, if_pos he, decide_eq_false (by omega)]
      rfl
    · unfold findL comOf
      rw [if_neg h, if_neg he, decide_eq_true (by omega)]
      rfl
/-! ### the steps of a history -/
/-- The committed transactions. -/
theorem mem_nodes {l : List Ev} {t : Int} : t ∈ nodesS l ↔ comOf l t = true := by
  unfold nodesS
  rw [Rg.mem_sortD]
  constructor
  · intro h
    obtain ⟨x, hx, rfl⟩ := List.mem_map.1 h
    obtain ⟨hx1, hx2⟩ := List.mem_filter.1 hx
    obtain ⟨j, hj, h1, h2, h3⟩ := mem_lives hx1
    obtain ⟨j', _, _, _, hx'⟩ := (mem_livesFrom l _ _ x).1 hx1
    have e1 : x.txn = (nth l j').txn := by rw [hx']; unfold lifeOf; split <;> rfl
    have e2 : x.from_ = (j' : Int) := by rw [hx']; unfold lifeOf; split <;> rfl
    have : j' = j := by rw [h3] at e2; omega
    subst this
    have hfc := find_comS l (nth l j').txn
    rw [h2] at hfc
    rw [e1, ← hfc]
    exact hx2
  · intro h
    obtain ⟨h1, h2, h3⟩ := comOf_end h
    obtain ⟨e, he, hel, het, _⟩ := endOf_place h1
    have hf0 : 0 ≤ firstOf l t := by
      rcases Int.lt_or_le (firstOf l t) 0 with z | z
      · exact absurd het (firstOf_neg z e hel)
      · exact z
    obtain ⟨f, hf⟩ := Int.eq_ofNat_of_zero_le hf0
    have hm := lives_mem (l := l) (t := t) (f := f) hf
    have hc := find_comS l t
    refine List.mem_map.2 ⟨_, List.mem_filter.2 ⟨hm, by rw [hc]; exact h⟩, ?_⟩
    unfold findL
    rw [if_neg (by omega)]
    split <;> rfl
end Go.Proofs.YtebjiimlcnmfpaaGreatPr
