/-
  Rows of steps that are the same.
-/

import Derived.Test.YtebjiimlcnmfpaaGreatPrCartoucheref10Same
import Derived.Test.YtebjiimlcnmfpaaGreatS14
set_option linter.unusedVariables false
set_option linter.unusedSimpArgs false
namespace Go.Proofs.YtebjiimlcnmfpaaGreatPr
open Go.Proofs.YtebjiimlcnmfpaaGreat
open Go Go.RowKit

/-! ### sameness -/
theorem same_l0 (a b : List S24) (hl : a.length = b.length) (hn : a.length ≤ 9223372036854775807) : ∀ (d i : Nat), i + d = a.length → ∃ c, Evt (fun k => cartoucheref10_Same.l0 k a b (i : Int)) c ∧ (a = b → c = true)
  | 0, i, hi => ⟨true, Evt.now1 fun k => by
      simp only [cartoucheref10_Same.l0]
      rw [if_neg (by omega)], fun _ => rfl⟩
  | d + 1, i, hi => by
    obtain ⟨c, hc, hc2⟩ := same_l0 a b hl hn d (i + 1) (by omega)
    by_cases q : (!(((rd_T24 a (i : Int)).f0) == ((rd_T24 b (i : Int)).f0)) || (!(((rd_T24 a (i : Int)).f1) == ((rd_T24 b (i : Int)).f1)) || (!(((rd_T24 a (i : Int)).f2) == ((rd_T24 b (i : Int)).f2)) || (!(((rd_T24 a (i : Int)).f3) == ((rd_T24 b (i : Int)).f3)) || (!(((rd_T24 a (i : Int)).f4) == ((rd_T24 b (i : Int)).f4))))))) = true
    · refine ⟨false, Evt.now1 fun k => ?_, fun e => by subst e; simp at q⟩
      simp only [cartoucheref10_Same.l0]
      rw [if_pos (by omega), if_pos (by omega), if_pos (by omega), if_pos q]
    · refine ⟨c, Evt.step (fun k => ?_) hc, hc2⟩
      simp only [cartoucheref10_Same.l0]
      rw [if_pos (by omega), if_pos (by omega), if_pos (by omega), if_neg q, wrap_succ2 (n := a.length) (by omega) hn]
theorem same_evt (a b : List S24) (hn : a.length ≤ 9223372036854775807) : ∃ c, Evt (fun k => cartoucheref10_Same.f k a b) c ∧ (a = b → c = true) := by
  by_cases h : a.length = b.length
  · obtain ⟨c, hc, h2⟩ := same_l0 a b h hn a.length 0 (by omega)
    refine ⟨c, Evt.congr (fun k => ?_) hc, h2⟩
    unfold cartoucheref10_Same.f
    rw [if_pos (by omega)]; rfl
  · refine ⟨false, Evt.now fun k => ?_, fun e => absurd (by rw [e]) h⟩
    unfold cartoucheref10_Same.f
    rw [if_neg (by omega)]
end Go.Proofs.YtebjiimlcnmfpaaGreatPr
