/-
  What ring.Closed computes; the document's example of chapter 11.
-/
import Derived.Test.YtebjiimlcnmfpaaPr2
import Derived.Test.YtebjiimlcnmfpaaPr4
import Derived.Test.YtebjiimlcnmfpaaS14
import Derived.Test.YtebjiimlcnmfpaaB8
import Derived.Test.YtebjiimlcnmfpaaB0
import Derived.Test.YtebjiimlcnmfpaaR1
set_option linter.unusedVariables false
set_option linter.unusedSimpArgs false
namespace Go.Proofs.YtebjiimlcnmfpaaPr
open Go.Proofs.Ytebjiimlcnmfpaa
open Go Go.RowKit

theorem shown11 : cartouchelaw11_shown.f = some true := by kernel_rfl
/-! ### closed -/
theorem closedP_l0 (l : Stl) (hn : l.length ≤ 140737488351232) : ∀ (d i : Nat) (at_ : Int), i + d = l.length → ∃ c, Evt (fun k => ring_Closed.l0 k at_ l (l.length : Int) (i : Int)) c ∧ (c = true ↔ ∃ b, Rg.chain fr_ to_ (l.drop i) at_ b)
  | 0, i, at_, hi => ⟨true, Evt.now1 fun k => by
      simp only [ring_Closed.l0]
      rw [if_neg (by omega)], by rw [List.drop_eq_nil_of_le (by omega)]; simp [Rg.chain]⟩
  | d + 1, i, at_, hi => by
    obtain ⟨c, hc, hc2⟩ := closedP_l0 l hn d (i + 1) (sn l i).f1 (by omega)
    rw [sn_drop (by omega)]
    by_cases q : (sn l i).f0 = at_
    · refine ⟨c, Evt.step (fun k => ?_) hc, ?_⟩
      · simp only [ring_Closed.l0]
        rw [if_pos (by omega), if_pos (by omega), if_pos (by omega), rd_sn, if_pos q, wrap_succ (n := l.length) (by omega) hn]
      · rw [hc2]
        simp only [Rg.chain]
        constructor
        · rintro ⟨b, hb⟩; exact ⟨b, q, hb⟩
        · rintro ⟨b, _, hb⟩; exact ⟨b, hb⟩
    · refine ⟨false, Evt.now1 fun k => ?_, ?_⟩
      · simp only [ring_Closed.l0]
        rw [if_pos (by omega), if_pos (by omega), if_pos (by omega), rd_sn, if_neg q]
      · simp only [Rg.chain]
        constructor
        · intro h; cases h
        · rintro ⟨b, h, _⟩; exact absurd h q
theorem getLast_sn {l : Stl} (h : l ≠ []) : l.getLast h = sn l (l.length - 1) := by
  have : 0 < l.length := List.length_pos_iff.2 h
  rw [List.getLast_eq_getElem, sn_get (by omega)]
theorem closedP_evt (l : Stl) (hn : l.length ≤ 140737488351232) : ∃ c, Evt (fun k => ring_Closed.f k l) c ∧ (c = true ↔ Rg.closed fr_ to_ l) := by
  by_cases h : l = []
  · subst h
    refine ⟨false, Evt.now fun k => ?_, ?_⟩
    · unfold ring_Closed.f; rw [if_pos (by simp)]
    · simp [Rg.closed]
  · have hp : 0 < l.length := List.length_pos_iff.2 h
    obtain ⟨c, hc, hc2⟩ := closedP_l0 l hn l.length 0 (sn l (l.length - 1)).f1 (by omega)
    have hw : wrap64 ((l.length : Int) - 1) = ((l.length - 1 : Nat) : Int) := by unfold wrap64; omega
    refine ⟨c, Evt.congr (fun k => ?_) hc, ?_⟩
    · unfold ring_Closed.f
      rw [if_neg (by omega), hw, if_pos (by omega), if_pos (by omega), rd_sn]; rfl
    · rw [hc2, List.drop_zero]
      constructor
      · rintro ⟨b, hb⟩
        have e := Rg.chain_last fr_ to_ l _ b h hb
        rw [getLast_sn h] at e
        exact ⟨_, h, by rw [← e] at hb; exact hb⟩
      · rintro ⟨a, _, ha⟩
        have e := Rg.chain_last fr_ to_ l a a h ha
        rw [getLast_sn h] at e
        exact ⟨a, by rw [show (sn l (l.length - 1)).f1 = a from e]; exact ha⟩
end Go.Proofs.YtebjiimlcnmfpaaPr
