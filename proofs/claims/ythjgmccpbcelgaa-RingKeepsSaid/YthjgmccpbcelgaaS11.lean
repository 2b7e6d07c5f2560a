/-
  What the plain laws of chapter 11 lean on: the document's examples; what the references compute, over rows of steps.
-/
import Derived.Test.YthjgmccpbcelgaaPr16
import Derived.Test.YthjgmccpbcelgaaPr17
import Derived.Test.YthjgmccpbcelgaaS12
import Derived.Test.YthjgmccpbcelgaaPr24
import Derived.Test.YthjgmccpbcelgaaPr25
import Derived.Test.YthjgmccpbcelgaaPr26
import Derived.Test.YthjgmccpbcelgaaB8
import Derived.Test.YthjgmccpbcelgaaB0
import Derived.Test.YthjgmccpbcelgaaR1
set_option linter.unusedVariables false
set_option linter.unusedSimpArgs false
namespace Go.Proofs.YthjgmccpbcelgaaPr
open Go.Proofs.Ythjgmccpbcelgaa
open Go Go.RowKit

theorem shown11 : cartouchelaw11_shown.f = some true := by kernel_rfl
theorem ring_f {l : Stl} (hn : l.length * 40 ≤ 140737488351232) (hS : ∀ y ∈ l, StepS y) : ring_Ring.f l = some (Rg.ring fr_ to_ l) := by
  unfold ring_Ring.f
  rw [if_pos ⟨hn, stepsOk_iff.2 fun x hx => ⟨(hS x hx).1, (hS x hx).2.1⟩⟩]
theorem stepsOk_of {l : Stl} (hS : ∀ y ∈ l, StepS y) : stepsOk l = true := stepsOk_iff.2 fun x hx => ⟨(hS x hx).1, (hS x hx).2.1⟩

/-! ### closed -/
theorem closedP_l0 (l : Stl) (hn : l.length ≤ 140737488351232) : ∀ (d i : Nat) (at_ : Int), i + d = l.length → ∃ c, Evt (fun k => ring_Closed.l0 k at_ l (l.length : Int) (i : Int)) c ∧ (c = true ↔ ∃ b, Rg.chain fr_ to_ (l.drop i) at_ b)
  | 0, i, at_, hi => ⟨true, Evt.now1 fun k => by
      simp only [ring_Closed.l0]
      rw [if_neg (by omega)], by rw [List.drop_eq_nil_of_le (by omega)]; simp [Rg.chain]⟩
  | d + 1, i, at_, hi => by
    obtain ⟨c, hc, hc2⟩ := closedP_l0 l hn d (i + 1) (sn l i).f1 (by omega)
    rw [sn_drop (by omega)]
    by_cases q : (sn l i).f0 = at_
    · refine ⟨c, Evt.step (fun k => ?_) hc, ?_⟩
      · simp only [ring_Closed.l0]
        rw [if_pos (by omega), if_pos (by omega), if_pos (by omega), rd_sn, if_pos q, wrap_succ (n := l.length) (by omega) hn]
      · rw [hc2]
        simp only [Rg.chain]
        constructor
        · rintro ⟨b, hb⟩; exact ⟨b, q, hb⟩
        · rintro ⟨b, _, hb⟩; exact ⟨b, hb⟩
    · refine ⟨false, Evt.now1 fun k => ?_, ?_⟩
      · simp only [ring_Closed.l0]
        rw [if_pos (by omega), if_pos (by omega), if_pos (by omega), rd_sn, if_neg q]
      · simp only [Rg.chain]
        constructor
        · intro h; cases h
        · rintro ⟨b, h, _⟩; exact absurd h q
theorem getLast_sn {l : Stl} (h : l ≠ []) : l.getLast h = sn l (l.length - 1) := by
  have : 0 < l.length := List.length_pos_iff.2 h
  rw [List.getLast_eq_getElem, sn_get (by omega)]
theorem closedP_evt (l : Stl) (hn : l.length ≤ 140737488351232) : ∃ c, Evt (fun k => ring_Closed.f k l) c ∧ (c = true ↔ Rg.closed fr_ to_ l) := by
  by_cases h : l = []
  · subst h
    refine ⟨false, Evt.now fun k => ?_, ?_⟩
    · unfold ring_Closed.f; rw [if_pos (by simp)]
    · simp [Rg.closed]
  · have hp : 0 < l.length := List.length_pos_iff.2 h
    obtain ⟨c, hc, hc2⟩ := closedP_l0 l hn l.length 0 (sn l (l.length - 1)).f1 (by omega)
    have hw : wrap64 ((l.length : Int) - 1) = ((l.length - 1 : Nat) : Int) := by unfold wrap64; omega
    refine ⟨c, Evt.congr (fun k => ?_) hc, ?_⟩
    · unfold ring_Closed.f
      rw [if_neg (by omega), hw, if_pos (by omega), if_pos (by omega), rd_sn]; rfl
    · rw [hc2, List.drop_zero]
      constructor
      · rintro ⟨b, hb⟩
        have e := Rg.chain_last fr_ to_ l _ b h hb
        rw [getLast_sn h] at e
        exact ⟨_, h, by rw [← e] at hb; exact hb⟩
      · rintro ⟨a, _, ha⟩
        have e := Rg.chain_last fr_ to_ l a a h ha
        rw [getLast_sn h] at e
        exact ⟨a, by rw [show (sn l (l.length - 1)).f1 = a from e]; exact ha⟩
/-- Steps one behind the other. -/
theorem chain_links : ∀ (l : Stl) (i d : Nat), i + d + 1 = l.length → ((∃ b, Rg.chain fr_ to_ (l.drop i) (sn l i).f0 b) ↔ ∀ j, i ≤ j → j + 1 < l.length → (sn l j).f1 = (sn l (j + 1)).f0)
  | l, i, 0, h => by
    rw [sn_drop (by omega), List.drop_eq_nil_of_le (by omega)]
    constructor
    · intro _ j h1 h2; omega
    · intro _; exact ⟨(sn l i).f1, rfl, rfl⟩
  | l, i, d + 1, h => by
    have ih := chain_links l (i + 1) d (by omega)
    have hst := sn_drop (l := l) (i := i) (by omega)
    have hst2 := sn_drop (l := l) (i := i + 1) (by omega)
    constructor
    · rintro ⟨b, hb⟩ j h1 h2
      rw [hst] at hb
      have hb2 := hb.2
      have e : (sn l i).f1 = (sn l (i + 1)).f0 := by
        rw [hst2] at hb2
        exact hb2.1.symm
      by_cases hj : j = i
      · rw [hj]; exact e
      · exact ih.1 ⟨b, by rw [← e]; exact hb2⟩ j (by omega) h2
    · intro hl
      obtain ⟨b, hb⟩ := ih.2 fun j h1 h2 => hl j (by omega) h2
      refine ⟨b, ?_⟩
      rw [hst]
      refine ⟨rfl, ?_⟩
      have e : to_ (sn l i) = (sn l (i + 1)).f0 := hl i (Nat.le_refl _) (by omega)
      rw [e]
      exact hb
theorem closed_links {l : Stl} (h : l ≠ []) : Rg.closed fr_ to_ l ↔ ∀ j, j < l.length → (sn l j).f1 = (sn l (if j + 1 = l.length then 0 else j + 1)).f0 := by
  have hp : 0 < l.length := List.length_pos_iff.2 h
  have hc := chain_links l 0 (l.length - 1) (by omega)
  rw [List.drop_zero] at hc
  have hst := sn_drop (l := l) (i := 0) hp
  rw [List.drop_zero] at hst
  constructor
  · rintro ⟨a, _, ha⟩ j hj
    have ea : (sn l 0).f0 = a := by
      have ha' := ha
      rw [hst] at ha'
      exact ha'.1
    by_cases e : j + 1 = l.length
    · rw [if_pos e, ea]
      have := Rg.chain_last fr_ to_ l a a h ha
      rw [getLast_sn h] at this
      rw [show j = l.length - 1 by omega]
      exact this
    · rw [if_neg e]
      exact hc.1 ⟨a, by rw [ea]; exact ha⟩ j (by omega) (by omega)
  · intro hl
    obtain ⟨b, hb⟩ := hc.2 fun j _ h2 => by
      have := hl j (by omega)
      rwa [if_neg (by omega)] at this
    have e := Rg.chain_last fr_ to_ l _ b h hb
    rw [getLast_sn h] at e
    have h2 := hl (l.length - 1) (by omega)
    rw [if_pos (by omega)] at h2
    exact ⟨(sn l 0).f0, h, by rw [show b = (sn l 0).f0 by rw [← e]; exact h2] at hb; exact hb⟩
theorem closedR_l0 (l : Stl) (hn : l.length ≤ 140737488351232) : ∀ (d i : Nat), i + d = l.length → ∃ c, Evt (fun k => cartoucheref11_Closed.l0 k l (i : Int)) c ∧ (c = true ↔ 0 < l.length ∧ ∀ j, i ≤ j → j < l.length → (sn l j).f1 = (sn l (if j + 1 = l.length then 0 else j + 1)).f0)
  | 0, i, hi => ⟨decide ((l.length : Int) > 0), Evt.now1 fun k => by
      simp only [cartoucheref11_Closed.l0]
      rw [if_neg (by omega)], by
      rw [decide_eq_true_eq]
      exact ⟨fun h => ⟨by omega, fun j h1 h2 => by omega⟩, fun h => by have := h.1; omega⟩⟩
  | d + 1, i, hi => by
    obtain ⟨c, hc, hc2⟩ := closedR_l0 l hn d (i + 1) (by omega)
    obtain ⟨nx, hnx⟩ : ∃ nx : Nat, (if i + 1 = l.length then 0 else i + 1) = nx := ⟨_, rfl⟩
    have hnl : nx < l.length := by rw [← hnx]; split <;> omega
    have hj : ∀ r, Evt (fun k => cartoucheref11_Closed.j1 k l (i : Int) (nx : Int)) r → Evt (fun k => cartoucheref11_Closed.l0 k l (i : Int)) r := fun r hr => by
      refine Evt.step (fun k => ?_) hr
      simp only [cartoucheref11_Closed.l0]
      rw [if_pos (by omega), wrap_succ (n := l.length) (by omega) hn]
      by_cases e : i + 1 = l.length
      · rw [if_pos (by omega)]
        rw [if_pos e] at hnx
        rw [← hnx]; rfl
      · rw [if_neg (by omega)]
        rw [if_neg e] at hnx
        rw [← hnx]
    by_cases q : (sn l i).f1 = (sn l nx).f0
    · refine ⟨c, hj _ (Evt.step (fun k => ?_) hc), ?_⟩
      · simp only [cartoucheref11_Closed.j1]
        rw [if_pos (by omega), if_pos (by omega), if_pos (by omega), if_pos (by omega), rd_sn, rd_sn, if_pos q, wrap_succ (n := l.length) (by omega) hn]
      · rw [hc2]
        refine and_congr_right fun _ => ⟨fun h j h1 h2 => ?_, fun h j h1 h2 => h j (by omega) h2⟩
        by_cases e : j = i
        · subst e; rw [hnx]; exact q
        · exact h j (by omega) h2
    · refine ⟨false, hj _ (Evt.now1 fun k => ?_), ?_⟩
      · simp only [cartoucheref11_Closed.j1]
        rw [if_pos (by omega), if_pos (by omega), if_pos (by omega), if_pos (by omega), rd_sn, rd_sn, if_neg q]
      · refine ⟨fun h => (by cases h), fun ⟨_, h⟩ => ?_⟩
        have := h i (Nat.le_refl _) (by omega)
        rw [hnx] at this
        exact absurd this q
theorem closedR_evt (l : Stl) (hn : l.length ≤ 140737488351232) : ∃ c, Evt (fun k => cartoucheref11_Closed.f k l) c ∧ (c = true ↔ Rg.closed fr_ to_ l) := by
  obtain ⟨c, hc, hc2⟩ := closedR_l0 l hn l.length 0 (by omega)
  refine ⟨c, hc, ?_⟩
  rw [hc2]
  by_cases h : l = []
  · subst h; simp [Rg.closed]
  · rw [closed_links h]
    have hp : 0 < l.length := List.length_pos_iff.2 h
    exact ⟨fun ⟨_, h⟩ j hj => h j (by omega) hj, fun h => ⟨hp, fun j _ hj => h j hj⟩⟩
end Go.Proofs.YthjgmccpbcelgaaPr
