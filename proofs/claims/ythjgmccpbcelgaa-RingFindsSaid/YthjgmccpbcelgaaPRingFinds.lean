/-
  The plain law of RingFinds.
-/
import Derived.Test.YthjgmccpbcelgaaS11b
import Derived.Test.YthjgmccpbcelgaaPr27
set_option linter.unusedVariables false
set_option linter.unusedSimpArgs false
namespace Go.Proofs.YthjgmccpbcelgaaPr
open Go.Proofs.Ythjgmccpbcelgaa
open Go Go.RowKit

theorem p_RingFinds (l : Stl) (hS : ∀ y ∈ l, StepS y) (hn : l.length * 40 ≤ 140737488351232) : ∃ k, cartouchelaw11_RingFinds.f k l = some true := by
  by_cases h : (l.length : Int) > 40
  · refine ⟨0, ?_⟩
    unfold cartouchelaw11_RingFinds.f
    rw [shown11, Option.bind_some, if_pos h]
  · obtain ⟨c, hc, hc2⟩ := sameS_evt (Rg.ring fr_ to_ l).1 (Rg.ring fr_ to_ l).1 (by
        have hr := ring_evt l (by omega)
        cases hb : (Rg.ring fr_ to_ l).2 with
        | false => rw [(Rg.ring_false fr_ to_ hb).2]; simp
        | true =>
          obtain ⟨a, n, h1, hf, _, h2, _⟩ := Rg.ring_true fr_ to_ hb
          obtain ⟨g1, g2, _⟩ := Rg.ringGo_some fr_ to_ l _ _ _ _ _ hf
          have := Rg.sortD_len (l.map fr_)
          rw [List.length_map] at this
          unfold Rg.froms at g2
          omega) (fun y hy => (hS y (Rg.ring_mem fr_ to_ l y hy)).2.2)
    rw [hc2 rfl] at hc
    obtain ⟨d, hd, hd2⟩ := closedP_evt l (by omega)
    obtain ⟨e, he, he2⟩ := closedR_evt l (by omega)
    have hde : (d == e) = true := by
      have : d = e := by rw [Bool.eq_iff_iff, hd2, he2]
      rw [this]; simp
    refine Evt.rounds (g := fun k => cartouchelaw11_RingFinds.f k l) (Evt.congr (fun k => ?_) (Evt.bind (f := fun k (bt : Stl × Bool) => (cartoucheref10_SameSteps.f k (Rg.ring fr_ to_ l).1 bt.1).bind fun t => if t = true then (if ((Rg.ring fr_ to_ l).2 == bt.2) = true then ((ring_Closed.f k l).bind fun u => (cartoucheref11_Closed.f k l).bind fun v => some (u == v)) else some false) else some false) (ring_evt l (by omega))
      (Evt.bind (f := fun k (t : Bool) => if t = true then (if ((Rg.ring fr_ to_ l).2 == (Rg.ring fr_ to_ l).2) = true then ((ring_Closed.f k l).bind fun u => (cartoucheref11_Closed.f k l).bind fun v => some (u == v)) else some false) else some false) hc
      (Evt.congr (fun k => ?_) (Evt.bind (f := fun k (u : Bool) => (cartoucheref11_Closed.f k l).bind fun v => some (u == v)) hd (Evt.bind (f := fun k (v : Bool) => some (d == v)) he (Evt.now fun k => by rw [hde])))))))
    · unfold cartouchelaw11_RingFinds.f
      rw [shown11, Option.bind_some, if_neg h, ring_f hn hS, Option.bind_some]
      simp only [if_true]
    · rw [if_pos rfl, if_pos (by simp)]
end Go.Proofs.YthjgmccpbcelgaaPr
