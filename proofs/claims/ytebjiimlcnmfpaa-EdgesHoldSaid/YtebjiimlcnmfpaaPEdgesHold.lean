/-
  The plain law of EdgesHold: in a well formed history in which nothing is tainted each edge holds.
-/
import Derived.Test.YtebjiimlcnmfpaaPr10
import Derived.Test.YtebjiimlcnmfpaaS10
import Derived.Test.YtebjiimlcnmfpaaS09
import Derived.Test.YtebjiimlcnmfpaaA15
set_option linter.unusedVariables false
set_option linter.unusedSimpArgs false
namespace Go.Proofs.YtebjiimlcnmfpaaPr
open Go.Proofs.Ytebjiimlcnmfpaa
open Go Go.RowKit

theorem hold_l0 (xs : List S46) (hn : xs.length ≤ 300) (es : List S38) (he : es.length ≤ 900000) (hg : ∀ x ∈ es, ∃ e, x = ofEdge e ∧ holdsP (evs xs) e) : ∀ (d i : Nat), i + d = es.length → Evt (fun k => cartouchelaw10_EdgesHold.l0 k xs true es (i : Int)) true
  | 0, i, hi => Evt.now1 fun k => by
    simp only [cartouchelaw10_EdgesHold.l0]
    rw [if_neg (by omega)]
  | d + 1, i, hi => by
    refine Evt.step (fun k => ?_) (hold_l0 xs hn es he hg d (i + 1) (by omega))
    obtain ⟨e, hx, hh⟩ := hg _ (rd_mem (i := i) (by omega))
    simp only [cartouchelaw10_EdgesHold.l0]
    have hf : edges_Holds.f xs (ofEdge e).f0 (ofEdge e).f1 (ofEdge e).f2 (ofEdge e).f3 (ofEdge e).f4 = some true := by
      unfold edges_Holds.f
      rw [if_pos (by omega)]
      exact congrArg some (decide_eq_true hh)
    rw [hx, hf, if_pos (by omega), if_pos (by omega)]
    simp only [Option.bind_some]
    rw [if_pos (by trivial), wrap_succ (n := es.length) (by omega) (by omega)]

theorem p_EdgesHold (l : List S46) (hS : ∀ y ∈ l, EvS y) (hl : l.length * 48 ≤ 140737488351232) : ∃ k, cartouchelaw10_EdgesHold.f k l = some true := by
  apply Evt.rounds
  obtain ⟨b, hb, hb2⟩ := few_evt l (by omega)
  have out : ∀ c, c = true → Evt (fun k => cartouchelaw10_EdgesHold.j0 k l true c) true := fun c hc => Evt.now1 fun k => by
    simp only [cartouchelaw10_EdgesHold.j0]
    rw [if_pos hc]
  have hF : cartoucheref08_Formed.f l = some ((formed (evs l)).1, (formed (evs l)).2) := by
    unfold cartoucheref08_Formed.f
    rw [if_pos (by omega)]
  refine Evt.bind' (fun k => rfl) shown10 ?_
  refine Evt.bind' (fun k => rfl) hb ?_
  refine Evt.bind' (fun k => rfl) (Evt.now fun _ => hF) ?_
  refine Evt.bind' (fun k => rfl) (bads_evt l (by omega)) ?_
  cases b
  · refine Evt.congr (fun k => ?_) (out true rfl)
    simp
  · have hn := hb2 rfl
    by_cases q : (formed (evs l)).2 = 0
    · have hw := formed_wf q
      by_cases z : ((badsS l).length : Int) > 0
      · refine Evt.congr (fun k => ?_) (out true rfl)
        rw [if_pos (by trivial), if_pos q, decide_eq_true z]
      · have hin : Evt (fun k => (edges_All.f k l).bind fun t170 => cartouchelaw10_EdgesHold.l0 k l true t170 0) true :=
          Evt.bind' (fun k => rfl) (all_evt l (by omega) hS) (hold_l0 l (by omega) _ (allE_len l (by omega)) (fun x hx => by obtain ⟨e, key, h1, h2⟩ := allE_good hx; exact ⟨e, h1, of_holds hw h2⟩) (allE l).length 0 (by omega))
        refine Evt.congr (f := fun k => cartouchelaw10_EdgesHold.j0 k l true false) (fun k => ?_) (Evt.step (fun k => ?_) hin)
        · rw [if_pos (by trivial), if_pos q, decide_eq_false z]
        · simp only [cartouchelaw10_EdgesHold.j0]
          rw [if_neg (by simp)]
    · refine Evt.congr (fun k => ?_) (out true rfl)
      rw [if_pos (by trivial), if_neg q]
end Go.Proofs.YtebjiimlcnmfpaaPr
