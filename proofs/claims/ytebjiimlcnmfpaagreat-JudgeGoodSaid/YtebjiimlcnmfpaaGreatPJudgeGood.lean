/-
  The plain law of JudgeGood: a well formed history is accepted just if it is good.
-/
import Derived.Test.YtebjiimlcnmfpaaGreatPrCartouchelaw12JudgeGood
import Derived.Test.YtebjiimlcnmfpaaGreatB29
import Derived.Test.YtebjiimlcnmfpaaGreatB23
set_option linter.unusedVariables false
set_option linter.unusedSimpArgs false
namespace Go.Proofs.YtebjiimlcnmfpaaGreatPr
open Go.Proofs.YtebjiimlcnmfpaaGreat
open Go Go.RowKit

theorem jS_good {xs : List S50} {lev : Int} (hf : (formed (evs xs)).2 = 0) (h1 : 1 ≤ lev) (h2 : lev ≤ 2) : (jS xs lev).1 = lev ∧ (jS xs lev).2.1 = goodB xs lev ∧ (jS xs lev).2.2.2.2.2.2.2 = 0 := by
  unfold jS goodB
  rw [if_neg (by omega), if_pos hf]
  unfold jokS
  cases badsS xs with
  | cons b r => exact ⟨rfl, rfl, rfl⟩
  | nil => cases Rg.order fr_ to_ (stepsH lev xs) (nodesS (evs xs)) <;> exact ⟨rfl, rfl, rfl⟩
theorem p_JudgeGood (l : List S50) (lev : Int) (hS : ∀ y ∈ l, EvS y) (hl : l.length * 48 ≤ 140737488351232) (hlev : (Lit.int .i64 lev).wf = true) : ∃ k, cartouchelaw12_JudgeGood.f k l lev = some true := by
  apply Evt.rounds
  have hsh : cartouchelaw12_shown.f = some true := rfl
  have hfw : cartouchelaw12_few.f l = some (decide ((l.length : Int) ≤ 80)) := rfl
  have hF : cartoucheref08_Formed.f l = some (formed (evs l)) := by unfold cartoucheref08_Formed.f; rw [if_pos (by omega)]
  have j0t : Evt (fun k => cartouchelaw12_JudgeGood.j0 k l lev true true) true := Evt.now1 fun k => by
    simp only [cartouchelaw12_JudgeGood.j0]
    rw [if_pos (by trivial)]
  refine Evt.bind' (fun k => rfl) (Evt.now fun _ => hsh) ?_
  refine Evt.bind' (fun k => rfl) (Evt.now fun _ => hfw) ?_
  refine Evt.bind' (fun k => rfl) (Evt.now fun _ => hF) ?_
  by_cases h80 : (l.length : Int) ≤ 80
  case neg =>
    rw [decide_eq_false h80]
    exact Evt.congr (fun k => if_neg (by simp)) j0t
  rw [decide_eq_true h80]
  refine Evt.congr (fun k => if_pos rfl) ?_
  by_cases hf : (formed (evs l)).2 = 0
  case neg => exact Evt.congr (fun k => if_neg hf) j0t
  refine Evt.congr (fun k => if_pos hf) ?_
  by_cases h1 : lev < 1
  · exact Evt.congr (fun k => if_pos h1) j0t
  refine Evt.congr (fun k => if_neg h1) ?_
  by_cases h2 : lev > 2
  · rw [decide_eq_true h2]; exact j0t
  rw [decide_eq_false h2]
  obtain ⟨g1, g2, g3⟩ := jS_good hf (lev := lev) (by omega) (by omega)
  have hG : cartoucheref12_Good.f l lev = some (goodB l lev) := good_f hf hS
  refine Evt.now1 fun k => ?_
  simp only [cartouchelaw12_JudgeGood.j0]
  rw [if_neg (by simp), judge_f (by omega) hS]
  simp only [Option.bind_some]
  rw [if_pos trivial, if_pos g3, if_pos g1, hG, g2]
  simp
end Go.Proofs.YtebjiimlcnmfpaaGreatPr
