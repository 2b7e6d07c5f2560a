/-
  What taint.All and taint.First compute.
-/
import Derived.Test.YtebjiimlcnmfpaaGreatPrTaintFirst
import Derived.Test.YtebjiimlcnmfpaaGreatPrTaintAll
import Derived.Test.YtebjiimlcnmfpaaGreatS10
import Derived.Test.YtebjiimlcnmfpaaGreatS09
set_option linter.unusedVariables false
set_option linter.unusedSimpArgs false
namespace Go.Proofs.YtebjiimlcnmfpaaGreatPr
open Go.Proofs.YtebjiimlcnmfpaaGreat
open Go Go.RowKit

/-! ### taint.All, taint.First -/
theorem bad_some (xs : List S50) (i : Nat) : ((!((badAt (evs xs) i).kind == 0) || (!((badAt (evs xs) i).i == 0) || !((badAt (evs xs) i).j == 0))) = true) ↔ ¬ (badAt (evs xs) i).kind = 0 := by
  constructor
  · intro h hk
    rw [(bad_zero (evs xs) i).1 hk] at h
    exact absurd h (by decide)
  · intro h
    simp [h]
theorem tall_l0 (xs : List S50) (hn : xs.length ≤ 2932031007403) : ∀ (d i : Nat) (acc : List S40), i + d = xs.length → acc.length ≤ i →
    Evt (fun k => taint_All.l0 k xs acc (xs.length : Int) (i : Int)) (acc ++ (List.range' i d).flatMap (badOne xs))
  | 0, i, acc, hi, ha => Evt.now1 fun k => by
    simp only [taint_All.l0]
    rw [if_neg (by omega)]
    simp
  | d + 1, i, acc, hi, ha => by
    have hl := badOne_len xs i
    have ih := tall_l0 xs hn d (i + 1) (acc ++ badOne xs i) (by omega) (by rw [List.length_append]; omega)
    have hr : List.range' i (d + 1) = i :: List.range' (i + 1) d := rfl
    rw [hr, List.flatMap_cons, ← List.append_assoc]
    refine Evt.step (fun k => ?_) ih
    simp only [taint_All.l0]
    have e : taint_At.f xs (i : Int) = some ((badAt (evs xs) i).kind, (badAt (evs xs) i).i, (badAt (evs xs) i).j) := by
      unfold taint_At.f
      rw [if_pos (by omega)]
    rw [if_pos (by omega), e]
    simp only [Option.bind_some]
    unfold badOne
    by_cases q : (badAt (evs xs) i).kind = 0
    · rw [if_neg (fun h => (bad_some xs i).1 h q), if_pos q, wrap_succ (n := xs.length) (by omega) (by omega), List.append_nil]
    · rw [if_pos ((bad_some xs i).2 q), if_neg q, if_pos (by omega), wrap_succ (n := xs.length) (by omega) (by omega)]
theorem tall_evt (xs : List S50) (hn : xs.length ≤ 2932031007403) : Evt (fun k => taint_All.f k xs) (badsS xs) := by
  have := tall_l0 xs hn xs.length 0 [] (by omega) (by simp)
  rw [List.nil_append] at this
  exact this
def headBad (l : List S40) : Int × Int × Int × Bool := match l with
  | [] => (0, 0, 0, false)
  | b :: _ => (b.f0, b.f1, b.f2, true)
theorem tfirst_evt (xs : List S50) (hn : xs.length ≤ 2932031007403) : Evt (fun k => taint_First.f k xs) (headBad (badsS xs)) := by
  refine Evt.bind' (fun k => rfl) (tall_evt xs hn) (Evt.now fun k => ?_)
  cases h : badsS xs with
  | nil => simp [headBad]
  | cons b r =>
    rw [if_neg (by simp <;> omega), if_pos (by simp <;> omega)]
    rfl

end Go.Proofs.YtebjiimlcnmfpaaGreatPr
