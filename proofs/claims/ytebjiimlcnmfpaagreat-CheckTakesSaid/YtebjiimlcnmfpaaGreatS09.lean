/-
  What is wrong in a history, all of it: as the reference has it; taint.All, taint.First.
-/
import Derived.Test.YtebjiimlcnmfpaaGreatPrCartoucheref09All
import Derived.Test.YtebjiimlcnmfpaaGreatB1
import Derived.Test.YtebjiimlcnmfpaaGreatPrTaintFirst
import Derived.Test.YtebjiimlcnmfpaaGreatPrTaintAll
import Derived.Test.YtebjiimlcnmfpaaGreatS10
/-! What chapter 9's reference computes of a whole history: all that are wrong, in order. -/
set_option linter.unusedVariables false
set_option linter.unusedSimpArgs false
namespace Go.Proofs.YtebjiimlcnmfpaaGreatPr
section
open Go.Proofs.YtebjiimlcnmfpaaGreat
open Go Go.RowKit

def badOne (xs : List S50) (i : Nat) : List S40 := if (badAt (evs xs) i).kind = 0 then [] else [⟨(badAt (evs xs) i).kind, (badAt (evs xs) i).i, (badAt (evs xs) i).j⟩]
def badsS (xs : List S50) : List S40 := (List.range' 0 xs.length).flatMap (badOne xs)
theorem badOne_len (xs : List S50) (i : Nat) : (badOne xs i).length ≤ 1 := by unfold badOne; split <;> simp
theorem bads_l0 (xs : List S50) (hn : xs.length ≤ 2932031007403) : ∀ (d i : Nat) (acc : List S40), i + d = xs.length → acc.length ≤ i →
    Evt (fun k => cartoucheref09_All.l0 k xs acc (i : Int)) (acc ++ (List.range' i d).flatMap (badOne xs))
  | 0, i, acc, hi, ha => Evt.now1 fun k => by
    simp only [cartoucheref09_All.l0]
    rw [if_neg (by omega)]
    simp
  | d + 1, i, acc, hi, ha => by
    have hl := badOne_len xs i
    have ih := bads_l0 xs hn d (i + 1) (acc ++ badOne xs i) (by omega) (by rw [List.length_append]; omega)
    have hr : List.range' i (d + 1) = i :: List.range' (i + 1) d := rfl
    rw [hr, List.flatMap_cons, ← List.append_assoc]
    refine Evt.step (fun k => ?_) ih
    simp only [cartoucheref09_All.l0]
    have e : cartoucheref09_At.f xs (i : Int) = some ((badAt (evs xs) i).kind, (badAt (evs xs) i).i, (badAt (evs xs) i).j) := by
      unfold cartoucheref09_At.f
      rw [if_pos (by omega)]
    rw [if_pos (by omega), e]
    simp only [Option.bind_some]
    unfold badOne
    by_cases q : (badAt (evs xs) i).kind = 0
    · rw [if_pos q, if_pos q, wrap_succ (n := xs.length) (by omega) (by omega), List.append_nil]
    · rw [if_neg q, if_neg q, if_pos (by omega), wrap_succ (n := xs.length) (by omega) (by omega)]
theorem bads_evt (xs : List S50) (hn : xs.length ≤ 2932031007403) : Evt (fun k => cartoucheref09_All.f k xs) (badsS xs) := by
  have := bads_l0 xs hn xs.length 0 [] (by omega) (by simp)
  rw [List.nil_append] at this
  exact this
end
end Go.Proofs.YtebjiimlcnmfpaaGreatPr

/-! What taint.All and taint.First compute. -/
namespace Go.Proofs.YtebjiimlcnmfpaaGreatPr
section
open Go.Proofs.YtebjiimlcnmfpaaGreat
open Go Go.RowKit

/-! ### taint.All, taint.First -/
theorem bad_some (xs : List S50) (i : Nat) : ((!((badAt (evs xs) i).kind == 0) || (!((badAt (evs xs) i).i == 0) || !((badAt (evs xs) i).j == 0))) = true) ↔ ¬ (badAt (evs xs) i).kind = 0 := by
  constructor
  · intro h hk
    rw [(bad_zero (evs xs) i).1 hk] at h
    exact absurd h (by decide)
  · intro h
    simp [h]
theorem tall_l0 (xs : List S50) (hn : xs.length ≤ 2932031007403) : ∀ (d i : Nat) (acc : List S40), i + d = xs.length → acc.length ≤ i →
    Evt (fun k => taint_All.l0 k xs acc (xs.length : Int) (i : Int)) (acc ++ (List.range' i d).flatMap (badOne xs))
  | 0, i, acc, hi, ha => Evt.now1 fun k => by
    simp only [taint_All.l0]
    rw [if_neg (by omega)]
    simp
  | d + 1, i, acc, hi, ha => by
    have hl := badOne_len xs i
    have ih := tall_l0 xs hn d (i + 1) (acc ++ badOne xs i) (by omega) (by rw [List.length_append]; omega)
    have hr : List.range' i (d + 1) = i :: List.range' (i + 1) d := rfl
    rw [hr, List.flatMap_cons, ← List.append_assoc]
    refine Evt.step (fun k => ?_) ih
    simp only [taint_All.l0]
    have e : taint_At.f xs (i : Int) = some ((badAt (evs xs) i).kind, (badAt (evs xs) i).i, (badAt (evs xs) i).j) := by
      unfold taint_At.f
      rw [if_pos (by omega)]
    rw [if_pos (by omega), e]
    simp only [Option.bind_some]
    unfold badOne
    by_cases q : (badAt (evs xs) i).kind = 0
    · rw [if_neg (fun h => (bad_some xs i).1 h q), if_pos q, wrap_succ (n := xs.length) (by omega) (by omega), List.append_nil]
    · rw [if_pos ((bad_some xs i).2 q), if_neg q, if_pos (by omega), wrap_succ (n := xs.length) (by omega) (by omega)]
theorem tall_evt (xs : List S50) (hn : xs.length ≤ 2932031007403) : Evt (fun k => taint_All.f k xs) (badsS xs) := by
  have := tall_l0 xs hn xs.length 0 [] (by omega) (by simp)
  rw [List.nil_append] at this
  exact this
end
end Go.Proofs.YtebjiimlcnmfpaaGreatPr
