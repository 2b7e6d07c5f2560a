/-
  The document's Lives, in plain words.
-/
import Derived.Test.YtebjiimlcnmfpaaGreatPrCartoucheref08Lives
import Derived.Test.YtebjiimlcnmfpaaGreatB1
set_option linter.unusedVariables false
set_option linter.unusedSimpArgs false
namespace Go.Proofs.YtebjiimlcnmfpaaGreatPr
open Go.Proofs.YtebjiimlcnmfpaaGreat
open Go Go.RowKit

theorem rlv_l0 (xs : List S50) (hn : xs.length ≤ 300) : ∀ (d i : Nat) (pre : List Life), i + d = xs.length → pre.length ≤ i → pre ++ livesFrom (evs xs) d i = lives (evs xs) → Evt (fun k => cartoucheref08_Lives.l0 k xs (pre.map ofLife) (i : Int)) ((lives (evs xs)).map ofLife)
  | 0, i, pre, hi, hp, h => Evt.now1 fun k => by
    simp only [cartoucheref08_Lives.l0]
    rw [if_neg (by omega), ← h]
    simp [livesFrom]
  | d + 1, i, pre, hi, hp, h => by
    have hlen := evs_len xs
    have hf : cartoucheref08_first.f xs (nth (evs xs) i).txn (i : Int) = some (firstOf ((evs xs).take i) (nth (evs xs) i).txn) := by
      unfold cartoucheref08_first.f
      rw [if_pos ⟨by omega, by omega, by omega⟩, Int.toNat_natCast]
    have hs : livesFrom (evs xs) (d + 1) i = if firstOf ((evs xs).take i) (nth (evs xs) i).txn < 0 then lifeOf (evs xs) i :: livesFrom (evs xs) d (i + 1) else livesFrom (evs xs) d (i + 1) := rfl
    rw [hs] at h
    by_cases q : firstOf ((evs xs).take i) (nth (evs xs) i).txn < 0
    · rw [if_pos q] at h
      have ih := rlv_l0 xs hn d (i + 1) (pre ++ [lifeOf (evs xs) i]) (by omega) (by simp; omega) (by rw [← h]; simp)
      have hfi := lifeOf_find (evs xs) _ (lives_first (by omega) q)
      refine Evt.step (fun k => ?_) ih
      simp only [cartoucheref08_Lives.l0]
      unfold cartoucheref08_Find.f
      rw [if_pos (by omega), if_pos (by omega), rd_f1]
      simp only [Int.toNat_natCast]
      rw [hf]
      simp only [Option.bind_some]
      rw [if_pos q, if_pos (by omega), hfi]
      simp only [Option.bind_some]
      rw [if_pos (by simp; omega), wrap_succ (n := xs.length) (by omega) (by omega), List.map_append]
      rfl
    · rw [if_neg q] at h
      refine Evt.step (fun k => ?_) (rlv_l0 xs hn d (i + 1) pre (by omega) (by omega) h)
      simp only [cartoucheref08_Lives.l0]
      rw [if_pos (by omega), if_pos (by omega), rd_f1]
      simp only [Int.toNat_natCast]
      rw [hf]
      simp only [Option.bind_some]
      rw [if_neg q, wrap_succ (n := xs.length) (by omega) (by omega)]
theorem rlv (xs : List S50) (hn : xs.length ≤ 300) : Evt (fun k => cartoucheref08_Lives.f k xs) ((lives (evs xs)).map ofLife) := by
  refine Evt.congr (fun k => ?_) (rlv_l0 xs hn xs.length 0 [] (by omega) (by simp) (by rw [← evs_len xs]; rfl))
  unfold cartoucheref08_Lives.f
  rfl
end Go.Proofs.YtebjiimlcnmfpaaGreatPr
