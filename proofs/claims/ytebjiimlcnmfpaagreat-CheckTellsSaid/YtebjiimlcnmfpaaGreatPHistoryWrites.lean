/-
  The plain law of HistoryWrites: who wrote a value, what was written last, and a key's versions, the program and the document tell alike.
-/

import Derived.Test.YtebjiimlcnmfpaaGreatPrCartoucheref08Ints
import Derived.Test.YtebjiimlcnmfpaaGreatPrCartoucheref08Versions
import Derived.Test.YtebjiimlcnmfpaaGreatB1

/-! What all plain laws of chapter 8 lean on: the document's examples. -/
set_option linter.unusedVariables false
set_option linter.unusedSimpArgs false
namespace Go.Proofs.YtebjiimlcnmfpaaGreatPr
section
open Go.Proofs.YtebjiimlcnmfpaaGreat
open Go Go.RowKit

end
end Go.Proofs.YtebjiimlcnmfpaaGreatPr

/-! The plain law of HistoryWrites: who wrote a value, what was written last, and a key's versions, the program and the document tell alike. -/
namespace Go.Proofs.YtebjiimlcnmfpaaGreatPr
section
open Go Go.RowKit Go.Proofs.YtebjiimlcnmfpaaGreat

theorem rver_l0 (xs : List S50) (hn : xs.length ≤ 300) (key : ByteArray) : ∀ (d i : Nat) (acc : List Int), i + d = xs.length → acc = (List.range i).filterMap (verAt (evs xs) key) → Evt (fun k => cartoucheref08_Versions.l0 k xs key acc (i : Int)) (versions (evs xs) key)
  | 0, i, acc, hi, ha => Evt.now1 fun k => by
    simp only [cartoucheref08_Versions.l0]
    rw [if_neg (by omega), ha]
    unfold versions
    rw [evs_len, show i = xs.length by omega]
  | d + 1, i, acc, hi, ha => by
    have hlen := evs_len xs
    have hacc : acc.length ≤ i := by
      have := List.length_filterMap_le (verAt (evs xs) key) (List.range i)
      rw [List.length_range, ← ha] at this
      exact this
    have ih := rver_l0 xs hn key d (i + 1)
    have hst : (List.range (i + 1)).filterMap (verAt (evs xs) key) = acc ++ (verAt (evs xs) key i).toList := by
      rw [List.range_succ, List.filterMap_append, ha]
      cases h : verAt (evs xs) key i <;> simp [h]
    have skip : verAt (evs xs) key i = none → Evt (fun k => cartoucheref08_Versions.l0 k xs key acc ((i + 1 : Nat) : Int)) (versions (evs xs) key) := fun h => ih acc (by omega) (by rw [hst, h]; simp)
    have j1t : verAt (evs xs) key i = none → Evt (fun k => cartoucheref08_Versions.j1 k xs key acc (i : Int) true) (versions (evs xs) key) := fun h => by
      refine Evt.step (fun k => ?_) (skip h)
      simp only [cartoucheref08_Versions.j1]
      rw [if_pos (by trivial), wrap_succ (n := xs.length) (by omega) (by omega)]
    have hend : cartoucheref08_End.f xs (nth (evs xs) i).txn (xs.length : Int) = some (endOf (evs xs) (nth (evs xs) i).txn) := by
      unfold cartoucheref08_End.f
      rw [if_pos ⟨by omega, by omega, by omega⟩, Int.toNat_natCast, List.take_of_length_le (by omega)]
    by_cases q1 : (nth (evs xs) i).kind = 4
    · by_cases q2 : endOf (evs xs) (nth (evs xs) i).txn = i
      · have j1f : Evt (fun k => cartoucheref08_Versions.j1 k xs key acc (i : Int) false) (versions (evs xs) key) := by
          by_cases q3 : 0 ≤ lastOf (evs xs) (nth (evs xs) i).txn key i
          · have hv : verAt (evs xs) key i = some (lastOf (evs xs) (nth (evs xs) i).txn key i) := by unfold verAt; rw [if_pos ⟨q1, q2, q3⟩]
            refine Evt.step (fun k => ?_) (ih (acc ++ [lastOf (evs xs) (nth (evs xs) i).txn key i]) (by omega) (by rw [hst, hv]; rfl))
            simp only [cartoucheref08_Versions.j1]
            unfold cartoucheref08_Last.f
            rw [if_neg (by simp), if_pos (by omega), if_pos (by omega), if_pos (by omega), rd_f1]
            simp only [Option.bind_some, Int.toNat_natCast]
            rw [if_pos q3, if_pos (by omega), wrap_succ (n := xs.length) (by omega) (by omega)]
          · have hv : verAt (evs xs) key i = none := by unfold verAt; rw [if_neg (fun h => q3 h.2.2)]
            refine Evt.step (fun k => ?_) (skip hv)
            simp only [cartoucheref08_Versions.j1]
            unfold cartoucheref08_Last.f
            rw [if_neg (by simp), if_pos (by omega), if_pos (by omega), if_pos (by omega), rd_f1]
            simp only [Option.bind_some, Int.toNat_natCast]
            rw [if_neg (by omega), wrap_succ (n := xs.length) (by omega) (by omega)]
        refine Evt.step (fun k => ?_) j1f
        simp only [cartoucheref08_Versions.l0]
        rw [if_pos (by omega), if_pos (by omega), rd_f0, rd_f1]
        simp only [Int.toNat_natCast]
        rw [if_pos q1, hend]
        simp only [Option.bind_some]
        rw [q2]
        simp
      · have hv : verAt (evs xs) key i = none := by unfold verAt; rw [if_neg (fun h => q2 h.2.1)]
        refine Evt.step (fun k => ?_) (j1t hv)
        simp only [cartoucheref08_Versions.l0]
        rw [if_pos (by omega), if_pos (by omega), rd_f0, rd_f1]
        simp only [Int.toNat_natCast]
        rw [if_pos q1, hend]
        simp only [Option.bind_some]
        rw [show (endOf (evs xs) (nth (evs xs) i).txn != (i : Int)) = true by simpa using q2]
    · have hv : verAt (evs xs) key i = none := by unfold verAt; rw [if_neg (fun h => q1 h.1)]
      refine Evt.step (fun k => ?_) (j1t hv)
      simp only [cartoucheref08_Versions.l0]
      rw [if_pos (by omega), if_pos (by omega), rd_f0]
      simp only [Int.toNat_natCast]
      rw [if_neg q1]
theorem rver (xs : List S50) (hn : xs.length ≤ 300) (key : ByteArray) : Evt (fun k => cartoucheref08_Versions.f k xs key) (versions (evs xs) key) := by
  refine Evt.congr (fun k => ?_) (rver_l0 xs hn key xs.length 0 [] (by omega) (by simp))
  unfold cartoucheref08_Versions.f
  rfl
end
end Go.Proofs.YtebjiimlcnmfpaaGreatPr
