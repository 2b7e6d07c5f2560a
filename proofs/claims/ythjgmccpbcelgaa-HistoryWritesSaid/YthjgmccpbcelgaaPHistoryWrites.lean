/-
  The plain law of HistoryWrites: who wrote a value, what was written last, and a key's versions, the program and the document tell alike.
-/
import Derived.Test.YthjgmccpbcelgaaPr43
import Derived.Test.YthjgmccpbcelgaaS08
import Derived.Test.YthjgmccpbcelgaaC1
set_option linter.unusedVariables false
set_option linter.unusedSimpArgs false
namespace Go.Proofs.YthjgmccpbcelgaaPr
open Go Go.RowKit Go.Proofs.Ythjgmccpbcelgaa

theorem ints_l0 (xs : List Int) (hn : xs.length ≤ 140737488351232) : ∀ (d i : Nat), i + d = xs.length → Evt (fun k => cartoucheref08_Ints.l0 k xs xs (i : Int)) true
  | 0, i, hi => Evt.now1 fun k => by
    simp only [cartoucheref08_Ints.l0]
    rw [if_neg (by omega)]
  | d + 1, i, hi => by
    refine Evt.step (fun k => ?_) (ints_l0 xs hn d (i + 1) (by omega))
    simp only [cartoucheref08_Ints.l0]
    rw [if_pos (by omega), if_pos (by omega), if_pos (by omega), if_pos (by trivial), wrap_succ (n := xs.length) (by omega) hn]
theorem ints_self (xs : List Int) (hn : xs.length ≤ 140737488351232) : Evt (fun k => cartoucheref08_Ints.f k xs xs) true := by
  refine Evt.congr (fun k => ?_) (ints_l0 xs hn xs.length 0 (by omega))
  unfold cartoucheref08_Ints.f
  rw [if_pos (by trivial)]
  rfl

theorem rver_l0 (xs : List S31) (hn : xs.length ≤ 300) (key : ByteArray) : ∀ (d i : Nat) (acc : List Int), i + d = xs.length → acc = (List.range i).filterMap (verAt (evs xs) key) → Evt (fun k => cartoucheref08_Versions.l0 k xs key acc (i : Int)) (versions (evs xs) key)
  | 0, i, acc, hi, ha => Evt.now1 fun k => by
    simp only [cartoucheref08_Versions.l0]
    rw [if_neg (by omega), ha]
    unfold versions
    rw [evs_len, show i = xs.length by omega]
  | d + 1, i, acc, hi, ha => by
    have hlen := evs_len xs
    have hacc : acc.length ≤ i := by
      have := List.length_filterMap_le (verAt (evs xs) key) (List.range i)
      rw [List.length_range, ← ha] at this
      exact this
    have ih := rver_l0 xs hn key d (i + 1)
    have hst : (List.range (i + 1)).filterMap (verAt (evs xs) key) = acc ++ (verAt (evs xs) key i).toList := by
      rw [List.range_succ, List.filterMap_append, ha]
      cases h : verAt (evs xs) key i <;> simp [h]
    have skip : verAt (evs xs) key i = none → Evt (fun k => cartoucheref08_Versions.l0 k xs key acc ((i + 1 : Nat) : Int)) (versions (evs xs) key) := fun h => ih acc (by omega) (by rw [hst, h]; simp)
    have j1t : verAt (evs xs) key i = none → Evt (fun k => cartoucheref08_Versions.j1 k xs key acc (i : Int) true) (versions (evs xs) key) := fun h => by
      refine Evt.step (fun k => ?_) (skip h)
      simp only [cartoucheref08_Versions.j1]
      rw [if_pos (by trivial), wrap_succ (n := xs.length) (by omega) (by omega)]
    have hend : cartoucheref08_End.f xs (nth (evs xs) i).txn (xs.length : Int) = some (endOf (evs xs) (nth (evs xs) i).txn) := by
      unfold cartoucheref08_End.f
      rw [if_pos ⟨by omega, by omega, by omega⟩, Int.toNat_natCast, List.take_of_length_le (by omega)]
    by_cases q1 : (nth (evs xs) i).kind = 4
    · by_cases q2 : endOf (evs xs) (nth (evs xs) i).txn = i
      · have j1f : Evt (fun k => cartoucheref08_Versions.j1 k xs key acc (i : Int) false) (versions (evs xs) key) := by
          by_cases q3 : 0 ≤ lastOf (evs xs) (nth (evs xs) i).txn key i
          · have hv : verAt (evs xs) key i = some (lastOf (evs xs) (nth (evs xs) i).txn key i) := by unfold verAt; rw [if_pos ⟨q1, q2, q3⟩]
            refine Evt.step (fun k => ?_) (ih (acc ++ [lastOf (evs xs) (nth (evs xs) i).txn key i]) (by omega) (by rw [hst, hv]; rfl))
            simp only [cartoucheref08_Versions.j1]
            unfold cartoucheref08_Last.f
            rw [if_neg (by simp), if_pos (by omega), if_pos (by omega), if_pos (by omega), rd_f1]
            simp only [Option.bind_some, Int.toNat_natCast]
            rw [if_pos q3, if_pos (by omega), wrap_succ (n := xs.length) (by omega) (by omega)]
          · have hv : verAt (evs xs) key i = none := by unfold verAt; rw [if_neg (fun h => q3 h.2.2)]
            refine Evt.step (fun k => ?_) (skip hv)
            simp only [cartoucheref08_Versions.j1]
            unfold cartoucheref08_Last.f
            rw [if_neg (by simp), if_pos (by omega), if_pos (by omega), if_pos (by omega), rd_f1]
            simp only [Option.bind_some, Int.toNat_natCast]
            rw [if_neg (by omega), wrap_succ (n := xs.length) (by omega) (by omega)]
        refine Evt.step (fun k => ?_) j1f
        simp only [cartoucheref08_Versions.l0]
        rw [if_pos (by omega), if_pos (by omega), rd_f0, rd_f1]
        simp only [Int.toNat_natCast]
        rw [if_pos q1, hend]
        simp only [Option.bind_some]
        rw [q2]
        simp
      · have hv : verAt (evs xs) key i = none := by unfold verAt; rw [if_neg (fun h => q2 h.2.1)]
        refine Evt.step (fun k => ?_) (j1t hv)
        simp only [cartoucheref08_Versions.l0]
        rw [if_pos (by omega), if_pos (by omega), rd_f0, rd_f1]
        simp only [Int.toNat_natCast]
        rw [if_pos q1, hend]
        simp only [Option.bind_some]
        rw [show (endOf (evs xs) (nth (evs xs) i).txn != (i : Int)) = true by simpa using q2]
    · have hv : verAt (evs xs) key i = none := by unfold verAt; rw [if_neg (fun h => q1 h.1)]
      refine Evt.step (fun k => ?_) (j1t hv)
      simp only [cartoucheref08_Versions.l0]
      rw [if_pos (by omega), if_pos (by omega), rd_f0]
      simp only [Int.toNat_natCast]
      rw [if_neg q1]
theorem rver (xs : List S31) (hn : xs.length ≤ 300) (key : ByteArray) : Evt (fun k => cartoucheref08_Versions.f k xs key) (versions (evs xs) key) := by
  refine Evt.congr (fun k => ?_) (rver_l0 xs hn key xs.length 0 [] (by omega) (by simp))
  unfold cartoucheref08_Versions.f
  rfl
theorem versions_len (l : List Go.Proofs.Ythjgmccpbcelgaa.Ev) (key : ByteArray) : (versions l key).length ≤ l.length := by
  have := List.length_filterMap_le (verAt l key) (List.range l.length)
  rwa [List.length_range] at this

theorem p_HistoryWrites (l : List S31) (key val : ByteArray) (t before : Int) (_ : ∀ y ∈ l, EvS y) : ∃ k, cartouchelaw08_HistoryWrites.f k l key val t before = some true := by
  apply Evt.rounds
  have hlen := evs_len l
  by_cases q : l.length ≤ 300
  · have hvl := versions_len (evs l) key
    refine Evt.congr (f := fun k => (cartoucheref08_Versions.f k l key).bind fun t551 => (cartoucheref08_Ints.f k (versions (evs l) key) t551).bind fun t554 => if t554 = true then some true else some false) (fun k => ?_) (Evt.bind (rver l q key) (Evt.bind' (fun k => rfl) (ints_self _ (by omega)) (Evt.now fun k => by simp)))
    unfold cartouchelaw08_HistoryWrites.f cartouchelaw08_few.f history_Versions.f history_Writer.f cartoucheref08_Writer.f history_Last.f cartoucheref08_Last.f
    rw [shown08]
    simp only [Option.bind_some]
    rw [if_pos (by simp; omega), if_pos (by omega)]
    simp [show l.length ≤ 140737488351232 by omega]
  · refine Evt.now fun k => ?_
    unfold cartouchelaw08_HistoryWrites.f cartouchelaw08_few.f
    rw [shown08]
    simp only [Option.bind_some]
    rw [if_neg (by simp; omega)]
end Go.Proofs.YthjgmccpbcelgaaPr
