/-
  The plain law of CheckTurns: a ring that is one is one from each of its edges on.
-/
import Derived.Test.YtebjiimlcnmfpaaGreatPrCartouchelaw13CheckTurns
import Derived.Test.YtebjiimlcnmfpaaGreatS21
set_option linter.unusedVariables false
set_option linter.unusedSimpArgs false
namespace Go.Proofs.YtebjiimlcnmfpaaGreatPr
open Go.Proofs.YtebjiimlcnmfpaaGreat
open Go Go.RowKit

theorem p_CheckTurns (l : List S50) (lev : Int) (rs : List S24) (n : Int) (hS : ∀ y ∈ l, EvS y) (hn0 : l.length * 48 ≤ 140737488351232) (hE : ∀ y ∈ rs, EdgeS y) (hr0 : rs.length * 40 ≤ 140737488351232) : ∃ k, cartouchelaw13_CheckTurns.f k l lev rs n = some true := by
  apply Evt.rounds
  obtain ⟨b, hb, hb2⟩ := few3_evt l (by omega)
  have j0t : Evt (fun k => cartouchelaw13_CheckTurns.j0 k l lev rs n true true) true := Evt.now1 fun k => by
    simp only [cartouchelaw13_CheckTurns.j0]
    rw [if_pos (by trivial)]
  refine Evt.bind' (fun k => rfl) (Evt.now fun _ => shown13) ?_
  refine Evt.bind' (fun k => rfl) hb ?_
  cases b
  · exact Evt.congr (fun k => if_neg (by simp)) j0t
  · obtain ⟨hn, _⟩ := hb2 rfl
    refine Evt.congr (fun k => if_pos rfl) ?_
    by_cases q : (rs.length : Int) > 100
    · exact Evt.congr (fun k => if_pos q) j0t
    refine Evt.congr (fun k => if_neg q) ?_
    by_cases q2 : n < 0
    · exact Evt.congr (fun k => if_pos q2) j0t
    refine Evt.congr (fun k => if_neg q2) ?_
    by_cases q3 : n > (rs.length : Int)
    · rw [decide_eq_true q3]; exact j0t
    rw [decide_eq_false q3]
    obtain ⟨m, rfl⟩ := Int.eq_ofNat_of_zero_le (by omega : 0 ≤ n)
    refine Evt.now1 fun k => ?_
    simp only [cartouchelaw13_CheckTurns.j0]
    rw [if_neg (by simp)]
    simp only [Option.bind_some]
    have hd : (rs.drop m).length + (rs.take m).length = rs.length := by rw [List.length_drop, List.length_take]; omega
    rw [if_pos (by omega), if_pos (by omega), Int.toNat_natCast, if_pos (by rw [List.length_nil, List.length_drop]; omega), List.nil_append, if_pos (by omega), if_pos (by trivial), round_f (by omega) (by omega), round_f (by omega) (by rw [List.length_append]; omega)]
    simp only [Option.bind_some]
    have hm : m ≤ (rs.map toEd).length := by rw [List.length_map]; omega
    rw [List.map_append, List.map_drop, List.map_take, roundS_turn hm]
    simp
end Go.Proofs.YtebjiimlcnmfpaaGreatPr
