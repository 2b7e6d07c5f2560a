/-
  The plain law of CheckLevels: an order that is Ahead at Serial is so at Snapshot; a ring that is Round at Snapshot is so at Serial.
-/
import Derived.Test.YtebjiimlcnmfpaaGreatPrCartouchelaw13CheckLevels
import Derived.Test.YtebjiimlcnmfpaaGreatS21
set_option linter.unusedVariables false
set_option linter.unusedSimpArgs false
namespace Go.Proofs.YtebjiimlcnmfpaaGreatPr
open Go.Proofs.YtebjiimlcnmfpaaGreat
open Go Go.RowKit

theorem p_CheckLevels (l : List S50) (o : List Int) (rs : List S24) (hS : ∀ y ∈ l, EvS y) (hl : l.length * 48 ≤ 140737488351232) (hI : ∀ y ∈ o, IntS y) (hol : o.length * 8 ≤ 140737488351232) (hE : ∀ y ∈ rs, EdgeS y) (hrl : rs.length * 40 ≤ 140737488351232) : ∃ k, cartouchelaw13_CheckLevels.f k l o rs = some true := by
  apply Evt.rounds
  obtain ⟨b, hb, hb2⟩ := few3_evt l (by omega)
  have j0t : Evt (fun k => cartouchelaw13_CheckLevels.j0 k l o rs true true) true := Evt.now1 fun k => by
    simp only [cartouchelaw13_CheckLevels.j0]
    rw [if_pos (by trivial)]
  refine Evt.bind' (fun k => rfl) (Evt.now fun _ => shown13) ?_
  refine Evt.bind' (fun k => rfl) hb ?_
  cases b
  · exact Evt.congr (fun k => if_neg (by simp)) j0t
  · obtain ⟨hn, _⟩ := hb2 rfl
    refine Evt.congr (fun k => if_pos rfl) ?_
    have j0f : Evt (fun k => cartouchelaw13_CheckLevels.j0 k l o rs true false) true := Evt.now1 fun k => by
      simp only [cartouchelaw13_CheckLevels.j0]
      rw [if_neg (by simp), if_pos (by trivial), ahead_f (by omega) hS (by omega) hI, ahead_f (by omega) hS (by omega) hI, round_f (by omega) (by omega), round_f (by omega) (by omega)]
      simp only [Option.bind_some]
      have h1 := aheadS_down (xs := l) (o := o)
      have h2 := roundS_down (l := evs l) (rs := rs.map toEd)
      cases a1 : aheadS l 1 o <;> cases a2 : aheadS l 2 o <;> cases r1 : roundS (evs l) 1 (rs.map toEd) <;> cases r2 : roundS (evs l) 2 (rs.map toEd) <;> simp_all
    by_cases q : (rs.length : Int) > 100
    · exact Evt.congr (fun k => if_pos q) j0t
    · refine Evt.congr (fun k => if_neg q) ?_
      by_cases q2 : (o.length : Int) > 100
      · rw [decide_eq_true q2]; exact j0t
      · rw [decide_eq_false q2]; exact j0f
end Go.Proofs.YtebjiimlcnmfpaaGreatPr
