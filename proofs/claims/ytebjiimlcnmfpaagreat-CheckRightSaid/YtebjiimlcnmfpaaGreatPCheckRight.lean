/-
  The plain law of CheckRight: a verdict that is checked with OK says what is so.
-/
import Derived.Test.YtebjiimlcnmfpaaGreatPrCartouchelaw13CheckRight
import Derived.Test.YtebjiimlcnmfpaaGreatS22
import Derived.Test.YtebjiimlcnmfpaaGreatB23
set_option linter.unusedVariables false
set_option linter.unusedSimpArgs false
namespace Go.Proofs.YtebjiimlcnmfpaaGreatPr
open Go.Proofs.YtebjiimlcnmfpaaGreat
open Go Go.RowKit

theorem check_right {xs : List S50} {lev : Int} {acc : Bool} {o : List Int} {bk bi bj : Int} {rs : List S24} (h : checkS xs lev acc o bk bi bj rs = 0) : (formed (evs xs)).2 = 0 ∧ acc = goodB xs lev := by
  obtain ⟨hl, hf, hg⟩ := checkS_ok h
  refine ⟨hf, ?_⟩
  by_cases hb : badsS xs = []
  · have hr := goodB_ring (lev := lev) hb
    cases acc with
    | true =>
      obtain ⟨_, _, _, h4⟩ := goodS_is (by simpa using hg)
      exact (hr.2 fun ⟨c, n, hn, hw⟩ => ahead_none h4 hn hw).symm
    | false =>
      obtain ⟨_, h5⟩ := badV_is (show badV xs lev o bk bi bj rs = true by simpa using hg)
      have hbn := bads_none (xs := xs) (by rw [hb]; rfl)
      rcases h5 with ⟨_, h6⟩ | ⟨h6, _, h7, _⟩
      · obtain ⟨c, n, hn, hw⟩ := ring_walk (formed_wf hf) hbn hl h6
        cases hq : goodB xs lev with
        | false => rfl
        | true => exact absurd ⟨c, n, hn, hw⟩ (hr.1 hq)
      · obtain ⟨k, rfl, hk⟩ := bad_in (l := evs xs) (i := bi) (by rw [h7]; exact h6)
        rw [evs_len] at hk
        exact absurd (h7 ▸ hbn k hk) h6
  · rw [goodB_bad hb]
    cases acc with
    | false => rfl
    | true =>
      obtain ⟨_, _, h3, _⟩ := goodS_is (show goodS xs lev o bk rs = true by simpa using hg)
      exact absurd (List.eq_nil_of_length_eq_zero h3) hb
theorem p_CheckRight (l : List S50) (lev : Int) (acc : Bool) (o : List Int) (bk bi bj : Int) (rs : List S24) (hS : ∀ y ∈ l, EvS y) (hl : l.length * 48 ≤ 140737488351232) (hI : ∀ y ∈ o, IntS y) (hol : o.length * 8 ≤ 140737488351232) (hE : ∀ y ∈ rs, EdgeS y) (hrl : rs.length * 40 ≤ 140737488351232) :
    ∃ k, cartouchelaw13_CheckRight.f k l lev acc o bk bi bj rs = some true := by
  apply Evt.rounds
  obtain ⟨b, hb, hb2⟩ := few3_evt l (by omega)
  have j0t : Evt (fun k => cartouchelaw13_CheckRight.j0 k l true true lev acc o bk bi bj rs) true := Evt.now1 fun k => by
    simp only [cartouchelaw13_CheckRight.j0]
    rw [if_pos (by trivial)]
  refine Evt.bind' (fun k => rfl) (Evt.now fun _ => shown13) ?_
  refine Evt.bind' (fun k => rfl) hb ?_
  cases b
  · exact Evt.congr (fun k => if_neg (by simp)) j0t
  obtain ⟨hn, hT⟩ := hb2 rfl
  refine Evt.congr (fun k => if_pos rfl) ?_
  by_cases q : (rs.length : Int) > 200
  · exact Evt.congr (fun k => if_pos q) j0t
  refine Evt.congr (fun k => if_neg q) ?_
  refine Evt.bind' (fun k => rfl) (Evt.now fun _ => check_f (by omega) hS (by omega) hI (by omega)) ?_
  by_cases hz : checkS l lev acc o bk bi bj rs = 0
  case neg =>
    rw [show (checkS l lev acc o bk bi bj rs != 0) = true from bne_iff_ne.mpr hz]
    exact j0t
  rw [show (checkS l lev acc o bk bi bj rs != 0) = false from bne_eq_false_iff_eq.mpr hz]
  obtain ⟨hf, ha⟩ := check_right hz
  have hF : cartoucheref08_Formed.f l = some (formed (evs l)) := by unfold cartoucheref08_Formed.f; rw [if_pos (by omega)]
  refine Evt.now1 fun k => ?_
  simp only [cartouchelaw13_CheckRight.j0]
  rw [if_neg (by simp), hF]
  simp only [Option.bind_some]
  rw [if_pos trivial, if_pos hf, good_f hf hS, ha]
  simp
end Go.Proofs.YtebjiimlcnmfpaaGreatPr
