/-
  The plain law of CheckTurned: a verdict that says the contrary of one that is checked with OK isn't one.
-/
import Derived.Test.YtebjiimlcnmfpaaGreatPrCartouchelaw13CheckTurned
import Derived.Test.YtebjiimlcnmfpaaGreatS22
set_option linter.unusedVariables false
set_option linter.unusedSimpArgs false
namespace Go.Proofs.YtebjiimlcnmfpaaGreatPr
open Go.Proofs.YtebjiimlcnmfpaaGreat
open Go Go.RowKit

theorem goodS_is {xs : List S50} {lev : Int} {o : List Int} {bk : Int} {rs : List S24} (h : goodS xs lev o bk rs = true) : bk = 0 ∧ rs.length = 0 ∧ (badsS xs).length = 0 ∧ aheadS xs lev o = true := by
  unfold goodS at h
  split at h
  · split at h
    · split at h
      · exact ⟨by assumption, by assumption, by assumption, h⟩
      · cases h
    · cases h
  · cases h
theorem badV_is {xs : List S50} {lev : Int} {o : List Int} {bk bi bj : Int} {rs : List S24} (h : badV xs lev o bk bi bj rs = true) : o.length = 0 ∧ ((bk = 0 ∧ roundS (evs xs) lev (rs.map toEd) = true) ∨ (bk ≠ 0 ∧ rs.length = 0 ∧ (badAt (evs xs) bi).kind = bk ∧ (badAt (evs xs) bi).i = bi ∧ (badAt (evs xs) bi).j = bj)) := by
  unfold badV at h
  split at h
  · cases h
  · refine ⟨by omega, ?_⟩
    split at h
    · exact .inl ⟨by assumption, h⟩
    · split at h
      · simp only [Bool.and_eq_true, beq_iff_eq] at h
        exact .inr ⟨by assumption, by assumption, h.1, h.2.1, h.2.2⟩
      · cases h
theorem bad_in {l : List Ev} {i : Int} (h : (badAt l i).kind ≠ 0) : ∃ k : Nat, i = k ∧ k < l.length := by
  unfold badAt at h
  split at h
  · exact absurd rfl h
  · rename_i hc
    have hc' : counts l i = true := by cases hq : counts l i <;> simp_all
    unfold counts at hc'
    simp at hc'
    refine ⟨i.toNat, ?_, ?_⟩ <;> omega
/-- What accepts and what does not cannot both be shown. -/
theorem not_both {xs : List S50} (hf : (formed (evs xs)).2 = 0) {lev : Int} (hl : lev = 1 ∨ lev = 2) {o o' : List Int} {bk bk' bi' bj' : Int} {rs rs' : List S24} (h : goodS xs lev o bk rs = true) (h' : badV xs lev o' bk' bi' bj' rs' = true) : False := by
  obtain ⟨_, _, h3, h4⟩ := goodS_is h
  obtain ⟨_, h5⟩ := badV_is h'
  have hb := bads_none h3
  rcases h5 with ⟨_, hr⟩ | ⟨h6, _, h7, _⟩
  · obtain ⟨c, n, hn, hw⟩ := ring_walk (formed_wf hf) hb hl hr
    exact ahead_none h4 hn hw
  · obtain ⟨k, rfl, hk⟩ := bad_in (l := evs xs) (i := bi') (by rw [h7]; exact h6)
    rw [evs_len] at hk
    exact h6 (h7 ▸ hb k hk)
theorem checkS_ok {xs : List S50} {lev : Int} {acc : Bool} {o : List Int} {bk bi bj : Int} {rs : List S24} (h : checkS xs lev acc o bk bi bj rs = 0) : (lev = 1 ∨ lev = 2) ∧ (formed (evs xs)).2 = 0 ∧ (if acc = true then goodS xs lev o bk rs else badV xs lev o bk bi bj rs) = true := by
  unfold checkS at h
  split at h
  · omega
  · split at h
    · refine ⟨by omega, by assumption, ?_⟩
      by_cases hg : (if acc = true then goodS xs lev o bk rs else badV xs lev o bk bi bj rs) = true
      · exact hg
      · rw [if_neg hg] at h
        omega
    · exact absurd h (by assumption)
theorem checkS_turned {xs : List S50} {lev : Int} {acc acc' : Bool} (ha : acc ≠ acc') {o o' : List Int} {bk bi bj bk' bi' bj' : Int} {rs rs' : List S24} (h : checkS xs lev acc o bk bi bj rs = 0) : checkS xs lev acc' o' bk' bi' bj' rs' = 14 := by
  obtain ⟨hl, hf, hg⟩ := checkS_ok h
  unfold checkS
  rw [if_neg (by omega), if_pos hf]
  refine if_neg fun hg' => ?_
  cases acc <;> cases acc'
  · exact ha rfl
  · exact not_both hf hl (by simpa using hg') (by simpa using hg)
  · exact not_both hf hl (by simpa using hg) (by simpa using hg')
  · exact ha rfl
theorem p_CheckTurned (l : List S50) (lev : Int) (acc : Bool) (o : List Int) (bk bi bj : Int) (rs : List S24) (lev' : Int) (acc' : Bool) (o' : List Int) (bk' bi' bj' : Int) (rs' : List S24) (hS : ∀ y ∈ l, EvS y) (hl : l.length * 48 ≤ 140737488351232) (hI : ∀ y ∈ o, IntS y) (hol : o.length * 8 ≤ 140737488351232) (hE : ∀ y ∈ rs, EdgeS y) (hrl : rs.length * 40 ≤ 140737488351232) (hI' : ∀ y ∈ o', IntS y) (hol' : o'.length * 8 ≤ 140737488351232) (hE' : ∀ y ∈ rs', EdgeS y) (hrl' : rs'.length * 40 ≤ 140737488351232) :
    ∃ k, cartouchelaw13_CheckTurned.f k l lev acc o bk bi bj rs lev' acc' o' bk' bi' bj' rs' = some true := by
  apply Evt.rounds
  obtain ⟨b, hb, hb2⟩ := few3_evt l (by omega)
  have j0t : Evt (fun k => cartouchelaw13_CheckTurned.j0 k l true true lev' acc' o' bk' bi' bj' rs') true := Evt.now1 fun k => by
    simp only [cartouchelaw13_CheckTurned.j0]
    rw [if_pos (by trivial)]
  refine Evt.bind' (fun k => rfl) (Evt.now fun _ => shown13) ?_
  refine Evt.bind' (fun k => rfl) hb ?_
  cases b
  · exact Evt.congr (fun k => if_neg (by simp)) j0t
  obtain ⟨hn, hT⟩ := hb2 rfl
  refine Evt.congr (fun k => if_pos rfl) ?_
  by_cases q : (rs.length : Int) > 200
  · exact Evt.congr (fun k => if_pos q) j0t
  refine Evt.congr (fun k => if_neg q) ?_
  by_cases q2 : (rs'.length : Int) > 200
  · exact Evt.congr (fun k => if_pos q2) j0t
  refine Evt.congr (fun k => if_neg q2) ?_
  by_cases q3 : lev = lev'
  case neg => exact Evt.congr (fun k => if_neg q3) j0t
  subst q3
  refine Evt.congr (fun k => if_pos rfl) ?_
  by_cases q4 : (acc == acc') = true
  · exact Evt.congr (fun k => if_pos q4) j0t
  refine Evt.congr (fun k => if_neg q4) ?_
  refine Evt.bind' (fun k => rfl) (Evt.now fun _ => check_f (by omega) hS (by omega) hI (by omega)) ?_
  by_cases hc : checkS l lev acc o bk bi bj rs = 0
  · have h14 := checkS_turned (acc' := acc') (fun z => q4 (by rw [z]; simp)) (o' := o') (bk' := bk') (bi' := bi') (bj' := bj') (rs' := rs') hc
    rw [hc]
    refine Evt.now1 fun k => ?_
    simp only [cartouchelaw13_CheckTurned.j0]
    rw [if_neg (by simp), if_pos (by trivial), check_f (by omega) hS (by omega) hI' (by omega), h14]
    rfl
  · have hz : (checkS l lev acc o bk bi bj rs != 0) = true := bne_iff_ne.mpr hc
    rw [hz]
    exact j0t
end Go.Proofs.YtebjiimlcnmfpaaGreatPr
