/-
  Chapter 13 in plain words: small histories, the example, orders and rings at both levels.
-/
import Derived.Test.YtebjiimlcnmfpaaGreatPrCartouchelaw13Few
import Derived.Test.YtebjiimlcnmfpaaGreatPrCartouchelaw13Shown
import Derived.Test.YtebjiimlcnmfpaaGreatB16
set_option linter.unusedVariables false
set_option linter.unusedSimpArgs false
namespace Go.Proofs.YtebjiimlcnmfpaaGreatPr
open Go.Proofs.YtebjiimlcnmfpaaGreat
section
open Go Go.RowKit

theorem few3_l0 (xs : List S50) (hn : xs.length ≤ 140737488351232) : ∀ (d i : Nat), i + d = xs.length → ∃ b, Evt (fun k => cartouchelaw13_few.l0 k xs (i : Int)) b ∧ (b = true → xs.length ≤ 80 ∧ ∀ j, i ≤ j → j < xs.length → 0 ≤ (nth (evs xs) j).txn ∧ (nth (evs xs) j).txn ≤ 60)
  | 0, i, hi => ⟨decide ((xs.length : Int) ≤ 80), Evt.now1 fun k => by
      simp only [cartouchelaw13_few.l0]
      rw [if_neg (by omega)], fun h => ⟨by have := of_decide_eq_true h; omega, fun j h1 h2 => by omega⟩⟩
  | d + 1, i, hi => by
    obtain ⟨b, hb, hb2⟩ := few3_l0 xs hn d (i + 1) (by omega)
    have j1t : Evt (fun k => cartouchelaw13_few.j1 k xs (i : Int) true) false := Evt.now1 fun k => by
      simp only [cartouchelaw13_few.j1]
      rw [if_pos (by trivial)]
    have j1f : Evt (fun k => cartouchelaw13_few.j1 k xs (i : Int) false) b := by
      refine Evt.step (fun k => ?_) hb
      simp only [cartouchelaw13_few.j1]
      rw [if_neg (by simp), wrap_succ (n := xs.length) (by omega) hn]
    by_cases q : (rd_T50 xs i).f1 < 0
    · refine ⟨false, Evt.step (fun k => ?_) j1t, fun h => by cases h⟩
      simp only [cartouchelaw13_few.l0]
      rw [if_pos (by omega), if_pos (by omega), if_pos q]
    · by_cases q2 : (rd_T50 xs i).f1 > 60
      · refine ⟨false, Evt.step (fun k => ?_) j1t, fun h => by cases h⟩
        simp only [cartouchelaw13_few.l0]
        rw [if_pos (by omega), if_pos (by omega), if_neg q, decide_eq_true q2]
      · refine ⟨b, Evt.step (fun k => ?_) j1f, fun h => ⟨(hb2 h).1, fun j h1 h2 => ?_⟩⟩
        · simp only [cartouchelaw13_few.l0]
          rw [if_pos (by omega), if_pos (by omega), if_neg q, decide_eq_false q2]
        · by_cases e : j = i
          · subst e
            rw [rd_f1, Int.toNat_natCast] at q q2
            omega
          · exact (hb2 h).2 j (by omega) h2
theorem few3_evt (xs : List S50) (hn : xs.length ≤ 140737488351232) : ∃ b, Evt (fun k => cartouchelaw13_few.f k xs) b ∧ (b = true → xs.length ≤ 80 ∧ ∀ j, j < xs.length → 0 ≤ (nth (evs xs) j).txn ∧ (nth (evs xs) j).txn ≤ 60) := by
  obtain ⟨b, h1, h2⟩ := few3_l0 xs hn xs.length 0 (by omega)
  exact ⟨b, h1, fun h => ⟨(h2 h).1, fun j hj => (h2 h).2 j (by omega) hj⟩⟩


theorem shown13 : cartouchelaw13_shown.f = some true := by kernel_rfl

/-! ### orders -/
theorem aheadS_ok {xs : List S50} {lev : Int} {o : List Int} (h : aheadS xs lev o = true) : o.mergeSort (fun x y => decide (x ≤ y)) = nodesS (evs xs) ∧ Rg.forward fr_ to_ (stepsH lev xs) o = true := by
  unfold aheadS at h
  rw [Bool.and_eq_true] at h
  exact ⟨of_decide_eq_true h.1, h.2⟩
theorem aheadS_mk {xs : List S50} {lev : Int} {o : List Int} (h1 : o.mergeSort (fun x y => decide (x ≤ y)) = nodesS (evs xs)) (h2 : Rg.forward fr_ to_ (stepsH lev xs) o = true) : aheadS xs lev o = true := by
  unfold aheadS
  rw [Bool.and_eq_true]
  exact ⟨decide_eq_true h1, h2⟩
theorem aheadS_mem {xs : List S50} {lev : Int} {o : List Int} (h : aheadS xs lev o = true) : o.Nodup ∧ ∀ x, x ∈ o ↔ x ∈ nodesS (evs xs) := sorted_nodup (aheadS_ok h).1 (nodesS_rising _)
theorem aheadS_lt {xs : List S50} {lev : Int} {o : List Int} (h : aheadS xs lev o = true) {s : S80} (hs : s ∈ stepsH lev xs) : o.idxOf (fr_ s) < o.idxOf (to_ s) :=
  ((Rg.forward_iff fr_ to_).1 (aheadS_ok h).2).2 s hs (((aheadS_mem h).2 _).2 (stepsH_nodes hs).1) (((aheadS_mem h).2 _).2 (stepsH_nodes hs).2)
/-! ### rings -/
/-- A place of a ring that is told from its n-th edge on. -/
def turn (m n i : Nat) : Nat := if i + n < m then i + n else i + n - m
theorem ahead_f {l : List S50} {lev : Int} {o : List Int} (hn : l.length ≤ 300) (hS : ∀ y ∈ l, EvS y) (ho : o.length * 8 ≤ 140737488351232) (hi : ∀ y ∈ o, IntS y) : check_Ahead.f l lev o = some (aheadS l lev o) := by
  unfold check_Ahead.f
  rw [if_pos ⟨hn, evsOk_iff.2 hS, ho, intsOk_iff.2 hi⟩]
theorem round_f {l : List S50} {lev : Int} {rs : List S24} (hn : l.length ≤ 300) (hr : rs.length ≤ 140737488351232) : check_Round.f l lev rs = some (roundS (evs l) lev (rs.map toEd)) := by
  unfold check_Round.f
  rw [if_pos ⟨by omega, hr⟩]
theorem check_f {l : List S50} {lev : Int} {acc : Bool} {o : List Int} {bk bi bj : Int} {rs : List S24} (hn : l.length ≤ 300) (hS : ∀ y ∈ l, EvS y) (ho : o.length * 8 ≤ 140737488351232) (hi : ∀ y ∈ o, IntS y) (hr : rs.length ≤ 140737488351232) : check_Check.f l lev acc o bk bi bj rs = some (checkS l lev acc o bk bi bj rs) := by
  unfold check_Check.f
  rw [if_pos ⟨hn, evsOk_iff.2 hS, ho, intsOk_iff.2 hi, hr⟩]
end
end Go.Proofs.YtebjiimlcnmfpaaGreatPr
