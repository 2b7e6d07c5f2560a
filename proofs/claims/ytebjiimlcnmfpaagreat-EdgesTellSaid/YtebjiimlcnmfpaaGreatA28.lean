/-
  The law EdgesFollow, walked by hand: where an edge holds there is a way of edges.
-/
import Derived.Test.YtebjiimlcnmfpaaGreatS10a
import Derived.Test.YtebjiimlcnmfpaaGreatS25
import Derived.Test.YtebjiimlcnmfpaaGreatS15
import Derived.Test.YtebjiimlcnmfpaaGreatS09
import Derived.Test.YtebjiimlcnmfpaaGreatA16
set_option linter.unusedVariables false
set_option linter.unusedSimpArgs false
namespace Go.Proofs.YtebjiimlcnmfpaaGreatPr
open Go.Proofs.YtebjiimlcnmfpaaGreat
section
open Go Go.RowKit Go.Proofs Go.Shelf
set_option linter.unusedSimpArgs false
set_option linter.unusedVariables false
attribute [local go_sem] Ext.alloc Ext.alloc2 Ext.alloc3 Ext.alloc4 Ext.drewN_alloc Ext.drewN_alloc2 Ext.drew_alloc Ext.drew Ext.drewN toList_beq

/-! ### the small histories, told whole -/
theorem few2_l0 (xs : List S50) (hn : xs.length ≤ 140737488351232) : ∀ (d i : Nat), i + d = xs.length → ∃ b, Evt (fun k => cartouchelaw10_few.l0 k xs (i : Int)) b ∧ (b = true → xs.length ≤ 120 ∧ ∀ j, i ≤ j → j < xs.length → 0 ≤ (nth (evs xs) j).txn ∧ (nth (evs xs) j).txn ≤ 99)
  | 0, i, hi => ⟨decide ((xs.length : Int) ≤ 120), Evt.now1 fun k => by
      simp only [cartouchelaw10_few.l0]
      rw [if_neg (by omega)], fun h => ⟨by have := of_decide_eq_true h; omega, fun j h1 h2 => by omega⟩⟩
  | d + 1, i, hi => by
    obtain ⟨b, hb, hb2⟩ := few2_l0 xs hn d (i + 1) (by omega)
    have j1t : Evt (fun k => cartouchelaw10_few.j1 k xs (i : Int) true) false := Evt.now1 fun k => by
      simp only [cartouchelaw10_few.j1]
      rw [if_pos (by trivial)]
    have j1f : Evt (fun k => cartouchelaw10_few.j1 k xs (i : Int) false) b := by
      refine Evt.step (fun k => ?_) hb
      simp only [cartouchelaw10_few.j1]
      rw [if_neg (by simp), wrap_succ (n := xs.length) (by omega) hn]
    by_cases q : (rd_T50 xs i).f1 < 0
    · refine ⟨false, Evt.step (fun k => ?_) j1t, fun h => by cases h⟩
      simp only [cartouchelaw10_few.l0]
      rw [if_pos (by omega), if_pos (by omega), if_pos q]
    · by_cases q2 : (rd_T50 xs i).f1 > 99
      · refine ⟨false, Evt.step (fun k => ?_) j1t, fun h => by cases h⟩
        simp only [cartouchelaw10_few.l0]
        rw [if_pos (by omega), if_pos (by omega), if_neg q, decide_eq_true q2]
      · refine ⟨b, Evt.step (fun k => ?_) j1f, fun h => ⟨(hb2 h).1, fun j h1 h2 => ?_⟩⟩
        · simp only [cartouchelaw10_few.l0]
          rw [if_pos (by omega), if_pos (by omega), if_neg q, decide_eq_false q2]
        · by_cases e : j = i
          · subst e
            rw [rd_f1, Int.toNat_natCast] at q q2
            omega
          · exact (hb2 h).2 j (by omega) h2
theorem few2_evt (xs : List S50) (hn : xs.length ≤ 140737488351232) : ∃ b, Evt (fun k => cartouchelaw10_few.f k xs) b ∧ (b = true → xs.length ≤ 120 ∧ ∀ j, j < xs.length → 0 ≤ (nth (evs xs) j).txn ∧ (nth (evs xs) j).txn ≤ 99) := by
  obtain ⟨b, h1, h2⟩ := few2_l0 xs hn xs.length 0 (by omega)
  exact ⟨b, h1, fun h => ⟨(h2 h).1, fun j hj => (h2 h).2 j (by omega) hj⟩⟩

/-- Who is reached, row by row of the table. -/
def RF (el : List Go.Proofs.YtebjiimlcnmfpaaGreat.Edge) (a : Int) (n i : Nat) (R : Nat → Bool) : Prop :=
  (∀ m y, m ≤ n → Rg.Walk Go.Proofs.YtebjiimlcnmfpaaGreat.Edge.from_ Go.Proofs.YtebjiimlcnmfpaaGreat.Edge.to_ el a m y → R y.toNat = true) ∧ ∀ j, j < i → Rg.Walk Go.Proofs.YtebjiimlcnmfpaaGreat.Edge.from_ Go.Proofs.YtebjiimlcnmfpaaGreat.Edge.to_ el a n (enth' el j).from_ → R (enth' el j).to_.toNat = true
def hitR (p : Nat) (R : Nat → Bool) : Nat → Bool := fun j => decide (j = p) || R j
theorem RF.start (el : List Go.Proofs.YtebjiimlcnmfpaaGreat.Edge) (a : Int) (p : Nat) (h : a = p) : RF el a 0 0 (hitR p (fun _ => false)) := by
  refine ⟨fun m y hm ⟨r, h1, _, h3⟩ => ?_, fun j hj => by omega⟩
  obtain rfl : r = [] := List.length_eq_zero_iff.1 (by omega)
  have : a = y := h3
  subst this
  unfold hitR
  rw [h]; simp
theorem RF.next {el : List Go.Proofs.YtebjiimlcnmfpaaGreat.Edge} {a : Int} {n : Nat} {R : Nat → Bool} (h : RF el a n el.length R) : RF el a (n + 1) 0 R := by
  refine ⟨fun m y hm hw => ?_, fun j hj => by omega⟩
  by_cases e : m = n + 1
  · subst e
    obtain ⟨r, h1, h2, h3⟩ := hw
    have hne : r ≠ [] := fun z => by rw [z] at h1; simp at h1
    have hr := List.dropLast_concat_getLast hne
    rw [← hr] at h3
    obtain ⟨c, h4, h5, h6⟩ := (Rg.chain_append _ _ _ _ _ _).1 h3
    have h6 : (r.getLast hne).to_ = y := h6
    have hm := h2 _ (List.getLast_mem hne)
    obtain ⟨j, hj, hje⟩ := List.getElem_of_mem hm
    have hjn : enth' el j = r.getLast hne := by unfold enth'; rw [List.getD_eq_getElem?_getD, List.getElem?_eq_getElem hj, hje]; rfl
    have := h.2 j hj (by
      rw [hjn, h5]
      exact ⟨r.dropLast, by rw [List.length_dropLast]; omega, fun s hs => h2 s (List.dropLast_subset _ hs), h4⟩)
    rw [hjn, h6] at this
    exact this
  · exact h.1 m y (by omega) hw
end
end Go.Proofs.YtebjiimlcnmfpaaGreatPr
