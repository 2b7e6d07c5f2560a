/-
  Committed transactions; the steps of a history.
-/
import Derived.Test.YtebjiimlcnmfpaaGreatS10
import Derived.Test.YtebjiimlcnmfpaaGreatA12
import Derived.Test.YtebjiimlcnmfpaaGreatB1
set_option linter.unusedVariables false
set_option linter.unusedSimpArgs false
namespace Go.Proofs.YtebjiimlcnmfpaaGreatPr
open Go.Proofs.YtebjiimlcnmfpaaGreat
open Go Go.RowKit

/-! ### committed -/
theorem find_comS (l : List Ev) (t : Int) : (findL l t).1.com = comOf l t := by
  by_cases h : firstOf l t < 0
  · have he : endOf l t < 0 := by
      rcases Int.lt_or_le (endOf l t) 0 with h2 | h2
      · exact h2
      · obtain ⟨e, _, he, ht, _⟩ := endOf_place h2
        exact absurd ht (firstOf_neg h e he)
    unfold findL comOf
    rw [if_pos h, decide_eq_false (by omega)]
    rfl
  · by_cases he : endOf l t < 0
    · unfold findL comOf
      rw [if_neg h, if_pos he, decide_eq_false (by omega)]
      rfl
    · unfold findL comOf
      rw [if_neg h, if_neg he, decide_eq_true (by omega)]
      rfl
/-! ### the steps of a history -/
def stepsH (lev : Int) (xs : List S50) : List S80 := stepsE lev (allE xs)
theorem stepsE_len (lev : Int) (l : List S24) : (stepsE lev l).length ≤ l.length * (l.length + 1) := by
  unfold stepsE
  rw [List.length_map]
  have h : ∀ m : List Go.Proofs.YtebjiimlcnmfpaaGreat.Edge, (m.flatMap (oneE lev (l.map toEd))).length ≤ m.length * (l.length + 1) := fun m => by
    induction m with
    | nil => simp
    | cons x r ih =>
      have h1 : (oneE lev (l.map toEd) x).length ≤ l.length + 1 := by
        unfold oneE
        split
        · have := twoE_len lev (l.map toEd) x
          rw [List.length_map] at this
          simp
          omega
        · simp
      rw [List.flatMap_cons, List.length_append, List.length_cons, Nat.succ_mul]
      omega
  have := h (l.map toEd)
  rwa [List.length_map] at this
theorem stepsH_len (lev : Int) (xs : List S50) (hn : xs.length ≤ 300) : (stepsH lev xs).length ≤ 810000900000 := by
  have h1 := stepsE_len lev (allE xs)
  have h2 := allE_len xs hn
  have h3 : (allE xs).length * ((allE xs).length + 1) ≤ 900000 * 900001 := Nat.mul_le_mul h2 (by omega)
  unfold stepsH
  omega
/-- What a step is made of: one edge; or, at level 2, one that is no GOver and a GOver behind it. -/
theorem stepsH_is {lev : Int} {xs : List S50} {y : S80} (h : y ∈ stepsH lev xs) :
    (∃ e ∈ allE xs, y = ⟨e.f1, e.f2, [e]⟩ ∧ (lev = 1 ∨ (lev = 2 ∧ e.f0 ≠ 3))) ∨ (lev = 2 ∧ ∃ e ∈ allE xs, ∃ f ∈ allE xs, y = ⟨e.f1, f.f2, [e, f]⟩ ∧ e.f0 ≠ 3 ∧ f.f0 = 3 ∧ f.f1 = e.f2) := by
  unfold stepsH stepsE at h
  obtain ⟨t, ht, rfl⟩ := List.mem_map.1 h
  obtain ⟨e0, he0, he⟩ := List.mem_flatMap.1 ht
  obtain ⟨e, hem, rfl⟩ := List.mem_map.1 he0
  unfold oneE at he
  split at he
  · rename_i hc
    rcases List.mem_cons.1 he with rfl | he
    · exact .inl ⟨e, hem, rfl, hc⟩
    · unfold twoE at he
      obtain ⟨f0, hf0, rfl⟩ := List.mem_map.1 he
      obtain ⟨hf1, hf2⟩ := List.mem_filter.1 hf0
      obtain ⟨f, hfm, rfl⟩ := List.mem_map.1 hf1
      have hf3 := of_decide_eq_true hf2
      refine .inr ⟨hf3.1, e, hem, f, hfm, rfl, ?_, hf3.2.1, hf3.2.2⟩
      rcases hc with h1 | ⟨_, h2⟩
      · omega
      · exact h2
  · cases he
theorem stepsH_two {lev : Int} {xs : List S50} {y : S80} (h : y ∈ stepsH lev xs) : y.f2.length ≤ 2 := by
  rcases stepsH_is h with ⟨e, _, rfl, _⟩ | ⟨_, e, _, f, _, rfl, _⟩ <;> simp
/-- An edge's transactions. -/
theorem allE_ends {xs : List S50} {e : S24} (h : e ∈ allE xs) : comOf (evs xs) e.f1 = true ∧ comOf (evs xs) e.f2 = true ∧ e.f1 ≠ e.f2 ∧ (∃ i, i < xs.length ∧ e.f1 = (nth (evs xs) i).txn) ∧ ∃ i, i < xs.length ∧ e.f2 = (nth (evs xs) i).txn := by
  obtain ⟨x, key, rfl, hx⟩ := allE_good h
  obtain ⟨gi, gj, e1, e2, l1, l2, f1, f2, hne, hkey, hc1, hc2, _⟩ := of_good hx
  rw [evs_len] at l1 l2
  have g1 : (ofEdge x).f1 = (nth (evs xs) gi).txn := f1
  have g2 : (ofEdge x).f2 = (nth (evs xs) gj).txn := f2
  exact ⟨by rw [g1]; exact hc1, by rw [g2]; exact hc2, by rw [g1, g2]; exact hne, ⟨gi, l1, g1⟩, gj, l2, g2⟩
theorem stepsH_ends {lev : Int} {xs : List S50} {y : S80} (h : y ∈ stepsH lev xs) : ∃ e ∈ allE xs, ∃ f ∈ allE xs, y.f0 = e.f1 ∧ y.f1 = f.f2 := by
  rcases stepsH_is h with ⟨e, he, rfl, _⟩ | ⟨_, e, he, f, hf, rfl, _⟩
  · exact ⟨e, he, e, he, rfl, rfl⟩
  · exact ⟨e, he, f, hf, rfl, rfl⟩
theorem txn_ok {xs : List S50} (hS : ∀ y ∈ xs, EvS y) {i : Nat} (hi : i < xs.length) : IntS (nth (evs xs) i).txn := by
  have : (nth (evs xs) i).txn = (xs[i]).f1 := by
    unfold nth evs
    rw [List.getD_eq_getElem?_getD, List.getElem?_map, List.getElem?_eq_getElem hi]
    rfl
  rw [this]
  exact (hS _ (List.getElem_mem hi)).2.1
theorem stepsH_ok {lev : Int} {xs : List S50} (hS : ∀ y ∈ xs, EvS y) : stepsOk (stepsH lev xs) = true := stepsOk_iff.2 fun y hy => by
  obtain ⟨e, he, f, hf, h1, h2⟩ := stepsH_ends hy
  obtain ⟨_, _, _, ⟨i, hi, hi2⟩, _⟩ := allE_ends he
  obtain ⟨_, _, _, _, ⟨j, hj, hj2⟩⟩ := allE_ends hf
  rw [h1, h2, hi2, hj2]
  exact ⟨txn_ok hS hi, txn_ok hS hj⟩
/-- The committed transactions. -/
theorem mem_nodes {l : List Ev} {t : Int} : t ∈ nodesS l ↔ comOf l t = true := by
  unfold nodesS
  rw [Rg.mem_sortD]
  constructor
  · intro h
    obtain ⟨x, hx, rfl⟩ := List.mem_map.1 h
    obtain ⟨hx1, hx2⟩ := List.mem_filter.1 hx
    obtain ⟨j, hj, h1, h2, h3⟩ := mem_lives hx1
    obtain ⟨j', _, _, _, hx'⟩ := (mem_livesFrom l _ _ x).1 hx1
    have e1 : x.txn = (nth l j').txn := by rw [hx']; unfold lifeOf; split <;> rfl
    have e2 : x.from_ = (j' : Int) := by rw [hx']; unfold lifeOf; split <;> rfl
    have : j' = j := by rw [h3] at e2; omega
    subst this
    have hfc := find_comS l (nth l j').txn
    rw [h2] at hfc
    rw [e1, ← hfc]
    exact hx2
  · intro h
    obtain ⟨h1, h2, h3⟩ := comOf_end h
    obtain ⟨e, he, hel, het, _⟩ := endOf_place h1
    have hf0 : 0 ≤ firstOf l t := by
      rcases Int.lt_or_le (firstOf l t) 0 with z | z
      · exact absurd het (firstOf_neg z e hel)
      · exact z
    obtain ⟨f, hf⟩ := Int.eq_ofNat_of_zero_le hf0
    have hm := lives_mem (l := l) (t := t) (f := f) hf
    have hc := find_comS l t
    refine List.mem_map.2 ⟨_, List.mem_filter.2 ⟨hm, by rw [hc]; exact h⟩, ?_⟩
    unfold findL
    rw [if_neg (by omega)]
    split <;> rfl
theorem stepsH_nodes {lev : Int} {xs : List S50} {y : S80} (h : y ∈ stepsH lev xs) : fr_ y ∈ nodesS (evs xs) ∧ to_ y ∈ nodesS (evs xs) := by
  obtain ⟨e, he, f, hf, h1, h2⟩ := stepsH_ends h
  exact ⟨mem_nodes.2 (by show comOf _ y.f0 = true; rw [h1]; exact (allE_ends he).1), mem_nodes.2 (by show comOf _ y.f1 = true; rw [h2]; exact (allE_ends hf).2.1)⟩

theorem ring_len_le (l : List S80) : (Rg.ring fr_ to_ l).1.length ≤ l.length := by
  have hs := Rg.sortD_len (l.map fr_)
  rw [List.length_map] at hs
  by_cases h : (Rg.ring fr_ to_ l).2 = true
  · obtain ⟨a, n, h1, h2, h3, h4, _⟩ := Rg.ring_true fr_ to_ h
    rw [h4]
    unfold Rg.find1 Rg.froms at h2
    have := (Rg.ringGo_some fr_ to_ l _ _ _ _ _ h2).2.1
    omega
  · rw [(Rg.ring_false fr_ to_ (by simpa using h)).2]; simp
def evsOk (l : List S50) : Bool := l.all fun x => (Lit.int .i64 x.f0).wf && ((Lit.int .i64 x.f1).wf && (decide (x.f2.size ≤ maxLen) && decide (x.f3.size ≤ maxLen)))
theorem evsOk_iff {l : List S50} : evsOk l = true ↔ ∀ y ∈ l, EvS y := by
  unfold evsOk
  rw [List.all_eq_true]
  refine forall_congr' fun y => forall_congr' fun _ => ?_
  unfold EvS
  rw [Bool.and_eq_true, Bool.and_eq_true, Bool.and_eq_true, decide_eq_true_eq, decide_eq_true_eq]
end Go.Proofs.YtebjiimlcnmfpaaGreatPr
