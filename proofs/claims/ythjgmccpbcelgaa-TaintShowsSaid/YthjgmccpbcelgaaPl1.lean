/-
  Plain laws: what the program's functions of chapter 8 compute is what the reference's do.
-/
import Derived.Test.YthjgmccpbcelgaaSpec
namespace Go.Proofs.Ythjgmccpbcelgaa
open Go Go.RowKit

theorem nth_lt {l : List Ev} {k : Nat} (h : k < l.length) : nth l k = l[k] := by simp [nth, List.getD_eq_getElem?_getD, h]

/-- The places of a row of which p holds, and what looking for the first one tells. -/
theorem idx_spec {α : Type} (p : α → Bool) : ∀ (l : List α) (i : Nat), (idx p l i = -1 ∧ ∀ x ∈ l, p x = false) ∨ ∃ k, ∃ h : k < l.length, idx p l i = ((i + k : Nat) : Int) ∧ p l[k] = true ∧ ∀ j, ∀ h : j < k, p (l[j]'(by omega)) = false
  | [], i => .inl ⟨rfl, fun _ h => by cases h⟩
  | x :: r, i => by
    rw [idx_cons]
    by_cases hp : p x = true
    · rw [if_pos hp]
      exact .inr ⟨0, by simp, by simp, hp, fun j h => by omega⟩
    · rw [if_neg hp]
      have hp' : p x = false := by simpa using hp
      rcases idx_spec p r (i + 1) with ⟨h1, h2⟩ | ⟨k, hk, h1, h2, h3⟩
      · refine .inl ⟨by exact_mod_cast h1, fun y hy => ?_⟩
        rcases List.mem_cons.1 hy with rfl | hy
        · exact hp'
        · exact h2 y hy
      · refine .inr ⟨k + 1, by simp; omega, ?_, by simpa using h2, fun j hj => ?_⟩
        · have : idx p r (i + 1) = ((i + 1 + k : Nat) : Int) := by exact_mod_cast h1
          rw [this]; congr 1; omega
        · cases j with
          | zero => exact hp'
          | succ j => simpa using h3 j (by omega)

theorem ofs_snoc_find (txn : Int) (l : List Ev) (k : Nat) (hk : k ≤ l.length) (h : ∀ j, ∀ hj : j < k, endsOf txn (l[j]'(by omega)) = false) : (ofs txn (l.take k)).find? (fun p => ends p.1) = none := by
  induction k with
  | zero => simp [ofs]
  | succ k ih =>
    rw [ofs_step txn l (by omega), List.find?_append, ih (by omega) (fun j hj => h j (by omega))]
    have hk' := h k (by omega)
    by_cases hp : isOf txn (nth l k) = true
    · rw [if_pos hp]
      have : ends (nth l k) = false := by
        rw [nth_lt (by omega)] at hp ⊢
        simp only [endsOf, isOf] at hk' hp
        rw [hp] at hk'
        simpa using hk'
      simp [this]
    · rw [if_neg hp]; rfl

theorem ofs_find (txn : Int) (l : List Ev) : (ofs txn l).find? (fun p => ends p.1) = if endOf l txn < 0 then none else some (nth l (endOf l txn).toNat, (endOf l txn).toNat) := by
  rcases idx_spec (endsOf txn) l 0 with ⟨h1, h2⟩ | ⟨k, hk, h1, h2, h3⟩
  · have e : endOf l txn = -1 := h1
    rw [e, if_pos (by omega)]
    have := ofs_snoc_find txn l l.length (by omega) (fun j hj => h2 _ (List.getElem_mem _))
    rwa [List.take_of_length_le (by omega)] at this
  · have e : endOf l txn = (k : Int) := by rw [endOf]; simpa using h1
    rw [e, if_neg (by omega), Int.toNat_natCast]
    have hs := ofs_step txn l hk
    have hof : isOf txn (nth l k) = true := by
      rw [nth_lt hk]; simp only [endsOf] at h2; simp [isOf]; simp at h2; exact h2.1
    have hen : ends (nth l k) = true := by
      rw [nth_lt hk]; simp only [endsOf] at h2; simp at h2; exact h2.2
    rw [if_pos hof] at hs
    have hpre : ofs txn (l.take k) ++ [(nth l k, k)] <+: ofs txn l := by rw [← hs]; exact ofs_prefix txn l
    refine find_prefix hpre (fun y hy => ?_) hen
    have := ofs_snoc_find txn l k (by omega) h3
    rw [List.find?_eq_none] at this
    simpa using this y hy

theorem firstOf_spec (l : List Ev) (txn : Int) {k : Nat} (h : firstOf l txn = (k : Int)) : k < l.length ∧ (nth l k).txn = txn := by
  rcases idx_spec (isOf txn) l 0 with ⟨h1, _⟩ | ⟨j, hj, h1, h2, _⟩
  · have e : firstOf l txn = -1 := h1
    omega
  · have e : firstOf l txn = (j : Int) := by rw [firstOf]; simpa using h1
    have : j = k := by omega
    subst this
    exact ⟨hj, by rw [nth_lt hj]; simpa [isOf] using h2⟩

theorem lifeOf_find (l : List Ev) (txn : Int) {k : Nat} (h : firstOf l txn = (k : Int)) : findL l txn = (lifeOf l k, true) := by
  obtain ⟨hk, ht⟩ := firstOf_spec l txn h
  unfold findL lifeOf
  rw [if_neg (by omega), ht, ofs_find, h]
  by_cases he : endOf l txn < 0
  · rw [if_pos he, if_pos he]
  · rw [if_neg he, if_neg he]
    have : ((endOf l txn).toNat : Int) = endOf l txn := Int.toNat_of_nonneg (by omega)
    simp only [this]

/-- The program's loop over a transaction's events, and the reference's over all. -/
theorem lastIdx_append {α : Type} (p : α → Bool) : ∀ (l r : List α) (i d : Int), lastIdx p (l ++ r) i d = lastIdx p r (i + l.length) (lastIdx p l i d)
  | [], r, i, d => by simp [lastIdx]
  | x :: l, r, i, d => by
    rw [List.cons_append, lastIdx_cons, lastIdx_append p l r, lastIdx_cons]
    congr 1
    simp; omega

def lastStep (key : ByteArray) (before : Int) (d : Int) (p : Ev × Nat) : Int := if (p.2 : Int) < before ∧ p.1.kind = 3 ∧ p.1.key = key then (p.2 : Int) else d
def lastFold (key : ByteArray) (before : Int) (ps : List (Ev × Nat)) : Int := ps.foldl (lastStep key before) (-1)
theorem lastFold_snoc (key : ByteArray) (before : Int) (ps : List (Ev × Nat)) (p : Ev × Nat) : lastFold key before (ps ++ [p]) = lastStep key before (lastFold key before ps) p := by simp [lastFold]

theorem lastFold_take (key : ByteArray) (before txn : Int) (l : List Ev) (k : Nat) (hk : k ≤ l.length) : lastFold key before (ofs txn (l.take k)) = lastIdx (wroteBy txn key) ((l.take k).take before.toNat) 0 (-1) := by
  induction k with
  | zero => simp [ofs, lastFold, lastIdx]
  | succ k ih =>
    have ih := ih (by omega)
    have e : l.take (k + 1) = l.take k ++ [nth l k] := by
      rw [List.take_succ_eq_append_getElem (by omega), nth_lt (by omega)]
    have hlen : (l.take k).length = k := by rw [List.length_take]; omega
    rw [ofs_step txn l (by omega)]
    by_cases hb : (k : Int) < before
    · have e2 : (l.take (k + 1)).take before.toNat = l.take k ++ [nth l k] := by rw [e]; exact List.take_of_length_le (by simp; omega)
      have e3 : (l.take k).take before.toNat = l.take k := List.take_of_length_le (by omega)
      rw [e2, lastIdx_append, hlen]
      rw [e3] at ih
      rw [← ih, lastIdx_cons]
      by_cases hp : isOf txn (nth l k) = true
      · rw [if_pos hp, lastFold_snoc, lastStep]
        have ht : (nth l k).txn = txn := by simpa [isOf] using hp
        simp [hb, wroteBy, ht, lastIdx]
      · rw [if_neg hp, List.append_nil]
        have ht : ¬ (nth l k).txn = txn := by simpa [isOf] using hp
        simp [wroteBy, ht, lastIdx]
    · have e2 : (l.take (k + 1)).take before.toNat = (l.take k).take before.toNat := by
        rw [e, List.take_append_of_le_length (by omega)]
      rw [e2, ← ih]
      by_cases hp : isOf txn (nth l k) = true
      · rw [if_pos hp, lastFold_snoc, lastStep, if_neg (by omega)]
      · rw [if_neg hp, List.append_nil]

theorem lastFold_eq (key : ByteArray) (before txn : Int) (l : List Ev) : lastFold key before (ofs txn l) = lastOf l txn key before := by
  have := lastFold_take key before txn l l.length (by omega)
  rwa [List.take_of_length_le (by omega)] at this

end Go.Proofs.Ythjgmccpbcelgaa
