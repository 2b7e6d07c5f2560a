/-
  Plain laws: what a well formed history says of its events; what is wrong with a read, said in words.
-/
import Derived.Test.YthjgmccpbcelgaaPl1
import Derived.Test.YthjgmccpbcelgaaTSpec
namespace Go.Proofs.Ythjgmccpbcelgaa
open Go Go.RowKit Go.Proofs
set_option linter.unusedSimpArgs false
set_option linter.unusedVariables false

theorem nth_take {l : List Ev} {m k : Nat} (h : k < m) : nth (l.take m) k = nth l k := by
  unfold nth; simp [List.getD_eq_getElem?_getD, List.getElem?_take, h]

/-- The place of the first one: none, or it is there and none lies ahead of it. -/
theorem idx_nth (p : Ev → Bool) (l : List Ev) : (idx p l 0 = -1 ∧ ∀ j, j < l.length → p (nth l j) = false) ∨ ∃ k : Nat, k < l.length ∧ idx p l 0 = k ∧ p (nth l k) = true ∧ ∀ j, j < k → p (nth l j) = false := by
  rcases idx_spec p l 0 with ⟨h, h2⟩ | ⟨k, hk, h, h2, h3⟩
  · exact .inl ⟨h, fun j hj => by rw [nth_lt hj]; exact h2 _ (List.getElem_mem hj)⟩
  · refine .inr ⟨k, hk, by simpa using h, by rw [nth_lt hk]; exact h2, fun j hj => ?_⟩
    rw [nth_lt (show j < l.length by omega)]
    exact h3 j hj

theorem lastIdx_spec {α : Type} (p : α → Bool) : ∀ (l : List α) (i : Nat) (d : Int), (lastIdx p l i d = d ∧ ∀ x ∈ l, p x = false) ∨ ∃ k, ∃ h : k < l.length, lastIdx p l i d = ((i + k : Nat) : Int) ∧ p l[k] = true ∧ ∀ j, ∀ h : j < l.length, k < j → p l[j] = false
  | [], i, d => .inl ⟨rfl, fun _ h => by cases h⟩
  | x :: r, i, d => by
    rw [lastIdx_cons]
    rcases lastIdx_spec p r (i + 1) (if p x then (i : Int) else d) with ⟨h, h2⟩ | ⟨k, hk, h, h2, h3⟩
    · by_cases hp : p x = true
      · refine .inr ⟨0, by simp, ?_, hp, fun j hj hj0 => ?_⟩
        · rw [show ((i : Int) + 1) = ((i + 1 : Nat) : Int) by omega, h, if_pos hp]; simp
        · obtain ⟨m, rfl⟩ := Nat.exists_eq_succ_of_ne_zero (show j ≠ 0 by omega)
          exact h2 _ (List.getElem_mem _)
      · refine .inl ⟨?_, fun y hy => ?_⟩
        · rw [show ((i : Int) + 1) = ((i + 1 : Nat) : Int) by omega, h, if_neg hp]
        · rcases List.mem_cons.1 hy with rfl | hy
          · simpa using hp
          · exact h2 y hy
    · refine .inr ⟨k + 1, by simpa using hk, ?_, by simpa using h2, fun j hj hjk => ?_⟩
      · rw [show ((i : Int) + 1) = ((i + 1 : Nat) : Int) by omega, h]; omega
      · obtain ⟨m, rfl⟩ := Nat.exists_eq_succ_of_ne_zero (show j ≠ 0 by omega)
        have := h3 m (by simpa using hj) (by omega)
        simpa using this

/-- The place of the last one ahead of m. -/
theorem last_nth (p : Ev → Bool) (l : List Ev) (m : Nat) : (lastIdx p (l.take m) 0 (-1) = -1 ∧ ∀ j, j < l.length → j < m → p (nth l j) = false) ∨ ∃ k : Nat, k < l.length ∧ k < m ∧ lastIdx p (l.take m) 0 (-1) = k ∧ p (nth l k) = true ∧ ∀ j, j < l.length → j < m → k < j → p (nth l j) = false := by
  rcases lastIdx_spec p (l.take m) 0 (-1) with ⟨h, h2⟩ | ⟨k, hk, h, h2, h3⟩
  · refine .inl ⟨h, fun j hj hm => ?_⟩
    have hj' : j < (l.take m).length := by simp; omega
    rw [← nth_take hm, nth_lt hj']; exact h2 _ (List.getElem_mem hj')
  · have hk' : k < l.length ∧ k < m := by simp at hk; omega
    refine .inr ⟨k, hk'.1, hk'.2, by simpa using h, by rw [← nth_take hk'.2, nth_lt hk]; exact h2, fun j hj hm hkj => ?_⟩
    have hj' : j < (l.take m).length := by simp; omega
    rw [← nth_take hm, nth_lt hj']; exact h3 j hj' hkj

/-- What a well formed history says. -/
structure Wf (l : List Ev) : Prop where
  len : l.length ≤ 256
  step : ∀ j, j < l.length → stepErr l j = 0
  clos : ∀ j, j < l.length → 0 ≤ endOf l (nth l j).txn

theorem firstErr_ok {f : Nat → Int} : ∀ {m i : Nat}, (firstErr f m i).2 = 0 → ∀ j, i ≤ j → j < i + m → f j = 0
  | 0, i, _, j, h1, h2 => by omega
  | m + 1, i, h, j, h1, h2 => by
    unfold firstErr at h
    by_cases hf : f i = 0
    · rw [if_pos hf] at h
      by_cases e : j = i
      · rw [e]; exact hf
      · exact firstErr_ok h j (by omega) (by omega)
    · rw [if_neg hf] at h; exact absurd h hf
theorem firstErr_of {f : Nat → Int} : ∀ {m i : Nat}, (∀ j, i ≤ j → j < i + m → f j = 0) → firstErr f m i = (((i + m : Nat) : Int), 0)
  | 0, i, _ => rfl
  | m + 1, i, h => by
    unfold firstErr
    rw [if_pos (h i (by omega) (by omega)), firstErr_of (fun j h1 h2 => h j (by omega) (by omega))]
    rw [show i + 1 + m = i + (m + 1) by omega]

theorem formed_wf {l : List Ev} (h : (formed l).2 = 0) : Wf l := by
  unfold formed at h
  by_cases h1 : 256 < l.length
  · rw [if_pos h1] at h; cases h
  · rw [if_neg h1] at h
    by_cases h2 : (firstErr (stepErr l) l.length 0).2 ≠ 0
    · rw [if_pos h2] at h; exact absurd h h2
    · rw [if_neg h2] at h
      refine ⟨by omega, fun j hj => firstErr_ok (by simpa using h2) j (by omega) (by omega), fun j hj => ?_⟩
      have := firstErr_ok (f := openErr l) (m := l.length) (i := 0) h j (by omega) (by omega)
      unfold openErr at this
      split at this
      · cases this
      · omega
theorem wf_formed {l : List Ev} (h : Wf l) : formed l = ((l.length : Int), 0) := by
  have h1 := firstErr_of (f := stepErr l) (m := l.length) (i := 0) (fun j _ hj => h.step j (by omega))
  have h2 := firstErr_of (f := openErr l) (m := l.length) (i := 0) (fun j _ hj => by unfold openErr; rw [if_neg (by have := h.clos j (by omega); omega)])
  unfold formed
  rw [if_neg (by have := h.len; omega), h1, if_neg (by simp), h2]

theorem Wf.may {l : List Ev} (h : Wf l) {j : Nat} (hj : j < l.length) : MayP (nth l j) := by
  have := h.step j hj
  rw [← may_iff]
  unfold stepErr at this
  cases hm : Go.Proofs.Ythjgmccpbcelgaa.may (nth l j) with
  | true => rfl
  | false => rw [if_pos hm] at this; cases this

/-- An event that is no beginning has a beginning ahead of it, and no end. -/
theorem Wf.mid {l : List Ev} (h : Wf l) {j : Nat} (hj : j < l.length) (hk : (nth l j).kind ≠ 1) : 0 ≤ firstOf (l.take j) (nth l j).txn ∧ endOf (l.take j) (nth l j).txn < 0 := by
  have := h.step j hj
  unfold stepErr at this
  split at this
  · cases this
  · split at this
    · contradiction
    · split at this
      · cases this
      · split at this
        · cases this
        · omega
theorem Wf.noEnd {l : List Ev} (h : Wf l) {j i : Nat} (hj : j < l.length) (hk : (nth l j).kind ≠ 1) (hi : i < j) (ht : (nth l i).txn = (nth l j).txn) : ends (nth l i) = false := by
  have h1 := (h.mid hj hk).2
  unfold endOf at h1
  rcases idx_nth (endsOf (nth l j).txn) (l.take j) with ⟨_, h2⟩ | ⟨k, _, h2, _⟩
  · have := h2 i (by simp; omega)
    rw [nth_take hi] at this
    simpa [endsOf, ht] using this
  · omega
/-- A value is written once. -/
theorem Wf.once {l : List Ev} (h : Wf l) {i j : Nat} (hj : j < l.length) (hij : i < j) (h1 : (nth l i).kind = 3) (h2 : (nth l j).kind = 3) : (nth l i).val ≠ (nth l j).val := by
  intro hv
  have hs := h.step j hj
  have hm := h.mid hj (by omega)
  have hmay : Go.Proofs.Ythjgmccpbcelgaa.may (nth l j) = true := (may_iff _).2 (h.may hj)
  unfold stepErr at hs
  rw [if_neg (by rw [hmay]; simp), if_neg (by omega), if_neg (by omega), if_neg (by omega), if_pos] at hs
  · cases hs
  · refine ⟨h2, List.any_eq_true.2 ⟨nth l i, ?_, by simp [twice, h1, hv]⟩⟩
    rw [nth_lt (show i < l.length by omega)]
    rw [List.mem_take_iff_getElem]
    exact ⟨i, by omega, rfl⟩

/-- What is wrong with a read, in words. -/
structure Says (l : List Ev) (k u : Nat) (c : Int) : Prop where
  hk : k < l.length
  hu : u < l.length
  read : (nth l k).kind = 2
  write : (nth l u).kind = 3
  key : (nth l u).key = (nth l k).key
  com : comOf l (nth l k).txn = true
  why : (c = 1 ∧ comOf l (nth l u).txn = false ∧ (nth l u).val = (nth l k).val ∧ (nth l u).txn ≠ (nth l k).txn) ∨
        (c = 2 ∧ comOf l (nth l u).txn = true ∧ (nth l u).val ≠ (nth l k).val ∧ (nth l u).txn ≠ (nth l k).txn) ∨
        (c = 3 ∧ (nth l u).txn = (nth l k).txn ∧ u < k ∧ (nth l u).val ≠ (nth l k).val) ∨
        (c = 4 ∧ (nth l u).txn = (nth l k).txn ∧ k < u ∧ (nth l u).val = (nth l k).val)

theorem badAt_says {l : List Ev} (hw : Wf l) {i : Int} (h : (badAt l i).kind ≠ 0) : ∃ k u : Nat, i = k ∧ badAt l i = ⟨(badAt l i).kind, k, u⟩ ∧ Says l k u (badAt l i).kind := by
  cases hc : counts l i with
  | false => unfold badAt at h; rw [if_pos hc] at h; exact absurd rfl h
  | true =>
    have hc' := hc
    simp only [counts, Bool.and_eq_true, decide_eq_true_eq, beq_iff_eq] at hc'
    obtain ⟨h0, h1, h2, h3, h4⟩ := hc'
    obtain ⟨k, rfl⟩ := Int.eq_ofNat_of_zero_le h0
    simp only [Int.toNat_natCast] at h2 h3 h4
    have hk : k < l.length := by omega
    refine ⟨k, ?_⟩
    have hb : badAt l k = if 0 ≤ lastOf l (nth l k).txn (nth l k).key k then ownBad l k (lastOf l (nth l k).txn (nth l k).key k)
        else if (nth l k).val = ByteArray.empty then Bad.z else if writer l (nth l k).key (nth l k).val < 0 then Bad.z else badW l k (writer l (nth l k).key (nth l k).val) := by
      unfold badAt; rw [if_neg (by rw [hc]; simp)]; simp only [Int.toNat_natCast]
    rcases last_nth (wroteBy (nth l k).txn (nth l k).key) l k with ⟨g, g2⟩ | ⟨u, hu, huk, g, g2, _⟩
    · have g' : lastOf l (nth l k).txn (nth l k).key k = -1 := by unfold lastOf; simpa using g
      rw [g', if_neg (by omega)] at hb
      by_cases hv : (nth l k).val = ByteArray.empty
      · rw [if_pos hv] at hb; rw [hb] at h; exact absurd rfl h
      · rw [if_neg hv] at hb
        rcases idx_nth (writes (nth l k).key (nth l k).val) l with ⟨e, _⟩ | ⟨w, hwl, e, e2, _⟩
        · rw [show writer l (nth l k).key (nth l k).val = -1 from e, if_pos (by omega)] at hb
          rw [hb] at h; exact absurd rfl h
        · rw [show writer l (nth l k).key (nth l k).val = w from e, if_neg (by omega)] at hb
          simp only [writes, Bool.and_eq_true, beq_iff_eq, decide_eq_true_eq] at e2
          obtain ⟨w1, w2, w3⟩ := e2
          unfold badW at hb
          simp only [Int.toNat_natCast] at hb
          by_cases ht : (nth l w).txn = (nth l k).txn
          · rw [if_pos ht] at hb
            have hne : w ≠ k := fun e => by rw [e] at w1; omega
            have hkw : k < w := by
              rcases Nat.lt_or_ge k w with hl | hl
              · exact hl
              · have := g2 w hwl (by omega)
                simp [wroteBy, w1, w2, ht] at this
            exact ⟨w, rfl, by rw [hb], by rw [hb]; exact ⟨hk, hwl, h2, w1, w2, h3, .inr (.inr (.inr ⟨rfl, ht, hkw, w3⟩))⟩⟩
          · rw [if_neg ht] at hb
            by_cases hcw : comOf l (nth l w).txn = false
            · rw [if_pos hcw] at hb
              exact ⟨w, rfl, by rw [hb], by rw [hb]; exact ⟨hk, hwl, h2, w1, w2, h3, .inl ⟨rfl, hcw, w3, ht⟩⟩⟩
            · rw [if_neg hcw] at hb
              have hcw' : comOf l (nth l w).txn = true := by simpa using hcw
              obtain ⟨c1, c2, c3⟩ := comOf_end hcw'
              obtain ⟨E, hE⟩ := Int.eq_ofNat_of_zero_le c1
              rw [hE] at hb c3
              simp only [Int.toNat_natCast] at c3
              have hEl : E < l.length := by omega
              have hEe : endsOf (nth l w).txn (nth l E) = true := by
                rcases idx_nth (endsOf (nth l w).txn) l with ⟨q, _⟩ | ⟨m, _, q, q2, _⟩
                · have : endOf l (nth l w).txn = -1 := q
                  omega
                · have : endOf l (nth l w).txn = m := q
                  obtain rfl : m = E := by omega
                  exact q2
              simp only [endsOf, Bool.and_eq_true, beq_iff_eq] at hEe
              have hwE : w < E := by
                rcases Nat.lt_or_ge w E with hl | hl
                · exact hl
                · have hne : w ≠ E := fun e => by rw [e] at w1; omega
                  have := hw.noEnd hwl (by omega) (show E < w by omega) hEe.1
                  rw [hEe.2] at this; cases this
              rcases last_nth (wroteBy (nth l w).txn (nth l k).key) l E with ⟨q, q2⟩ | ⟨u, hu, huE, q, q2, q3⟩
              · have := q2 w hwl hwE
                simp [wroteBy, w1, w2] at this
              · have q' : lastOf l (nth l w).txn (nth l k).key E = u := by unfold lastOf; simpa using q
                rw [q'] at hb
                by_cases huw : (u : Int) = w
                · rw [if_pos huw] at hb; rw [hb] at h; exact absurd rfl h
                · rw [if_neg huw] at hb
                  simp only [wroteBy, Bool.and_eq_true, beq_iff_eq, decide_eq_true_eq] at q2
                  obtain ⟨u1, u2, u3⟩ := q2
                  have hval : (nth l u).val ≠ (nth l k).val := by
                    rw [← w3]
                    rcases Nat.lt_or_ge u w with hl | hl
                    · exact hw.once hwl hl u1 w1
                    · exact fun e => hw.once hu (show w < u by omega) w1 u1 e.symm
                  exact ⟨u, rfl, by rw [hb], by rw [hb]; exact ⟨hk, hu, h2, u1, u3, h3, .inr (.inl ⟨rfl, by rw [u2]; exact hcw', hval, by rw [u2]; exact ht⟩)⟩⟩
    · have g' : lastOf l (nth l k).txn (nth l k).key k = u := by unfold lastOf; simpa using g
      rw [g', if_pos (by omega)] at hb
      simp only [wroteBy, Bool.and_eq_true, beq_iff_eq, decide_eq_true_eq] at g2
      obtain ⟨u1, u2, u3⟩ := g2
      unfold ownBad at hb
      simp only [Int.toNat_natCast] at hb
      by_cases hv : (nth l k).val = (nth l u).val
      · rw [if_pos hv] at hb; rw [hb] at h; exact absurd rfl h
      · rw [if_neg hv] at hb
        exact ⟨u, rfl, by rw [hb], by rw [hb]; exact ⟨hk, hu, h2, u1, u3, h3, .inr (.inr (.inl ⟨rfl, u2, huk, fun e => hv e.symm⟩))⟩⟩
end Go.Proofs.Ythjgmccpbcelgaa
