/-
  What the edges say: plain facts.
-/
import Derived.Test.YthjgmccpbcelgaaA12
set_option linter.unusedVariables false
set_option linter.unusedSimpArgs false
namespace Go.Proofs.Ythjgmccpbcelgaa
section
open Go

theorem mem_putE {l : List Ev} {kind : Int} {i k : Nat} {e : Edge} (h : e ∈ putE l kind i k) : (nth l i).txn ≠ (nth l k).txn ∧ e = ⟨kind, (nth l i).txn, (nth l k).txn, i, k⟩ := by
  unfold putE at h
  split at h
  · cases h
  · rename_i hn
    exact ⟨hn, List.mem_singleton.1 h⟩
theorem vers_good {l : List Ev} {key : ByteArray} {x : Int} (hm : x ∈ versions l key) : ∃ u : Nat, x = u ∧ u < l.length ∧ (nth l u).key = key ∧ (nth l u).kind = 3 ∧ comOf l (nth l u).txn = true := by
  obtain ⟨i, _, hi⟩ := List.mem_filterMap.1 hm
  unfold verAt at hi
  split at hi
  · rename_i hc
    injection hi with hi
    obtain ⟨hk, he, h0⟩ := hc
    rcases last_nth (wroteBy (nth l i).txn key) l (i : Int).toNat with ⟨e, _⟩ | ⟨u, h1, _, h2, h3, _⟩
    · exfalso
      unfold lastOf at h0
      omega
    · have hw : (nth l u).kind = 3 ∧ (nth l u).txn = (nth l i).txn ∧ (nth l u).key = key := by simpa [wroteBy] using h3
      refine ⟨u, by rw [← hi]; exact h2, h1, hw.2.2, hw.1, ?_⟩
      unfold comOf
      rw [hw.2.1, he]
      simp [hk]
  · cases hi
theorem inth_mem {l : List Int} {q : Nat} (h : q < l.length) : inth l q ∈ l := by
  unfold inth
  rw [List.getD_eq_getElem?_getD, List.getElem?_eq_getElem h]
  exact List.getElem_mem _
theorem outer_com {l : List Ev} {i : Nat} (h : outer l i = true) : comOf l (nth l i).txn = true := by
  unfold outer counts at h
  simp at h
  exact h.1.2.2.1
def GoodE (l : List Ev) (e : Edge) : Prop := ∃ i j : Nat, e.i = i ∧ e.j = j ∧ i < l.length ∧ j < l.length ∧ e.from_ = (nth l i).txn ∧ e.to_ = (nth l j).txn ∧ (nth l i).txn ≠ (nth l j).txn ∧ (nth l i).key = (nth l j).key ∧ comOf l (nth l i).txn = true ∧ comOf l (nth l j).txn = true ∧ (e.kind = 1 ∨ e.kind = 2 ∨ e.kind = 3)
theorem put_good {l : List Ev} {kind : Int} {i k : Nat} {e : Edge} {key : ByteArray} (h : e ∈ putE l kind i k) (hi : i < l.length ∧ (nth l i).key = key ∧ comOf l (nth l i).txn = true) (hk : k < l.length ∧ (nth l k).key = key ∧ comOf l (nth l k).txn = true) (hc : kind = 1 ∨ kind = 2 ∨ kind = 3) : GoodE l e := by
  obtain ⟨h1, rfl⟩ := mem_putE h
  exact ⟨i, k, rfl, rfl, hi.1, hk.1, rfl, rfl, h1, hi.2.1.trans hk.2.1.symm, hi.2.2, hk.2.2, hc⟩
theorem of_good {l : List Ev} {key : ByteArray} {e : Edge} (h : e ∈ ofE l key) : GoodE l e := by
  unfold ofE at h
  rcases List.mem_append.1 h with h | h
  · obtain ⟨q, hq, he⟩ := List.mem_flatMap.1 h
    have hq' := List.mem_range.1 hq
    obtain ⟨u0, a0, b0, c0, _, d0⟩ := vers_good (inth_mem (l := versions l key) (q := q) (by omega))
    obtain ⟨u1, a1, b1, c1, _, d1⟩ := vers_good (inth_mem (l := versions l key) (q := q + 1) (by omega))
    unfold verE at he
    rw [a0, a1, Int.toNat_natCast, Int.toNat_natCast] at he
    exact put_good he ⟨b0, c0, d0⟩ ⟨b1, c1, d1⟩ (.inl rfl)
  · obtain ⟨i, hi, he⟩ := List.mem_flatMap.1 h
    have hi' := List.mem_range.1 hi
    unfold readE at he
    by_cases c1 : (nth l i).key = key ∧ outer l i = true
    · rw [if_pos c1] at he
      have hI := And.intro hi' (And.intro c1.1 (outer_com c1.2))
      have hs := seen_range l (versions l key) i
      by_cases c2 : seen l (versions l key) i < 0 ∧ (nth l i).val ≠ ByteArray.empty
      · rw [if_pos c2] at he; cases he
      · rw [if_neg c2] at he
        rcases List.mem_append.1 he with he | he
        · by_cases c3 : 0 ≤ seen l (versions l key) i
          · rw [if_pos c3] at he
            obtain ⟨u, a, b, c, _, d⟩ := vers_good (inth_mem (l := versions l key) (q := (seen l (versions l key) i).toNat) (by omega))
            rw [a, Int.toNat_natCast] at he
            exact put_good he ⟨b, c, d⟩ hI (.inr (.inl rfl))
          · rw [if_neg c3] at he; cases he
        · by_cases c3 : seen l (versions l key) i + 1 < (versions l key).length
          · rw [if_pos c3] at he
            obtain ⟨u, a, b, c, _, d⟩ := vers_good (inth_mem (l := versions l key) (q := (seen l (versions l key) i + 1).toNat) (by omega))
            rw [a, Int.toNat_natCast] at he
            exact put_good he hI ⟨b, c, d⟩ (.inr (.inr rfl))
          · rw [if_neg c3] at he; cases he
    · rw [if_neg c1] at he; cases he
theorem com_find {l : List Ev} {t : Int} (h : comOf l t = true) : (findL l t).1.com = true := by
  unfold comOf at h
  have h' : 0 ≤ endOf l t ∧ (nth l (endOf l t).toNat).kind = 4 := by simpa using h
  obtain ⟨e, _, he1, he2, _⟩ := endOf_place h'.1
  have hf : ¬ firstOf l t < 0 := by
    rcases idx_nth (isOf t) l with ⟨_, hq⟩ | ⟨q, _, hq, _⟩
    · have := hq e he1
      simp [isOf, he2] at this
    · rw [firstOf, hq]; omega
  unfold findL
  rw [if_neg hf, if_neg (by omega)]
  simp [h'.2]
theorem of_len (l : List Ev) (key : ByteArray) (hl : l.length ≤ 1000) : (ofE l key).length ≤ 3000 := by
  have h1 := fm_len (verE l (versions l key)) 1 (fun q => putE_len _ _ _ _) (List.range ((versions l key).length - 1))
  have h2 := fm_len (readE l key (versions l key)) 2 (fun i => by
    unfold readE
    have p := putE_len l 2 (inth (versions l key) (seen l (versions l key) i).toNat).toNat i
    have q := putE_len l 3 i (inth (versions l key) (seen l (versions l key) i + 1).toNat).toNat
    split
    · split
      · simp
      · rw [List.length_append]
        split <;> split <;> simp <;> omega
    · simp) (List.range l.length)
  have hv := List.length_filterMap_le (verAt l key) (List.range l.length)
  have hv' : (versions l key).length ≤ l.length := by unfold versions; rw [List.length_range] at hv; exact hv
  rw [List.length_range] at h1 h2
  unfold ofE
  rw [List.length_append]
  omega
end
end Go.Proofs.Ythjgmccpbcelgaa
