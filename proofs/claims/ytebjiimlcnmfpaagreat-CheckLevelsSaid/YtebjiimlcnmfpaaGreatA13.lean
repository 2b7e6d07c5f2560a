/-
  What the edges say: plain facts; of order and values.
-/
import Derived.Test.YtebjiimlcnmfpaaGreatA12
/-! What the edges say: plain facts. -/
set_option linter.unusedVariables false
set_option linter.unusedSimpArgs false
namespace Go.Proofs.YtebjiimlcnmfpaaGreat
section
section
open Go

theorem mem_putE {l : List Ev} {kind : Int} {i k : Nat} {e : Edge} (h : e ∈ putE l kind i k) : (nth l i).txn ≠ (nth l k).txn ∧ e = ⟨kind, (nth l i).txn, (nth l k).txn, i, k⟩ := by
  unfold putE at h
  split at h
  · cases h
  · rename_i hn
    exact ⟨hn, List.mem_singleton.1 h⟩
theorem vers_good {l : List Ev} {key : ByteArray} {x : Int} (hm : x ∈ versions l key) : ∃ u : Nat, x = u ∧ u < l.length ∧ (nth l u).key = key ∧ (nth l u).kind = 3 ∧ comOf l (nth l u).txn = true := by
  obtain ⟨i, _, hi⟩ := List.mem_filterMap.1 hm
  unfold verAt at hi
  split at hi
  · rename_i hc
    injection hi with hi
    obtain ⟨hk, he, h0⟩ := hc
    rcases last_nth (wroteBy (nth l i).txn key) l (i : Int).toNat with ⟨e, _⟩ | ⟨u, h1, _, h2, h3, _⟩
    · exfalso
      unfold lastOf at h0
      omega
    · have hw : (nth l u).kind = 3 ∧ (nth l u).txn = (nth l i).txn ∧ (nth l u).key = key := by simpa [wroteBy] using h3
      refine ⟨u, by rw [← hi]; exact h2, h1, hw.2.2, hw.1, ?_⟩
      unfold comOf
      rw [hw.2.1, he]
      simp [hk]
  · cases hi
theorem inth_mem {l : List Int} {q : Nat} (h : q < l.length) : inth l q ∈ l := by
  unfold inth
  rw [List.getD_eq_getElem?_getD, List.getElem?_eq_getElem h]
  exact List.getElem_mem _
theorem outer_com {l : List Ev} {i : Nat} (h : outer l i = true) : comOf l (nth l i).txn = true := by
  unfold outer counts at h
  simp at h
  exact h.1.2.2.1
def GoodE (l : List Ev) (e : Edge) : Prop := ∃ i j : Nat, e.i = i ∧ e.j = j ∧ i < l.length ∧ j < l.length ∧ e.from_ = (nth l i).txn ∧ e.to_ = (nth l j).txn ∧ (nth l i).txn ≠ (nth l j).txn ∧ (nth l i).key = (nth l j).key ∧ comOf l (nth l i).txn = true ∧ comOf l (nth l j).txn = true ∧ (e.kind = 1 ∨ e.kind = 2 ∨ e.kind = 3)
theorem put_good {l : List Ev} {kind : Int} {i k : Nat} {e : Edge} {key : ByteArray} (h : e ∈ putE l kind i k) (hi : i < l.length ∧ (nth l i).key = key ∧ comOf l (nth l i).txn = true) (hk : k < l.length ∧ (nth l k).key = key ∧ comOf l (nth l k).txn = true) (hc : kind = 1 ∨ kind = 2 ∨ kind = 3) : GoodE l e := by
  obtain ⟨h1, rfl⟩ := mem_putE h
  exact ⟨i, k, rfl, rfl, hi.1, hk.1, rfl, rfl, h1, hi.2.1.trans hk.2.1.symm, hi.2.2, hk.2.2, hc⟩
theorem of_good {l : List Ev} {key : ByteArray} {e : Edge} (h : e ∈ ofE l key) : GoodE l e := by
  unfold ofE at h
  rcases List.mem_append.1 h with h | h
  · obtain ⟨q, hq, he⟩ := List.mem_flatMap.1 h
    have hq' := List.mem_range.1 hq
    obtain ⟨u0, a0, b0, c0, _, d0⟩ := vers_good (inth_mem (l := versions l key) (q := q) (by omega))
    obtain ⟨u1, a1, b1, c1, _, d1⟩ := vers_good (inth_mem (l := versions l key) (q := q + 1) (by omega))
    unfold verE at he
    rw [a0, a1, Int.toNat_natCast, Int.toNat_natCast] at he
    exact put_good he ⟨b0, c0, d0⟩ ⟨b1, c1, d1⟩ (.inl rfl)
  · obtain ⟨i, hi, he⟩ := List.mem_flatMap.1 h
    have hi' := List.mem_range.1 hi
    unfold readE at he
    by_cases c1 : (nth l i).key = key ∧ outer l i = true
    · rw [if_pos c1] at he
      have hI := And.intro hi' (And.intro c1.1 (outer_com c1.2))
      have hs := seen_range l (versions l key) i
      by_cases c2 : seen l (versions l key) i < 0 ∧ (nth l i).val ≠ ByteArray.empty
      · rw [if_pos c2] at he; cases he
      · rw [if_neg c2] at he
        rcases List.mem_append.1 he with he | he
        · by_cases c3 : 0 ≤ seen l (versions l key) i
          · rw [if_pos c3] at he
            obtain ⟨u, a, b, c, _, d⟩ := vers_good (inth_mem (l := versions l key) (q := (seen l (versions l key) i).toNat) (by omega))
            rw [a, Int.toNat_natCast] at he
            exact put_good he ⟨b, c, d⟩ hI (.inr (.inl rfl))
          · rw [if_neg c3] at he; cases he
        · by_cases c3 : seen l (versions l key) i + 1 < (versions l key).length
          · rw [if_pos c3] at he
            obtain ⟨u, a, b, c, _, d⟩ := vers_good (inth_mem (l := versions l key) (q := (seen l (versions l key) i + 1).toNat) (by omega))
            rw [a, Int.toNat_natCast] at he
            exact put_good he hI ⟨b, c, d⟩ (.inr (.inr rfl))
          · rw [if_neg c3] at he; cases he
    · rw [if_neg c1] at he; cases he
theorem com_find {l : List Ev} {t : Int} (h : comOf l t = true) : (findL l t).1.com = true := by
  unfold comOf at h
  have h' : 0 ≤ endOf l t ∧ (nth l (endOf l t).toNat).kind = 4 := by simpa using h
  obtain ⟨e, _, he1, he2, _⟩ := endOf_place h'.1
  have hf : ¬ firstOf l t < 0 := by
    rcases idx_nth (isOf t) l with ⟨_, hq⟩ | ⟨q, _, hq, _⟩
    · have := hq e he1
      simp [isOf, he2] at this
    · rw [firstOf, hq]; omega
  unfold findL
  rw [if_neg hf, if_neg (by omega)]
  simp [h'.2]
theorem of_len (l : List Ev) (key : ByteArray) (hl : l.length ≤ 1000) : (ofE l key).length ≤ 3000 := by
  have h1 := fm_len (verE l (versions l key)) 1 (fun q => putE_len _ _ _ _) (List.range ((versions l key).length - 1))
  have h2 := fm_len (readE l key (versions l key)) 2 (fun i => by
    unfold readE
    have p := putE_len l 2 (inth (versions l key) (seen l (versions l key) i).toNat).toNat i
    have q := putE_len l 3 i (inth (versions l key) (seen l (versions l key) i + 1).toNat).toNat
    split
    · split
      · simp
      · rw [List.length_append]
        split <;> split <;> simp <;> omega
    · simp) (List.range l.length)
  have hv := List.length_filterMap_le (verAt l key) (List.range l.length)
  have hv' : (versions l key).length ≤ l.length := by unfold versions; rw [List.length_range] at hv; exact hv
  rw [List.length_range] at h1 h2
  unfold ofE
  rw [List.length_append]
  omega
end
end
end Go.Proofs.YtebjiimlcnmfpaaGreat

/-! What the edges say of order and values: plain facts. -/
namespace Go.Proofs.YtebjiimlcnmfpaaGreat
section
section
open Go

theorem verAt_end {l : List Ev} {key : ByteArray} {a : Nat} {x : Int} (h : verAt l key a = some x) : endOf l (nth l x.toNat).txn = a := by
  unfold verAt at h
  split at h
  · rename_i hc
    injection h with hi
    obtain ⟨hk, he, h0⟩ := hc
    rcases last_nth (wroteBy (nth l a).txn key) l (a : Int).toNat with ⟨e, _⟩ | ⟨u, h1, _, h2, h3, _⟩
    · exfalso
      unfold lastOf at h0
      omega
    · have hw : (nth l u).kind = 3 ∧ (nth l u).txn = (nth l a).txn ∧ (nth l u).key = key := by simpa [wroteBy] using h3
      have hx : x = u := by rw [← hi]; exact h2
      rw [hx, Int.toNat_natCast, hw.2.1, he]
  · cases h
theorem vers_rise (l : List Ev) (key : ByteArray) : (versions l key).Pairwise (fun x y => endOf l (nth l x.toNat).txn < endOf l (nth l y.toNat).txn) := by
  unfold versions
  rw [List.pairwise_filterMap]
  refine (List.pairwise_lt_range).imp ?_
  intro a b hab x hx y hy
  rw [verAt_end hx, verAt_end hy]
  omega
theorem inth_get {l : List Int} {q : Nat} (h : q < l.length) : inth l q = l[q] := by
  unfold inth
  rw [List.getD_eq_getElem?_getD, List.getElem?_eq_getElem h]
  rfl
theorem vers_next {l : List Ev} {key : ByteArray} {q : Nat} (h : q + 1 < (versions l key).length) : endOf l (nth l (inth (versions l key) q).toNat).txn < endOf l (nth l (inth (versions l key) (q + 1)).toNat).txn := by
  rw [inth_get h, inth_get (show q < _ by omega)]
  exact List.pairwise_iff_getElem.1 (vers_rise l key) q (q + 1) (by omega) h (by omega)
theorem com_till {l : List Ev} {t : Int} (h : comOf l t = true) : (findL l t).1.till = endOf l t := by
  unfold comOf at h
  have h' : 0 ≤ endOf l t ∧ (nth l (endOf l t).toNat).kind = 4 := by simpa using h
  obtain ⟨e, _, he1, he2, _⟩ := endOf_place h'.1
  have hf : ¬ firstOf l t < 0 := by
    rcases idx_nth (isOf t) l with ⟨_, hq⟩ | ⟨q, _, hq, _⟩
    · have := hq e he1
      simp [isOf, he2] at this
    · rw [firstOf, hq]; omega
  unfold findL
  rw [if_neg hf, if_neg (by omega)]
theorem seen_val {l : List Ev} {vs : List Int} {i : Nat} (h : 0 ≤ seen l vs i) : (nth l (inth vs (seen l vs i).toNat).toNat).val = (nth l i).val := by
  unfold seen at h ⊢
  rcases idx_spec (fun k : Int => decide ((nth l k.toNat).val = (nth l i).val)) vs 0 with ⟨e, _⟩ | ⟨k, hk, e, h2, _⟩
  · have e' : idx (fun k : Int => decide ((nth l k.toNat).val = (nth l i).val)) vs 0 = -1 := e
    rw [e'] at h; omega
  · have e' : idx (fun k : Int => decide ((nth l k.toNat).val = (nth l i).val)) vs 0 = (k : Int) := by simpa using e
    rw [e', Int.toNat_natCast, inth_get hk]
    exact of_decide_eq_true h2
/-- What an edge of each kind says. -/
def SaysE (l : List Ev) (e : Edge) : Prop :=
  (e.kind = 1 ∧ (findL l e.from_).1.till < (findL l e.to_).1.till) ∨ (e.kind = 2 ∧ (nth l e.i.toNat).val = (nth l e.j.toNat).val) ∨ (e.kind = 3 ∧ (nth l e.i.toNat).val ≠ (nth l e.j.toNat).val)
theorem of_says {l : List Ev} (hw : Wf l) {key : ByteArray} {e : Edge} (h : e ∈ ofE l key) : SaysE l e := by
  unfold ofE at h
  rcases List.mem_append.1 h with h | h
  · obtain ⟨q, hq, he⟩ := List.mem_flatMap.1 h
    have hq' := List.mem_range.1 hq
    have hn := vers_next (l := l) (key := key) (q := q) (by omega)
    obtain ⟨u0, a0, b0, c0, _, d0⟩ := vers_good (inth_mem (l := versions l key) (q := q) (by omega))
    obtain ⟨u1, a1, b1, c1, _, d1⟩ := vers_good (inth_mem (l := versions l key) (q := q + 1) (by omega))
    unfold verE at he
    rw [a0, a1, Int.toNat_natCast, Int.toNat_natCast] at he hn
    obtain ⟨_, rfl⟩ := mem_putE he
    refine .inl ⟨rfl, ?_⟩
    rw [com_till d0, com_till d1]
    exact hn
  · obtain ⟨i, hi, he⟩ := List.mem_flatMap.1 h
    have hi' := List.mem_range.1 hi
    unfold readE at he
    by_cases c1 : (nth l i).key = key ∧ outer l i = true
    · rw [if_pos c1] at he
      have hs := seen_range l (versions l key) i
      by_cases c2 : seen l (versions l key) i < 0 ∧ (nth l i).val ≠ ByteArray.empty
      · rw [if_pos c2] at he; cases he
      · rw [if_neg c2] at he
        rcases List.mem_append.1 he with he | he
        · by_cases c3 : 0 ≤ seen l (versions l key) i
          · rw [if_pos c3] at he
            have hv := seen_val c3
            obtain ⟨u, a, b, c, _, d⟩ := vers_good (inth_mem (l := versions l key) (q := (seen l (versions l key) i).toNat) (by omega))
            rw [a, Int.toNat_natCast] at he hv
            obtain ⟨_, rfl⟩ := mem_putE he
            exact .inr (.inl ⟨rfl, by simpa using hv⟩)
          · rw [if_neg c3] at he; cases he
        · by_cases c3 : seen l (versions l key) i + 1 < (versions l key).length
          · rw [if_pos c3] at he
            obtain ⟨u, a, b, c, c', d⟩ := vers_good (inth_mem (l := versions l key) (q := (seen l (versions l key) i + 1).toNat) (by omega))
            have ha := a
            rw [a, Int.toNat_natCast] at he
            obtain ⟨_, rfl⟩ := mem_putE he
            refine .inr (.inr ⟨rfl, ?_⟩)
            show (nth l (i : Int).toNat).val ≠ (nth l (u : Int).toNat).val
            rw [Int.toNat_natCast, Int.toNat_natCast]
            by_cases c4 : 0 ≤ seen l (versions l key) i
            · have hv := seen_val c4
              obtain ⟨q, hq⟩ : ∃ q : Nat, seen l (versions l key) i = q := ⟨(seen l (versions l key) i).toNat, by omega⟩
              rw [hq, Int.toNat_natCast] at hv
              rw [hq] at ha c3
              have ht : ((q : Int) + 1).toNat = q + 1 := by omega
              rw [ht] at ha
              have hn := vers_next (l := l) (key := key) (q := q) (by omega)
              obtain ⟨u0, a0, b0, _, k0, _⟩ := vers_good (inth_mem (l := versions l key) (q := q) (by omega))
              rw [ha, a0, Int.toNat_natCast, Int.toNat_natCast] at hn
              rw [a0, Int.toNat_natCast] at hv
              rw [← hv]
              rcases Nat.lt_trichotomy u0 u with z | z | z
              · exact hw.once b z k0 c'
              · rw [z] at hn; omega
              · exact (hw.once b0 z c' k0).symm
            · have hv : (nth l i).val = ByteArray.empty := by
                rcases Classical.em ((nth l i).val = ByteArray.empty) with z | z
                · exact z
                · exact absurd ⟨by omega, z⟩ c2
              rw [hv]
              have hm := hw.may b
              intro z
              unfold MayP at hm
              simp [c', ← z] at hm
          · rw [if_neg c3] at he; cases he
    · rw [if_neg c1] at he; cases he
end
end
end Go.Proofs.YtebjiimlcnmfpaaGreat
