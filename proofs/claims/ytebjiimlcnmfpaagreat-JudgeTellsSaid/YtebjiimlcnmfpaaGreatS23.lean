/-
  A history has few edges: two for each event at most.
-/
import Derived.Test.YtebjiimlcnmfpaaGreatS10
set_option linter.unusedVariables false
set_option linter.unusedSimpArgs false
namespace Go.Proofs.YtebjiimlcnmfpaaGreatPr
open Go.Proofs.YtebjiimlcnmfpaaGreat
section
open Go Go.RowKit

theorem fm_cnt {α β : Type} (f : α → List β) (p : α → Bool) (c : Nat) (h : ∀ x, (f x).length ≤ if p x = true then c else 0) : ∀ l : List α, (l.flatMap f).length ≤ c * (l.filter p).length
  | [] => by simp
  | x :: r => by
    have := fm_cnt f p c h r
    have h1 := h x
    rw [List.flatMap_cons, List.length_append, List.filter_cons]
    cases hp : p x with
    | true =>
      rw [hp, if_pos rfl] at h1
      simp only [if_true, List.length_cons, Nat.mul_add]
      omega
    | false =>
      rw [hp, if_neg (by simp)] at h1
      simp only [Bool.false_eq_true, if_false]
      omega
theorem two_filters {α : Type} (p q r : α → Bool) (hp : ∀ x, p x = true → r x = true) (hq : ∀ x, q x = true → r x = true) (hd : ∀ x, p x = true → q x = false) : ∀ l : List α, (l.filter p).length + (l.filter q).length ≤ (l.filter r).length
  | [] => by simp
  | x :: t => by
    have := two_filters p q r hp hq hd t
    have h1 := hp x
    have h2 := hq x
    have h3 := hd x
    rw [List.filter_cons, List.filter_cons, List.filter_cons]
    cases hpx : p x <;> cases hqx : q x <;> cases hrx : r x <;> simp_all <;> omega
theorem one_hit {κ : Type} [DecidableEq κ] (a : κ) : ∀ ks : List κ, ks.Nodup → (ks.map (fun k => if a = k then 1 else 0)).sum ≤ 1
  | [], _ => by simp
  | k :: r, h => by
    obtain ⟨h1, h2⟩ := List.nodup_cons.1 h
    have ih := one_hit a r h2
    rw [List.map_cons, List.sum_cons]
    by_cases e : a = k
    · have : (r.map (fun k => if a = k then 1 else 0)).sum = 0 := by
        have hz : r.map (fun k => if a = k then 1 else 0) = r.map (fun _ => 0) := List.map_congr_left fun y hy => if_neg (fun z => h1 (by rw [← e, z]; exact hy))
        rw [hz]
        clear hz ih h1 h2 h
        induction r with
        | nil => rfl
        | cons x t it => simpa using it
      rw [if_pos e]; omega
    · rw [if_neg e]; omega
theorem sum_add {κ : Type} (f g h : κ → Nat) (e : ∀ k, f k = g k + h k) : ∀ ks : List κ, (ks.map f).sum = (ks.map g).sum + (ks.map h).sum
  | [] => by simp
  | k :: r => by
    have := sum_add f g h e r
    rw [List.map_cons, List.map_cons, List.map_cons, List.sum_cons, List.sum_cons, List.sum_cons, e k]
    omega
theorem sum_cnt {α κ : Type} [DecidableEq κ] (key : α → κ) {ks : List κ} (hk : ks.Nodup) : ∀ l : List α, (ks.map (fun k => (l.filter (fun x => decide (key x = k))).length)).sum ≤ l.length
  | [] => by
    have : (ks.map (fun k => (([] : List α).filter (fun x => decide (key x = k))).length)).sum = 0 := by
      clear hk
      induction ks with
      | nil => rfl
      | cons x t it => simpa using it
    rw [this]; simp
  | x :: r => by
    have ih := sum_cnt key hk r
    have h1 := one_hit (key x) ks hk
    rw [sum_add (fun k => ((x :: r).filter (fun x => decide (key x = k))).length) (fun k => if key x = k then 1 else 0) (fun k => (r.filter (fun x => decide (key x = k))).length) (fun k => by
      rw [List.filter_cons]
      by_cases e : key x = k
      · rw [if_pos (decide_eq_true e), if_pos e, List.length_cons]; omega
      · rw [if_neg (by simpa using e), if_neg e]; omega) ks, List.length_cons]
    omega
theorem fm_sum {κ β : Type} (f : κ → List β) (g : κ → Nat) (h : ∀ k, (f k).length ≤ g k) : ∀ ks : List κ, (ks.flatMap f).length ≤ (ks.map g).sum
  | [] => by simp
  | k :: r => by
    have := fm_sum f g h r
    have h1 := h k
    rw [List.flatMap_cons, List.length_append, List.map_cons, List.sum_cons]
    omega
/-- Where a version is. -/
theorem verAt_is {l : List Ev} {key : ByteArray} {i : Nat} {v : Int} (h : verAt l key i = some v) : ∃ p : Nat, v = p ∧ p < l.length ∧ (nth l p).kind = 3 ∧ (nth l p).key = key ∧ (i : Int) = endOf l (nth l p).txn := by
  unfold verAt at h
  split at h
  · rename_i hc
    injection h with h
    have hl : lastOf l (nth l i).txn key i = lastIdx (wroteBy (nth l i).txn key) (l.take i) 0 (-1) := by unfold lastOf; rw [Int.toNat_natCast]
    rcases last_nth (wroteBy (nth l i).txn key) l i with ⟨h1, _⟩ | ⟨k, h1, h2, h3, h4, _⟩
    · rw [hl, h1] at hc; omega
    · rw [hl, h3] at h
      simp only [wroteBy, Bool.and_eq_true, beq_iff_eq, decide_eq_true_eq] at h4
      exact ⟨k, h.symm, h1, h4.1, h4.2.2, by rw [h4.2.1]; exact hc.2.1.symm⟩
  · cases h
theorem vers_len3 (l : List Ev) (key : ByteArray) : (versions l key).length ≤ ((List.range l.length).filter (fun p => decide ((nth l p).kind = 3) && decide ((nth l p).key = key))).length := by
  have hn : (versions l key).Nodup := by
    unfold versions
    refine List.pairwise_filterMap.2 ?_
    refine List.Pairwise.imp ?_ (List.nodup_range (n := l.length))
    intro a b hab x hx y hy e
    subst e
    obtain ⟨p, h1, _, _, _, h5⟩ := verAt_is hx
    obtain ⟨q, g1, _, _, _, g5⟩ := verAt_is hy
    obtain rfl : p = q := by omega
    exact hab (by omega)
  have hs : ∀ v ∈ versions l key, v ∈ ((List.range l.length).filter (fun p => decide ((nth l p).kind = 3) && decide ((nth l p).key = key))).map (fun p : Nat => (p : Int)) := fun v hv => by
    unfold versions at hv
    obtain ⟨i, _, hi⟩ := List.mem_filterMap.1 hv
    obtain ⟨p, rfl, h2, h3, h4, _⟩ := verAt_is hi
    exact List.mem_map.2 ⟨p, List.mem_filter.2 ⟨List.mem_range.2 h2, by rw [decide_eq_true h3, decide_eq_true h4]; rfl⟩, rfl⟩
  have := hn.length_le_of_subset hs
  rwa [List.length_map] at this
theorem readE_len (l : List Ev) (key : ByteArray) (vs : List Int) (i : Nat) : (readE l key vs i).length ≤ if (decide ((nth l i).kind = 2) && decide ((nth l i).key = key)) = true then 2 else 0 := by
  unfold readE
  by_cases h : (nth l i).key = key ∧ outer l i = true
  · have h2 : (nth l i).kind = 2 := by
      have := h.2
      unfold outer counts at this
      simp at this
      exact this.1.2.1
    have hR : (if (decide ((nth l i).kind = 2) && decide ((nth l i).key = key)) = true then 2 else 0) = 2 := if_pos (by rw [decide_eq_true h2, decide_eq_true h.1]; rfl)
    rw [if_pos h, hR]
    split
    · simp
    · rw [List.length_append]
      have h1 := putE_len l 2 (inth vs (Go.Proofs.YtebjiimlcnmfpaaGreat.seen l vs i).toNat).toNat i
      have h3 := putE_len l 3 i (inth vs (Go.Proofs.YtebjiimlcnmfpaaGreat.seen l vs i + 1).toNat).toNat
      split <;> split <;> (try simp only [List.length_nil]) <;> omega
  · rw [if_neg h]; simp
theorem ofE_len2 (l : List Ev) (key : ByteArray) : (ofE l key).length ≤ 2 * ((List.range l.length).filter (fun p => decide ((nth l p).key = key))).length := by
  have h1 := fm_len (verE l (versions l key)) 1 (fun q => putE_len _ _ _ _) (List.range ((versions l key).length - 1))
  have h2 := vers_len3 l key
  have h3 := fm_cnt (readE l key (versions l key)) (fun i => decide ((nth l i).kind = 2) && decide ((nth l i).key = key)) 2 (readE_len l key _) (List.range l.length)
  have h4 := two_filters (fun p => decide ((nth l p).kind = 3) && decide ((nth l p).key = key)) (fun p => decide ((nth l p).kind = 2) && decide ((nth l p).key = key)) (fun p => decide ((nth l p).key = key)) (fun x h => by simp at h; simp [h.2]) (fun x h => by simp at h; simp [h.2]) (fun x h => by simp at h; simp [h.1]) (List.range l.length)
  rw [List.length_range] at h1
  unfold ofE
  rw [List.length_append]
  omega
theorem toBA_inj {a b : List UInt8} (h : toBA a = toBA b) : a = b := by
  have := congrArg (fun x : ByteArray => x.data.toList) h
  exact this
theorem allE_len2 (xs : List S50) : (allE xs).length ≤ 2 * xs.length := by
  have hk : (keysSpec (evs xs)).Nodup := (keysSpec_are (evs xs)).1.imp fun h => fun e => by subst e; exact (List.lt_irrefl _ h).elim
  have h1 := fm_sum (fun key => (ofE (evs xs) key).map ofEdge) (fun key => 2 * ((List.range (evs xs).length).filter (fun p => decide ((nth (evs xs) p).key = key))).length) (fun key => by rw [List.length_map]; exact ofE_len2 _ _) ((keysSpec (evs xs)).map toBA)
  have hk2 : ((keysSpec (evs xs)).map toBA).Nodup := by
    unfold List.Nodup
    rw [List.pairwise_map]
    exact hk.imp fun h => fun e => h (toBA_inj e)
  have h2 : (((keysSpec (evs xs)).map toBA).map (fun key => ((List.range (evs xs).length).filter (fun p => decide ((nth (evs xs) p).key = key))).length)).sum ≤ (List.range (evs xs).length).length := sum_cnt (fun p : Nat => (nth (evs xs) p).key) hk2 (List.range (evs xs).length)
  have hd : ∀ (f : ByteArray → Nat) (ks : List ByteArray), (ks.map (fun k => 2 * f k)).sum = 2 * (ks.map f).sum := fun f ks => by
    induction ks with
    | nil => rfl
    | cons x t it => rw [List.map_cons, List.map_cons, List.sum_cons, List.sum_cons, it]; omega
  rw [hd] at h1
  rw [List.length_range] at h2
  have h3 := evs_len xs
  unfold allE
  omega
end
end Go.Proofs.YtebjiimlcnmfpaaGreatPr
