/-
  Transactions that follow one another, each whole, without reads: a well formed history in which nothing is tainted and all steps go forward.
-/
import Derived.Test.YtebjiimlcnmfpaaGreatA15
import Derived.Test.YtebjiimlcnmfpaaGreatS16
set_option linter.unusedVariables false
set_option linter.unusedSimpArgs false
namespace Go.Proofs.YtebjiimlcnmfpaaGreat
section
open Go

theorem take_mem {l : List Ev} {j : Nat} {x : Ev} (h : x ∈ l.take j) : ∃ i, i < j ∧ i < l.length ∧ nth l i = x := by
  obtain ⟨i, hi, rfl⟩ := List.mem_take_iff_getElem.1 h
  exact ⟨i, by omega, by omega, nth_lt (by omega)⟩
theorem stepErr_zero {l : List Ev} {j : Nat} (hm : MayP (nth l j)) (h : ((nth l j).kind = 1 ∧ firstOf (l.take j) (nth l j).txn < 0) ∨
    ((nth l j).kind ≠ 1 ∧ (nth l j).kind ≠ 2 ∧ 0 ≤ firstOf (l.take j) (nth l j).txn ∧ endOf (l.take j) (nth l j).txn < 0 ∧ ((nth l j).kind = 3 → ∀ i, i < j → i < l.length → (nth l i).kind = 3 → (nth l i).val ≠ (nth l j).val))) : stepErr l j = 0 := by
  have hmay := (may_iff _).2 hm
  unfold stepErr
  rw [if_neg (by rw [hmay]; simp)]
  rcases h with ⟨h1, h2⟩ | ⟨h1, h2, h3, h4, h5⟩
  · rw [if_pos h1, if_neg (by omega)]
  · rw [if_neg h1, if_neg (by omega), if_neg (by omega), if_neg ?_, if_neg (fun z => h2 z.1)]
    rintro ⟨k3, ha⟩
    obtain ⟨x, hx, hx2⟩ := List.any_eq_true.1 ha
    obtain ⟨i, hi, hil, rfl⟩ := take_mem hx
    unfold twice at hx2
    simp only [Bool.and_eq_true, beq_iff_eq, decide_eq_true_eq] at hx2
    exact h5 k3 i hi hil hx2.1 hx2.2
/-- Places of a well formed history, with all that its transactions did there but read, each transaction's in order: what stands there is well formed. -/
theorem alone_wf {l : List Ev} (hw : Wf l) {P : List Nat} (hP : ∀ p ∈ P, p < l.length ∧ (nth l p).kind ≠ 2) (hord : P.Pairwise (fun a b => a ≠ b ∧ ((nth l a).txn = (nth l b).txn → a < b)))
    (hcl : ∀ p ∈ P, ∀ q, q < l.length → (nth l q).txn = (nth l p).txn → (nth l q).kind ≠ 2 → q ∈ P) : Wf (P.map (nth l)) := by
  have hlen : (P.map (nth l)).length = P.length := List.length_map ..
  have hat : ∀ i (h : i < P.length), nth (P.map (nth l)) i = nth l P[i] := fun i h => by
    rw [nth_lt (by rw [hlen]; exact h), List.getElem_map]
  have pw := List.pairwise_iff_getElem.1 hord
  have hnd : P.Nodup := hord.imp fun h => h.1
  have hfirst : ∀ (t : Int) (p : Nat), p ∈ P → (nth l p).txn = t → ∃ k, k ∈ P ∧ k ≤ p ∧ (nth l k).txn = t ∧ (nth l k).kind = 1 := fun t p hp ht => by
    obtain ⟨f, e, h1, _, h3, _, _, h6, _⟩ := hw.shape (hP p hp).1
    have hfl : f < l.length := by have := (hP p hp).1; omega
    have hft : (nth l f).txn = t := by
      rcases idx_nth (isOf (nth l p).txn) l with ⟨z, _⟩ | ⟨k, _, z, z2, _⟩
      · unfold firstOf at h1; omega
      · unfold firstOf at h1
        obtain rfl : k = f := by omega
        simpa [isOf, ht] using z2
    obtain ⟨f', _, g1, _, _, _, _, g6, _⟩ := hw.shape hfl
    have hk1 : (nth l f).kind = 1 := g6.2 (by rw [hft, ← ht, h1] at g1; omega)
    exact ⟨f, hcl p hp f hfl (by rw [hft, ht]) (by omega), by omega, hft, hk1⟩
  refine ⟨?_, fun j hj => ?_, fun j hj => ?_⟩
  · rw [hlen]
    have := hnd.length_le_of_subset (l₂ := List.range l.length) (fun p hp => List.mem_range.2 (hP p hp).1)
    rw [List.length_range] at this
    have := hw.len
    omega
  · rw [hlen] at hj
    have hpm := List.getElem_mem hj
    obtain ⟨hpl, hp2⟩ := hP _ hpm
    refine stepErr_zero (by rw [hat j hj]; exact hw.may hpl) ?_
    rw [hat j hj]
    have hearly : ∀ i, i < j → ∀ h : i < P.length, (nth l P[i]).txn = (nth l P[j]).txn → P[i] < P[j] := fun i hi h => (pw i j h hj hi).2
    have htk : ∀ i, i < ((P.map (nth l)).take j).length → i < j ∧ ∃ h : i < P.length, nth ((P.map (nth l)).take j) i = nth l P[i] := fun i hi => by
      rw [List.length_take, hlen] at hi
      exact ⟨by omega, by omega, by rw [nth_take (by omega), hat i (by omega)]⟩
    by_cases k1 : (nth l P[j]).kind = 1
    · refine .inl ⟨k1, ?_⟩
      rw [firstOf_none (fun i hi ht => ?_)]
      · omega
      obtain ⟨h1, h2, h3⟩ := htk i hi
      rw [h3] at ht
      obtain ⟨f, _, g1, _, g3, _, _, g6, _⟩ := hw.shape (hP _ (List.getElem_mem h2)).1
      have hlt := hearly i h1 h2 ht
      obtain ⟨f', _, g1', _, _, _, _, g6', _⟩ := hw.shape hpl
      have := g6'.1 k1
      rw [ht, g1'] at g1
      omega
    · refine .inr ⟨k1, hp2, ?_, ?_, fun k3 i hi hil h3 => ?_⟩
      · rcases Int.lt_or_le (firstOf ((P.map (nth l)).take j) (nth l P[j]).txn) 0 with z | z
        · exfalso
          obtain ⟨k, hk, hkp, hkt, hk1⟩ := hfirst _ _ hpm rfl
          obtain ⟨i, hi, rfl⟩ := List.getElem_of_mem hk
          have hij : i < j := by
            rcases Nat.lt_trichotomy i j with q | q | q
            · exact q
            · subst q; exact absurd hk1 k1
            · have := (pw j i hj hi q).2 hkt.symm
              omega
          refine firstOf_neg z i (by rw [List.length_take, hlen]; omega) ?_
          rw [nth_take hij, hat i hi]
          exact hkt
        · exact z
      · rw [endOf_none (fun i hi ht => ?_)]
        · omega
        obtain ⟨h1, h2, h3⟩ := htk i hi
        rw [h3] at ht ⊢
        exact hw.noEnd hpl k1 (hearly i h1 h2 ht) ht
      · rw [hlen] at hil
        rw [hat i hil] at h3 ⊢
        intro hv
        exact (pw i j hil hj hi).1 (hw.same (hP _ (List.getElem_mem hil)).1 hpl h3 k3 hv)
  · rw [hlen] at hj
    rw [hat j hj]
    obtain ⟨hpl, hp2⟩ := hP _ (List.getElem_mem hj)
    obtain ⟨f, e, _, h2, _, _, hel, _, _, h8, h9⟩ := hw.shape hpl
    have hem := hcl _ (List.getElem_mem hj) e hel h8 (fun z => by unfold ends at h9; rw [z] at h9; simp at h9)
    obtain ⟨i, hi, hie⟩ := List.getElem_of_mem hem
    unfold endOf
    rcases idx_nth (endsOf (nth l P[j]).txn) (P.map (nth l)) with ⟨_, z⟩ | ⟨k, _, z, _⟩
    · have := z i (by rw [hlen]; exact hi)
      rw [hat i hi, hie] at this
      unfold endsOf at this
      rw [h8, h9] at this
      simp at this
    · omega
end
end Go.Proofs.YtebjiimlcnmfpaaGreat
namespace Go.Proofs.YtebjiimlcnmfpaaGreatPr
open Go.Proofs.YtebjiimlcnmfpaaGreat
section
open Go Go.RowKit

def aloneB (t : Int) (y : S50) : Bool := decide (y.f1 = t) && decide (y.f0 ≠ 2)
/-- What transactions that follow one another did, but for reads. -/
def aloneS (xs : List S50) : List S50 := (lives (evs xs)).flatMap fun x => xs.filter (aloneB x.txn)
def aloneP (l : List Ev) : List Nat := (lives l).flatMap fun x => (List.range l.length).filter fun j => decide ((nth l j).txn = x.txn) && decide ((nth l j).kind ≠ 2)
theorem map_nth (l : List Ev) : (List.range l.length).map (nth l) = l := by
  apply List.ext_getElem (by simp)
  intro i h1 h2
  rw [List.getElem_map, List.getElem_range, nth_lt h2]
theorem alone_map (xs : List S50) : evs (aloneS xs) = (aloneP (evs xs)).map (nth (evs xs)) := by
  unfold aloneS aloneP
  unfold evs
  rw [List.map_flatMap, List.map_flatMap]
  congr 1
  funext x
  have h := map_nth (evs xs)
  unfold evs at h
  have h2 := List.filter_map (f := nth (xs.map toEv)) (p := fun y : Ev => decide (y.txn = x.txn) && decide (y.kind ≠ 2)) (l := List.range (xs.map toEv).length)
  rw [h] at h2
  have h3 := List.filter_map (f := toEv) (p := fun y : Ev => decide (y.txn = x.txn) && decide (y.kind ≠ 2)) (l := xs)
  rw [h3] at h2
  exact h2
theorem alone_mem {xs : List S50} {y : S50} (h : y ∈ aloneS xs) : y ∈ xs := by
  obtain ⟨x, _, hx⟩ := List.mem_flatMap.1 h
  exact (List.mem_filter.1 hx).1
theorem aloneP_ok {l : List Ev} (hw : Wf l) : (∀ p ∈ aloneP l, p < l.length ∧ (nth l p).kind ≠ 2) ∧ (aloneP l).Pairwise (fun a b => a ≠ b ∧ ((nth l a).txn = (nth l b).txn → a < b)) ∧ ∀ p ∈ aloneP l, ∀ q, q < l.length → (nth l q).txn = (nth l p).txn → (nth l q).kind ≠ 2 → q ∈ aloneP l := by
  have hm : ∀ {t : Int} {p : Nat}, p ∈ (List.range l.length).filter (fun j => decide ((nth l j).txn = t) && decide ((nth l j).kind ≠ 2)) ↔ p < l.length ∧ (nth l p).txn = t ∧ (nth l p).kind ≠ 2 := fun {t p} => by
    rw [List.mem_filter, List.mem_range, Bool.and_eq_true, decide_eq_true_eq, decide_eq_true_eq]
  refine ⟨fun p hp => ?_, ?_, fun p hp q hq ht hk => ?_⟩
  · obtain ⟨x, _, hx⟩ := List.mem_flatMap.1 hp
    exact ⟨(hm.1 hx).1, (hm.1 hx).2.2⟩
  · unfold aloneP
    rw [List.pairwise_flatMap]
    refine ⟨fun x _ => ?_, ?_⟩
    · refine List.Pairwise.filter _ (List.pairwise_lt_range.imp fun h => ⟨by omega, fun _ => h⟩)
    · have hn : (lives l).Pairwise (fun a b => a.txn ≠ b.txn) := by
        have := lives_txns l
        unfold List.Nodup at this
        rwa [List.pairwise_map] at this
      refine hn.imp fun hab x hx y hy => ?_
      have h1 := (hm.1 hx).2.1
      have h2 := (hm.1 hy).2.1
      have hne : (nth l x).txn ≠ (nth l y).txn := by rw [h1, h2]; exact hab
      exact ⟨fun e => hne (by rw [e]), fun e => absurd e hne⟩
  · obtain ⟨x, hxm, hx⟩ := List.mem_flatMap.1 hp
    exact List.mem_flatMap.2 ⟨x, hxm, hm.2 ⟨hq, ht.trans (hm.1 hx).2.1, hk⟩⟩
section
variable {xs : List S50}
theorem alone_is (hf : (formed (evs xs)).2 = 0) : Wf (evs (aloneS xs)) ∧ (∀ i, i < (aloneS xs).length → (nth (evs (aloneS xs)) i).kind ≠ 2) ∧ (aloneS xs).length ≤ xs.length := by
  have hw := formed_wf hf
  obtain ⟨h1, h2, h3⟩ := aloneP_ok hw
  rw [alone_map]
  have hlen : (aloneS xs).length = (aloneP (evs xs)).length := by
    have := congrArg List.length (alone_map xs)
    rwa [evs_len, List.length_map] at this
  refine ⟨alone_wf hw h1 h2 h3, fun i hi => ?_, ?_⟩
  · rw [hlen] at hi
    rw [nth_lt (by rw [List.length_map]; exact hi), List.getElem_map]
    exact (h1 _ (List.getElem_mem hi)).2
  · have hnd : (aloneP (evs xs)).Nodup := h2.imp fun h => h.1
    have := hnd.length_le_of_subset (l₂ := List.range (evs xs).length) (fun p hp => List.mem_range.2 (h1 p hp).1)
    rw [List.length_range, evs_len] at this
    omega
/-- In a history without reads nothing is tainted, and it can be ordered at each level. -/
theorem noReads_ok (hw : Wf (evs xs)) (hr : ∀ i, i < xs.length → (nth (evs xs) i).kind ≠ 2) (lev : Int) : badsS xs = [] ∧ ∃ o, Rg.order fr_ to_ (stepsH lev xs) (nodesS (evs xs)) = some o := by
  constructor
  · unfold badsS
    rw [List.flatMap_eq_nil_iff]
    intro i hi
    have hil : i < xs.length := by
      have := List.mem_range'_1.1 hi
      omega
    unfold badOne
    refine if_pos ?_
    unfold badAt
    rw [if_pos ?_]
    · rfl
    unfold counts
    have h2 : ((nth (evs xs) ((i : Int).toNat)).kind == 2) = false := beq_eq_false_iff_ne.2 (by rw [Int.toNat_natCast]; exact hr i hil)
    rw [h2]
    simp
  · refine (Rg.order_or fr_ to_ (fun s hs => stepsH_nodes hs)).2 ?_
    have hup : ∀ e ∈ allE xs, endOf (evs xs) e.f1 < endOf (evs xs) e.f2 ∧ e.f0 ≠ 3 := fun e he => by
      obtain ⟨x, key, rfl, hx⟩ := allE_good he
      obtain ⟨_, _, _, i0, i1, j0, j1, _, _, _, hk⟩ := of_holds hw hx
      have ri := hr x.i.toNat (by rw [evs_len] at i1; omega)
      have rj := hr x.j.toNat (by rw [evs_len] at j1; omega)
      rcases hk with ⟨h1, _, _, h4⟩ | ⟨_, _, h3, _⟩ | ⟨_, h2, _⟩
      · exact ⟨h4, fun z => by have : x.kind = 3 := z; omega⟩
      · exact absurd h3 rj
      · exact absurd h2 ri
    have hst : ∀ s ∈ stepsH lev xs, endOf (evs xs) (fr_ s) < endOf (evs xs) (to_ s) := fun s hs => by
      rcases stepsH_is hs with ⟨e, he, rfl, _⟩ | ⟨_, e, he, f, hf, rfl, _, h3, _⟩
      · exact (hup e he).1
      · exact absurd h3 (hup f hf).2
    have hch : ∀ (r : List S80) (a b : Int), (∀ s ∈ r, s ∈ stepsH lev xs) → Rg.chain fr_ to_ r a b → endOf (evs xs) a + r.length ≤ endOf (evs xs) b := fun r => by
      induction r with
      | nil => intro a b _ h; have : a = b := h; subst this; simp
      | cons s r ih =>
        intro a b hs h
        have h1 := ih (to_ s) b (fun x hx => hs x (List.mem_cons_of_mem _ hx)) h.2
        have h2 := hst s (hs s List.mem_cons_self)
        have e : fr_ s = a := h.1
        rw [e] at h2
        rw [List.length_cons]
        omega
    rintro m c hm ⟨r, h1, h2, h3⟩
    have := hch r c c h2 h3
    omega
theorem alone_ok (hf : (formed (evs xs)).2 = 0) {lev : Int} (hl : lev = 1 ∨ lev = 2) : (jS (aloneS xs) lev).2.1 = true ∧ (jS (aloneS xs) lev).2.2.2.2.2.2.2 = 0 := by
  obtain ⟨h1, h2, h3⟩ := alone_is hf
  obtain ⟨hb, o, ho⟩ := noReads_ok h1 h2 lev
  unfold jS
  rw [if_neg (by omega), if_pos (by rw [wf_formed h1])]
  unfold jokS
  rw [hb]
  simp only
  rw [ho]
  exact ⟨rfl, rfl⟩
end
end
end Go.Proofs.YtebjiimlcnmfpaaGreatPr
