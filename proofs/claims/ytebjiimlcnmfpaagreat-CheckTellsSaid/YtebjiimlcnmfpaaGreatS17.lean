/-
  What chapter 10's reference computes: whether and where a transaction was committed; the committed transactions.
-/
import Derived.Test.YtebjiimlcnmfpaaGreatPrCartoucheref10Nodes
import Derived.Test.YtebjiimlcnmfpaaGreatPrCartoucheref10Committed
import Derived.Test.YtebjiimlcnmfpaaGreatS16a
set_option linter.unusedVariables false
set_option linter.unusedSimpArgs false
namespace Go.Proofs.YtebjiimlcnmfpaaGreatPr
open Go.Proofs.YtebjiimlcnmfpaaGreat
open Go Go.RowKit

theorem wf_txn {l : List Ev} (hw : Wf l) {i : Nat} (hi : i < l.length) : 1 ≤ (nth l i).txn ∧ (nth l i).txn ≤ 32 := by
  have h := hw.step i hi
  unfold stepErr at h
  split at h
  · cases h
  · rename_i hm
    have := (may_iff _).1 (by simpa using hm)
    unfold MayP at this
    exact ⟨by omega, by omega⟩
def cmS (l : List Ev) (t : Int) : Int := if comOf l t = true then endOf l t else -1
theorem end_f (xs : List S50) (hn : xs.length ≤ 140737488351232) (t : Int) : cartoucheref08_End.f xs t (xs.length : Int) = some (endOf (evs xs) t) := by
  unfold cartoucheref08_End.f
  rw [if_pos ⟨hn, by omega, by omega⟩]
  congr 2
  rw [Int.toNat_natCast, List.take_of_length_le (by rw [evs_len]; omega)]
theorem committed_evt (xs : List S50) (hn : xs.length ≤ 140737488351232) (t : Int) : Evt (fun k => cartoucheref10_committed.f k xs t) (cmS (evs xs) t) := by
  have hE := end_f xs hn t
  unfold cmS
  by_cases h : endOf (evs xs) t < 0
  · have hc : comOf (evs xs) t = false := by unfold comOf; rw [decide_eq_false (by omega)]; rfl
    rw [if_neg (by rw [hc]; simp)]
    refine Evt.congr (f := fun k => cartoucheref10_committed.j0 k (endOf (evs xs) t) true) (fun k => ?_) (Evt.now1 fun k => ?_)
    · unfold cartoucheref10_committed.f
      rw [hE]
      simp only [Option.bind_some]
      rw [if_pos h]
    · simp only [cartoucheref10_committed.j0]
      rw [if_pos (by trivial)]
  · obtain ⟨e, he, hel, het, hends⟩ := endOf_place (l := evs xs) (t := t) (by omega)
    rw [evs_len] at hel
    rw [he]
    have hc : comOf (evs xs) t = ((nth (evs xs) e).kind == 4) := by unfold comOf; rw [he, decide_eq_true (by omega)]; simp
    refine Evt.congr (f := fun k => cartoucheref10_committed.j0 k (e : Int) ((nth (evs xs) e).kind != 4)) (fun k => ?_) (Evt.now1 fun k => ?_)
    · unfold cartoucheref10_committed.f
      rw [hE, he]
      simp only [Option.bind_some]
      rw [if_neg (by omega), if_pos (by omega), if_pos (by omega), rd_f0, Int.toNat_natCast]
    · simp only [cartoucheref10_committed.j0]
      by_cases hk : (nth (evs xs) e).kind = 4
      · rw [if_neg (by simp [hk]), if_pos (by rw [hc]; simp [hk])]
      · rw [if_pos (by simp [hk]), if_neg (by rw [hc]; simp [hk])]
theorem cm_neg {l : List Ev} {t : Int} : cmS l t ≥ 0 ↔ comOf l t = true := by
  unfold cmS
  constructor
  · intro h
    by_cases hc : comOf l t = true
    · exact hc
    · rw [if_neg hc] at h; omega
  · intro h
    rw [if_pos h]
    exact (comOf_end h).1
def upTo : Nat → List Int
  | 0 => []
  | d + 1 => ((300 : Int) - (d + 1 : Nat)) :: upTo d
theorem mem_upTo (x : Int) : ∀ d, x ∈ upTo d ↔ (300 : Int) - d ≤ x ∧ x < 300
  | 0 => by simp [upTo] <;> omega
  | d + 1 => by
    unfold upTo
    rw [List.mem_cons, mem_upTo x d]
    omega
theorem upTo_rising : ∀ d, (upTo d).Pairwise (· < ·)
  | 0 => List.Pairwise.nil
  | d + 1 => by
    unfold upTo
    refine List.Pairwise.cons (fun x hx => ?_) (upTo_rising d)
    have := (mem_upTo x d).1 hx
    omega
theorem nodes_l1 (xs : List S50) (hn : xs.length ≤ 300) (acc : List Int) (ha : acc.length ≤ 300) (t : Int) (R : List Int) (hnext : Evt (fun k => cartoucheref10_Nodes.l0 k xs (if comOf (evs xs) t = true then acc ++ [t] else acc) (wrap64 (t + 1))) R) :
    ∀ (d i : Nat) (b : Bool), i + d = xs.length → (b = true → ∃ j, j < xs.length ∧ (nth (evs xs) j).txn = t) → (b = false → ∀ j, j < i → (nth (evs xs) j).txn ≠ t) → Evt (fun k => cartoucheref10_Nodes.l1 k xs acc t b (i : Int)) R
  | 0, i, b, hi, hb, hb2 => by
    have j2 : ∀ c, c = comOf (evs xs) t → Evt (fun k => cartoucheref10_Nodes.j2 k xs acc t c) R := fun c hc => by
      refine Evt.step (fun k => ?_) hnext
      simp only [cartoucheref10_Nodes.j2]
      by_cases h : comOf (evs xs) t = true
      · rw [hc, if_pos h, if_pos (by omega), if_pos h]
      · rw [hc, if_neg h, if_neg h]
    cases b
    · have hno : comOf (evs xs) t = false := by
        cases h : comOf (evs xs) t with
        | false => rfl
        | true =>
          obtain ⟨h1, h2, _⟩ := comOf_end h
          obtain ⟨e, he, hel, het, _⟩ := endOf_place h1
          rw [evs_len] at hel
          exact absurd het (hb2 rfl e (by omega))
      refine Evt.step (fun k => ?_) (j2 false hno.symm)
      simp only [cartoucheref10_Nodes.l1]
      rw [if_neg (by omega), if_neg (by simp)]
    · refine Evt.step (f := fun k => (cartoucheref10_committed.f k xs t).bind fun t210 => (cartoucheref10_Nodes.j2 k xs acc t (decide (t210 ≥ 0)))) (fun k => ?_) (Evt.bind' (fun k => rfl) (committed_evt xs (by omega) t) (j2 _ ?_))
      · simp only [cartoucheref10_Nodes.l1]
        rw [if_neg (by omega), if_pos (by trivial)]
      · by_cases h : comOf (evs xs) t = true
        · rw [h]; exact decide_eq_true (cm_neg.2 h)
        · rw [show comOf (evs xs) t = false by simpa using h]
          exact decide_eq_false (fun z => h (cm_neg.1 z))
  | d + 1, i, b, hi, hb, hb2 => by
    cases b
    · have ih := nodes_l1 xs hn acc ha t R hnext d (i + 1) ((nth (evs xs) i).txn == t) (by omega) (fun h => ⟨i, by omega, by simpa using h⟩) (fun h j hj => by
        by_cases e : j = i
        · subst e; simpa using h
        · exact hb2 rfl j (by omega))
      refine Evt.step (fun k => ?_) ih
      simp only [cartoucheref10_Nodes.l1]
      rw [if_pos (by omega), if_neg (by simp), if_pos (by omega), rd_f1, Int.toNat_natCast, wrap_succ (n := xs.length) (by omega) (by omega)]
    · have ih := nodes_l1 xs hn acc ha t R hnext d (i + 1) true (by omega) hb (fun h => by cases h)
      refine Evt.step (fun k => ?_) ih
      simp only [cartoucheref10_Nodes.l1]
      rw [if_pos (by omega), if_pos (by trivial), wrap_succ (n := xs.length) (by omega) (by omega)]
theorem nodes_l0 (xs : List S50) (hn : xs.length ≤ 300) : ∀ (d : Nat) (acc : List Int), d ≤ 301 → acc.length + d ≤ 301 → Evt (fun k => cartoucheref10_Nodes.l0 k xs acc ((300 : Int) - d)) (acc ++ (upTo d).filter (comOf (evs xs)))
  | 0, acc, h, ha => Evt.now1 fun k => by
    simp only [cartoucheref10_Nodes.l0]
    rw [if_neg (by omega)]
    simp [upTo]
  | d + 1, acc, h, ha => by
    have hw : wrap64 ((300 : Int) - (d + 1 : Nat) + 1) = (300 : Int) - d := by unfold wrap64; omega
    rw [show upTo (d + 1) = ((300 : Int) - (d + 1 : Nat)) :: upTo d from rfl, List.filter_cons]
    have hR : acc ++ (if comOf (evs xs) ((300 : Int) - (d + 1 : Nat)) = true then ((300 : Int) - (d + 1 : Nat)) :: (upTo d).filter (comOf (evs xs)) else (upTo d).filter (comOf (evs xs))) = (if comOf (evs xs) ((300 : Int) - (d + 1 : Nat)) = true then acc ++ [((300 : Int) - (d + 1 : Nat))] else acc) ++ (upTo d).filter (comOf (evs xs)) := by
      split <;> simp
    rw [hR]
    have hlen : (if comOf (evs xs) ((300 : Int) - (d + 1 : Nat)) = true then acc ++ [((300 : Int) - (d + 1 : Nat))] else acc).length + d ≤ 301 := by
      split
      · rw [List.length_append]; simp; omega
      · omega
    have hnext := nodes_l0 xs hn d (if comOf (evs xs) ((300 : Int) - (d + 1 : Nat)) = true then acc ++ [((300 : Int) - (d + 1 : Nat))] else acc) (by omega) hlen
    rw [← hw] at hnext
    refine Evt.step (fun k => ?_) (nodes_l1 xs hn acc (by omega) ((300 : Int) - (d + 1 : Nat)) _ hnext xs.length 0 false (by omega) (fun h => by cases h) (fun _ j hj => by omega))
    simp only [cartoucheref10_Nodes.l0]
    rw [if_pos (by omega)]
    rfl
theorem rnodes_evt (xs : List S50) (hn : xs.length ≤ 300) (hT : ∀ i, i < xs.length → -1 ≤ (nth (evs xs) i).txn ∧ (nth (evs xs) i).txn < 300) : Evt (fun k => cartoucheref10_Nodes.f k xs) (nodesS (evs xs)) := by
  have h := nodes_l0 xs hn 301 [] (by omega) (by simp)
  rw [List.nil_append] at h
  have he : (upTo 301).filter (comOf (evs xs)) = nodesS (evs xs) := by
    refine Rg.rising_eq (List.Pairwise.filter _ ?_) (Rg.sortD_rising _) fun x => ?_
    · exact upTo_rising 301
    · rw [List.mem_filter]
      have := mem_nodes (l := evs xs) (t := x)
      unfold nodesS at this
      unfold nodesS
      rw [this]
      refine ⟨fun h => h.2, fun h => ⟨?_, h⟩⟩
      obtain ⟨h1, h2, _⟩ := comOf_end h
      obtain ⟨e, _, hel, het, _⟩ := endOf_place h1
      rw [evs_len] at hel
      obtain ⟨g1, g2⟩ := hT e hel
      rw [het] at g1 g2
      exact (mem_upTo x 301).2 ⟨by omega, by omega⟩
  rw [he] at h
  exact h
end Go.Proofs.YtebjiimlcnmfpaaGreatPr
