/-
  What chapter 10's reference says of whether an edge holds: as the program does.
-/
import Derived.Test.YtebjiimlcnmfpaaGreatPrCartoucheref10Holds
import Derived.Test.YtebjiimlcnmfpaaGreatS17
import Derived.Test.YtebjiimlcnmfpaaGreatA16
set_option linter.unusedVariables false
set_option linter.unusedSimpArgs false
namespace Go.Proofs.YtebjiimlcnmfpaaGreatPr
open Go.Proofs.YtebjiimlcnmfpaaGreat
open Go Go.RowKit

theorem wr_f (xs : List S50) (hn : xs.length ≤ 300) (k v : ByteArray) : cartoucheref08_Writer.f xs k v = some (writer (evs xs) k v) := by
  unfold cartoucheref08_Writer.f
  rw [if_pos (by omega)]
theorem cm_lt {l : List Ev} {a b : Int} (hb : comOf l b = true) : (cmS l a ≥ 0 ∧ cmS l a < cmS l b) ↔ (comOf l a = true ∧ endOf l a < endOf l b) := by
  have e2 : cmS l b = endOf l b := by unfold cmS; rw [if_pos hb]
  constructor
  · rintro ⟨h1, h2⟩
    have hc := cm_neg.1 h1
    have e1 : cmS l a = endOf l a := by unfold cmS; rw [if_pos hc]
    exact ⟨hc, by rw [← e1, ← e2]; exact h2⟩
  · rintro ⟨h1, h2⟩
    have e1 : cmS l a = endOf l a := by unfold cmS; rw [if_pos h1]
    exact ⟨cm_neg.2 h1, by rw [e1, e2]; exact h2⟩
theorem rh_j3 (xs : List S50) (hn : xs.length ≤ 300) (to_ : Int) (hto : comOf (evs xs) to_ = true) (w : Nat) (hw : w < xs.length) :
    Evt (fun k => cartoucheref10_Holds.j3 k xs (cmS (evs xs) to_) (w : Int) false) (decide (comOf (evs xs) (nth (evs xs) w).txn = true ∧ endOf (evs xs) (nth (evs xs) w).txn < endOf (evs xs) to_)) := by
  refine Evt.step (f := fun k => (cartoucheref10_committed.f k xs (nth (evs xs) w).txn).bind fun t183 => (if t183 ≥ 0 then (some (decide (t183 < cmS (evs xs) to_))) else (some false))) (fun k => ?_) (Evt.bind' (fun k => rfl) (committed_evt xs (by omega) _) (Evt.now fun k => ?_))
  · simp only [cartoucheref10_Holds.j3]
    rw [if_neg (by simp), if_pos (by omega), if_pos (by omega), rd_f1, Int.toNat_natCast]
  · have h := cm_lt (a := (nth (evs xs) w).txn) hto
    by_cases h1 : cmS (evs xs) (nth (evs xs) w).txn ≥ 0
    · rw [if_pos h1]
      congr 1
      exact decide_eq_decide.2 ⟨fun h2 => h.1 ⟨h1, h2⟩, fun h2 => (h.2 h2).2⟩
    · rw [if_neg h1]
      congr 1
      exact (decide_eq_false fun h2 => h1 (h.2 h2).1).symm
theorem rh_j2 (xs : List S50) (hn : xs.length ≤ 300) (to_ : Int) (hto : comOf (evs xs) to_ = true) (i : Nat) (hi : i < xs.length) (y0 y1 y3 y4 : Int) (z0 z1 : Int) :
    Evt (fun k => cartoucheref10_Holds.j2 k xs (cmS (evs xs) to_) false y0 y1 to_ y3 y4 z0 z1 (nth (evs xs) i).key (nth (evs xs) i).val) (decide (overP (evs xs) i to_)) := by
  have hov : overP (evs xs) i to_ ↔ (nth (evs xs) i).val = ByteArray.empty ∨ (0 ≤ writer (evs xs) (nth (evs xs) i).key (nth (evs xs) i).val ∧ (nth (evs xs) (writer (evs xs) (nth (evs xs) i).key (nth (evs xs) i).val).toNat).txn ≠ to_ ∧ comOf (evs xs) (nth (evs xs) (writer (evs xs) (nth (evs xs) i).key (nth (evs xs) i).val).toNat).txn = true ∧ endOf (evs xs) (nth (evs xs) (writer (evs xs) (nth (evs xs) i).key (nth (evs xs) i).val).toNat).txn < endOf (evs xs) to_) := Iff.rfl
  have hemp : (nth (evs xs) i).val.toList = ([] : List UInt8) ↔ (nth (evs xs) i).val = ByteArray.empty := by
    constructor
    · intro h
      cases hv : (nth (evs xs) i).val.toList.isEmpty with
      | true => 
        rcases Classical.em ((nth (evs xs) i).val = ByteArray.empty) with z | z
        · exact z
        · rw [ne_isEmpty z] at hv; cases hv
      | false => rw [h] at hv; cases hv
    · intro h; rw [h]; first | rfl | kernel_rfl
  by_cases hv : (nth (evs xs) i).val = ByteArray.empty
  · rw [decide_eq_true (hov.2 (.inl hv))]
    exact Evt.now1 fun k => by
      simp only [cartoucheref10_Holds.j2]
      rw [if_neg (by simp), if_pos (hemp.2 hv)]
  · have hv2 : ¬ (nth (evs xs) i).val.toList = ([] : List UInt8) := fun h => hv (hemp.1 h)
    obtain ⟨j, hj⟩ : ∃ j, writer (evs xs) (nth (evs xs) i).key (nth (evs xs) i).val = j := ⟨_, rfl⟩
    have hjr : -1 ≤ j ∧ j < (evs xs).length := by rw [← hj]; exact idx_lt _ _
    rw [evs_len] at hjr
    rw [hj] at hov
    by_cases hj0 : j < 0
    · rw [decide_eq_false (fun h => (hov.1 h).elim hv (fun h => by omega))]
      refine Evt.step (f := fun k => cartoucheref10_Holds.j3 k xs (cmS (evs xs) to_) j true) (fun k => ?_) (Evt.now1 fun k => by simp only [cartoucheref10_Holds.j3]; rw [if_pos (by trivial)])
      simp only [cartoucheref10_Holds.j2]
      rw [if_neg (by simp), if_neg hv2, wr_f xs hn, hj]
      simp only [Option.bind_some]
      rw [if_pos hj0]
    · obtain ⟨u, rfl⟩ : ∃ u : Nat, j = u := ⟨j.toNat, by omega⟩
      rw [Int.toNat_natCast] at hov
      have hst : ∀ k, cartoucheref10_Holds.j2 (k + 1) xs (cmS (evs xs) to_) false y0 y1 to_ y3 y4 z0 z1 (nth (evs xs) i).key (nth (evs xs) i).val = cartoucheref10_Holds.j3 k xs (cmS (evs xs) to_) (u : Int) ((nth (evs xs) u).txn == to_) := fun k => by
        simp only [cartoucheref10_Holds.j2]
        rw [if_neg (by simp), if_neg hv2, wr_f xs hn, hj]
        simp only [Option.bind_some]
        rw [if_neg hj0, if_pos (by omega), if_pos (by omega), rd_f1, Int.toNat_natCast]
      by_cases ht : (nth (evs xs) u).txn = to_
      · rw [decide_eq_false (fun h => (hov.1 h).elim hv (fun h => h.2.1 ht))]
        refine Evt.step hst (Evt.now1 fun k => ?_)
        simp only [cartoucheref10_Holds.j3]
        rw [if_pos (by simp [ht])]
      · refine Evt.step hst ?_
        rw [show ((nth (evs xs) u).txn == to_) = false by simp [ht], show decide (overP (evs xs) i to_) = decide (comOf (evs xs) (nth (evs xs) u).txn = true ∧ endOf (evs xs) (nth (evs xs) u).txn < endOf (evs xs) to_) from decide_eq_decide.2 ⟨fun h => (hov.1 h).elim (fun h => absurd h hv) (fun h => h.2.2), fun h => hov.2 (.inr ⟨by omega, ht, h⟩)⟩]
        exact rh_j3 xs hn to_ hto u (by omega)
theorem rholds_evt (xs : List S50) (hn : xs.length ≤ 300) (kind from_ to_ i j : Int) : Evt (fun k => cartoucheref10_Holds.f k xs kind from_ to_ i j) (holds (evs xs) ⟨kind, from_, to_, i, j⟩) := by
  have hj0 : ∀ a b, Evt (fun k => cartoucheref10_Holds.j0 k xs a b true kind from_ to_ i j) false := fun a b => Evt.now1 fun k => by
    simp only [cartoucheref10_Holds.j0]
    rw [if_pos (by trivial)]
  refine Evt.bind' (fun k => rfl) (committed_evt xs (by omega) from_) ?_
  refine Evt.bind' (fun k => rfl) (committed_evt xs (by omega) to_) ?_
  have no : ¬ holdsP (evs xs) ⟨kind, from_, to_, i, j⟩ → decide (holdsP (evs xs) ⟨kind, from_, to_, i, j⟩) = false := fun h => decide_eq_false h
  unfold holds
  by_cases h1 : cmS (evs xs) from_ < 0
  · rw [no (fun h => by have := cm_neg.2 h.1; dsimp only at this; omega)]
    exact Evt.congr (fun k => if_pos h1) (hj0 _ _)
  have c1 : comOf (evs xs) from_ = true := cm_neg.1 (by omega)
  by_cases h2 : cmS (evs xs) to_ < 0
  · rw [no (fun h => by have := cm_neg.2 h.2.1; dsimp only at this; omega)]
    exact Evt.congr (fun k => by rw [if_neg h1, if_pos h2]) (hj0 _ _)
  have c2 : comOf (evs xs) to_ = true := cm_neg.1 (by omega)
  by_cases h3 : from_ = to_
  · rw [no (fun h => h.2.2.1 h3)]
    exact Evt.congr (fun k => by rw [if_neg h1, if_neg h2, if_pos h3]) (hj0 _ _)
  by_cases h4 : i < 0
  · rw [no (fun h => by have := h.2.2.2.1; dsimp only at this; omega)]
    exact Evt.congr (fun k => by rw [if_neg h1, if_neg h2, if_neg h3, if_pos h4]) (hj0 _ _)
  by_cases h5 : i ≥ (xs.length : Int)
  · rw [no (fun h => by have := h.2.2.2.2.1; dsimp only at this; rw [evs_len] at this; omega)]
    exact Evt.congr (fun k => by rw [if_neg h1, if_neg h2, if_neg h3, if_neg h4, if_pos h5]) (hj0 _ _)
  by_cases h6 : j < 0
  · rw [no (fun h => by have := h.2.2.2.2.2.1; dsimp only at this; omega)]
    exact Evt.congr (fun k => by rw [if_neg h1, if_neg h2, if_neg h3, if_neg h4, if_neg h5, if_pos h6]) (hj0 _ _)
  have hst : ∀ k, (if cmS (evs xs) from_ < 0 then (cartoucheref10_Holds.j0 k xs (cmS (evs xs) from_) (cmS (evs xs) to_) true kind from_ to_ i j) else (if cmS (evs xs) to_ < 0 then (cartoucheref10_Holds.j0 k xs (cmS (evs xs) from_) (cmS (evs xs) to_) true kind from_ to_ i j) else (if from_ = to_ then (cartoucheref10_Holds.j0 k xs (cmS (evs xs) from_) (cmS (evs xs) to_) true kind from_ to_ i j) else (if i < 0 then (cartoucheref10_Holds.j0 k xs (cmS (evs xs) from_) (cmS (evs xs) to_) true kind from_ to_ i j) else (if i ≥ (xs.length : Int) then (cartoucheref10_Holds.j0 k xs (cmS (evs xs) from_) (cmS (evs xs) to_) true kind from_ to_ i j) else (if j < 0 then (cartoucheref10_Holds.j0 k xs (cmS (evs xs) from_) (cmS (evs xs) to_) true kind from_ to_ i j) else (cartoucheref10_Holds.j0 k xs (cmS (evs xs) from_) (cmS (evs xs) to_) (decide (j ≥ (xs.length : Int))) kind from_ to_ i j))))))) = cartoucheref10_Holds.j0 k xs (cmS (evs xs) from_) (cmS (evs xs) to_) (decide (j ≥ (xs.length : Int))) kind from_ to_ i j := fun k => by
    rw [if_neg h1, if_neg h2, if_neg h3, if_neg h4, if_neg h5, if_neg h6]
  refine Evt.congr hst ?_
  by_cases h7 : j ≥ (xs.length : Int)
  · rw [no (fun h => by have := h.2.2.2.2.2.2.1; dsimp only at this; rw [evs_len] at this; omega), decide_eq_true h7]
    exact hj0 _ _
  rw [decide_eq_false h7]
  obtain ⟨i, rfl⟩ : ∃ m : Nat, i = m := ⟨i.toNat, by omega⟩
  obtain ⟨j, rfl⟩ : ∃ m : Nat, j = m := ⟨j.toNat, by omega⟩
  have hi : i < xs.length := by omega
  have hj : j < xs.length := by omega
  have hd : ∀ k, cartoucheref10_Holds.j0 (k + 1) xs (cmS (evs xs) from_) (cmS (evs xs) to_) false kind from_ to_ (i : Int) (j : Int) = (if (nth (evs xs) i).key.toList = (nth (evs xs) j).key.toList then (if (nth (evs xs) i).txn = from_ then (cartoucheref10_Holds.j1 k xs (cmS (evs xs) from_) (cmS (evs xs) to_) ((nth (evs xs) j).txn != to_) kind from_ to_ i j (nth (evs xs) i).kind (nth (evs xs) i).txn (nth (evs xs) i).key (nth (evs xs) i).val (nth (evs xs) j).kind (nth (evs xs) j).txn (nth (evs xs) j).key (nth (evs xs) j).val) else (cartoucheref10_Holds.j1 k xs (cmS (evs xs) from_) (cmS (evs xs) to_) true kind from_ to_ i j (nth (evs xs) i).kind (nth (evs xs) i).txn (nth (evs xs) i).key (nth (evs xs) i).val (nth (evs xs) j).kind (nth (evs xs) j).txn (nth (evs xs) j).key (nth (evs xs) j).val)) else (cartoucheref10_Holds.j1 k xs (cmS (evs xs) from_) (cmS (evs xs) to_) true kind from_ to_ i j (nth (evs xs) i).kind (nth (evs xs) i).txn (nth (evs xs) i).key (nth (evs xs) i).val (nth (evs xs) j).kind (nth (evs xs) j).txn (nth (evs xs) j).key (nth (evs xs) j).val)) := fun k => by
    simp only [cartoucheref10_Holds.j0]
    rw [if_neg (by simp), if_pos (by omega), if_pos (by omega), if_pos (by omega), if_pos (by omega)]
    simp only [rd_f0, rd_f1, rd_f2, rd_f3, Int.toNat_natCast]
  have hj1 : ∀ (a b : Int) (p0 p1 : Int) (p2 p3 : ByteArray) (q0 q1 : Int) (q2 q3 : ByteArray), Evt (fun k => cartoucheref10_Holds.j1 k xs a b true kind from_ to_ i j p0 p1 p2 p3 q0 q1 q2 q3) false := fun a b p0 p1 p2 p3 q0 q1 q2 q3 => Evt.now1 fun k => by
    simp only [cartoucheref10_Holds.j1]
    rw [if_pos (by trivial)]
  by_cases hk : (nth (evs xs) i).key = (nth (evs xs) j).key
  case neg =>
    rw [no (fun h => hk (by have := h.2.2.2.2.2.2.2.1; simpa using this))]
    exact Evt.step (fun k => by rw [hd, if_neg (fun h => hk (ba_list.1 h))]) (hj1 _ _ _ _ _ _ _ _ _ _)
  by_cases ht : (nth (evs xs) i).txn = from_
  case neg =>
    rw [no (fun h => ht (by have := h.2.2.2.2.2.2.2.2.1; simpa using this))]
    exact Evt.step (fun k => by rw [hd, if_pos (ba_list.2 hk), if_neg ht]) (hj1 _ _ _ _ _ _ _ _ _ _)
  by_cases hu : (nth (evs xs) j).txn = to_
  case neg =>
    rw [no (fun h => hu (by have := h.2.2.2.2.2.2.2.2.2.1; simpa using this))]
    exact Evt.step (fun k => by rw [hd, if_pos (ba_list.2 hk), if_pos ht, show ((nth (evs xs) j).txn != to_) = true by simpa using hu]) (hj1 _ _ _ _ _ _ _ _ _ _)
  have hm := holds_main (kind := kind) (evs_len xs) c1 c2 h3 hi hj hk
  unfold holds at hm
  rw [hm]
  have e1 : tillOf (evs xs) from_ = cmS (evs xs) from_ := by unfold cmS; rw [if_pos c1]; exact com_till c1
  have e2 : tillOf (evs xs) to_ = cmS (evs xs) to_ := by unfold cmS; rw [if_pos c2]; exact com_till c2
  have pi : ∀ c, isP (evs xs) xs.length i c from_ = decide ((nth (evs xs) i).kind = c) := fun c => by
    rw [Bool.eq_iff_iff, isP_iff hi, decide_eq_true_iff]
    exact ⟨fun h => h.1, fun h => ⟨h, ht⟩⟩
  have pj : ∀ c, isP (evs xs) xs.length j c to_ = decide ((nth (evs xs) j).kind = c) := fun c => by
    rw [Bool.eq_iff_iff, isP_iff hj, decide_eq_true_iff]
    exact ⟨fun h => h.1, fun h => ⟨h, hu⟩⟩
  refine Evt.step (f := fun k => cartoucheref10_Holds.j1 k xs (cmS (evs xs) from_) (cmS (evs xs) to_) false kind from_ to_ i j (nth (evs xs) i).kind (nth (evs xs) i).txn (nth (evs xs) i).key (nth (evs xs) i).val (nth (evs xs) j).kind (nth (evs xs) j).txn (nth (evs xs) j).key (nth (evs xs) j).val) (fun k => by rw [hd, if_pos (ba_list.2 hk), if_pos ht, show ((nth (evs xs) j).txn != to_) = false by simpa using hu]) ?_
  unfold tailP
  by_cases k1 : kind = 1
  · rw [if_pos k1, pi, pj, e1, e2]
    refine Evt.now1 fun k => ?_
    simp only [cartoucheref10_Holds.j1]
    rw [if_neg (by simp), if_pos k1]
    by_cases p : (nth (evs xs) i).kind = 3
    · by_cases q : (nth (evs xs) j).kind = 3
      · rw [if_pos p, if_pos q]; simp [p, q]
      · rw [if_pos p, if_neg q]; simp [p, q]
    · rw [if_neg p]; simp [p]
  rw [if_neg k1]
  by_cases k2 : kind = 2
  · rw [if_pos k2, pi, pj]
    refine Evt.now1 fun k => ?_
    simp only [cartoucheref10_Holds.j1]
    rw [if_neg (by simp), if_neg k1, if_pos k2]
    by_cases p : (nth (evs xs) i).kind = 3
    · by_cases q : (nth (evs xs) j).kind = 2
      · rw [if_pos p, if_pos q, toList_beq]; simp [p, q]
      · rw [if_pos p, if_neg q]; simp [p, q]
    · rw [if_neg p]; simp [p]
  rw [if_neg k2]
  have j2t : ∀ (a : Int) (y0 y1 y2 y3 y4 z0 z1 : Int) (z2 z3 : ByteArray), Evt (fun k => cartoucheref10_Holds.j2 k xs a true y0 y1 y2 y3 y4 z0 z1 z2 z3) false := fun a y0 y1 y2 y3 y4 z0 z1 z2 z3 => Evt.now1 fun k => by
    simp only [cartoucheref10_Holds.j2]
    rw [if_pos (by trivial)]
  by_cases k3 : kind = 3
  · rw [if_pos k3, pi, pj]
    by_cases p : (nth (evs xs) i).kind = 2
    · by_cases q : (nth (evs xs) j).kind = 3
      · rw [decide_eq_true p, decide_eq_true q, Bool.true_and, Bool.true_and]
        refine Evt.step (fun k => ?_) (rh_j2 xs hn to_ c2 i hi kind from_ i j (nth (evs xs) i).kind (nth (evs xs) i).txn)
        simp only [cartoucheref10_Holds.j1]
        rw [if_neg (by simp), if_neg k1, if_neg k2, if_pos k3, if_pos p, show ((nth (evs xs) j).kind != 3) = false by simp [q]]
      · rw [decide_eq_true p, decide_eq_false q, Bool.true_and, Bool.false_and]
        refine Evt.step (fun k => ?_) (j2t (cmS (evs xs) to_) kind from_ to_ i j (nth (evs xs) i).kind (nth (evs xs) i).txn (nth (evs xs) i).key (nth (evs xs) i).val)
        simp only [cartoucheref10_Holds.j1]
        rw [if_neg (by simp), if_neg k1, if_neg k2, if_pos k3, if_pos p, show ((nth (evs xs) j).kind != 3) = true by simpa using q]
    · rw [decide_eq_false p, Bool.false_and]
      refine Evt.step (fun k => ?_) (j2t (cmS (evs xs) to_) kind from_ to_ i j (nth (evs xs) i).kind (nth (evs xs) i).txn (nth (evs xs) i).key (nth (evs xs) i).val)
      simp only [cartoucheref10_Holds.j1]
      rw [if_neg (by simp), if_neg k1, if_neg k2, if_pos k3, if_neg p]
  · rw [if_neg k3]
    refine Evt.step (fun k => ?_) (j2t (cmS (evs xs) to_) kind from_ to_ i j (nth (evs xs) i).kind (nth (evs xs) i).txn (nth (evs xs) i).key (nth (evs xs) i).val)
    simp only [cartoucheref10_Holds.j1]
    rw [if_neg (by simp), if_neg k1, if_neg k2, if_neg k3]
end Go.Proofs.YtebjiimlcnmfpaaGreatPr
