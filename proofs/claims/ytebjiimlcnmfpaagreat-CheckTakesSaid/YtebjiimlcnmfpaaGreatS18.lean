/-
  What chapter 8's reference computes: the keys, rising, each once (as this seat's print has it).
-/
import Derived.Test.YtebjiimlcnmfpaaGreatPrCartoucheref01Less
import Derived.Test.YtebjiimlcnmfpaaGreatB1
set_option linter.unusedVariables false
set_option linter.unusedSimpArgs false
namespace Go.Proofs.YtebjiimlcnmfpaaGreatPr
open Go.Proofs.YtebjiimlcnmfpaaGreat
open Go Go.RowKit YtebjiimlcnmfpaaGreatW.PrintWords
/-! ### keys -/
theorem bt_get (a : ByteArray) (i : Nat) (h : i < a.data.toList.length) : bt a (i : Int) = ((a.data.toList[i]).toNat : Int) := by
  unfold bt
  have h' : (i : Int).toNat < a.size := by simpa using h
  rw [dif_pos h']
  rfl
theorem less_l0 (a b : ByteArray) (ha : a.size ≤ 9223372036854775807) : ∀ (d i : Nat), i + d = a.data.toList.length → i ≤ b.data.toList.length → Evt (fun k => cartoucheref01_Less.l0 k a b (i : Int)) (decide (a.data.toList.drop i < b.data.toList.drop i)) := by
  have hsa : (a.size : Int) = (a.data.toList.length : Int) := by simp
  have hsb : (b.size : Int) = (b.data.toList.length : Int) := by simp
  have fin : ∀ i : Nat, Evt (fun k => cartoucheref01_Less.j1 k a b (i : Int) false) (decide ((a.data.toList.length : Int) < (b.data.toList.length : Int))) := fun i => Evt.now1 fun k => by
    simp only [cartoucheref01_Less.j1]
    rw [if_neg (by simp), hsa, hsb]
  intro d
  induction d with
  | zero =>
    intro i hi hb
    have e : decide (a.data.toList.drop i < b.data.toList.drop i) = decide ((a.data.toList.length : Int) < (b.data.toList.length : Int)) := by
      rw [List.drop_of_length_le (by omega)]
      by_cases q : i < b.data.toList.length
      · rw [List.drop_eq_getElem_cons q]
        rw [decide_eq_true (by omega : (a.data.toList.length : Int) < (b.data.toList.length : Int))]
        exact decide_eq_true (List.nil_lt_cons _ _)
      · rw [List.drop_of_length_le (by omega), decide_eq_false (by omega : ¬ (a.data.toList.length : Int) < (b.data.toList.length : Int))]
        exact decide_eq_false (List.not_lt_nil _)
    rw [e]
    refine Evt.step (fun k => ?_) (fin i)
    simp only [cartoucheref01_Less.l0]
    rw [if_neg (by omega)]
  | succ d ih =>
    intro i hi hb
    by_cases q : i < b.data.toList.length
    · have hia : i < a.data.toList.length := by omega
      have j1 : Evt (fun k => cartoucheref01_Less.j1 k a b (i : Int) true) (decide (a.data.toList.drop i < b.data.toList.drop i)) := by
        rw [List.drop_eq_getElem_cons hia, List.drop_eq_getElem_cons q]
        by_cases e : a.data.toList[i] = b.data.toList[i]
        · have e2 : decide (a.data.toList[i] :: a.data.toList.drop (i + 1) < b.data.toList[i] :: b.data.toList.drop (i + 1)) = decide (a.data.toList.drop (i + 1) < b.data.toList.drop (i + 1)) := by
            rw [e]; simp [List.cons_lt_cons_iff]
          rw [e2]
          refine Evt.step (fun k => ?_) (ih (i + 1) (by omega) (by omega))
          simp only [cartoucheref01_Less.j1]
          rw [if_pos (by trivial), if_pos (by omega), if_pos (by omega), if_pos (by omega), bt_get a i hia, bt_get b i q, e, if_pos (by trivial), wrap_id (by omega) (by omega)]
          rfl
        · have e2 : decide (a.data.toList[i] :: a.data.toList.drop (i + 1) < b.data.toList[i] :: b.data.toList.drop (i + 1)) = decide (((a.data.toList[i]).toNat : Int) < ((b.data.toList[i]).toNat : Int)) := by
            refine decide_eq_decide.2 ?_
            rw [List.cons_lt_cons_iff, UInt8.lt_iff_toNat_lt]
            constructor
            · rintro (h | h)
              · omega
              · exact absurd h.1 e
            · intro h; exact .inl (by omega)
          rw [e2]
          refine Evt.now1 fun k => ?_
          simp only [cartoucheref01_Less.j1]
          rw [if_pos (by trivial), if_pos (by omega), if_pos (by omega), if_pos (by omega), bt_get a i hia, bt_get b i q, if_neg (fun h => e (UInt8.toNat_inj.1 (by omega)))]
      refine Evt.step (fun k => ?_) j1
      simp only [cartoucheref01_Less.l0]
      rw [if_pos (by omega), decide_eq_true (by omega : (i : Int) < (b.size : Int))]
    · have e : decide (a.data.toList.drop i < b.data.toList.drop i) = decide ((a.data.toList.length : Int) < (b.data.toList.length : Int)) := by
        rw [List.drop_of_length_le (show b.data.toList.length ≤ i by omega), decide_eq_false (by omega : ¬ (a.data.toList.length : Int) < (b.data.toList.length : Int))]
        exact decide_eq_false (List.not_lt_nil _)
      rw [e]
      refine Evt.step (fun k => ?_) (fin i)
      simp only [cartoucheref01_Less.l0]
      rw [if_pos (by omega), decide_eq_false (by omega : ¬ (i : Int) < (b.size : Int))]
theorem less_is (a b : ByteArray) (ha : a.size ≤ 9223372036854775807) : Evt (fun k => cartoucheref01_Less.f k a b) (decide (a.data.toList < b.data.toList)) :=
  less_l0 a b ha a.data.toList.length 0 (by omega) (by omega)

theorem insKey_pass (x : List UInt8) : ∀ (R : List (List UInt8)) (j : Nat), (∀ q, ∀ h : q < R.length, q < j → R[q] < x) → insKey x R = R.take j ++ insKey x (R.drop j)
  | R, 0, _ => by simp
  | [], j + 1, _ => by simp
  | y :: r, j + 1, h => by
    have hy := h 0 (by simp) (by omega)
    rw [List.getElem_cons_zero] at hy
    rw [List.take_succ_cons, List.drop_succ_cons, List.cons_append, ← insKey_pass x r j (fun q hq hj => by have := h (q + 1) (by simp; omega) (by omega); simpa using this)]
    show (if x < y then _ else if x = y then _ else _) = _
    rw [if_neg (fun z => List.lt_irrefl _ (List.lt_trans z hy)), if_neg (fun z => by subst z; exact List.lt_irrefl _ hy)]

end Go.Proofs.YtebjiimlcnmfpaaGreatPr
