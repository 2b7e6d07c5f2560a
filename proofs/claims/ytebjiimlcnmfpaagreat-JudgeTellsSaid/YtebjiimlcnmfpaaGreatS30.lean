/-
  The edges of steps, as the document's Flat puts them.
-/
import Derived.Test.YtebjiimlcnmfpaaGreatPrCartoucheref12Flat
import Derived.Test.YtebjiimlcnmfpaaGreatS14
import Derived.Test.YtebjiimlcnmfpaaGreatB1
set_option linter.unusedVariables false
set_option linter.unusedSimpArgs false
namespace Go.Proofs.YtebjiimlcnmfpaaGreatPr
open Go.Proofs.YtebjiimlcnmfpaaGreat
section
open Go Go.RowKit

theorem rde (L : List S24) {i : Nat} (h : i < L.length) : rd_T24 L (i : Int) = L[i] := by
  unfold rd_T24
  rw [Int.toNat_natCast, List.getD_eq_getElem?_getD, List.getElem?_eq_getElem h]; rfl
theorem rfl_l1 (x : Stl) (i : Nat) (hi : i < x.length) (hx : x.length ≤ 140737488351232) (R : List S24) : ∀ (d j : Nat) (acc : List S24), j + d = (sn x i).f2.length → (sn x i).f2.length ≤ 140737488351232 → acc.length + d ≤ 3000000000 →
    Evt (fun k => cartoucheref12_Flat.l0 k x (acc ++ (sn x i).f2.drop j) ((i + 1 : Nat) : Int)) R → Evt (fun k => cartoucheref12_Flat.l1 k x acc (i : Int) (j : Int)) R
  | 0, j, acc, hj, hE, ha, h => by
    rw [List.drop_eq_nil_of_le (by omega), List.append_nil] at h
    refine Evt.step (fun k => ?_) h
    simp only [cartoucheref12_Flat.l1]
    rw [if_pos (by omega), if_pos (by omega), rd_sn, if_neg (by omega), wrap_succ (n := x.length) hi hx]
  | d + 1, j, acc, hj, hE, ha, h => by
    have hjE : j < (sn x i).f2.length := by omega
    have ih := rfl_l1 x i hi hx R d (j + 1) (acc ++ [(sn x i).f2[j]]) (by omega) hE (by simp; omega) (by
      rw [List.append_assoc, List.singleton_append, ← List.drop_eq_getElem_cons hjE]
      exact h)
    refine Evt.step (fun k => ?_) ih
    simp only [cartoucheref12_Flat.l1]
    rw [if_pos (by omega), if_pos (by omega), rd_sn, if_pos (by omega), if_pos (by omega), if_pos (by omega), rde _ hjE, wrap_succ (n := (sn x i).f2.length) hjE hE]
theorem rfl_l0 (x : Stl) (hx : x.length ≤ 1000000) (h2 : ∀ y ∈ x, y.f2.length ≤ 2) : ∀ (d i : Nat) (acc : List S24), i + d = x.length → acc.length ≤ 2 * i →
    Evt (fun k => cartoucheref12_Flat.l0 k x acc (i : Int)) (acc ++ (x.drop i).flatMap (fun s => s.f2))
  | 0, i, acc, hi, ha => Evt.now1 fun k => by
    simp only [cartoucheref12_Flat.l0]
    rw [if_neg (by omega), List.drop_eq_nil_of_le (by omega)]
    simp
  | d + 1, i, acc, hi, ha => by
    have hil : i < x.length := by omega
    have hs : sn x i = x[i] := by unfold sn; rw [List.getD_eq_getElem?_getD, List.getElem?_eq_getElem hil]; rfl
    have hl := h2 _ (List.getElem_mem hil)
    rw [← hs] at hl
    have ih := rfl_l0 x hx h2 d (i + 1) (acc ++ (sn x i).f2) (by omega) (by rw [List.length_append]; omega)
    rw [List.drop_eq_getElem_cons hil, List.flatMap_cons, ← hs, ← List.append_assoc]
    have h1 := rfl_l1 x i hil (by omega) _ (sn x i).f2.length 0 acc (by omega) (by omega) (by omega) (by rw [List.drop_zero]; exact ih)
    refine Evt.step (fun k => ?_) h1
    simp only [cartoucheref12_Flat.l0]
    rw [if_pos (by omega)]
    rfl
theorem rflat_evt (x : Stl) (hx : x.length ≤ 1000000) (h2 : ∀ y ∈ x, y.f2.length ≤ 2) : Evt (fun k => cartoucheref12_Flat.f k x) (x.flatMap (fun s => s.f2)) := by
  have := rfl_l0 x hx h2 x.length 0 [] (by omega) (by simp)
  rw [List.nil_append, List.drop_zero] at this
  exact this
end
end Go.Proofs.YtebjiimlcnmfpaaGreatPr
