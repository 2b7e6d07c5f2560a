/-
  The plain law of JudgeFlat: the edges of steps are as the document says, for steps with few edges.
-/
import Derived.Test.YtebjiimlcnmfpaaGreatPrCartouchelaw12JudgeFlat
import Derived.Test.YtebjiimlcnmfpaaGreatS30
import Derived.Test.YtebjiimlcnmfpaaGreatS12
import Derived.Test.YtebjiimlcnmfpaaGreatB12
set_option linter.unusedVariables false
set_option linter.unusedSimpArgs false
namespace Go.Proofs.YtebjiimlcnmfpaaGreatPr
open Go.Proofs.YtebjiimlcnmfpaaGreat
open Go Go.RowKit

theorem jf_l0 (r : Stl) (hn : r.length ≤ 1048576) : ∀ (d i : Nat) (acc : List S24), i + d = r.length → acc.length + ((r.drop i).map (fun s => s.f2.length)).sum ≤ 2000000 →
    Evt (fun k => judge_Flat.l0 k acc r (r.length : Int) (i : Int)) (acc ++ (r.drop i).flatMap (fun s => s.f2))
  | 0, i, acc, hi, ha => Evt.now1 fun k => by
    simp only [judge_Flat.l0]
    rw [if_neg (by omega), List.drop_eq_nil_of_le (by omega)]
    simp
  | d + 1, i, acc, hi, ha => by
    have hil : i < r.length := by omega
    have hs : sn r i = r[i] := by unfold sn; rw [List.getD_eq_getElem?_getD, List.getElem?_eq_getElem hil]; rfl
    rw [List.drop_eq_getElem_cons hil, ← hs, List.map_cons, List.sum_cons] at ha
    have ih := jf_l0 r hn d (i + 1) (acc ++ (sn r i).f2) (by omega) (by rw [List.length_append]; omega)
    rw [List.drop_eq_getElem_cons hil, List.flatMap_cons, ← hs, ← List.append_assoc]
    refine Evt.step (fun k => ?_) ih
    simp only [judge_Flat.l0]
    rw [if_pos (by omega), if_pos (by omega), if_pos (by omega), rd_sn, if_pos (by omega), wrap_succ (n := r.length) (by omega) (by omega)]
theorem jr_l0' (r : Stl) (hn : r.length ≤ 1048576) : ∀ (d i : Nat) (acc : List S24), i + d = r.length → acc.length + ((r.drop i).map (fun s => s.f2.length)).sum ≤ 2000000 →
    Evt (fun k => cartoucheref12_Flat.l0 k r acc (i : Int)) (acc ++ (r.drop i).flatMap (fun s => s.f2))
  | 0, i, acc, hi, ha => Evt.now1 fun k => by
    simp only [cartoucheref12_Flat.l0]
    rw [if_neg (by omega), List.drop_eq_nil_of_le (by omega)]
    simp
  | d + 1, i, acc, hi, ha => by
    have hil : i < r.length := by omega
    have hs : sn r i = r[i] := by unfold sn; rw [List.getD_eq_getElem?_getD, List.getElem?_eq_getElem hil]; rfl
    rw [List.drop_eq_getElem_cons hil, ← hs, List.map_cons, List.sum_cons] at ha
    have ih := jr_l0' r hn d (i + 1) (acc ++ (sn r i).f2) (by omega) (by rw [List.length_append]; omega)
    rw [List.drop_eq_getElem_cons hil, List.flatMap_cons, ← hs, ← List.append_assoc]
    have h1 := rfl_l1 r i hil (by omega) _ (sn r i).f2.length 0 acc (by omega) (by omega) (by omega) (by rw [List.drop_zero]; exact ih)
    refine Evt.step (fun k => ?_) h1
    simp only [cartoucheref12_Flat.l0]
    rw [if_pos (by omega)]
    rfl
theorem fm_sum_len (r : List S80) : (r.flatMap (fun s => s.f2)).length = (r.map (fun s => s.f2.length)).sum := by
  induction r with
  | nil => rfl
  | cons x t it => rw [List.flatMap_cons, List.length_append, List.map_cons, List.sum_cons, it]
theorem p_JudgeFlat (l : List S80) (hn : l.length ≤ 1048576) (hs : (l.map (fun s => s.f2.length)).sum ≤ 1048576) : ∃ k, cartouchelaw12_JudgeFlat.f k l = some true := by
  apply Evt.rounds
  have hsh : cartouchelaw12_shown.f = some true := rfl
  have h1 := jf_l0 l hn l.length 0 [] (by omega) (by rw [List.drop_zero, List.length_nil]; omega)
  have h2 := jr_l0' l hn l.length 0 [] (by omega) (by rw [List.drop_zero, List.length_nil]; omega)
  rw [List.nil_append, List.drop_zero] at h1 h2
  have hl := fm_sum_len l
  obtain ⟨c, hc, hc2⟩ := same_evt (l.flatMap (fun s => s.f2)) (l.flatMap (fun s => s.f2)) (by omega)
  obtain rfl := hc2 rfl
  refine Evt.bind' (fun k => rfl) (Evt.now fun _ => hsh) ?_
  refine Evt.bind' (fun k => rfl) h1 ?_
  refine Evt.bind' (fun k => rfl) h2 ?_
  refine Evt.bind' (fun k => rfl) hc ?_
  exact Evt.now fun k => rfl
end Go.Proofs.YtebjiimlcnmfpaaGreatPr
