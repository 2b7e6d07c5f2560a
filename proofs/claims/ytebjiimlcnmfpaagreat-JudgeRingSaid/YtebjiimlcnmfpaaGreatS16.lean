/-
  What judge.Judge computes.
-/
import Derived.Test.YtebjiimlcnmfpaaGreatPrJudgeJudge
import Derived.Test.YtebjiimlcnmfpaaGreatS16a
import Derived.Test.YtebjiimlcnmfpaaGreatS16t
set_option linter.unusedVariables false
set_option linter.unusedSimpArgs false
namespace Go.Proofs.YtebjiimlcnmfpaaGreatPr
open Go.Proofs.YtebjiimlcnmfpaaGreat
open Go Go.RowKit

/-! ### judge.Flat -/
theorem flat_l0 (r : List S80) (hn : r.length ≤ 1000000000000) (h2 : ∀ y ∈ r, y.f2.length ≤ 2) : ∀ (d i : Nat) (acc : List S24), i + d = r.length → acc.length ≤ i * 2 →
    Evt (fun k => judge_Flat.l0 k acc r (r.length : Int) (i : Int)) (acc ++ (r.drop i).flatMap (fun s => s.f2))
  | 0, i, acc, hi, ha => Evt.now1 fun k => by
    simp only [judge_Flat.l0]
    rw [if_neg (by omega), drop_end _ (by omega)]
    simp
  | d + 1, i, acc, hi, ha => by
    have hrd : rd_T80 r (i : Int) = r.getD i z80 := by unfold rd_T80; rw [Int.toNat_natCast]
    have hm : r.getD i z80 ∈ r := by
      rw [List.getD_eq_getElem?_getD, List.getElem?_eq_getElem (by omega)]
      exact List.getElem_mem _
    have hl := h2 _ hm
    have ih := flat_l0 r hn h2 d (i + 1) (acc ++ (r.getD i z80).f2) (by omega) (by rw [List.length_append]; omega)
    rw [drop_step r z80 (by omega), List.flatMap_cons, ← List.append_assoc]
    refine Evt.step (fun k => ?_) ih
    simp only [judge_Flat.l0]
    rw [if_pos (by omega), if_pos (by omega), if_pos (by omega), hrd, if_pos (by omega), wrap_succ (n := r.length) (by omega) (by omega)]
theorem flat_evt (r : List S80) (hn : r.length ≤ 1000000000000) (h2 : ∀ y ∈ r, y.f2.length ≤ 2) : Evt (fun k => judge_Flat.f k r) (r.flatMap (fun s => s.f2)) := by
  have := flat_l0 r hn h2 r.length 0 [] (by omega) (by simp)
  rw [List.nil_append, List.drop_zero] at this
  exact this

/-! ### judge.Judge -/
abbrev JR := Int × Bool × List Int × Int × Int × Int × List S24 × Int
def jokS (xs : List S50) (lev : Int) : JR := match badsS xs with
  | b :: _ => (lev, false, [], b.f0, b.f1, b.f2, [], 0)
  | [] => match Rg.order fr_ to_ (stepsH lev xs) (nodesS (evs xs)) with
    | some o => (lev, true, o, 0, 0, 0, [], 0)
    | none => (lev, false, [], 0, 0, 0, (Rg.ring fr_ to_ (stepsH lev xs)).1.flatMap (fun s => s.f2), 0)
def jS (xs : List S50) (lev : Int) : JR :=
  if lev < 1 ∨ lev > 2 then (0, false, [], 0, 0, 0, [], 1)
  else if (formed (evs xs)).2 = 0 then jokS xs lev else (0, false, [], 0, 0, 0, [], (formed (evs xs)).2)
theorem judge_evt (xs : List S50) (hn : xs.length ≤ 300) (hS : ∀ y ∈ xs, EvS y) (lev : Int) : Evt (fun k => judge_Judge.f k xs lev) (jS xs lev) := by
  unfold jS
  by_cases c1 : lev < 1
  · rw [if_pos (.inl c1)]
    exact Evt.now fun k => by unfold judge_Judge.f; rw [if_pos c1]
  by_cases c2 : lev > 2
  · rw [if_pos (.inr c2)]
    exact Evt.now fun k => by unfold judge_Judge.f; rw [if_neg c1, if_pos c2]
  rw [if_neg (by omega)]
  have hF : history_Formed.f xs = some (formed (evs xs)) := by unfold history_Formed.f; rw [if_pos (by omega)]
  by_cases c3 : (formed (evs xs)).2 = 0
  · rw [if_pos c3]
    unfold jokS
    have hA := all_evt xs hn hS
    have hAl := allE_len xs hn
    have h1 := tfirst_evt xs (by omega)
    cases hb : badsS xs with
    | cons b r =>
      rw [hb] at h1
      refine Evt.congr (fun k => ?_) (Evt.bind (f := fun k (bt : Int × Int × Int × Bool) => if bt.2.2.2 = true then (some (lev, false, ([] : List Int), bt.1, bt.2.1, bt.2.2.1, ([] : List S24), (0 : Int))) else ((edges_All.f k xs).bind fun t201 => ((edges_Steps.f lev t201).bind fun t204 => ((edges_Nodes.f xs).bind fun t207 => ((ring_Order.f t207 t204).bind fun bt210 => (if bt210.2 = true then (some (lev, true, bt210.1, 0, 0, 0, ([] : List S24), 0)) else ((ring_Ring.f t204).bind fun bt214 => ((judge_Flat.f k bt214.1).bind fun t218 => (some (lev, false, ([] : List Int), 0, 0, 0, t218, 0)))))))))) h1 (Evt.now fun k => rfl))
      unfold judge_Judge.f
      rw [if_neg c1, if_neg c2, hF]
      simp only [Option.bind_some]
      rw [if_pos c3]
    | nil =>
      rw [hb] at h1
      have hSt : edges_Steps.f lev (allE xs) = some (stepsH lev xs) := by
        unfold edges_Steps.f
        rw [if_pos (by have := Nat.mul_le_mul hAl (show (allE xs).length + 1 ≤ 900001 by omega); omega)]
        rfl
      have hNo : edges_Nodes.f xs = some (nodesS (evs xs)) := by unfold edges_Nodes.f; rw [if_pos (by omega)]
      have hsl := stepsH_len lev xs hn
      have hnl := nodesS_len (evs xs)
      rw [evs_len] at hnl
      have hOr : ring_Order.f (nodesS (evs xs)) (stepsH lev xs) = some ((Rg.order fr_ to_ (stepsH lev xs) (nodesS (evs xs))).getD [], (Rg.order fr_ to_ (stepsH lev xs) (nodesS (evs xs))).isSome) := by
        have hI : intsOk (nodesS (evs xs)) = true := intsOk_iff.2 fun x hx => by
          obtain ⟨h1, h2, _⟩ := comOf_end (mem_nodes.1 hx)
          obtain ⟨e, he, hel, het, _⟩ := endOf_place h1
          rw [evs_len] at hel
          rw [← het]
          exact txn_ok hS hel
        unfold ring_Order.f
        rw [if_pos ⟨by omega, hI, stepsH_ok hS⟩]
      have hRi : ring_Ring.f (stepsH lev xs) = some (Rg.ring fr_ to_ (stepsH lev xs)) := by
        unfold ring_Ring.f
        rw [if_pos ⟨by omega, stepsH_ok hS⟩]
      have hin : Evt (fun k => (edges_All.f k xs).bind fun t201 => ((edges_Steps.f lev t201).bind fun t204 => ((edges_Nodes.f xs).bind fun t207 => ((ring_Order.f t207 t204).bind fun bt210 => (if bt210.2 = true then (some ((lev, true, bt210.1, 0, 0, 0, [], 0) : JR)) else ((ring_Ring.f t204).bind fun bt214 => ((judge_Flat.f k bt214.1).bind fun t218 => (some ((lev, false, [], 0, 0, 0, t218, 0) : JR))))))))) (match Rg.order fr_ to_ (stepsH lev xs) (nodesS (evs xs)) with
          | some o => ((lev, true, o, 0, 0, 0, [], 0) : JR)
          | none => (lev, false, [], 0, 0, 0, (Rg.ring fr_ to_ (stepsH lev xs)).1.flatMap (fun s => s.f2), 0)) := by
        refine Evt.bind' (fun k => rfl) hA ?_
        simp only [hSt, hNo, hOr, Option.bind_some]
        cases ho : Rg.order fr_ to_ (stepsH lev xs) (nodesS (evs xs)) with
        | some o => exact Evt.now fun k => rfl
        | none =>
          dsimp only
          have hfl := flat_evt (Rg.ring fr_ to_ (stepsH lev xs)).1 (by have := ring_len_le (stepsH lev xs); omega) (fun y hy => stepsH_two (Rg.ring_mem fr_ to_ (stepsH lev xs) y hy))
          refine Evt.bind' (f := fun k t218 => some (lev, false, [], 0, 0, 0, t218, 0)) (fun k => ?_) hfl (Evt.now fun k => rfl)
          rw [hRi]
          rfl
      refine Evt.congr (fun k => ?_) (Evt.bind (f := fun k (bt : Int × Int × Int × Bool) => if bt.2.2.2 = true then (some (lev, false, ([] : List Int), bt.1, bt.2.1, bt.2.2.1, ([] : List S24), (0 : Int))) else ((edges_All.f k xs).bind fun t201 => ((edges_Steps.f lev t201).bind fun t204 => ((edges_Nodes.f xs).bind fun t207 => ((ring_Order.f t207 t204).bind fun bt210 => (if bt210.2 = true then (some (lev, true, bt210.1, 0, 0, 0, ([] : List S24), 0)) else ((ring_Ring.f t204).bind fun bt214 => ((judge_Flat.f k bt214.1).bind fun t218 => (some (lev, false, ([] : List Int), 0, 0, 0, t218, 0)))))))))) h1 (Evt.congr (fun k => if_neg (by simp [headBad])) hin))
      unfold judge_Judge.f
      rw [if_neg c1, if_neg c2, hF]
      simp only [Option.bind_some]
      rw [if_pos c3]
  · rw [if_neg c3]
    exact Evt.now fun k => by
      unfold judge_Judge.f
      rw [if_neg c1, if_neg c2, hF]
      simp only [Option.bind_some]
      rw [if_neg c3]
end Go.Proofs.YtebjiimlcnmfpaaGreatPr
