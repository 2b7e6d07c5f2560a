/-
  The plain law of JudgeOne: a verdict shows one thing alone: an order, what was seen and should not have been, or a ring.
-/
import Derived.Test.YtebjiimlcnmfpaaGreatPrCartouchelaw12JudgeOne
import Derived.Test.YtebjiimlcnmfpaaGreatS16
import Derived.Test.YtebjiimlcnmfpaaGreatB17
set_option linter.unusedVariables false
set_option linter.unusedSimpArgs false
namespace Go.Proofs.YtebjiimlcnmfpaaGreatPr
open Go.Proofs.YtebjiimlcnmfpaaGreat
open Go Go.RowKit YtebjiimlcnmfpaaGreatW.PrintWords

theorem stepsH_pos {lev : Int} {xs : List S50} {y : S80} (h : y ∈ stepsH lev xs) : 1 ≤ y.f2.length := by
  rcases stepsH_is h with ⟨e, _, rfl, _⟩ | ⟨_, e, _, f, _, rfl, _⟩ <;> simp
/-- Where there is no order there is a ring, of one edge at least. -/
theorem ring_pos {lev : Int} {xs : List S50} (h : Rg.order fr_ to_ (stepsH lev xs) (nodesS (evs xs)) = none) : 0 < ((Rg.ring fr_ to_ (stepsH lev xs)).1.flatMap (fun s => s.f2)).length := by
  obtain ⟨c, n, h1, h2⟩ := Rg.order_none fr_ to_ h
  have hr : (Rg.ring fr_ to_ (stepsH lev xs)).2 = true := by
    cases hb : (Rg.ring fr_ to_ (stepsH lev xs)).2 with
    | true => rfl
    | false => exact absurd h2 ((Rg.ring_false fr_ to_ hb).1 n c h1)
  obtain ⟨a, m, g1, _, _, g4, _⟩ := Rg.ring_true fr_ to_ hr
  have hm := Rg.ring_mem fr_ to_ (stepsH lev xs)
  cases hl : (Rg.ring fr_ to_ (stepsH lev xs)).1 with
  | nil => rw [hl] at g4; simp at g4; omega
  | cons s r =>
    rw [hl] at hm
    have := stepsH_pos (hm s List.mem_cons_self)
    rw [List.flatMap_cons, List.length_append]
    omega
theorem bads_kind {xs : List S50} {b : S40} (h : b ∈ badsS xs) : b.f0 ≠ 0 := by
  unfold badsS at h
  obtain ⟨i, _, hb⟩ := List.mem_flatMap.1 h
  unfold badOne at hb
  split at hb
  · cases hb
  · rename_i hk
    obtain rfl := List.mem_singleton.1 hb
    exact hk
theorem p_JudgeOne (l : List S50) (lev : Int) (hS : ∀ y ∈ l, EvS y) (hl : l.length * 48 ≤ 140737488351232) (hlev : (Lit.int .i64 lev).wf = true) : ∃ k, cartouchelaw12_JudgeOne.f k l lev = some true := by
  apply Evt.rounds
  have hw1 : wrap64 (0 + 1) = 1 := by unfold wrap64; omega
  have hsh : cartouchelaw12_shown.f = some true := rfl
  have hfw : cartouchelaw12_few.f l = some (decide ((l.length : Int) ≤ 80)) := rfl
  by_cases h80 : (l.length : Int) ≤ 80
  · have hn : l.length ≤ 300 := by omega
    have j1 : ∀ (c : Int) (acc : Bool) (o : List Int) (x4 x5 x6 : Int) (r : List S24), (c + (if 0 < r.length then 1 else 0) = 1 ∧ 0 ≤ c) → (acc = true ∨ o.length = 0) → Evt (fun k => cartouchelaw12_JudgeOne.j1 k true c lev acc o x4 x5 x6 r) true := fun c acc o x4 x5 x6 r hc ho => Evt.now1 fun k => by
      simp only [cartouchelaw12_JudgeOne.j1]
      by_cases hr : 0 < r.length
      · rw [if_pos hr] at hc
        obtain rfl : c = 0 := by omega
        rw [if_pos (by omega), if_pos (by trivial), if_pos hw1]
        rcases ho with rfl | ho
        · rw [if_pos (by trivial)]
        · cases acc
          · rw [if_neg (by simp), ho]; rfl
          · rw [if_pos (by trivial)]
      · rw [if_neg hr] at hc
        obtain rfl : c = 1 := by omega
        rw [if_neg (by omega), if_pos (by trivial), if_pos (by trivial)]
        rcases ho with rfl | ho
        · rw [if_pos (by trivial)]
        · cases acc
          · rw [if_neg (by simp), ho]; rfl
          · rw [if_pos (by trivial)]
    refine Evt.congr (f := fun k => (judge_Judge.f k l lev).bind fun bt650 => (if bt650.2.2.2.2.2.2.2 = 0 then (if bt650.2.1 = true then (cartouchelaw12_JudgeOne.j0 k true (0 + 1) bt650.1 bt650.2.1 bt650.2.2.1 bt650.2.2.2.1 bt650.2.2.2.2.1 bt650.2.2.2.2.2.1 bt650.2.2.2.2.2.2.1) else (cartouchelaw12_JudgeOne.j0 k true 0 bt650.1 bt650.2.1 bt650.2.2.1 bt650.2.2.2.1 bt650.2.2.2.2.1 bt650.2.2.2.2.2.1 bt650.2.2.2.2.2.2.1)) else ((judge_Same.f bt650.1 bt650.2.1 bt650.2.2.1 bt650.2.2.2.1 bt650.2.2.2.2.1 bt650.2.2.2.2.2.1 bt650.2.2.2.2.2.2.1 0 false ([] : List Int) 0 0 0 ([] : List S24)).bind fun t663 => (some t663)))) (fun k => by
      unfold cartouchelaw12_JudgeOne.f
      rw [hsh, hfw, decide_eq_true h80]
      simp only [Option.bind_some]
      rw [if_pos (by trivial)]
      simp only [if_true]) ?_
    refine Evt.bind' (fun k => rfl) (judge_evt l hn hS lev) ?_
    have herr : ∀ e : Int, e ≠ 0 → Evt (fun k => (if ((0, false, [], 0, 0, 0, [], e) : JR).2.2.2.2.2.2.2 = 0 then (if ((0, false, [], 0, 0, 0, [], e) : JR).2.1 = true then (cartouchelaw12_JudgeOne.j0 k true (0 + 1) 0 false [] 0 0 0 []) else (cartouchelaw12_JudgeOne.j0 k true 0 0 false [] 0 0 0 [])) else ((judge_Same.f 0 false [] 0 0 0 [] 0 false ([] : List Int) 0 0 0 ([] : List S24)).bind fun t663 => (some t663)))) true := fun e he => Evt.now fun k => by
      rw [if_neg he]
      rfl
    unfold jS
    by_cases c1 : lev < 1 ∨ lev > 2
    · rw [if_pos c1]
      exact herr 1 (by decide)
    rw [if_neg c1]
    by_cases hf : (formed (evs l)).2 = 0
    · rw [if_pos hf]
      unfold jokS
      cases hb : badsS l with
      | cons b r =>
        dsimp only
        have hk : b.f0 ≠ 0 := bads_kind (xs := l) (by rw [hb]; exact List.mem_cons_self)
        refine Evt.congr (f := fun k => cartouchelaw12_JudgeOne.j0 k true 0 lev false [] b.f0 b.f1 b.f2 []) (fun k => by rw [if_pos rfl, if_neg (by simp)]) (Evt.step (fun k => ?_) (j1 1 false [] b.f0 b.f1 b.f2 [] (by simp) (.inr rfl)))
        simp only [cartouchelaw12_JudgeOne.j0]
        rw [if_neg hk, hw1]
      | nil =>
        dsimp only
        cases ho : Rg.order fr_ to_ (stepsH lev l) (nodesS (evs l)) with
        | some o =>
          dsimp only
          refine Evt.congr (f := fun k => cartouchelaw12_JudgeOne.j0 k true (0 + 1) lev true o 0 0 0 []) (fun k => by rw [if_pos rfl, if_pos rfl]) (Evt.step (fun k => ?_) (j1 1 true o 0 0 0 [] (by simp) (.inl rfl)))
          simp only [cartouchelaw12_JudgeOne.j0]
          rw [if_pos (by trivial)]
          rfl
        | none =>
          dsimp only
          have hp := ring_pos ho
          refine Evt.congr (f := fun k => cartouchelaw12_JudgeOne.j0 k true 0 lev false [] 0 0 0 ((Rg.ring fr_ to_ (stepsH lev l)).1.flatMap (fun s => s.f2))) (fun k => by rw [if_pos rfl, if_neg (by simp)]) (Evt.step (fun k => ?_) (j1 0 false [] 0 0 0 _ (by rw [if_pos hp]; simp) (.inr rfl)))
          simp only [cartouchelaw12_JudgeOne.j0]
          rw [if_pos (by trivial)]
    · rw [if_neg hf]
      exact herr _ hf
  · refine Evt.now fun k => ?_
    unfold cartouchelaw12_JudgeOne.f
    rw [hsh, hfw, decide_eq_false h80]
    simp only [Option.bind_some]
    rw [if_neg (by simp)]
end Go.Proofs.YtebjiimlcnmfpaaGreatPr
