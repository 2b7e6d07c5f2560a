/-
  The plain law of JudgeRing: each ring of a verdict is closed, of edges of that history; at Snapshot no two GOver stand together in it.
-/
import Derived.Test.YtebjiimlcnmfpaaGreatPrCartouchelaw12JudgeRing
import Derived.Test.YtebjiimlcnmfpaaGreatS14
import Derived.Test.YtebjiimlcnmfpaaGreatS16
import Derived.Test.YtebjiimlcnmfpaaGreatS20
import Derived.Test.YtebjiimlcnmfpaaGreatB13
set_option linter.unusedVariables false
set_option linter.unusedSimpArgs false
namespace Go.Proofs.YtebjiimlcnmfpaaGreatPr
open Go.Proofs.YtebjiimlcnmfpaaGreat
open Go Go.RowKit YtebjiimlcnmfpaaGreatW.PrintWords

def nxE (n i : Nat) : Nat := if i + 1 = n then 0 else i + 1
theorem rd_e (L : List S24) {i : Nat} (h : i < L.length) : rd_T24 L (i : Int) = L[i] := by
  unfold rd_T24
  rw [Int.toNat_natCast, List.getD_eq_getElem?_getD, List.getElem?_eq_getElem h]; rfl
theorem eq_e (x y : S24) (h : x = y) : (x.f0 == y.f0 && (x.f1 == y.f1 && (x.f2 == y.f2 && (x.f3 == y.f3 && (x.f4 == y.f4))))) = true := by
  subst h; simp
section
variable (L E : List S24) (lev : Int) (hL : L.length ≤ 900000) (hE : E.length ≤ 2000000000000)
include hL hE
theorem jr_l1 (i : Nat) (x y : S24) (hi : i < E.length) (hxy : x.f2 = y.f1) (halt : lev = 2 → ¬ (x.f0 = 3 ∧ y.f0 = 3)) (hnext : Evt (fun k => cartouchelaw12_JudgeRing.l0 k lev true L ((i + 1 : Nat) : Int) lev false [] 0 0 0 E) true) :
    ∀ (d m : Nat) (b : Bool), m + d = L.length → (b = true ∨ ∃ j, m ≤ j ∧ ∃ h : j < L.length, L[j] = x) → Evt (fun k => cartouchelaw12_JudgeRing.l1 k lev true L (i : Int) b (m : Int) lev false [] 0 0 0 E x.f0 x.f1 x.f2 x.f3 x.f4 y.f0 y.f1 y.f2 y.f3 y.f4) true
  | 0, m, b, hm, hb => by
    have hbt : b = true := by
      rcases hb with h | ⟨j, h1, h2, _⟩
      · exact h
      · omega
    subst hbt
    have j3f : Evt (fun k => cartouchelaw12_JudgeRing.j3 k lev true L (i : Int) false lev false [] 0 0 0 E) true := by
      refine Evt.step (fun k => ?_) hnext
      simp only [cartouchelaw12_JudgeRing.j3]
      rw [if_neg (by simp), wrap_succ2 (n := E.length) hi (by omega)]
    refine Evt.step (fun k => ?_) j3f
    simp only [cartouchelaw12_JudgeRing.l1]
    rw [if_neg (by omega), if_pos (by trivial), if_pos hxy]
    by_cases h2 : lev = 2
    · rw [if_pos h2]
      by_cases h3 : x.f0 = 3
      · rw [if_pos h3, show (y.f0 == 3) = false by
          have := halt h2
          cases hq : (y.f0 == 3) with
          | false => rfl
          | true => exact absurd ⟨h3, by simpa using hq⟩ this]
      · rw [if_neg h3]
    · rw [if_neg h2]
  | d + 1, m, b, hm, hb => by
    have hmL : m < L.length := by omega
    cases b
    · refine Evt.step (fun k => ?_) (jr_l1 i x y hi hxy halt hnext d (m + 1) (L[m].f0 == x.f0 && (L[m].f1 == x.f1 && (L[m].f2 == x.f2 && (L[m].f3 == x.f3 && (L[m].f4 == x.f4))))) (by omega) ?_)
      · simp only [cartouchelaw12_JudgeRing.l1]
        rw [if_pos (by omega), if_neg (by simp), if_pos (by omega), rd_e L hmL, wrap_succ2 (n := L.length) hmL (by omega)]
      · rcases hb with h | ⟨j, h1, h2, h3⟩
        · cases h
        · by_cases e : j = m
          · subst e; exact .inl (eq_e _ _ h3)
          · exact .inr ⟨j, by omega, h2, h3⟩
    · refine Evt.step (fun k => ?_) (jr_l1 i x y hi hxy halt hnext d (m + 1) true (by omega) (.inl rfl))
      simp only [cartouchelaw12_JudgeRing.l1]
      rw [if_pos (by omega), if_pos (by trivial), wrap_succ2 (n := L.length) hmL (by omega)]
theorem jr_l0 (hm : ∀ e ∈ E, e ∈ L) (hc : ∀ i (h : i < E.length) (h2 : nxE E.length i < E.length), (E[i]).f2 = (E[nxE E.length i]).f1 ∧ (lev = 2 → ¬ ((E[i]).f0 = 3 ∧ (E[nxE E.length i]).f0 = 3))) : ∀ (d i : Nat), i + d = E.length → Evt (fun k => cartouchelaw12_JudgeRing.l0 k lev true L (i : Int) lev false [] 0 0 0 E) true
  | 0, i, hi => Evt.now1 fun k => by
    simp only [cartouchelaw12_JudgeRing.l0]
    rw [if_neg (by omega)]
  | d + 1, i, hi => by
    have hiE : i < E.length := by omega
    have hnx : nxE E.length i < E.length := by unfold nxE; split <;> omega
    obtain ⟨h1, h2⟩ := hc i hiE hnx
    obtain ⟨j, hj, hje⟩ := List.getElem_of_mem (hm _ (List.getElem_mem hiE))
    have hmod : Int.tmod (wrap64 ((i : Int) + 1)) (E.length : Int) = ((nxE E.length i : Nat) : Int) := by
      rw [wrap_succ2 (n := E.length) hiE (by omega)]
      unfold nxE
      by_cases e : i + 1 = E.length
      · rw [if_pos e, e]; exact Int.tmod_self
      · rw [if_neg e, Int.tmod_eq_of_lt (by omega) (by omega)]
    refine Evt.step (fun k => ?_) (jr_l1 L E lev hL hE i E[i] (E[nxE E.length i]) hiE h1 h2 (jr_l0 hm hc d (i + 1) (by omega)) L.length 0 false (by omega) (.inr ⟨j, by omega, hj, hje⟩))
    simp only [cartouchelaw12_JudgeRing.l0]
    rw [if_pos (by omega), if_pos (by omega), if_neg (by omega), hmod, if_pos (by omega), if_pos (by omega), rd_e E hiE, rd_e E hnx]
    rfl
end
theorem flat_len2 {lev : Int} {xs : List S50} : ∀ r : List S80, (∀ s ∈ r, s ∈ stepsH lev xs) → (flatE r).length ≤ 2 * r.length
  | [], _ => by simp [flatE]
  | s :: r, h => by
    have ih := flat_len2 r (fun y hy => h y (List.mem_cons_of_mem _ hy))
    have h2 := stepsH_two (h s List.mem_cons_self)
    have e : flatE (s :: r) = s.f2 ++ flatE r := rfl
    rw [e, List.length_append, List.length_cons]
    omega
theorem jr_ring (l : List S50) (hn : l.length ≤ 300) (hS : ∀ y ∈ l, EvS y) (lev : Int) (ho : Rg.order fr_ to_ (stepsH lev l) (nodesS (evs l)) = none) : Evt (fun k => cartouchelaw12_JudgeRing.j0 k l lev true false lev false [] 0 0 0 (flatE (Rg.ring fr_ to_ (stepsH lev l)).1)) true := by
  have hl := flat_len2 (Rg.ring fr_ to_ (stepsH lev l)).1 (Rg.ring_mem fr_ to_ (stepsH lev l))
  have hrl := ring_len_le (stepsH lev l)
  have hsl := stepsH_len lev l hn
  obtain ⟨E, a, hE, hp2, k1, k2, k3, hmem, halt⟩ := ring_facts ho
  rw [← hE] at hl ⊢
  have hEl : E.length ≤ 2000000000000 := by omega
  clear hE hl hrl hsl ho
  have hR : cartoucheref10_All.f l = some (allE l) := by
    unfold cartoucheref10_All.f
    rw [if_pos ⟨by omega, fun y hy => (hS y hy).2.2.1⟩]
  have hin := jr_l0 (allE l) E lev (allE_len l hn) hEl hmem (fun i h h2 => by
    by_cases e : i + 1 = E.length
    · have hx : nxE E.length i = 0 := by unfold nxE; rw [if_pos e]
      have hi : i = E.length - 1 := by omega
      subst hi
      simp only [hx]
      exact ⟨(k3 (by omega)).trans (k2 (by omega)).symm, fun z q => (halt z).1 (by omega) q.2⟩
    · have hx : nxE E.length i = i + 1 := by unfold nxE; rw [if_neg e]
      simp only [hx]
      exact ⟨k1 i (by omega), fun z => (halt z).2 i (by omega)⟩) E.length 0 (by omega)
  refine Evt.step (f := fun k => (cartoucheref10_All.f l).bind fun t378 => (cartouchelaw12_JudgeRing.l0 k lev true t378 0 lev false [] 0 0 0 E)) (fun k => ?_) (Evt.bind' (fun k => rfl) (Evt.now fun _ => hR) hin)
  simp only [cartouchelaw12_JudgeRing.j0]
  rw [if_neg (by simp)]
theorem p_JudgeRing (l : List S50) (lev : Int) (hS : ∀ y ∈ l, EvS y) (hl : l.length * 48 ≤ 140737488351232) (hlev : (Lit.int .i64 lev).wf = true) : ∃ k, cartouchelaw12_JudgeRing.f k l lev = some true := by
  apply Evt.rounds
  have hsh : cartouchelaw12_shown.f = some true := rfl
  have hfw : cartouchelaw12_few.f l = some (decide ((l.length : Int) ≤ 80)) := rfl
  by_cases h80 : (l.length : Int) ≤ 80
  · have hn : l.length ≤ 300 := by omega
    have j0t : ∀ (v0 : Int) (v1 : Bool) (v2 : List Int) (v3 v4 v5 : Int) (v6 : List S24), Evt (fun k => cartouchelaw12_JudgeRing.j0 k l lev true true v0 v1 v2 v3 v4 v5 v6) true := fun v0 v1 v2 v3 v4 v5 v6 => Evt.now1 fun k => by
      simp only [cartouchelaw12_JudgeRing.j0]
      rw [if_pos (by trivial)]
    refine Evt.congr (f := fun k => (judge_Judge.f k l lev).bind fun bt365 => (if bt365.2.2.2.2.2.2.2 = 0 then (cartouchelaw12_JudgeRing.j0 k l lev true ((bt365.2.2.2.2.2.2.1.length : Int) == 0) bt365.1 bt365.2.1 bt365.2.2.1 bt365.2.2.2.1 bt365.2.2.2.2.1 bt365.2.2.2.2.2.1 bt365.2.2.2.2.2.2.1) else (cartouchelaw12_JudgeRing.j0 k l lev true true bt365.1 bt365.2.1 bt365.2.2.1 bt365.2.2.2.1 bt365.2.2.2.2.1 bt365.2.2.2.2.2.1 bt365.2.2.2.2.2.2.1))) (fun k => by
      unfold cartouchelaw12_JudgeRing.f
      rw [hsh, hfw, decide_eq_true h80]
      simp only [Option.bind_some]
      rw [if_pos (by trivial)]) ?_
    refine Evt.bind' (fun k => rfl) (judge_evt l hn hS lev) ?_
    unfold jS
    by_cases c1 : lev < 1 ∨ lev > 2
    · rw [if_pos c1]
      exact Evt.congr (fun k => if_neg (by decide)) (j0t _ _ _ _ _ _ _)
    rw [if_neg c1]
    by_cases hf : (formed (evs l)).2 = 0
    · rw [if_pos hf]
      unfold jokS
      cases hb : badsS l with
      | cons b r =>
        dsimp only
        exact Evt.congr (fun k => if_pos rfl) (j0t _ _ _ _ _ _ _)
      | nil =>
        dsimp only
        cases ho : Rg.order fr_ to_ (stepsH lev l) (nodesS (evs l)) with
        | some o =>
          dsimp only
          exact Evt.congr (fun k => if_pos rfl) (j0t _ _ _ _ _ _ _)
        | none =>
          dsimp only
          exact Evt.congr (fun k => by
            rw [if_pos rfl, show (((flatE (Rg.ring fr_ to_ (stepsH lev l)).1).length : Int) == 0) = false from beq_eq_false_iff_ne.2 (by have h2 : 0 < (flatE (Rg.ring fr_ to_ (stepsH lev l)).1).length := ring_pos ho; omega)]) (jr_ring l hn hS lev ho)
    · rw [if_neg hf]
      exact Evt.congr (fun k => if_neg hf) (j0t _ _ _ _ _ _ _)
  · refine Evt.now fun k => ?_
    unfold cartouchelaw12_JudgeRing.f
    rw [hsh, hfw, decide_eq_false h80]
    simp only [Option.bind_some]
    rw [if_neg (by simp)]
end Go.Proofs.YtebjiimlcnmfpaaGreatPr
