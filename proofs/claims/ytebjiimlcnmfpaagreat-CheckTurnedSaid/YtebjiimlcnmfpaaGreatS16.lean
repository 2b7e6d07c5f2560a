/-
  What judge.Judge computes; committed transactions; the steps of a history.
-/
import Derived.Test.YtebjiimlcnmfpaaGreatPrJudgeJudge
import Derived.Test.YtebjiimlcnmfpaaGreatS10
import Derived.Test.YtebjiimlcnmfpaaGreatS09
import Derived.Test.YtebjiimlcnmfpaaGreatA12
import Derived.Test.YtebjiimlcnmfpaaGreatB1
set_option linter.unusedVariables false
set_option linter.unusedSimpArgs false
namespace Go.Proofs.YtebjiimlcnmfpaaGreatPr
open Go.Proofs.YtebjiimlcnmfpaaGreat
open Go Go.RowKit

/-! ### committed -/
theorem find_comS (l : List Ev) (t : Int) : (findL l t).1.com = comOf l t := by
  by_cases h : firstOf l t < 0
  · have he : endOf l t < 0 := by
      rcases Int.lt_or_le (endOf l t) 0 with h2 | h2
      · exact h2
      · obtain ⟨e, _, he, ht, _⟩ := endOf_place h2
        exact absurd ht (firstOf_neg h e he)
    unfold findL comOf
    rw [if_pos h, decide_eq_false (by omega)]
    rfl
  · by_cases he : endOf l t < 0
    · unfold findL comOf
      rw [if_neg h, if_pos he, decide_eq_false (by omega)]
      rfl
    · unfold findL comOf
      rw [if_neg h, if_neg he, decide_eq_true (by omega)]
      rfl
/-! ### taint.All, taint.First -/
theorem bad_some (xs : List S50) (i : Nat) : ((!((badAt (evs xs) i).kind == 0) || (!((badAt (evs xs) i).i == 0) || !((badAt (evs xs) i).j == 0))) = true) ↔ ¬ (badAt (evs xs) i).kind = 0 := by
  constructor
  · intro h hk
    rw [(bad_zero (evs xs) i).1 hk] at h
    exact absurd h (by decide)
  · intro h
    simp [h]
theorem tall_l0 (xs : List S50) (hn : xs.length ≤ 2932031007403) : ∀ (d i : Nat) (acc : List S40), i + d = xs.length → acc.length ≤ i →
    Evt (fun k => taint_All.l0 k xs acc (xs.length : Int) (i : Int)) (acc ++ (List.range' i d).flatMap (badOne xs))
  | 0, i, acc, hi, ha => Evt.now1 fun k => by
    simp only [taint_All.l0]
    rw [if_neg (by omega)]
    simp
  | d + 1, i, acc, hi, ha => by
    have hl := badOne_len xs i
    have ih := tall_l0 xs hn d (i + 1) (acc ++ badOne xs i) (by omega) (by rw [List.length_append]; omega)
    have hr : List.range' i (d + 1) = i :: List.range' (i + 1) d := rfl
    rw [hr, List.flatMap_cons, ← List.append_assoc]
    refine Evt.step (fun k => ?_) ih
    simp only [taint_All.l0]
    have e : taint_At.f xs (i : Int) = some ((badAt (evs xs) i).kind, (badAt (evs xs) i).i, (badAt (evs xs) i).j) := by
      unfold taint_At.f
      rw [if_pos (by omega)]
    rw [if_pos (by omega), e]
    simp only [Option.bind_some]
    unfold badOne
    by_cases q : (badAt (evs xs) i).kind = 0
    · rw [if_neg (fun h => (bad_some xs i).1 h q), if_pos q, wrap_succ (n := xs.length) (by omega) (by omega), List.append_nil]
    · rw [if_pos ((bad_some xs i).2 q), if_neg q, if_pos (by omega), wrap_succ (n := xs.length) (by omega) (by omega)]
theorem tall_evt (xs : List S50) (hn : xs.length ≤ 2932031007403) : Evt (fun k => taint_All.f k xs) (badsS xs) := by
  have := tall_l0 xs hn xs.length 0 [] (by omega) (by simp)
  rw [List.nil_append] at this
  exact this
def headBad (l : List S40) : Int × Int × Int × Bool := match l with
  | [] => (0, 0, 0, false)
  | b :: _ => (b.f0, b.f1, b.f2, true)
theorem tfirst_evt (xs : List S50) (hn : xs.length ≤ 2932031007403) : Evt (fun k => taint_First.f k xs) (headBad (badsS xs)) := by
  refine Evt.bind' (fun k => rfl) (tall_evt xs hn) (Evt.now fun k => ?_)
  cases h : badsS xs with
  | nil => simp [headBad]
  | cons b r =>
    rw [if_neg (by simp <;> omega), if_pos (by simp <;> omega)]
    rfl

/-! ### judge.Flat -/
theorem flat_l0 (r : List S80) (hn : r.length ≤ 1000000000000) (h2 : ∀ y ∈ r, y.f2.length ≤ 2) : ∀ (d i : Nat) (acc : List S24), i + d = r.length → acc.length ≤ i * 2 →
    Evt (fun k => judge_Flat.l0 k acc r (r.length : Int) (i : Int)) (acc ++ (r.drop i).flatMap (fun s => s.f2))
  | 0, i, acc, hi, ha => Evt.now1 fun k => by
    simp only [judge_Flat.l0]
    rw [if_neg (by omega), drop_end _ (by omega)]
    simp
  | d + 1, i, acc, hi, ha => by
    have hrd : rd_T80 r (i : Int) = r.getD i z80 := by unfold rd_T80; rw [Int.toNat_natCast]
    have hm : r.getD i z80 ∈ r := by
      rw [List.getD_eq_getElem?_getD, List.getElem?_eq_getElem (by omega)]
      exact List.getElem_mem _
    have hl := h2 _ hm
    have ih := flat_l0 r hn h2 d (i + 1) (acc ++ (r.getD i z80).f2) (by omega) (by rw [List.length_append]; omega)
    rw [drop_step r z80 (by omega), List.flatMap_cons, ← List.append_assoc]
    refine Evt.step (fun k => ?_) ih
    simp only [judge_Flat.l0]
    rw [if_pos (by omega), if_pos (by omega), if_pos (by omega), hrd, if_pos (by omega), wrap_succ (n := r.length) (by omega) (by omega)]
theorem flat_evt (r : List S80) (hn : r.length ≤ 1000000000000) (h2 : ∀ y ∈ r, y.f2.length ≤ 2) : Evt (fun k => judge_Flat.f k r) (r.flatMap (fun s => s.f2)) := by
  have := flat_l0 r hn h2 r.length 0 [] (by omega) (by simp)
  rw [List.nil_append, List.drop_zero] at this
  exact this

/-! ### the steps of a history -/
def stepsH (lev : Int) (xs : List S50) : List S80 := stepsE lev (allE xs)
theorem stepsE_len (lev : Int) (l : List S24) : (stepsE lev l).length ≤ l.length * (l.length + 1) := by
  unfold stepsE
  rw [List.length_map]
  have h : ∀ m : List Go.Proofs.YtebjiimlcnmfpaaGreat.Edge, (m.flatMap (oneE lev (l.map toEd))).length ≤ m.length * (l.length + 1) := fun m => by
    induction m with
    | nil => simp
    | cons x r ih =>
      have h1 : (oneE lev (l.map toEd) x).length ≤ l.length + 1 := by
        unfold oneE
        split
        · have := twoE_len lev (l.map toEd) x
          rw [List.length_map] at this
          simp
          omega
        · simp
      rw [List.flatMap_cons, List.length_append, List.length_cons, Nat.succ_mul]
      omega
  have := h (l.map toEd)
  rwa [List.length_map] at this
theorem stepsH_len (lev : Int) (xs : List S50) (hn : xs.length ≤ 300) : (stepsH lev xs).length ≤ 810000900000 := by
  have h1 := stepsE_len lev (allE xs)
  have h2 := allE_len xs hn
  have h3 : (allE xs).length * ((allE xs).length + 1) ≤ 900000 * 900001 := Nat.mul_le_mul h2 (by omega)
  unfold stepsH
  omega
/-- What a step is made of: one edge; or, at level 2, one that is no GOver and a GOver behind it. -/
theorem stepsH_is {lev : Int} {xs : List S50} {y : S80} (h : y ∈ stepsH lev xs) :
    (∃ e ∈ allE xs, y = ⟨e.f1, e.f2, [e]⟩ ∧ (lev = 1 ∨ (lev = 2 ∧ e.f0 ≠ 3))) ∨ (lev = 2 ∧ ∃ e ∈ allE xs, ∃ f ∈ allE xs, y = ⟨e.f1, f.f2, [e, f]⟩ ∧ e.f0 ≠ 3 ∧ f.f0 = 3 ∧ f.f1 = e.f2) := by
  unfold stepsH stepsE at h
  obtain ⟨t, ht, rfl⟩ := List.mem_map.1 h
  obtain ⟨e0, he0, he⟩ := List.mem_flatMap.1 ht
  obtain ⟨e, hem, rfl⟩ := List.mem_map.1 he0
  unfold oneE at he
  split at he
  · rename_i hc
    rcases List.mem_cons.1 he with rfl | he
    · exact .inl ⟨e, hem, rfl, hc⟩
    · unfold twoE at he
      obtain ⟨f0, hf0, rfl⟩ := List.mem_map.1 he
      obtain ⟨hf1, hf2⟩ := List.mem_filter.1 hf0
      obtain ⟨f, hfm, rfl⟩ := List.mem_map.1 hf1
      have hf3 := of_decide_eq_true hf2
      refine .inr ⟨hf3.1, e, hem, f, hfm, rfl, ?_, hf3.2.1, hf3.2.2⟩
      rcases hc with h1 | ⟨_, h2⟩
      · omega
      · exact h2
  · cases he
theorem stepsH_two {lev : Int} {xs : List S50} {y : S80} (h : y ∈ stepsH lev xs) : y.f2.length ≤ 2 := by
  rcases stepsH_is h with ⟨e, _, rfl, _⟩ | ⟨_, e, _, f, _, rfl, _⟩ <;> simp
/-- An edge's transactions. -/
theorem allE_ends {xs : List S50} {e : S24} (h : e ∈ allE xs) : comOf (evs xs) e.f1 = true ∧ comOf (evs xs) e.f2 = true ∧ e.f1 ≠ e.f2 ∧ (∃ i, i < xs.length ∧ e.f1 = (nth (evs xs) i).txn) ∧ ∃ i, i < xs.length ∧ e.f2 = (nth (evs xs) i).txn := by
  obtain ⟨x, key, rfl, hx⟩ := allE_good h
  obtain ⟨gi, gj, e1, e2, l1, l2, f1, f2, hne, hkey, hc1, hc2, _⟩ := of_good hx
  rw [evs_len] at l1 l2
  have g1 : (ofEdge x).f1 = (nth (evs xs) gi).txn := f1
  have g2 : (ofEdge x).f2 = (nth (evs xs) gj).txn := f2
  exact ⟨by rw [g1]; exact hc1, by rw [g2]; exact hc2, by rw [g1, g2]; exact hne, ⟨gi, l1, g1⟩, gj, l2, g2⟩
theorem stepsH_ends {lev : Int} {xs : List S50} {y : S80} (h : y ∈ stepsH lev xs) : ∃ e ∈ allE xs, ∃ f ∈ allE xs, y.f0 = e.f1 ∧ y.f1 = f.f2 := by
  rcases stepsH_is h with ⟨e, he, rfl, _⟩ | ⟨_, e, he, f, hf, rfl, _⟩
  · exact ⟨e, he, e, he, rfl, rfl⟩
  · exact ⟨e, he, f, hf, rfl, rfl⟩
theorem txn_ok {xs : List S50} (hS : ∀ y ∈ xs, EvS y) {i : Nat} (hi : i < xs.length) : IntS (nth (evs xs) i).txn := by
  have : (nth (evs xs) i).txn = (xs[i]).f1 := by
    unfold nth evs
    rw [List.getD_eq_getElem?_getD, List.getElem?_map, List.getElem?_eq_getElem hi]
    rfl
  rw [this]
  exact (hS _ (List.getElem_mem hi)).2.1
theorem stepsH_ok {lev : Int} {xs : List S50} (hS : ∀ y ∈ xs, EvS y) : stepsOk (stepsH lev xs) = true := stepsOk_iff.2 fun y hy => by
  obtain ⟨e, he, f, hf, h1, h2⟩ := stepsH_ends hy
  obtain ⟨_, _, _, ⟨i, hi, hi2⟩, _⟩ := allE_ends he
  obtain ⟨_, _, _, _, ⟨j, hj, hj2⟩⟩ := allE_ends hf
  rw [h1, h2, hi2, hj2]
  exact ⟨txn_ok hS hi, txn_ok hS hj⟩
/-- The committed transactions. -/
theorem mem_nodes {l : List Ev} {t : Int} : t ∈ nodesS l ↔ comOf l t = true := by
  unfold nodesS
  rw [Rg.mem_sortD]
  constructor
  · intro h
    obtain ⟨x, hx, rfl⟩ := List.mem_map.1 h
    obtain ⟨hx1, hx2⟩ := List.mem_filter.1 hx
    obtain ⟨j, hj, h1, h2, h3⟩ := mem_lives hx1
    obtain ⟨j', _, _, _, hx'⟩ := (mem_livesFrom l _ _ x).1 hx1
    have e1 : x.txn = (nth l j').txn := by rw [hx']; unfold lifeOf; split <;> rfl
    have e2 : x.from_ = (j' : Int) := by rw [hx']; unfold lifeOf; split <;> rfl
    have : j' = j := by rw [h3] at e2; omega
    subst this
    have hfc := find_comS l (nth l j').txn
    rw [h2] at hfc
    rw [e1, ← hfc]
    exact hx2
  · intro h
    obtain ⟨h1, h2, h3⟩ := comOf_end h
    obtain ⟨e, he, hel, het, _⟩ := endOf_place h1
    have hf0 : 0 ≤ firstOf l t := by
      rcases Int.lt_or_le (firstOf l t) 0 with z | z
      · exact absurd het (firstOf_neg z e hel)
      · exact z
    obtain ⟨f, hf⟩ := Int.eq_ofNat_of_zero_le hf0
    have hm := lives_mem (l := l) (t := t) (f := f) hf
    have hc := find_comS l t
    refine List.mem_map.2 ⟨_, List.mem_filter.2 ⟨hm, by rw [hc]; exact h⟩, ?_⟩
    unfold findL
    rw [if_neg (by omega)]
    split <;> rfl
theorem stepsH_nodes {lev : Int} {xs : List S50} {y : S80} (h : y ∈ stepsH lev xs) : fr_ y ∈ nodesS (evs xs) ∧ to_ y ∈ nodesS (evs xs) := by
  obtain ⟨e, he, f, hf, h1, h2⟩ := stepsH_ends h
  exact ⟨mem_nodes.2 (by show comOf _ y.f0 = true; rw [h1]; exact (allE_ends he).1), mem_nodes.2 (by show comOf _ y.f1 = true; rw [h2]; exact (allE_ends hf).2.1)⟩

/-! ### judge.Judge -/
abbrev JR := Int × Bool × List Int × Int × Int × Int × List S24 × Int
def jokS (xs : List S50) (lev : Int) : JR := match badsS xs with
  | b :: _ => (lev, false, [], b.f0, b.f1, b.f2, [], 0)
  | [] => match Rg.order fr_ to_ (stepsH lev xs) (nodesS (evs xs)) with
    | some o => (lev, true, o, 0, 0, 0, [], 0)
    | none => (lev, false, [], 0, 0, 0, (Rg.ring fr_ to_ (stepsH lev xs)).1.flatMap (fun s => s.f2), 0)
def jS (xs : List S50) (lev : Int) : JR :=
  if lev < 1 ∨ lev > 2 then (0, false, [], 0, 0, 0, [], 1)
  else if (formed (evs xs)).2 = 0 then jokS xs lev else (0, false, [], 0, 0, 0, [], (formed (evs xs)).2)
theorem ring_len_le (l : List S80) : (Rg.ring fr_ to_ l).1.length ≤ l.length := by
  have hs := Rg.sortD_len (l.map fr_)
  rw [List.length_map] at hs
  by_cases h : (Rg.ring fr_ to_ l).2 = true
  · obtain ⟨a, n, h1, h2, h3, h4, _⟩ := Rg.ring_true fr_ to_ h
    rw [h4]
    unfold Rg.find1 Rg.froms at h2
    have := (Rg.ringGo_some fr_ to_ l _ _ _ _ _ h2).2.1
    omega
  · rw [(Rg.ring_false fr_ to_ (by simpa using h)).2]; simp
theorem judge_evt (xs : List S50) (hn : xs.length ≤ 300) (hS : ∀ y ∈ xs, EvS y) (lev : Int) : Evt (fun k => judge_Judge.f k xs lev) (jS xs lev) := by
  unfold jS
  by_cases c1 : lev < 1
  · rw [if_pos (.inl c1)]
    exact Evt.now fun k => by unfold judge_Judge.f; rw [if_pos c1]
  by_cases c2 : lev > 2
  · rw [if_pos (.inr c2)]
    exact Evt.now fun k => by unfold judge_Judge.f; rw [if_neg c1, if_pos c2]
  rw [if_neg (by omega)]
  have hF : history_Formed.f xs = some (formed (evs xs)) := by unfold history_Formed.f; rw [if_pos (by omega)]
  by_cases c3 : (formed (evs xs)).2 = 0
  · rw [if_pos c3]
    unfold jokS
    have hA := all_evt xs hn hS
    have hAl := allE_len xs hn
    have h1 := tfirst_evt xs (by omega)
    cases hb : badsS xs with
    | cons b r =>
      rw [hb] at h1
      refine Evt.congr (fun k => ?_) (Evt.bind (f := fun k (bt : Int × Int × Int × Bool) => if bt.2.2.2 = true then (some (lev, false, ([] : List Int), bt.1, bt.2.1, bt.2.2.1, ([] : List S24), (0 : Int))) else ((edges_All.f k xs).bind fun t201 => ((edges_Steps.f lev t201).bind fun t204 => ((edges_Nodes.f xs).bind fun t207 => ((ring_Order.f t207 t204).bind fun bt210 => (if bt210.2 = true then (some (lev, true, bt210.1, 0, 0, 0, ([] : List S24), 0)) else ((ring_Ring.f t204).bind fun bt214 => ((judge_Flat.f k bt214.1).bind fun t218 => (some (lev, false, ([] : List Int), 0, 0, 0, t218, 0)))))))))) h1 (Evt.now fun k => rfl))
      unfold judge_Judge.f
      rw [if_neg c1, if_neg c2, hF]
      simp only [Option.bind_some]
      rw [if_pos c3]
    | nil =>
      rw [hb] at h1
      have hSt : edges_Steps.f lev (allE xs) = some (stepsH lev xs) := by
        unfold edges_Steps.f
        rw [if_pos (by have := Nat.mul_le_mul hAl (show (allE xs).length + 1 ≤ 900001 by omega); omega)]
        rfl
      have hNo : edges_Nodes.f xs = some (nodesS (evs xs)) := by unfold edges_Nodes.f; rw [if_pos (by omega)]
      have hsl := stepsH_len lev xs hn
      have hnl := nodesS_len (evs xs)
      rw [evs_len] at hnl
      have hOr : ring_Order.f (nodesS (evs xs)) (stepsH lev xs) = some ((Rg.order fr_ to_ (stepsH lev xs) (nodesS (evs xs))).getD [], (Rg.order fr_ to_ (stepsH lev xs) (nodesS (evs xs))).isSome) := by
        have hI : intsOk (nodesS (evs xs)) = true := intsOk_iff.2 fun x hx => by
          obtain ⟨h1, h2, _⟩ := comOf_end (mem_nodes.1 hx)
          obtain ⟨e, he, hel, het, _⟩ := endOf_place h1
          rw [evs_len] at hel
          rw [← het]
          exact txn_ok hS hel
        unfold ring_Order.f
        rw [if_pos ⟨by omega, hI, stepsH_ok hS⟩]
      have hRi : ring_Ring.f (stepsH lev xs) = some (Rg.ring fr_ to_ (stepsH lev xs)) := by
        unfold ring_Ring.f
        rw [if_pos ⟨by omega, stepsH_ok hS⟩]
      have hin : Evt (fun k => (edges_All.f k xs).bind fun t201 => ((edges_Steps.f lev t201).bind fun t204 => ((edges_Nodes.f xs).bind fun t207 => ((ring_Order.f t207 t204).bind fun bt210 => (if bt210.2 = true then (some ((lev, true, bt210.1, 0, 0, 0, [], 0) : JR)) else ((ring_Ring.f t204).bind fun bt214 => ((judge_Flat.f k bt214.1).bind fun t218 => (some ((lev, false, [], 0, 0, 0, t218, 0) : JR))))))))) (match Rg.order fr_ to_ (stepsH lev xs) (nodesS (evs xs)) with
          | some o => ((lev, true, o, 0, 0, 0, [], 0) : JR)
          | none => (lev, false, [], 0, 0, 0, (Rg.ring fr_ to_ (stepsH lev xs)).1.flatMap (fun s => s.f2), 0)) := by
        refine Evt.bind' (fun k => rfl) hA ?_
        simp only [hSt, hNo, hOr, Option.bind_some]
        cases ho : Rg.order fr_ to_ (stepsH lev xs) (nodesS (evs xs)) with
        | some o => exact Evt.now fun k => rfl
        | none =>
          dsimp only
          have hfl := flat_evt (Rg.ring fr_ to_ (stepsH lev xs)).1 (by have := ring_len_le (stepsH lev xs); omega) (fun y hy => stepsH_two (Rg.ring_mem fr_ to_ (stepsH lev xs) y hy))
          refine Evt.bind' (f := fun k t218 => some (lev, false, [], 0, 0, 0, t218, 0)) (fun k => ?_) hfl (Evt.now fun k => rfl)
          rw [hRi]
          rfl
      refine Evt.congr (fun k => ?_) (Evt.bind (f := fun k (bt : Int × Int × Int × Bool) => if bt.2.2.2 = true then (some (lev, false, ([] : List Int), bt.1, bt.2.1, bt.2.2.1, ([] : List S24), (0 : Int))) else ((edges_All.f k xs).bind fun t201 => ((edges_Steps.f lev t201).bind fun t204 => ((edges_Nodes.f xs).bind fun t207 => ((ring_Order.f t207 t204).bind fun bt210 => (if bt210.2 = true then (some (lev, true, bt210.1, 0, 0, 0, ([] : List S24), 0)) else ((ring_Ring.f t204).bind fun bt214 => ((judge_Flat.f k bt214.1).bind fun t218 => (some (lev, false, ([] : List Int), 0, 0, 0, t218, 0)))))))))) h1 (Evt.congr (fun k => if_neg (by simp [headBad])) hin))
      unfold judge_Judge.f
      rw [if_neg c1, if_neg c2, hF]
      simp only [Option.bind_some]
      rw [if_pos c3]
  · rw [if_neg c3]
    exact Evt.now fun k => by
      unfold judge_Judge.f
      rw [if_neg c1, if_neg c2, hF]
      simp only [Option.bind_some]
      rw [if_neg c3]
end Go.Proofs.YtebjiimlcnmfpaaGreatPr
