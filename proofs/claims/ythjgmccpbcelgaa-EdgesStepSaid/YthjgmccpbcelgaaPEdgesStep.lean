/-
  The plain law of EdgesStep.
-/
import Derived.Test.YthjgmccpbcelgaaB9
import Derived.Test.YthjgmccpbcelgaaPr61
import Derived.Test.YthjgmccpbcelgaaPr60
import Derived.Test.YthjgmccpbcelgaaPr50
import Derived.Test.YthjgmccpbcelgaaS12
set_option linter.unusedVariables false
set_option linter.unusedSimpArgs false
namespace Go.Proofs.YthjgmccpbcelgaaPr
open Go.Proofs.Ythjgmccpbcelgaa
open Go Go.RowKit

abbrev Edl := List S76
def en (l : Edl) (i : Nat) : S76 := l.getD i z76
theorem rd_en (l : Edl) (i : Nat) : rd_T76 l (i : Int) = en l i := by unfold rd_T76 en; rw [Int.toNat_natCast]
theorem en_drop {l : Edl} {i : Nat} (h : i < l.length) : l.drop i = en l i :: l.drop (i + 1) := by
  rw [List.drop_eq_getElem_cons h]
  unfold en
  rw [List.getD_eq_getElem?_getD, List.getElem?_eq_getElem h]
  rfl
theorem twoE_cons (f e : Go.Proofs.Ythjgmccpbcelgaa.Edge) (r : List Go.Proofs.Ythjgmccpbcelgaa.Edge) : twoE 2 (f :: r) e = (if f.kind = 3 ∧ f.from_ = e.to_ then [⟨e.from_, f.to_, [e, f]⟩] else []) ++ twoE 2 r e := by
  unfold twoE
  rw [List.filter_cons]
  by_cases h : f.kind = 3 ∧ f.from_ = e.to_
  · rw [if_pos (by simp [h]), if_pos h]; rfl
  · rw [if_neg (by simpa using h), if_neg h]; rfl
def twoP (l : Edl) (x : S76) : List S50 := (twoE 2 (l.map toEd) (toEd x)).map stepOf
theorem twoP_nil (x : S76) : twoP [] x = [] := rfl
theorem twoP_cons (f x : S76) (r : Edl) : twoP (f :: r) x = (if f.f0 = 3 ∧ f.f1 = x.f2 then [⟨x.f1, f.f2, [x, f]⟩] else []) ++ twoP r x := by
  unfold twoP
  rw [List.map_cons, twoE_cons]
  by_cases h : f.f0 = 3 ∧ f.f1 = x.f2
  · rw [if_pos h, if_pos (show (toEd f).kind = 3 ∧ (toEd f).from_ = (toEd x).to_ from h)]; rfl
  · rw [if_neg h, if_neg (show ¬ ((toEd f).kind = 3 ∧ (toEd f).from_ = (toEd x).to_) from h)]; rfl
theorem twoP_len (l : Edl) (x : S76) : (twoP l x).length ≤ l.length := by
  unfold twoP
  rw [List.length_map]
  have := twoE_len 2 (l.map toEd) (toEd x)
  simpa using this
theorem st_l1 (l : Edl) (hn : l.length ≤ 200) {i : Nat} (hi : i < l.length) (hk : (en l i).f0 ≠ 3) {R : List S50} : ∀ (d j : Nat) (out : List S50), j + d = l.length → out.length ≤ 100000 + j →
    Evt (fun k => cartoucheref10_Steps.l0 k 2 l (out ++ twoP (l.drop j) (en l i)) (wrap64 ((i : Int) + 1))) R → Evt (fun k => cartoucheref10_Steps.l1 k 2 l out (i : Int) (j : Int)) R
  | 0, j, out, hj, ho, h => Evt.step (f := fun k => cartoucheref10_Steps.j4 k 2 l out (i : Int) (j : Int) false) (fun k => by
      simp only [cartoucheref10_Steps.l1]
      rw [if_neg (by omega)]) (Evt.step (fun k => by
      simp only [cartoucheref10_Steps.j4]
      rw [if_neg (by simp)]) (by
      rw [List.drop_eq_nil_of_le (by omega), twoP_nil, List.append_nil] at h
      exact h))
  | d + 1, j, out, hj, ho, h => by
    have hw : wrap64 ((j : Int) + 1) = ((j + 1 : Nat) : Int) := wrap_succ2 (n := l.length) (by omega) (by omega)
    refine Evt.step (f := fun k => cartoucheref10_Steps.j4 k 2 l out (i : Int) (j : Int) true) (fun k => by
      simp only [cartoucheref10_Steps.l1]
      rw [if_pos (by omega), if_pos (by trivial), if_pos (by omega), if_pos (by omega), rd_en, show ((en l i).f0 != 3) = true by simp [hk]]) ?_
    rw [en_drop (by omega), twoP_cons] at h
    have hno : ¬ ((en l j).f0 = 3 ∧ (en l j).f1 = (en l i).f2) → Evt (fun k => cartoucheref10_Steps.j5 k 2 l out (i : Int) (j : Int) false) R := fun hc => by
      rw [if_neg hc, List.nil_append] at h
      refine Evt.step (f := fun k => cartoucheref10_Steps.l1 k 2 l out (i : Int) ((j + 1 : Nat) : Int)) (fun k => by
        simp only [cartoucheref10_Steps.j5]
        rw [if_neg (by simp), hw]) (st_l1 l hn hi hk d (j + 1) out (by omega) (by omega) h)
    by_cases h3 : (en l j).f0 = 3
    · by_cases hf : (en l j).f1 = (en l i).f2
      · refine Evt.step (f := fun k => cartoucheref10_Steps.j5 k 2 l out (i : Int) (j : Int) true) (fun k => by
          simp only [cartoucheref10_Steps.j4]
          rw [if_pos (by trivial), if_pos (by omega), if_pos (by omega), rd_en, if_pos h3, if_pos (by omega), if_pos (by omega), rd_en, show ((en l j).f1 == (en l i).f2) = true by simp [hf]]) ?_
        rw [if_pos ⟨h3, hf⟩, ← List.append_assoc] at h
        refine Evt.step (f := fun k => cartoucheref10_Steps.l1 k 2 l (out ++ [⟨(en l i).f1, (en l j).f2, [en l i, en l j]⟩]) (i : Int) ((j + 1 : Nat) : Int)) (fun k => by
          simp only [cartoucheref10_Steps.j5]
          rw [if_pos (by trivial), if_pos (by omega), if_pos (by omega), if_pos (by omega), if_pos (by omega), if_pos (by omega), hw, rd_en, rd_en]) (st_l1 l hn hi hk d (j + 1) _ (by omega) (by simp; omega) h)
      · refine Evt.step (f := fun k => cartoucheref10_Steps.j5 k 2 l out (i : Int) (j : Int) false) (fun k => by
          simp only [cartoucheref10_Steps.j4]
          rw [if_pos (by trivial), if_pos (by omega), if_pos (by omega), rd_en, if_pos h3, if_pos (by omega), if_pos (by omega), rd_en, show ((en l j).f1 == (en l i).f2) = false by simp [hf]]) (hno fun h => hf h.2)
    · refine Evt.step (f := fun k => cartoucheref10_Steps.j5 k 2 l out (i : Int) (j : Int) false) (fun k => by
        simp only [cartoucheref10_Steps.j4]
        rw [if_pos (by trivial), if_pos (by omega), if_pos (by omega), rd_en, if_neg h3]) (hno fun h => h3 h.1)
def oneP (lev : Int) (l : Edl) (x : S76) : List S50 := (oneE lev (l.map toEd) (toEd x)).map stepOf
theorem stepsE_one (lev : Int) (l : Edl) : stepsE lev l = l.flatMap (oneP lev l) := by
  unfold stepsE oneP
  rw [List.map_flatMap, List.flatMap_map]
theorem one_1 (l : Edl) (x : S76) : oneP 1 l x = [⟨x.f1, x.f2, [x]⟩] := by
  unfold oneP oneE twoE
  rw [if_pos (.inl rfl)]
  simp [stepOf, toEd, ofEd]
theorem one_2 (l : Edl) {x : S76} (h : x.f0 ≠ 3) : oneP 2 l x = ⟨x.f1, x.f2, [x]⟩ :: twoP l x := by
  unfold oneP oneE twoP
  rw [if_pos (.inr ⟨rfl, h⟩)]
  rfl
theorem one_3 (l : Edl) {x : S76} (h : x.f0 = 3) : oneP 2 l x = [] := by
  unfold oneP oneE
  rw [if_neg (by rintro (h2 | ⟨_, h2⟩); · cases h2
                 · exact h2 h)]
  rfl
theorem one_no (lev : Int) (l : Edl) (x : S76) (h1 : lev ≠ 1) (h2 : lev ≠ 2) : oneP lev l x = [] := by
  unfold oneP oneE
  rw [if_neg (by rintro (h | ⟨h, _⟩); · exact h1 h
                 · exact h2 h)]
  rfl
theorem st_l0 (lev : Int) (l : Edl) (hn : l.length ≤ 200) : ∀ (d i : Nat) (out : List S50), i + d = l.length → out.length ≤ i * 201 → Evt (fun k => cartoucheref10_Steps.l0 k lev l out (i : Int)) (out ++ (l.drop i).flatMap (oneP lev l))
  | 0, i, out, hi, ho => Evt.now1 fun k => by
      simp only [cartoucheref10_Steps.l0]
      rw [if_neg (by omega), List.drop_eq_nil_of_le (by omega)]
      simp
  | d + 1, i, out, hi, ho => by
    have hw : wrap64 ((i : Int) + 1) = ((i + 1 : Nat) : Int) := wrap_succ2 (n := l.length) (by omega) (by omega)
    have hil : i < l.length := by omega
    have ih : ∀ out, out.length ≤ (i + 1) * 201 → Evt (fun k => cartoucheref10_Steps.l0 k lev l out (wrap64 ((i : Int) + 1))) (out ++ (l.drop (i + 1)).flatMap (oneP lev l)) := fun out h => by
      rw [hw]; exact st_l0 lev l hn d (i + 1) out (by omega) h
    rw [en_drop hil, List.flatMap_cons, ← List.append_assoc]
    have hj2 : ∀ out', out'.length ≤ (i + 1) * 201 → ¬ (lev = 2 ∧ (en l i).f0 ≠ 3) → Evt (fun k => cartoucheref10_Steps.j2 k lev l out' (i : Int)) (out' ++ (l.drop (i + 1)).flatMap (oneP lev l)) := fun out' ho' hc => by
      refine Evt.step (f := fun k => cartoucheref10_Steps.l1 k lev l out' (i : Int) 0) (fun k => by simp only [cartoucheref10_Steps.j2]) (Evt.step (f := fun k => cartoucheref10_Steps.j4 k lev l out' (i : Int) 0 false) (fun k => ?_) (Evt.step (fun k => by
        simp only [cartoucheref10_Steps.j4]
        rw [if_neg (by simp)]) (ih out' ho')))
      simp only [cartoucheref10_Steps.l1]
      rw [if_pos (by omega)]
      by_cases h2 : lev = 2
      · rw [if_pos h2, if_pos (by omega), if_pos (by omega), rd_en, show ((en l i).f0 != 3) = false by
          by_cases h3 : (en l i).f0 = 3
          · simp [h3]
          · exact absurd ⟨h2, h3⟩ hc]
      · rw [if_neg h2]
    have hadd : ∀ {R}, Evt (fun k => cartoucheref10_Steps.j2 k lev l (out ++ [⟨(en l i).f1, (en l i).f2, [en l i]⟩]) (i : Int)) R → Evt (fun k => cartoucheref10_Steps.j1 k lev l out (i : Int) true) R := fun h =>
      Evt.step (fun k => by
        simp only [cartoucheref10_Steps.j1]
        rw [if_pos (by trivial), if_pos (by omega), if_pos (by omega), if_pos (by omega), rd_en]) h
    by_cases h1 : lev = 1
    · subst h1
      rw [one_1]
      refine Evt.step (f := fun k => cartoucheref10_Steps.j1 k 1 l out (i : Int) true) (fun k => by
        simp only [cartoucheref10_Steps.l0]
        rw [if_pos (by omega), if_pos (by trivial)]) (hadd (hj2 _ (by simp; omega) (by omega)))
    · by_cases h2 : lev = 2
      · subst h2
        by_cases h3 : (en l i).f0 = 3
        · rw [one_3 l h3, List.append_nil]
          refine Evt.step (f := fun k => cartoucheref10_Steps.j1 k 2 l out (i : Int) false) (fun k => by
            simp only [cartoucheref10_Steps.l0]
            rw [if_pos (by omega), if_neg (by omega), if_pos (by trivial), if_pos (by omega), rd_en, show ((en l i).f0 != 3) = false by simp [h3]]) (Evt.step (fun k => by
            simp only [cartoucheref10_Steps.j1]
            rw [if_neg (by simp)]) (hj2 _ (by omega) (fun h => h.2 h3)))
        · rw [one_2 l h3]
          refine Evt.step (f := fun k => cartoucheref10_Steps.j1 k 2 l out (i : Int) true) (fun k => by
            simp only [cartoucheref10_Steps.l0]
            rw [if_pos (by omega), if_neg (by omega), if_pos (by trivial), if_pos (by omega), rd_en, show ((en l i).f0 != 3) = true by simp [h3]]) (hadd (Evt.step (f := fun k => cartoucheref10_Steps.l1 k 2 l (out ++ [⟨(en l i).f1, (en l i).f2, [en l i]⟩]) (i : Int) ((0 : Nat) : Int)) (fun k => by simp only [cartoucheref10_Steps.j2]; rfl)
            (st_l1 l hn hil h3 l.length 0 _ (by omega) (by simp; omega) ?_)))
          have hlen := twoP_len l (en l i)
          have := ih (out ++ [⟨(en l i).f1, (en l i).f2, [en l i]⟩] ++ twoP (l.drop 0) (en l i)) (by rw [List.drop_zero]; simp; omega)
          rw [List.drop_zero] at this ⊢
          rw [show out ++ (⟨(en l i).f1, (en l i).f2, [en l i]⟩ :: twoP l (en l i)) = out ++ [⟨(en l i).f1, (en l i).f2, [en l i]⟩] ++ twoP l (en l i) by simp]
          exact this
      · rw [one_no lev l _ h1 h2, List.append_nil]
        refine Evt.step (f := fun k => cartoucheref10_Steps.j1 k lev l out (i : Int) false) (fun k => by
          simp only [cartoucheref10_Steps.l0]
          rw [if_pos (by omega), if_neg h1, if_neg h2]) (Evt.step (fun k => by
          simp only [cartoucheref10_Steps.j1]
          rw [if_neg (by simp)]) (hj2 _ (by omega) (fun h => h2 h.1)))
theorem oneP_len (lev : Int) (l : Edl) (x : S76) : (oneP lev l x).length ≤ l.length + 1 := by
  unfold oneP oneE
  rw [List.length_map]
  split
  · have := twoE_len lev (l.map toEd) (toEd x)
    simp at this ⊢
    omega
  · simp
theorem st_len (lev : Int) (l : Edl) : (stepsE lev l).length ≤ l.length * (l.length + 1) := by
  rw [stepsE_one]
  have h : ∀ m : Edl, (m.flatMap (oneP lev l)).length ≤ m.length * (l.length + 1) := fun m => by
    induction m with
    | nil => simp
    | cons x r ih =>
      have := oneP_len lev l x
      rw [List.flatMap_cons, List.length_append, List.length_cons, Nat.succ_mul]
      omega
  exact h l
theorem st_two (lev : Int) (l : Edl) (y : S50) (h : y ∈ stepsE lev l) : y.f2.length ≤ 2 := by
  unfold stepsE at h
  obtain ⟨t, ht, rfl⟩ := List.mem_map.1 h
  obtain ⟨e, _, he⟩ := List.mem_flatMap.1 ht
  unfold oneE at he
  split at he
  · rcases List.mem_cons.1 he with rfl | he
    · simp [stepOf]
    · unfold twoE at he
      obtain ⟨f, _, rfl⟩ := List.mem_map.1 he
      simp [stepOf]
  · cases he
theorem steps_evt (lev : Int) (l : Edl) (hn : l.length ≤ 200) : Evt (fun k => cartoucheref10_Steps.f k lev l) (stepsE lev l) := by
  rw [stepsE_one]
  have := st_l0 lev l hn l.length 0 [] (by omega) (by simp)
  simpa [cartoucheref10_Steps.f] using this
theorem shown10_60 : cartouchelaw10_shown.f 60 = some true := by kernel_rfl
theorem p_EdgesStep (lev : Int) (l : Edl) (hlev : IntS lev) (hS : ∀ y ∈ l, EdgeS y) (hn : l.length * 40 ≤ 140737488351232) : ∃ k, cartouchelaw10_EdgesStep.f k lev l = some true := by
  have hs : Evt (fun k => cartouchelaw10_shown.f k) true := YthjgmccpbcelgaaW.PrintWords.Ev.of cartouchelaw10_shown.mono shown10_60
  by_cases h : (l.length : Int) > 200
  · refine Evt.rounds (g := fun k => cartouchelaw10_EdgesStep.f k lev l) (Evt.congr (fun k => ?_) (Evt.bind (f := fun k (t : Bool) => some t) hs (Evt.now fun k => rfl)))
    unfold cartouchelaw10_EdgesStep.f
    simp only [if_pos h]
  · have hl : l.length ≤ 200 := by omega
    have hmul : l.length * (l.length + 1) ≤ 200 * 201 := Nat.mul_le_mul hl (by omega)
    have hlen : (stepsE lev l).length ≤ 1000000 := by
      have := st_len lev l
      omega
    obtain ⟨c, hc, hc2⟩ := sameS_evt (stepsE lev l) (stepsE lev l) (by omega) (fun y hy => by have := st_two lev l y hy; omega)
    rw [hc2 rfl] at hc
    refine Evt.rounds (g := fun k => cartouchelaw10_EdgesStep.f k lev l) (Evt.congr (fun k => ?_) (Evt.bind (f := fun k (t : Bool) => (cartoucheref10_Steps.f k lev l).bind fun u => (cartoucheref10_SameSteps.f k (stepsE lev l) u).bind fun v => if t = true then some v else some false) hs
      (Evt.bind (f := fun k (u : Stl) => (cartoucheref10_SameSteps.f k (stepsE lev l) u).bind fun v => if true = true then some v else some false) (steps_evt lev l hl)
      (Evt.bind (f := fun k (v : Bool) => if true = true then some v else some false) hc (Evt.now fun k => rfl)))))
    unfold cartouchelaw10_EdgesStep.f
    simp only [if_neg h]
    unfold edges_Steps.f
    rw [if_pos (by omega)]
    rfl
end Go.Proofs.YthjgmccpbcelgaaPr
