/-
  The plain law of RingMade.
-/
import Derived.Test.YthjgmccpbcelgaaS11
import Derived.Test.YthjgmccpbcelgaaPr20
set_option linter.unusedVariables false
set_option linter.unusedSimpArgs false
namespace Go.Proofs.YthjgmccpbcelgaaPr
open Go.Proofs.Ythjgmccpbcelgaa
open Go Go.RowKit

theorem cut_one {l : Stl} {i : Nat} (h : i < l.length) : (l.take (i + 1)).drop i = [sn l i] := by
  rw [List.take_succ_eq_append_getElem h, sn_get h, List.drop_append_of_le_length (by rw [List.length_take]; omega), List.drop_eq_nil_of_le (by rw [List.length_take]; omega)]
  rfl
theorem p_RingMade (l : Stl) (hS : ∀ y ∈ l, StepS y) (hn : l.length * 40 ≤ 140737488351232) : ∃ k, cartouchelaw11_RingMade.f k l = some true := by
  obtain ⟨r, hr⟩ : ∃ r, Rg.ring fr_ to_ l = r := ⟨_, rfl⟩
  have jt : Evt (fun k => cartouchelaw11_RingMade.j0 k l true r.1 true) true := Evt.now1 fun k => by
    simp only [cartouchelaw11_RingMade.j0]
    rw [if_pos (by trivial)]
  have hfew : cartouchelaw11_few.f l = some (decide ((l.length : Int) ≤ 120)) := rfl
  refine Evt.rounds (g := fun k => cartouchelaw11_RingMade.f k l) ?_
  have start : ∀ z R, (if decide ((l.length : Int) ≤ 120) = true then !r.2 else true) = z → Evt (fun k => cartouchelaw11_RingMade.j0 k l true r.1 z) R → Evt (fun k => cartouchelaw11_RingMade.f k l) R := fun z R hz hR => by
    refine Evt.congr (fun k => ?_) hR
    unfold cartouchelaw11_RingMade.f
    rw [shown11, Option.bind_some, hfew, Option.bind_some, ring_f hn hS, Option.bind_some, hr, ← hz]
    by_cases q : decide ((l.length : Int) ≤ 120) = true
    · rw [if_pos q, if_pos q]
    · rw [if_neg q, if_neg q]
  by_cases h1 : (l.length : Int) ≤ 120
  · cases hb : r.2 with
    | false => exact start true true (by rw [decide_eq_true h1, hb]; rfl) jt
    | true =>
      rw [← hr] at hb
      obtain ⟨a, n, hn1, hf, _, h2, h3, hmin⟩ := Rg.ring_true fr_ to_ hb
      rw [hr] at hb h2 h3
      have hmem := Rg.ring_mem fr_ to_ l
      rw [hr] at hmem
      obtain ⟨_, g2, _⟩ := Rg.ringGo_some fr_ to_ l _ _ _ _ _ hf
      have hsl := Rg.sortD_len (l.map fr_)
      rw [List.length_map] at hsl
      unfold Rg.froms at g2
      have hself : 1 < r.1.length → ∀ i, i < l.length → ¬ (sn l i).f0 = (sn l i).f1 := fun hlt i hi he => by
        have := hmin 1 (sn l i).f0 (Nat.le_refl _) ⟨[sn l i], rfl, fun s hs => by
          obtain rfl : s = sn l i := by simpa using hs
          exact sn_mem hi, rfl, he.symm⟩
        omega
      -- the inner loop
      have inner : ∀ (i : Nat), i < r.1.length → Evt (fun k => cartouchelaw11_RingMade.l0 k l true r.1 ((i + 1 : Nat) : Int)) true → ∀ (d q : Nat) (x : Bool), q + d = l.length → (x = true ∨ ∃ j, q ≤ j ∧ j < l.length ∧ sn l j = sn r.1 i) → Evt (fun k => cartouchelaw11_RingMade.l1 k l true r.1 (i : Int) x (q : Int)) true := by
        intro i hi hnext d
        induction d with
        | zero =>
          intro q x hq hx
          obtain rfl : x = true := by
            rcases hx with h | ⟨j, h4, h5, _⟩
            · exact h
            · omega
          refine Evt.step (fun k => ?_) hnext
          simp only [cartouchelaw11_RingMade.l1]
          rw [if_neg (by omega), if_pos (by trivial), wrap_succ (n := r.1.length) (by omega) (by omega)]
        | succ d ih =>
          intro q x hq hx
          obtain ⟨c, hc, hc2⟩ := sameS_evt [sn l q] [sn r.1 i] (by simp) (fun y hy => by
            obtain rfl : y = sn l q := by simpa using hy
            exact (hS _ (sn_mem (by omega))).2.2)
          have hx' : (if x = true then true else c) = true ∨ ∃ j, q + 1 ≤ j ∧ j < l.length ∧ sn l j = sn r.1 i := by
            rcases hx with h | ⟨j, h4, h5, h6⟩
            · exact .inl (by rw [if_pos h])
            · by_cases e : j = q
              · subst e
                left
                rw [hc2 (by rw [h6])]
                simp
              · exact .inr ⟨j, by omega, h5, h6⟩
          have j4 : ∀ y, ((if x = true then true else c) = y) → Evt (fun k => cartouchelaw11_RingMade.j4 k l true r.1 (i : Int) y (q : Int) false) true := fun y hy => by
            refine Evt.step (fun k => ?_) (ih (q + 1) y (by omega) (by rw [← hy]; exact hx'))
            simp only [cartouchelaw11_RingMade.j4]
            rw [if_neg (by simp), wrap_succ (n := l.length) (by omega) (by omega)]
          have j3 : ∀ y, ((if x = true then true else c) = y) → Evt (fun k => cartouchelaw11_RingMade.j3 k l true r.1 (i : Int) y (q : Int)) true := fun y hy => by
            refine Evt.step (fun k => ?_) (j4 y hy)
            simp only [cartouchelaw11_RingMade.j3]
            by_cases hlt : (r.1.length : Int) > 1
            · rw [if_pos hlt, if_pos (by omega), if_pos (by omega), rd_sn, beq_eq_false_iff_ne.2 (hself (by omega) q (by omega))]
            · rw [if_neg hlt]
          refine Evt.step (fun k => ?_) (Evt.bind (f := fun k (t : Bool) => if x = true then cartouchelaw11_RingMade.j3 k l true r.1 (i : Int) true (q : Int) else cartouchelaw11_RingMade.j3 k l true r.1 (i : Int) t (q : Int)) hc (Evt.congr (fun k => ?_) (j3 _ rfl)))
          · simp only [cartouchelaw11_RingMade.l1]
            rw [wrap_succ (n := l.length) (by omega) (by omega), wrap_succ (n := r.1.length) (by omega) (by omega), if_pos (by omega), if_pos (by omega), if_pos (by omega), if_pos (by omega), if_pos (by omega), if_pos (by omega), if_pos (by omega)]
            simp only [Int.toNat_natCast]
            rw [cut_one (by omega), cut_one hi]
          · cases x <;> simp
      have outer : ∀ (d i : Nat), i + d = r.1.length → Evt (fun k => cartouchelaw11_RingMade.l0 k l true r.1 (i : Int)) true := by
        intro d
        induction d with
        | zero =>
          intro i hi
          refine Evt.now1 fun k => ?_
          simp only [cartouchelaw11_RingMade.l0]
          rw [if_neg (by omega), if_pos (by trivial), decide_eq_true (by omega)]
        | succ d ih =>
          intro i hi
          have hm := hmem _ (sn_mem (l := r.1) (i := i) (by omega))
          obtain ⟨j, hj, he⟩ := List.getElem_of_mem hm
          refine Evt.step (fun k => ?_) (inner i (by omega) (ih (i + 1) (by omega)) l.length 0 false (by omega) (.inr ⟨j, by omega, hj, by rw [sn_get hj, he]⟩))
          simp only [cartouchelaw11_RingMade.l0]
          rw [if_pos (by omega)]; rfl
      refine start false true (by rw [decide_eq_true h1, hb]; rfl) (Evt.step (fun k => ?_) (outer r.1.length 0 (by omega)))
      simp only [cartouchelaw11_RingMade.j0]
      rw [if_neg (by simp)]; rfl
  · exact start true true (by rw [decide_eq_false h1]; simp) jt
end Go.Proofs.YthjgmccpbcelgaaPr
