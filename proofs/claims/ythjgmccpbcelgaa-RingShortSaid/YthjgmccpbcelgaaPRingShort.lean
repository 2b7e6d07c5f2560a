/-
  The plain law of RingShort.
-/
import Derived.Test.YthjgmccpbcelgaaPRingMade
import Derived.Test.YthjgmccpbcelgaaPr29
set_option linter.unusedVariables false
set_option linter.unusedSimpArgs false
namespace Go.Proofs.YthjgmccpbcelgaaPr
open Go.Proofs.Ythjgmccpbcelgaa
open Go Go.RowKit

theorem p_RingShort (l : Stl) (a b : Int) (hS : ∀ y ∈ l, StepS y) (hn : l.length * 40 ≤ 140737488351232) (wa : (Lit.int .i64 a).wf = true) (wb : (Lit.int .i64 b).wf = true) : ∃ k, cartouchelaw11_RingShort.f k l a b = some true := by
  obtain ⟨r, hr⟩ : ∃ r, Rg.ring fr_ to_ l = r := ⟨_, rfl⟩
  have jt : Evt (fun k => cartouchelaw11_RingShort.j0 k l a b true r.1 r.2 true) true := Evt.now1 fun k => by
    simp only [cartouchelaw11_RingShort.j0]
    rw [if_pos (by trivial)]
  have hfew : cartouchelaw11_few.f l = some (decide ((l.length : Int) ≤ 120)) := rfl
  refine Evt.rounds (g := fun k => cartouchelaw11_RingShort.f k l a b) ?_
  by_cases h1 : (l.length : Int) ≤ 120
  · by_cases h2 : a < 0
    · refine Evt.congr (fun k => ?_) jt
      unfold cartouchelaw11_RingShort.f
      rw [shown11, Option.bind_some, hfew, Option.bind_some, ring_f hn hS, Option.bind_some, hr, decide_eq_true h1, if_pos rfl, if_pos h2]
    · by_cases h3 : b > (l.length : Int)
      · refine Evt.congr (fun k => ?_) jt
        unfold cartouchelaw11_RingShort.f
        rw [shown11, Option.bind_some, hfew, Option.bind_some, ring_f hn hS, Option.bind_some, hr, decide_eq_true h1, if_pos rfl, if_neg h2, if_pos h3]
      · by_cases h4 : a ≥ b
        · refine Evt.congr (fun k => ?_) jt
          unfold cartouchelaw11_RingShort.f
          rw [shown11, Option.bind_some, hfew, Option.bind_some, ring_f hn hS, Option.bind_some, hr, decide_eq_true h1, if_pos rfl, if_neg h2, if_neg h3, if_pos h4]
        · obtain ⟨p, rfl⟩ := Int.eq_ofNat_of_zero_le (show 0 ≤ a by omega)
          obtain ⟨q, rfl⟩ := Int.eq_ofNat_of_zero_le (show 0 ≤ b by omega)
          have hsl : ((l.take q).drop p).length = q - p := by rw [List.length_drop, List.length_take]; omega
          obtain ⟨c, hc, hc2⟩ := closedP_evt ((l.take q).drop p) (by omega)
          have start : ∀ R, Evt (fun k => cartouchelaw11_RingShort.j0 k l (p : Int) (q : Int) true r.1 r.2 (!c)) R → Evt (fun k => cartouchelaw11_RingShort.f k l (p : Int) (q : Int)) R := fun R hR => by
            refine Evt.congr (fun k => ?_) (Evt.bind (f := fun k (t : Bool) => cartouchelaw11_RingShort.j0 k l (p : Int) (q : Int) true r.1 r.2 (!t)) hc hR)
            unfold cartouchelaw11_RingShort.f
            rw [shown11, Option.bind_some, hfew, Option.bind_some, ring_f hn hS, Option.bind_some, hr, decide_eq_true h1, if_pos rfl, if_neg h2, if_neg h3, if_neg h4, if_pos (by omega), if_pos (by omega), if_pos (by omega)]
            simp only [Int.toNat_natCast]
          refine start true ?_
          cases c with
          | false => exact jt
          | true =>
            obtain ⟨z, hz1, hz2⟩ := hc2.1 rfl
            have hwalk : Rg.Walk fr_ to_ l z (q - p) z := ⟨_, hsl, fun s hs => List.mem_of_mem_take (List.mem_of_mem_drop hs), hz2⟩
            have hb : r.2 = true := by
              cases hb : r.2 with
              | true => rfl
              | false =>
                rw [← hr] at hb
                exact absurd hwalk ((Rg.ring_false fr_ to_ hb).1 (q - p) z (by omega))
            have hb' := hb
            rw [← hr] at hb'
            obtain ⟨a', n, hn1, hf, _, g2, g3, hmin⟩ := Rg.ring_true fr_ to_ hb'
            rw [hr] at g2 g3
            have hle := hmin (q - p) z (by omega) hwalk
            have hmem := Rg.ring_mem fr_ to_ l
            rw [hr] at hmem
            have inner : ∀ (i : Nat), i < r.1.length → Evt (fun k => cartouchelaw11_RingShort.l0 k l (p : Int) (q : Int) true r.1 r.2 true ((i + 1 : Nat) : Int)) true → ∀ (d u : Nat) (x : Bool), u + d = l.length → (x = true ∨ ∃ j, u ≤ j ∧ j < l.length ∧ sn l j = sn r.1 i) → Evt (fun k => cartouchelaw11_RingShort.l1 k l (p : Int) (q : Int) true r.1 r.2 true (i : Int) x (u : Int)) true := by
              intro i hi hnext d
              induction d with
              | zero =>
                intro u x hu hx
                obtain rfl : x = true := by
                  rcases hx with h | ⟨j, h4, h5, _⟩
                  · exact h
                  · omega
                refine Evt.step (fun k => ?_) hnext
                simp only [cartouchelaw11_RingShort.l1]
                rw [if_neg (by omega), if_pos (by trivial), wrap_succ (n := r.1.length) (by omega) (by omega)]
              | succ d ih =>
                intro u x hu hx
                obtain ⟨c, hc, hc2⟩ := sameS_evt [sn l u] [sn r.1 i] (by simp) (fun y hy => by
                  obtain rfl : y = sn l u := by simpa using hy
                  exact (hS _ (sn_mem (by omega))).2.2)
                have hx' : (if x = true then true else c) = true ∨ ∃ j, u + 1 ≤ j ∧ j < l.length ∧ sn l j = sn r.1 i := by
                  rcases hx with h | ⟨j, h4, h5, h6⟩
                  · exact .inl (by rw [if_pos h])
                  · by_cases e : j = u
                    · subst e
                      left
                      rw [hc2 (by rw [h6])]
                      simp
                    · exact .inr ⟨j, by omega, h5, h6⟩
                refine Evt.step (fun k => ?_) (Evt.bind (f := fun k (t : Bool) => if x = true then cartouchelaw11_RingShort.l1 k l (p : Int) (q : Int) true r.1 r.2 true (i : Int) true ((u + 1 : Nat) : Int) else cartouchelaw11_RingShort.l1 k l (p : Int) (q : Int) true r.1 r.2 true (i : Int) t ((u + 1 : Nat) : Int)) hc (Evt.congr (fun k => ?_) (ih (u + 1) _ (by omega) hx')))
                · simp only [cartouchelaw11_RingShort.l1]
                  rw [wrap_succ (n := l.length) (by omega) (by omega), wrap_succ (n := r.1.length) (by omega) (by omega), if_pos (by omega), if_pos (by omega), if_pos (by omega), if_pos (by omega), if_pos (by omega), if_pos (by omega), if_pos (by omega)]
                  simp only [Int.toNat_natCast]
                  rw [cut_one (by omega), cut_one hi]
                · cases x <;> simp
            have outer : ∀ (d i : Nat), i + d = r.1.length → Evt (fun k => cartouchelaw11_RingShort.l0 k l (p : Int) (q : Int) true r.1 r.2 true (i : Int)) true := by
              intro d
              induction d with
              | zero =>
                intro i hi
                have hw : wrap64 ((q : Int) - (p : Int)) = (q : Int) - (p : Int) := by unfold wrap64; omega
                refine Evt.now1 fun k => ?_
                simp only [cartouchelaw11_RingShort.l0]
                rw [if_neg (by omega), if_pos (by trivial), hb, if_pos (by trivial), if_pos (by trivial), hw, decide_eq_true (by omega)]
              | succ d ih =>
                intro i hi
                have hm := hmem _ (sn_mem (l := r.1) (i := i) (by omega))
                obtain ⟨j, hj, he⟩ := List.getElem_of_mem hm
                refine Evt.step (fun k => ?_) (inner i (by omega) (ih (i + 1) (by omega)) l.length 0 false (by omega) (.inr ⟨j, by omega, hj, by rw [sn_get hj, he]⟩))
                simp only [cartouchelaw11_RingShort.l0]
                rw [if_pos (by omega)]; rfl
            refine Evt.step (fun k => ?_) (outer r.1.length 0 (by omega))
            simp only [cartouchelaw11_RingShort.j0]
            rw [if_neg (by simp)]; rfl
  · refine Evt.congr (fun k => ?_) jt
    unfold cartouchelaw11_RingShort.f
    rw [shown11, Option.bind_some, hfew, Option.bind_some, ring_f hn hS, Option.bind_some, hr, decide_eq_false h1, if_neg (by simp)]
end Go.Proofs.YthjgmccpbcelgaaPr
