/-
  The plain law of RingEither.
-/
import Derived.Test.YthjgmccpbcelgaaS11b
import Derived.Test.YthjgmccpbcelgaaPr38
set_option linter.unusedVariables false
set_option linter.unusedSimpArgs false
namespace Go.Proofs.YthjgmccpbcelgaaPr
open Go.Proofs.Ythjgmccpbcelgaa
open Go Go.RowKit

theorem fm_two {α : Type} (f : α → List Int) (h : ∀ x, (f x).length = 2) : ∀ l : List α, (l.flatMap f).length = l.length * 2
  | [] => by simp
  | x :: r => by rw [List.flatMap_cons, List.length_append, fm_two f h r, h, List.length_cons]; omega
theorem p_RingEither (l : Stl) (hS : ∀ y ∈ l, StepS y) (hn : l.length * 40 ≤ 140737488351232) : ∃ k, cartouchelaw11_RingEither.f k l = some true := by
  by_cases h : (l.length : Int) > 60
  · refine ⟨0, ?_⟩
    unfold cartouchelaw11_RingEither.f
    rw [shown11, Option.bind_some, if_pos h]
  · obtain ⟨N, hN⟩ : ∃ N, l.flatMap (fun s => [s.f0, s.f1]) = N := ⟨_, rfl⟩
    have hnd := nodes_evt l (by omega)
    rw [hN] at hnd
    have hmem : ∀ s ∈ l, fr_ s ∈ N ∧ to_ s ∈ N := fun s hs => by
      rw [← hN]
      exact ⟨List.mem_flatMap.2 ⟨s, hs, by simp⟩, List.mem_flatMap.2 ⟨s, hs, by simp⟩⟩
    have hNl : N.length ≤ 120 := by
      have := fm_two (fun s : S50 => [s.f0, s.f1]) (fun s => rfl) l
      rw [hN] at this
      omega
    have hNI : intsOk N = true := intsOk_iff.2 fun x hx => by
      rw [← hN] at hx
      obtain ⟨s, hs, h1⟩ := List.mem_flatMap.1 hx
      have h2 := hS s hs
      rcases List.mem_cons.1 h1 with rfl | h1
      · exact h2.1
      · obtain rfl : x = s.f1 := by simpa using h1
        exact h2.2.1
    have hof : ring_Order.f N l = some ((Rg.order fr_ to_ l N).getD [], (Rg.order fr_ to_ l N).isSome) := by
      unfold ring_Order.f
      rw [if_pos ⟨⟨by omega, by omega⟩, hNI, stepsOk_of hS⟩]
    have hor := Rg.order_or fr_ to_ hmem
    refine Evt.rounds (g := fun k => cartouchelaw11_RingEither.f k l) ?_
    have step : ∀ r, Evt (fun k => if ((Rg.order fr_ to_ l N).isSome == (Rg.ring fr_ to_ l).2) = true then (some false) else (if (Rg.ring fr_ to_ l).2 = true then ((ring_Closed.f k (Rg.ring fr_ to_ l).1).bind fun t492 => (some t492)) else ((ring_Forward.f ((Rg.order fr_ to_ l N).getD []) l).bind fun t493 => (some t493)))) r → Evt (fun k => cartouchelaw11_RingEither.f k l) r := fun r hr => by
      refine Evt.congr (fun k => ?_) (Evt.bind (f := fun k (t : List Int) => ((ring_Order.f t l).bind fun bt484 => ((ring_Ring.f l).bind fun bt488 => (if (bt484.2 == bt488.2) = true then (some false) else (if bt488.2 = true then ((ring_Closed.f k bt488.1).bind fun t492 => (some t492)) else ((ring_Forward.f bt484.1 l).bind fun t493 => (some t493))))))) hnd (Evt.congr (fun k => ?_) hr))
      · unfold cartouchelaw11_RingEither.f
        rw [shown11, Option.bind_some, if_neg h]
        simp only [if_true]
      · rw [hof, Option.bind_some, ring_f hn hS, Option.bind_some]
    refine step true ?_
    cases hb : (Rg.ring fr_ to_ l).2 with
    | true =>
      obtain ⟨a, n, h1, hf, _, h2, h3, _⟩ := Rg.ring_true fr_ to_ hb
      have hw := (Rg.find1_some fr_ to_ hf).2.1
      have hno : (Rg.order fr_ to_ l N).isSome = false := by
        cases ho : Rg.order fr_ to_ l N with
        | none => rfl
        | some o => exact absurd hw (hor.1 ⟨o, ho⟩ n a h1)
      obtain ⟨g1, g2, _⟩ := Rg.ringGo_some fr_ to_ l _ _ _ _ _ hf
      have hsl := Rg.sortD_len (l.map fr_)
      rw [List.length_map] at hsl
      unfold Rg.froms at g2
      obtain ⟨d, hd, hd2⟩ := closedP_evt (Rg.ring fr_ to_ l).1 (by omega)
      have : d = true := hd2.2 ⟨a, fun e => by rw [e] at h2; simp at h2; omega, h3⟩
      rw [this] at hd
      refine Evt.congr (fun k => ?_) (Evt.bind (f := fun k (t : Bool) => some t) hd (Evt.now fun k => rfl))
      rw [hno, if_neg (by simp), if_pos rfl]
    | false =>
      obtain ⟨h1, _⟩ := Rg.ring_false fr_ to_ hb
      obtain ⟨o, ho⟩ := hor.2 h1
      obtain ⟨g1, g2, g3⟩ := Rg.order_some fr_ to_ ho
      have hff : ring_Forward.f o l = some true := by
        unfold ring_Forward.f
        have hol : o.length ≤ N.length := g1.length_le_of_subset (fun x hx => (g2 x).1 hx)
        rw [if_pos ⟨⟨by omega, by omega⟩, intsOk_iff.2 fun x hx => intsOk_iff.1 hNI x ((g2 x).1 hx), stepsOk_of hS⟩, Rg.fwd_forward fr_ to_ g1 g3]
      refine Evt.now fun k => ?_
      rw [ho, if_neg (by simp), if_neg (by simp)]
      simp only [Option.getD_some]
      rw [hff]; rfl
end Go.Proofs.YthjgmccpbcelgaaPr
