/-
  The plain law of RingOrders.
-/
import Derived.Test.YthjgmccpbcelgaaS11b
import Derived.Test.YthjgmccpbcelgaaPr35
set_option linter.unusedVariables false
set_option linter.unusedSimpArgs false
namespace Go.Proofs.YthjgmccpbcelgaaPr
open Go.Proofs.Ythjgmccpbcelgaa
open Go Go.RowKit

theorem p_RingOrders (nodes : List Int) (l : Stl) (o : List Int) (hI : ∀ y ∈ nodes, IntS y) (hn8 : nodes.length * 8 ≤ 140737488351232) (hS : ∀ y ∈ l, StepS y) (hn : l.length * 40 ≤ 140737488351232) (hO : ∀ y ∈ o, IntS y) (ho8 : o.length * 8 ≤ 140737488351232) : ∃ k, cartouchelaw11_RingOrders.f k nodes l o = some true := by
  have jt : Evt (fun k => cartouchelaw11_RingOrders.j0 k nodes l o true true) true := Evt.now1 fun k => by
    simp only [cartouchelaw11_RingOrders.j0]
    rw [if_pos (by trivial)]
  refine Evt.rounds (g := fun k => cartouchelaw11_RingOrders.f k nodes l o) ?_
  have hfew : cartouchelaw11_few.f l = some (decide ((l.length : Int) ≤ 120)) := rfl
  by_cases h1 : (l.length : Int) ≤ 120
  · by_cases h2 : (nodes.length : Int) > 100
    · refine Evt.congr (fun k => ?_) jt
      unfold cartouchelaw11_RingOrders.f
      rw [shown11, Option.bind_some, hfew, Option.bind_some, decide_eq_true h1, if_pos rfl, if_pos h2]
    · by_cases h3 : (o.length : Int) > 300
      · refine Evt.congr (fun k => ?_) jt
        unfold cartouchelaw11_RingOrders.f
        rw [shown11, Option.bind_some, hfew, Option.bind_some, decide_eq_true h1, if_pos rfl, if_neg h2, decide_eq_true h3]
      · have hof : ring_Order.f nodes l = some ((Rg.order fr_ to_ l nodes).getD [], (Rg.order fr_ to_ l nodes).isSome) := by
          unfold ring_Order.f
          rw [if_pos ⟨⟨hn8, by omega⟩, intsOk_iff.2 hI, stepsOk_of hS⟩]
        have hff : ring_Forward.f o l = some (Rg.forward fr_ to_ l o) := by
          unfold ring_Forward.f
          rw [if_pos ⟨⟨by omega, by omega⟩, intsOk_iff.2 hO, stepsOk_of hS⟩]
        have hlen : ((Rg.order fr_ to_ l nodes).getD []).length ≤ 100 := by
          cases hor : Rg.order fr_ to_ l nodes with
          | none => simp
          | some p =>
            obtain ⟨g1, g2, _⟩ := Rg.order_some fr_ to_ hor
            have := g1.length_le_of_subset (fun x hx => (g2 x).1 hx)
            simp only [Option.getD_some]
            omega
        obtain ⟨c, hc, hc2⟩ := ints_evt ((Rg.order fr_ to_ l nodes).getD []) ((Rg.order fr_ to_ l nodes).getD []) (by omega)
        rw [hc2 rfl] at hc
        have e1 := order_evt l (by omega) nodes (by omega)
        have e2 := forward_evt o l (by omega) (by omega)
        have hj : Evt (fun k => cartouchelaw11_RingOrders.j0 k nodes l o true false) true := by
          refine Evt.step (fun k => ?_) (Evt.bind (f := fun k (bt : List Int × Bool) => (cartoucheref08_Ints.f k ((Rg.order fr_ to_ l nodes).getD []) bt.1).bind fun t450 => (if t450 = true then (if ((Rg.order fr_ to_ l nodes).isSome == bt.2) = true then ((cartoucheref11_Forward.f k o l).bind fun t452 => (some (Rg.forward fr_ to_ l o == t452))) else (some false)) else (some false))) e1
            (Evt.bind (f := fun k (t : Bool) => if t = true then (if ((Rg.order fr_ to_ l nodes).isSome == (Rg.order fr_ to_ l nodes).isSome) = true then ((cartoucheref11_Forward.f k o l).bind fun t452 => (some (Rg.forward fr_ to_ l o == t452))) else (some false)) else (some false)) hc
            (Evt.congr (fun k => ?_) (Evt.bind (f := fun k (t : Bool) => some (Rg.forward fr_ to_ l o == t)) e2 (Evt.now fun k => by simp)))))
          · simp only [cartouchelaw11_RingOrders.j0]
            rw [if_neg (by simp), hof, Option.bind_some, hff]
            simp only [if_true, Option.bind_some]
          · rw [if_pos rfl, if_pos (by simp)]
        refine Evt.congr (fun k => ?_) hj
        unfold cartouchelaw11_RingOrders.f
        rw [shown11, Option.bind_some, hfew, Option.bind_some, decide_eq_true h1, if_pos rfl, if_neg h2, decide_eq_false h3]
  · refine Evt.congr (fun k => ?_) jt
    unfold cartouchelaw11_RingOrders.f
    rw [shown11, Option.bind_some, hfew, Option.bind_some, decide_eq_false h1, if_neg (by simp)]
end Go.Proofs.YthjgmccpbcelgaaPr
