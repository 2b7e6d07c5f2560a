/-
  The plain law of CheckNodes: an order that is Ahead has just the committed transactions, each once.
-/
import Derived.Test.YtebjiimlcnmfpaaGreatPrCartouchelaw13CheckNodes
import Derived.Test.YtebjiimlcnmfpaaGreatS21
import Derived.Test.YtebjiimlcnmfpaaGreatS17
set_option linter.unusedVariables false
set_option linter.unusedSimpArgs false
namespace Go.Proofs.YtebjiimlcnmfpaaGreatPr
open Go.Proofs.YtebjiimlcnmfpaaGreat
open Go Go.RowKit YtebjiimlcnmfpaaGreatW.PrintWords

section
variable (nodes o : List Int)
theorem rdn (l : List Int) {i : Nat} (h : i < l.length) : rd l (i : Int) = l[i] := by
  unfold rd
  rw [Int.toNat_natCast, List.getD_eq_getElem?_getD, List.getElem?_eq_getElem h]; rfl
theorem cn_l1 (hol : o.length ≤ 1000) (hnl : nodes.length ≤ 1000) (i : Nat) (hi : i < nodes.length) (hnext : Evt (fun k => cartouchelaw13_CheckNodes.l0 k o true nodes ((i + 1 : Nat) : Int)) true) : ∀ (d m c : Nat), m + d = o.length → c + (o.drop m).count nodes[i] = 1 →
    Evt (fun k => cartouchelaw13_CheckNodes.l1 k o true nodes (i : Int) (c : Int) (m : Int)) true
  | 0, m, c, hm, hc => by
    rw [List.drop_eq_nil_of_le (by omega), List.count_nil] at hc
    refine Evt.step (fun k => ?_) hnext
    simp only [cartouchelaw13_CheckNodes.l1]
    rw [if_neg (by omega), if_pos (by omega), wrap_succ (n := nodes.length) (by omega) (by omega)]
  | d + 1, m, c, hm, hc => by
    have hmo : m < o.length := by omega
    rw [List.drop_eq_getElem_cons hmo, List.count_cons] at hc
    by_cases h : o[m] = nodes[i]
    · rw [if_pos (by simp [h])] at hc
      refine Evt.step (fun k => ?_) (cn_l1 hol hnl i hi hnext d (m + 1) (c + 1) (by omega) (by omega))
      simp only [cartouchelaw13_CheckNodes.l1]
      rw [if_pos (by omega), if_pos (by omega), if_pos (by omega), if_pos (by omega), rdn o hmo, rdn nodes hi, if_pos h, wrap_succ (i := m) (n := o.length) (by omega) (by omega), show wrap64 ((c : Int) + 1) = ((c + 1 : Nat) : Int) by unfold wrap64; omega]
    · rw [if_neg (by simpa using h)] at hc
      refine Evt.step (fun k => ?_) (cn_l1 hol hnl i hi hnext d (m + 1) c (by omega) (by omega))
      simp only [cartouchelaw13_CheckNodes.l1]
      rw [if_pos (by omega), if_pos (by omega), if_pos (by omega), if_pos (by omega), rdn o hmo, rdn nodes hi, if_neg h, wrap_succ (n := o.length) (by omega) (by omega)]
theorem cn_l0 (hol : o.length ≤ 1000) (hnl : nodes.length ≤ 1000) (hcnt : ∀ x ∈ nodes, o.count x = 1) : ∀ (d i : Nat), i + d = nodes.length → Evt (fun k => cartouchelaw13_CheckNodes.l0 k o true nodes (i : Int)) true
  | 0, i, hi => Evt.now1 fun k => by
    simp only [cartouchelaw13_CheckNodes.l0]
    rw [if_neg (by omega)]
  | d + 1, i, hi => by
    have hil : i < nodes.length := by omega
    refine Evt.step (fun k => ?_) (cn_l1 nodes o hol hnl i hil (cn_l0 hol hnl hcnt d (i + 1) (by omega)) o.length 0 0 (by omega) (by rw [List.drop_zero, hcnt _ (List.getElem_mem hil)]))
    simp only [cartouchelaw13_CheckNodes.l0]
    rw [if_pos (by omega)]
    rfl
end
theorem cntn {x : Int} : ∀ {l : List Int}, l.Nodup → x ∈ l → l.count x = 1
  | [], _, h => by cases h
  | y :: r, hn, h => by
    obtain ⟨h1, h2⟩ := List.nodup_cons.1 hn
    rw [List.count_cons]
    by_cases e : y = x
    · subst e
      rw [List.count_eq_zero_of_not_mem h1, if_pos (by simp)]
    · rw [if_neg (by simpa using e), cntn h2 ((List.mem_cons.1 h).resolve_left fun z => e z.symm)]
theorem p_CheckNodes (l : List S50) (lev : Int) (o : List Int) (hS : ∀ y ∈ l, EvS y) (hl : l.length * 48 ≤ 140737488351232) (hlev : (Lit.int .i64 lev).wf = true) (hI : ∀ y ∈ o, IntS y) (hol : o.length * 8 ≤ 140737488351232) : ∃ k, cartouchelaw13_CheckNodes.f k l lev o = some true := by
  apply Evt.rounds
  obtain ⟨b, hb, hb2⟩ := few3_evt l (by omega)
  have j0t : Evt (fun k => cartouchelaw13_CheckNodes.j0 k l o true true) true := Evt.now1 fun k => by
    simp only [cartouchelaw13_CheckNodes.j0]
    rw [if_pos (by trivial)]
  refine Evt.bind' (fun k => rfl) (Evt.now fun _ => shown13) ?_
  refine Evt.bind' (fun k => rfl) hb ?_
  cases b
  · exact Evt.congr (fun k => if_neg (by simp)) j0t
  obtain ⟨hn, hT⟩ := hb2 rfl
  refine Evt.congr (fun k => if_pos rfl) ?_
  by_cases q : (o.length : Int) > 100
  · exact Evt.congr (fun k => if_pos q) j0t
  refine Evt.congr (fun k => if_neg q) ?_
  refine Evt.bind' (fun k => rfl) (Evt.now fun _ => ahead_f (by omega) hS (by omega) hI) ?_
  cases ha : aheadS l lev o with
  | false => exact j0t
  | true =>
    obtain ⟨hnd, hm⟩ := aheadS_mem ha
    have hnn : (nodesS (evs l)).Nodup := Rg.rising_nodup (nodesS_rising _)
    have h1 := hnd.length_le_of_subset (fun x hx => (hm x).1 hx)
    have h2 := hnn.length_le_of_subset (fun x hx => (hm x).2 hx)
    refine Evt.step (f := fun k => (cartoucheref10_Nodes.f k l).bind fun t709 => (if (t709.length : Int) = (o.length : Int) then (cartouchelaw13_CheckNodes.l0 k o true t709 0) else (some false))) (fun k => ?_) ?_
    · simp only [Bool.not_true, cartouchelaw13_CheckNodes.j0]
      rw [if_neg (by simp)]
    refine Evt.bind' (fun k => rfl) (rnodes_evt l (by omega) (fun i hi => by have := hT i hi; omega)) ?_
    refine Evt.congr (fun k => if_pos (by omega)) ?_
    exact cn_l0 (nodesS (evs l)) o (by omega) (by omega) (fun x hx => cntn hnd ((hm x).2 hx)) (nodesS (evs l)).length 0 (by omega)
end Go.Proofs.YtebjiimlcnmfpaaGreatPr
