/-
  The plain law of EdgesReads: in a well formed history an edge between versions follows the order of the ends, a read's edges tell its value.
-/
import Derived.Test.YthjgmccpbcelgaaPr53
import Derived.Test.YthjgmccpbcelgaaS10
import Derived.Test.YthjgmccpbcelgaaA14
set_option linter.unusedVariables false
set_option linter.unusedSimpArgs false
namespace Go.Proofs.YthjgmccpbcelgaaPr
open Go.Proofs.Ythjgmccpbcelgaa
open Go Go.RowKit

theorem reads_l0 (xs : List S31) (hn : xs.length ≤ 300) (es : List S76) (he : es.length ≤ 900000) (hg : ∀ x ∈ es, ∃ e, x = ofEdge e ∧ GoodE (evs xs) e ∧ SaysE (evs xs) e) : ∀ (d i : Nat), i + d = es.length → Evt (fun k => cartouchelaw10_EdgesReads.l0 k xs true es (i : Int)) true
  | 0, i, hi => Evt.now1 fun k => by
    simp only [cartouchelaw10_EdgesReads.l0]
    rw [if_neg (by omega)]
  | d + 1, i, hi => by
    have j3f : Evt (fun k => cartouchelaw10_EdgesReads.j3 k xs true es (i : Int) false) true := by
      refine Evt.step (fun k => ?_) (reads_l0 xs hn es he hg d (i + 1) (by omega))
      simp only [cartouchelaw10_EdgesReads.j3]
      rw [if_neg (by simp), wrap_succ (n := es.length) (by omega) (by omega)]
    obtain ⟨e, hx, ⟨a, b, e1, e2, ha, hb, e3, e4, hne, hkey, c1, c2, _⟩, hsay⟩ := hg _ (rd_mem (i := i) (by omega))
    rw [evs_len] at ha hb
    have f0 : (ofEdge e).f0 = e.kind := rfl
    have f1 : (ofEdge e).f1 = e.from_ := rfl
    have f2 : (ofEdge e).f2 = e.to_ := rfl
    have f3 : (ofEdge e).f3 = (a : Int) := e1
    have f4 : (ofEdge e).f4 = (b : Int) := e2
    have j2f : Evt (fun k => cartouchelaw10_EdgesReads.j2 k xs true es (i : Int) false e.kind e.from_ e.to_ (a : Int) (b : Int)) true := by
      refine Evt.step (fun k => ?_) j3f
      simp only [cartouchelaw10_EdgesReads.j2]
      rw [if_neg (by simp)]
      unfold cartoucheref08_Find.f
      rw [if_pos (by omega)]
      simp only [if_pos (show xs.length ≤ 140737488351232 by omega), Option.bind_some]
      rcases hsay with ⟨k1, h1⟩ | ⟨k1, h1⟩ | ⟨k1, h1⟩
      · rw [k1, if_neg (by omega), if_neg (by omega), if_pos (by trivial), decide_eq_false (by omega)]
      · rw [e1, e2, Int.toNat_natCast, Int.toNat_natCast] at h1
        rw [k1, if_pos (by trivial), if_pos (by omega), if_pos (by omega), if_pos (by omega), if_pos (by omega), rd_f3, rd_f3, Int.toNat_natCast, Int.toNat_natCast, if_pos (by rw [h1]), if_neg (by omega), if_neg (by omega)]
      · rw [e1, e2, Int.toNat_natCast, Int.toNat_natCast] at h1
        rw [k1, if_neg (by omega), if_pos (by trivial), if_pos (by omega), if_pos (by omega), if_pos (by omega), if_pos (by omega), rd_f3, rd_f3, Int.toNat_natCast, Int.toNat_natCast, if_neg (fun q => h1 (ba_list.1 q)), if_neg (by omega)]
    refine Evt.step (fun k => ?_) j2f
    simp only [cartouchelaw10_EdgesReads.l0]
    rw [hx, f0, f1, f2, f3, f4, if_pos (by omega), if_pos (by omega), if_neg (by omega), if_neg (by omega), if_neg (by omega), decide_eq_false (by omega)]

theorem p_EdgesReads (l : List S31) (hS : ∀ y ∈ l, EvS y) (hl : l.length * 48 ≤ 140737488351232) : ∃ k, cartouchelaw10_EdgesReads.f k l = some true := by
  apply Evt.rounds
  obtain ⟨b, hb, hb2⟩ := few_evt l (by omega)
  have out : ∀ c, c = true → Evt (fun k => cartouchelaw10_EdgesReads.j0 k l true c) true := fun c hc => Evt.now1 fun k => by
    simp only [cartouchelaw10_EdgesReads.j0]
    rw [if_pos hc]
  refine Evt.bind' (fun k => rfl) shown10 ?_
  refine Evt.bind' (fun k => rfl) hb ?_
  have hF : cartoucheref08_Formed.f l = some ((formed (evs l)).1, (formed (evs l)).2) := by
    unfold cartoucheref08_Formed.f
    rw [if_pos (by omega)]
  cases b
  · refine Evt.congr (fun k => ?_) (out true rfl)
    rw [hF]
    simp only [Option.bind_some]
    rw [if_neg (by simp)]
  · have hn := hb2 rfl
    refine Evt.congr (f := fun k => cartouchelaw10_EdgesReads.j0 k l true ((formed (evs l)).2 != 0)) (fun k => ?_) ?_
    · rw [hF]
      simp only [Option.bind_some]
      rw [if_pos (by trivial)]
    · by_cases q : (formed (evs l)).2 = 0
      · have hw := formed_wf q
        have hin : Evt (fun k => (edges_All.f k l).bind fun t685 => cartouchelaw10_EdgesReads.l0 k l true t685 0) true :=
          Evt.bind' (fun k => rfl) (all_evt l (by omega) hS) (reads_l0 l (by omega) _ (allE_len l (by omega)) (fun x hx => by obtain ⟨e, key, h1, h2⟩ := allE_good hx; exact ⟨e, h1, of_good h2, of_says hw h2⟩) (allE l).length 0 (by omega))
        refine Evt.step (fun k => ?_) hin
        simp only [cartouchelaw10_EdgesReads.j0]
        rw [if_neg (by simp [q])]
      · exact out _ (by simpa using q)
end Go.Proofs.YthjgmccpbcelgaaPr
