/-
  Rows of steps that are the same.
-/
import Derived.Test.YthjgmccpbcelgaaPr19
import Derived.Test.YthjgmccpbcelgaaB0
set_option linter.unusedVariables false
set_option linter.unusedSimpArgs false
namespace Go.Proofs.YthjgmccpbcelgaaPr
open Go.Proofs.Ythjgmccpbcelgaa
open Go Go.RowKit

theorem wrap_succ2 {i n : Nat} (h : i < n) (hn : n ≤ 9223372036854775807) : wrap64 ((i : Int) + 1) = ((i + 1 : Nat) : Int) := by unfold wrap64; omega
abbrev Stl := List S50
def sn (l : Stl) (i : Nat) : S50 := l.getD i z50
theorem rd_sn (l : Stl) (i : Nat) : rd_T50 l (i : Int) = sn l i := by unfold rd_T50 sn; rw [Int.toNat_natCast]
theorem sn_mem {l : Stl} {i : Nat} (h : i < l.length) : sn l i ∈ l := by
  unfold sn
  rw [List.getD_eq_getElem?_getD, List.getElem?_eq_getElem h]
  exact List.getElem_mem _
theorem sn_get {l : Stl} {i : Nat} (h : i < l.length) : sn l i = l[i] := by
  unfold sn
  rw [List.getD_eq_getElem?_getD, List.getElem?_eq_getElem h]; rfl
theorem sn_drop {l : Stl} {i : Nat} (h : i < l.length) : l.drop i = sn l i :: l.drop (i + 1) := by
  rw [List.drop_eq_getElem_cons h, sn_get h]
/-! ### sameness -/
theorem same_l0 (a b : List S76) (hl : a.length = b.length) (hn : a.length ≤ 9223372036854775807) : ∀ (d i : Nat), i + d = a.length → ∃ c, Evt (fun k => cartoucheref10_Same.l0 k a b (i : Int)) c ∧ (a = b → c = true)
  | 0, i, hi => ⟨true, Evt.now1 fun k => by
      simp only [cartoucheref10_Same.l0]
      rw [if_neg (by omega)], fun _ => rfl⟩
  | d + 1, i, hi => by
    obtain ⟨c, hc, hc2⟩ := same_l0 a b hl hn d (i + 1) (by omega)
    by_cases q : (!(((rd_T76 a (i : Int)).f0) == ((rd_T76 b (i : Int)).f0)) || (!(((rd_T76 a (i : Int)).f1) == ((rd_T76 b (i : Int)).f1)) || (!(((rd_T76 a (i : Int)).f2) == ((rd_T76 b (i : Int)).f2)) || (!(((rd_T76 a (i : Int)).f3) == ((rd_T76 b (i : Int)).f3)) || (!(((rd_T76 a (i : Int)).f4) == ((rd_T76 b (i : Int)).f4))))))) = true
    · refine ⟨false, Evt.now1 fun k => ?_, fun e => by subst e; simp at q⟩
      simp only [cartoucheref10_Same.l0]
      rw [if_pos (by omega), if_pos (by omega), if_pos (by omega), if_pos q]
    · refine ⟨c, Evt.step (fun k => ?_) hc, hc2⟩
      simp only [cartoucheref10_Same.l0]
      rw [if_pos (by omega), if_pos (by omega), if_pos (by omega), if_neg q, wrap_succ2 (n := a.length) (by omega) hn]
theorem same_evt (a b : List S76) (hn : a.length ≤ 9223372036854775807) : ∃ c, Evt (fun k => cartoucheref10_Same.f k a b) c ∧ (a = b → c = true) := by
  by_cases h : a.length = b.length
  · obtain ⟨c, hc, h2⟩ := same_l0 a b h hn a.length 0 (by omega)
    refine ⟨c, Evt.congr (fun k => ?_) hc, h2⟩
    unfold cartoucheref10_Same.f
    rw [if_pos (by omega)]; rfl
  · refine ⟨false, Evt.now fun k => ?_, fun e => absurd (by rw [e]) h⟩
    unfold cartoucheref10_Same.f
    rw [if_neg (by omega)]
theorem sameS_l0 (a b : Stl) (hl : a.length = b.length) (hn : a.length ≤ 140737488351232) (hS : ∀ y ∈ a, y.f2.length ≤ 9223372036854775807) : ∀ (d i : Nat), i + d = a.length → ∃ c, Evt (fun k => cartoucheref10_SameSteps.l0 k a b (i : Int)) c ∧ (a = b → c = true)
  | 0, i, hi => ⟨true, Evt.now1 fun k => by
      simp only [cartoucheref10_SameSteps.l0]
      rw [if_neg (by omega)], fun _ => rfl⟩
  | d + 1, i, hi => by
    obtain ⟨c, hc, hc2⟩ := sameS_l0 a b hl hn hS d (i + 1) (by omega)
    obtain ⟨e, he, he2⟩ := same_evt (rd_T50 a (i : Int)).f2 (rd_T50 b (i : Int)).f2 (by rw [rd_sn]; exact hS _ (sn_mem (by omega)))
    have jt : ∀ z, z = true → Evt (fun k => cartoucheref10_SameSteps.j1 k a b (i : Int) z) false := fun z hz => Evt.now1 fun k => by
      simp only [cartoucheref10_SameSteps.j1]
      rw [if_pos hz]
    have jf : ∀ z, z = false → Evt (fun k => cartoucheref10_SameSteps.j1 k a b (i : Int) z) c := fun z hz => by
      refine Evt.step (fun k => ?_) hc
      simp only [cartoucheref10_SameSteps.j1]
      rw [if_neg (by rw [hz]; simp), wrap_succ (n := a.length) (by omega) hn]
    have hb : ∀ r, Evt (fun k => if e = true then (if ((rd_T50 a (i : Int)).f0) = ((rd_T50 b (i : Int)).f0) then (cartoucheref10_SameSteps.j1 k a b (i : Int) (((rd_T50 a (i : Int)).f1) != ((rd_T50 b (i : Int)).f1))) else (cartoucheref10_SameSteps.j1 k a b (i : Int) true)) else (cartoucheref10_SameSteps.j1 k a b (i : Int) true)) r →
        Evt (fun k => cartoucheref10_SameSteps.l0 k a b (i : Int)) r := fun r hr => by
      refine Evt.step (fun k => ?_) (Evt.bind (f := fun k (e : Bool) => if e = true then (if ((rd_T50 a (i : Int)).f0) = ((rd_T50 b (i : Int)).f0) then (cartoucheref10_SameSteps.j1 k a b (i : Int) (((rd_T50 a (i : Int)).f1) != ((rd_T50 b (i : Int)).f1))) else (cartoucheref10_SameSteps.j1 k a b (i : Int) true)) else (cartoucheref10_SameSteps.j1 k a b (i : Int) true)) he hr)
      simp only [cartoucheref10_SameSteps.l0]
      rw [if_pos (by omega), if_pos (by omega), if_pos (by omega)]
    cases e with
    | false => exact ⟨false, hb _ (Evt.congr (fun k => by rw [if_neg (by simp)]) (jt true rfl)), fun h => by have := he2 (by rw [h]); cases this⟩
    | true =>
      by_cases q : ((rd_T50 a (i : Int)).f0) = ((rd_T50 b (i : Int)).f0)
      · cases q2 : (((rd_T50 a (i : Int)).f1) != ((rd_T50 b (i : Int)).f1)) with
        | true => exact ⟨false, hb _ (Evt.congr (fun k => by rw [if_pos rfl, if_pos q]) (jt _ q2)), fun h => by subst h; simp at q2⟩
        | false => exact ⟨c, hb _ (Evt.congr (fun k => by rw [if_pos rfl, if_pos q]) (jf _ q2)), hc2⟩
      · exact ⟨false, hb _ (Evt.congr (fun k => by rw [if_pos rfl, if_neg q]) (jt true rfl)), fun h => absurd (by rw [h]) q⟩
theorem sameS_evt (a b : Stl) (hn : a.length ≤ 140737488351232) (hS : ∀ y ∈ a, y.f2.length ≤ 9223372036854775807) : ∃ c, Evt (fun k => cartoucheref10_SameSteps.f k a b) c ∧ (a = b → c = true) := by
  by_cases h : a.length = b.length
  · obtain ⟨c, hc, h2⟩ := sameS_l0 a b h hn hS a.length 0 (by omega)
    refine ⟨c, Evt.congr (fun k => ?_) hc, h2⟩
    unfold cartoucheref10_SameSteps.f
    rw [if_pos (by omega)]; rfl
  · refine ⟨false, Evt.now fun k => ?_, fun e => absurd (by rw [e]) h⟩
    unfold cartoucheref10_SameSteps.f
    rw [if_neg (by omega)]

end Go.Proofs.YthjgmccpbcelgaaPr
