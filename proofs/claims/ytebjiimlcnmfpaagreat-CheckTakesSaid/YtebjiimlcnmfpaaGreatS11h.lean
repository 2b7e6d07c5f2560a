/-
  What chapter 11's reference computes, the small functions: whether a number is in a row; a row without a number.
-/
import Derived.Test.YtebjiimlcnmfpaaGreatPrCartoucheref11Has
import Derived.Test.YtebjiimlcnmfpaaGreatPrCartoucheref11Without
import Derived.Test.YtebjiimlcnmfpaaGreatS14
import Derived.Test.YtebjiimlcnmfpaaGreatB1
import Derived.Test.YtebjiimlcnmfpaaGreatR1
set_option linter.unusedVariables false
set_option linter.unusedSimpArgs false
namespace Go.Proofs.YtebjiimlcnmfpaaGreatPr
open Go.Proofs.YtebjiimlcnmfpaaGreat
open Go Go.RowKit

def ith (l : List Int) (i : Nat) : Int := l.getD i 0
theorem rd_ith (l : List Int) (i : Nat) : YtebjiimlcnmfpaaGreatW.PrintWords.rd l (i : Int) = ith l i := by unfold YtebjiimlcnmfpaaGreatW.PrintWords.rd ith; rw [Int.toNat_natCast]
theorem ith_get {l : List Int} {i : Nat} (h : i < l.length) : ith l i = l[i] := by
  unfold ith
  rw [List.getD_eq_getElem?_getD, List.getElem?_eq_getElem h]; rfl
theorem ith_mem {l : List Int} {i : Nat} (h : i < l.length) : ith l i ∈ l := by rw [ith_get h]; exact List.getElem_mem _
theorem ith_drop {l : List Int} {i : Nat} (h : i < l.length) : l.drop i = ith l i :: l.drop (i + 1) := by rw [List.drop_eq_getElem_cons h, ith_get h]
theorem sn_take {l : Stl} {i : Nat} (h : i < l.length) : l.take (i + 1) = l.take i ++ [sn l i] := by rw [List.take_succ_eq_append_getElem h, sn_get h]
theorem has_l0 (l : List Int) (x : Int) (hn : l.length ≤ 140737488351232) : ∀ (d i : Nat), i + d = l.length → Evt (fun k => cartoucheref11_has.l0 k l x (i : Int)) (decide (x ∈ l.drop i))
  | 0, i, hi => Evt.now1 fun k => by
    simp only [cartoucheref11_has.l0]
    rw [if_neg (by omega), List.drop_eq_nil_of_le (by omega)]
    simp
  | d + 1, i, hi => by
    rw [ith_drop (by omega)]
    by_cases q : ith l i = x
    · refine Evt.now1 fun k => ?_
      simp only [cartoucheref11_has.l0]
      rw [if_pos (by omega), if_pos (by omega), rd_ith, if_pos q]
      simp [q]
    · have e : decide (x ∈ ith l i :: l.drop (i + 1)) = decide (x ∈ l.drop (i + 1)) := decide_eq_decide.2 (by simp [Ne.symm q])
      rw [e]
      refine Evt.step (fun k => ?_) (has_l0 l x hn d (i + 1) (by omega))
      simp only [cartoucheref11_has.l0]
      rw [if_pos (by omega), if_pos (by omega), rd_ith, if_neg q, wrap_succ (n := l.length) (by omega) hn]
theorem has_evt (l : List Int) (x : Int) (hn : l.length ≤ 140737488351232) : Evt (fun k => cartoucheref11_has.f k l x) (decide (x ∈ l)) := by
  have := has_l0 l x hn l.length 0 (by omega)
  rwa [List.drop_zero] at this
theorem without_l0 (L : List Int) (x : Int) (hn : L.length ≤ 1000000) : ∀ (d i : Nat) (out : List Int), i + d = L.length → out.length ≤ i → Evt (fun k => cartoucheref11_without.l0 k L x out (i : Int)) (out ++ (L.drop i).filter (fun y => decide (y ≠ x)))
  | 0, i, out, hi, ho => Evt.now1 fun k => by
    simp only [cartoucheref11_without.l0]
    rw [if_neg (by omega), List.drop_eq_nil_of_le (by omega)]
    simp
  | d + 1, i, out, hi, ho => by
    rw [ith_drop (by omega), List.filter_cons]
    by_cases q : ith L i = x
    · rw [if_neg (by simpa using q)]
      refine Evt.step (fun k => ?_) (without_l0 L x hn d (i + 1) out (by omega) (by omega))
      simp only [cartoucheref11_without.l0]
      rw [if_pos (by omega), if_pos (by omega), rd_ith, if_pos q, wrap_succ (n := L.length) (by omega) (by omega)]
    · rw [if_pos (by simpa using q)]
      have ih := without_l0 L x hn d (i + 1) (out ++ [ith L i]) (by omega) (by simp; omega)
      rw [List.append_assoc] at ih
      refine Evt.step (fun k => ?_) ih
      simp only [cartoucheref11_without.l0]
      rw [if_pos (by omega), if_pos (by omega), rd_ith, if_neg q, if_pos (by omega), wrap_succ (n := L.length) (by omega) (by omega)]
theorem without_evt (L : List Int) (x : Int) (hn : L.length ≤ 1000000) : Evt (fun k => cartoucheref11_without.f k L x) (L.filter (fun y => decide (y ≠ x))) := by
  have := without_l0 L x hn L.length 0 [] (by omega) (by simp)
  rwa [List.drop_zero, List.nil_append] at this
structure Beg (l : Stl) (i : Nat) (acc : List Int) : Prop where
  rise : acc.Pairwise (· < ·)
  mem : ∀ x, x ∈ acc ↔ x ∈ (l.take i).map fr_
  len : acc.length ≤ i
theorem ins_at {acc : List Int} (h : acc.Pairwise (· < ·)) {v : Int} (hv : v ∉ acc) {p : Nat} (hp : p ≤ acc.length) (h1 : ∀ j, j < p → ith acc j < v) (h2 : p < acc.length → ¬ ith acc p < v) : (acc.take p ++ [v] ++ acc.drop p).Pairwise (· < ·) := by
  have hlo : ∀ x ∈ acc.take p, x < v := fun x hx => by
    obtain ⟨j, hj, rfl⟩ := List.getElem_of_mem hx
    have hj' : j < p := by simp at hj; omega
    have := h1 j hj'
    rw [ith_get (by omega)] at this
    rw [List.getElem_take]; exact this
  have hhi : ∀ x ∈ acc.drop p, v < x := fun x hx => by
    by_cases hpl : p < acc.length
    · have e := ith_drop hpl
      rw [e] at hx
      have hne : ith acc p ≠ v := fun e => hv (e ▸ ith_mem hpl)
      have hge := h2 hpl
      have hpw : (acc.drop p).Pairwise (· < ·) := h.sublist (List.drop_sublist _ _)
      rw [e] at hpw
      rcases List.mem_cons.1 hx with rfl | hx
      · omega
      · have := (List.pairwise_cons.1 hpw).1 x hx
        omega
    · rw [List.drop_eq_nil_of_le (by omega)] at hx
      cases hx
  refine List.pairwise_append.2 ⟨List.pairwise_append.2 ⟨h.sublist (List.take_sublist _ _), by simp, fun x hx y hy => ?_⟩, h.sublist (List.drop_sublist _ _), fun x hx y hy => ?_⟩
  · obtain rfl : y = v := by simpa using hy
    exact hlo x hx
  · have hy' := hhi y hy
    rcases List.mem_append.1 hx with hx | hx
    · have := hlo x hx; omega
    · obtain rfl : x = v := by simpa using hx
      exact hy'
theorem Beg.same {l : Stl} {i : Nat} {acc : List Int} (hb : Beg l i acc) (hi : i < l.length) (q : (sn l i).f0 ∈ acc) : Beg l (i + 1) acc := ⟨hb.rise, fun x => by
  rw [sn_take hi, List.map_append, List.mem_append, ← hb.mem x]
  exact ⟨.inl, fun h => h.elim id fun h => by
    obtain rfl : x = (sn l i).f0 := by simpa using h
    exact q⟩, by have := hb.len; omega⟩
theorem Beg.more {l : Stl} {i : Nat} {acc : List Int} (hb : Beg l i acc) (hi : i < l.length) (hv : (sn l i).f0 ∉ acc) {p : Nat} (hp : p ≤ acc.length) (h1 : ∀ j, j < p → ith acc j < (sn l i).f0) (h2 : p < acc.length → ¬ ith acc p < (sn l i).f0) : Beg l (i + 1) (acc.take p ++ [(sn l i).f0] ++ acc.drop p) :=
  ⟨ins_at hb.rise hv hp h1 h2, fun x => by
    have e : x ∈ acc ↔ x ∈ acc.take p ∨ x ∈ acc.drop p := by rw [← List.mem_append, List.take_append_drop]
    have e3 : x ∈ (l.take (i + 1)).map fr_ ↔ x ∈ acc ∨ x ∈ [(sn l i).f0] := by
      rw [sn_take hi, List.map_append, List.mem_append, ← hb.mem x]
      exact Iff.rfl
    rw [e3, e, List.mem_append, List.mem_append, or_assoc, or_assoc]
    exact or_congr_right or_comm, by have := hb.len; simp; omega⟩
theorem Beg.all {l : Stl} {acc : List Int} (hb : Beg l l.length acc) : acc = Rg.froms fr_ l := by
  refine Rg.rising_eq hb.rise (Rg.sortD_rising _) fun x => ?_
  rw [hb.mem x, List.take_length]
  exact (Rg.mem_sortD x _).symm
end Go.Proofs.YtebjiimlcnmfpaaGreatPr
