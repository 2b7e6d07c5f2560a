/-
  Rows of steps and of numbers, read.
-/
import Derived.Test.YtebjiimlcnmfpaaGreatB1
/-! Rows of steps, read. -/
set_option linter.unusedVariables false
set_option linter.unusedSimpArgs false
namespace Go.Proofs.YtebjiimlcnmfpaaGreatPr
section
open Go.Proofs.YtebjiimlcnmfpaaGreat
open Go Go.RowKit

abbrev Stl := List S80
def sn (l : Stl) (i : Nat) : S80 := l.getD i z80
theorem sn_mem {l : Stl} {i : Nat} (h : i < l.length) : sn l i ∈ l := by
  unfold sn
  rw [List.getD_eq_getElem?_getD, List.getElem?_eq_getElem h]
  exact List.getElem_mem _
theorem sn_get {l : Stl} {i : Nat} (h : i < l.length) : sn l i = l[i] := by
  unfold sn
  rw [List.getD_eq_getElem?_getD, List.getElem?_eq_getElem h]; rfl
end
end Go.Proofs.YtebjiimlcnmfpaaGreatPr

/-! Rows of steps and of numbers as walks by hand read them. -/
namespace Go.Proofs.YtebjiimlcnmfpaaGreatPr
section
open Go.Proofs.YtebjiimlcnmfpaaGreat
open Go Go.RowKit

/-- A row of steps: where its numbers lie. -/
theorem stl_opn {w : World} {A : Option Addr} {l : Stl} (h : YtebjiimlcnmfpaaGreatW.PrintWords.Kd.C k80 w A l.length l) (hn : l.length ≤ 140737488351232) (h0 : 0 < l.length) : ∃ b o, A = some ⟨b, o, none⟩ ∧
    (∀ W i, Ext w W → i < l.length → W.cell? ⟨b, o + i * 3, none⟩ = some (.int .i64 (fr_ (sn l i)))) ∧ (∀ W i, Ext w W → i < l.length → W.cell? ⟨b, o + i * 3 + 1, none⟩ = some (.int .i64 (to_ (sn l i)))) := by
  obtain ⟨L, hL, hS⟩ := both (Q := k80.K w) (fun x c hx => by
    obtain ⟨A2, c2, hc, _, _⟩ := k80_open hx
    exact ⟨A2, c2, hc⟩) h hn
  have hlen : L.length = l.length := by rw [← hL]; simp
  have hat : ∀ i, i < l.length → (snth (L.map Bth.s) i).fr = fr_ (sn l i) ∧ (snth (L.map Bth.s) i).to_ = to_ (sn l i) := fun i hi => by
    have hLi : i < L.length := by omega
    have e1 : snth (L.map Bth.s) i = (L[i]).s := by unfold snth; simp [List.getElem?_eq_getElem hLi]
    have e2 : sn l i = (L[i]).t := by rw [sn_get hi]; simp only [← hL, List.getElem_map]
    rw [e1, e2]
    exact ⟨(L[i]).hf, (L[i]).ht⟩
  obtain ⟨b, o, e, q0, q1, _⟩ := hS.opn h0
  exact ⟨b, o, e, fun W i hx hi => by rw [q0 W i hx hi, (hat i hi).1], fun W i hx hi => by rw [q1 W i hx hi, (hat i hi).2]⟩
/-- A row that a printed contract hands out, as one of one's own. -/
theorem R_own {w : World} {base : Nat} {v : Value} {l : List Int} (h : YtebjiimlcnmfpaaGreatW.PrintWords.Kd.R (YtebjiimlcnmfpaaGreatW.PrintWords.Kd.int .i64) 3 w base (fun _ => True) v l) : w.ownsRow base 3 1 v l.length (l.flatMap intCs) := by
  obtain ⟨_, cells, h1, h2, h3⟩ := h
  have h1' : w.ownsRow base 3 1 v l.length cells := h1
  have e : cells = l.flatMap intCs := by
    have e2 : l.flatMap intCs = l.map (Value.int .i64) := by rw [List.map_eq_flatMap]; rfl
    have hl : (l.flatMap intCs).length = l.length := by rw [e2, List.length_map]
    refine List.ext_getElem? fun j => ?_
    rcases Nat.lt_or_ge j l.length with hj | hj
    · have := h3 j l[j] (List.getElem?_eq_getElem hj)
      have hm : (cells.drop (j * 1)).take 1 = [.int .i64 l[j]] := this
      have hc : cells.length = l.length := by have := h1'.1; omega
      rw [Nat.mul_one, List.drop_eq_getElem_cons (by omega), List.take_succ_cons, List.take_zero] at hm
      injection hm with hm
      rw [List.getElem?_eq_getElem (by omega), hm]
      rw [e2, List.getElem?_map, List.getElem?_eq_getElem hj]
      rfl
    · have hc : cells.length = l.length := by have := h1'.1; omega
      rw [List.getElem?_eq_none (by omega), List.getElem?_eq_none (by omega)]
  rw [e] at h1'
  exact h1'
theorem C_go {α : Type} {d : YtebjiimlcnmfpaaGreatW.PrintWords.Kd α} {w W : World} {A : Option Addr} {n : Nat} {xs : List α} (h : YtebjiimlcnmfpaaGreatW.PrintWords.Kd.C d w A n xs) (x : Ext w W) : YtebjiimlcnmfpaaGreatW.PrintWords.Kd.C d W A n xs := YtebjiimlcnmfpaaGreatW.PrintWords.Kd.C_below h x
end
end Go.Proofs.YtebjiimlcnmfpaaGreatPr
