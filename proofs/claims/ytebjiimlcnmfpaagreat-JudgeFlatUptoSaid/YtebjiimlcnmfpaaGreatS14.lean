/-
  Rows of steps, read.
-/
import Derived.Test.YtebjiimlcnmfpaaGreatB1
set_option linter.unusedVariables false
set_option linter.unusedSimpArgs false
namespace Go.Proofs.YtebjiimlcnmfpaaGreatPr
open Go.Proofs.YtebjiimlcnmfpaaGreat
open Go Go.RowKit

theorem wrap_succ2 {i n : Nat} (h : i < n) (hn : n ≤ 9223372036854775807) : wrap64 ((i : Int) + 1) = ((i + 1 : Nat) : Int) := by unfold wrap64; omega
abbrev Stl := List S80
def sn (l : Stl) (i : Nat) : S80 := l.getD i z80
theorem rd_sn (l : Stl) (i : Nat) : rd_T80 l (i : Int) = sn l i := by unfold rd_T80 sn; rw [Int.toNat_natCast]
theorem sn_mem {l : Stl} {i : Nat} (h : i < l.length) : sn l i ∈ l := by
  unfold sn
  rw [List.getD_eq_getElem?_getD, List.getElem?_eq_getElem h]
  exact List.getElem_mem _
theorem sn_get {l : Stl} {i : Nat} (h : i < l.length) : sn l i = l[i] := by
  unfold sn
  rw [List.getD_eq_getElem?_getD, List.getElem?_eq_getElem h]; rfl
theorem sn_drop {l : Stl} {i : Nat} (h : i < l.length) : l.drop i = sn l i :: l.drop (i + 1) := by
  rw [List.drop_eq_getElem_cons h, sn_get h]
end Go.Proofs.YtebjiimlcnmfpaaGreatPr
