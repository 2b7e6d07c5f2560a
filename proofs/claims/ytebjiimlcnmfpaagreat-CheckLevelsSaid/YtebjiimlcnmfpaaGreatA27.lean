/-
  The program's ring.Forward.
-/
import Derived.Test.YtebjiimlcnmfpaaGreatA20
set_option linter.unusedVariables false
set_option linter.unusedSimpArgs false
namespace Go.Proofs.YtebjiimlcnmfpaaGreat
section
section
open Go Go.RowKit Go.Proofs Go.Shelf Go.Maps
attribute [local go_sem] Ext.alloc Ext.alloc2 Ext.alloc3 Ext.alloc4 Ext.drewN_alloc Ext.drewN_alloc2 Ext.drew_alloc Ext.drew Ext.drewN toList_beq

def placeF (o : List Int) (y : Int) : Option Value := if 0 ≤ Rg.plc o y 0 then some (.int .i64 (Rg.plc o y 0)) else none
theorem placeF_yes {o : List Int} {y : Int} (h : 0 ≤ Rg.plc o y 0) : (placeF o y).getD (.int .i64 0) = .int .i64 (Rg.plc o y 0) ∧ (placeF o y).isSome = true := by unfold placeF; rw [if_pos h]; exact ⟨rfl, rfl⟩
theorem placeF_no {o : List Int} {y : Int} (h : ¬ 0 ≤ Rg.plc o y 0) : (placeF o y).getD (.int .i64 0) = .int .i64 0 ∧ (placeF o y).isSome = false := by unfold placeF; rw [if_neg h]; exact ⟨rfl, rfl⟩
theorem IMap.reads_ok {w : World} {b n : Nat} {f : Int → Option Value} (h : IMap w b n f) {y : Int} (hy : I64 y) {v : Value} {c : Bool} (hv : (f y).getD (.int .i64 0) = v) (hc : (f y).isSome = c) : ∀ (W : World), Ext w W → (Instr.lookup 103 (.map (some b)) (.int .i64 y) true).run Tryz.prog W = .ok (.tuple #[v, .bool c]) W := fun W hx => by
  rw [IMap.look_ok (h.ext hx) Tryz.underlying103 (Tryz.zeroValue3 W) hy, hv, hc]

def backward (o : List Int) (x : Stp) : Bool := decide (0 ≤ Rg.plc o x.fr 0) && (decide (0 ≤ Rg.plc o x.to_ 0) && decide (Rg.plc o x.to_ 0 ≤ Rg.plc o x.fr 0))
theorem all_not {α : Type} (p : α → Bool) : ∀ l : List α, (l.all fun s => !p s) = !l.any p
  | [] => rfl
  | x :: r => by rw [List.all_cons, List.any_cons, all_not p r, Bool.not_or]
theorem plc_snoc (y x : Int) : ∀ (o : List Int) (i : Int), Rg.plc (o ++ [x]) y i = if y ∈ o then Rg.plc o y i else if x = y then i + o.length else -1
  | [], i => by simp [Rg.plc]
  | z :: r, i => by
    rw [List.cons_append, Rg.plc, Rg.plc]
    by_cases h : z = y
    · simp [h]
    · rw [if_neg h, if_neg h, plc_snoc y x r (i + 1)]
      have hiff : y ∈ z :: r ↔ y ∈ r := by simp [Ne.symm h]
      by_cases hm : y ∈ r
      · rw [if_pos hm, if_pos (hiff.2 hm)]
      · rw [if_neg hm, if_neg (fun e => hm (hiff.1 e))]
        split
        · simp; omega
        · rfl
theorem placeF_snoc {o : List Int} {x : Int} (hx : x ∉ o) (y : Int) : upd (placeF o) x (.int .i64 (o.length : Int)) y = placeF (o ++ [x]) y := by
  have e1 : Rg.plc (o ++ [x]) y 0 = if y ∈ o then Rg.plc o y 0 else if x = y then 0 + o.length else -1 := plc_snoc y x o 0
  unfold upd
  by_cases h : y = x
  · subst h
    rw [if_pos rfl]
    unfold placeF
    rw [if_neg hx, if_pos rfl] at e1
    rw [e1, if_pos (by omega)]
    simp
  · rw [if_neg h]
    unfold placeF
    by_cases hm : y ∈ o
    · rw [if_pos hm] at e1
      rw [e1]
    · rw [if_neg hm, if_neg (fun e => h e.symm)] at e1
      rw [e1]
      have : ¬ 0 ≤ Rg.plc o y 0 := by
        rcases Rg.plc_spec y o 0 with ⟨_, e⟩ | ⟨e, _⟩
        · have e' : Rg.plc o y 0 = -1 := e
          omega
        · exact absurd e hm
      rw [if_neg this, if_neg (by omega)]
theorem plc_mem {o : List Int} {y : Int} : 0 ≤ Rg.plc o y 0 ↔ y ∈ o := by
  rcases Rg.plc_spec y o 0 with ⟨h, e⟩ | ⟨h, e⟩
  · have e' : Rg.plc o y 0 = -1 := e
    constructor
    · intro h'; omega
    · intro h'; exact absurd h' h
  · have e' : Rg.plc o y 0 = ((0 + o.idxOf y : Nat) : Int) := e
    constructor
    · intro _; exact h
    · intro _; omega
theorem take_snoc' {l : List Int} {k : Nat} (h : k < l.length) : l.take (k + 1) = l.take k ++ [inth l k] := by
  rw [List.take_succ_eq_append_getElem h]
  simp [inth, List.getD_eq_getElem?_getD, h]

end
end
end Go.Proofs.YtebjiimlcnmfpaaGreat

