/-
  The heads of the laws of chapter 9: the document's example; are there few events?
-/
import Derived.Test.YthjgmccpbcelgaaProg
import Derived.Test.YthjgmccpbcelgaaT2
import Derived.Test.YthjgmccpbcelgaaR08c
import Derived.Test.YthjgmccpbcelgaaR09b
namespace Go.Proofs.Ythjgmccpbcelgaa
open Go Go.RowKit Go.Proofs
set_option linter.unusedSimpArgs false
set_option linter.unusedVariables false
attribute [local go_sem] Ext.alloc Ext.alloc2 Ext.alloc3 Ext.alloc4 Ext.drewN_alloc Ext.drewN_alloc2 Ext.drew_alloc Ext.drew Ext.drewN toList_beq

def exEvs : List Ev := [⟨1, 1, ⟨#[]⟩, ⟨#[]⟩⟩, ⟨3, 1, ⟨#[97]⟩, ⟨#[120]⟩⟩, ⟨1, 2, ⟨#[]⟩, ⟨#[]⟩⟩, ⟨2, 2, ⟨#[97]⟩, ⟨#[120]⟩⟩, ⟨5, 1, ⟨#[]⟩, ⟨#[]⟩⟩, ⟨4, 2, ⟨#[]⟩, ⟨#[]⟩⟩]

theorem ex_bads : bads exEvs = [⟨1, 3, 1⟩] := by decide

theorem sl_new {α : Type} {sz : Nat} {z : α} {c : α → List Value} {hc : ∀ x, (c x).length = sz} (w : World) (t : TypeId) (l : List α) (hb : l.length ≤ 140737488351232) :
    Sl (Kd.flat sz z c hc) (w.alloc (.cells (l.flatMap c).toArray t)) (some ⟨w.heap.size, 0, none⟩) l.length l :=
  ⟨rfl, hb, fun _ => ⟨w.heap.size, 0, rfl, fun i hi => ⟨c (l.getD i z), rfl, fun j u hu => by
    have hj : j < sz := by
      have := (List.getElem?_eq_some_iff.1 hu).1
      rwa [hc] at this
    have e := new_cells (w := w) (t := t) (xs := l.flatMap c) rfl (i * sz + j) u (by rw [flatMap_get sz z c hc l i j hi hj]; exact hu)
    have e' : (⟨w.heap.size, 0, none⟩ : Addr).add (i * sz + j) = ⟨w.heap.size, 0 + i * sz + j, none⟩ := by
      unfold Addr.add
      split
      · rename_i h0; rw [show 0 + i * sz + j = 0 by omega]
      · simp [Nat.add_assoc]
    rw [e'] at e
    exact e⟩⟩⟩

theorem w09_few (w : World) (A : Option Addr) (n cap : Nat) : Calls Try.prog 31 #[.slice A n cap] w fun e w' => e = .returned (.bool (decide (n ≤ 300))) ∧ Ext w w' := by
  have hX := Ext.refl w
  have e : decide ((n : Int) ≤ 300) = decide (n ≤ 300) := decide_eq_decide.2 (by omega)
  go_enter Try.func31, Try.ntmps31
  go_wp2
  go_ret
  exact ⟨rfl, hX⟩

theorem w09_shown (w : World) : Calls Try.prog 30 #[] w fun e w' => e = .returned (.bool true) ∧ Ext w w' := by
  have hX := Ext.refl w
  have hE : Evs (w.alloc (.cells (exEvs.flatMap Ev.cs).toArray 31)) (some ⟨w.heap.size, 0, none⟩) 6 exEvs := sl_new w _ exEvs (by decide)
  have h1 : Hid (firstBad exEvs = ⟨1, 3, 1⟩ ∧ decide (bads exEvs ≠ []) = true) := hid (by rw [firstBad, ex_bads]; decide)
  obtain ⟨cs, hcs⟩ : ∃ cs, exEvs.flatMap Ev.cs = cs := ⟨_, rfl⟩
  rw [hcs] at hE
  simp only [exEvs, Ev.cs, List.flatMap_cons, List.flatMap_nil, List.cons_append, List.nil_append, List.append_nil] at hcs
  rw [← hcs] at hE
  clear hcs
  go_enter Try.func30, Try.ntmps30
  go_wp2_with (fail)
  refine (t_first _ _ _ _ _ hE (by decide)).mono ?_
  rintro e w1 ⟨rfl, hx1⟩
  rw [h1.out.1, h1.out.2]
  go_wp2
  go_ret
  exact ⟨rfl, ((hX.alloc _).trans hx1).alloc _⟩
end Go.Proofs.Ythjgmccpbcelgaa
