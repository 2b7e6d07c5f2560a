/-
  Contracts of the program's small functions of chapter 8.
-/
import Derived.Test.YthjgmccpbcelgaaProg
import Derived.Test.YthjgmccpbcelgaaSpec
namespace Go.Proofs.Ythjgmccpbcelgaa
open Go Go.RowKit Go.Proofs
set_option linter.unusedSimpArgs false
set_option linter.unusedVariables false
attribute [local go_sem] Ext.alloc Ext.drew Ext.drewN toList_beq

set_option maxHeartbeats 400000 in
theorem h_ends (w : World) (x : Ev) :
    Calls Try.prog 124 #[.agg #[.int .i64 x.kind, .int .i64 x.txn, .string x.key, .string x.val]] w fun e w' => e = .returned (.bool (ends x)) ∧ Ext w w' := by
  have hX := Ext.refl w
  go_enter Try.func124, Try.ntmps124
  go_wp2
  all_goals
    go_ret
    exact ⟨ret_bool (by simp [ends, *]), hX.alloc _⟩

set_option maxHeartbeats 400000 in
theorem h_writer1 (w : World) (x : Ev) (bk bv : Nat) (key val : ByteArray) (hk : ∀ W, Ext w W → W.cell? ⟨bk, 0, none⟩ = some (.string key)) (hv : ∀ W, Ext w W → W.cell? ⟨bv, 0, none⟩ = some (.string val)) :
    Calls Try.prog 104 #[.agg #[.int .i64 x.kind, .int .i64 x.txn, .string x.key, .string x.val], .pointer (some ⟨bk, 0, none⟩), .pointer (some ⟨bv, 0, none⟩)] w fun e w' => e = .returned (.bool (writes key val x)) ∧ Ext w w' := by
  have hX := Ext.refl w
  go_enter Try.func104, Try.ntmps104
  go_wp2
  all_goals
    go_ret
    exact ⟨ret_bool (by simp [writes, *]), hX.alloc _⟩

end Go.Proofs.Ythjgmccpbcelgaa
