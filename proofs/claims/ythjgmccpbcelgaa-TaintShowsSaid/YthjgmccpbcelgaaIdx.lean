/-
  slices.IndexFunc, for whatever function value.
-/
import Derived.Test.YthjgmccpbcelgaaProg
import Derived.Test.YthjgmccpbcelgaaSpec
namespace Go.Proofs.Ythjgmccpbcelgaa
open Go Go.RowKit Go.Proofs
set_option linter.unusedSimpArgs false
set_option linter.unusedVariables false
attribute [local go_sem] Ext.alloc Ext.drew Ext.drewN toList_beq

set_option maxHeartbeats 1000000 in
theorem idxEv (g : Nat) (caps : Array Value) (p : Ev → Bool) (w : World) (A : Option Addr) (n cap : Nat) (l : List Ev) (hE : Evs w A n l)
    (eg : ∀ args w, (callFunc g args).run Try.prog w = .ok (.enter g args) w)
    (hg : ∀ (W : World) (x : Ev), Ext w W → Calls Try.prog g (#[.agg #[.int .i64 x.kind, .int .i64 x.txn, .string x.key, .string x.val]] ++ caps) W fun e w' => e = .returned (.bool (p x)) ∧ Ext W w') :
    Calls Try.prog 103 #[.slice A n cap, .func (.func g) #[] caps] w fun e w' => e = .returned (.int .i64 (idx p l 0)) ∧ Ext w w' := by
  have hX := Ext.refl w
  have hl := hid hE.len
  have hbig := hE.big
  have HG := hid hg
  clear hg
  go_enter Try.func103, Try.ntmps103
  go_wp2
  go_loopw [8] (fun i W => Ext w W ∧ ∃ k : Nat, k ≤ n ∧ i = .int .i64 k ∧ Hid (idx p (l.drop k) k = idx p l 0)) (fun i _ => n - (intOf i).toNat)
  case atStart => exact ⟨hX, 0, by omega, rfl, hid rfl⟩
  case round =>
    obtain ⟨hW, k, hk1, rfl, hr⟩ := hrel
    by_cases hlt : k < n
    · obtain ⟨b, o, rfl, h0, h1, h2, h3⟩ := hE.opn (by omega)
      have hs := hid (drop_step l Ev.z (k := k) (by rw [hl.out]; omega))
      go_wp2
      refine (HG.out _ (nth l k) hW).mono ?_
      rintro e w1 ⟨rfl, hx1⟩
      cases hp : p (nth l k)
      · have hp' := hid hp; clear hp
        go_wp2
        go_roundw
        case rel => exact ⟨hW.trans hx1, k + 1, by omega, by go_num, hid (by rw [← hr.out, hs.out, idx_cons]; exact (if_neg (by rw [show l.getD k Ev.z = nth l k from rfl, hp'.out]; simp)).symm)⟩
        case measure => simp [intOf]; omega
      · have hp' := hid hp; clear hp
        go_wp2
        go_ret
        refine ⟨ret_int ?_, hW.trans hx1⟩
        rw [← hr.out, hs.out, idx_cons]
        exact (if_pos hp'.out).symm
    · go_wp2
      go_ret
      refine ⟨ret_int ?_, hW⟩
      rw [← hr.out, drop_end _ (by rw [hl.out]; omega)]
      rfl

end Go.Proofs.Ythjgmccpbcelgaa
