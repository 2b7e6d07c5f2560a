/-
  TaintOrder: the walk.
-/
import Derived.Test.YthjgmccpbcelgaaW09a
namespace Go.Proofs.Ythjgmccpbcelgaa
open Go Go.RowKit Go.Proofs
set_option linter.unusedSimpArgs false
set_option linter.unusedVariables false
attribute [local go_sem] Ext.alloc Ext.alloc2 Ext.alloc3 Ext.alloc4 Ext.drewN_alloc Ext.drewN_alloc2 Ext.drew_alloc Ext.drew Ext.drewN toList_beq

theorem badsFrom_len (h : List Ev) : ∀ m i, (badsFrom h m i).length ≤ m
  | 0, _ => by simp [badsFrom]
  | m + 1, i => by
    unfold badsFrom
    have := badsFrom_len h m (i + 1)
    split
    · omega
    · simp; omega

set_option maxRecDepth 100000 in
set_option maxHeartbeats 2000000 in
theorem w09_order (w : World) (A : Option Addr) (n cap : Nat) (l : List Ev) (hE : Evs w A n l) :
    Calls Try.prog 4 #[.slice A n cap] w fun e w' => e = .returned (.bool true) ∧ Ext w w' := by
  have hX := Ext.refl w
  have hbig := hE.big
  have hl := hid hE.len
  have HE := hid hE
  clear hE
  by_cases hn : n ≤ 300
  · have hd : decide (n ≤ 300) = true := by simp [hn]
    go_enter Try.func4, Try.ntmps4
    go_wp2_with (first
      | (go_at_call 30; refine (w09_shown _).mono ?_; rintro e w1 ⟨rfl, hx1⟩)
      | (go_at_call 31; refine (w09_few _ _ _ _).mono ?_; rintro e w2 ⟨rfl, hx2⟩; rw [hd])
      | (go_at_call 35; refine (t_all _ _ _ _ _ (HE.out.ext (hx1.trans hx2)) (by omega)).mono ?_; rintro e w3 ⟨B, cb, rfl, hs, hx3⟩; have hX3 := (hx1.trans hx2).trans hx3))
    have hl3 : Hid ((bads l).length ≤ n) := hid (by have := bads_len l; have := hl.out; omega)
    have hlb := hl3.out
    go_loopw [6, 7] (fun at_ i W => Ext w3 W ∧ ∃ k j : Nat, k ≤ n ∧ i = .int .i64 k ∧ at_ = .int .i64 j ∧ j ≤ (bads l).length ∧ Hid (badsFrom l (n - k) k = (bads l).drop j)) (fun _ i _ => n - (intOf i).toNat)
    case atStart => exact ⟨Ext.refl _, 0, 0, by omega, rfl, rfl, by omega, hid (by unfold bads; rw [hl.out]; rfl)⟩
    case round =>
      obtain ⟨hW, k, j, hk1, rfl, rfl, hj, hr⟩ := hrel
      have hW0 := hX3.trans hW
      by_cases hlt : k < n
      · have hst : Hid (badsFrom l (n - k) k = if (badAt l k).kind = 0 then badsFrom l (n - (k + 1)) (k + 1) else badAt l k :: badsFrom l (n - (k + 1)) (k + 1)) := hid (by rw [show n - k = (n - (k + 1)) + 1 by omega]; rfl)
        by_cases hz : (badAt l k).kind = 0
        · have HZ := hid hz
          go_wp2_with (go_at_call 33; refine (t_at _ _ _ _ _ _ (HE.out.ext hW0)).mono ?_; rintro e w4 ⟨rfl, hx4⟩)
          go_roundw
          case rel =>
            refine ⟨Ext.alloc (hW.trans hx4) _, k + 1, j, by omega, by go_num, rfl, by omega, hid ?_⟩
            rw [← hr.out, hst.out, if_pos HZ.out]
          case measure => simp [intOf]; omega
        · have hcons : Hid ((bads l).drop j = badAt l k :: badsFrom l (n - (k + 1)) (k + 1)) := hid (by rw [← hr.out, hst.out, if_neg hz])
          have hjl : j < (bads l).length := by
            have := congrArg List.length hcons.out
            simp at this; omega
          have heq : bnth (bads l) j = badAt l k := by
            have := congrArg List.head? hcons.out
            simp at this
            unfold bnth; rw [List.getD_eq_getElem?_getD, this]; rfl
          have hk1' : ((badAt l k).kind == 0) = false := beq_eq_false_iff_ne.2 hz
          have hk2' : ((badAt l k).kind != 0) = true := by simp [hz]
          have HK := hid hz
          clear hz
          obtain ⟨b, o, rfl, c0, c1, c2⟩ := Bads.opn hs (by omega)
          rw [heq.symm] at hk1' hk2'
          have HQ := hid heq
          clear heq
          go_wp2_with (go_at_call 33; refine (t_at _ _ _ _ _ _ (HE.out.ext hW0)).mono ?_; rintro e w4 ⟨rfl, hx4⟩; rw [← HQ.out]; have hW4 := hW.trans hx4)
          go_quiet (fail)
          go_wp2
          go_roundw
          case rel =>
            refine ⟨(hW4.alloc _).drewN _, k + 1, j + 1, by omega, by go_num, by go_num, by omega, hid ?_⟩
            have := congrArg List.tail hcons.out
            simp at this
            rw [this]
          case measure => simp [intOf]; omega
      · have hj2 : (bads l).length = j := by
          have := congrArg List.length hr.out
          rw [show n - k = 0 by omega] at this
          simp [badsFrom] at this; omega
        go_wp2
        go_ret
        exact ⟨by simp [hj2], hW0⟩
  · have hd : decide (n ≤ 300) = false := by simp [hn]
    go_enter Try.func4, Try.ntmps4
    go_wp2_with (first
      | (go_at_call 30; refine (w09_shown _).mono ?_; rintro e w1 ⟨rfl, hx1⟩)
      | (go_at_call 31; refine (w09_few _ _ _ _).mono ?_; rintro e w2 ⟨rfl, hx2⟩; rw [hd]))
    go_ret
    exact ⟨rfl, hx1.trans hx2⟩
end Go.Proofs.Ythjgmccpbcelgaa
