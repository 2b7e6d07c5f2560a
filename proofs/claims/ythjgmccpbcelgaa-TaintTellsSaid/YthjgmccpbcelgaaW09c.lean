/-
  TaintTells: the walk.
-/
import Derived.Test.YthjgmccpbcelgaaW09a
namespace Go.Proofs.Ythjgmccpbcelgaa
open Go Go.RowKit Go.Proofs
set_option linter.unusedSimpArgs false
set_option linter.unusedVariables false
attribute [local go_sem] Ext.alloc Ext.alloc2 Ext.alloc3 Ext.alloc4 Ext.drewN_alloc Ext.drewN_alloc2 Ext.drew_alloc Ext.drew Ext.drewN toList_beq

theorem dec_self (a : List Bad) : decide (a = a) = true := by simp

set_option maxRecDepth 100000 in
set_option maxHeartbeats 2000000 in
theorem w09_tells (w : World) (A : Option Addr) (n cap : Nat) (l : List Ev) (i : Int) (hE : Evs w A n l) :
    Calls Try.prog 5 #[.slice A n cap, .int .i64 i] w fun e w' => e = .returned (.bool true) ∧ Ext w w' := by
  have hX := Ext.refl w
  have hbig := hE.big
  have hl := hid hE.len
  have HE := hid hE
  clear hE
  by_cases hn : n ≤ 300
  · have hd : decide (n ≤ 300) = true := by simp [hn]
    by_cases hb : bads l = []
    · have hfin : Hid ((firstBad l).kind = 0 ∧ (firstBad l).i = 0 ∧ (firstBad l).j = 0 ∧ decide (bads l ≠ []) = false ∧ (bads l).length = 0) := hid (by simp [firstBad, bnth, hb, Bad.z])
      clear hb
      go_enter Try.func5, Try.ntmps5
      go_wp2_with (first
        | (go_at_call 30; refine (w09_shown _).mono ?_; rintro e w1 ⟨rfl, hx1⟩)
        | (go_at_call 31; refine (w09_few _ _ _ _).mono ?_; rintro e w2 ⟨rfl, hx2⟩; rw [hd]; have hX2 := hx1.trans hx2)
        | (go_at_call 36; refine (r09_all _ _ _ _ _ (HE.out.ext hX2) (by omega)).mono ?_; rintro e w3 ⟨B, cb, rfl, hs, hx3⟩; have hX3 := hX2.trans hx3; rw [hfin.out.2.2.2.2] at hs ⊢)
        | (go_at_call 35; refine (t_all _ _ _ _ _ (HE.out.ext hX3) (by omega)).mono ?_; rintro e w4 ⟨C, cc, rfl, hs2, hx4⟩; have hX4 := hX3.trans hx4; rw [hfin.out.2.2.2.2] at hs2 ⊢)
        | (go_at_call 37; refine (r09_same _ _ _ _ _ _ _ _ _ hs2 (hs.ext hx4)).mono ?_; rintro e w5 ⟨rfl, hx5⟩; rw [dec_self]; have hX5 := hX4.trans hx5)
        | (go_at_call 38; refine (t_first _ _ _ _ _ (HE.out.ext hX5) (by omega)).mono ?_; rintro e w6 ⟨rfl, hx6⟩; rw [hfin.out.1, hfin.out.2.1, hfin.out.2.2.1, hfin.out.2.2.2.1]; have hX6 := hX5.trans hx6))
      go_quiet (fail)
      go_wp2_with (first
        | (go_at_call 33; refine (t_at _ _ _ _ _ _ (HE.out.ext ((hX6.alloc _).drewN _))).mono ?_; rintro e w7 ⟨rfl, hx7⟩; have hX7 := ((hX6.alloc _).drewN _).trans hx7)
        | (go_at_call 39; refine (r09_at _ _ _ _ _ _ (HE.out.ext hX7)).mono ?_; rintro e w8 ⟨rfl, hx8⟩; have hX8 := hX7.trans hx8)
        | (go_at_call 40; refine (t_outer _ _ _ _ _ _ (HE.out.ext hX8)).mono ?_; rintro e w9 ⟨rfl, hx9⟩; have hX9 := hX8.trans hx9)
        | (go_at_call 41; refine (r09_outer _ _ _ _ _ _ (HE.out.ext hX9)).mono ?_; rintro e w10 ⟨rfl, hx10⟩; have hX10 := hX9.trans hx10))
      go_ret
      exact ⟨by simp, hX10⟩
    · have hfin : Hid (decide (bads l ≠ []) = true) := hid (by simp [hb])
      have hpos : 0 < (bads l).length := List.length_pos_iff.2 hb
      have hle : (bads l).length ≤ 1000 := by have := bads_len l; have := hl.out; omega
      have hne0 : (((bads l).length : Int) == 0) = false := by simp; exact hb
      clear hb
      go_enter Try.func5, Try.ntmps5
      go_wp2_with (first
        | (go_at_call 30; refine (w09_shown _).mono ?_; rintro e w1 ⟨rfl, hx1⟩)
        | (go_at_call 31; refine (w09_few _ _ _ _).mono ?_; rintro e w2 ⟨rfl, hx2⟩; rw [hd]; have hX2 := hx1.trans hx2)
        | (go_at_call 36; refine (r09_all _ _ _ _ _ (HE.out.ext hX2) (by omega)).mono ?_; rintro e w3 ⟨B, cb, rfl, hs, hx3⟩; have hX3 := hX2.trans hx3)
        | (go_at_call 35; refine (t_all _ _ _ _ _ (HE.out.ext hX3) (by omega)).mono ?_; rintro e w4 ⟨C, cc, rfl, hs2, hx4⟩; have hX4 := hX3.trans hx4)
        | (go_at_call 37; refine (r09_same _ _ _ _ _ _ _ _ _ hs2 (hs.ext hx4)).mono ?_; rintro e w5 ⟨rfl, hx5⟩; rw [dec_self]; have hX5 := hX4.trans hx5)
        | (go_at_call 38; refine (t_first _ _ _ _ _ (HE.out.ext hX5) (by omega)).mono ?_; rintro e w6 ⟨rfl, hx6⟩; rw [hfin.out]; have hX6 := hX5.trans hx6; obtain ⟨b, o, rfl, h0, h1, h2⟩ := Bads.opn hs hpos; have hx36 := (hx4.trans hx5).trans hx6; have g0 := h0 _ 0 (hx36.alloc (.cells #[.int .i64 (bnth (bads l) 0).kind, .int .i64 (bnth (bads l) 0).i, .int .i64 (bnth (bads l) 0).j] 28)) hpos; have g1 := h1 _ 0 (hx36.alloc (.cells #[.int .i64 (bnth (bads l) 0).kind, .int .i64 (bnth (bads l) 0).i, .int .i64 (bnth (bads l) 0).j] 28)) hpos; have g2 := h2 _ 0 (hx36.alloc (.cells #[.int .i64 (bnth (bads l) 0).kind, .int .i64 (bnth (bads l) 0).i, .int .i64 (bnth (bads l) 0).j] 28)) hpos; clear h0 h1 h2; simp only [Nat.zero_mul, Nat.add_zero] at g0 g1 g2; rw [show (firstBad l) = bnth (bads l) 0 from rfl]))
      go_quiet (fail)
      go_wp2_with (first
        | (go_at_call 33; refine (t_at _ _ _ _ _ _ (HE.out.ext ((hX6.alloc _).drewN _))).mono ?_; rintro e w7 ⟨rfl, hx7⟩; have hX7 := ((hX6.alloc _).drewN _).trans hx7)
        | (go_at_call 39; refine (r09_at _ _ _ _ _ _ (HE.out.ext hX7)).mono ?_; rintro e w8 ⟨rfl, hx8⟩; have hX8 := hX7.trans hx8)
        | (go_at_call 40; refine (t_outer _ _ _ _ _ _ (HE.out.ext hX8)).mono ?_; rintro e w9 ⟨rfl, hx9⟩; have hX9 := hX8.trans hx9)
        | (go_at_call 41; refine (r09_outer _ _ _ _ _ _ (HE.out.ext hX9)).mono ?_; rintro e w10 ⟨rfl, hx10⟩; have hX10 := hX9.trans hx10))
      go_ret
      exact ⟨by simp, hX10⟩
  · have hd : decide (n ≤ 300) = false := by simp [hn]
    go_enter Try.func5, Try.ntmps5
    go_wp2_with (first
      | (go_at_call 30; refine (w09_shown _).mono ?_; rintro e w1 ⟨rfl, hx1⟩)
      | (go_at_call 31; refine (w09_few _ _ _ _).mono ?_; rintro e w2 ⟨rfl, hx2⟩; rw [hd]))
    go_ret
    exact ⟨rfl, hx1.trans hx2⟩
end Go.Proofs.Ythjgmccpbcelgaa
