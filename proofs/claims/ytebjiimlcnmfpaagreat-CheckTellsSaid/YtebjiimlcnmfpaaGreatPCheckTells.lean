/-
  The law CheckTells, walked by hand: whether a verdict is one, is as the document says.
-/
import Derived.Test.YtebjiimlcnmfpaaGreatPrCartouchelaw13Shown
import Derived.Test.YtebjiimlcnmfpaaGreatPrCartouchelaw13Few
import Derived.Test.YtebjiimlcnmfpaaGreatS21
import Derived.Test.YtebjiimlcnmfpaaGreatB28
import Derived.Lib.QuietBelow
set_option linter.unusedVariables false
set_option linter.unusedSimpArgs false
namespace Go.Proofs.YtebjiimlcnmfpaaGreatPr
open Go.Proofs.YtebjiimlcnmfpaaGreat
section
open Go Go.RowKit Go.Proofs Go.Shelf
set_option linter.unusedSimpArgs false
set_option linter.unusedVariables false
attribute [local go_sem] Ext.alloc Ext.alloc2 Ext.alloc3 Ext.alloc4 Ext.drewN_alloc Ext.drewN_alloc2 Ext.drew_alloc Ext.drew Ext.drewN toList_beq

set_option maxRecDepth 100000 in
set_option maxHeartbeats 8000000 in
theorem h_CheckTells (w : World) (A0 : Option Addr) (c0 : Nat) (l : List S50) (lev : Int) (acc : Bool) (A2 : Option Addr) (c2 : Nat) (o : List Int) (bk bi bj : Int) (A6 : Option Addr) (c6 : Nat) (rs : List S24) (hr0 : YtebjiimlcnmfpaaGreatW.PrintWords.Kd.C k50 w A0 l.length l) (hc0 : l.length ≤ c0) (hr2 : YtebjiimlcnmfpaaGreatW.PrintWords.Kd.C (YtebjiimlcnmfpaaGreatW.PrintWords.Kd.int .i64) w A2 o.length o) (hc2 : o.length ≤ c2) (hr6 : YtebjiimlcnmfpaaGreatW.PrintWords.Kd.C k24 w A6 rs.length rs) (hc6 : rs.length ≤ c6)
    (hS : ∀ y ∈ l, EvS y) (hl : l.length * 48 ≤ 140737488351232) (hI : ∀ y ∈ o, IntS y) (hol : o.length * 8 ≤ 140737488351232) (hrl : rs.length * 40 ≤ 140737488351232) :
    Calls Tryz.prog 9 #[.slice A0 l.length c0, .agg #[.int .i64 lev, .bool acc, .slice A2 o.length c2, .int .i64 bk, .int .i64 bi, .int .i64 bj, .slice A6 rs.length c6]] w fun e w' => e = .returned (.bool true) ∧ Ext w w' := by
  obtain ⟨b, hb, hb2⟩ := few3_evt l (by omega)
  obtain ⟨kf, hkf⟩ := hb.rounds
  have HC := hid hr0
  have hX := Ext.refl w
  have hB := Blk.new w 42 #[.int .i64 lev, .bool acc, .slice A2 o.length c2, .int .i64 bk, .int .i64 bi, .int .i64 bj, .slice A6 rs.length c6]
  have hXB := (Ext.refl w).alloc (.cells #[.int .i64 lev, .bool acc, .slice A2 o.length c2, .int .i64 bk, .int .i64 bi, .int .i64 bj, .slice A6 rs.length c6] 42)
  go_enter Tryz.func9, Tryz.ntmps9
  go_wp2_with (fail)
  obtain ⟨W0, hW0⟩ : ∃ W, w.alloc (.cells #[.int .i64 lev, .bool acc, .slice A2 o.length c2, .int .i64 bk, .int .i64 bi, .int .i64 bj, .slice A6 rs.length c6] 42) = W := ⟨_, rfl⟩
  rw [hW0] at hB hXB ⊢
  have PB := hid hB
  clear hW0 hB
  by_cases hgo : b = true ∧ rs.length ≤ 200 ∧ o.length ≤ 200
  case neg =>
    have hw : b = false ∨ (b = true ∧ (200 : Int) < (rs.length : Int)) ∨ (b = true ∧ ¬ (200 : Int) < (rs.length : Int) ∧ (200 : Int) < (o.length : Int)) := by
      cases b
      · simp
      · simp at hgo ⊢; omega
    clear hgo hb2
    rcases hw with rfl | ⟨rfl, h2⟩ | ⟨rfl, h2, h3⟩
    all_goals
      go_wp2_with first
        | (go_at_call 36; (with_reducible refine (cartouchelaw13_shown.calls true _ shown13).mono ?_); rintro e1 w1 ⟨rfl, hx1⟩; have hY1 : Ext w w1 := hXB.trans hx1; have C1 := hid (YtebjiimlcnmfpaaGreatW.PrintWords.Kd.C_below HC.out hY1))
        | (go_at_call 37; (with_reducible refine (cartouchelaw13_few.calls kf _ _ l _ _ C1.out hc0 hkf).mono ?_); rintro e2 w2 ⟨rfl, ⟨⟨nd, rfl⟩⟩⟩; have hY2 : Ext w (w1.drewN nd) := hY1.drewN nd; obtain ⟨x0, x1, x2, x3, x4, x5, x6⟩ := Blk.cells7 (Blk.ext PB.out (Ext.drewN hx1 nd)))
      go_ret
      exact ⟨rfl, hY2⟩
  obtain ⟨rfl, h2, h3⟩ := hgo
  obtain ⟨hn, hT⟩ := hb2 rfl
  have h2' : ¬ (200 : Int) < (rs.length : Int) := by omega
  have h3' : ¬ (200 : Int) < (o.length : Int) := by omega
  have hT2 : ∀ i, i < l.length → -1 ≤ (nth (evs l) i).txn ∧ (nth (evs l) i).txn < 300 := fun i hi => by have := hT i hi; omega
  have H1 := hid (fun W (h : Ext w W) => check_Check.calls A0 c0 l lev acc A2 c2 o bk bi bj A6 c6 rs _ W (YtebjiimlcnmfpaaGreatW.PrintWords.Kd.C_below hr0 h) hc0 (YtebjiimlcnmfpaaGreatW.PrintWords.Kd.C_below hr2 h) hc2 (YtebjiimlcnmfpaaGreatW.PrintWords.Kd.C_below hr6 h) hc6 (check_f (by omega) hS (by omega) hI (by omega)))
  have H2 := hid (fun W (h : Ext w W) => cartoucheref13_Check.calls A0 c0 l lev acc A2 c2 o bk bi bj A6 c6 rs _ W (YtebjiimlcnmfpaaGreatW.PrintWords.Kd.C_below hr0 h) hc0 (YtebjiimlcnmfpaaGreatW.PrintWords.Kd.C_below hr2 h) hc2 (YtebjiimlcnmfpaaGreatW.PrintWords.Kd.C_below hr6 h) hc6 (rcheck_f (by omega) hS hT2 (by omega) (by omega)))
  have H3 := hid (fun W (h : Ext w W) => check_Ahead.calls A0 c0 l lev A2 c2 o _ W (YtebjiimlcnmfpaaGreatW.PrintWords.Kd.C_below hr0 h) hc0 (YtebjiimlcnmfpaaGreatW.PrintWords.Kd.C_below hr2 h) hc2 (ahead_f (by omega) hS (by omega) hI))
  have H4 := hid (fun W (h : Ext w W) => cartoucheref13_Ahead.calls A0 c0 l lev A2 c2 o _ W (YtebjiimlcnmfpaaGreatW.PrintWords.Kd.C_below hr0 h) hc0 (YtebjiimlcnmfpaaGreatW.PrintWords.Kd.C_below hr2 h) hc2 (rahead_f (by omega) hS hT2 (by omega)))
  have H5 := hid (fun W (h : Ext w W) => check_Round.calls A0 c0 l lev A6 c6 rs _ W (YtebjiimlcnmfpaaGreatW.PrintWords.Kd.C_below hr0 h) hc0 (YtebjiimlcnmfpaaGreatW.PrintWords.Kd.C_below hr6 h) hc6 (round_f (by omega) (by omega)))
  have H6 := hid (fun W (h : Ext w W) => cartoucheref13_Round.calls A0 c0 l lev A6 c6 rs _ W (YtebjiimlcnmfpaaGreatW.PrintWords.Kd.C_below hr0 h) hc0 (YtebjiimlcnmfpaaGreatW.PrintWords.Kd.C_below hr6 h) hc6 (rround_f (by omega) (by omega)))
  clear hT hT2 hS hI hr0 hr2 hr6
  obtain ⟨ck, hck⟩ : ∃ c, checkS l lev acc o bk bi bj rs = c := ⟨_, rfl⟩
  obtain ⟨ah, hah⟩ : ∃ c, aheadS l lev o = c := ⟨_, rfl⟩
  obtain ⟨ro, hro⟩ : ∃ c, roundS (evs l) lev (rs.map toEd) = c := ⟨_, rfl⟩
  rw [hck] at H1 H2
  rw [hah] at H3 H4
  rw [hro] at H5 H6
  clear hck hah hro hb hb2
  go_wp2_with first
    | (go_at_call 36; (with_reducible refine (cartouchelaw13_shown.calls true _ shown13).mono ?_); rintro e1 w1 ⟨rfl, hx1⟩; have hY1 : Ext w w1 := hXB.trans hx1; have C1 := hid (YtebjiimlcnmfpaaGreatW.PrintWords.Kd.C_below HC.out hY1))
    | (go_at_call 37; (with_reducible refine (cartouchelaw13_few.calls kf _ _ l _ _ C1.out hc0 hkf).mono ?_); rintro e2 w2 ⟨rfl, ⟨⟨nd, rfl⟩⟩⟩; have hY2 : Ext w (w1.drewN nd) := hY1.drewN nd; obtain ⟨x0, x1, x2, x3, x4, x5, x6⟩ := Blk.cells7 (Blk.ext PB.out (Ext.drewN hx1 nd)))
  obtain ⟨W2, hW2⟩ : ∃ W, w1.drewN nd = W := ⟨_, rfl⟩
  rw [hW2] at hY2 x0 x1 x2 x3 x4 x5 x6 ⊢
  clear hW2 hkf hx1 hY1 C1 hXB
  replace x0 := cell_regrown x0
  replace x1 := cell_regrown x1
  replace x2 := cell_regrown x2
  replace x3 := cell_regrown x3
  replace x4 := cell_regrown x4
  replace x5 := cell_regrown x5
  replace x6 := cell_regrown x6
  refine wp_region_quiet_below (by kernel_rfl) (by kernel_rfl) ?_
  repeat (go_big_quiet_step (first
    | (go_at_call 38; exact Calls.regrown_of (H1.out _ (hY2.trans (below_regrown _ _ _))))
    | (go_at_call 39; exact Calls.regrown_of (H2.out _ (hY2.trans (below_regrown _ _ _))))
    | (go_at_call 40; exact Calls.regrown_of (H3.out _ (hY2.trans (below_regrown _ _ _))))
    | (go_at_call 41; exact Calls.regrown_of (H4.out _ (hY2.trans (below_regrown _ _ _))))
    | (go_at_call 42; exact Calls.regrown_of (H5.out _ (hY2.trans (below_regrown _ _ _))))
    | (go_at_call 43; exact Calls.regrown_of (H6.out _ (hY2.trans (below_regrown _ _ _))))))
  refine wpQuiet_nil ?_
  intro _ hw'
  obtain ⟨⟨nq, osq⟩, hw''⟩ := hw'
  subst hw''
  have hx5 : Ext w _ := hY2.trans (below_regrown W2 nq osq)
  go_wp2
  go_ret
  exact ⟨ret_bool (by simp), hx5⟩
end
end Go.Proofs.YtebjiimlcnmfpaaGreatPr
