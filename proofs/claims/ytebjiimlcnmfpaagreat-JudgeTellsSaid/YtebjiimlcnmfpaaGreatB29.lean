/-
  The program's judge.Judge, walked by hand, and its contract in the words of the printed ones.
-/
import Derived.Test.YtebjiimlcnmfpaaGreatPrEdgesAll
import Derived.Test.YtebjiimlcnmfpaaGreatPrTaintFirst
import Derived.Test.YtebjiimlcnmfpaaGreatPrJudgeFlat
import Derived.Test.YtebjiimlcnmfpaaGreatS14
import Derived.Test.YtebjiimlcnmfpaaGreatS16
set_option linter.unusedVariables false
set_option linter.unusedSimpArgs false
namespace Go.Proofs.YtebjiimlcnmfpaaGreatPr
open Go.Proofs.YtebjiimlcnmfpaaGreat
section
open Go Go.RowKit Go.Proofs Go.Shelf
set_option linter.unusedSimpArgs false
set_option linter.unusedVariables false
attribute [local go_sem] Ext.alloc Ext.alloc2 Ext.alloc3 Ext.alloc4 Ext.drewN_alloc Ext.drewN_alloc2 Ext.drew_alloc Ext.drew Ext.drewN toList_beq

set_option maxRecDepth 100000 in
set_option maxHeartbeats 8000000 in
theorem j_judge (w : World) (A : Option Addr) (cap : Nat) (l : List S50) (lev : Int) (hC : YtebjiimlcnmfpaaGreatW.PrintWords.Kd.C k50 w A l.length l) (hcap : l.length ≤ cap) (hn : l.length ≤ 300) (hS : ∀ y ∈ l, EvS y) :
    Calls Tryz.prog 33 #[.slice A l.length cap, .int .i64 lev] w (JOut w (jS l lev)) := by
  obtain ⟨r, hr⟩ : ∃ r, jS l lev = r := ⟨_, rfl⟩
  have HR := hid hr
  rw [hr]
  obtain ⟨f1, hf1⟩ : ∃ f, (formed (evs l)).1 = f := ⟨_, rfl⟩
  obtain ⟨f2, hf2⟩ : ∃ f, (formed (evs l)).2 = f := ⟨_, rfl⟩
  have hF : Hid (history_Formed.f l = some (f1, f2)) := hid (by unfold history_Formed.f; rw [if_pos (by omega), ← hf1, ← hf2])
  have HF2 := hid hf2
  have HSS := hid hS
  clear hr hf1 hf2 hS
  go_enter Tryz.func33, Tryz.ntmps33
  go_upto_region 2 with (fail)
  have hP6 := Blk.new (w.alloc (.cells #[.int .i64 0, .bool false, .slice none 0 0, .int .i64 0, .int .i64 0, .int .i64 0, .slice none 0 0] 42)) 42 #[.int .i64 lev, .bool false, .slice none 0 0, .int .i64 0, .int .i64 0, .int .i64 0, .slice none 0 0]
  have hP4 := (Blk.new w 42 #[.int .i64 0, .bool false, .slice none 0 0, .int .i64 0, .int .i64 0, .int .i64 0, .slice none 0 0]).alloc (.cells #[.int .i64 lev, .bool false, .slice none 0 0, .int .i64 0, .int .i64 0, .int .i64 0, .slice none 0 0] 42)
  have hX0 := ((Ext.refl w).alloc (.cells #[.int .i64 0, .bool false, .slice none 0 0, .int .i64 0, .int .i64 0, .int .i64 0, .slice none 0 0] 42)).alloc (.cells #[.int .i64 lev, .bool false, .slice none 0 0, .int .i64 0, .int .i64 0, .int .i64 0, .slice none 0 0] 42)
  rw [World.size_alloc] at hP6
  obtain ⟨W0, hW0⟩ : ∃ W, (w.alloc (.cells #[.int .i64 0, .bool false, .slice none 0 0, .int .i64 0, .int .i64 0, .int .i64 0, .slice none 0 0] 42)).alloc (.cells #[.int .i64 lev, .bool false, .slice none 0 0, .int .i64 0, .int .i64 0, .int .i64 0, .slice none 0 0] 42) = W := ⟨_, rfl⟩
  rw [hW0] at hP6 hP4 hX0 ⊢
  clear hW0
  have HC0 := hid (C_go hC hX0)
  have P4 := hid hP4
  have P6 := hid hP6
  clear hC hP4 hP6
  by_cases hlev : 1 ≤ lev ∧ lev ≤ 2
  case neg =>
    have hR2 : r = (0, false, [], 0, 0, 0, [], 1) := by rw [← HR.out]; unfold jS; rw [if_pos (by omega)]
    subst hR2
    obtain ⟨⟨x0, x1, x2, x3, x4, x5, x6⟩, fx0, fx1, fx2, fx3, fx4, fx5, fx6⟩ := Blk.all7 P4.out
    have hQ := P4.out
    have hw : lev < 1 ∨ (¬ lev < 1 ∧ 2 < lev) := by omega
    clear hlev HR
    rcases hw with h1 | ⟨h1, h2⟩
    all_goals
      go_wp2
      refine bodyPost_ret (YtebjiimlcnmfpaaGreatW.PrintWords.results_ct rfl _ _ w.heap.size 42 #[.int .i64 0, .bool false, .slice none 0 0, .int .i64 0, .int .i64 0, .int .i64 0, .slice none 0 0] (0, 0) _ rfl (show Blk _ _ _ _ from Blk.put7 hQ _ _ _ _ _ _ _) Tryz.underlying42 rfl (by kernel_rfl)) rfl ?_
      exact ⟨_, _, rfl, YtebjiimlcnmfpaaGreatW.PrintWords.Kd.R_nil _ _ _ _ _, YtebjiimlcnmfpaaGreatW.PrintWords.Kd.R_nil _ _ _ _ _, put7_ext hX0 (Nat.le_refl _) _ _ _ _ _ _ _⟩
  obtain ⟨hl1, hl2⟩ := hlev
  have n1 : ¬ lev < 1 := by omega
  have n2 : ¬ 2 < lev := by omega
  by_cases hf : f2 = 0
  case neg =>
    have hz : (f2 != 0) = true := bne_iff_ne.mpr hf
    have hR2 : r = (0, false, [], 0, 0, 0, [], f2) := by rw [← HR.out]; unfold jS; rw [if_neg (by omega), if_neg (by rw [HF2.out]; exact hf), HF2.out]
    subst hR2
    clear hf HR
    go_wp2_with (go_at_call 63; (with_reducible refine (history_Formed.calls A cap l _ _ _ HC0.out hcap hF.out).mono ?_); rintro e1 w1 ⟨rfl, hx1⟩; have hY1 : Ext W0 w1 := hx1; have C1 := hid (C_go HC0.out hY1); obtain ⟨⟨x0, x1, x2, x3, x4, x5, x6⟩, fx0, fx1, fx2, fx3, fx4, fx5, fx6⟩ := Blk.all7 (P4.out.ext hY1))
    have hQ := P4.out.ext hY1
    refine bodyPost_ret (YtebjiimlcnmfpaaGreatW.PrintWords.results_ct rfl _ _ w.heap.size 42 #[.int .i64 0, .bool false, .slice none 0 0, .int .i64 0, .int .i64 0, .int .i64 0, .slice none 0 0] (0, 0) _ rfl (show Blk _ _ _ _ from Blk.put7 hQ _ _ _ _ _ _ _) Tryz.underlying42 rfl (by kernel_rfl)) rfl ?_
    exact ⟨_, _, rfl, YtebjiimlcnmfpaaGreatW.PrintWords.Kd.R_nil _ _ _ _ _, YtebjiimlcnmfpaaGreatW.PrintWords.Kd.R_nil _ _ _ _ _, put7_ext (hX0.trans hY1) (Nat.le_refl _) _ _ _ _ _ _ _⟩
  subst hf
  have hR1 := hid (show r = jokS l lev from by rw [← HR.out]; unfold jS; rw [if_neg (by omega), if_pos HF2.out])
  obtain ⟨kt, hkt⟩ := (tfirst_evt l (by omega)).rounds
  clear HR
  cases hb : badsS l with
  | cons b rest =>
    have hR2 : r = (lev, false, [], b.f0, b.f1, b.f2, [], 0) := by rw [hR1.out]; unfold jokS; rw [hb]
    subst hR2
    rw [hb] at hkt
    have hT := hid (show taint_First.f kt l = some (b.f0, b.f1, b.f2, true) from hkt)
    clear hkt hb hR1
    go_wp2_with first
      | (go_at_call 63; (with_reducible refine (history_Formed.calls A cap l _ _ _ HC0.out hcap hF.out).mono ?_); rintro e1 w1 ⟨rfl, hx1⟩; have hY1 : Ext W0 w1 := hx1; have C1 := hid (C_go HC0.out hY1))
      | (go_at_call 64; go_loud ((with_reducible refine (taint_First.calls kt A cap l b.f0 b.f1 b.f2 true _ C1.out hcap hT.out).mono ?_); rintro e2 w2 ⟨rfl, hx2⟩; have hY2 : Ext W0 w2 := hY1.trans hx2; have C2 := hid (C_go HC0.out hY2); obtain ⟨⟨x0, x1, x2, x3, x4, x5, x6⟩, fx0, fx1, fx2, fx3, fx4, fx5, fx6⟩ := Blk.all7 (P4.out.ext hY2); obtain ⟨⟨y0, y1, y2, y3, y4, y5, y6⟩, fy0, fy1, fy2, fy3, fy4, fy5, fy6⟩ := Blk.all7 (P6.out.ext hY2); have hs2 : w.heap.size + 1 < w2.heap.size := (P6.out.ext hY2).lt; have hs1 : w.heap.size < w2.heap.size := (P4.out.ext hY2).lt))
    have hQ := (((P4.out.ext hY2).far (p := ⟨w.heap.size + 1, 3, none⟩) (by simp) (.int .i64 b.f0)).far (p := ⟨w.heap.size + 1, 4, none⟩) (by simp) (.int .i64 b.f1)).far (p := ⟨w.heap.size + 1, 5, none⟩) (by simp) (.int .i64 b.f2)
    have hE := ((Ext.setCell (p := ⟨w.heap.size + 1, 3, none⟩) (by simp) (hX0.trans hY2) (.int .i64 b.f0)).setCell (p := ⟨w.heap.size + 1, 4, none⟩) (by simp) (.int .i64 b.f1)).setCell (p := ⟨w.heap.size + 1, 5, none⟩) (by simp) (.int .i64 b.f2)
    refine bodyPost_ret (YtebjiimlcnmfpaaGreatW.PrintWords.results_ct rfl _ _ w.heap.size 42 #[.int .i64 lev, .bool false, .slice none 0 0, .int .i64 b.f0, .int .i64 b.f1, .int .i64 b.f2, .slice none 0 0] (0, 0) _ rfl (show Blk _ _ _ _ from (Blk.put7 hQ _ _ _ _ _ _ _).alloc _) Tryz.underlying42 rfl (by kernel_rfl)) rfl ?_
    exact ⟨_, _, rfl, YtebjiimlcnmfpaaGreatW.PrintWords.Kd.R_nil _ _ _ _ _, YtebjiimlcnmfpaaGreatW.PrintWords.Kd.R_nil _ _ _ _ _, (put7_ext hE (Nat.le_refl _) _ _ _ _ _ _ _).alloc _⟩
  | nil =>
    rw [hb] at hkt
    have hT := hid (show taint_First.f kt l = some (0, 0, 0, false) from hkt)
    have hAl := allE_len l hn
    obtain ⟨ka, hka⟩ := (all_evt l hn HSS.out).rounds
    have hA := hid hka
    have hSt : Hid (edges_Steps.f lev (allE l) = some (stepsH lev l)) := hid (by
      unfold edges_Steps.f
      rw [if_pos (by have := Nat.mul_le_mul hAl (show (allE l).length + 1 ≤ 900001 by omega); omega)]
      rfl)
    have hNo : Hid (edges_Nodes.f l = some (nodesS (evs l))) := hid (by unfold edges_Nodes.f; rw [if_pos (by omega)])
    have hsl := stepsH_len lev l hn
    have hnl := nodesS_len (evs l)
    rw [evs_len] at hnl
    have hOr : Hid (ring_Order.f (nodesS (evs l)) (stepsH lev l) = some ((Rg.order fr_ to_ (stepsH lev l) (nodesS (evs l))).getD [], (Rg.order fr_ to_ (stepsH lev l) (nodesS (evs l))).isSome)) := hid (by
      have hI : intsOk (nodesS (evs l)) = true := intsOk_iff.2 fun x hx => by
        obtain ⟨h1, h2, _⟩ := comOf_end (mem_nodes.1 hx)
        obtain ⟨e, he, hel, het, _⟩ := endOf_place h1
        rw [evs_len] at hel
        rw [← het]
        exact txn_ok HSS.out hel
      unfold ring_Order.f
      rw [if_pos ⟨by omega, hI, stepsH_ok HSS.out⟩])
    have hRi : Hid (ring_Ring.f (stepsH lev l) = some ((Rg.ring fr_ to_ (stepsH lev l)).1, (Rg.ring fr_ to_ (stepsH lev l)).2)) := hid (by
      unfold ring_Ring.f
      rw [if_pos ⟨by omega, stepsH_ok HSS.out⟩])
    have hfl := flat_evt (Rg.ring fr_ to_ (stepsH lev l)).1 (by have := ring_len_le (stepsH lev l); omega) (fun y hy => stepsH_two (Rg.ring_mem fr_ to_ (stepsH lev l) y hy))
    obtain ⟨kf, hkf⟩ := hfl.rounds
    have hFl := hid hkf
    have hR2 : Hid (r = match Rg.order fr_ to_ (stepsH lev l) (nodesS (evs l)) with
      | some o => (lev, true, o, 0, 0, 0, [], 0)
      | none => (lev, false, [], 0, 0, 0, (Rg.ring fr_ to_ (stepsH lev l)).1.flatMap (fun s => s.f2), 0)) := hid (by rw [hR1.out]; unfold jokS; rw [hb]; rfl)
    clear hkt hka hkf hfl hb hR1
    obtain ⟨rg, hrg⟩ : ∃ x, (Rg.ring fr_ to_ (stepsH lev l)).1 = x := ⟨_, rfl⟩
    rw [hrg] at hRi hFl hR2
    obtain ⟨fl, hfl⟩ : ∃ x, rg.flatMap (fun s => s.f2) = x := ⟨_, rfl⟩
    rw [hfl] at hFl hR2
    clear hrg hfl
    generalize (Rg.ring fr_ to_ (stepsH lev l)).2 = rb at *
    generalize Rg.order fr_ to_ (stepsH lev l) (nodesS (evs l)) = od at *
    generalize stepsH lev l = st at *
    generalize nodesS (evs l) = ns at *
    clear hAl hsl hnl
    cases od with
    | some o =>
      have hR3 : r = (lev, true, o, 0, 0, 0, [], 0) := hR2.out
      subst hR3
      have hOr := hid (show ring_Order.f ns st = some (o, true) from hOr.out)
      clear hR2 hRi hFl
      go_wp2_with first
        | (go_at_call 63; (with_reducible refine (history_Formed.calls A cap l _ _ _ HC0.out hcap hF.out).mono ?_); rintro e1 w1 ⟨rfl, hx1⟩; have hY1 : Ext W0 w1 := hx1; have C1 := hid (C_go HC0.out hY1))
        | (go_at_call 64; (with_reducible refine (taint_First.calls kt A cap l 0 0 0 false _ C1.out hcap hT.out).mono ?_); rintro e2 w2 ⟨rfl, hx2⟩; have hY2 : Ext W0 (w2.alloc (.cells #[.int .i64 0, .int .i64 0, .int .i64 0] 40)) := (hY1.trans hx2).alloc _; have C2 := hid (C_go HC0.out hY2))
        | (go_at_call 21; (with_reducible refine (edges_All.calls ka A cap l (allE l) _ C2.out hcap hA.out).mono ?_); rintro e3 w3 ⟨v3, rfl, hR3, hx3⟩; have hY3 : Ext W0 w3 := hY2.trans hx3; obtain ⟨A3, c3, rfl, hc3, hC3⟩ := YtebjiimlcnmfpaaGreatW.PrintWords.Kd.N_reads (YtebjiimlcnmfpaaGreatW.PrintWords.Kd.R_N hR3); have D3 := hid hC3; clear hR3 hC3)
        | (go_at_call 65; (with_reducible refine (edges_Steps.calls lev A3 c3 (allE l) st _ D3.out hc3 hSt.out).mono ?_); rintro e4 w4 ⟨v4, rfl, hN4, hx4⟩; have hY4 : Ext W0 w4 := hY3.trans hx4; obtain ⟨A4, c4, rfl, hc4, hC4⟩ := YtebjiimlcnmfpaaGreatW.PrintWords.Kd.N_reads hN4; have D4 := hid hC4; have N4 := hid hN4; have C4 := hid (C_go HC0.out hY4); clear hN4 hC4)
        | (go_at_call 24; (with_reducible refine (edges_Nodes.calls A cap l ns _ C4.out hcap hNo.out).mono ?_); rintro e5 w5 ⟨v5, rfl, hR5, hx5⟩; have hY5 : Ext W0 w5 := hY4.trans hx5; obtain ⟨A5, c5, rfl, hc5, hC5⟩ := YtebjiimlcnmfpaaGreatW.PrintWords.Kd.N_reads (YtebjiimlcnmfpaaGreatW.PrintWords.Kd.R_N hR5); have D5 := hid hC5; have E4 := hid (C_go D4.out hx5); have hX45 := hid hx5; clear hR5 hC5)
        | (go_at_call 66; (with_reducible refine (ring_Order.calls A5 c5 ns A4 c4 st _ _ _ D5.out hc5 E4.out hc4 hOr.out).mono ?_); rintro e6 w6 ⟨v6, rfl, hR6, hx6⟩; have hY6 : Ext W0 w6 := hY5.trans hx6; obtain ⟨A6, c6, rfl, _, _⟩ := YtebjiimlcnmfpaaGreatW.PrintWords.Kd.N_reads (YtebjiimlcnmfpaaGreatW.PrintWords.Kd.R_N hR6); have R6 := hid hR6; clear hR6; obtain ⟨⟨x0, x1, x2, x3, x4, x5, x6⟩, fx0, fx1, fx2, fx3, fx4, fx5, fx6⟩ := Blk.all7 (P4.out.ext hY6); obtain ⟨⟨y0, y1, y2, y3, y4, y5, y6⟩, fy0, fy1, fy2, fy3, fy4, fy5, fy6⟩ := Blk.all7 (P6.out.ext hY6); have hs2 : w.heap.size + 1 < w6.heap.size := (P6.out.ext hY6).lt; have hs1 : w.heap.size < w6.heap.size := (P4.out.ext hY6).lt)
      have hQ := ((P4.out.ext hY6).far (p := ⟨w.heap.size + 1, 1, none⟩) (by simp) (.bool true)).far (p := ⟨w.heap.size + 1, 2, none⟩) (by simp) (.slice A6 o.length c6)
      have hE := (Ext.setCell (p := ⟨w.heap.size + 1, 1, none⟩) (by simp) (hX0.trans hY6) (.bool true)).setCell (p := ⟨w.heap.size + 1, 2, none⟩) (by simp) (.slice A6 o.length c6)
      refine bodyPost_ret (YtebjiimlcnmfpaaGreatW.PrintWords.results_ct rfl _ _ w.heap.size 42 #[.int .i64 lev, .bool true, .slice A6 o.length c6, .int .i64 0, .int .i64 0, .int .i64 0, .slice none 0 0] (0, 0) _ rfl (show Blk _ _ _ _ from Blk.put7 hQ _ _ _ _ _ _ _) Tryz.underlying42 rfl (by kernel_rfl)) rfl ?_
      have hk : ∀ k, w5.heap.size ≤ k → k ≠ w.heap.size ∧ k ≠ w.heap.size + 1 := fun k hk => by
        have h1 := (P6.out.ext hY5).lt
        omega
      exact ⟨_, _, rfl, R_elder R6.out (hX0.trans hY5).le (fun k h => (put7_other (hk k h).1 _ _ _ _ _ _ _).trans ((Below.heap_setCell _ _ _ k (hk k h).2).trans (Below.heap_setCell _ _ _ k (hk k h).2))), YtebjiimlcnmfpaaGreatW.PrintWords.Kd.R_nil _ _ _ _ _, put7_ext hE (Nat.le_refl _) _ _ _ _ _ _ _⟩
    | none =>
      have hR3 : r = (lev, false, [], 0, 0, 0, fl, 0) := hR2.out
      subst hR3
      have hOr := hid (show ring_Order.f ns st = some ([], false) from hOr.out)
      clear hR2
      go_wp2_with first
        | (go_at_call 63; (with_reducible refine (history_Formed.calls A cap l _ _ _ HC0.out hcap hF.out).mono ?_); rintro e1 w1 ⟨rfl, hx1⟩; have hY1 : Ext W0 w1 := hx1; have C1 := hid (C_go HC0.out hY1))
        | (go_at_call 64; (with_reducible refine (taint_First.calls kt A cap l 0 0 0 false _ C1.out hcap hT.out).mono ?_); rintro e2 w2 ⟨rfl, hx2⟩; have hY2 : Ext W0 (w2.alloc (.cells #[.int .i64 0, .int .i64 0, .int .i64 0] 40)) := (hY1.trans hx2).alloc _; have C2 := hid (C_go HC0.out hY2))
        | (go_at_call 21; (with_reducible refine (edges_All.calls ka A cap l (allE l) _ C2.out hcap hA.out).mono ?_); rintro e3 w3 ⟨v3, rfl, hR3, hx3⟩; have hY3 : Ext W0 w3 := hY2.trans hx3; obtain ⟨A3, c3, rfl, hc3, hC3⟩ := YtebjiimlcnmfpaaGreatW.PrintWords.Kd.N_reads (YtebjiimlcnmfpaaGreatW.PrintWords.Kd.R_N hR3); have D3 := hid hC3; clear hR3 hC3)
        | (go_at_call 65; (with_reducible refine (edges_Steps.calls lev A3 c3 (allE l) st _ D3.out hc3 hSt.out).mono ?_); rintro e4 w4 ⟨v4, rfl, hN4, hx4⟩; have hY4 : Ext W0 w4 := hY3.trans hx4; obtain ⟨A4, c4, rfl, hc4, hC4⟩ := YtebjiimlcnmfpaaGreatW.PrintWords.Kd.N_reads hN4; have D4 := hid hC4; have N4 := hid hN4; have C4 := hid (C_go HC0.out hY4); clear hN4 hC4)
        | (go_at_call 24; (with_reducible refine (edges_Nodes.calls A cap l ns _ C4.out hcap hNo.out).mono ?_); rintro e5 w5 ⟨v5, rfl, hR5, hx5⟩; have hY5 : Ext W0 w5 := hY4.trans hx5; obtain ⟨A5, c5, rfl, hc5, hC5⟩ := YtebjiimlcnmfpaaGreatW.PrintWords.Kd.N_reads (YtebjiimlcnmfpaaGreatW.PrintWords.Kd.R_N hR5); have D5 := hid hC5; have E4 := hid (C_go D4.out hx5); have hX45 := hid hx5; clear hR5 hC5)
        | (go_at_call 66; (with_reducible refine (ring_Order.calls A5 c5 ns A4 c4 st _ _ _ D5.out hc5 E4.out hc4 hOr.out).mono ?_); rintro e6 w6 ⟨v6, rfl, hR6, hx6⟩; have hY6 : Ext W0 w6 := hY5.trans hx6; obtain ⟨A6, c6, rfl, _, _⟩ := YtebjiimlcnmfpaaGreatW.PrintWords.Kd.N_reads (YtebjiimlcnmfpaaGreatW.PrintWords.Kd.R_N hR6); have R6 := hid hR6; clear hR6; obtain ⟨⟨x0, x1, x2, x3, x4, x5, x6⟩, fx0, fx1, fx2, fx3, fx4, fx5, fx6⟩ := Blk.all7 (P4.out.ext hY6); obtain ⟨⟨y0, y1, y2, y3, y4, y5, y6⟩, fy0, fy1, fy2, fy3, fy4, fy5, fy6⟩ := Blk.all7 (P6.out.ext hY6); have hs2 : w.heap.size + 1 < w6.heap.size := (P6.out.ext hY6).lt; have hs1 : w.heap.size < w6.heap.size := (P4.out.ext hY6).lt)
        | (go_at_call 67; (refine (ring_Ring.calls _ A4 c4 st _ _ w6 (YtebjiimlcnmfpaaGreatW.PrintWords.Kd.N_V (YtebjiimlcnmfpaaGreatW.PrintWords.Kd.N_below N4.out (Ext.trans hX45.out hx6))) hRi.out).mono ?_); rintro e7 w7 ⟨v7, rfl, hN7, hx7⟩; have hY7 : Ext W0 w7 := hY6.trans hx7; obtain ⟨A7, c7, rfl, hc7, hC7⟩ := YtebjiimlcnmfpaaGreatW.PrintWords.Kd.N_reads hN7; have D7 := hid hC7; clear hN7 hC7)
        | (go_at_call 29; (with_reducible refine (judge_Flat.calls kf A7 c7 rg fl _ D7.out hc7 hFl.out).mono ?_); rintro e8 w8 ⟨v8, rfl, hR8, hx8⟩; have hY8 : Ext W0 w8 := hY7.trans hx8; obtain ⟨A8, c8, rfl, _, _⟩ := YtebjiimlcnmfpaaGreatW.PrintWords.Kd.N_reads (YtebjiimlcnmfpaaGreatW.PrintWords.Kd.R_N hR8); have R8 := hid hR8; clear hR8; obtain ⟨⟨x0, x1, x2, x3, x4, x5, x6⟩, fx0, fx1, fx2, fx3, fx4, fx5, fx6⟩ := Blk.all7 (P4.out.ext hY8); obtain ⟨⟨y0, y1, y2, y3, y4, y5, y6⟩, fy0, fy1, fy2, fy3, fy4, fy5, fy6⟩ := Blk.all7 (P6.out.ext hY8); have hs2 : w.heap.size + 1 < w8.heap.size := (P6.out.ext hY8).lt; have hs1 : w.heap.size < w8.heap.size := (P4.out.ext hY8).lt)
      have hQ := (P4.out.ext hY8).far (p := ⟨w.heap.size + 1, 6, none⟩) (by simp) (.slice A8 fl.length c8)
      have hE := Ext.setCell (p := ⟨w.heap.size + 1, 6, none⟩) (by simp) (hX0.trans hY8) (.slice A8 fl.length c8)
      refine bodyPost_ret (YtebjiimlcnmfpaaGreatW.PrintWords.results_ct rfl _ _ w.heap.size 42 #[.int .i64 lev, .bool false, .slice none 0 0, .int .i64 0, .int .i64 0, .int .i64 0, .slice A8 fl.length c8] (0, 0) _ rfl (show Blk _ _ _ _ from Blk.put7 hQ _ _ _ _ _ _ _) Tryz.underlying42 rfl (by kernel_rfl)) rfl ?_
      have hk : ∀ k, w7.heap.size ≤ k → k ≠ w.heap.size ∧ k ≠ w.heap.size + 1 := fun k hk => by
        have h1 := (P6.out.ext hY7).lt
        omega
      exact ⟨_, _, rfl, YtebjiimlcnmfpaaGreatW.PrintWords.Kd.R_nil _ _ _ _ _, R_elder R8.out (hX0.trans hY7).le (fun k h => (put7_other (hk k h).1 _ _ _ _ _ _ _).trans (Below.heap_setCell _ _ _ k (hk k h).2)), put7_ext hE (Nat.le_refl _) _ _ _ _ _ _ _⟩
def judge_Judge.f (l0 : List (S50)) (a1 : Int) : Option (Int × Bool × List Int × Int × Int × Int × (List (S24)) × Int) := if l0.length ≤ 300 ∧ evsOk l0 = true then some (jS l0 a1) else none
theorem judge_Judge.calls (A0 : Option Addr) (c0 : Nat) (l0 : List (S50)) (a1 : Int) (r1 : Int) (r2 : Bool) (r3 : List Int) (r4 : Int) (r5 : Int) (r6 : Int) (r7 : List (S24)) (r8 : Int) (w : World) (hr0 : YtebjiimlcnmfpaaGreatW.PrintWords.Kd.C k50 w A0 l0.length l0) (hc0 : l0.length ≤ c0) (h : judge_Judge.f l0 a1 = some (r1, r2, r3, r4, r5, r6, r7, r8)) :
    Calls Tryz.prog 33 #[.slice A0 l0.length c0, .int .i64 a1] w fun e w' => ∃ v2_ v6_ : Value, e = .returned (.tuple #[.agg #[.int .i64 r1, .bool r2, v2_, .int .i64 r4, .int .i64 r5, .int .i64 r6, v6_], .int .i64 r8]) ∧ YtebjiimlcnmfpaaGreatW.PrintWords.Kd.R (YtebjiimlcnmfpaaGreatW.PrintWords.Kd.int .i64) 3 w' w.heap.size (fun _ => True) v2_ r3 ∧ YtebjiimlcnmfpaaGreatW.PrintWords.Kd.R k24 24 w' w.heap.size (fun _ => True) v6_ r7 ∧ Below w.heap.size w w' := by
  unfold judge_Judge.f at h
  split at h
  · rename_i hn
    injection h with h
    have := j_judge w A0 c0 l0 a1 hr0 hc0 hn.1 (evsOk_iff.1 hn.2)
    rw [h] at this
    exact this
  · cases h
theorem judge_f {xs : List S50} {lev : Int} (hn : xs.length ≤ 300) (hS : ∀ y ∈ xs, EvS y) : judge_Judge.f xs lev = some (jS xs lev) := by
  unfold judge_Judge.f
  rw [if_pos ⟨hn, evsOk_iff.2 hS⟩]
end
end Go.Proofs.YtebjiimlcnmfpaaGreatPr
