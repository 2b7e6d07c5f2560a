/-
  The law JudgeTells, walked by hand: a history's verdict is as the document says.
-/
import Derived.Test.YtebjiimlcnmfpaaGreatPr0
import Derived.Test.YtebjiimlcnmfpaaGreatB33
import Derived.Test.YtebjiimlcnmfpaaGreatB12
import Derived.Test.YtebjiimlcnmfpaaGreatB29
import Derived.Test.YtebjiimlcnmfpaaGreatB30
import Derived.Test.YtebjiimlcnmfpaaGreatB17
import Derived.Lib.QuietBelow
section
namespace Go.Proofs.YtebjiimlcnmfpaaGreatPr
open Go.RowKit Go.Proofs.YtebjiimlcnmfpaaGreatW.PrintWords Go.Proofs.YtebjiimlcnmfpaaGreatW.PrintLast Go.Proofs.YtebjiimlcnmfpaaGreatW.PrintMore
attribute [local go_sem] max2_int min2_int max_two min_two max_three min_three max_four min_four   -- for this text's walks alone
set_option linter.unusedVariables false
set_option linter.unusedSimpArgs false

/-! ### cartouchelaw12_few: function 31 -/
def cartouchelaw12_few.f (l0 : List (S50)) : Option (Bool) := some (decide ((l0.length : Int) ≤ 80))
set_option maxHeartbeats 8000000 in
set_option maxRecDepth 100000 in
theorem cartouchelaw12_few.calls (A0 : Option Addr) (c0 : Nat) (l0 : List (S50)) (r : Bool) (w : World) (hr0 : Kd.C k50 w A0 l0.length l0) (hc0 : l0.length ≤ c0) (h : cartouchelaw12_few.f l0 = some r) :
    Calls Tryz.prog 31 #[.slice A0 l0.length c0] w fun e w' => e = .returned (.bool r) ∧ Drawn0 w w' := by
  have HR0 := Aside0.mk hr0
  have HC0 := Aside0.mk hc0
  clear hr0 hc0
  have H : (some (decide ((l0.length : Int) ≤ 80))) = some r := h
  clear h
  obtain rfl := Option.some.inj H
  go_enter Tryz.func31, Tryz.ntmps31
  go_wp2
  go_ret
  exact ⟨by first | rfl | (simp; done) | (simp [*]; done), by repeat (first | exact Drawn0.refl _ | apply Drawn0.step)⟩

end Go.Proofs.YtebjiimlcnmfpaaGreatPr
end
section
set_option linter.unusedVariables false
set_option linter.unusedSimpArgs false
namespace Go.Proofs.YtebjiimlcnmfpaaGreatPr
open Go.Proofs.YtebjiimlcnmfpaaGreat
open Go Go.RowKit YtebjiimlcnmfpaaGreatW.PrintWords

theorem psame_f (x y : JR) (h1 : x.2.2.1.length ≤ 140737488351232) (h2 : x.2.2.2.2.2.2.1.length ≤ 140737488351232) (h3 : y.2.2.1.length ≤ 140737488351232) (h4 : y.2.2.2.2.2.2.1.length ≤ 140737488351232) : judge_Same.f x.1 x.2.1 x.2.2.1 x.2.2.2.1 x.2.2.2.2.1 x.2.2.2.2.2.1 x.2.2.2.2.2.2.1 y.1 y.2.1 y.2.2.1 y.2.2.2.1 y.2.2.2.2.1 y.2.2.2.2.2.1 y.2.2.2.2.2.2.1 = some (sameV x y) := by
  unfold judge_Same.f
  rw [if_pos ⟨⟨h1, h3⟩, h2, h4⟩]
  rfl
theorem jS_lens {xs : List S50} {lev : Int} (hn : xs.length ≤ 256) : (jS xs lev).2.2.1.length ≤ 256 ∧ (jS xs lev).2.2.2.2.2.2.1.length ≤ 525312 := by
  unfold jS
  by_cases c1 : lev < 1 ∨ lev > 2
  · rw [if_pos c1]; simp
  rw [if_neg c1]
  by_cases hf : (formed (evs xs)).2 = 0
  · rw [if_pos hf]
    unfold jokS
    cases hb : badsS xs with
    | cons b r => simp
    | nil =>
      cases ho : Rg.order fr_ to_ (stepsH lev xs) (nodesS (evs xs)) with
      | some o =>
        obtain ⟨g1, g2, _⟩ := Rg.order_some fr_ to_ ho
        have h1 := g1.length_le_of_subset (fun x hx => (g2 x).1 hx)
        have hnl := nodesS_len (evs xs)
        rw [evs_len] at hnl
        exact ⟨by simp only; omega, by simp⟩
      | none =>
        have hl := flat_len3 (Rg.ring fr_ to_ (stepsH lev xs)).1 (fun y hy => stepsH_two (Rg.ring_mem fr_ to_ (stepsH lev xs) y hy))
        have hrl := ring_len_le (stepsH lev xs)
        have hsl := stepsH_len2 lev xs hn
        exact ⟨by simp, by simp only; omega⟩
  · rw [if_neg hf]; simp
section
open Go.Proofs Go.Shelf
set_option linter.unusedSimpArgs false
set_option linter.unusedVariables false
attribute [local go_sem] Ext.alloc Ext.alloc2 Ext.alloc3 Ext.alloc4 Ext.drewN_alloc Ext.drewN_alloc2 Ext.drew_alloc Ext.drew Ext.drewN toList_beq
set_option maxRecDepth 100000 in
set_option maxHeartbeats 8000000 in
theorem h_JudgeTells (w : World) (A0 : Option Addr) (c0 : Nat) (l : List S50) (lev : Int) (x0 : Int) (x1 : Bool) (A2 : Option Addr) (c2 : Nat) (x2 : List Int) (x3 x4 x5 : Int) (A6 : Option Addr) (c6 : Nat) (x6 : List S24) (hr0 : YtebjiimlcnmfpaaGreatW.PrintWords.Kd.C k50 w A0 l.length l) (hc0 : l.length ≤ c0) (hr2 : YtebjiimlcnmfpaaGreatW.PrintWords.Kd.C (YtebjiimlcnmfpaaGreatW.PrintWords.Kd.int .i64) w A2 x2.length x2) (hc2 : x2.length ≤ c2) (hr6 : YtebjiimlcnmfpaaGreatW.PrintWords.Kd.C k24 w A6 x6.length x6) (hc6 : x6.length ≤ c6)
    (hS : ∀ y ∈ l, EvS y) (hl : l.length * 48 ≤ 140737488351232) (hol : x2.length * 8 ≤ 140737488351232) (hrl : x6.length * 40 ≤ 140737488351232) :
    Calls Tryz.prog 16 #[.slice A0 l.length c0, .int .i64 lev, .agg #[.int .i64 x0, .bool x1, .slice A2 x2.length c2, .int .i64 x3, .int .i64 x4, .int .i64 x5, .slice A6 x6.length c6]] w fun e w' => e = .returned (.bool true) ∧ Ext w w' := by
  have hsh : cartouchelaw12_shown.f = some true := rfl
  have hfw : Hid (cartouchelaw12_few.f l = some (decide ((l.length : Int) ≤ 80))) := hid rfl
  have hX := Ext.refl w
  have HC := hid hr0
  have hB := Blk.new w 42 #[.int .i64 x0, .bool x1, .slice A2 x2.length c2, .int .i64 x3, .int .i64 x4, .int .i64 x5, .slice A6 x6.length c6]
  have hXB := (Ext.refl w).alloc (.cells #[.int .i64 x0, .bool x1, .slice A2 x2.length c2, .int .i64 x3, .int .i64 x4, .int .i64 x5, .slice A6 x6.length c6] 42)
  go_enter Tryz.func16, Tryz.ntmps16
  go_wp2_with (fail)
  obtain ⟨W0, hW0⟩ : ∃ W, w.alloc (.cells #[.int .i64 x0, .bool x1, .slice A2 x2.length c2, .int .i64 x3, .int .i64 x4, .int .i64 x5, .slice A6 x6.length c6] 42) = W := ⟨_, rfl⟩
  rw [hW0] at hB hXB ⊢
  have PB := hid hB
  clear hW0 hB
  by_cases h80 : (l.length : Int) ≤ 80
  case neg =>
    rw [decide_eq_false h80] at hfw
    go_wp2_with first
      | (go_at_call 28; (with_reducible refine (cartouchelaw12_shown.calls true _ hsh).mono ?_); rintro e1 w1 ⟨rfl, hx1⟩; have hY1 : Ext w w1 := hXB.trans hx1; have C1 := hid (C_go HC.out hY1))
      | (go_at_call 31; (with_reducible refine (cartouchelaw12_few.calls _ _ l _ _ C1.out hc0 hfw.out).mono ?_); rintro e2 w2 ⟨rfl, ⟨⟨nd, rfl⟩⟩⟩; have hY2 : Ext w (w1.drewN nd) := hY1.drewN nd)
    go_ret
    exact ⟨rfl, hY2⟩
  rw [decide_eq_true h80] at hfw
  obtain ⟨g1, g2⟩ := jS_lens (xs := l) (lev := lev) (by omega)
  have hJ := hid (judge_f (xs := l) (lev := lev) (by omega) hS)
  have hJr := hid (rjudge_f (xs := l) (lev := lev) (by omega) hS)
  obtain ⟨q, hq⟩ : ∃ q, jS l lev = q := ⟨_, rfl⟩
  rw [hq] at g1 g2 hJ hJr
  clear hq hS
  obtain ⟨q1, q2, q3, q4, q5, q6, q7, q8⟩ := q
  dsimp only at g1 g2
  have hQ : Hid (q3.length ≤ 140737488351232 ∧ q7.length ≤ 140737488351232) := hid ⟨by omega, by omega⟩
  have hO2 := hid hr2
  have hO6 := hid hr6
  clear hr2 hr6
  go_upto_region 8 with (first
    | (go_at_call 28; (with_reducible refine (cartouchelaw12_shown.calls true _ hsh).mono ?_); rintro e1 w1 ⟨rfl, hx1⟩; have hY1 : Ext w w1 := hXB.trans hx1; have P1 := hid (PB.out.ext hx1); have C1 := hid (C_go HC.out hY1))
    | (go_at_call 31; (with_reducible refine (cartouchelaw12_few.calls _ _ l _ _ C1.out hc0 hfw.out).mono ?_); rintro e2 w2 ⟨rfl, ⟨⟨nd, rfl⟩⟩⟩; have hY2 : Ext w (w1.drewN nd) := hY1.drewN nd; have P2 := hid (P1.out.drewN nd))
    | (go_at_call 33; (with_reducible refine (judge_Judge.calls A0 c0 l lev q1 q2 q3 q4 q5 q6 q7 q8 _ (C_go HC.out hY2) hc0 hJ.out).mono ?_); rintro e3 w3 ⟨va, vb, rfl, hRa, hRb, hx3⟩; have hY3 : Ext w w3 := hY2.trans hx3; obtain ⟨Aa, ca, rfl, hca, hCa⟩ := YtebjiimlcnmfpaaGreatW.PrintWords.Kd.N_reads (YtebjiimlcnmfpaaGreatW.PrintWords.Kd.R_N hRa); obtain ⟨Ab, cb, rfl, hcb, hCb⟩ := YtebjiimlcnmfpaaGreatW.PrintWords.Kd.N_reads (YtebjiimlcnmfpaaGreatW.PrintWords.Kd.R_N hRb); have Da := hid hCa; have Db := hid hCb; have P3 := hid (P2.out.ext hx3); clear hRa hRb hCa hCb; have PA := hid (Blk.new w3 42 #[.int .i64 q1, .bool q2, .slice Aa q3.length ca, .int .i64 q4, .int .i64 q5, .int .i64 q6, .slice Ab q7.length cb]); have hYa := hY3.alloc (.cells #[.int .i64 q1, .bool q2, .slice Aa q3.length ca, .int .i64 q4, .int .i64 q5, .int .i64 q6, .slice Ab q7.length cb] 42); have hZa := hid ((Ext.refl w3).alloc (.cells #[.int .i64 q1, .bool q2, .slice Aa q3.length ca, .int .i64 q4, .int .i64 q5, .int .i64 q6, .slice Ab q7.length cb] 42)))
    | (go_at_call 44; (with_reducible refine (cartoucheref12_Judge.calls A0 c0 l lev q1 q2 q3 q4 q5 q6 q7 q8 _ (C_go HC.out hYa) hc0 hJr.out).mono ?_); rintro e4 w4 ⟨va, vb, rfl, hRa, hRb, hx4⟩; have hY4 : Ext w w4 := hYa.trans hx4; obtain ⟨Ac, cc, rfl, hcc, hCc⟩ := YtebjiimlcnmfpaaGreatW.PrintWords.Kd.N_reads (YtebjiimlcnmfpaaGreatW.PrintWords.Kd.R_N hRa); obtain ⟨Ad, cd, rfl, hcd, hCd⟩ := YtebjiimlcnmfpaaGreatW.PrintWords.Kd.N_reads (YtebjiimlcnmfpaaGreatW.PrintWords.Kd.R_N hRb); have Dc := hid hCc; have Dd := hid hCd; clear hRa hRb hCc hCd; have hZ4 := hid (Ext.trans hZa.out hx4); have PA4 := hid (PA.out.ext hx4); have hn4 := (Ext.refl w4).alloc (.cells #[.int .i64 q1, .bool q2, .slice Ac q3.length cc, .int .i64 q4, .int .i64 q5, .int .i64 q6, .slice Ad q7.length cd] 42); have hZ5 := hid (Ext.trans hZ4.out hn4); have hn5 := hid hn4; have P5 := hid (((P3.out.alloc (.cells #[.int .i64 q1, .bool q2, .slice Aa q3.length ca, .int .i64 q4, .int .i64 q5, .int .i64 q6, .slice Ab q7.length cb] 42)).ext hx4).alloc (.cells #[.int .i64 q1, .bool q2, .slice Ac q3.length cc, .int .i64 q4, .int .i64 q5, .int .i64 q6, .slice Ad q7.length cd] 42)); have PA5 := hid (PA4.out.alloc (.cells #[.int .i64 q1, .bool q2, .slice Ac q3.length cc, .int .i64 q4, .int .i64 q5, .int .i64 q6, .slice Ad q7.length cd] 42)); have hY5 := hid (hY4.alloc (.cells #[.int .i64 q1, .bool q2, .slice Ac q3.length cc, .int .i64 q4, .int .i64 q5, .int .i64 q6, .slice Ad q7.length cd] 42)); obtain ⟨⟨a0, a1, a2, a3, a4, a5, a6⟩, _⟩ := Blk.all7 PA5.out; obtain ⟨⟨b0, b1, b2, b3, b4, b5, b6⟩, _⟩ := Blk.all7 (Blk.new w4 42 #[.int .i64 q1, .bool q2, .slice Ac q3.length cc, .int .i64 q4, .int .i64 q5, .int .i64 q6, .slice Ad q7.length cd]))
    | (go_at_call 45; (with_reducible refine (r12_same _ q1 q2 Aa ca q3 q4 q5 q6 Ab cb q7 q1 q2 Ac cc q3 q4 q5 q6 Ad cd q7 (C_go Da.out hZ5.out) hca (C_go Db.out hZ5.out) hcb (C_go Dc.out hn5.out) hcc (C_go Dd.out hn5.out) hcd hQ.out.1 hQ.out.2 0 0).mono ?_); rw [sameV_self]; rintro e5 w5 ⟨rfl, hx5⟩; have hY6 : Ext w w5 := hY5.out.trans hx5; have P6 := hid (P5.out.ext hx5); have PA6 := hid (PA5.out.ext hx5); have Fa := hid (C_go Da.out (hZ5.out.trans hx5)); have Fb := hid (C_go Db.out (hZ5.out.trans hx5))))
  have G2 := hid (C_go hO2.out hY6)
  have G6 := hid (C_go hO6.out hY6)
  have hq : Hid (sameV (q1, q2, q3, q4, q5, q6, q7, q8) (q1, q2, q3, q4, q5, q6, q7, 0) = true) := hid (by unfold sameV; simp)
  have HR := hid (fun W (h : Ext w5 W) => r12_same W q1 q2 Aa ca q3 q4 q5 q6 Ab cb q7 x0 x1 A2 c2 x2 x3 x4 x5 A6 c6 x6 (C_go Fa.out h) hca (C_go Fb.out h) hcb (C_go G2.out h) hc2 (C_go G6.out h) hc6 hQ.out.1 hQ.out.2 q8 0)
  have HJ := hid (fun W (h : Ext w5 W) (y0 : Int) (y1 : Bool) (B2 : Option Addr) (d2 : Nat) (y2 : List Int) (y3 y4 y5 : Int) (B6 : Option Addr) (d6 : Nat) (y6 : List S24) (h2 : YtebjiimlcnmfpaaGreatW.PrintWords.Kd.C (YtebjiimlcnmfpaaGreatW.PrintWords.Kd.int .i64) w5 B2 y2.length y2) (h3 : y2.length ≤ d2) (h4 : YtebjiimlcnmfpaaGreatW.PrintWords.Kd.C k24 w5 B6 y6.length y6) (h5 : y6.length ≤ d6) (h6 : y2.length ≤ 140737488351232) (h7 : y6.length ≤ 140737488351232) =>
    judge_Same.calls q1 q2 Aa ca q3 q4 q5 q6 Ab cb q7 y0 y1 B2 d2 y2 y3 y4 y5 B6 d6 y6 _ W (C_go Fa.out h) hca (C_go Fb.out h) hcb (C_go h2 h) h3 (C_go h4 h) h5 (psame_f (q1, q2, q3, q4, q5, q6, q7, q8) (y0, y1, y2, y3, y4, y5, y6, 0) (by simp only; omega) (by simp only; omega) h6 h7))
  have hO : Hid (x2.length ≤ 140737488351232 ∧ x6.length ≤ 140737488351232) := hid ⟨by omega, by omega⟩
  have HC2 := hid hc2
  have HC6 := hid hc6
  have HCA := hid hca
  have HCB := hid hcb
  obtain ⟨⟨a0, a1, a2, a3, a4, a5, a6⟩, _⟩ := Blk.all7 PA6.out
  obtain ⟨⟨o0, o1, o2, o3, o4, o5, o6⟩, _⟩ := Blk.all7 P6.out
  replace a0 := cell_regrown a0
  replace a1 := cell_regrown a1
  replace a2 := cell_regrown a2
  replace a3 := cell_regrown a3
  replace a4 := cell_regrown a4
  replace a5 := cell_regrown a5
  replace a6 := cell_regrown a6
  replace o0 := cell_regrown o0
  replace o1 := cell_regrown o1
  replace o2 := cell_regrown o2
  replace o3 := cell_regrown o3
  replace o4 := cell_regrown o4
  replace o5 := cell_regrown o5
  replace o6 := cell_regrown o6
  refine wp_region_quiet_below (by kernel_rfl) (by kernel_rfl) ?_
  repeat (go_big_quiet_step (first
    | (go_at_call 46; exact Calls.regrown_of (HJ.out _ (below_regrown _ _ _) _ _ _ _ _ _ _ _ _ _ _ (by first | exact G2.out | exact Fa.out) (by first | exact HC2.out | exact HCA.out) (by first | exact G6.out | exact Fb.out) (by first | exact HC6.out | exact HCB.out) (by first | exact hO.out.1 | exact hQ.out.1) (by first | exact hO.out.2 | exact hQ.out.2)))
    | (go_at_call 45; exact Calls.regrown_of (HR.out _ (below_regrown _ _ _)))))
  refine wpQuiet_nil ?_
  intro _ hw'
  obtain ⟨⟨nq, osq⟩, hw''⟩ := hw'
  subst hw''
  have hx9 : Ext w _ := hY6.trans (below_regrown w5 nq osq)
  go_wp2
  go_ret
  exact ⟨ret_bool (by simp [hq.out]), hx9⟩
end
end Go.Proofs.YtebjiimlcnmfpaaGreatPr
end
