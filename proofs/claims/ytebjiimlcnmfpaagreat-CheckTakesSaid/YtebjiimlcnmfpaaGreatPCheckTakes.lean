/-
  The law CheckTakes, walked by hand: what chapter 12 makes is checked with OK.
-/
import Derived.Test.YtebjiimlcnmfpaaGreatPrCartouchelaw13Shown
import Derived.Test.YtebjiimlcnmfpaaGreatPrCartouchelaw13Few
import Derived.Test.YtebjiimlcnmfpaaGreatB16
import Derived.Test.YtebjiimlcnmfpaaGreatB30
import Derived.Test.YtebjiimlcnmfpaaGreatS26
set_option linter.unusedVariables false
set_option linter.unusedSimpArgs false
namespace Go.Proofs.YtebjiimlcnmfpaaGreatPr
open Go.Proofs.YtebjiimlcnmfpaaGreat
section
open Go Go.RowKit

theorem jS_light {xs : List S50} {lev : Int} (hS : ∀ y ∈ xs, EvS y) (h : (jS xs lev).2.2.2.2.2.2.2 = 0) : xs.length ≤ 256 ∧ (jS xs lev).2.2.1.length ≤ 256 ∧ (∀ y ∈ (jS xs lev).2.2.1, IntS y) ∧ (jS xs lev).2.2.2.2.2.2.1.length ≤ 525312 := by
  unfold jS at *
  by_cases c1 : lev < 1 ∨ lev > 2
  · rw [if_pos c1] at h; cases h
  rw [if_neg c1] at h ⊢
  by_cases hf : (formed (evs xs)).2 = 0
  · have hn : xs.length ≤ 256 := by have := (formed_wf hf).len; rwa [evs_len] at this
    rw [if_pos hf] at h ⊢
    unfold jokS at *
    cases hb : badsS xs with
    | cons b r => exact ⟨hn, by simp, fun y hy => (by cases hy), by simp⟩
    | nil =>
      cases ho : Rg.order fr_ to_ (stepsH lev xs) (nodesS (evs xs)) with
      | some o =>
        obtain ⟨g1, g2, _⟩ := Rg.order_some fr_ to_ ho
        have h1 := g1.length_le_of_subset (fun x hx => (g2 x).1 hx)
        have hnl := nodesS_len (evs xs)
        rw [evs_len] at hnl
        refine ⟨hn, by simp only; omega, fun y hy => ?_, by simp⟩
        obtain ⟨h1, h2, _⟩ := comOf_end (mem_nodes.1 ((g2 y).1 hy))
        obtain ⟨e, he, hel, het, _⟩ := endOf_place h1
        rw [evs_len] at hel
        rw [← het]
        exact txn_ok hS hel
      | none =>
        have hl := flat_len3 (Rg.ring fr_ to_ (stepsH lev xs)).1 (fun y hy => stepsH_two (Rg.ring_mem fr_ to_ (stepsH lev xs) y hy))
        have hrl := ring_len_le (stepsH lev xs)
        have hsl := stepsH_len2 lev xs hn
        exact ⟨hn, by simp, fun y hy => (by cases hy), by simp only; omega⟩
  · rw [if_neg hf] at h
    exact absurd h hf
end
section
open Go Go.RowKit Go.Proofs Go.Shelf
set_option linter.unusedSimpArgs false
set_option linter.unusedVariables false
attribute [local go_sem] Ext.alloc Ext.alloc2 Ext.alloc3 Ext.alloc4 Ext.drewN_alloc Ext.drewN_alloc2 Ext.drew_alloc Ext.drew Ext.drewN toList_beq
set_option maxRecDepth 100000 in
set_option maxHeartbeats 8000000 in
theorem h_CheckTakes (w : World) (A0 : Option Addr) (c0 : Nat) (l : List S50) (lev : Int) (hr0 : YtebjiimlcnmfpaaGreatW.PrintWords.Kd.C k50 w A0 l.length l) (hc0 : l.length ≤ c0) (hS : ∀ y ∈ l, EvS y) (hl : l.length * 48 ≤ 140737488351232) :
    Calls Tryz.prog 11 #[.slice A0 l.length c0, .int .i64 lev] w fun e w' => e = .returned (.bool true) ∧ Ext w w' := by
  obtain ⟨b, hb, hb2⟩ := few3_evt l (by omega)
  obtain ⟨kf, hkf⟩ := hb.rounds
  have HC := hid hr0
  have hX := Ext.refl w
  have hJ := hid (rjudge_f (xs := l) (lev := lev) (by omega) hS)
  have hK := hid (show (jS l lev).2.2.2.2.2.2.2 = 0 → check_Check.f l (jS l lev).1 (jS l lev).2.1 (jS l lev).2.2.1 (jS l lev).2.2.2.1 (jS l lev).2.2.2.2.1 (jS l lev).2.2.2.2.2.1 (jS l lev).2.2.2.2.2.2.1 = some 0 from fun hz => by
    obtain ⟨h0, h1, h2, h3⟩ := jS_light hS hz
    rw [check_f (by omega) hS (by omega) h2 (by omega), jS_ok hz])
  obtain ⟨q, hq⟩ : ∃ q, jS l lev = q := ⟨_, rfl⟩
  rw [hq] at hJ hK
  obtain ⟨q1, q2, q3, q4, q5, q6, q7, q8⟩ := q
  have hways : b = false ∨ (b = true ∧ (q8 != 0) = true) ∨ (b = true ∧ q8 = 0) := by
    cases b
    · simp
    · by_cases h : q8 = 0
      · simp [h]
      · simp [h]
  clear hb hb2 hq hS hr0
  go_enter Tryz.func11, Tryz.ntmps11
  rcases hways with rfl | ⟨rfl, h8⟩ | ⟨rfl, rfl⟩
  case' inl => skip
  case inr.inr =>
    have hKc := hid (hK.out rfl)
    go_wp2_with first
      | (go_at_call 36; (with_reducible refine (cartouchelaw13_shown.calls true _ shown13).mono ?_); rintro e1 w1 ⟨rfl, hx1⟩; have hY1 : Ext w w1 := hx1; have C1 := hid (C_go HC.out hY1))
      | (go_at_call 37; (with_reducible refine (cartouchelaw13_few.calls kf _ _ l _ _ C1.out hc0 hkf).mono ?_); rintro e2 w2 ⟨rfl, ⟨⟨nd, rfl⟩⟩⟩; have hY2 : Ext w (w1.drewN nd) := hY1.drewN nd)
      | (go_at_call 44; (with_reducible refine (cartoucheref12_Judge.calls A0 c0 l lev q1 q2 q3 q4 q5 q6 q7 _ _ (C_go HC.out hY2) hc0 hJ.out).mono ?_); rintro e3 w3 ⟨va, vb, rfl, hRa, hRb, hx3⟩; have hY3 : Ext w w3 := hY2.trans hx3; obtain ⟨Aa, ca, rfl, hca, hCa⟩ := YtebjiimlcnmfpaaGreatW.PrintWords.Kd.N_reads (YtebjiimlcnmfpaaGreatW.PrintWords.Kd.R_N hRa); obtain ⟨Ab, cb, rfl, hcb, hCb⟩ := YtebjiimlcnmfpaaGreatW.PrintWords.Kd.N_reads (YtebjiimlcnmfpaaGreatW.PrintWords.Kd.R_N hRb); clear hRa hRb; have hn3 := (Ext.refl w3).alloc (.cells #[.int .i64 q1, .bool q2, .slice Aa q3.length ca, .int .i64 q4, .int .i64 q5, .int .i64 q6, .slice Ab q7.length cb] 42); have hZ3 := hid hn3; have hY4 := hY3.alloc (.cells #[.int .i64 q1, .bool q2, .slice Aa q3.length ca, .int .i64 q4, .int .i64 q5, .int .i64 q6, .slice Ab q7.length cb] 42); have Da := hid hCa; have Db := hid hCb; have PA := hid (Blk.new w3 42 #[.int .i64 q1, .bool q2, .slice Aa q3.length ca, .int .i64 q4, .int .i64 q5, .int .i64 q6, .slice Ab q7.length cb]); clear hCa hCb; obtain ⟨⟨a0, a1, a2, a3, a4, a5, a6⟩, _⟩ := Blk.all7 PA.out)
      | (go_at_call 38; (with_reducible refine (check_Check.calls A0 c0 l q1 q2 Aa ca q3 q4 q5 q6 Ab cb q7 0 _ (C_go HC.out hY4) hc0 (C_go Da.out hZ3.out) hca (C_go Db.out hZ3.out) hcb hKc.out).mono ?_); rintro e5 w5 ⟨rfl, hx5⟩; have hY5 : Ext w w5 := hY4.trans hx5)
    go_ret
    exact ⟨rfl, hY5⟩
  all_goals
    go_wp2_with first
      | (go_at_call 36; (with_reducible refine (cartouchelaw13_shown.calls true _ shown13).mono ?_); rintro e1 w1 ⟨rfl, hx1⟩; have hY1 : Ext w w1 := hx1; have C1 := hid (C_go HC.out hY1))
      | (go_at_call 37; (with_reducible refine (cartouchelaw13_few.calls kf _ _ l _ _ C1.out hc0 hkf).mono ?_); rintro e2 w2 ⟨rfl, ⟨⟨nd, rfl⟩⟩⟩; have hY2 : Ext w (w1.drewN nd) := hY1.drewN nd)
      | (go_at_call 44; go_loud ((with_reducible refine (cartoucheref12_Judge.calls A0 c0 l lev q1 q2 q3 q4 q5 q6 q7 _ _ (C_go HC.out hY2) hc0 hJ.out).mono ?_); rintro e3 w3 ⟨va, vb, rfl, hRa, hRb, hx3⟩; have hY3 : Ext w w3 := hY2.trans hx3; obtain ⟨Aa, ca, rfl, hca, hCa⟩ := YtebjiimlcnmfpaaGreatW.PrintWords.Kd.N_reads (YtebjiimlcnmfpaaGreatW.PrintWords.Kd.R_N hRa); obtain ⟨Ab, cb, rfl, hcb, hCb⟩ := YtebjiimlcnmfpaaGreatW.PrintWords.Kd.N_reads (YtebjiimlcnmfpaaGreatW.PrintWords.Kd.R_N hRb); clear hRa hRb; have hn3 := (Ext.refl w3).alloc (.cells #[.int .i64 q1, .bool q2, .slice Aa q3.length ca, .int .i64 q4, .int .i64 q5, .int .i64 q6, .slice Ab q7.length cb] 42); have hZ3 := hid hn3; have hY4 := hY3.alloc (.cells #[.int .i64 q1, .bool q2, .slice Aa q3.length ca, .int .i64 q4, .int .i64 q5, .int .i64 q6, .slice Ab q7.length cb] 42); have Da := hid hCa; have Db := hid hCb; have PA := hid (Blk.new w3 42 #[.int .i64 q1, .bool q2, .slice Aa q3.length ca, .int .i64 q4, .int .i64 q5, .int .i64 q6, .slice Ab q7.length cb]); clear hCa hCb))
    go_ret
    exact ⟨rfl, hY4⟩
end
end Go.Proofs.YtebjiimlcnmfpaaGreatPr
