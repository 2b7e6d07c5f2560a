/-
  The law RingTurns, walked by hand.
-/
import Derived.Test.YtebjiimlcnmfpaaA22
import Derived.Lib.QuietBelow
set_option linter.unusedVariables false
set_option linter.unusedSimpArgs false
namespace Go.Proofs.YtebjiimlcnmfpaaPr
open Go.Proofs.Ytebjiimlcnmfpaa
section
open Go Go.RowKit Go.Proofs Go.Shelf Go.Sort
set_option linter.unusedSimpArgs false
set_option linter.unusedVariables false
attribute [local go_sem] Ext.alloc Ext.alloc2 Ext.alloc3 Ext.alloc4 Ext.drewN_alloc Ext.drewN_alloc2 Ext.drew_alloc Ext.drew Ext.drewN toList_beq
attribute [-go_sem] Builtin.append_

set_option maxRecDepth 100000 in
set_option maxHeartbeats 80000000 in
theorem turns (w : World) (A : Option Addr) (cap : Nat) (l : Stl) (n : Int) (hC : YtebjiimlcnmfpaaW.PrintWords.Kd.C k27 w A l.length l) (hcap : l.length ≤ cap) (hn : l.length * 40 ≤ 140737488351232) :
    Calls Try.prog 3 #[.slice A l.length cap, .int .i64 n] w fun e w' => e = .returned (.bool true) ∧ Ext w w' := by
  have hX := Ext.refl w
  have HC := hid hC
  clear hC
  obtain ⟨c, hc, hcc⟩ := closed_calls l (by omega)
  have HCC := hid hcc
  have hc' := hid hc
  clear hc hcc
  go_enter Try.func3, Try.ntmps3
  obtain ⟨L, hL, hS⟩ := both (Q := k27.K w) (fun x c hx => by
      obtain ⟨A2, c2, hc, _, _⟩ := k27_open hx
      exact ⟨A2, c2, hc⟩) HC.out (by omega)
  have HL := hid hL
  have HS := hid hS
  clear hL hS
  by_cases hs : (l.length : Int) ≤ 120
  · have hs' := hid (decide_eq_true hs)
    by_cases h0 : n < 0
    · go_wp2_with first
        | (go_at_call 6; refine (cartouchelaw11_shown.calls true _ shown11).mono ?_; rintro e w1 ⟨rfl, hx1⟩; have hX1 := hX.trans hx1)
        | (go_at_call 7; refine (cartouchelaw11_few.calls _ _ l _ _ (YtebjiimlcnmfpaaW.PrintWords.Kd.C_below HC.out hX1) hcap rfl).mono ?_; rintro e w2 ⟨rfl, ⟨⟨nd, rfl⟩⟩⟩; rw [hs'.out])
      go_ret
      exact ⟨rfl, (by repeat (first | assumption | apply Ext.alloc | apply Ext.drewN | apply Ext.drew | (refine Ext.setCell (by simp <;> omega) ?_ _)))⟩
    · obtain ⟨m, rfl⟩ : ∃ m : Nat, n = m := ⟨n.toNat, by omega⟩
      by_cases h1 : m < l.length
      · have h1' : (m : Int) < (l.length : Int) := by omega
        obtain ⟨b, o, rfl, q0, q1, q2⟩ := HS.out.opn (by omega)
        have sl1 := fun W => slice_lo W b o l.length cap m (by omega) (by omega)
        have sl2 := fun W => slice_hi W b o l.length cap m (by omega) (by omega)
        go_wp2_with first
        | (go_at_call 6; refine (cartouchelaw11_shown.calls true _ shown11).mono ?_; rintro e w1 ⟨rfl, hx1⟩; have hX1 := hX.trans hx1)
        | (go_at_call 7; refine (cartouchelaw11_few.calls _ _ l _ _ (YtebjiimlcnmfpaaW.PrintWords.Kd.C_below HC.out hX1) hcap rfl).mono ?_; rintro e w2 ⟨rfl, ⟨⟨nd, rfl⟩⟩⟩; rw [hs'.out])
        have hXW : Ext w ((w1.drewN (nd + 1)).alloc (.cells #[] 27)) := (by repeat (first | assumption | apply Ext.alloc | apply Ext.drewN | apply Ext.drew | (refine Ext.setCell (by simp <;> omega) ?_ _)))
        have hw1 := hX1.le
        have own0 : ((w1.drewN (nd + 1)).alloc (.cells #[] 27)).ownsRow w.heap.size 27 3 (.slice (some ⟨w1.heap.size, 0, none⟩) 0 0) ([] : List Stp).length (([] : List Stp).flatMap Stp.cs) :=
          ⟨rfl, .inr ⟨w1.heap.size, 0, #[], rfl, hw1, heap_alloc_new (w1.drewN (nd + 1)) _, Nat.le_refl _, by unfold maxLen; omega, rfl, rfl⟩⟩
        have hlen : (L.map Bth.s).length = l.length := by rw [← HL.out]; simp
        have hm1 : Hid ((snth (L.map Bth.s) m).fr = (sn l m).f0 ∧ (snth (L.map Bth.s) m).to_ = (sn l m).f1) := hid (by
          have hLm : m < L.length := by rw [← hlen] at h1; simpa using h1
          have e1 : snth (L.map Bth.s) m = (L[m]).s := by unfold snth; simp [List.getElem?_eq_getElem hLm]
          have e2 : sn l m = (L[m]).t := by rw [sn_get h1]; simp only [← HL.out, List.getElem_map]
          rw [e1, e2]
          exact ⟨(L[m]).hf, (L[m]).ht⟩)
        obtain ⟨v1, W1, run1, own1, hg1, _⟩ := app_more own0 (by simp; omega) (fun j u hj => hXW.cell (Stps.part HS.out m j u hj)) (n := l.length - m) (by simp [hlen]) (cap - m) (by simp; omega) 22
        have hX1' : Ext w W1 := Ext.grown hXW hg1 (own_block own0)
        obtain ⟨v2, W2, run2, own2, hg2, _⟩ := app_more own1 (by have := hX1'.le; omega) (fun j u hj => hX1'.cell (Stps.fore HS.out m j u hj)) (n := m) (by simp [hlen]; omega) cap (by simp [hlen]; omega) 22
        have hX2 : Ext w W2 := Ext.grown hX1' hg2 (own_block own1)
        have hk : [] ++ (L.map Bth.s).drop m ++ (L.map Bth.s).take m = (L.drop m ++ L.take m).map Bth.s := by simp
        rw [hk] at own2
        obtain ⟨A2, c2, rfl, hc2, hA2, hC2⟩ := bth_row hX2 _ own2
        have hk2 : (L.drop m ++ L.take m).map Bth.t = l.drop m ++ l.take m := by rw [← HL.out]; simp
        obtain ⟨l', hl'⟩ : ∃ l', l.drop m ++ l.take m = l' := ⟨_, rfl⟩
        have HL' := hid hl'
        rw [hl'] at hk2
        rw [hk2] at hc2 hC2 hA2
        simp only [hk2] at run2
        have hll : l'.length = l.length := by rw [← hl']; simp; omega
        obtain ⟨ck, hck, hckc⟩ := closed_calls l' (by omega)
        simp only [hll] at hc2 hC2 hckc run2 hA2
        obtain ⟨g, rfl⟩ := hA2 (by omega)
        have HC2 := hid hC2
        have hcc : ck = c := by
          rw [Bool.eq_iff_iff, hck, hc'.out, ← hl']
          constructor
          · intro h
            have := Rg.closed_rot fr_ to_ h
            rwa [List.take_append_drop] at this
          · intro h
            exact Rg.closed_rot fr_ to_ (by rw [List.take_append_drop]; exact h)
        subst hcc
        have hck' := hid hck
        have HCK := hid hckc
        clear own0 own1 own2 hg1 hg2 hk hk2 hC2 hXW hX1' hckc hlen hl' hck
        go_region_law (fail)
        all_goals
          have C1 := hid (YtebjiimlcnmfpaaW.PrintWords.Kd.C_below HC.out hX2)
          go_wp2_with first
            | (go_at_call 8; (with_reducible refine (HCC.out _ _ _ C1.out hcap).mono ?_); rintro e W3 ⟨rfl, hx3⟩; have hX3 := hX2.trans hx3; have C2 := hid (YtebjiimlcnmfpaaW.PrintWords.Kd.C_below HC2.out hx3))
            | (go_at_call 8; (with_reducible refine (HCK.out _ _ _ C2.out hc2).mono ?_); rintro e W4 ⟨rfl, hx4⟩; have hX4 := hX3.trans hx4)
          have C4 := hid (YtebjiimlcnmfpaaW.PrintWords.Kd.C_below HC.out hX4)
          have d0 := cell_regrown (q0 W4 m hX4 h1)
          have d1 := cell_regrown (q1 W4 m hX4 h1)
          rw [hm1.out.1] at d0
          rw [hm1.out.2] at d1
          clear run1 run2 sl1 sl2 C1 C2 HS HL hx1 hX1 hw1
          cases ck
          · clear hA2 HL' hc2 HC2 HCK hll hX2 hX3 d0 d1 hc' hn hs hs' h0 h1' hck' q0 q1 q2
            refine wp_region_quiet_below (by kernel_rfl) (by kernel_rfl) ?_
            repeat (go_big_quiet_step (first | (go_at_call 8; exact Calls.regrown_of (HCC.out _ _ _ (YtebjiimlcnmfpaaW.PrintWords.Kd.C_below C4.out (below_regrown _ _ _)) hcap))))
            refine wpQuiet_nil ?_
            intro _ hw'
            obtain ⟨⟨nq, osq⟩, hw''⟩ := hw'
            subst hw''
            have hx5 : Ext W4 (grow (redrawn W4 nq) osq) := below_regrown W4 nq osq
            have hX5 := hX4.trans hx5
            all_goals
              go_wp2
              go_ret
              exact ⟨rfl, hX5⟩
          · by_cases hl2 : (l.length : Int) < 2
            · clear hA2 HL' hc2 HC2 HCK hll hX2 hX3 d0 d1 hc' hn hs hs' h0 h1' hck' q0 q1 q2
              refine wp_region_quiet_below (by kernel_rfl) (by kernel_rfl) ?_
              repeat (go_big_quiet_step (first | (go_at_call 8; exact Calls.regrown_of (HCC.out _ _ _ (YtebjiimlcnmfpaaW.PrintWords.Kd.C_below C4.out (below_regrown _ _ _)) hcap))))
              refine wpQuiet_nil ?_
              intro _ hw'
              obtain ⟨⟨nq, osq⟩, hw''⟩ := hw'
              subst hw''
              have hx5 : Ext W4 (grow (redrawn W4 nq) osq) := below_regrown W4 nq osq
              have hX5 := hX4.trans hx5
              all_goals
                go_wp2
                go_ret
                exact ⟨rfl, hX5⟩
            · by_cases hft : (sn l m).f0 = (sn l m).f1
              · rw [hft] at d0 hm1
                clear hA2 HL' hc2 HC2 HCK hll hX2 hX3 hc' hn hs hs' h0 h1' hck' q2
                refine wp_region_quiet_below (by kernel_rfl) (by kernel_rfl) ?_
                repeat (go_big_quiet_step (first | (go_at_call 8; exact Calls.regrown_of (HCC.out _ _ _ (YtebjiimlcnmfpaaW.PrintWords.Kd.C_below C4.out (below_regrown _ _ _)) hcap))))
                refine wpQuiet_nil ?_
                intro _ hw'
                obtain ⟨⟨nq, osq⟩, hw''⟩ := hw'
                subst hw''
                have hx5 : Ext W4 (grow (redrawn W4 nq) osq) := below_regrown W4 nq osq
                have hX5 := hX4.trans hx5
                all_goals
                  go_wp2
                  go_ret
                  exact ⟨rfl, hX5⟩
              · obtain ⟨tl, htl⟩ : ∃ tl, l.drop (m + 1) ++ l.take m = tl := ⟨_, rfl⟩
                have hl'2 : l' = sn l m :: tl := by rw [← HL'.out, sn_drop h1, List.cons_append, htl]
                have htll : tl.length = l.length - 1 := by rw [← hll, hl'2]; simp
                obtain ⟨c3, hc3, hcc3⟩ := closed_calls tl (by omega)
                have hc3f : c3 = false := by
                  cases c3 with
                  | false => rfl
                  | true => exact absurd (hc3.1 rfl) (Rg.closed_tail fr_ to_ (s := sn l m) (by rw [← hl'2]; exact hck'.out.1 rfl) hft)
                subst hc3f
                rw [htll] at hcc3
                have HC3 := hid hcc3
                have hcap3 : l.length - 1 ≤ c2 - 1 := by omega
                have HC2' : Hid (YtebjiimlcnmfpaaW.PrintWords.Kd.C k27 W2 (some ⟨g, 0, none⟩) l.length (sn l m :: tl)) := hid (by rw [← hl'2]; exact HC2.out)
                have hx24 : Ext W2 W4 := hx3.trans hx4
                have HT : Hid (∀ W5, Ext W4 W5 → YtebjiimlcnmfpaaW.PrintWords.Kd.C k27 W5 (some ⟨g, 3, none⟩) (l.length - 1) tl) := hid (fun W5 hx5 => by
                  have := C_tail (YtebjiimlcnmfpaaW.PrintWords.Kd.C_below HC2'.out (hx24.trans hx5))
                  rw [htll, Nat.zero_add] at this
                  exact this)
                have sl3 : ∀ W, (Instr.slice 22 (.slice (some ⟨g, 0, none⟩) l.length c2) (some (.int .i64 1)) none none).run Try.prog W = .ok (.slice (some ⟨g, 3, none⟩) (l.length - 1) (c2 - 1)) W := fun W => by
                  have := slice_lo W g 0 l.length c2 1 (by omega) (by omega)
                  simpa using this
                clear hA2 HL' HC2 HC2' HCK hll hX2 hX3 hc' hn hs hs' h0 h1' hck' q2 hl'2 htll hcc3 hc3 hx24
                refine wp_region_quiet_below (by kernel_rfl) (by kernel_rfl) ?_
                repeat (go_big_quiet_step (first | (go_at_call 8; exact Calls.regrown_of (HCC.out _ _ _ (YtebjiimlcnmfpaaW.PrintWords.Kd.C_below C4.out (below_regrown _ _ _)) hcap))))
                refine wpQuiet_nil ?_
                intro _ hw'
                obtain ⟨⟨nq, osq⟩, hw''⟩ := hw'
                subst hw''
                have hx5 : Ext W4 (grow (redrawn W4 nq) osq) := below_regrown W4 nq osq
                have hX5 := hX4.trans hx5
                all_goals
                  have T5 := hid (HT.out _ hx5)
                  go_wp2_with (go_at_call 8; (with_reducible refine (HC3.out _ _ _ T5.out hcap3).mono ?_); rintro e W6 ⟨rfl, hx6⟩; have hX6 := hX5.trans hx6)
                  go_ret
                  exact ⟨rfl, hX6⟩
      · have h1' : (l.length : Int) ≤ (m : Int) := by omega
        go_wp2_with first
        | (go_at_call 6; refine (cartouchelaw11_shown.calls true _ shown11).mono ?_; rintro e w1 ⟨rfl, hx1⟩; have hX1 := hX.trans hx1)
        | (go_at_call 7; refine (cartouchelaw11_few.calls _ _ l _ _ (YtebjiimlcnmfpaaW.PrintWords.Kd.C_below HC.out hX1) hcap rfl).mono ?_; rintro e w2 ⟨rfl, ⟨⟨nd, rfl⟩⟩⟩; rw [hs'.out])
        go_ret
        exact ⟨rfl, (by repeat (first | assumption | apply Ext.alloc | apply Ext.drewN | apply Ext.drew | (refine Ext.setCell (by simp <;> omega) ?_ _)))⟩
  · have hs' := hid (decide_eq_false hs)
    go_wp2_with first
        | (go_at_call 6; refine (cartouchelaw11_shown.calls true _ shown11).mono ?_; rintro e w1 ⟨rfl, hx1⟩; have hX1 := hX.trans hx1)
        | (go_at_call 7; refine (cartouchelaw11_few.calls _ _ l _ _ (YtebjiimlcnmfpaaW.PrintWords.Kd.C_below HC.out hX1) hcap rfl).mono ?_; rintro e w2 ⟨rfl, ⟨⟨nd, rfl⟩⟩⟩; rw [hs'.out])
    go_ret
    exact ⟨rfl, (by repeat (first | assumption | apply Ext.alloc | apply Ext.drewN | apply Ext.drew | (refine Ext.setCell (by simp <;> omega) ?_ _)))⟩
end
end Go.Proofs.YtebjiimlcnmfpaaPr
