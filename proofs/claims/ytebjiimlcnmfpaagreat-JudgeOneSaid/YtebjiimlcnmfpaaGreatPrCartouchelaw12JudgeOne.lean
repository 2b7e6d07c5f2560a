/- Contracts of Go functions, printed by a program of this session over the translation: each call answers what its Lean function says. -/
import Derived.Test.YtebjiimlcnmfpaaGreatPr0
import Derived.Test.YtebjiimlcnmfpaaGreatPrCartouchelaw12Few
import Derived.Test.YtebjiimlcnmfpaaGreatPrJudgeJudge
import Derived.Test.YtebjiimlcnmfpaaGreatB12
import Derived.Test.YtebjiimlcnmfpaaGreatB17
namespace Go.Proofs.YtebjiimlcnmfpaaGreatPr
open Go.RowKit Go.Proofs.YtebjiimlcnmfpaaGreatW.PrintWords Go.Proofs.YtebjiimlcnmfpaaGreatW.PrintLast Go.Proofs.YtebjiimlcnmfpaaGreatW.PrintMore
attribute [local go_sem] max2_int min2_int max_two min_two max_three min_three max_four min_four   -- for this text's walks alone
set_option linter.unusedVariables false
set_option linter.unusedSimpArgs false

/-! ### cartouchelaw12_JudgeOne: function 17 -/
mutual
def cartouchelaw12_JudgeOne.j0 : Nat → Bool → Int → Int → Bool → List Int → Int → Int → Int → List (S24) → Option (Bool)
  | 0, _, _, _, _, _, _, _, _, _ => none
  | k + 1, x5, x9, x705000, x705001, x705002, x705003, x705004, x705005, x705006 => if x705003 = 0 then (cartouchelaw12_JudgeOne.j1 k x5 x9 x705000 x705001 x705002 x705003 x705004 x705005 x705006) else (cartouchelaw12_JudgeOne.j1 k x5 (wrap64 (x9 + 1)) x705000 x705001 x705002 x705003 x705004 x705005 x705006)
def cartouchelaw12_JudgeOne.j1 : Nat → Bool → Int → Int → Bool → List Int → Int → Int → Int → List (S24) → Option (Bool)
  | 0, _, _, _, _, _, _, _, _, _ => none
  | k + 1, x5, x9, x705000, x705001, x705002, x705003, x705004, x705005, x705006 => if (x705006.length : Int) > 0 then (if x5 = true then (if (wrap64 (x9 + 1)) = 1 then (if x705001 = true then (some true) else (some ((x705002.length : Int) == 0))) else (some false)) else (some false)) else (if x5 = true then (if x9 = 1 then (if x705001 = true then (some true) else (some ((x705002.length : Int) == 0))) else (some false)) else (some false))
end
def cartouchelaw12_JudgeOne.f (k : Nat) (l0 : List (S50)) (a1 : Int) : Option (Bool) := (cartouchelaw12_shown.f).bind fun t690 => ((cartouchelaw12_few.f l0).bind fun t691 => (if t691 = true then ((judge_Judge.f k l0 a1).bind fun bt692 => (if bt692.2.2.2.2.2.2.2 = 0 then (if bt692.2.1 = true then (cartouchelaw12_JudgeOne.j0 k t690 (0 + 1) bt692.1 bt692.2.1 bt692.2.2.1 bt692.2.2.2.1 bt692.2.2.2.2.1 bt692.2.2.2.2.2.1 bt692.2.2.2.2.2.2.1) else (cartouchelaw12_JudgeOne.j0 k t690 0 bt692.1 bt692.2.1 bt692.2.2.1 bt692.2.2.2.1 bt692.2.2.2.2.1 bt692.2.2.2.2.2.1 bt692.2.2.2.2.2.2.1)) else (if t690 = true then ((judge_Same.f bt692.1 bt692.2.1 bt692.2.2.1 bt692.2.2.2.1 bt692.2.2.2.2.1 bt692.2.2.2.2.2.1 bt692.2.2.2.2.2.2.1 0 false ([] : List Int) 0 0 0 ([] : List (S24))).bind fun t705 => (some t705)) else (some false)))) else (some t690)))
theorem cartouchelaw12_JudgeOne.mono_l : ∀ k, (∀ y0 y1 y2 y3 y4 y5 y6 y7 y8, LeO (cartouchelaw12_JudgeOne.j0 k y0 y1 y2 y3 y4 y5 y6 y7 y8) (cartouchelaw12_JudgeOne.j0 (k + 1) y0 y1 y2 y3 y4 y5 y6 y7 y8)) ∧ (∀ y0 y1 y2 y3 y4 y5 y6 y7 y8, LeO (cartouchelaw12_JudgeOne.j1 k y0 y1 y2 y3 y4 y5 y6 y7 y8) (cartouchelaw12_JudgeOne.j1 (k + 1) y0 y1 y2 y3 y4 y5 y6 y7 y8))
  | 0 => ⟨fun _ _ _ _ _ _ _ _ _ r h => by simp [cartouchelaw12_JudgeOne.j0] at h, fun _ _ _ _ _ _ _ _ _ r h => by simp [cartouchelaw12_JudgeOne.j1] at h⟩
  | k + 1 => by
    obtain ⟨ih0, ih1⟩ := cartouchelaw12_JudgeOne.mono_l k
    refine ⟨?_, ?_⟩
    · intro y0 y1 y2 y3 y4 y5 y6 y7 y8
      unfold cartouchelaw12_JudgeOne.j0
      repeat' first
      | (with_reducible exact ih0 _ _ _ _ _ _ _ _ _)
      | (with_reducible exact ih1 _ _ _ _ _ _ _ _ _)
      | (with_reducible exact judge_Judge.mono _ _ _)
      | (with_reducible exact LeO.refl _)
      | (with_reducible exact LeO.none _)
      | (with_reducible refine LeO.ite ?_ ?_)
      | (with_reducible refine LeO.bind ?_ (fun _ => ?_))
      | exact ih0 _ _ _ _ _ _ _ _ _
      | exact ih1 _ _ _ _ _ _ _ _ _
      | exact judge_Judge.mono _ _ _
      | exact LeO.none _
      | refine LeO.ite ?_ ?_
      | refine LeO.bind ?_ (fun _ => ?_)
    · intro y0 y1 y2 y3 y4 y5 y6 y7 y8
      unfold cartouchelaw12_JudgeOne.j1
      repeat' first
      | (with_reducible exact ih0 _ _ _ _ _ _ _ _ _)
      | (with_reducible exact ih1 _ _ _ _ _ _ _ _ _)
      | (with_reducible exact judge_Judge.mono _ _ _)
      | (with_reducible exact LeO.refl _)
      | (with_reducible exact LeO.none _)
      | (with_reducible refine LeO.ite ?_ ?_)
      | (with_reducible refine LeO.bind ?_ (fun _ => ?_))
      | exact ih0 _ _ _ _ _ _ _ _ _
      | exact ih1 _ _ _ _ _ _ _ _ _
      | exact judge_Judge.mono _ _ _
      | exact LeO.none _
      | refine LeO.ite ?_ ?_
      | refine LeO.bind ?_ (fun _ => ?_)
theorem cartouchelaw12_JudgeOne.mono : ∀ a0 a1 k, LeO (cartouchelaw12_JudgeOne.f k a0 a1) (cartouchelaw12_JudgeOne.f (k + 1) a0 a1) := by
  intro a0 a1 k
  obtain ⟨ih0, ih1⟩ := cartouchelaw12_JudgeOne.mono_l k
  unfold cartouchelaw12_JudgeOne.f
  repeat' first
      | (with_reducible exact ih0 _ _ _ _ _ _ _ _ _)
      | (with_reducible exact ih1 _ _ _ _ _ _ _ _ _)
      | (with_reducible exact judge_Judge.mono _ _ _)
      | (with_reducible exact LeO.refl _)
      | (with_reducible exact LeO.none _)
      | (with_reducible refine LeO.ite ?_ ?_)
      | (with_reducible refine LeO.bind ?_ (fun _ => ?_))
      | exact ih0 _ _ _ _ _ _ _ _ _
      | exact ih1 _ _ _ _ _ _ _ _ _
      | exact judge_Judge.mono _ _ _
      | exact LeO.none _
      | refine LeO.ite ?_ ?_
      | refine LeO.bind ?_ (fun _ => ?_)
set_option maxHeartbeats 8000000 in
set_option maxRecDepth 100000 in
theorem cartouchelaw12_JudgeOne.calls (k : Nat) (A0 : Option Addr) (c0 : Nat) (l0 : List (S50)) (a1 : Int) (r : Bool) (w : World) (hr0 : Kd.C k50 w A0 l0.length l0) (hc0 : l0.length ≤ c0) (h : cartouchelaw12_JudgeOne.f k l0 a1 = some r) :
    Calls Tryz.prog 17 #[.slice A0 l0.length c0, .int .i64 a1] w fun e w' => e = .returned (.bool r) ∧ Below w.heap.size w w' := by
  have hu42 := Tryz.underlying42
  have HR0 := Aside0.mk hr0
  have HC0 := Aside0.mk hc0
  clear hr0 hc0
  have HB := Aside0.mk (Below.refl w.heap.size w)
  have H : ((cartouchelaw12_shown.f).bind fun t690 => ((cartouchelaw12_few.f l0).bind fun t691 => (if t691 = true then ((judge_Judge.f k l0 a1).bind fun bt692 => (if bt692.2.2.2.2.2.2.2 = 0 then (if bt692.2.1 = true then (cartouchelaw12_JudgeOne.j0 k t690 (0 + 1) bt692.1 bt692.2.1 bt692.2.2.1 bt692.2.2.2.1 bt692.2.2.2.2.1 bt692.2.2.2.2.2.1 bt692.2.2.2.2.2.2.1) else (cartouchelaw12_JudgeOne.j0 k t690 0 bt692.1 bt692.2.1 bt692.2.2.1 bt692.2.2.2.1 bt692.2.2.2.2.1 bt692.2.2.2.2.2.1 bt692.2.2.2.2.2.2.1)) else (if t690 = true then ((judge_Same.f bt692.1 bt692.2.1 bt692.2.2.1 bt692.2.2.2.1 bt692.2.2.2.2.1 bt692.2.2.2.2.2.1 bt692.2.2.2.2.2.2.1 0 false ([] : List Int) 0 0 0 ([] : List (S24))).bind fun t705 => (some t705)) else (some false)))) else (some t690)))) = some r := h
  clear h
  replace H := Option.bind_eq_some_iff.mp H
  obtain ⟨t690, A30, H⟩ := H
  replace H : ((cartouchelaw12_few.f l0).bind fun t691 => (if t691 = true then ((judge_Judge.f k l0 a1).bind fun bt692 => (if bt692.2.2.2.2.2.2.2 = 0 then (if bt692.2.1 = true then (cartouchelaw12_JudgeOne.j0 k t690 (0 + 1) bt692.1 bt692.2.1 bt692.2.2.1 bt692.2.2.2.1 bt692.2.2.2.2.1 bt692.2.2.2.2.2.1 bt692.2.2.2.2.2.2.1) else (cartouchelaw12_JudgeOne.j0 k t690 0 bt692.1 bt692.2.1 bt692.2.2.1 bt692.2.2.2.1 bt692.2.2.2.2.1 bt692.2.2.2.2.2.1 bt692.2.2.2.2.2.2.1)) else (if t690 = true then ((judge_Same.f bt692.1 bt692.2.1 bt692.2.2.1 bt692.2.2.2.1 bt692.2.2.2.2.1 bt692.2.2.2.2.2.1 bt692.2.2.2.2.2.2.1 0 false ([] : List Int) 0 0 0 ([] : List (S24))).bind fun t705 => (some t705)) else (some false)))) else (some t690))) = some r := H
  have A3 := Aside0.mk A30
  clear A30
  replace H := Option.bind_eq_some_iff.mp H
  obtain ⟨t691, A40, H⟩ := H
  replace H : (if t691 = true then ((judge_Judge.f k l0 a1).bind fun bt692 => (if bt692.2.2.2.2.2.2.2 = 0 then (if bt692.2.1 = true then (cartouchelaw12_JudgeOne.j0 k t690 (0 + 1) bt692.1 bt692.2.1 bt692.2.2.1 bt692.2.2.2.1 bt692.2.2.2.2.1 bt692.2.2.2.2.2.1 bt692.2.2.2.2.2.2.1) else (cartouchelaw12_JudgeOne.j0 k t690 0 bt692.1 bt692.2.1 bt692.2.2.1 bt692.2.2.2.1 bt692.2.2.2.2.1 bt692.2.2.2.2.2.1 bt692.2.2.2.2.2.2.1)) else (if t690 = true then ((judge_Same.f bt692.1 bt692.2.1 bt692.2.2.1 bt692.2.2.2.1 bt692.2.2.2.2.1 bt692.2.2.2.2.2.1 bt692.2.2.2.2.2.2.1 0 false ([] : List Int) 0 0 0 ([] : List (S24))).bind fun t705 => (some t705)) else (some false)))) else (some t690)) = some r := H
  have A4 := Aside0.mk A40
  clear A40
  by_cases c5 : t691 = true
  · subst c5
    have H1 : ((judge_Judge.f k l0 a1).bind fun bt692 => (if bt692.2.2.2.2.2.2.2 = 0 then (if bt692.2.1 = true then (cartouchelaw12_JudgeOne.j0 k t690 (0 + 1) bt692.1 bt692.2.1 bt692.2.2.1 bt692.2.2.2.1 bt692.2.2.2.2.1 bt692.2.2.2.2.2.1 bt692.2.2.2.2.2.2.1) else (cartouchelaw12_JudgeOne.j0 k t690 0 bt692.1 bt692.2.1 bt692.2.2.1 bt692.2.2.2.1 bt692.2.2.2.2.1 bt692.2.2.2.2.2.1 bt692.2.2.2.2.2.2.1)) else (if t690 = true then ((judge_Same.f bt692.1 bt692.2.1 bt692.2.2.1 bt692.2.2.2.1 bt692.2.2.2.2.1 bt692.2.2.2.2.2.1 bt692.2.2.2.2.2.2.1 0 false ([] : List Int) 0 0 0 ([] : List (S24))).bind fun t705 => (some t705)) else (some false)))) = some r := by rw [if_pos rfl] at H; exact H
    clear H
    have H := H1
    clear H1
    replace H := Option.bind_eq_some_iff.mp H
    obtain ⟨⟨t692, t693, t694, t697, t698, t699, t700, t703⟩, A60, H⟩ := H
    replace H : (if t703 = 0 then (if t693 = true then (cartouchelaw12_JudgeOne.j0 k t690 (0 + 1) t692 t693 t694 t697 t698 t699 t700) else (cartouchelaw12_JudgeOne.j0 k t690 0 t692 t693 t694 t697 t698 t699 t700)) else (if t690 = true then ((judge_Same.f t692 t693 t694 t697 t698 t699 t700 0 false ([] : List Int) 0 0 0 ([] : List (S24))).bind fun t705 => (some t705)) else (some false))) = some r := H
    have A6 := Aside0.mk A60
    clear A60
    by_cases c7 : t703 = 0
    · rw [if_pos c7] at H
      have c7b0 : (t703 == 0) = true := beq_iff_eq.mpr c7
      have c7b1 : (t703 != 0) = false := bne_eq_false_iff_eq.mpr c7
      clear c7
      have HC8 := Aside0.mk H
      clear H
      go_enter Tryz.func17, Tryz.ntmps17
      go_upto_if 31 with (first | ((with_reducible refine gate_callee (f := 28) rfl ?_); refine goesL_ (some 10) rfl rfl Tryz.func28 (by kernel_rfl) rfl #[] rfl (by (try simp only [List.map_toArray, List.map_cons, List.map_nil]); first | done | rfl | (simp only [List.length_drop, List.length_take]; rfl)) ?_; (with_reducible refine (cartouchelaw12_shown.calls  t690 _ A3.out).mono ?_); rintro e w9 ⟨rfl, hb⟩; refine ⟨_, rfl, ?_⟩; have n0_ := Aside0.mk (below_step (by repeat (first | (with_reducible first | exact HB.out | apply below_alloc | apply pw_below_drewN | apply below_drew1) | exact HB.out)) hb); clear HB; have HB := n0_; clear n0_; (try clear hb); (try clear hb2); (try clear hk); (try clear hi)) | ((with_reducible refine gate_callee (f := 31) rfl ?_); refine goesL_ (some 12) rfl rfl Tryz.func31 (by kernel_rfl) rfl #[.slice A0 l0.length c0] rfl (by (try simp only [List.map_toArray, List.map_cons, List.map_nil]); first | done | rfl | (simp only [List.length_drop, List.length_take]; rfl)) ?_; (with_reducible refine (cartouchelaw12_few.calls _ _ l0 true _ ?side1 ?side2 A4.out).mono ?_); (case side1 => repeat (first | exact (Kd.C_below HR0.out HB.out) | (with_reducible refine Kd.C_alloc ?_ _) | (with_reducible refine Kd.C_drewN ?_ _) | (with_reducible refine Kd.C_drew ?_))); (case side2 => exact HC0.out); rintro e w' ⟨rfl, ⟨nd, rfl⟩⟩; refine ⟨_, rfl, ?_⟩; (try (rw [drewN_self w9]; generalize hq_ : World.drewN w9 _ = w9; have n0_ : Aside0 (Below w.heap.size w w9) := ⟨by rw [← hq_]; exact (by repeat (first | (with_reducible first | exact HB.out | apply below_alloc | apply pw_below_drewN | apply below_drew1) | exact HB.out))⟩; clear HB hq_; have HB := n0_; clear n0_))) | ((with_reducible refine gate_callee (f := 33) rfl ?_); refine goesL_ (some 19) rfl rfl Tryz.func33 (by kernel_rfl) rfl #[.slice A0 l0.length c0, .int .i64 a1] rfl (by (try simp only [List.map_toArray, List.map_cons, List.map_nil]); first | done | rfl | (simp only [List.length_drop, List.length_take]; rfl)) ?_; (with_reducible refine (judge_Judge.calls k _ _ l0 a1 t692 t693 t694 t697 t698 t699 t700 t703 _ ?side1 ?side2 A6.out).mono ?_); (case side1 => repeat (first | exact (Kd.C_below HR0.out HB.out) | (with_reducible refine Kd.C_alloc ?_ _) | (with_reducible refine Kd.C_drewN ?_ _) | (with_reducible refine Kd.C_drew ?_))); (case side2 => exact HC0.out); rintro e w10 ⟨v695, v701, rfl, ho0, ho1, hb⟩; refine ⟨_, rfl, ?_⟩; have n0_ := Aside0.mk (Kd.R_lower ho0 (below_size (by repeat (first | (with_reducible first | exact HB.out | apply below_alloc | apply pw_below_drewN | apply below_drew1) | exact HB.out)))); have n1_ := Aside0.mk (Kd.R_lower ho1 (below_size (by repeat (first | (with_reducible first | exact HB.out | apply below_alloc | apply pw_below_drewN | apply below_drew1) | exact HB.out)))); have n2_ := Aside0.mk (below_step (by repeat (first | (with_reducible first | exact HB.out | apply below_alloc | apply pw_below_drewN | apply below_drew1) | exact HB.out)) hb); clear HB; have HO696 := n0_; have HO702 := n1_; have HB := n2_; clear n0_ n1_ n2_; (try clear hb); (try clear hb2); (try clear hk); (try clear hi); (try clear ho0); (try clear ho1)) | ((with_reducible refine gate_dst (N := 7) rfl ?_); (try (refine gate_guard (by rfl) ?_; dsimp only)); refine box_event ?hg (N := 7) ?hd (cs := #[.int .i64 0, .bool false, .slice none 0 0, .int .i64 0, .int .i64 0, .int .i64 0, .slice none 0 0]) (t := 42) ?hr ?_; (case hd => rfl); (case hg => rfl); (case hr => first | (go_simp; done) | (go_simp; rfl)); intro gb704 hg w11 hbox hb; have n0_ := Aside0.mk (Kd.R_below (by (with_reducible repeat (first | apply Kd.R_alloc | apply Kd.R_drewN | apply Kd.R_drew)); exact HO696.out) hb); have n1_ := Aside0.mk (Kd.R_below (by (with_reducible repeat (first | apply Kd.R_alloc | apply Kd.R_drewN | apply Kd.R_drew)); exact HO702.out) hb); have n2_ := Aside0.mk (below_step (by repeat (first | (with_reducible first | exact HB.out | apply below_alloc | apply pw_below_drewN | apply below_drew1) | exact HB.out)) hb); have n3_ := Aside0.mk (hbox); have n4_ := Aside0.mk ((by rw [hg]; exact (below_size (by repeat (first | (with_reducible first | exact HB.out | apply below_alloc | apply pw_below_drewN | apply below_drew1) | exact HB.out))) : w.heap.size ≤ gb704)); have n5_ := Aside0.mk ((by rw [hg]; exact (below_size (by repeat (first | (with_reducible first | exact HB.out | apply below_alloc | apply pw_below_drewN | apply below_drew1) | exact HB.out))) : w.heap.size ≤ gb704)); clear HO696; clear HO702; clear HB; have HO696 := n0_; have HO702 := n1_; have HB := n2_; have BK704 := n3_; have GW704 := n4_; have GE704 := n5_; clear n0_ n1_ n2_ n3_ n4_ n5_; clear hb hbox hg; have hcz12_0 : w11.cell? ⟨gb704, 0, none⟩ = some (.int .i64 0) := (blk_cell BK704.out 0).trans rfl; have hcz12_1 : w11.cell? ⟨gb704, 1, none⟩ = some (.bool false) := (blk_cell BK704.out 1).trans rfl; have hcz12_2 : w11.cell? ⟨gb704, 2, none⟩ = some (.slice none 0 0) := (blk_cell BK704.out 2).trans rfl; have hcz12_3 : w11.cell? ⟨gb704, 3, none⟩ = some (.int .i64 0) := (blk_cell BK704.out 3).trans rfl; have hcz12_4 : w11.cell? ⟨gb704, 4, none⟩ = some (.int .i64 0) := (blk_cell BK704.out 4).trans rfl; have hcz12_5 : w11.cell? ⟨gb704, 5, none⟩ = some (.int .i64 0) := (blk_cell BK704.out 5).trans rfl; have hcz12_6 : w11.cell? ⟨gb704, 6, none⟩ = some (.slice none 0 0) := (blk_cell BK704.out 6).trans rfl; have hfz12_0 := blk_frozen BK704.out 0; have hfz12_1 := blk_frozen BK704.out 1; have hfz12_2 := blk_frozen BK704.out 2; have hfz12_3 := blk_frozen BK704.out 3; have hfz12_4 := blk_frozen BK704.out 4; have hfz12_5 := blk_frozen BK704.out 5; have hfz12_6 := blk_frozen BK704.out 6; obtain ⟨Ao13, co13, eo13⟩ := Kd.R_slice HO696.out; subst eo13; obtain ⟨Ao14, co14, eo14⟩ := Kd.R_slice HO702.out; subst eo14))
      (try simp only [Act.put, List.setIfInBounds_toArray, List.set_cons_zero, List.set_cons_succ])
      go_cut [9] (fun v9 wc => ∃ (kq : Nat) (x9_7 : Int), v9 = .int .i64 x9_7 ∧ Aside0 (cartouchelaw12_JudgeOne.j0 kq t690 x9_7 t692 t693 t694 t697 t698 t699 t700 = some r) ∧ Aside0 (kq ≤ k) ∧ Aside0 (Kd.R (Kd.int .i64) 3 wc w.heap.size (fun _ => True) (.slice Ao13 t694.length co13) t694) ∧ Aside0 (Kd.R k24 24 wc w.heap.size (fun _ => True) (.slice Ao14 t700.length co14) t700) ∧ Aside0 (wc.heap[gb704]? = some (.cells #[.int .i64 t692, .bool t693, (.slice Ao13 t694.length co13), .int .i64 t697, .int .i64 t698, .int .i64 t699, (.slice Ao14 t700.length co14)] 42 (0, 0))) ∧ Aside0 (Below w.heap.size w wc))
      case first =>
        have H := HC8.out
        clear HC8
        by_cases c15 : t693 = true
        · subst c15
          have H1 : (cartouchelaw12_JudgeOne.j0 k t690 (0 + 1) t692 true t694 t697 t698 t699 t700) = some r := by rw [if_pos rfl] at H; exact H
          clear H
          have H := H1
          clear H1
          have H' := Aside0.mk H
          clear H
          go_wp2
          go_meet
          case rel => exact ⟨_, (0 + 1), (by first | rfl | (simp; done) | (simp [*]; done)), H', ⟨by first | omega | exact Nat.le_refl _⟩, ⟨by (with_reducible repeat (first | apply Kd.R_alloc | apply Kd.R_drewN | apply Kd.R_drew)); exact Kd.R_mono (Kd.R_far (p := ⟨gb704, 6, none⟩) (Kd.R_far (p := ⟨gb704, 5, none⟩) (Kd.R_far (p := ⟨gb704, 4, none⟩) (Kd.R_far (p := ⟨gb704, 3, none⟩) (Kd.R_far (p := ⟨gb704, 2, none⟩) (Kd.R_far (p := ⟨gb704, 1, none⟩) (Kd.R_far (p := ⟨gb704, 0, none⟩) (Kd.R_types HO696.out BK704.out (by decide)) (fun _ hk => hk.2) (.int .i64 t692)) (fun _ hk => hk.2) (.bool true)) (fun _ hk => hk.2) (.slice Ao13 t694.length co13)) (fun _ hk => hk.2) (.int .i64 t697)) (fun _ hk => hk.2) (.int .i64 t698)) (fun _ hk => hk.2) (.int .i64 t699)) (fun _ hk => hk.2) (.slice Ao14 t700.length co14)) (fun _ hk => trivial)⟩, ⟨by (with_reducible repeat (first | apply Kd.R_alloc | apply Kd.R_drewN | apply Kd.R_drew)); exact Kd.R_mono (Kd.R_far (p := ⟨gb704, 6, none⟩) (Kd.R_far (p := ⟨gb704, 5, none⟩) (Kd.R_far (p := ⟨gb704, 4, none⟩) (Kd.R_far (p := ⟨gb704, 3, none⟩) (Kd.R_far (p := ⟨gb704, 2, none⟩) (Kd.R_far (p := ⟨gb704, 1, none⟩) (Kd.R_far (p := ⟨gb704, 0, none⟩) (Kd.R_types HO702.out BK704.out (by decide)) (fun _ hk => hk.2) (.int .i64 t692)) (fun _ hk => hk.2) (.bool true)) (fun _ hk => hk.2) (.slice Ao13 t694.length co13)) (fun _ hk => hk.2) (.int .i64 t697)) (fun _ hk => hk.2) (.int .i64 t698)) (fun _ hk => hk.2) (.int .i64 t699)) (fun _ hk => hk.2) (.slice Ao14 t700.length co14)) (fun _ hk => trivial)⟩, ⟨by (with_reducible repeat (first | refine blk_drewN ?_ _ | refine blk_drew ?_ | refine blk_alloc ?_ _)); refine blk_put (cs := #[.int .i64 t692, .bool true, .slice Ao13 t694.length co13, .int .i64 t697, .int .i64 t698, .int .i64 t699, .slice none 0 0]) ?_ 6 _ rfl; (with_reducible repeat (first | refine blk_drewN ?_ _ | refine blk_drew ?_ | refine blk_alloc ?_ _)); refine blk_put (cs := #[.int .i64 t692, .bool true, .slice Ao13 t694.length co13, .int .i64 t697, .int .i64 t698, .int .i64 0, .slice none 0 0]) ?_ 5 _ rfl; (with_reducible repeat (first | refine blk_drewN ?_ _ | refine blk_drew ?_ | refine blk_alloc ?_ _)); refine blk_put (cs := #[.int .i64 t692, .bool true, .slice Ao13 t694.length co13, .int .i64 t697, .int .i64 0, .int .i64 0, .slice none 0 0]) ?_ 4 _ rfl; (with_reducible repeat (first | refine blk_drewN ?_ _ | refine blk_drew ?_ | refine blk_alloc ?_ _)); refine blk_put (cs := #[.int .i64 t692, .bool true, .slice Ao13 t694.length co13, .int .i64 0, .int .i64 0, .int .i64 0, .slice none 0 0]) ?_ 3 _ rfl; (with_reducible repeat (first | refine blk_drewN ?_ _ | refine blk_drew ?_ | refine blk_alloc ?_ _)); refine blk_put (cs := #[.int .i64 t692, .bool true, .slice none 0 0, .int .i64 0, .int .i64 0, .int .i64 0, .slice none 0 0]) ?_ 2 _ rfl; (with_reducible repeat (first | refine blk_drewN ?_ _ | refine blk_drew ?_ | refine blk_alloc ?_ _)); refine blk_put (cs := #[.int .i64 t692, .bool false, .slice none 0 0, .int .i64 0, .int .i64 0, .int .i64 0, .slice none 0 0]) ?_ 1 _ rfl; (with_reducible repeat (first | refine blk_drewN ?_ _ | refine blk_drew ?_ | refine blk_alloc ?_ _)); refine blk_put (cs := #[.int .i64 0, .bool false, .slice none 0 0, .int .i64 0, .int .i64 0, .int .i64 0, .slice none 0 0]) ?_ 0 _ rfl; (with_reducible repeat (first | refine blk_drewN ?_ _ | refine blk_drew ?_ | refine blk_alloc ?_ _)); exact BK704.out⟩, ⟨by repeat (first | (with_reducible first | exact HB.out | apply below_alloc | apply pw_below_drewN | apply below_drew1 | refine below_set ?_ GE704.out) | exact HB.out)⟩⟩
        · replace c15 := Bool.eq_false_iff.mpr c15
          subst c15
          have H1 : (cartouchelaw12_JudgeOne.j0 k t690 0 t692 false t694 t697 t698 t699 t700) = some r := by rw [if_neg (show ¬ (false = true) by decide)] at H; exact H
          clear H
          have H := H1
          clear H1
          have H' := Aside0.mk H
          clear H
          go_wp2
          go_meet
          case rel => exact ⟨_, (0), (by first | rfl | (simp; done) | (simp [*]; done)), H', ⟨by first | omega | exact Nat.le_refl _⟩, ⟨by (with_reducible repeat (first | apply Kd.R_alloc | apply Kd.R_drewN | apply Kd.R_drew)); exact Kd.R_mono (Kd.R_far (p := ⟨gb704, 6, none⟩) (Kd.R_far (p := ⟨gb704, 5, none⟩) (Kd.R_far (p := ⟨gb704, 4, none⟩) (Kd.R_far (p := ⟨gb704, 3, none⟩) (Kd.R_far (p := ⟨gb704, 2, none⟩) (Kd.R_far (p := ⟨gb704, 1, none⟩) (Kd.R_far (p := ⟨gb704, 0, none⟩) (Kd.R_types HO696.out BK704.out (by decide)) (fun _ hk => hk.2) (.int .i64 t692)) (fun _ hk => hk.2) (.bool false)) (fun _ hk => hk.2) (.slice Ao13 t694.length co13)) (fun _ hk => hk.2) (.int .i64 t697)) (fun _ hk => hk.2) (.int .i64 t698)) (fun _ hk => hk.2) (.int .i64 t699)) (fun _ hk => hk.2) (.slice Ao14 t700.length co14)) (fun _ hk => trivial)⟩, ⟨by (with_reducible repeat (first | apply Kd.R_alloc | apply Kd.R_drewN | apply Kd.R_drew)); exact Kd.R_mono (Kd.R_far (p := ⟨gb704, 6, none⟩) (Kd.R_far (p := ⟨gb704, 5, none⟩) (Kd.R_far (p := ⟨gb704, 4, none⟩) (Kd.R_far (p := ⟨gb704, 3, none⟩) (Kd.R_far (p := ⟨gb704, 2, none⟩) (Kd.R_far (p := ⟨gb704, 1, none⟩) (Kd.R_far (p := ⟨gb704, 0, none⟩) (Kd.R_types HO702.out BK704.out (by decide)) (fun _ hk => hk.2) (.int .i64 t692)) (fun _ hk => hk.2) (.bool false)) (fun _ hk => hk.2) (.slice Ao13 t694.length co13)) (fun _ hk => hk.2) (.int .i64 t697)) (fun _ hk => hk.2) (.int .i64 t698)) (fun _ hk => hk.2) (.int .i64 t699)) (fun _ hk => hk.2) (.slice Ao14 t700.length co14)) (fun _ hk => trivial)⟩, ⟨by (with_reducible repeat (first | refine blk_drewN ?_ _ | refine blk_drew ?_ | refine blk_alloc ?_ _)); refine blk_put (cs := #[.int .i64 t692, .bool false, .slice Ao13 t694.length co13, .int .i64 t697, .int .i64 t698, .int .i64 t699, .slice none 0 0]) ?_ 6 _ rfl; (with_reducible repeat (first | refine blk_drewN ?_ _ | refine blk_drew ?_ | refine blk_alloc ?_ _)); refine blk_put (cs := #[.int .i64 t692, .bool false, .slice Ao13 t694.length co13, .int .i64 t697, .int .i64 t698, .int .i64 0, .slice none 0 0]) ?_ 5 _ rfl; (with_reducible repeat (first | refine blk_drewN ?_ _ | refine blk_drew ?_ | refine blk_alloc ?_ _)); refine blk_put (cs := #[.int .i64 t692, .bool false, .slice Ao13 t694.length co13, .int .i64 t697, .int .i64 0, .int .i64 0, .slice none 0 0]) ?_ 4 _ rfl; (with_reducible repeat (first | refine blk_drewN ?_ _ | refine blk_drew ?_ | refine blk_alloc ?_ _)); refine blk_put (cs := #[.int .i64 t692, .bool false, .slice Ao13 t694.length co13, .int .i64 0, .int .i64 0, .int .i64 0, .slice none 0 0]) ?_ 3 _ rfl; (with_reducible repeat (first | refine blk_drewN ?_ _ | refine blk_drew ?_ | refine blk_alloc ?_ _)); refine blk_put (cs := #[.int .i64 t692, .bool false, .slice none 0 0, .int .i64 0, .int .i64 0, .int .i64 0, .slice none 0 0]) ?_ 2 _ rfl; (with_reducible repeat (first | refine blk_drewN ?_ _ | refine blk_drew ?_ | refine blk_alloc ?_ _)); refine blk_put (cs := #[.int .i64 t692, .bool false, .slice none 0 0, .int .i64 0, .int .i64 0, .int .i64 0, .slice none 0 0]) ?_ 1 _ rfl; (with_reducible repeat (first | refine blk_drewN ?_ _ | refine blk_drew ?_ | refine blk_alloc ?_ _)); refine blk_put (cs := #[.int .i64 0, .bool false, .slice none 0 0, .int .i64 0, .int .i64 0, .int .i64 0, .slice none 0 0]) ?_ 0 _ rfl; (with_reducible repeat (first | refine blk_drewN ?_ _ | refine blk_drew ?_ | refine blk_alloc ?_ _)); exact BK704.out⟩, ⟨by repeat (first | (with_reducible first | exact HB.out | apply below_alloc | apply pw_below_drewN | apply below_drew1 | refine below_set ?_ GE704.out) | exact HB.out)⟩⟩
      case rest =>
        clear HC8
        try clear c1
        try clear c2
        try clear p2
        try clear c3
        try clear c5
        try clear c7
        try clear c7b0
        try clear c7b1
        try clear c15
        try clear hcz12_0
        try clear hcz12_1
        try clear hcz12_2
        try clear hcz12_3
        try clear hcz12_4
        try clear hcz12_5
        try clear hcz12_6
        try clear hfz12_0
        try clear hfz12_1
        try clear hfz12_2
        try clear hfz12_3
        try clear hfz12_4
        try clear hfz12_5
        try clear hfz12_6
        obtain ⟨kq, x9_7, rfl, HA, HJ7, HO_705002, HO_705006, BK704, HB⟩ := hcut
        cases kq with
        | zero => exact absurd HA.out (by simp [cartouchelaw12_JudgeOne.j0])
        | succ kj7 =>
          have H := HA.out
          clear HA
          simp only [cartouchelaw12_JudgeOne.j0] at H
          have HC16 := Aside0.mk H
          clear H
          have hcz17_0 : wc.cell? ⟨gb704, 0, none⟩ = some (.int .i64 t692) := (blk_cell BK704.out 0).trans rfl
          have hcz17_1 : wc.cell? ⟨gb704, 1, none⟩ = some (.bool t693) := (blk_cell BK704.out 1).trans rfl
          have hcz17_2 : wc.cell? ⟨gb704, 2, none⟩ = some (.slice Ao13 t694.length co13) := (blk_cell BK704.out 2).trans rfl
          have hcz17_3 : wc.cell? ⟨gb704, 3, none⟩ = some (.int .i64 t697) := (blk_cell BK704.out 3).trans rfl
          have hcz17_4 : wc.cell? ⟨gb704, 4, none⟩ = some (.int .i64 t698) := (blk_cell BK704.out 4).trans rfl
          have hcz17_5 : wc.cell? ⟨gb704, 5, none⟩ = some (.int .i64 t699) := (blk_cell BK704.out 5).trans rfl
          have hcz17_6 : wc.cell? ⟨gb704, 6, none⟩ = some (.slice Ao14 t700.length co14) := (blk_cell BK704.out 6).trans rfl
          have hfz17_0 := blk_frozen BK704.out 0
          have hfz17_1 := blk_frozen BK704.out 1
          have hfz17_2 := blk_frozen BK704.out 2
          have hfz17_3 := blk_frozen BK704.out 3
          have hfz17_4 := blk_frozen BK704.out 4
          have hfz17_5 := blk_frozen BK704.out 5
          have hfz17_6 := blk_frozen BK704.out 6
          go_upto_if 37 with (fail)
          go_cut [9] (fun v9 wc => ∃ (kq : Nat) (x9_15 : Int), v9 = .int .i64 x9_15 ∧ Aside0 (cartouchelaw12_JudgeOne.j1 kq t690 x9_15 t692 t693 t694 t697 t698 t699 t700 = some r) ∧ Aside0 (kq ≤ kj7) ∧ Aside0 (Kd.R (Kd.int .i64) 3 wc w.heap.size (fun _ => True) (.slice Ao13 t694.length co13) t694) ∧ Aside0 (Kd.R k24 24 wc w.heap.size (fun _ => True) (.slice Ao14 t700.length co14) t700) ∧ Aside0 (wc.heap[gb704]? = some (.cells #[.int .i64 t692, .bool t693, (.slice Ao13 t694.length co13), .int .i64 t697, .int .i64 t698, .int .i64 t699, (.slice Ao14 t700.length co14)] 42 (0, 0))) ∧ Aside0 (Below w.heap.size w wc))
          case first =>
            have H := HC16.out
            clear HC16
            by_cases c18 : t697 = 0
            · rw [if_pos c18] at H
              have c18b0 : (t697 == 0) = true := beq_iff_eq.mpr c18
              have c18b1 : (t697 != 0) = false := bne_eq_false_iff_eq.mpr c18
              clear c18
              (first | rw [c18b0] | (simp only [i64_w, i32_w]; rw [c18b0]) | skip)
              have H' := Aside0.mk H
              clear H
              go_wp2
              go_meet
              case rel => exact ⟨_, (x9_7), (by first | rfl | (simp; done) | (simp [*]; done)), H', ⟨by have := HJ7.out; first | omega | exact Nat.le_refl _⟩, ⟨by (with_reducible repeat (first | apply Kd.R_alloc | apply Kd.R_drewN | apply Kd.R_drew)); exact HO_705002.out⟩, ⟨by (with_reducible repeat (first | apply Kd.R_alloc | apply Kd.R_drewN | apply Kd.R_drew)); exact HO_705006.out⟩, ⟨by (with_reducible repeat (first | refine blk_drewN ?_ _ | refine blk_drew ?_ | refine blk_alloc ?_ _)); exact BK704.out⟩, ⟨by repeat (first | (with_reducible first | exact HB.out | apply below_alloc | apply pw_below_drewN | apply below_drew1 | refine below_set ?_ GE704.out) | exact HB.out)⟩⟩
            · rw [if_neg c18] at H
              have c18b0 : (t697 == 0) = false := beq_eq_false_iff_ne.mpr c18
              have c18b1 : (t697 != 0) = true := bne_iff_ne.mpr c18
              (first | rw [c18b0] | (simp only [i64_w, i32_w]; rw [c18b0]) | skip)
              have H' := Aside0.mk H
              clear H
              go_wp2
              go_meet
              case rel => exact ⟨_, (wrap64 (x9_7 + 1)), (by first | rfl | (simp; done) | (simp [*]; done)), H', ⟨by have := HJ7.out; first | omega | exact Nat.le_refl _⟩, ⟨by (with_reducible repeat (first | apply Kd.R_alloc | apply Kd.R_drewN | apply Kd.R_drew)); exact HO_705002.out⟩, ⟨by (with_reducible repeat (first | apply Kd.R_alloc | apply Kd.R_drewN | apply Kd.R_drew)); exact HO_705006.out⟩, ⟨by (with_reducible repeat (first | refine blk_drewN ?_ _ | refine blk_drew ?_ | refine blk_alloc ?_ _)); exact BK704.out⟩, ⟨by repeat (first | (with_reducible first | exact HB.out | apply below_alloc | apply pw_below_drewN | apply below_drew1 | refine below_set ?_ GE704.out) | exact HB.out)⟩⟩
          case rest =>
            clear HC16
            try clear c1
            try clear c2
            try clear p2
            try clear c3
            try clear c5
            try clear p6
            try clear c7
            try clear c7b0
            try clear c7b1
            try clear c15
            try clear c17
            try clear c18
            try clear c18b0
            try clear c18b1
            try clear hcz12_0
            try clear hcz12_1
            try clear hcz12_2
            try clear hcz12_3
            try clear hcz12_4
            try clear hcz12_5
            try clear hcz12_6
            try clear hcz17_0
            try clear hcz17_1
            try clear hcz17_2
            try clear hcz17_3
            try clear hcz17_4
            try clear hcz17_5
            try clear hcz17_6
            try clear hfz12_0
            try clear hfz12_1
            try clear hfz12_2
            try clear hfz12_3
            try clear hfz12_4
            try clear hfz12_5
            try clear hfz12_6
            try clear hfz17_0
            try clear hfz17_1
            try clear hfz17_2
            try clear hfz17_3
            try clear hfz17_4
            try clear hfz17_5
            try clear hfz17_6
            try clear p2
            obtain ⟨kq, x9_15, rfl, HA, HJ15, HO_705002, HO_705006, BK704, HB⟩ := hcut
            cases kq with
            | zero => exact absurd HA.out (by simp [cartouchelaw12_JudgeOne.j1])
            | succ kj15 =>
              have H := HA.out
              clear HA
              simp only [cartouchelaw12_JudgeOne.j1] at H
              by_cases c19 : (t700.length : Int) > 0
              · rw [if_pos c19] at H
                have c19b0 : decide (0 < (t700.length : Int)) = true := decide_eq_true c19
                have c19b1 : decide (0 < t700.length) = true := decide_eq_true (by omega)
                clear c19
                by_cases c20 : t690 = true
                · subst c20
                  have H1 : (if (wrap64 (x9_15 + 1)) = 1 then (if t693 = true then (some true) else (some ((t694.length : Int) == 0))) else (some false)) = some r := by rw [if_pos rfl] at H; exact H
                  clear H
                  have H := H1
                  clear H1
                  by_cases c21 : (wrap64 (x9_15 + 1)) = 1
                  · rw [if_pos c21] at H
                    have c21b0 : ((wrap64 (x9_15 + 1)) == 1) = true := beq_iff_eq.mpr c21
                    have c21b1 : ((wrap64 (x9_15 + 1)) != 1) = false := bne_eq_false_iff_eq.mpr c21
                    clear c21
                    by_cases c22 : t693 = true
                    · subst c22
                      have H1 : (some true) = some r := by rw [if_pos rfl] at H; exact H
                      clear H
                      have H := H1
                      clear H1
                      obtain rfl := Option.some.inj H
                      have hcz23_0 : wc.cell? ⟨gb704, 0, none⟩ = some (.int .i64 t692) := (blk_cell BK704.out 0).trans rfl
                      have hcz23_1 : wc.cell? ⟨gb704, 1, none⟩ = some (.bool true) := (blk_cell BK704.out 1).trans rfl
                      have hcz23_2 : wc.cell? ⟨gb704, 2, none⟩ = some (.slice Ao13 t694.length co13) := (blk_cell BK704.out 2).trans rfl
                      have hcz23_3 : wc.cell? ⟨gb704, 3, none⟩ = some (.int .i64 t697) := (blk_cell BK704.out 3).trans rfl
                      have hcz23_4 : wc.cell? ⟨gb704, 4, none⟩ = some (.int .i64 t698) := (blk_cell BK704.out 4).trans rfl
                      have hcz23_5 : wc.cell? ⟨gb704, 5, none⟩ = some (.int .i64 t699) := (blk_cell BK704.out 5).trans rfl
                      have hcz23_6 : wc.cell? ⟨gb704, 6, none⟩ = some (.slice Ao14 t700.length co14) := (blk_cell BK704.out 6).trans rfl
                      have hfz23_0 := blk_frozen BK704.out 0
                      have hfz23_1 := blk_frozen BK704.out 1
                      have hfz23_2 := blk_frozen BK704.out 2
                      have hfz23_3 := blk_frozen BK704.out 3
                      have hfz23_4 := blk_frozen BK704.out 4
                      have hfz23_5 := blk_frozen BK704.out 5
                      have hfz23_6 := blk_frozen BK704.out 6
                      go_wp2
                      go_ret
                      exact ⟨by first | rfl | (simp [errW_none, errW_some] <;> rfl) | (simp [*, errW_none, errW_some] <;> rfl), by repeat (first | (with_reducible first | exact HB.out | apply below_alloc | apply pw_below_drewN | apply below_drew1 | refine below_set ?_ GE704.out) | exact HB.out)⟩
                    · replace c22 := Bool.eq_false_iff.mpr c22
                      subst c22
                      have H1 : (some ((t694.length : Int) == 0)) = some r := by rw [if_neg (show ¬ (false = true) by decide)] at H; exact H
                      clear H
                      have H := H1
                      clear H1
                      obtain rfl := Option.some.inj H
                      have hcz24_0 : wc.cell? ⟨gb704, 0, none⟩ = some (.int .i64 t692) := (blk_cell BK704.out 0).trans rfl
                      have hcz24_1 : wc.cell? ⟨gb704, 1, none⟩ = some (.bool false) := (blk_cell BK704.out 1).trans rfl
                      have hcz24_2 : wc.cell? ⟨gb704, 2, none⟩ = some (.slice Ao13 t694.length co13) := (blk_cell BK704.out 2).trans rfl
                      have hcz24_3 : wc.cell? ⟨gb704, 3, none⟩ = some (.int .i64 t697) := (blk_cell BK704.out 3).trans rfl
                      have hcz24_4 : wc.cell? ⟨gb704, 4, none⟩ = some (.int .i64 t698) := (blk_cell BK704.out 4).trans rfl
                      have hcz24_5 : wc.cell? ⟨gb704, 5, none⟩ = some (.int .i64 t699) := (blk_cell BK704.out 5).trans rfl
                      have hcz24_6 : wc.cell? ⟨gb704, 6, none⟩ = some (.slice Ao14 t700.length co14) := (blk_cell BK704.out 6).trans rfl
                      have hfz24_0 := blk_frozen BK704.out 0
                      have hfz24_1 := blk_frozen BK704.out 1
                      have hfz24_2 := blk_frozen BK704.out 2
                      have hfz24_3 := blk_frozen BK704.out 3
                      have hfz24_4 := blk_frozen BK704.out 4
                      have hfz24_5 := blk_frozen BK704.out 5
                      have hfz24_6 := blk_frozen BK704.out 6
                      go_wp2
                      go_ret
                      exact ⟨by first | rfl | (simp [errW_none, errW_some] <;> rfl) | (simp [*, errW_none, errW_some] <;> rfl), by repeat (first | (with_reducible first | exact HB.out | apply below_alloc | apply pw_below_drewN | apply below_drew1 | refine below_set ?_ GE704.out) | exact HB.out)⟩
                  · rw [if_neg c21] at H
                    have c21b0 : ((wrap64 (x9_15 + 1)) == 1) = false := beq_eq_false_iff_ne.mpr c21
                    have c21b1 : ((wrap64 (x9_15 + 1)) != 1) = true := bne_iff_ne.mpr c21
                    obtain rfl := Option.some.inj H
                    have hcz25_0 : wc.cell? ⟨gb704, 0, none⟩ = some (.int .i64 t692) := (blk_cell BK704.out 0).trans rfl
                    have hcz25_1 : wc.cell? ⟨gb704, 1, none⟩ = some (.bool t693) := (blk_cell BK704.out 1).trans rfl
                    have hcz25_2 : wc.cell? ⟨gb704, 2, none⟩ = some (.slice Ao13 t694.length co13) := (blk_cell BK704.out 2).trans rfl
                    have hcz25_3 : wc.cell? ⟨gb704, 3, none⟩ = some (.int .i64 t697) := (blk_cell BK704.out 3).trans rfl
                    have hcz25_4 : wc.cell? ⟨gb704, 4, none⟩ = some (.int .i64 t698) := (blk_cell BK704.out 4).trans rfl
                    have hcz25_5 : wc.cell? ⟨gb704, 5, none⟩ = some (.int .i64 t699) := (blk_cell BK704.out 5).trans rfl
                    have hcz25_6 : wc.cell? ⟨gb704, 6, none⟩ = some (.slice Ao14 t700.length co14) := (blk_cell BK704.out 6).trans rfl
                    have hfz25_0 := blk_frozen BK704.out 0
                    have hfz25_1 := blk_frozen BK704.out 1
                    have hfz25_2 := blk_frozen BK704.out 2
                    have hfz25_3 := blk_frozen BK704.out 3
                    have hfz25_4 := blk_frozen BK704.out 4
                    have hfz25_5 := blk_frozen BK704.out 5
                    have hfz25_6 := blk_frozen BK704.out 6
                    go_wp2
                    go_ret
                    exact ⟨by first | rfl | (simp [errW_none, errW_some] <;> rfl) | (simp [*, errW_none, errW_some] <;> rfl), by repeat (first | (with_reducible first | exact HB.out | apply below_alloc | apply pw_below_drewN | apply below_drew1 | refine below_set ?_ GE704.out) | exact HB.out)⟩
                · replace c20 := Bool.eq_false_iff.mpr c20
                  subst c20
                  have H1 : (some false) = some r := by rw [if_neg (show ¬ (false = true) by decide)] at H; exact H
                  clear H
                  have H := H1
                  clear H1
                  obtain rfl := Option.some.inj H
                  have hcz26_0 : wc.cell? ⟨gb704, 0, none⟩ = some (.int .i64 t692) := (blk_cell BK704.out 0).trans rfl
                  have hcz26_1 : wc.cell? ⟨gb704, 1, none⟩ = some (.bool t693) := (blk_cell BK704.out 1).trans rfl
                  have hcz26_2 : wc.cell? ⟨gb704, 2, none⟩ = some (.slice Ao13 t694.length co13) := (blk_cell BK704.out 2).trans rfl
                  have hcz26_3 : wc.cell? ⟨gb704, 3, none⟩ = some (.int .i64 t697) := (blk_cell BK704.out 3).trans rfl
                  have hcz26_4 : wc.cell? ⟨gb704, 4, none⟩ = some (.int .i64 t698) := (blk_cell BK704.out 4).trans rfl
                  have hcz26_5 : wc.cell? ⟨gb704, 5, none⟩ = some (.int .i64 t699) := (blk_cell BK704.out 5).trans rfl
                  have hcz26_6 : wc.cell? ⟨gb704, 6, none⟩ = some (.slice Ao14 t700.length co14) := (blk_cell BK704.out 6).trans rfl
                  have hfz26_0 := blk_frozen BK704.out 0
                  have hfz26_1 := blk_frozen BK704.out 1
                  have hfz26_2 := blk_frozen BK704.out 2
                  have hfz26_3 := blk_frozen BK704.out 3
                  have hfz26_4 := blk_frozen BK704.out 4
                  have hfz26_5 := blk_frozen BK704.out 5
                  have hfz26_6 := blk_frozen BK704.out 6
                  go_wp2
                  go_ret
                  exact ⟨by first | rfl | (simp [errW_none, errW_some] <;> rfl) | (simp [*, errW_none, errW_some] <;> rfl), by repeat (first | (with_reducible first | exact HB.out | apply below_alloc | apply pw_below_drewN | apply below_drew1 | refine below_set ?_ GE704.out) | exact HB.out)⟩
              · rw [if_neg c19] at H
                have c19b0 : decide (0 < (t700.length : Int)) = false := decide_eq_false c19
                have c19b1 : decide (0 < t700.length) = false := decide_eq_false (by omega)
                clear c19
                by_cases c27 : t690 = true
                · subst c27
                  have H1 : (if x9_15 = 1 then (if t693 = true then (some true) else (some ((t694.length : Int) == 0))) else (some false)) = some r := by rw [if_pos rfl] at H; exact H
                  clear H
                  have H := H1
                  clear H1
                  by_cases c28 : x9_15 = 1
                  · rw [if_pos c28] at H
                    have c28b0 : (x9_15 == 1) = true := beq_iff_eq.mpr c28
                    have c28b1 : (x9_15 != 1) = false := bne_eq_false_iff_eq.mpr c28
                    clear c28
                    by_cases c29 : t693 = true
                    · subst c29
                      have H1 : (some true) = some r := by rw [if_pos rfl] at H; exact H
                      clear H
                      have H := H1
                      clear H1
                      obtain rfl := Option.some.inj H
                      have hcz30_0 : wc.cell? ⟨gb704, 0, none⟩ = some (.int .i64 t692) := (blk_cell BK704.out 0).trans rfl
                      have hcz30_1 : wc.cell? ⟨gb704, 1, none⟩ = some (.bool true) := (blk_cell BK704.out 1).trans rfl
                      have hcz30_2 : wc.cell? ⟨gb704, 2, none⟩ = some (.slice Ao13 t694.length co13) := (blk_cell BK704.out 2).trans rfl
                      have hcz30_3 : wc.cell? ⟨gb704, 3, none⟩ = some (.int .i64 t697) := (blk_cell BK704.out 3).trans rfl
                      have hcz30_4 : wc.cell? ⟨gb704, 4, none⟩ = some (.int .i64 t698) := (blk_cell BK704.out 4).trans rfl
                      have hcz30_5 : wc.cell? ⟨gb704, 5, none⟩ = some (.int .i64 t699) := (blk_cell BK704.out 5).trans rfl
                      have hcz30_6 : wc.cell? ⟨gb704, 6, none⟩ = some (.slice Ao14 t700.length co14) := (blk_cell BK704.out 6).trans rfl
                      have hfz30_0 := blk_frozen BK704.out 0
                      have hfz30_1 := blk_frozen BK704.out 1
                      have hfz30_2 := blk_frozen BK704.out 2
                      have hfz30_3 := blk_frozen BK704.out 3
                      have hfz30_4 := blk_frozen BK704.out 4
                      have hfz30_5 := blk_frozen BK704.out 5
                      have hfz30_6 := blk_frozen BK704.out 6
                      go_wp2
                      go_ret
                      exact ⟨by first | rfl | (simp [errW_none, errW_some] <;> rfl) | (simp [*, errW_none, errW_some] <;> rfl), by repeat (first | (with_reducible first | exact HB.out | apply below_alloc | apply pw_below_drewN | apply below_drew1 | refine below_set ?_ GE704.out) | exact HB.out)⟩
                    · replace c29 := Bool.eq_false_iff.mpr c29
                      subst c29
                      have H1 : (some ((t694.length : Int) == 0)) = some r := by rw [if_neg (show ¬ (false = true) by decide)] at H; exact H
                      clear H
                      have H := H1
                      clear H1
                      obtain rfl := Option.some.inj H
                      have hcz31_0 : wc.cell? ⟨gb704, 0, none⟩ = some (.int .i64 t692) := (blk_cell BK704.out 0).trans rfl
                      have hcz31_1 : wc.cell? ⟨gb704, 1, none⟩ = some (.bool false) := (blk_cell BK704.out 1).trans rfl
                      have hcz31_2 : wc.cell? ⟨gb704, 2, none⟩ = some (.slice Ao13 t694.length co13) := (blk_cell BK704.out 2).trans rfl
                      have hcz31_3 : wc.cell? ⟨gb704, 3, none⟩ = some (.int .i64 t697) := (blk_cell BK704.out 3).trans rfl
                      have hcz31_4 : wc.cell? ⟨gb704, 4, none⟩ = some (.int .i64 t698) := (blk_cell BK704.out 4).trans rfl
                      have hcz31_5 : wc.cell? ⟨gb704, 5, none⟩ = some (.int .i64 t699) := (blk_cell BK704.out 5).trans rfl
                      have hcz31_6 : wc.cell? ⟨gb704, 6, none⟩ = some (.slice Ao14 t700.length co14) := (blk_cell BK704.out 6).trans rfl
                      have hfz31_0 := blk_frozen BK704.out 0
                      have hfz31_1 := blk_frozen BK704.out 1
                      have hfz31_2 := blk_frozen BK704.out 2
                      have hfz31_3 := blk_frozen BK704.out 3
                      have hfz31_4 := blk_frozen BK704.out 4
                      have hfz31_5 := blk_frozen BK704.out 5
                      have hfz31_6 := blk_frozen BK704.out 6
                      go_wp2
                      go_ret
                      exact ⟨by first | rfl | (simp [errW_none, errW_some] <;> rfl) | (simp [*, errW_none, errW_some] <;> rfl), by repeat (first | (with_reducible first | exact HB.out | apply below_alloc | apply pw_below_drewN | apply below_drew1 | refine below_set ?_ GE704.out) | exact HB.out)⟩
                  · rw [if_neg c28] at H
                    have c28b0 : (x9_15 == 1) = false := beq_eq_false_iff_ne.mpr c28
                    have c28b1 : (x9_15 != 1) = true := bne_iff_ne.mpr c28
                    obtain rfl := Option.some.inj H
                    have hcz32_0 : wc.cell? ⟨gb704, 0, none⟩ = some (.int .i64 t692) := (blk_cell BK704.out 0).trans rfl
                    have hcz32_1 : wc.cell? ⟨gb704, 1, none⟩ = some (.bool t693) := (blk_cell BK704.out 1).trans rfl
                    have hcz32_2 : wc.cell? ⟨gb704, 2, none⟩ = some (.slice Ao13 t694.length co13) := (blk_cell BK704.out 2).trans rfl
                    have hcz32_3 : wc.cell? ⟨gb704, 3, none⟩ = some (.int .i64 t697) := (blk_cell BK704.out 3).trans rfl
                    have hcz32_4 : wc.cell? ⟨gb704, 4, none⟩ = some (.int .i64 t698) := (blk_cell BK704.out 4).trans rfl
                    have hcz32_5 : wc.cell? ⟨gb704, 5, none⟩ = some (.int .i64 t699) := (blk_cell BK704.out 5).trans rfl
                    have hcz32_6 : wc.cell? ⟨gb704, 6, none⟩ = some (.slice Ao14 t700.length co14) := (blk_cell BK704.out 6).trans rfl
                    have hfz32_0 := blk_frozen BK704.out 0
                    have hfz32_1 := blk_frozen BK704.out 1
                    have hfz32_2 := blk_frozen BK704.out 2
                    have hfz32_3 := blk_frozen BK704.out 3
                    have hfz32_4 := blk_frozen BK704.out 4
                    have hfz32_5 := blk_frozen BK704.out 5
                    have hfz32_6 := blk_frozen BK704.out 6
                    go_wp2
                    go_ret
                    exact ⟨by first | rfl | (simp [errW_none, errW_some] <;> rfl) | (simp [*, errW_none, errW_some] <;> rfl), by repeat (first | (with_reducible first | exact HB.out | apply below_alloc | apply pw_below_drewN | apply below_drew1 | refine below_set ?_ GE704.out) | exact HB.out)⟩
                · replace c27 := Bool.eq_false_iff.mpr c27
                  subst c27
                  have H1 : (some false) = some r := by rw [if_neg (show ¬ (false = true) by decide)] at H; exact H
                  clear H
                  have H := H1
                  clear H1
                  obtain rfl := Option.some.inj H
                  have hcz33_0 : wc.cell? ⟨gb704, 0, none⟩ = some (.int .i64 t692) := (blk_cell BK704.out 0).trans rfl
                  have hcz33_1 : wc.cell? ⟨gb704, 1, none⟩ = some (.bool t693) := (blk_cell BK704.out 1).trans rfl
                  have hcz33_2 : wc.cell? ⟨gb704, 2, none⟩ = some (.slice Ao13 t694.length co13) := (blk_cell BK704.out 2).trans rfl
                  have hcz33_3 : wc.cell? ⟨gb704, 3, none⟩ = some (.int .i64 t697) := (blk_cell BK704.out 3).trans rfl
                  have hcz33_4 : wc.cell? ⟨gb704, 4, none⟩ = some (.int .i64 t698) := (blk_cell BK704.out 4).trans rfl
                  have hcz33_5 : wc.cell? ⟨gb704, 5, none⟩ = some (.int .i64 t699) := (blk_cell BK704.out 5).trans rfl
                  have hcz33_6 : wc.cell? ⟨gb704, 6, none⟩ = some (.slice Ao14 t700.length co14) := (blk_cell BK704.out 6).trans rfl
                  have hfz33_0 := blk_frozen BK704.out 0
                  have hfz33_1 := blk_frozen BK704.out 1
                  have hfz33_2 := blk_frozen BK704.out 2
                  have hfz33_3 := blk_frozen BK704.out 3
                  have hfz33_4 := blk_frozen BK704.out 4
                  have hfz33_5 := blk_frozen BK704.out 5
                  have hfz33_6 := blk_frozen BK704.out 6
                  go_wp2
                  go_ret
                  exact ⟨by first | rfl | (simp [errW_none, errW_some] <;> rfl) | (simp [*, errW_none, errW_some] <;> rfl), by repeat (first | (with_reducible first | exact HB.out | apply below_alloc | apply pw_below_drewN | apply below_drew1 | refine below_set ?_ GE704.out) | exact HB.out)⟩
    · rw [if_neg c7] at H
      have c7b0 : (t703 == 0) = false := beq_eq_false_iff_ne.mpr c7
      have c7b1 : (t703 != 0) = true := bne_iff_ne.mpr c7
      by_cases c34 : t690 = true
      · subst c34
        have H1 : ((judge_Same.f t692 t693 t694 t697 t698 t699 t700 0 false ([] : List Int) 0 0 0 ([] : List (S24))).bind fun t705 => (some t705)) = some r := by rw [if_pos rfl] at H; exact H
        clear H
        have H := H1
        clear H1
        replace H := Option.bind_eq_some_iff.mp H
        obtain ⟨t705, A350, H⟩ := H
        replace H : (some t705) = some r := H
        have A35 := Aside0.mk A350
        clear A350
        obtain rfl := Option.some.inj H
        go_enter Tryz.func17, Tryz.ntmps17
        go_wp2_with (first | ((with_reducible refine gate_callee (f := 28) rfl ?_); refine goesL_ (some 10) rfl rfl Tryz.func28 (by kernel_rfl) rfl #[] rfl (by (try simp only [List.map_toArray, List.map_cons, List.map_nil]); first | done | rfl | (simp only [List.length_drop, List.length_take]; rfl)) ?_; (with_reducible refine (cartouchelaw12_shown.calls  true _ A3.out).mono ?_); rintro e w36 ⟨rfl, hb⟩; refine ⟨_, rfl, ?_⟩; have n0_ := Aside0.mk (below_step (by repeat (first | (with_reducible first | exact HB.out | apply below_alloc | apply pw_below_drewN | apply below_drew1) | exact HB.out)) hb); clear HB; have HB := n0_; clear n0_; (try clear hb); (try clear hb2); (try clear hk); (try clear hi)) | ((with_reducible refine gate_callee (f := 31) rfl ?_); refine goesL_ (some 12) rfl rfl Tryz.func31 (by kernel_rfl) rfl #[.slice A0 l0.length c0] rfl (by (try simp only [List.map_toArray, List.map_cons, List.map_nil]); first | done | rfl | (simp only [List.length_drop, List.length_take]; rfl)) ?_; (with_reducible refine (cartouchelaw12_few.calls _ _ l0 true _ ?side1 ?side2 A4.out).mono ?_); (case side1 => repeat (first | exact (Kd.C_below HR0.out HB.out) | (with_reducible refine Kd.C_alloc ?_ _) | (with_reducible refine Kd.C_drewN ?_ _) | (with_reducible refine Kd.C_drew ?_))); (case side2 => exact HC0.out); rintro e w' ⟨rfl, ⟨nd, rfl⟩⟩; refine ⟨_, rfl, ?_⟩; (try (rw [drewN_self w36]; generalize hq_ : World.drewN w36 _ = w36; have n0_ : Aside0 (Below w.heap.size w w36) := ⟨by rw [← hq_]; exact (by repeat (first | (with_reducible first | exact HB.out | apply below_alloc | apply pw_below_drewN | apply below_drew1) | exact HB.out))⟩; clear HB hq_; have HB := n0_; clear n0_))) | ((with_reducible refine gate_callee (f := 33) rfl ?_); refine goesL_ (some 19) rfl rfl Tryz.func33 (by kernel_rfl) rfl #[.slice A0 l0.length c0, .int .i64 a1] rfl (by (try simp only [List.map_toArray, List.map_cons, List.map_nil]); first | done | rfl | (simp only [List.length_drop, List.length_take]; rfl)) ?_; (with_reducible refine (judge_Judge.calls k _ _ l0 a1 t692 t693 t694 t697 t698 t699 t700 t703 _ ?side1 ?side2 A6.out).mono ?_); (case side1 => repeat (first | exact (Kd.C_below HR0.out HB.out) | (with_reducible refine Kd.C_alloc ?_ _) | (with_reducible refine Kd.C_drewN ?_ _) | (with_reducible refine Kd.C_drew ?_))); (case side2 => exact HC0.out); rintro e w37 ⟨v695, v701, rfl, ho0, ho1, hb⟩; refine ⟨_, rfl, ?_⟩; have n0_ := Aside0.mk (Kd.R_lower ho0 (below_size (by repeat (first | (with_reducible first | exact HB.out | apply below_alloc | apply pw_below_drewN | apply below_drew1) | exact HB.out)))); have n1_ := Aside0.mk (Kd.R_lower ho1 (below_size (by repeat (first | (with_reducible first | exact HB.out | apply below_alloc | apply pw_below_drewN | apply below_drew1) | exact HB.out)))); have n2_ := Aside0.mk (below_step (by repeat (first | (with_reducible first | exact HB.out | apply below_alloc | apply pw_below_drewN | apply below_drew1) | exact HB.out)) hb); clear HB; have HO696 := n0_; have HO702 := n1_; have HB := n2_; clear n0_ n1_ n2_; (try clear hb); (try clear hb2); (try clear hk); (try clear hi); (try clear ho0); (try clear ho1)) | ((with_reducible refine gate_dst (N := 7) rfl ?_); (try (refine gate_guard (by rfl) ?_; dsimp only)); refine box_event ?hg (N := 7) ?hd (cs := #[.int .i64 0, .bool false, .slice none 0 0, .int .i64 0, .int .i64 0, .int .i64 0, .slice none 0 0]) (t := 42) ?hr ?_; (case hd => rfl); (case hg => rfl); (case hr => first | (go_simp; done) | (go_simp; rfl)); intro gb704 hg w38 hbox hb; have n0_ := Aside0.mk (Kd.R_below (by (with_reducible repeat (first | apply Kd.R_alloc | apply Kd.R_drewN | apply Kd.R_drew)); exact HO696.out) hb); have n1_ := Aside0.mk (Kd.R_below (by (with_reducible repeat (first | apply Kd.R_alloc | apply Kd.R_drewN | apply Kd.R_drew)); exact HO702.out) hb); have n2_ := Aside0.mk (below_step (by repeat (first | (with_reducible first | exact HB.out | apply below_alloc | apply pw_below_drewN | apply below_drew1) | exact HB.out)) hb); have n3_ := Aside0.mk (hbox); have n4_ := Aside0.mk ((by rw [hg]; exact (below_size (by repeat (first | (with_reducible first | exact HB.out | apply below_alloc | apply pw_below_drewN | apply below_drew1) | exact HB.out))) : w.heap.size ≤ gb704)); have n5_ := Aside0.mk ((by rw [hg]; exact (below_size (by repeat (first | (with_reducible first | exact HB.out | apply below_alloc | apply pw_below_drewN | apply below_drew1) | exact HB.out))) : w.heap.size ≤ gb704)); clear HO696; clear HO702; clear HB; have HO696 := n0_; have HO702 := n1_; have HB := n2_; have BK704 := n3_; have GW704 := n4_; have GE704 := n5_; clear n0_ n1_ n2_ n3_ n4_ n5_; clear hb hbox hg; have hcz39_0 : w38.cell? ⟨gb704, 0, none⟩ = some (.int .i64 0) := (blk_cell BK704.out 0).trans rfl; have hcz39_1 : w38.cell? ⟨gb704, 1, none⟩ = some (.bool false) := (blk_cell BK704.out 1).trans rfl; have hcz39_2 : w38.cell? ⟨gb704, 2, none⟩ = some (.slice none 0 0) := (blk_cell BK704.out 2).trans rfl; have hcz39_3 : w38.cell? ⟨gb704, 3, none⟩ = some (.int .i64 0) := (blk_cell BK704.out 3).trans rfl; have hcz39_4 : w38.cell? ⟨gb704, 4, none⟩ = some (.int .i64 0) := (blk_cell BK704.out 4).trans rfl; have hcz39_5 : w38.cell? ⟨gb704, 5, none⟩ = some (.int .i64 0) := (blk_cell BK704.out 5).trans rfl; have hcz39_6 : w38.cell? ⟨gb704, 6, none⟩ = some (.slice none 0 0) := (blk_cell BK704.out 6).trans rfl; have hfz39_0 := blk_frozen BK704.out 0; have hfz39_1 := blk_frozen BK704.out 1; have hfz39_2 := blk_frozen BK704.out 2; have hfz39_3 := blk_frozen BK704.out 3; have hfz39_4 := blk_frozen BK704.out 4; have hfz39_5 := blk_frozen BK704.out 5; have hfz39_6 := blk_frozen BK704.out 6; obtain ⟨Ao40, co40, eo40⟩ := Kd.R_slice HO696.out; subst eo40; obtain ⟨Ao41, co41, eo41⟩ := Kd.R_slice HO702.out; subst eo41) | (go_at_call 46; (refine (judge_Same.calls t692 t693 _ _ t694 t697 t698 t699 _ _ t700 0 false _ _ ([] : List Int) 0 0 0 _ _ ([] : List (S24)) t705 _ ?side1 ?side2 ?side3 ?side4 ?side5 ?side6 ?side7 ?side8 A35.out).mono ?_); (case side1 => refine (Kd.R_reads' (e := 3) (base := w.heap.size) (ok := fun k_ => True) (n := t694.length) (c := co40) ?_).2.2; exact (by (with_reducible repeat (first | apply Kd.R_alloc | apply Kd.R_drewN | apply Kd.R_drew)); exact (Kd.R_mono (Kd.R_far (p := ⟨gb704, 6, none⟩) (Kd.R_far (p := ⟨gb704, 5, none⟩) (Kd.R_far (p := ⟨gb704, 4, none⟩) (Kd.R_far (p := ⟨gb704, 3, none⟩) (Kd.R_far (p := ⟨gb704, 2, none⟩) (Kd.R_far (p := ⟨gb704, 1, none⟩) (Kd.R_far (p := ⟨gb704, 0, none⟩) (Kd.R_types HO696.out BK704.out (by decide)) (fun _ hk => hk.2) (.int .i64 t692)) (fun _ hk => hk.2) (.bool t693)) (fun _ hk => hk.2) (.slice Ao40 t694.length co40)) (fun _ hk => hk.2) (.int .i64 t697)) (fun _ hk => hk.2) (.int .i64 t698)) (fun _ hk => hk.2) (.int .i64 t699)) (fun _ hk => hk.2) (.slice Ao41 t700.length co41)) (fun _ h_ => h_.1)))); (case side2 => exact (Kd.R_reads' HO696.out).2.1); (case side3 => refine (Kd.R_reads' (e := 24) (base := w.heap.size) (ok := fun k_ => True) (n := t700.length) (c := co41) ?_).2.2; exact (by (with_reducible repeat (first | apply Kd.R_alloc | apply Kd.R_drewN | apply Kd.R_drew)); exact (Kd.R_mono (Kd.R_far (p := ⟨gb704, 6, none⟩) (Kd.R_far (p := ⟨gb704, 5, none⟩) (Kd.R_far (p := ⟨gb704, 4, none⟩) (Kd.R_far (p := ⟨gb704, 3, none⟩) (Kd.R_far (p := ⟨gb704, 2, none⟩) (Kd.R_far (p := ⟨gb704, 1, none⟩) (Kd.R_far (p := ⟨gb704, 0, none⟩) (Kd.R_types HO702.out BK704.out (by decide)) (fun _ hk => hk.2) (.int .i64 t692)) (fun _ hk => hk.2) (.bool t693)) (fun _ hk => hk.2) (.slice Ao40 t694.length co40)) (fun _ hk => hk.2) (.int .i64 t697)) (fun _ hk => hk.2) (.int .i64 t698)) (fun _ hk => hk.2) (.int .i64 t699)) (fun _ hk => hk.2) (.slice Ao41 t700.length co41)) (fun _ h_ => h_.1)))); (case side4 => exact (Kd.R_reads' HO702.out).2.1); (case side5 => exact Kd.C_nil _ _); (case side6 => exact Nat.le_refl _); (case side7 => exact Kd.C_nil _ _); (case side8 => exact Nat.le_refl _); rintro e w42 ⟨rfl, hb⟩; have n0_ := Aside0.mk (Kd.R_below (by (with_reducible repeat (first | apply Kd.R_alloc | apply Kd.R_drewN | apply Kd.R_drew)); exact (Kd.R_mono (Kd.R_far (p := ⟨gb704, 6, none⟩) (Kd.R_far (p := ⟨gb704, 5, none⟩) (Kd.R_far (p := ⟨gb704, 4, none⟩) (Kd.R_far (p := ⟨gb704, 3, none⟩) (Kd.R_far (p := ⟨gb704, 2, none⟩) (Kd.R_far (p := ⟨gb704, 1, none⟩) (Kd.R_far (p := ⟨gb704, 0, none⟩) (Kd.R_types HO696.out BK704.out (by decide)) (fun _ hk => hk.2) (.int .i64 t692)) (fun _ hk => hk.2) (.bool t693)) (fun _ hk => hk.2) (.slice Ao40 t694.length co40)) (fun _ hk => hk.2) (.int .i64 t697)) (fun _ hk => hk.2) (.int .i64 t698)) (fun _ hk => hk.2) (.int .i64 t699)) (fun _ hk => hk.2) (.slice Ao41 t700.length co41)) (fun _ h_ => h_.1))) hb); have n1_ := Aside0.mk (Kd.R_below (by (with_reducible repeat (first | apply Kd.R_alloc | apply Kd.R_drewN | apply Kd.R_drew)); exact (Kd.R_mono (Kd.R_far (p := ⟨gb704, 6, none⟩) (Kd.R_far (p := ⟨gb704, 5, none⟩) (Kd.R_far (p := ⟨gb704, 4, none⟩) (Kd.R_far (p := ⟨gb704, 3, none⟩) (Kd.R_far (p := ⟨gb704, 2, none⟩) (Kd.R_far (p := ⟨gb704, 1, none⟩) (Kd.R_far (p := ⟨gb704, 0, none⟩) (Kd.R_types HO702.out BK704.out (by decide)) (fun _ hk => hk.2) (.int .i64 t692)) (fun _ hk => hk.2) (.bool t693)) (fun _ hk => hk.2) (.slice Ao40 t694.length co40)) (fun _ hk => hk.2) (.int .i64 t697)) (fun _ hk => hk.2) (.int .i64 t698)) (fun _ hk => hk.2) (.int .i64 t699)) (fun _ hk => hk.2) (.slice Ao41 t700.length co41)) (fun _ h_ => h_.1))) hb); have n2_ := Aside0.mk (blk_below (g := gb704) (o := .cells #[.int .i64 t692, .bool t693, .slice Ao40 t694.length co40, .int .i64 t697, .int .i64 t698, .int .i64 t699, .slice Ao41 t700.length co41] 42 (0, 0)) (by (with_reducible repeat (first | refine blk_drewN ?_ _ | refine blk_drew ?_ | refine blk_alloc ?_ _)); refine blk_put (cs := #[.int .i64 t692, .bool t693, .slice Ao40 t694.length co40, .int .i64 t697, .int .i64 t698, .int .i64 t699, .slice none 0 0]) ?_ 6 _ rfl; (with_reducible repeat (first | refine blk_drewN ?_ _ | refine blk_drew ?_ | refine blk_alloc ?_ _)); refine blk_put (cs := #[.int .i64 t692, .bool t693, .slice Ao40 t694.length co40, .int .i64 t697, .int .i64 t698, .int .i64 0, .slice none 0 0]) ?_ 5 _ rfl; (with_reducible repeat (first | refine blk_drewN ?_ _ | refine blk_drew ?_ | refine blk_alloc ?_ _)); refine blk_put (cs := #[.int .i64 t692, .bool t693, .slice Ao40 t694.length co40, .int .i64 t697, .int .i64 0, .int .i64 0, .slice none 0 0]) ?_ 4 _ rfl; (with_reducible repeat (first | refine blk_drewN ?_ _ | refine blk_drew ?_ | refine blk_alloc ?_ _)); refine blk_put (cs := #[.int .i64 t692, .bool t693, .slice Ao40 t694.length co40, .int .i64 0, .int .i64 0, .int .i64 0, .slice none 0 0]) ?_ 3 _ rfl; (with_reducible repeat (first | refine blk_drewN ?_ _ | refine blk_drew ?_ | refine blk_alloc ?_ _)); refine blk_put (cs := #[.int .i64 t692, .bool t693, .slice none 0 0, .int .i64 0, .int .i64 0, .int .i64 0, .slice none 0 0]) ?_ 2 _ rfl; (with_reducible repeat (first | refine blk_drewN ?_ _ | refine blk_drew ?_ | refine blk_alloc ?_ _)); refine blk_put (cs := #[.int .i64 t692, .bool false, .slice none 0 0, .int .i64 0, .int .i64 0, .int .i64 0, .slice none 0 0]) ?_ 1 _ rfl; (with_reducible repeat (first | refine blk_drewN ?_ _ | refine blk_drew ?_ | refine blk_alloc ?_ _)); refine blk_put (cs := #[.int .i64 0, .bool false, .slice none 0 0, .int .i64 0, .int .i64 0, .int .i64 0, .slice none 0 0]) ?_ 0 _ rfl; (with_reducible repeat (first | refine blk_drewN ?_ _ | refine blk_drew ?_ | refine blk_alloc ?_ _)); exact BK704.out) hb); have n3_ := Aside0.mk (below_step (by repeat (first | (with_reducible first | exact HB.out | apply below_alloc | apply pw_below_drewN | apply below_drew1 | refine below_set ?_ GE704.out) | exact HB.out)) hb); clear HO696; clear HO702; clear BK704; clear HB; have HO696 := n0_; have HO702 := n1_; have BK704 := n2_; have HB := n3_; clear n0_ n1_ n2_ n3_; (try clear hb); (try clear hb2); (try clear hk); (try clear hi)))
        go_ret
        exact ⟨by first | rfl | (simp [errW_none, errW_some] <;> rfl) | (simp [*, errW_none, errW_some] <;> rfl), by repeat (first | (with_reducible first | exact HB.out | apply below_alloc | apply pw_below_drewN | apply below_drew1 | refine below_set ?_ GE704.out) | exact HB.out)⟩
      · replace c34 := Bool.eq_false_iff.mpr c34
        subst c34
        have H1 : (some false) = some r := by rw [if_neg (show ¬ (false = true) by decide)] at H; exact H
        clear H
        have H := H1
        clear H1
        obtain rfl := Option.some.inj H
        go_enter Tryz.func17, Tryz.ntmps17
        go_wp2_with (first | ((with_reducible refine gate_callee (f := 28) rfl ?_); refine goesL_ (some 10) rfl rfl Tryz.func28 (by kernel_rfl) rfl #[] rfl (by (try simp only [List.map_toArray, List.map_cons, List.map_nil]); first | done | rfl | (simp only [List.length_drop, List.length_take]; rfl)) ?_; (with_reducible refine (cartouchelaw12_shown.calls  false _ A3.out).mono ?_); rintro e w43 ⟨rfl, hb⟩; refine ⟨_, rfl, ?_⟩; have n0_ := Aside0.mk (below_step (by repeat (first | (with_reducible first | exact HB.out | apply below_alloc | apply pw_below_drewN | apply below_drew1) | exact HB.out)) hb); clear HB; have HB := n0_; clear n0_; (try clear hb); (try clear hb2); (try clear hk); (try clear hi)) | ((with_reducible refine gate_callee (f := 31) rfl ?_); refine goesL_ (some 12) rfl rfl Tryz.func31 (by kernel_rfl) rfl #[.slice A0 l0.length c0] rfl (by (try simp only [List.map_toArray, List.map_cons, List.map_nil]); first | done | rfl | (simp only [List.length_drop, List.length_take]; rfl)) ?_; (with_reducible refine (cartouchelaw12_few.calls _ _ l0 true _ ?side1 ?side2 A4.out).mono ?_); (case side1 => repeat (first | exact (Kd.C_below HR0.out HB.out) | (with_reducible refine Kd.C_alloc ?_ _) | (with_reducible refine Kd.C_drewN ?_ _) | (with_reducible refine Kd.C_drew ?_))); (case side2 => exact HC0.out); rintro e w' ⟨rfl, ⟨nd, rfl⟩⟩; refine ⟨_, rfl, ?_⟩; (try (rw [drewN_self w43]; generalize hq_ : World.drewN w43 _ = w43; have n0_ : Aside0 (Below w.heap.size w w43) := ⟨by rw [← hq_]; exact (by repeat (first | (with_reducible first | exact HB.out | apply below_alloc | apply pw_below_drewN | apply below_drew1) | exact HB.out))⟩; clear HB hq_; have HB := n0_; clear n0_))) | ((with_reducible refine gate_callee (f := 33) rfl ?_); refine goesL_ (some 19) rfl rfl Tryz.func33 (by kernel_rfl) rfl #[.slice A0 l0.length c0, .int .i64 a1] rfl (by (try simp only [List.map_toArray, List.map_cons, List.map_nil]); first | done | rfl | (simp only [List.length_drop, List.length_take]; rfl)) ?_; (with_reducible refine (judge_Judge.calls k _ _ l0 a1 t692 t693 t694 t697 t698 t699 t700 t703 _ ?side1 ?side2 A6.out).mono ?_); (case side1 => repeat (first | exact (Kd.C_below HR0.out HB.out) | (with_reducible refine Kd.C_alloc ?_ _) | (with_reducible refine Kd.C_drewN ?_ _) | (with_reducible refine Kd.C_drew ?_))); (case side2 => exact HC0.out); rintro e w44 ⟨v695, v701, rfl, ho0, ho1, hb⟩; refine ⟨_, rfl, ?_⟩; have n0_ := Aside0.mk (Kd.R_lower ho0 (below_size (by repeat (first | (with_reducible first | exact HB.out | apply below_alloc | apply pw_below_drewN | apply below_drew1) | exact HB.out)))); have n1_ := Aside0.mk (Kd.R_lower ho1 (below_size (by repeat (first | (with_reducible first | exact HB.out | apply below_alloc | apply pw_below_drewN | apply below_drew1) | exact HB.out)))); have n2_ := Aside0.mk (below_step (by repeat (first | (with_reducible first | exact HB.out | apply below_alloc | apply pw_below_drewN | apply below_drew1) | exact HB.out)) hb); clear HB; have HO696 := n0_; have HO702 := n1_; have HB := n2_; clear n0_ n1_ n2_; (try clear hb); (try clear hb2); (try clear hk); (try clear hi); (try clear ho0); (try clear ho1)) | ((with_reducible refine gate_dst (N := 7) rfl ?_); (try (refine gate_guard (by rfl) ?_; dsimp only)); refine box_event ?hg (N := 7) ?hd (cs := #[.int .i64 0, .bool false, .slice none 0 0, .int .i64 0, .int .i64 0, .int .i64 0, .slice none 0 0]) (t := 42) ?hr ?_; (case hd => rfl); (case hg => rfl); (case hr => first | (go_simp; done) | (go_simp; rfl)); intro gb704 hg w45 hbox hb; have n0_ := Aside0.mk (Kd.R_below (by (with_reducible repeat (first | apply Kd.R_alloc | apply Kd.R_drewN | apply Kd.R_drew)); exact HO696.out) hb); have n1_ := Aside0.mk (Kd.R_below (by (with_reducible repeat (first | apply Kd.R_alloc | apply Kd.R_drewN | apply Kd.R_drew)); exact HO702.out) hb); have n2_ := Aside0.mk (below_step (by repeat (first | (with_reducible first | exact HB.out | apply below_alloc | apply pw_below_drewN | apply below_drew1) | exact HB.out)) hb); have n3_ := Aside0.mk (hbox); have n4_ := Aside0.mk ((by rw [hg]; exact (below_size (by repeat (first | (with_reducible first | exact HB.out | apply below_alloc | apply pw_below_drewN | apply below_drew1) | exact HB.out))) : w.heap.size ≤ gb704)); have n5_ := Aside0.mk ((by rw [hg]; exact (below_size (by repeat (first | (with_reducible first | exact HB.out | apply below_alloc | apply pw_below_drewN | apply below_drew1) | exact HB.out))) : w.heap.size ≤ gb704)); clear HO696; clear HO702; clear HB; have HO696 := n0_; have HO702 := n1_; have HB := n2_; have BK704 := n3_; have GW704 := n4_; have GE704 := n5_; clear n0_ n1_ n2_ n3_ n4_ n5_; clear hb hbox hg; have hcz46_0 : w45.cell? ⟨gb704, 0, none⟩ = some (.int .i64 0) := (blk_cell BK704.out 0).trans rfl; have hcz46_1 : w45.cell? ⟨gb704, 1, none⟩ = some (.bool false) := (blk_cell BK704.out 1).trans rfl; have hcz46_2 : w45.cell? ⟨gb704, 2, none⟩ = some (.slice none 0 0) := (blk_cell BK704.out 2).trans rfl; have hcz46_3 : w45.cell? ⟨gb704, 3, none⟩ = some (.int .i64 0) := (blk_cell BK704.out 3).trans rfl; have hcz46_4 : w45.cell? ⟨gb704, 4, none⟩ = some (.int .i64 0) := (blk_cell BK704.out 4).trans rfl; have hcz46_5 : w45.cell? ⟨gb704, 5, none⟩ = some (.int .i64 0) := (blk_cell BK704.out 5).trans rfl; have hcz46_6 : w45.cell? ⟨gb704, 6, none⟩ = some (.slice none 0 0) := (blk_cell BK704.out 6).trans rfl; have hfz46_0 := blk_frozen BK704.out 0; have hfz46_1 := blk_frozen BK704.out 1; have hfz46_2 := blk_frozen BK704.out 2; have hfz46_3 := blk_frozen BK704.out 3; have hfz46_4 := blk_frozen BK704.out 4; have hfz46_5 := blk_frozen BK704.out 5; have hfz46_6 := blk_frozen BK704.out 6; obtain ⟨Ao47, co47, eo47⟩ := Kd.R_slice HO696.out; subst eo47; obtain ⟨Ao48, co48, eo48⟩ := Kd.R_slice HO702.out; subst eo48))
        go_ret
        exact ⟨by first | rfl | (simp [errW_none, errW_some] <;> rfl) | (simp [*, errW_none, errW_some] <;> rfl), by repeat (first | (with_reducible first | exact HB.out | apply below_alloc | apply pw_below_drewN | apply below_drew1 | refine below_set ?_ GE704.out) | exact HB.out)⟩
  · replace c5 := Bool.eq_false_iff.mpr c5
    subst c5
    have H1 : (some t690) = some r := by rw [if_neg (show ¬ (false = true) by decide)] at H; exact H
    clear H
    have H := H1
    clear H1
    obtain rfl := Option.some.inj H
    go_enter Tryz.func17, Tryz.ntmps17
    go_wp2_with (first | ((with_reducible refine gate_callee (f := 28) rfl ?_); refine goesL_ (some 10) rfl rfl Tryz.func28 (by kernel_rfl) rfl #[] rfl (by (try simp only [List.map_toArray, List.map_cons, List.map_nil]); first | done | rfl | (simp only [List.length_drop, List.length_take]; rfl)) ?_; (with_reducible refine (cartouchelaw12_shown.calls  t690 _ A3.out).mono ?_); rintro e w49 ⟨rfl, hb⟩; refine ⟨_, rfl, ?_⟩; have n0_ := Aside0.mk (below_step (by repeat (first | (with_reducible first | exact HB.out | apply below_alloc | apply pw_below_drewN | apply below_drew1) | exact HB.out)) hb); clear HB; have HB := n0_; clear n0_; (try clear hb); (try clear hb2); (try clear hk); (try clear hi)) | ((with_reducible refine gate_callee (f := 31) rfl ?_); refine goesL_ (some 12) rfl rfl Tryz.func31 (by kernel_rfl) rfl #[.slice A0 l0.length c0] rfl (by (try simp only [List.map_toArray, List.map_cons, List.map_nil]); first | done | rfl | (simp only [List.length_drop, List.length_take]; rfl)) ?_; (with_reducible refine (cartouchelaw12_few.calls _ _ l0 false _ ?side1 ?side2 A4.out).mono ?_); (case side1 => repeat (first | exact (Kd.C_below HR0.out HB.out) | (with_reducible refine Kd.C_alloc ?_ _) | (with_reducible refine Kd.C_drewN ?_ _) | (with_reducible refine Kd.C_drew ?_))); (case side2 => exact HC0.out); rintro e w' ⟨rfl, ⟨nd, rfl⟩⟩; refine ⟨_, rfl, ?_⟩))
    go_ret
    exact ⟨by first | rfl | (simp [errW_none, errW_some] <;> rfl) | (simp [*, errW_none, errW_some] <;> rfl), by repeat (first | (with_reducible first | exact HB.out | apply below_alloc | apply pw_below_drewN | apply below_drew1) | exact HB.out)⟩

end Go.Proofs.YtebjiimlcnmfpaaGreatPr
