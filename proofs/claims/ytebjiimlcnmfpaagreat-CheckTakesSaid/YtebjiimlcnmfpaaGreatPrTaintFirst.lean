/- Contracts of Go functions, printed by a program of this session over the translation: each call answers what its Lean function says. -/
import Derived.Test.YtebjiimlcnmfpaaGreatPr0
import Derived.Test.YtebjiimlcnmfpaaGreatPrTaintAll
namespace Go.Proofs.YtebjiimlcnmfpaaGreatPr
open Go.RowKit Go.Proofs.YtebjiimlcnmfpaaGreatW.PrintWords Go.Proofs.YtebjiimlcnmfpaaGreatW.PrintLast Go.Proofs.YtebjiimlcnmfpaaGreatW.PrintMore
attribute [local go_sem] max2_int min2_int max_two min_two max_three min_three max_four min_four   -- for this text's walks alone
set_option linter.unusedVariables false
set_option linter.unusedSimpArgs false
/-! ### taint_First: function 64 -/
def taint_First.f (k : Nat) (l0 : List (S50)) : Option (Int × Int × Int × Bool) := (taint_All.f k l0).bind fun t539 => (if (t539.length : Int) = 0 then (some (0, 0, 0, false)) else (if 0 < (t539.length : Int) then (some ((rd_T40 t539 0).f0, (rd_T40 t539 0).f1, (rd_T40 t539 0).f2, true)) else (none)))
theorem taint_First.mono : ∀ a0 k, LeO (taint_First.f k a0) (taint_First.f (k + 1) a0) := by
 intro a0 k
 unfold taint_First.f
 repeat' first
  | (with_reducible exact taint_All.mono _ _)
  | (with_reducible exact LeO.refl _)
  | (with_reducible exact LeO.none _)
  | (with_reducible refine LeO.ite ?_ ?_)
  | (with_reducible refine LeO.bind ?_ (fun _ => ?_))
  | exact taint_All.mono _ _
  | exact LeO.none _
  | refine LeO.ite ?_ ?_
  | refine LeO.bind ?_ (fun _ => ?_)
set_option maxHeartbeats 8000000 in
set_option maxRecDepth 100000 in
theorem taint_First.calls (k : Nat) (A0 : Option Addr) (c0 : Nat) (l0 : List (S50)) (r1 : Int) (r2 : Int) (r3 : Int) (r4 : Bool) (w : World) (hr0 : Kd.C k50 w A0 l0.length l0) (hc0 : l0.length ≤ c0) (h : taint_First.f k l0 = some (r1, r2, r3, r4)) :
 Calls Tryz.prog 64 #[.slice A0 l0.length c0] w fun e w' => e = .returned (.tuple #[.agg #[.int .i64 r1, .int .i64 r2, .int .i64 r3], .bool r4]) ∧ Below w.heap.size w w' := by
 have hu40 := Tryz.underlying40
 have HR0 := Aside0.mk hr0
 have HC0 := Aside0.mk hc0
 clear hr0 hc0
 have HB := Aside0.mk (Below.refl w.heap.size w)
 have H : ((taint_All.f k l0).bind fun t539 => (if (t539.length : Int) = 0 then (some (0, 0, 0, false)) else (if 0 < (t539.length : Int) then (some ((rd_T40 t539 0).f0, (rd_T40 t539 0).f1, (rd_T40 t539 0).f2, true)) else (none)))) = some (r1, r2, r3, r4) := h
 clear h
 replace H := Option.bind_eq_some_iff.mp H
 obtain ⟨t539, A20, H⟩ := H
 replace H : (if (t539.length : Int) = 0 then (some (0, 0, 0, false)) else (if 0 < (t539.length : Int) then (some ((rd_T40 t539 0).f0, (rd_T40 t539 0).f1, (rd_T40 t539 0).f2, true)) else (none))) = some (r1, r2, r3, r4) := H
 have A2 := Aside0.mk A20
 clear A20
 by_cases c3 : (t539.length : Int) = 0
 · rw [if_pos c3] at H
   have c3b0 : ((t539.length : Int) == 0) = true := beq_iff_eq.mpr c3
   have c3b1 : ((t539.length : Int) != 0) = false := bne_eq_false_iff_eq.mpr c3
   clear c3
   simp only [Option.some.injEq, Prod.mk.injEq] at H
   obtain ⟨rfl, rfl, rfl, rfl⟩ := H
   go_enter Tryz.func64, Tryz.ntmps64
   go_wp2_with (first | ((with_reducible refine gate_dst (N := 2) rfl ?_); refine box_event ?hg (N := 2) ?hd (cs := #[.int .i64 0, .int .i64 0, .int .i64 0]) (t := 40) ?hr ?_; (case hd => rfl); (case hg => rfl); (case hr => first | (go_simp; done) | (go_simp; rfl)); intro gb538 hg w4 hbox hb; have n0_ := Aside0.mk (below_step (by repeat (first | (with_reducible first | exact HB.out | apply below_alloc | apply pw_below_drewN | apply below_drew1) | exact HB.out)) hb); have n1_ := Aside0.mk (hbox); have n2_ := Aside0.mk ((by rw [hg]; exact (below_size (by repeat (first | (with_reducible first | exact HB.out | apply below_alloc | apply pw_below_drewN | apply below_drew1) | exact HB.out))) : w.heap.size ≤ gb538)); have n3_ := Aside0.mk ((by rw [hg]; exact (below_size (by repeat (first | (with_reducible first | exact HB.out | apply below_alloc | apply pw_below_drewN | apply below_drew1) | exact HB.out))) : w.heap.size ≤ gb538)); clear HB; have HB := n0_; have BK538 := n1_; have GW538 := n2_; have GE538 := n3_; clear n0_ n1_ n2_ n3_; clear hb hbox hg) | ((with_reducible refine gate_callee (f := 101) rfl ?_); refine goesL_ (some 6) rfl rfl Tryz.func101 (by kernel_rfl) rfl #[.slice A0 l0.length c0] rfl (by (try simp only [List.map_toArray, List.map_cons, List.map_nil]); first | done | rfl | (simp only [List.length_drop, List.length_take]; rfl)) ?_; (with_reducible refine (taint_All.calls k _ _ l0 t539 _ ?side1 ?side2 A2.out).mono ?_); (case side1 => repeat (first | exact (Kd.C_below HR0.out HB.out) | (with_reducible refine Kd.C_alloc ?_ _) | (with_reducible refine Kd.C_drewN ?_ _) | (with_reducible refine Kd.C_drew ?_))); (case side2 => exact HC0.out); rintro e w5 ⟨v540, rfl, ho0, hb⟩; refine ⟨_, rfl, ?_⟩; have n0_ := Aside0.mk (Kd.R_lower (Kd.R_newB ho0 (g := gb538) (o := .cells #[.int .i64 0, .int .i64 0, .int .i64 0] 40 (0, 0)) (by (with_reducible repeat (first | refine blk_drewN ?_ _ | refine blk_drew ?_ | refine blk_alloc ?_ _)); exact BK538.out)) (below_size (by repeat (first | (with_reducible first | exact HB.out | apply below_alloc | apply pw_below_drewN | apply below_drew1 | refine below_set ?_ GE538.out) | exact HB.out)))); have n1_ := Aside0.mk (blk_below (g := gb538) (o := .cells #[.int .i64 0, .int .i64 0, .int .i64 0] 40 (0, 0)) (by (with_reducible repeat (first | refine blk_drewN ?_ _ | refine blk_drew ?_ | refine blk_alloc ?_ _)); exact BK538.out) hb); have n2_ := Aside0.mk (below_step (by repeat (first | (with_reducible first | exact HB.out | apply below_alloc | apply pw_below_drewN | apply below_drew1 | refine below_set ?_ GE538.out) | exact HB.out)) hb); clear BK538; clear HB; have HO541 := n0_; have BK538 := n1_; have HB := n2_; clear n0_ n1_ n2_; (try clear hb); (try clear hb2); (try clear hk); (try clear hi); (try clear ho0); obtain ⟨Ao6, co6, eo6⟩ := Kd.R_slice HO541.out; subst eo6; have hcz7_0 : w5.cell? ⟨gb538, 0, none⟩ = some (.int .i64 0) := (blk_cell BK538.out 0).trans rfl; have hcz7_1 : w5.cell? ⟨gb538, 1, none⟩ = some (.int .i64 0) := (blk_cell BK538.out 1).trans rfl; have hcz7_2 : w5.cell? ⟨gb538, 2, none⟩ = some (.int .i64 0) := (blk_cell BK538.out 2).trans rfl; have hfz7_0 := blk_frozen BK538.out 0; have hfz7_1 := blk_frozen BK538.out 1; have hfz7_2 := blk_frozen BK538.out 2))
   refine bodyPost_ret (results_ct rfl _ _ gb538 40 #[.int .i64 0, .int .i64 0, .int .i64 0] (0, 0) _ rfl (by (with_reducible repeat (first | refine blk_drewN ?_ _ | refine blk_drew ?_ | refine blk_alloc ?_ _)); refine blk_put (cs := #[.int .i64 0, .int .i64 0, .int .i64 0]) ?_ 2 _ rfl; (with_reducible repeat (first | refine blk_drewN ?_ _ | refine blk_drew ?_ | refine blk_alloc ?_ _)); refine blk_put (cs := #[.int .i64 0, .int .i64 0, .int .i64 0]) ?_ 1 _ rfl; (with_reducible repeat (first | refine blk_drewN ?_ _ | refine blk_drew ?_ | refine blk_alloc ?_ _)); refine blk_put (cs := #[.int .i64 0, .int .i64 0, .int .i64 0]) ?_ 0 _ rfl; (with_reducible repeat (first | refine blk_drewN ?_ _ | refine blk_drew ?_ | refine blk_alloc ?_ _)); exact BK538.out) Tryz.underlying40 rfl (by kernel_rfl)) rfl ?_
   exact ⟨by first | rfl | (simp [errW_none, errW_some] <;> rfl) | (simp [*, errW_none, errW_some] <;> rfl), by repeat (first | (with_reducible first | exact HB.out | apply below_alloc | apply pw_below_drewN | apply below_drew1 | refine below_set ?_ GE538.out) | exact HB.out)⟩
 · rw [if_neg c3] at H
   have c3b0 : ((t539.length : Int) == 0) = false := beq_eq_false_iff_ne.mpr c3
   have c3b1 : ((t539.length : Int) != 0) = true := bne_iff_ne.mpr c3
   have c3b2 : ¬ (t539 = []) := fun h_ => c3 (by rw [h_]; rfl)
   by_cases c8 : 0 < (t539.length : Int)
   · rw [if_pos c8] at H
     have c8b0 : decide (0 < (t539.length : Int)) = true := decide_eq_true c8
     have c8b1 : decide (0 < t539.length) = true := decide_eq_true (by omega)
     clear c8
     simp only [Option.some.injEq, Prod.mk.injEq] at H
     obtain ⟨rfl, rfl, rfl, rfl⟩ := H
     go_enter Tryz.func64, Tryz.ntmps64
     go_wp2_with (first | ((with_reducible refine gate_dst (N := 2) rfl ?_); refine box_event ?hg (N := 2) ?hd (cs := #[.int .i64 0, .int .i64 0, .int .i64 0]) (t := 40) ?hr ?_; (case hd => rfl); (case hg => rfl); (case hr => first | (go_simp; done) | (go_simp; rfl)); intro gb538 hg w9 hbox hb; have n0_ := Aside0.mk (below_step (by repeat (first | (with_reducible first | exact HB.out | apply below_alloc | apply pw_below_drewN | apply below_drew1) | exact HB.out)) hb); have n1_ := Aside0.mk (hbox); have n2_ := Aside0.mk ((by rw [hg]; exact (below_size (by repeat (first | (with_reducible first | exact HB.out | apply below_alloc | apply pw_below_drewN | apply below_drew1) | exact HB.out))) : w.heap.size ≤ gb538)); have n3_ := Aside0.mk ((by rw [hg]; exact (below_size (by repeat (first | (with_reducible first | exact HB.out | apply below_alloc | apply pw_below_drewN | apply below_drew1) | exact HB.out))) : w.heap.size ≤ gb538)); clear HB; have HB := n0_; have BK538 := n1_; have GW538 := n2_; have GE538 := n3_; clear n0_ n1_ n2_ n3_; clear hb hbox hg) | ((with_reducible refine gate_callee (f := 101) rfl ?_); refine goesL_ (some 6) rfl rfl Tryz.func101 (by kernel_rfl) rfl #[.slice A0 l0.length c0] rfl (by (try simp only [List.map_toArray, List.map_cons, List.map_nil]); first | done | rfl | (simp only [List.length_drop, List.length_take]; rfl)) ?_; (with_reducible refine (taint_All.calls k _ _ l0 t539 _ ?side1 ?side2 A2.out).mono ?_); (case side1 => repeat (first | exact (Kd.C_below HR0.out HB.out) | (with_reducible refine Kd.C_alloc ?_ _) | (with_reducible refine Kd.C_drewN ?_ _) | (with_reducible refine Kd.C_drew ?_))); (case side2 => exact HC0.out); rintro e w10 ⟨v540, rfl, ho0, hb⟩; refine ⟨_, rfl, ?_⟩; have n0_ := Aside0.mk (Kd.R_lower (Kd.R_newB ho0 (g := gb538) (o := .cells #[.int .i64 0, .int .i64 0, .int .i64 0] 40 (0, 0)) (by (with_reducible repeat (first | refine blk_drewN ?_ _ | refine blk_drew ?_ | refine blk_alloc ?_ _)); exact BK538.out)) (below_size (by repeat (first | (with_reducible first | exact HB.out | apply below_alloc | apply pw_below_drewN | apply below_drew1 | refine below_set ?_ GE538.out) | exact HB.out)))); have n1_ := Aside0.mk (blk_below (g := gb538) (o := .cells #[.int .i64 0, .int .i64 0, .int .i64 0] 40 (0, 0)) (by (with_reducible repeat (first | refine blk_drewN ?_ _ | refine blk_drew ?_ | refine blk_alloc ?_ _)); exact BK538.out) hb); have n2_ := Aside0.mk (below_step (by repeat (first | (with_reducible first | exact HB.out | apply below_alloc | apply pw_below_drewN | apply below_drew1 | refine below_set ?_ GE538.out) | exact HB.out)) hb); clear BK538; clear HB; have HO541 := n0_; have BK538 := n1_; have HB := n2_; clear n0_ n1_ n2_; (try clear hb); (try clear hb2); (try clear hk); (try clear hi); (try clear ho0); obtain ⟨Ao11, co11, eo11⟩ := Kd.R_slice HO541.out; subst eo11; have p542 : 0 ≤ (0 : Int) := (by omega); have q542 : 0 < (t539.length : Int) := of_decide_eq_true (by first | (with_reducible assumption) | assumption); obtain ⟨ad542, e542, hx542_0, hx542_1, hx542_2⟩ := at_T40 (Kd.R_reads' HO541.out).2.2 0 p542 q542; cases e542; have qi542 : (0 < t539.length) = True := eq_true (by omega); (try rw [show ((0 : Int)).toNat = 0 from rfl] at hx542_0); (try rw [show 0 * 3 = 0 from rfl] at hx542_0); (try rw [Addr.add_zero'] at hx542_0); (try rw [show ((0 : Int)).toNat = 0 from rfl] at hx542_1); (try rw [show 0 * 3 = 0 from rfl] at hx542_1); (try rw [Addr.add_zero'] at hx542_1); (try rw [show ((0 : Int)).toNat = 0 from rfl] at hx542_2); (try rw [show 0 * 3 = 0 from rfl] at hx542_2); (try rw [Addr.add_zero'] at hx542_2); replace p542 := eq_true p542; replace q542 := eq_true q542; have hcz12_0 : w10.cell? ⟨gb538, 0, none⟩ = some (.int .i64 0) := (blk_cell BK538.out 0).trans rfl; have hcz12_1 : w10.cell? ⟨gb538, 1, none⟩ = some (.int .i64 0) := (blk_cell BK538.out 1).trans rfl; have hcz12_2 : w10.cell? ⟨gb538, 2, none⟩ = some (.int .i64 0) := (blk_cell BK538.out 2).trans rfl; have hfz12_0 := blk_frozen BK538.out 0; have hfz12_1 := blk_frozen BK538.out 1; have hfz12_2 := blk_frozen BK538.out 2))
     refine bodyPost_ret (results_ct rfl _ _ gb538 40 #[.int .i64 ((rd_T40 t539 0).f0), .int .i64 ((rd_T40 t539 0).f1), .int .i64 ((rd_T40 t539 0).f2)] (0, 0) _ rfl (by (with_reducible repeat (first | refine blk_drewN ?_ _ | refine blk_drew ?_ | refine blk_alloc ?_ _)); refine blk_put (cs := #[.int .i64 ((rd_T40 t539 0).f0), .int .i64 ((rd_T40 t539 0).f1), .int .i64 0]) ?_ 2 _ rfl; (with_reducible repeat (first | refine blk_drewN ?_ _ | refine blk_drew ?_ | refine blk_alloc ?_ _)); refine blk_put (cs := #[.int .i64 ((rd_T40 t539 0).f0), .int .i64 0, .int .i64 0]) ?_ 1 _ rfl; (with_reducible repeat (first | refine blk_drewN ?_ _ | refine blk_drew ?_ | refine blk_alloc ?_ _)); refine blk_put (cs := #[.int .i64 0, .int .i64 0, .int .i64 0]) ?_ 0 _ rfl; (with_reducible repeat (first | refine blk_drewN ?_ _ | refine blk_drew ?_ | refine blk_alloc ?_ _)); exact BK538.out) Tryz.underlying40 rfl (by kernel_rfl)) rfl ?_
     exact ⟨by first | rfl | (simp [errW_none, errW_some] <;> rfl) | (simp [*, errW_none, errW_some] <;> rfl), by repeat (first | (with_reducible first | exact HB.out | apply below_alloc | apply pw_below_drewN | apply below_drew1 | refine below_set ?_ GE538.out) | exact HB.out)⟩
   · rw [if_neg c8] at H
     exact absurd H (by simp)
end Go.Proofs.YtebjiimlcnmfpaaGreatPr
