/- Contracts of Go functions, printed by a program of this session over the translation: each call answers what its Lean function says. -/
import Derived.Test.YtebjiimlcnmfpaaGreatPr0
import Derived.Test.YtebjiimlcnmfpaaGreatPrCartouchelaw13Shown
import Derived.Test.YtebjiimlcnmfpaaGreatPrCartouchelaw13Few
import Derived.Test.YtebjiimlcnmfpaaGreatB16
namespace Go.Proofs.YtebjiimlcnmfpaaGreatPr
open Go.RowKit Go.Proofs.YtebjiimlcnmfpaaGreatW.PrintWords Go.Proofs.YtebjiimlcnmfpaaGreatW.PrintLast Go.Proofs.YtebjiimlcnmfpaaGreatW.PrintMore
attribute [local go_sem] max2_int min2_int max_two min_two max_three min_three max_four min_four   -- for this text's walks alone
set_option linter.unusedVariables false
set_option linter.unusedSimpArgs false
/-! ### cartouchelaw13_CheckTurned: function 12 -/
def cartouchelaw13_CheckTurned.j0 : Nat → List (S50) → Bool → Bool → Int → Bool → List Int → Int → Int → Int → List (S24) → Option (Bool)
 | 0, _, _, _, _, _, _, _, _, _, _ => none
 | k + 1, x0, x7, x45, x672000, x672001, x672002, x672003, x672004, x672005, x672006 => if x45 = true then (some x7) else (if x7 = true then ((check_Check.f x0 x672000 x672001 x672002 x672003 x672004 x672005 x672006).bind fun t675 => (some (t675 == 14))) else (some false))
def cartouchelaw13_CheckTurned.f (k : Nat) (l0 : List (S50)) (a1_0 : Int) (a1_1 : Bool) (l1_2 : List Int) (a1_3 : Int) (a1_4 : Int) (a1_5 : Int) (l1_6 : List (S24)) (a2_0 : Int) (a2_1 : Bool) (l2_2 : List Int) (a2_3 : Int) (a2_4 : Int) (a2_5 : Int) (l2_6 : List (S24)) : Option (Bool) := (cartouchelaw13_shown.f).bind fun t672 => ((cartouchelaw13_few.f k l0).bind fun t673 => (if t673 = true then (if (l1_6.length : Int) > 200 then (cartouchelaw13_CheckTurned.j0 k l0 t672 true a2_0 a2_1 l2_2 a2_3 a2_4 a2_5 l2_6) else (if (l2_6.length : Int) > 200 then (cartouchelaw13_CheckTurned.j0 k l0 t672 true a2_0 a2_1 l2_2 a2_3 a2_4 a2_5 l2_6) else (if a1_0 = a2_0 then (if (a1_1 == a2_1) = true then (cartouchelaw13_CheckTurned.j0 k l0 t672 true a2_0 a2_1 l2_2 a2_3 a2_4 a2_5 l2_6) else ((check_Check.f l0 a1_0 a1_1 l1_2 a1_3 a1_4 a1_5 l1_6).bind fun t674 => (cartouchelaw13_CheckTurned.j0 k l0 t672 (t674 != 0) a2_0 a2_1 l2_2 a2_3 a2_4 a2_5 l2_6))) else (cartouchelaw13_CheckTurned.j0 k l0 t672 true a2_0 a2_1 l2_2 a2_3 a2_4 a2_5 l2_6)))) else (cartouchelaw13_CheckTurned.j0 k l0 t672 true a2_0 a2_1 l2_2 a2_3 a2_4 a2_5 l2_6)))
theorem cartouchelaw13_CheckTurned.mono_l : ∀ k, (∀ y0 y1 y2 y3 y4 y5 y6 y7 y8 y9, LeO (cartouchelaw13_CheckTurned.j0 k y0 y1 y2 y3 y4 y5 y6 y7 y8 y9) (cartouchelaw13_CheckTurned.j0 (k + 1) y0 y1 y2 y3 y4 y5 y6 y7 y8 y9))
 | 0 => fun _ _ _ _ _ _ _ _ _ _ r h => by simp [cartouchelaw13_CheckTurned.j0] at h
 | k + 1 => by
  have ih0 := cartouchelaw13_CheckTurned.mono_l k
  · intro y0 y1 y2 y3 y4 y5 y6 y7 y8 y9
    unfold cartouchelaw13_CheckTurned.j0
    repeat' first
    | (with_reducible exact ih0 _ _ _ _ _ _ _ _ _ _)
    | (with_reducible exact cartouchelaw13_few.mono _ _)
    | (with_reducible exact LeO.refl _)
    | (with_reducible exact LeO.none _)
    | (with_reducible refine LeO.ite ?_ ?_)
    | (with_reducible refine LeO.bind ?_ (fun _ => ?_))
    | exact ih0 _ _ _ _ _ _ _ _ _ _
    | exact cartouchelaw13_few.mono _ _
    | exact LeO.none _
    | refine LeO.ite ?_ ?_
    | refine LeO.bind ?_ (fun _ => ?_)
theorem cartouchelaw13_CheckTurned.mono : ∀ a0 a1 a2 a3 a4 a5 a6 a7 a8 a9 a10 a11 a12 a13 a14 k, LeO (cartouchelaw13_CheckTurned.f k a0 a1 a2 a3 a4 a5 a6 a7 a8 a9 a10 a11 a12 a13 a14) (cartouchelaw13_CheckTurned.f (k + 1) a0 a1 a2 a3 a4 a5 a6 a7 a8 a9 a10 a11 a12 a13 a14) := by
 intro a0 a1 a2 a3 a4 a5 a6 a7 a8 a9 a10 a11 a12 a13 a14 k
 have ih0 := cartouchelaw13_CheckTurned.mono_l k
 unfold cartouchelaw13_CheckTurned.f
 repeat' first
  | (with_reducible exact ih0 _ _ _ _ _ _ _ _ _ _)
  | (with_reducible exact cartouchelaw13_few.mono _ _)
  | (with_reducible exact LeO.refl _)
  | (with_reducible exact LeO.none _)
  | (with_reducible refine LeO.ite ?_ ?_)
  | (with_reducible refine LeO.bind ?_ (fun _ => ?_))
  | exact ih0 _ _ _ _ _ _ _ _ _ _
  | exact cartouchelaw13_few.mono _ _
  | exact LeO.none _
  | refine LeO.ite ?_ ?_
  | refine LeO.bind ?_ (fun _ => ?_)
set_option maxHeartbeats 8000000 in
set_option maxRecDepth 100000 in
theorem cartouchelaw13_CheckTurned.calls (k : Nat) (A0 : Option Addr) (c0 : Nat) (l0 : List (S50)) (a1_0 : Int) (a1_1 : Bool) (A1_2 : Option Addr) (c1_2 : Nat) (l1_2 : List Int) (a1_3 : Int) (a1_4 : Int) (a1_5 : Int) (A1_6 : Option Addr) (c1_6 : Nat) (l1_6 : List (S24)) (a2_0 : Int) (a2_1 : Bool) (A2_2 : Option Addr) (c2_2 : Nat) (l2_2 : List Int) (a2_3 : Int) (a2_4 : Int) (a2_5 : Int) (A2_6 : Option Addr) (c2_6 : Nat) (l2_6 : List (S24)) (r : Bool) (w : World) (hr0 : Kd.C k50 w A0 l0.length l0) (hc0 : l0.length ≤ c0) (hr1_2 : Kd.C (Kd.int .i64) w A1_2 l1_2.length l1_2) (hc1_2 : l1_2.length ≤ c1_2) (hr1_6 : Kd.C k24 w A1_6 l1_6.length l1_6) (hc1_6 : l1_6.length ≤ c1_6) (hr2_2 : Kd.C (Kd.int .i64) w A2_2 l2_2.length l2_2) (hc2_2 : l2_2.length ≤ c2_2) (hr2_6 : Kd.C k24 w A2_6 l2_6.length l2_6) (hc2_6 : l2_6.length ≤ c2_6) (h : cartouchelaw13_CheckTurned.f k l0 a1_0 a1_1 l1_2 a1_3 a1_4 a1_5 l1_6 a2_0 a2_1 l2_2 a2_3 a2_4 a2_5 l2_6 = some r) :
 Calls Tryz.prog 12 #[.slice A0 l0.length c0, .agg #[.int .i64 a1_0, .bool a1_1, .slice A1_2 l1_2.length c1_2, .int .i64 a1_3, .int .i64 a1_4, .int .i64 a1_5, .slice A1_6 l1_6.length c1_6], .agg #[.int .i64 a2_0, .bool a2_1, .slice A2_2 l2_2.length c2_2, .int .i64 a2_3, .int .i64 a2_4, .int .i64 a2_5, .slice A2_6 l2_6.length c2_6]] w fun e w' => e = .returned (.bool r) ∧ Below w.heap.size w w' := by
 have hu42 := Tryz.underlying42
 have HR0 := Aside0.mk hr0
 have HC0 := Aside0.mk hc0
 clear hr0 hc0
 have HR1_2 := Aside0.mk hr1_2
 have HC1_2 := Aside0.mk hc1_2
 clear hr1_2 hc1_2
 have HR1_6 := Aside0.mk hr1_6
 have HC1_6 := Aside0.mk hc1_6
 clear hr1_6 hc1_6
 have HR2_2 := Aside0.mk hr2_2
 have HC2_2 := Aside0.mk hc2_2
 clear hr2_2 hc2_2
 have HR2_6 := Aside0.mk hr2_6
 have HC2_6 := Aside0.mk hc2_6
 clear hr2_6 hc2_6
 have HB := Aside0.mk (Below.refl w.heap.size w)
 have H : ((cartouchelaw13_shown.f).bind fun t672 => ((cartouchelaw13_few.f k l0).bind fun t673 => (if t673 = true then (if (l1_6.length : Int) > 200 then (cartouchelaw13_CheckTurned.j0 k l0 t672 true a2_0 a2_1 l2_2 a2_3 a2_4 a2_5 l2_6) else (if (l2_6.length : Int) > 200 then (cartouchelaw13_CheckTurned.j0 k l0 t672 true a2_0 a2_1 l2_2 a2_3 a2_4 a2_5 l2_6) else (if a1_0 = a2_0 then (if (a1_1 == a2_1) = true then (cartouchelaw13_CheckTurned.j0 k l0 t672 true a2_0 a2_1 l2_2 a2_3 a2_4 a2_5 l2_6) else ((check_Check.f l0 a1_0 a1_1 l1_2 a1_3 a1_4 a1_5 l1_6).bind fun t674 => (cartouchelaw13_CheckTurned.j0 k l0 t672 (t674 != 0) a2_0 a2_1 l2_2 a2_3 a2_4 a2_5 l2_6))) else (cartouchelaw13_CheckTurned.j0 k l0 t672 true a2_0 a2_1 l2_2 a2_3 a2_4 a2_5 l2_6)))) else (cartouchelaw13_CheckTurned.j0 k l0 t672 true a2_0 a2_1 l2_2 a2_3 a2_4 a2_5 l2_6)))) = some r := h
 clear h
 replace H := Option.bind_eq_some_iff.mp H
 obtain ⟨t672, A40, H⟩ := H
 replace H : ((cartouchelaw13_few.f k l0).bind fun t673 => (if t673 = true then (if (l1_6.length : Int) > 200 then (cartouchelaw13_CheckTurned.j0 k l0 t672 true a2_0 a2_1 l2_2 a2_3 a2_4 a2_5 l2_6) else (if (l2_6.length : Int) > 200 then (cartouchelaw13_CheckTurned.j0 k l0 t672 true a2_0 a2_1 l2_2 a2_3 a2_4 a2_5 l2_6) else (if a1_0 = a2_0 then (if (a1_1 == a2_1) = true then (cartouchelaw13_CheckTurned.j0 k l0 t672 true a2_0 a2_1 l2_2 a2_3 a2_4 a2_5 l2_6) else ((check_Check.f l0 a1_0 a1_1 l1_2 a1_3 a1_4 a1_5 l1_6).bind fun t674 => (cartouchelaw13_CheckTurned.j0 k l0 t672 (t674 != 0) a2_0 a2_1 l2_2 a2_3 a2_4 a2_5 l2_6))) else (cartouchelaw13_CheckTurned.j0 k l0 t672 true a2_0 a2_1 l2_2 a2_3 a2_4 a2_5 l2_6)))) else (cartouchelaw13_CheckTurned.j0 k l0 t672 true a2_0 a2_1 l2_2 a2_3 a2_4 a2_5 l2_6))) = some r := H
 have A4 := Aside0.mk A40
 clear A40
 replace H := Option.bind_eq_some_iff.mp H
 obtain ⟨t673, A50, H⟩ := H
 replace H : (if t673 = true then (if (l1_6.length : Int) > 200 then (cartouchelaw13_CheckTurned.j0 k l0 t672 true a2_0 a2_1 l2_2 a2_3 a2_4 a2_5 l2_6) else (if (l2_6.length : Int) > 200 then (cartouchelaw13_CheckTurned.j0 k l0 t672 true a2_0 a2_1 l2_2 a2_3 a2_4 a2_5 l2_6) else (if a1_0 = a2_0 then (if (a1_1 == a2_1) = true then (cartouchelaw13_CheckTurned.j0 k l0 t672 true a2_0 a2_1 l2_2 a2_3 a2_4 a2_5 l2_6) else ((check_Check.f l0 a1_0 a1_1 l1_2 a1_3 a1_4 a1_5 l1_6).bind fun t674 => (cartouchelaw13_CheckTurned.j0 k l0 t672 (t674 != 0) a2_0 a2_1 l2_2 a2_3 a2_4 a2_5 l2_6))) else (cartouchelaw13_CheckTurned.j0 k l0 t672 true a2_0 a2_1 l2_2 a2_3 a2_4 a2_5 l2_6)))) else (cartouchelaw13_CheckTurned.j0 k l0 t672 true a2_0 a2_1 l2_2 a2_3 a2_4 a2_5 l2_6)) = some r := H
 have A5 := Aside0.mk A50
 clear A50
 have HC6 := Aside0.mk H
 clear H
 go_enter Tryz.func12, Tryz.ntmps12
 go_upto_region 3 with (first | ((with_reducible refine gate_dst (N := 4) rfl ?_); (try (refine gate_guard (by rfl) ?_; dsimp only)); refine box_event ?hg (N := 4) ?hd (cs := #[.int .i64 a1_0, .bool a1_1, .slice A1_2 l1_2.length c1_2, .int .i64 a1_3, .int .i64 a1_4, .int .i64 a1_5, .slice A1_6 l1_6.length c1_6]) (t := 42) ?hr ?_; (case hd => rfl); (case hg => rfl); (case hr => first | (go_simp; done) | (go_simp; rfl)); intro gb670 hg w7 hbox hb; have n0_ := Aside0.mk (below_step (by repeat (first | (with_reducible first | exact HB.out | apply below_alloc | apply pw_below_drewN | apply below_drew1) | exact HB.out)) hb); have n1_ := Aside0.mk (hbox); have n2_ := Aside0.mk ((by rw [hg]; exact (below_size (by repeat (first | (with_reducible first | exact HB.out | apply below_alloc | apply pw_below_drewN | apply below_drew1) | exact HB.out))) : w.heap.size ≤ gb670)); have n3_ := Aside0.mk ((by rw [hg]; exact (below_size (by repeat (first | (with_reducible first | exact HB.out | apply below_alloc | apply pw_below_drewN | apply below_drew1) | exact HB.out))) : w.heap.size ≤ gb670)); clear HB; have HB := n0_; have BK670 := n1_; have GW670 := n2_; have GE670 := n3_; clear n0_ n1_ n2_ n3_; clear hb hbox hg) | ((with_reducible refine gate_dst (N := 5) rfl ?_); (try (refine gate_guard (by rfl) ?_; dsimp only)); refine box_event ?hg (N := 5) ?hd (cs := #[.int .i64 a2_0, .bool a2_1, .slice A2_2 l2_2.length c2_2, .int .i64 a2_3, .int .i64 a2_4, .int .i64 a2_5, .slice A2_6 l2_6.length c2_6]) (t := 42) ?hr ?_; (case hd => rfl); (case hg => rfl); (case hr => first | (go_simp; done) | (go_simp; rfl)); intro gb671 hg w8 hbox hb; have n0_ := Aside0.mk (blk_below (g := gb670) (o := .cells #[.int .i64 a1_0, .bool a1_1, .slice A1_2 l1_2.length c1_2, .int .i64 a1_3, .int .i64 a1_4, .int .i64 a1_5, .slice A1_6 l1_6.length c1_6] 42 (0, 0)) (by (with_reducible repeat (first | refine blk_drewN ?_ _ | refine blk_drew ?_ | refine blk_alloc ?_ _)); exact BK670.out) hb); have n1_ := Aside0.mk (below_step (by repeat (first | (with_reducible first | exact HB.out | apply below_alloc | apply pw_below_drewN | apply below_drew1 | refine below_set ?_ GE670.out) | exact HB.out)) hb); have n2_ := Aside0.mk (hbox); have n3_ := Aside0.mk ((by rw [hg]; exact (below_size (by repeat (first | (with_reducible first | exact HB.out | apply below_alloc | apply pw_below_drewN | apply below_drew1 | refine below_set ?_ GE670.out) | exact HB.out))) : w.heap.size ≤ gb671)); have n4_ := Aside0.mk ((by rw [hg]; exact (below_size (by repeat (first | (with_reducible first | exact HB.out | apply below_alloc | apply pw_below_drewN | apply below_drew1 | refine below_set ?_ GE670.out) | exact HB.out))) : w.heap.size ≤ gb671)); have n5_ := Aside0.mk ((by rw [hg]; exact Nat.ne_of_lt (blk_lt (g := gb670) (o := .cells #[.int .i64 a1_0, .bool a1_1, .slice A1_2 l1_2.length c1_2, .int .i64 a1_3, .int .i64 a1_4, .int .i64 a1_5, .slice A1_6 l1_6.length c1_6] 42 (0, 0)) (by (with_reducible repeat (first | refine blk_drewN ?_ _ | refine blk_drew ?_ | refine blk_alloc ?_ _)); exact BK670.out)) : gb670 ≠ gb671)); have n6_ := Aside0.mk ((by rw [hg]; exact Nat.ne_of_gt (blk_lt (g := gb670) (o := .cells #[.int .i64 a1_0, .bool a1_1, .slice A1_2 l1_2.length c1_2, .int .i64 a1_3, .int .i64 a1_4, .int .i64 a1_5, .slice A1_6 l1_6.length c1_6] 42 (0, 0)) (by (with_reducible repeat (first | refine blk_drewN ?_ _ | refine blk_drew ?_ | refine blk_alloc ?_ _)); exact BK670.out)) : gb671 ≠ gb670)); clear BK670; clear HB; have BK670 := n0_; have HB := n1_; have BK671 := n2_; have GW671 := n3_; have GE671 := n4_; have NB670_671 := n5_; have NB671_670 := n6_; clear n0_ n1_ n2_ n3_ n4_ n5_ n6_; clear hb hbox hg) | ((with_reducible refine gate_callee (f := 36) rfl ?_); refine goesL_ (some 9) rfl rfl Tryz.func36 (by kernel_rfl) rfl #[] rfl (by (try simp only [List.map_toArray, List.map_cons, List.map_nil]); first | done | rfl | (simp only [List.length_drop, List.length_take]; rfl)) ?_; (with_reducible refine (cartouchelaw13_shown.calls  t672 _ A4.out).mono ?_); rintro e w9 ⟨rfl, hb⟩; refine ⟨_, rfl, ?_⟩; have n0_ := Aside0.mk (blk_below (g := gb670) (o := .cells #[.int .i64 a1_0, .bool a1_1, .slice A1_2 l1_2.length c1_2, .int .i64 a1_3, .int .i64 a1_4, .int .i64 a1_5, .slice A1_6 l1_6.length c1_6] 42 (0, 0)) (by (with_reducible repeat (first | refine blk_drewN ?_ _ | refine blk_drew ?_ | refine blk_alloc ?_ _)); exact BK670.out) hb); have n1_ := Aside0.mk (blk_below (g := gb671) (o := .cells #[.int .i64 a2_0, .bool a2_1, .slice A2_2 l2_2.length c2_2, .int .i64 a2_3, .int .i64 a2_4, .int .i64 a2_5, .slice A2_6 l2_6.length c2_6] 42 (0, 0)) (by (with_reducible repeat (first | refine blk_drewN ?_ _ | refine blk_drew ?_ | refine blk_alloc ?_ _)); exact BK671.out) hb); have n2_ := Aside0.mk (below_step (by repeat (first | (with_reducible first | exact HB.out | apply below_alloc | apply pw_below_drewN | apply below_drew1 | refine below_set ?_ GE670.out | refine below_set ?_ GE671.out) | exact HB.out)) hb); clear BK670; clear BK671; clear HB; have BK670 := n0_; have BK671 := n1_; have HB := n2_; clear n0_ n1_ n2_; (try clear hb); (try clear hb2); (try clear hk); (try clear hi)) | ((with_reducible refine gate_callee (f := 37) rfl ?_); refine goesL_ (some 11) rfl rfl Tryz.func37 (by kernel_rfl) rfl #[.slice A0 l0.length c0] rfl (by (try simp only [List.map_toArray, List.map_cons, List.map_nil]); first | done | rfl | (simp only [List.length_drop, List.length_take]; rfl)) ?_; (with_reducible refine (cartouchelaw13_few.calls k _ _ l0 t673 _ ?side1 ?side2 A5.out).mono ?_); (case side1 => repeat (first | exact (Kd.C_below HR0.out HB.out) | (with_reducible refine Kd.C_alloc ?_ _) | (with_reducible refine Kd.C_drewN ?_ _) | (with_reducible refine Kd.C_drew ?_))); (case side2 => exact HC0.out); rintro e w' ⟨rfl, ⟨nd, rfl⟩⟩; refine ⟨_, rfl, ?_⟩))
 (try simp only [Act.put, List.setIfInBounds_toArray, List.set_cons_zero, List.set_cons_succ])
 go_cut [45] (fun v45 wc => ∃ (kq : Nat) (x45_5 : Bool), v45 = .bool x45_5 ∧ Aside0 (cartouchelaw13_CheckTurned.j0 kq l0 t672 x45_5 a2_0 a2_1 l2_2 a2_3 a2_4 a2_5 l2_6 = some r) ∧ Aside0 (kq ≤ k) ∧ Aside0 (wc.heap[gb670]? = some (.cells #[.int .i64 a1_0, .bool a1_1, (.slice A1_2 l1_2.length c1_2), .int .i64 a1_3, .int .i64 a1_4, .int .i64 a1_5, (.slice A1_6 l1_6.length c1_6)] 42 (0, 0))) ∧ Aside0 (wc.heap[gb671]? = some (.cells #[.int .i64 a2_0, .bool a2_1, (.slice A2_2 l2_2.length c2_2), .int .i64 a2_3, .int .i64 a2_4, .int .i64 a2_5, (.slice A2_6 l2_6.length c2_6)] 42 (0, 0))) ∧ Aside0 (Below w.heap.size w wc))
 case first =>
  have H := HC6.out
  clear HC6
  by_cases c10 : t673 = true
  · subst c10
    have H1 : (if (l1_6.length : Int) > 200 then (cartouchelaw13_CheckTurned.j0 k l0 t672 true a2_0 a2_1 l2_2 a2_3 a2_4 a2_5 l2_6) else (if (l2_6.length : Int) > 200 then (cartouchelaw13_CheckTurned.j0 k l0 t672 true a2_0 a2_1 l2_2 a2_3 a2_4 a2_5 l2_6) else (if a1_0 = a2_0 then (if (a1_1 == a2_1) = true then (cartouchelaw13_CheckTurned.j0 k l0 t672 true a2_0 a2_1 l2_2 a2_3 a2_4 a2_5 l2_6) else ((check_Check.f l0 a1_0 a1_1 l1_2 a1_3 a1_4 a1_5 l1_6).bind fun t674 => (cartouchelaw13_CheckTurned.j0 k l0 t672 (t674 != 0) a2_0 a2_1 l2_2 a2_3 a2_4 a2_5 l2_6))) else (cartouchelaw13_CheckTurned.j0 k l0 t672 true a2_0 a2_1 l2_2 a2_3 a2_4 a2_5 l2_6)))) = some r := by rw [if_pos rfl] at H; exact H
    clear H
    have H := H1
    clear H1
    by_cases c11 : (l1_6.length : Int) > 200
    · rw [if_pos c11] at H
      have c11b0 : decide (200 < (l1_6.length : Int)) = true := decide_eq_true c11
      have c11b1 : decide (200 < l1_6.length) = true := decide_eq_true (by omega)
      clear c11
      (first | rw [c11b0] | (simp only [i64_w, i32_w]; rw [c11b0]) | skip)
      have H' := Aside0.mk H
      clear H
      have hnb12 := NB670_671.out
      have hnc12 := NB671_670.out
      have hcz13_0 : w9.cell? ⟨gb670, 0, none⟩ = some (.int .i64 a1_0) := (blk_cell BK670.out 0).trans rfl
      have hcz13_1 : w9.cell? ⟨gb670, 1, none⟩ = some (.bool a1_1) := (blk_cell BK670.out 1).trans rfl
      have hcz13_2 : w9.cell? ⟨gb670, 2, none⟩ = some (.slice A1_2 l1_2.length c1_2) := (blk_cell BK670.out 2).trans rfl
      have hcz13_3 : w9.cell? ⟨gb670, 3, none⟩ = some (.int .i64 a1_3) := (blk_cell BK670.out 3).trans rfl
      have hcz13_4 : w9.cell? ⟨gb670, 4, none⟩ = some (.int .i64 a1_4) := (blk_cell BK670.out 4).trans rfl
      have hcz13_5 : w9.cell? ⟨gb670, 5, none⟩ = some (.int .i64 a1_5) := (blk_cell BK670.out 5).trans rfl
      have hcz13_6 : w9.cell? ⟨gb670, 6, none⟩ = some (.slice A1_6 l1_6.length c1_6) := (blk_cell BK670.out 6).trans rfl
      have hfz13_0 := blk_frozen BK670.out 0
      have hfz13_1 := blk_frozen BK670.out 1
      have hfz13_2 := blk_frozen BK670.out 2
      have hfz13_3 := blk_frozen BK670.out 3
      have hfz13_4 := blk_frozen BK670.out 4
      have hfz13_5 := blk_frozen BK670.out 5
      have hfz13_6 := blk_frozen BK670.out 6
      go_wp2
      go_meet
      case rel => exact ⟨_, (true), (by first | rfl | (simp; done) | (simp [*]; done)), H', ⟨by first | omega | exact Nat.le_refl _⟩, ⟨by (with_reducible repeat (first | refine blk_drewN ?_ _ | refine blk_drew ?_ | refine blk_alloc ?_ _)); exact BK670.out⟩, ⟨by (with_reducible repeat (first | refine blk_drewN ?_ _ | refine blk_drew ?_ | refine blk_alloc ?_ _)); exact BK671.out⟩, ⟨by repeat (first | (with_reducible first | exact HB.out | apply below_alloc | apply pw_below_drewN | apply below_drew1 | refine below_set ?_ GE670.out | refine below_set ?_ GE671.out) | exact HB.out)⟩⟩
    · rw [if_neg c11] at H
      have c11b0 : decide (200 < (l1_6.length : Int)) = false := decide_eq_false c11
      have c11b1 : decide (200 < l1_6.length) = false := decide_eq_false (by omega)
      clear c11
      (first | rw [c11b0] | (simp only [i64_w, i32_w]; rw [c11b0]) | skip)
      by_cases c14 : (l2_6.length : Int) > 200
      · rw [if_pos c14] at H
        have c14b0 : decide (200 < (l2_6.length : Int)) = true := decide_eq_true c14
        have c14b1 : decide (200 < l2_6.length) = true := decide_eq_true (by omega)
        clear c14
        have H' := Aside0.mk H
        clear H
        have hnb15 := NB670_671.out
        have hnc15 := NB671_670.out
        have hcz16_0 : w9.cell? ⟨gb670, 0, none⟩ = some (.int .i64 a1_0) := (blk_cell BK670.out 0).trans rfl
        have hcz16_1 : w9.cell? ⟨gb670, 1, none⟩ = some (.bool a1_1) := (blk_cell BK670.out 1).trans rfl
        have hcz16_2 : w9.cell? ⟨gb670, 2, none⟩ = some (.slice A1_2 l1_2.length c1_2) := (blk_cell BK670.out 2).trans rfl
        have hcz16_3 : w9.cell? ⟨gb670, 3, none⟩ = some (.int .i64 a1_3) := (blk_cell BK670.out 3).trans rfl
        have hcz16_4 : w9.cell? ⟨gb670, 4, none⟩ = some (.int .i64 a1_4) := (blk_cell BK670.out 4).trans rfl
        have hcz16_5 : w9.cell? ⟨gb670, 5, none⟩ = some (.int .i64 a1_5) := (blk_cell BK670.out 5).trans rfl
        have hcz16_6 : w9.cell? ⟨gb670, 6, none⟩ = some (.slice A1_6 l1_6.length c1_6) := (blk_cell BK670.out 6).trans rfl
        have hfz16_0 := blk_frozen BK670.out 0
        have hfz16_1 := blk_frozen BK670.out 1
        have hfz16_2 := blk_frozen BK670.out 2
        have hfz16_3 := blk_frozen BK670.out 3
        have hfz16_4 := blk_frozen BK670.out 4
        have hfz16_5 := blk_frozen BK670.out 5
        have hfz16_6 := blk_frozen BK670.out 6
        have hcz17_0 : w9.cell? ⟨gb671, 0, none⟩ = some (.int .i64 a2_0) := (blk_cell BK671.out 0).trans rfl
        have hcz17_1 : w9.cell? ⟨gb671, 1, none⟩ = some (.bool a2_1) := (blk_cell BK671.out 1).trans rfl
        have hcz17_2 : w9.cell? ⟨gb671, 2, none⟩ = some (.slice A2_2 l2_2.length c2_2) := (blk_cell BK671.out 2).trans rfl
        have hcz17_3 : w9.cell? ⟨gb671, 3, none⟩ = some (.int .i64 a2_3) := (blk_cell BK671.out 3).trans rfl
        have hcz17_4 : w9.cell? ⟨gb671, 4, none⟩ = some (.int .i64 a2_4) := (blk_cell BK671.out 4).trans rfl
        have hcz17_5 : w9.cell? ⟨gb671, 5, none⟩ = some (.int .i64 a2_5) := (blk_cell BK671.out 5).trans rfl
        have hcz17_6 : w9.cell? ⟨gb671, 6, none⟩ = some (.slice A2_6 l2_6.length c2_6) := (blk_cell BK671.out 6).trans rfl
        have hfz17_0 := blk_frozen BK671.out 0
        have hfz17_1 := blk_frozen BK671.out 1
        have hfz17_2 := blk_frozen BK671.out 2
        have hfz17_3 := blk_frozen BK671.out 3
        have hfz17_4 := blk_frozen BK671.out 4
        have hfz17_5 := blk_frozen BK671.out 5
        have hfz17_6 := blk_frozen BK671.out 6
        go_wp2
        go_meet
        case rel => exact ⟨_, (true), (by first | rfl | (simp; done) | (simp [*]; done)), H', ⟨by first | omega | exact Nat.le_refl _⟩, ⟨by (with_reducible repeat (first | refine blk_drewN ?_ _ | refine blk_drew ?_ | refine blk_alloc ?_ _)); exact BK670.out⟩, ⟨by (with_reducible repeat (first | refine blk_drewN ?_ _ | refine blk_drew ?_ | refine blk_alloc ?_ _)); exact BK671.out⟩, ⟨by repeat (first | (with_reducible first | exact HB.out | apply below_alloc | apply pw_below_drewN | apply below_drew1 | refine below_set ?_ GE670.out | refine below_set ?_ GE671.out) | exact HB.out)⟩⟩
      · rw [if_neg c14] at H
        have c14b0 : decide (200 < (l2_6.length : Int)) = false := decide_eq_false c14
        have c14b1 : decide (200 < l2_6.length) = false := decide_eq_false (by omega)
        clear c14
        by_cases c18 : a1_0 = a2_0
        · rw [if_pos c18] at H
          have c18b0 : (a1_0 == a2_0) = true := beq_iff_eq.mpr c18
          have c18b1 : (a1_0 != a2_0) = false := bne_eq_false_iff_eq.mpr c18
          clear c18
          by_cases c19 : (a1_1 == a2_1) = true
          · rw [if_pos c19] at H
            have c19b0 : (a1_1 == a2_1) = true := c19
            (try (have c19b1 : decide (a1_1 = a2_1) = true := by simpa using c19))
            (try (have c19b2 : (a1_1 == a2_1) = true := by simpa using c19))
            clear c19
            have H' := Aside0.mk H
            clear H
            have hnb20 := NB670_671.out
            have hnc20 := NB671_670.out
            have hcz21_0 : w9.cell? ⟨gb670, 0, none⟩ = some (.int .i64 a1_0) := (blk_cell BK670.out 0).trans rfl
            have hcz21_1 : w9.cell? ⟨gb670, 1, none⟩ = some (.bool a1_1) := (blk_cell BK670.out 1).trans rfl
            have hcz21_2 : w9.cell? ⟨gb670, 2, none⟩ = some (.slice A1_2 l1_2.length c1_2) := (blk_cell BK670.out 2).trans rfl
            have hcz21_3 : w9.cell? ⟨gb670, 3, none⟩ = some (.int .i64 a1_3) := (blk_cell BK670.out 3).trans rfl
            have hcz21_4 : w9.cell? ⟨gb670, 4, none⟩ = some (.int .i64 a1_4) := (blk_cell BK670.out 4).trans rfl
            have hcz21_5 : w9.cell? ⟨gb670, 5, none⟩ = some (.int .i64 a1_5) := (blk_cell BK670.out 5).trans rfl
            have hcz21_6 : w9.cell? ⟨gb670, 6, none⟩ = some (.slice A1_6 l1_6.length c1_6) := (blk_cell BK670.out 6).trans rfl
            have hfz21_0 := blk_frozen BK670.out 0
            have hfz21_1 := blk_frozen BK670.out 1
            have hfz21_2 := blk_frozen BK670.out 2
            have hfz21_3 := blk_frozen BK670.out 3
            have hfz21_4 := blk_frozen BK670.out 4
            have hfz21_5 := blk_frozen BK670.out 5
            have hfz21_6 := blk_frozen BK670.out 6
            have hcz22_0 : w9.cell? ⟨gb671, 0, none⟩ = some (.int .i64 a2_0) := (blk_cell BK671.out 0).trans rfl
            have hcz22_1 : w9.cell? ⟨gb671, 1, none⟩ = some (.bool a2_1) := (blk_cell BK671.out 1).trans rfl
            have hcz22_2 : w9.cell? ⟨gb671, 2, none⟩ = some (.slice A2_2 l2_2.length c2_2) := (blk_cell BK671.out 2).trans rfl
            have hcz22_3 : w9.cell? ⟨gb671, 3, none⟩ = some (.int .i64 a2_3) := (blk_cell BK671.out 3).trans rfl
            have hcz22_4 : w9.cell? ⟨gb671, 4, none⟩ = some (.int .i64 a2_4) := (blk_cell BK671.out 4).trans rfl
            have hcz22_5 : w9.cell? ⟨gb671, 5, none⟩ = some (.int .i64 a2_5) := (blk_cell BK671.out 5).trans rfl
            have hcz22_6 : w9.cell? ⟨gb671, 6, none⟩ = some (.slice A2_6 l2_6.length c2_6) := (blk_cell BK671.out 6).trans rfl
            have hfz22_0 := blk_frozen BK671.out 0
            have hfz22_1 := blk_frozen BK671.out 1
            have hfz22_2 := blk_frozen BK671.out 2
            have hfz22_3 := blk_frozen BK671.out 3
            have hfz22_4 := blk_frozen BK671.out 4
            have hfz22_5 := blk_frozen BK671.out 5
            have hfz22_6 := blk_frozen BK671.out 6
            go_wp2
            go_meet
            case rel => exact ⟨_, (true), (by first | rfl | (simp; done) | (simp [*]; done)), H', ⟨by first | omega | exact Nat.le_refl _⟩, ⟨by (with_reducible repeat (first | refine blk_drewN ?_ _ | refine blk_drew ?_ | refine blk_alloc ?_ _)); exact BK670.out⟩, ⟨by (with_reducible repeat (first | refine blk_drewN ?_ _ | refine blk_drew ?_ | refine blk_alloc ?_ _)); exact BK671.out⟩, ⟨by repeat (first | (with_reducible first | exact HB.out | apply below_alloc | apply pw_below_drewN | apply below_drew1 | refine below_set ?_ GE670.out | refine below_set ?_ GE671.out) | exact HB.out)⟩⟩
          · rw [if_neg c19] at H
            have c19b0 : (a1_1 == a2_1) = false := by simpa using c19
            (try (have c19b1 : decide (a1_1 = a2_1) = false := by simpa using c19))
            (try (have c19b2 : (a1_1 == a2_1) = false := by simpa using c19))
            (try (have c19b3 : ¬ (a1_1 = a2_1) := by simpa using c19))
            clear c19
            replace H := Option.bind_eq_some_iff.mp H
            obtain ⟨t674, A230, H⟩ := H
            replace H : (cartouchelaw13_CheckTurned.j0 k l0 t672 (t674 != 0) a2_0 a2_1 l2_2 a2_3 a2_4 a2_5 l2_6) = some r := H
            have A23 := Aside0.mk A230
            clear A230
            have H' := Aside0.mk H
            clear H
            have hnb24 := NB670_671.out
            have hnc24 := NB671_670.out
            have hcz25_0 : w9.cell? ⟨gb670, 0, none⟩ = some (.int .i64 a1_0) := (blk_cell BK670.out 0).trans rfl
            have hcz25_1 : w9.cell? ⟨gb670, 1, none⟩ = some (.bool a1_1) := (blk_cell BK670.out 1).trans rfl
            have hcz25_2 : w9.cell? ⟨gb670, 2, none⟩ = some (.slice A1_2 l1_2.length c1_2) := (blk_cell BK670.out 2).trans rfl
            have hcz25_3 : w9.cell? ⟨gb670, 3, none⟩ = some (.int .i64 a1_3) := (blk_cell BK670.out 3).trans rfl
            have hcz25_4 : w9.cell? ⟨gb670, 4, none⟩ = some (.int .i64 a1_4) := (blk_cell BK670.out 4).trans rfl
            have hcz25_5 : w9.cell? ⟨gb670, 5, none⟩ = some (.int .i64 a1_5) := (blk_cell BK670.out 5).trans rfl
            have hcz25_6 : w9.cell? ⟨gb670, 6, none⟩ = some (.slice A1_6 l1_6.length c1_6) := (blk_cell BK670.out 6).trans rfl
            have hfz25_0 := blk_frozen BK670.out 0
            have hfz25_1 := blk_frozen BK670.out 1
            have hfz25_2 := blk_frozen BK670.out 2
            have hfz25_3 := blk_frozen BK670.out 3
            have hfz25_4 := blk_frozen BK670.out 4
            have hfz25_5 := blk_frozen BK670.out 5
            have hfz25_6 := blk_frozen BK670.out 6
            have hcz26_0 : w9.cell? ⟨gb671, 0, none⟩ = some (.int .i64 a2_0) := (blk_cell BK671.out 0).trans rfl
            have hcz26_1 : w9.cell? ⟨gb671, 1, none⟩ = some (.bool a2_1) := (blk_cell BK671.out 1).trans rfl
            have hcz26_2 : w9.cell? ⟨gb671, 2, none⟩ = some (.slice A2_2 l2_2.length c2_2) := (blk_cell BK671.out 2).trans rfl
            have hcz26_3 : w9.cell? ⟨gb671, 3, none⟩ = some (.int .i64 a2_3) := (blk_cell BK671.out 3).trans rfl
            have hcz26_4 : w9.cell? ⟨gb671, 4, none⟩ = some (.int .i64 a2_4) := (blk_cell BK671.out 4).trans rfl
            have hcz26_5 : w9.cell? ⟨gb671, 5, none⟩ = some (.int .i64 a2_5) := (blk_cell BK671.out 5).trans rfl
            have hcz26_6 : w9.cell? ⟨gb671, 6, none⟩ = some (.slice A2_6 l2_6.length c2_6) := (blk_cell BK671.out 6).trans rfl
            have hfz26_0 := blk_frozen BK671.out 0
            have hfz26_1 := blk_frozen BK671.out 1
            have hfz26_2 := blk_frozen BK671.out 2
            have hfz26_3 := blk_frozen BK671.out 3
            have hfz26_4 := blk_frozen BK671.out 4
            have hfz26_5 := blk_frozen BK671.out 5
            have hfz26_6 := blk_frozen BK671.out 6
            go_wp2_with (first | (go_at_call 38; (with_reducible refine (check_Check.calls _ _ l0 a1_0 a1_1 _ _ l1_2 a1_3 a1_4 a1_5 _ _ l1_6 t674 _ ?side1 ?side2 ?side3 ?side4 ?side5 ?side6 A23.out).mono ?_); (case side1 => repeat (first | exact (Kd.C_below HR0.out HB.out) | (with_reducible refine Kd.C_alloc ?_ _) | (with_reducible refine Kd.C_drewN ?_ _) | (with_reducible refine Kd.C_drew ?_))); (case side2 => exact HC0.out); (case side3 => repeat (first | exact (Kd.C_below HR1_2.out HB.out) | (with_reducible refine Kd.C_alloc ?_ _) | (with_reducible refine Kd.C_drewN ?_ _) | (with_reducible refine Kd.C_drew ?_))); (case side4 => exact HC1_2.out); (case side5 => repeat (first | exact (Kd.C_below HR1_6.out HB.out) | (with_reducible refine Kd.C_alloc ?_ _) | (with_reducible refine Kd.C_drewN ?_ _) | (with_reducible refine Kd.C_drew ?_))); (case side6 => exact HC1_6.out); rintro e w27 ⟨rfl, hb⟩; have n0_ := Aside0.mk (blk_below (g := gb670) (o := .cells #[.int .i64 a1_0, .bool a1_1, .slice A1_2 l1_2.length c1_2, .int .i64 a1_3, .int .i64 a1_4, .int .i64 a1_5, .slice A1_6 l1_6.length c1_6] 42 (0, 0)) (by (with_reducible repeat (first | refine blk_drewN ?_ _ | refine blk_drew ?_ | refine blk_alloc ?_ _)); exact BK670.out) hb); have n1_ := Aside0.mk (blk_below (g := gb671) (o := .cells #[.int .i64 a2_0, .bool a2_1, .slice A2_2 l2_2.length c2_2, .int .i64 a2_3, .int .i64 a2_4, .int .i64 a2_5, .slice A2_6 l2_6.length c2_6] 42 (0, 0)) (by (with_reducible repeat (first | refine blk_drewN ?_ _ | refine blk_drew ?_ | refine blk_alloc ?_ _)); exact BK671.out) hb); have n2_ := Aside0.mk (below_step (by repeat (first | (with_reducible first | exact HB.out | apply below_alloc | apply pw_below_drewN | apply below_drew1 | refine below_set ?_ GE670.out | refine below_set ?_ GE671.out) | exact HB.out)) hb); clear BK670; clear BK671; clear HB; have BK670 := n0_; have BK671 := n1_; have HB := n2_; clear n0_ n1_ n2_; (try clear hb); (try clear hb2); (try clear hk); (try clear hi)))
            go_meet
            case rel => exact ⟨_, ((t674 != 0)), (by first | rfl | (simp; done) | (simp [*]; done)), H', ⟨by first | omega | exact Nat.le_refl _⟩, ⟨by (with_reducible repeat (first | refine blk_drewN ?_ _ | refine blk_drew ?_ | refine blk_alloc ?_ _)); exact BK670.out⟩, ⟨by (with_reducible repeat (first | refine blk_drewN ?_ _ | refine blk_drew ?_ | refine blk_alloc ?_ _)); exact BK671.out⟩, ⟨by repeat (first | (with_reducible first | exact HB.out | apply below_alloc | apply pw_below_drewN | apply below_drew1 | refine below_set ?_ GE670.out | refine below_set ?_ GE671.out) | exact HB.out)⟩⟩
        · rw [if_neg c18] at H
          have c18b0 : (a1_0 == a2_0) = false := beq_eq_false_iff_ne.mpr c18
          have c18b1 : (a1_0 != a2_0) = true := bne_iff_ne.mpr c18
          have H' := Aside0.mk H
          clear H
          have hnb28 := NB670_671.out
          have hnc28 := NB671_670.out
          have hcz29_0 : w9.cell? ⟨gb670, 0, none⟩ = some (.int .i64 a1_0) := (blk_cell BK670.out 0).trans rfl
          have hcz29_1 : w9.cell? ⟨gb670, 1, none⟩ = some (.bool a1_1) := (blk_cell BK670.out 1).trans rfl
          have hcz29_2 : w9.cell? ⟨gb670, 2, none⟩ = some (.slice A1_2 l1_2.length c1_2) := (blk_cell BK670.out 2).trans rfl
          have hcz29_3 : w9.cell? ⟨gb670, 3, none⟩ = some (.int .i64 a1_3) := (blk_cell BK670.out 3).trans rfl
          have hcz29_4 : w9.cell? ⟨gb670, 4, none⟩ = some (.int .i64 a1_4) := (blk_cell BK670.out 4).trans rfl
          have hcz29_5 : w9.cell? ⟨gb670, 5, none⟩ = some (.int .i64 a1_5) := (blk_cell BK670.out 5).trans rfl
          have hcz29_6 : w9.cell? ⟨gb670, 6, none⟩ = some (.slice A1_6 l1_6.length c1_6) := (blk_cell BK670.out 6).trans rfl
          have hfz29_0 := blk_frozen BK670.out 0
          have hfz29_1 := blk_frozen BK670.out 1
          have hfz29_2 := blk_frozen BK670.out 2
          have hfz29_3 := blk_frozen BK670.out 3
          have hfz29_4 := blk_frozen BK670.out 4
          have hfz29_5 := blk_frozen BK670.out 5
          have hfz29_6 := blk_frozen BK670.out 6
          have hcz30_0 : w9.cell? ⟨gb671, 0, none⟩ = some (.int .i64 a2_0) := (blk_cell BK671.out 0).trans rfl
          have hcz30_1 : w9.cell? ⟨gb671, 1, none⟩ = some (.bool a2_1) := (blk_cell BK671.out 1).trans rfl
          have hcz30_2 : w9.cell? ⟨gb671, 2, none⟩ = some (.slice A2_2 l2_2.length c2_2) := (blk_cell BK671.out 2).trans rfl
          have hcz30_3 : w9.cell? ⟨gb671, 3, none⟩ = some (.int .i64 a2_3) := (blk_cell BK671.out 3).trans rfl
          have hcz30_4 : w9.cell? ⟨gb671, 4, none⟩ = some (.int .i64 a2_4) := (blk_cell BK671.out 4).trans rfl
          have hcz30_5 : w9.cell? ⟨gb671, 5, none⟩ = some (.int .i64 a2_5) := (blk_cell BK671.out 5).trans rfl
          have hcz30_6 : w9.cell? ⟨gb671, 6, none⟩ = some (.slice A2_6 l2_6.length c2_6) := (blk_cell BK671.out 6).trans rfl
          have hfz30_0 := blk_frozen BK671.out 0
          have hfz30_1 := blk_frozen BK671.out 1
          have hfz30_2 := blk_frozen BK671.out 2
          have hfz30_3 := blk_frozen BK671.out 3
          have hfz30_4 := blk_frozen BK671.out 4
          have hfz30_5 := blk_frozen BK671.out 5
          have hfz30_6 := blk_frozen BK671.out 6
          go_wp2
          go_meet
          case rel => exact ⟨_, (true), (by first | rfl | (simp; done) | (simp [*]; done)), H', ⟨by first | omega | exact Nat.le_refl _⟩, ⟨by (with_reducible repeat (first | refine blk_drewN ?_ _ | refine blk_drew ?_ | refine blk_alloc ?_ _)); exact BK670.out⟩, ⟨by (with_reducible repeat (first | refine blk_drewN ?_ _ | refine blk_drew ?_ | refine blk_alloc ?_ _)); exact BK671.out⟩, ⟨by repeat (first | (with_reducible first | exact HB.out | apply below_alloc | apply pw_below_drewN | apply below_drew1 | refine below_set ?_ GE670.out | refine below_set ?_ GE671.out) | exact HB.out)⟩⟩
  · replace c10 := Bool.eq_false_iff.mpr c10
    subst c10
    have H1 : (cartouchelaw13_CheckTurned.j0 k l0 t672 true a2_0 a2_1 l2_2 a2_3 a2_4 a2_5 l2_6) = some r := by rw [if_neg (show ¬ (false = true) by decide)] at H; exact H
    clear H
    have H := H1
    clear H1
    have H' := Aside0.mk H
    clear H
    go_wp2
    go_meet
    case rel => exact ⟨_, (true), (by first | rfl | (simp; done) | (simp [*]; done)), H', ⟨by first | omega | exact Nat.le_refl _⟩, ⟨by (with_reducible repeat (first | refine blk_drewN ?_ _ | refine blk_drew ?_ | refine blk_alloc ?_ _)); exact BK670.out⟩, ⟨by (with_reducible repeat (first | refine blk_drewN ?_ _ | refine blk_drew ?_ | refine blk_alloc ?_ _)); exact BK671.out⟩, ⟨by repeat (first | (with_reducible first | exact HB.out | apply below_alloc | apply pw_below_drewN | apply below_drew1 | refine below_set ?_ GE670.out | refine below_set ?_ GE671.out) | exact HB.out)⟩⟩
 case rest =>
  clear HC6
  try clear c1
  try clear c2
  try clear p2
  try clear c3
  try clear c10
  try clear c11
  try clear c11b0
  try clear c11b1
  try clear c12
  try clear c14
  try clear c14b0
  try clear c14b1
  try clear c15
  try clear c18
  try clear c18b0
  try clear c18b1
  try clear c19
  try clear c19b0
  try clear c19b1
  try clear c19b2
  try clear c20
  try clear c24
  try clear c28
  try clear hcz13_0
  try clear hcz13_1
  try clear hcz13_2
  try clear hcz13_3
  try clear hcz13_4
  try clear hcz13_5
  try clear hcz13_6
  try clear hcz16_0
  try clear hcz16_1
  try clear hcz16_2
  try clear hcz16_3
  try clear hcz16_4
  try clear hcz16_5
  try clear hcz16_6
  try clear hcz17_0
  try clear hcz17_1
  try clear hcz17_2
  try clear hcz17_3
  try clear hcz17_4
  try clear hcz17_5
  try clear hcz17_6
  try clear hcz21_0
  try clear hcz21_1
  try clear hcz21_2
  try clear hcz21_3
  try clear hcz21_4
  try clear hcz21_5
  try clear hcz21_6
  try clear hcz22_0
  try clear hcz22_1
  try clear hcz22_2
  try clear hcz22_3
  try clear hcz22_4
  try clear hcz22_5
  try clear hcz22_6
  try clear hcz25_0
  try clear hcz25_1
  try clear hcz25_2
  try clear hcz25_3
  try clear hcz25_4
  try clear hcz25_5
  try clear hcz25_6
  try clear hcz26_0
  try clear hcz26_1
  try clear hcz26_2
  try clear hcz26_3
  try clear hcz26_4
  try clear hcz26_5
  try clear hcz26_6
  try clear hcz29_0
  try clear hcz29_1
  try clear hcz29_2
  try clear hcz29_3
  try clear hcz29_4
  try clear hcz29_5
  try clear hcz29_6
  try clear hcz30_0
  try clear hcz30_1
  try clear hcz30_2
  try clear hcz30_3
  try clear hcz30_4
  try clear hcz30_5
  try clear hcz30_6
  try clear hfz13_0
  try clear hfz13_1
  try clear hfz13_2
  try clear hfz13_3
  try clear hfz13_4
  try clear hfz13_5
  try clear hfz13_6
  try clear hfz16_0
  try clear hfz16_1
  try clear hfz16_2
  try clear hfz16_3
  try clear hfz16_4
  try clear hfz16_5
  try clear hfz16_6
  try clear hfz17_0
  try clear hfz17_1
  try clear hfz17_2
  try clear hfz17_3
  try clear hfz17_4
  try clear hfz17_5
  try clear hfz17_6
  try clear hfz21_0
  try clear hfz21_1
  try clear hfz21_2
  try clear hfz21_3
  try clear hfz21_4
  try clear hfz21_5
  try clear hfz21_6
  try clear hfz22_0
  try clear hfz22_1
  try clear hfz22_2
  try clear hfz22_3
  try clear hfz22_4
  try clear hfz22_5
  try clear hfz22_6
  try clear hfz25_0
  try clear hfz25_1
  try clear hfz25_2
  try clear hfz25_3
  try clear hfz25_4
  try clear hfz25_5
  try clear hfz25_6
  try clear hfz26_0
  try clear hfz26_1
  try clear hfz26_2
  try clear hfz26_3
  try clear hfz26_4
  try clear hfz26_5
  try clear hfz26_6
  try clear hfz29_0
  try clear hfz29_1
  try clear hfz29_2
  try clear hfz29_3
  try clear hfz29_4
  try clear hfz29_5
  try clear hfz29_6
  try clear hfz30_0
  try clear hfz30_1
  try clear hfz30_2
  try clear hfz30_3
  try clear hfz30_4
  try clear hfz30_5
  try clear hfz30_6
  obtain ⟨kq, x45_5, rfl, HA, HJ5, BK670, BK671, HB⟩ := hcut
  cases kq with
  | zero => exact absurd HA.out (by simp [cartouchelaw13_CheckTurned.j0])
  | succ kj5 =>
   have H := HA.out
   clear HA
   simp only [cartouchelaw13_CheckTurned.j0] at H
   by_cases c31 : x45_5 = true
   · subst c31
     have H1 : (some t672) = some r := by rw [if_pos rfl] at H; exact H
     clear H
     have H := H1
     clear H1
     obtain rfl := Option.some.inj H
     go_wp2
     go_ret
     exact ⟨by first | rfl | (simp [errW_none, errW_some] <;> rfl) | (simp [*, errW_none, errW_some] <;> rfl), by repeat (first | (with_reducible first | exact HB.out | apply below_alloc | apply pw_below_drewN | apply below_drew1 | refine below_set ?_ GE670.out | refine below_set ?_ GE671.out) | exact HB.out)⟩
   · replace c31 := Bool.eq_false_iff.mpr c31
     subst c31
     have H1 : (if t672 = true then ((check_Check.f l0 a2_0 a2_1 l2_2 a2_3 a2_4 a2_5 l2_6).bind fun t675 => (some (t675 == 14))) else (some false)) = some r := by rw [if_neg (show ¬ (false = true) by decide)] at H; exact H
     clear H
     have H := H1
     clear H1
     by_cases c32 : t672 = true
     · subst c32
       have H1 : ((check_Check.f l0 a2_0 a2_1 l2_2 a2_3 a2_4 a2_5 l2_6).bind fun t675 => (some (t675 == 14))) = some r := by rw [if_pos rfl] at H; exact H
       clear H
       have H := H1
       clear H1
       replace H := Option.bind_eq_some_iff.mp H
       obtain ⟨t675, A330, H⟩ := H
       replace H : (some (t675 == 14)) = some r := H
       have A33 := Aside0.mk A330
       clear A330
       obtain rfl := Option.some.inj H
       have hnb34 := NB671_670.out
       have hnc34 := NB670_671.out
       have hcz35_0 : wc.cell? ⟨gb671, 0, none⟩ = some (.int .i64 a2_0) := (blk_cell BK671.out 0).trans rfl
       have hcz35_1 : wc.cell? ⟨gb671, 1, none⟩ = some (.bool a2_1) := (blk_cell BK671.out 1).trans rfl
       have hcz35_2 : wc.cell? ⟨gb671, 2, none⟩ = some (.slice A2_2 l2_2.length c2_2) := (blk_cell BK671.out 2).trans rfl
       have hcz35_3 : wc.cell? ⟨gb671, 3, none⟩ = some (.int .i64 a2_3) := (blk_cell BK671.out 3).trans rfl
       have hcz35_4 : wc.cell? ⟨gb671, 4, none⟩ = some (.int .i64 a2_4) := (blk_cell BK671.out 4).trans rfl
       have hcz35_5 : wc.cell? ⟨gb671, 5, none⟩ = some (.int .i64 a2_5) := (blk_cell BK671.out 5).trans rfl
       have hcz35_6 : wc.cell? ⟨gb671, 6, none⟩ = some (.slice A2_6 l2_6.length c2_6) := (blk_cell BK671.out 6).trans rfl
       have hfz35_0 := blk_frozen BK671.out 0
       have hfz35_1 := blk_frozen BK671.out 1
       have hfz35_2 := blk_frozen BK671.out 2
       have hfz35_3 := blk_frozen BK671.out 3
       have hfz35_4 := blk_frozen BK671.out 4
       have hfz35_5 := blk_frozen BK671.out 5
       have hfz35_6 := blk_frozen BK671.out 6
       go_wp2_with (first | (go_at_call 38; (with_reducible refine (check_Check.calls _ _ l0 a2_0 a2_1 _ _ l2_2 a2_3 a2_4 a2_5 _ _ l2_6 t675 _ ?side1 ?side2 ?side3 ?side4 ?side5 ?side6 A33.out).mono ?_); (case side1 => repeat (first | exact (Kd.C_below HR0.out HB.out) | (with_reducible refine Kd.C_alloc ?_ _) | (with_reducible refine Kd.C_drewN ?_ _) | (with_reducible refine Kd.C_drew ?_))); (case side2 => exact HC0.out); (case side3 => repeat (first | exact (Kd.C_below HR2_2.out HB.out) | (with_reducible refine Kd.C_alloc ?_ _) | (with_reducible refine Kd.C_drewN ?_ _) | (with_reducible refine Kd.C_drew ?_))); (case side4 => exact HC2_2.out); (case side5 => repeat (first | exact (Kd.C_below HR2_6.out HB.out) | (with_reducible refine Kd.C_alloc ?_ _) | (with_reducible refine Kd.C_drewN ?_ _) | (with_reducible refine Kd.C_drew ?_))); (case side6 => exact HC2_6.out); rintro e w36 ⟨rfl, hb⟩; have n0_ := Aside0.mk (blk_below (g := gb670) (o := .cells #[.int .i64 a1_0, .bool a1_1, .slice A1_2 l1_2.length c1_2, .int .i64 a1_3, .int .i64 a1_4, .int .i64 a1_5, .slice A1_6 l1_6.length c1_6] 42 (0, 0)) (by (with_reducible repeat (first | refine blk_drewN ?_ _ | refine blk_drew ?_ | refine blk_alloc ?_ _)); exact BK670.out) hb); have n1_ := Aside0.mk (blk_below (g := gb671) (o := .cells #[.int .i64 a2_0, .bool a2_1, .slice A2_2 l2_2.length c2_2, .int .i64 a2_3, .int .i64 a2_4, .int .i64 a2_5, .slice A2_6 l2_6.length c2_6] 42 (0, 0)) (by (with_reducible repeat (first | refine blk_drewN ?_ _ | refine blk_drew ?_ | refine blk_alloc ?_ _)); exact BK671.out) hb); have n2_ := Aside0.mk (below_step (by repeat (first | (with_reducible first | exact HB.out | apply below_alloc | apply pw_below_drewN | apply below_drew1 | refine below_set ?_ GE670.out | refine below_set ?_ GE671.out) | exact HB.out)) hb); clear BK670; clear BK671; clear HB; have BK670 := n0_; have BK671 := n1_; have HB := n2_; clear n0_ n1_ n2_; (try clear hb); (try clear hb2); (try clear hk); (try clear hi)))
       go_ret
       exact ⟨by first | rfl | (simp [errW_none, errW_some] <;> rfl) | (simp [*, errW_none, errW_some] <;> rfl), by repeat (first | (with_reducible first | exact HB.out | apply below_alloc | apply pw_below_drewN | apply below_drew1 | refine below_set ?_ GE670.out | refine below_set ?_ GE671.out) | exact HB.out)⟩
     · replace c32 := Bool.eq_false_iff.mpr c32
       subst c32
       have H1 : (some false) = some r := by rw [if_neg (show ¬ (false = true) by decide)] at H; exact H
       clear H
       have H := H1
       clear H1
       obtain rfl := Option.some.inj H
       go_wp2
       go_ret
       exact ⟨by first | rfl | (simp [errW_none, errW_some] <;> rfl) | (simp [*, errW_none, errW_some] <;> rfl), by repeat (first | (with_reducible first | exact HB.out | apply below_alloc | apply pw_below_drewN | apply below_drew1 | refine below_set ?_ GE670.out | refine below_set ?_ GE671.out) | exact HB.out)⟩
end Go.Proofs.YtebjiimlcnmfpaaGreatPr
