/- Contracts of Go functions, printed by a program of this session over the translation: each call answers what its Lean function says. -/
import Derived.Test.YthjgmccpbcelgaaPr0
import Derived.Test.YthjgmccpbcelgaaPr49
import Derived.Test.YthjgmccpbcelgaaPr50
import Derived.Test.YthjgmccpbcelgaaPr51
import Derived.Test.YthjgmccpbcelgaaB1
namespace Go.Proofs.YthjgmccpbcelgaaPr
open Go.RowKit Go.Proofs.YthjgmccpbcelgaaW.PrintWords Go.Proofs.YthjgmccpbcelgaaW.PrintLast Go.Proofs.YthjgmccpbcelgaaW.PrintMore
attribute [local go_sem] max2_int min2_int max_two min_two max_three min_three max_four min_four   -- for this text's walks alone
set_option linter.unusedVariables false
set_option linter.unusedSimpArgs false

/-! ### cartouchelaw10_EdgesReads: function 24 -/
mutual
def cartouchelaw10_EdgesReads.j0 : Nat → List (S31) → Bool → Bool → Option (Bool)
  | 0, _, _, _ => none
  | k + 1, x0, x3, x27 => if x27 = true then (some x3) else ((edges_All.f k x0).bind fun t685 => (cartouchelaw10_EdgesReads.l0 k x0 x3 t685 0))
def cartouchelaw10_EdgesReads.l0 : Nat → List (S31) → Bool → List (S76) → Int → Option (Bool)
  | 0, _, _, _, _ => none
  | k + 1, x0, x3, x7, x8 => if x8 < (x7.length : Int) then (if 0 ≤ x8 then (if ((rd_T76 x7 x8).f3) < 0 then (cartouchelaw10_EdgesReads.j2 k x0 x3 x7 x8 true ((rd_T76 x7 x8).f0) ((rd_T76 x7 x8).f1) ((rd_T76 x7 x8).f2) ((rd_T76 x7 x8).f3) ((rd_T76 x7 x8).f4)) else (if ((rd_T76 x7 x8).f3) ≥ (x0.length : Int) then (cartouchelaw10_EdgesReads.j2 k x0 x3 x7 x8 true ((rd_T76 x7 x8).f0) ((rd_T76 x7 x8).f1) ((rd_T76 x7 x8).f2) ((rd_T76 x7 x8).f3) ((rd_T76 x7 x8).f4)) else (if ((rd_T76 x7 x8).f4) < 0 then (cartouchelaw10_EdgesReads.j2 k x0 x3 x7 x8 true ((rd_T76 x7 x8).f0) ((rd_T76 x7 x8).f1) ((rd_T76 x7 x8).f2) ((rd_T76 x7 x8).f3) ((rd_T76 x7 x8).f4)) else (cartouchelaw10_EdgesReads.j2 k x0 x3 x7 x8 (decide (((rd_T76 x7 x8).f4) ≥ (x0.length : Int))) ((rd_T76 x7 x8).f0) ((rd_T76 x7 x8).f1) ((rd_T76 x7 x8).f2) ((rd_T76 x7 x8).f3) ((rd_T76 x7 x8).f4))))) else (none)) else (some x3)
def cartouchelaw10_EdgesReads.j2 : Nat → List (S31) → Bool → List (S76) → Int → Bool → Int → Int → Int → Int → Int → Option (Bool)
  | 0, _, _, _, _, _, _, _, _, _, _ => none
  | k + 1, x0, x3, x7, x8, x62, x690000, x690001, x690002, x690003, x690004 => if x62 = true then (some false) else ((cartoucheref08_Find.f x0 x690001).bind fun bt690 => ((cartoucheref08_Find.f x0 x690002).bind fun bt696 => (if x690000 = 2 then (if 0 ≤ x690003 then (if x690003 < (x0.length : Int) then (if 0 ≤ x690004 then (if x690004 < (x0.length : Int) then (if ((rd_T31 x0 x690003).f3).toList = ((rd_T31 x0 x690004).f3).toList then (if x690000 = 3 then (cartouchelaw10_EdgesReads.j3 k x0 x3 x7 x8 true) else (if x690000 = 1 then (cartouchelaw10_EdgesReads.j3 k x0 x3 x7 x8 (decide (bt690.2.2.1 ≥ bt696.2.2.1))) else (cartouchelaw10_EdgesReads.j3 k x0 x3 x7 x8 false))) else (cartouchelaw10_EdgesReads.j3 k x0 x3 x7 x8 true)) else (none)) else (none)) else (none)) else (none)) else (if x690000 = 3 then (if 0 ≤ x690003 then (if x690003 < (x0.length : Int) then (if 0 ≤ x690004 then (if x690004 < (x0.length : Int) then (if ((rd_T31 x0 x690003).f3).toList = ((rd_T31 x0 x690004).f3).toList then (cartouchelaw10_EdgesReads.j3 k x0 x3 x7 x8 true) else (if x690000 = 1 then (cartouchelaw10_EdgesReads.j3 k x0 x3 x7 x8 (decide (bt690.2.2.1 ≥ bt696.2.2.1))) else (cartouchelaw10_EdgesReads.j3 k x0 x3 x7 x8 false))) else (none)) else (none)) else (none)) else (none)) else (if x690000 = 1 then (cartouchelaw10_EdgesReads.j3 k x0 x3 x7 x8 (decide (bt690.2.2.1 ≥ bt696.2.2.1))) else (cartouchelaw10_EdgesReads.j3 k x0 x3 x7 x8 false))))))
def cartouchelaw10_EdgesReads.j3 : Nat → List (S31) → Bool → List (S76) → Int → Bool → Option (Bool)
  | 0, _, _, _, _, _ => none
  | k + 1, x0, x3, x7, x8, x126 => if x126 = true then (some false) else (cartouchelaw10_EdgesReads.l0 k x0 x3 x7 (wrap64 (x8 + 1)))
end
def cartouchelaw10_EdgesReads.f (k : Nat) (l0 : List (S31)) : Option (Bool) := (cartouchelaw10_shown.f k).bind fun t681 => ((cartouchelaw10_few.f k l0).bind fun t682 => ((cartoucheref08_Formed.f l0).bind fun bt683 => (if t682 = true then (cartouchelaw10_EdgesReads.j0 k l0 t681 (bt683.2 != 0)) else (cartouchelaw10_EdgesReads.j0 k l0 t681 true))))
theorem cartouchelaw10_EdgesReads.mono_l : ∀ k, (∀ y0 y1 y2, LeO (cartouchelaw10_EdgesReads.j0 k y0 y1 y2) (cartouchelaw10_EdgesReads.j0 (k + 1) y0 y1 y2)) ∧ (∀ y0 y1 y2 y3, LeO (cartouchelaw10_EdgesReads.l0 k y0 y1 y2 y3) (cartouchelaw10_EdgesReads.l0 (k + 1) y0 y1 y2 y3)) ∧ (∀ y0 y1 y2 y3 y4 y5 y6 y7 y8 y9, LeO (cartouchelaw10_EdgesReads.j2 k y0 y1 y2 y3 y4 y5 y6 y7 y8 y9) (cartouchelaw10_EdgesReads.j2 (k + 1) y0 y1 y2 y3 y4 y5 y6 y7 y8 y9)) ∧ (∀ y0 y1 y2 y3 y4, LeO (cartouchelaw10_EdgesReads.j3 k y0 y1 y2 y3 y4) (cartouchelaw10_EdgesReads.j3 (k + 1) y0 y1 y2 y3 y4))
  | 0 => ⟨fun _ _ _ r h => by simp [cartouchelaw10_EdgesReads.j0] at h, fun _ _ _ _ r h => by simp [cartouchelaw10_EdgesReads.l0] at h, fun _ _ _ _ _ _ _ _ _ _ r h => by simp [cartouchelaw10_EdgesReads.j2] at h, fun _ _ _ _ _ r h => by simp [cartouchelaw10_EdgesReads.j3] at h⟩
  | k + 1 => by
    obtain ⟨ih0, ih1, ih2, ih3⟩ := cartouchelaw10_EdgesReads.mono_l k
    refine ⟨?_, ?_, ?_, ?_⟩
    · intro y0 y1 y2
      unfold cartouchelaw10_EdgesReads.j0
      repeat' first
      | (with_reducible exact ih0 _ _ _)
      | (with_reducible exact ih1 _ _ _ _)
      | (with_reducible exact ih2 _ _ _ _ _ _ _ _ _ _)
      | (with_reducible exact ih3 _ _ _ _ _)
      | (with_reducible exact cartouchelaw10_few.mono _ _)
      | (with_reducible exact cartouchelaw10_shown.mono _)
      | (with_reducible exact edges_All.mono _ _)
      | (with_reducible exact LeO.refl _)
      | (with_reducible exact LeO.none _)
      | (with_reducible refine LeO.ite ?_ ?_)
      | (with_reducible refine LeO.bind ?_ (fun _ => ?_))
      | exact ih0 _ _ _
      | exact ih1 _ _ _ _
      | exact ih2 _ _ _ _ _ _ _ _ _ _
      | exact ih3 _ _ _ _ _
      | exact cartouchelaw10_few.mono _ _
      | exact cartouchelaw10_shown.mono _
      | exact edges_All.mono _ _
      | exact LeO.none _
      | refine LeO.ite ?_ ?_
      | refine LeO.bind ?_ (fun _ => ?_)
    · intro y0 y1 y2 y3
      unfold cartouchelaw10_EdgesReads.l0
      repeat' first
      | (with_reducible exact ih0 _ _ _)
      | (with_reducible exact ih1 _ _ _ _)
      | (with_reducible exact ih2 _ _ _ _ _ _ _ _ _ _)
      | (with_reducible exact ih3 _ _ _ _ _)
      | (with_reducible exact cartouchelaw10_few.mono _ _)
      | (with_reducible exact cartouchelaw10_shown.mono _)
      | (with_reducible exact edges_All.mono _ _)
      | (with_reducible exact LeO.refl _)
      | (with_reducible exact LeO.none _)
      | (with_reducible refine LeO.ite ?_ ?_)
      | (with_reducible refine LeO.bind ?_ (fun _ => ?_))
      | exact ih0 _ _ _
      | exact ih1 _ _ _ _
      | exact ih2 _ _ _ _ _ _ _ _ _ _
      | exact ih3 _ _ _ _ _
      | exact cartouchelaw10_few.mono _ _
      | exact cartouchelaw10_shown.mono _
      | exact edges_All.mono _ _
      | exact LeO.none _
      | refine LeO.ite ?_ ?_
      | refine LeO.bind ?_ (fun _ => ?_)
    · intro y0 y1 y2 y3 y4 y5 y6 y7 y8 y9
      unfold cartouchelaw10_EdgesReads.j2
      repeat' first
      | (with_reducible exact ih0 _ _ _)
      | (with_reducible exact ih1 _ _ _ _)
      | (with_reducible exact ih2 _ _ _ _ _ _ _ _ _ _)
      | (with_reducible exact ih3 _ _ _ _ _)
      | (with_reducible exact cartouchelaw10_few.mono _ _)
      | (with_reducible exact cartouchelaw10_shown.mono _)
      | (with_reducible exact edges_All.mono _ _)
      | (with_reducible exact LeO.refl _)
      | (with_reducible exact LeO.none _)
      | (with_reducible refine LeO.ite ?_ ?_)
      | (with_reducible refine LeO.bind ?_ (fun _ => ?_))
      | exact ih0 _ _ _
      | exact ih1 _ _ _ _
      | exact ih2 _ _ _ _ _ _ _ _ _ _
      | exact ih3 _ _ _ _ _
      | exact cartouchelaw10_few.mono _ _
      | exact cartouchelaw10_shown.mono _
      | exact edges_All.mono _ _
      | exact LeO.none _
      | refine LeO.ite ?_ ?_
      | refine LeO.bind ?_ (fun _ => ?_)
    · intro y0 y1 y2 y3 y4
      unfold cartouchelaw10_EdgesReads.j3
      repeat' first
      | (with_reducible exact ih0 _ _ _)
      | (with_reducible exact ih1 _ _ _ _)
      | (with_reducible exact ih2 _ _ _ _ _ _ _ _ _ _)
      | (with_reducible exact ih3 _ _ _ _ _)
      | (with_reducible exact cartouchelaw10_few.mono _ _)
      | (with_reducible exact cartouchelaw10_shown.mono _)
      | (with_reducible exact edges_All.mono _ _)
      | (with_reducible exact LeO.refl _)
      | (with_reducible exact LeO.none _)
      | (with_reducible refine LeO.ite ?_ ?_)
      | (with_reducible refine LeO.bind ?_ (fun _ => ?_))
      | exact ih0 _ _ _
      | exact ih1 _ _ _ _
      | exact ih2 _ _ _ _ _ _ _ _ _ _
      | exact ih3 _ _ _ _ _
      | exact cartouchelaw10_few.mono _ _
      | exact cartouchelaw10_shown.mono _
      | exact edges_All.mono _ _
      | exact LeO.none _
      | refine LeO.ite ?_ ?_
      | refine LeO.bind ?_ (fun _ => ?_)
theorem cartouchelaw10_EdgesReads.mono : ∀ a0 k, LeO (cartouchelaw10_EdgesReads.f k a0) (cartouchelaw10_EdgesReads.f (k + 1) a0) := by
  intro a0 k
  obtain ⟨ih0, ih1, ih2, ih3⟩ := cartouchelaw10_EdgesReads.mono_l k
  unfold cartouchelaw10_EdgesReads.f
  repeat' first
      | (with_reducible exact ih0 _ _ _)
      | (with_reducible exact ih1 _ _ _ _)
      | (with_reducible exact ih2 _ _ _ _ _ _ _ _ _ _)
      | (with_reducible exact ih3 _ _ _ _ _)
      | (with_reducible exact cartouchelaw10_few.mono _ _)
      | (with_reducible exact cartouchelaw10_shown.mono _)
      | (with_reducible exact edges_All.mono _ _)
      | (with_reducible exact LeO.refl _)
      | (with_reducible exact LeO.none _)
      | (with_reducible refine LeO.ite ?_ ?_)
      | (with_reducible refine LeO.bind ?_ (fun _ => ?_))
      | exact ih0 _ _ _
      | exact ih1 _ _ _ _
      | exact ih2 _ _ _ _ _ _ _ _ _ _
      | exact ih3 _ _ _ _ _
      | exact cartouchelaw10_few.mono _ _
      | exact cartouchelaw10_shown.mono _
      | exact edges_All.mono _ _
      | exact LeO.none _
      | refine LeO.ite ?_ ?_
      | refine LeO.bind ?_ (fun _ => ?_)
set_option maxHeartbeats 8000000 in
set_option maxRecDepth 100000 in
theorem cartouchelaw10_EdgesReads.calls (k : Nat) (A0 : Option Addr) (c0 : Nat) (l0 : List (S31)) (r : Bool) (w : World) (hr0 : Kd.C k31 w A0 l0.length l0) (hc0 : l0.length ≤ c0) (h : cartouchelaw10_EdgesReads.f k l0 = some r) :
    Calls Try.prog 24 #[.slice A0 l0.length c0] w fun e w' => e = .returned (.bool r) ∧ Below w.heap.size w w' := by
  have hu76 := Try.underlying76
  have hu33 := Try.underlying33
  have HR0 := Aside0.mk hr0
  have HC0 := Aside0.mk hc0
  clear hr0 hc0
  have HB := Aside0.mk (Below.refl w.heap.size w)
  have H : ((cartouchelaw10_shown.f k).bind fun t681 => ((cartouchelaw10_few.f k l0).bind fun t682 => ((cartoucheref08_Formed.f l0).bind fun bt683 => (if t682 = true then (cartouchelaw10_EdgesReads.j0 k l0 t681 (bt683.2 != 0)) else (cartouchelaw10_EdgesReads.j0 k l0 t681 true))))) = some r := h
  clear h
  replace H := Option.bind_eq_some_iff.mp H
  obtain ⟨t681, A20, H⟩ := H
  replace H : ((cartouchelaw10_few.f k l0).bind fun t682 => ((cartoucheref08_Formed.f l0).bind fun bt683 => (if t682 = true then (cartouchelaw10_EdgesReads.j0 k l0 t681 (bt683.2 != 0)) else (cartouchelaw10_EdgesReads.j0 k l0 t681 true)))) = some r := H
  have A2 := Aside0.mk A20
  clear A20
  replace H := Option.bind_eq_some_iff.mp H
  obtain ⟨t682, A30, H⟩ := H
  replace H : ((cartoucheref08_Formed.f l0).bind fun bt683 => (if t682 = true then (cartouchelaw10_EdgesReads.j0 k l0 t681 (bt683.2 != 0)) else (cartouchelaw10_EdgesReads.j0 k l0 t681 true))) = some r := H
  have A3 := Aside0.mk A30
  clear A30
  replace H := Option.bind_eq_some_iff.mp H
  obtain ⟨⟨t683, t684⟩, A40, H⟩ := H
  replace H : (if t682 = true then (cartouchelaw10_EdgesReads.j0 k l0 t681 (t684 != 0)) else (cartouchelaw10_EdgesReads.j0 k l0 t681 true)) = some r := H
  have A4 := Aside0.mk A40
  clear A40
  have HC5 := Aside0.mk H
  clear H
  go_enter Try.func24, Try.ntmps24
  go_upto_region 4 with (first | (go_at_call 65; (with_reducible refine (cartouchelaw10_shown.calls k  t681 _ A2.out).mono ?_); rintro e w6 ⟨rfl, hb⟩; have n0_ := Aside0.mk (below_step (by repeat (first | (with_reducible first | exact HB.out | apply below_alloc | apply pw_below_drewN | apply below_drew1) | exact HB.out)) hb); clear HB; have HB := n0_; clear n0_; (try clear hb); (try clear hb2); (try clear hk); (try clear hi)) | (go_at_call 66; (with_reducible refine (cartouchelaw10_few.calls k _ _ l0 t682 _ ?side1 ?side2 A3.out).mono ?_); (case side1 => repeat (first | exact (Kd.C_below HR0.out HB.out) | (with_reducible refine Kd.C_alloc ?_ _) | (with_reducible refine Kd.C_drewN ?_ _) | (with_reducible refine Kd.C_drew ?_))); (case side2 => exact HC0.out); rintro e w' ⟨rfl, ⟨nd, rfl⟩⟩; (try first | exact ⟨rfl, _, World.drewN_drewN _ _ _⟩ | exact ⟨rfl, _, Eq.trans (World.drewN_drewN _ _ _) (congrArg (World.drewN _) (Nat.add_assoc _ _ _))⟩)) | (go_at_call 32; (with_reducible refine (cartoucheref08_Formed.calls _ _ l0 t683 t684 _ ?side1 ?side2 A4.out).mono ?_); (case side1 => repeat (first | exact (Kd.C_below HR0.out (by repeat (first | (with_reducible first | exact HB.out | apply below_alloc | apply pw_below_drewN | apply below_drew1) | exact HB.out))) | (with_reducible refine Kd.C_alloc ?_ _) | (with_reducible refine Kd.C_drewN ?_ _) | (with_reducible refine Kd.C_drew ?_))); (case side2 => exact HC0.out); rintro e w7 ⟨rfl, hb⟩; have n0_ := Aside0.mk (below_step (by repeat (first | (with_reducible first | exact HB.out | apply below_alloc | apply pw_below_drewN | apply below_drew1) | exact HB.out)) hb); clear HB; have HB := n0_; clear n0_; (try clear hb); (try clear hb2); (try clear hk); (try clear hi)))
  repeat (go_quiet (first | (go_at_call 65; (with_reducible refine (cartouchelaw10_shown.calls k  t681 _ A2.out).mono ?_); rintro e w6 ⟨rfl, hb⟩; have n0_ := Aside0.mk (below_step (by repeat (first | (with_reducible first | exact HB.out | apply below_alloc | apply pw_below_drewN | apply below_drew1) | exact HB.out)) hb); clear HB; have HB := n0_; clear n0_; (try clear hb); (try clear hb2); (try clear hk); (try clear hi)) | (go_at_call 66; (with_reducible refine (cartouchelaw10_few.calls k _ _ l0 t682 _ ?side1 ?side2 A3.out).mono ?_); (case side1 => repeat (first | exact (Kd.C_below HR0.out HB.out) | (with_reducible refine Kd.C_alloc ?_ _) | (with_reducible refine Kd.C_drewN ?_ _) | (with_reducible refine Kd.C_drew ?_))); (case side2 => exact HC0.out); rintro e w' ⟨rfl, ⟨nd, rfl⟩⟩; (try first | exact ⟨rfl, _, World.drewN_drewN _ _ _⟩ | exact ⟨rfl, _, Eq.trans (World.drewN_drewN _ _ _) (congrArg (World.drewN _) (Nat.add_assoc _ _ _))⟩)) | (go_at_call 32; (with_reducible refine (cartoucheref08_Formed.calls _ _ l0 t683 t684 _ ?side1 ?side2 A4.out).mono ?_); (case side1 => repeat (first | exact (Kd.C_below HR0.out (by repeat (first | (with_reducible first | exact HB.out | apply below_alloc | apply pw_below_drewN | apply below_drew1) | exact HB.out))) | (with_reducible refine Kd.C_alloc ?_ _) | (with_reducible refine Kd.C_drewN ?_ _) | (with_reducible refine Kd.C_drew ?_))); (case side2 => exact HC0.out); rintro e w7 ⟨rfl, hb⟩; have n0_ := Aside0.mk (below_step (by repeat (first | (with_reducible first | exact HB.out | apply below_alloc | apply pw_below_drewN | apply below_drew1) | exact HB.out)) hb); clear HB; have HB := n0_; clear n0_; (try clear hb); (try clear hb2); (try clear hk); (try clear hi))); go_upto_region 4 with (first | (go_at_call 65; (with_reducible refine (cartouchelaw10_shown.calls k  t681 _ A2.out).mono ?_); rintro e w6 ⟨rfl, hb⟩; have n0_ := Aside0.mk (below_step (by repeat (first | (with_reducible first | exact HB.out | apply below_alloc | apply pw_below_drewN | apply below_drew1) | exact HB.out)) hb); clear HB; have HB := n0_; clear n0_; (try clear hb); (try clear hb2); (try clear hk); (try clear hi)) | (go_at_call 66; (with_reducible refine (cartouchelaw10_few.calls k _ _ l0 t682 _ ?side1 ?side2 A3.out).mono ?_); (case side1 => repeat (first | exact (Kd.C_below HR0.out HB.out) | (with_reducible refine Kd.C_alloc ?_ _) | (with_reducible refine Kd.C_drewN ?_ _) | (with_reducible refine Kd.C_drew ?_))); (case side2 => exact HC0.out); rintro e w' ⟨rfl, ⟨nd, rfl⟩⟩; (try first | exact ⟨rfl, _, World.drewN_drewN _ _ _⟩ | exact ⟨rfl, _, Eq.trans (World.drewN_drewN _ _ _) (congrArg (World.drewN _) (Nat.add_assoc _ _ _))⟩)) | (go_at_call 32; (with_reducible refine (cartoucheref08_Formed.calls _ _ l0 t683 t684 _ ?side1 ?side2 A4.out).mono ?_); (case side1 => repeat (first | exact (Kd.C_below HR0.out (by repeat (first | (with_reducible first | exact HB.out | apply below_alloc | apply pw_below_drewN | apply below_drew1) | exact HB.out))) | (with_reducible refine Kd.C_alloc ?_ _) | (with_reducible refine Kd.C_drewN ?_ _) | (with_reducible refine Kd.C_drew ?_))); (case side2 => exact HC0.out); rintro e w7 ⟨rfl, hb⟩; have n0_ := Aside0.mk (below_step (by repeat (first | (with_reducible first | exact HB.out | apply below_alloc | apply pw_below_drewN | apply below_drew1) | exact HB.out)) hb); clear HB; have HB := n0_; clear n0_; (try clear hb); (try clear hb2); (try clear hk); (try clear hi))))
  (try simp only [Act.put, List.setIfInBounds_toArray, List.set_cons_zero, List.set_cons_succ])
  go_cut [27] (fun v27 wc => ∃ (kq : Nat) (x27_4 : Bool), v27 = .bool x27_4 ∧ Aside0 (cartouchelaw10_EdgesReads.j0 kq l0 t681 x27_4 = some r) ∧ Aside0 (kq ≤ k) ∧ Aside0 (Below w.heap.size w wc))
  case first =>
    have H := HC5.out
    clear HC5
    by_cases c8 : t682 = true
    · subst c8
      have H1 : (cartouchelaw10_EdgesReads.j0 k l0 t681 (t684 != 0)) = some r := by rw [if_pos rfl] at H; exact H
      clear H
      have H := H1
      clear H1
      have H' := Aside0.mk H
      clear H
      go_wp2
      repeat (go_quiet (fail); try go_wp2)
      go_meet
      case rel => exact ⟨_, ((t684 != 0)), (by first | rfl | (simp; done) | (simp [*]; done)), H', ⟨by first | omega | exact Nat.le_refl _⟩, ⟨by repeat (first | (with_reducible first | exact HB.out | apply below_alloc | apply pw_below_drewN | apply below_drew1) | exact HB.out)⟩⟩
    · replace c8 := Bool.eq_false_iff.mpr c8
      subst c8
      have H1 : (cartouchelaw10_EdgesReads.j0 k l0 t681 true) = some r := by rw [if_neg (show ¬ (false = true) by decide)] at H; exact H
      clear H
      have H := H1
      clear H1
      have H' := Aside0.mk H
      clear H
      go_wp2
      repeat (go_quiet (fail); try go_wp2)
      go_meet
      case rel => exact ⟨_, (true), (by first | rfl | (simp; done) | (simp [*]; done)), H', ⟨by first | omega | exact Nat.le_refl _⟩, ⟨by repeat (first | (with_reducible first | exact HB.out | apply below_alloc | apply pw_below_drewN | apply below_drew1) | exact HB.out)⟩⟩
  case rest =>
    clear HC5
    try clear c2
    try clear p2
    try clear c8
    obtain ⟨kq, x27_4, rfl, HA, HJ4, HB⟩ := hcut
    cases kq with
    | zero => exact absurd HA.out (by simp [cartouchelaw10_EdgesReads.j0])
    | succ kj4 =>
      have H := HA.out
      clear HA
      simp only [cartouchelaw10_EdgesReads.j0] at H
      by_cases c9 : x27_4 = true
      · subst c9
        have H1 : (some t681) = some r := by rw [if_pos rfl] at H; exact H
        clear H
        have H := H1
        clear H1
        obtain rfl := Option.some.inj H
        go_wp2
        repeat (go_quiet (fail); try go_wp2)
        go_ret
        exact ⟨by first | rfl | (simp [errW_none, errW_some] <;> rfl) | (simp [*, errW_none, errW_some] <;> rfl), by repeat (first | (with_reducible first | exact HB.out | apply below_alloc | apply pw_below_drewN | apply below_drew1) | exact HB.out)⟩
      · replace c9 := Bool.eq_false_iff.mpr c9
        subst c9
        have H1 : ((edges_All.f kj4 l0).bind fun t685 => (cartouchelaw10_EdgesReads.l0 kj4 l0 t681 t685 0)) = some r := by rw [if_neg (show ¬ (false = true) by decide)] at H; exact H
        clear H
        have H := H1
        clear H1
        replace H := Option.bind_eq_some_iff.mp H
        obtain ⟨t685, A100, H⟩ := H
        replace H : (cartouchelaw10_EdgesReads.l0 kj4 l0 t681 t685 0) = some r := H
        have A10 := Aside0.mk A100
        clear A100
        have H' := Aside0.mk H
        clear H
        go_wp2_with (first | (go_at_call 67; (with_reducible refine (edges_All.calls kj4 _ _ l0 t685 _ ?side1 ?side2 A10.out).mono ?_); (case side1 => repeat (first | exact (Kd.C_below HR0.out HB.out) | (with_reducible refine Kd.C_alloc ?_ _) | (with_reducible refine Kd.C_drewN ?_ _) | (with_reducible refine Kd.C_drew ?_))); (case side2 => exact HC0.out); rintro e w11 ⟨v686, rfl, ho0, hb⟩; have n0_ := Aside0.mk (Kd.R_lower ho0 (below_size (by repeat (first | (with_reducible first | exact HB.out | apply below_alloc | apply pw_below_drewN | apply below_drew1) | exact HB.out)))); have n1_ := Aside0.mk (below_step (by repeat (first | (with_reducible first | exact HB.out | apply below_alloc | apply pw_below_drewN | apply below_drew1) | exact HB.out)) hb); clear HB; have HO687 := n0_; have HB := n1_; clear n0_ n1_; (try clear hb); (try clear hb2); (try clear hk); (try clear hi); (try clear ho0)))
        repeat (go_quiet (first | (go_at_call 67; (with_reducible refine (edges_All.calls kj4 _ _ l0 t685 _ ?side1 ?side2 A10.out).mono ?_); (case side1 => repeat (first | exact (Kd.C_below HR0.out HB.out) | (with_reducible refine Kd.C_alloc ?_ _) | (with_reducible refine Kd.C_drewN ?_ _) | (with_reducible refine Kd.C_drew ?_))); (case side2 => exact HC0.out); rintro e w11 ⟨v686, rfl, ho0, hb⟩; have n0_ := Aside0.mk (Kd.R_lower ho0 (below_size (by repeat (first | (with_reducible first | exact HB.out | apply below_alloc | apply pw_below_drewN | apply below_drew1) | exact HB.out)))); have n1_ := Aside0.mk (below_step (by repeat (first | (with_reducible first | exact HB.out | apply below_alloc | apply pw_below_drewN | apply below_drew1) | exact HB.out)) hb); clear HB; have HO687 := n0_; have HB := n1_; clear n0_ n1_; (try clear hb); (try clear hb2); (try clear hk); (try clear hi); (try clear ho0))); try go_wp2_with (first | (go_at_call 67; (with_reducible refine (edges_All.calls kj4 _ _ l0 t685 _ ?side1 ?side2 A10.out).mono ?_); (case side1 => repeat (first | exact (Kd.C_below HR0.out HB.out) | (with_reducible refine Kd.C_alloc ?_ _) | (with_reducible refine Kd.C_drewN ?_ _) | (with_reducible refine Kd.C_drew ?_))); (case side2 => exact HC0.out); rintro e w11 ⟨v686, rfl, ho0, hb⟩; have n0_ := Aside0.mk (Kd.R_lower ho0 (below_size (by repeat (first | (with_reducible first | exact HB.out | apply below_alloc | apply pw_below_drewN | apply below_drew1) | exact HB.out)))); have n1_ := Aside0.mk (below_step (by repeat (first | (with_reducible first | exact HB.out | apply below_alloc | apply pw_below_drewN | apply below_drew1) | exact HB.out)) hb); clear HB; have HO687 := n0_; have HB := n1_; clear n0_ n1_; (try clear hb); (try clear hb2); (try clear hk); (try clear hi); (try clear ho0))))
        go_loopg [8] kj4 (fun kq v8 w' => ∃ (x8_2 : Int), v8 = .int .i64 x8_2 ∧ Aside0 (cartouchelaw10_EdgesReads.l0 kq l0 t681 t685 x8_2 = some r) ∧ Aside0 (kq ≤ kj4) ∧ Aside0 (Kd.R k76 76 w' w.heap.size (fun _ => True) v686 t685) ∧ Aside0 (Below w.heap.size w w'))
        case atStart => exact ⟨(0), (by first | rfl | (simp; done) | (simp [*]; done)), H', ⟨Nat.le_refl _⟩, ⟨by (with_reducible repeat (first | apply Kd.R_alloc | apply Kd.R_drewN | apply Kd.R_drew)); exact HO687.out⟩, ⟨by repeat (first | (with_reducible first | exact HB.out | apply below_alloc | apply pw_below_drewN | apply below_drew1) | exact HB.out)⟩⟩
        case round =>
          clear H'
          try clear c2
          try clear p2
          try clear c8
          try clear c9
          try clear p2
          obtain ⟨x8_2, rfl, HA, HK2, HO_7, HB⟩ := hrel
          cases gk with
          | zero => exact absurd HA.out (by simp [cartouchelaw10_EdgesReads.l0])
          | succ k2 =>
            have H := HA.out
            clear HA
            simp only [cartouchelaw10_EdgesReads.l0] at H
            by_cases c12 : x8_2 < (t685.length : Int)
            · rw [if_pos c12] at H
              have c12b0 : decide (x8_2 < (t685.length : Int)) = true := decide_eq_true c12
              clear c12
              by_cases c13 : 0 ≤ x8_2
              · rw [if_pos c13] at H
                have c13b0 : decide (0 ≤ x8_2) = true := decide_eq_true c13
                clear c13
                have HC14 := Aside0.mk H
                clear H
                obtain ⟨Ao15, co15, eo15⟩ := Kd.R_slice HO_7.out
                subst eo15
                have p688 : 0 ≤ (x8_2 : Int) := of_decide_eq_true (by first | (with_reducible assumption) | assumption)
                have q688 : x8_2 < (t685.length : Int) := of_decide_eq_true (by first | (with_reducible assumption) | assumption)
                obtain ⟨ad688, e688, hx688_0, hx688_1, hx688_2, hx688_3, hx688_4⟩ := at_T76 (Kd.R_reads' HO_7.out).2.2 x8_2 p688 q688
                cases e688
                replace p688 := eq_true p688
                replace q688 := eq_true q688
                go_upto_region 11 with (first | ((with_reducible refine gate_dst (N := 9) rfl ?_); (try (refine gate_guard (by rfl) ?_; dsimp only)); refine box_event ?hg (N := 9) ?hd (cs := #[.int .i64 0, .int .i64 0, .int .i64 0, .int .i64 0, .int .i64 0]) (t := 76) ?hr ?_; (case hd => rfl); (case hg => rfl); (case hr => first | (go_simp; done) | (go_simp; rfl)); intro gb689 hg w16 hbox hb; have n0_ := Aside0.mk (Kd.R_below (Kd.R_elderB (by (with_reducible repeat (first | apply Kd.R_alloc | apply Kd.R_drewN | apply Kd.R_drew)); exact HO_7.out) gb689 (Nat.le_of_eq hg.symm)) hb); have n1_ := Aside0.mk (below_step (by repeat (first | (with_reducible first | exact HB.out | apply below_alloc | apply pw_below_drewN | apply below_drew1) | exact HB.out)) hb); have n2_ := Aside0.mk (hbox); have n3_ := Aside0.mk ((by rw [hg]; exact (below_size (by repeat (first | (with_reducible first | exact HB.out | apply below_alloc | apply pw_below_drewN | apply below_drew1) | exact HB.out))) : w.heap.size ≤ gb689)); have n4_ := Aside0.mk ((by rw [hg]; exact (below_size (by repeat (first | (with_reducible first | exact HB.out | apply below_alloc | apply pw_below_drewN | apply below_drew1) | exact HB.out))) : w.heap.size ≤ gb689)); clear HO_7; clear HB; have HO_7 := n0_; have HB := n1_; have BK689 := n2_; have GW689 := n3_; have GE689 := n4_; clear n0_ n1_ n2_ n3_ n4_; clear hb hbox hg; have hcz17_0 : w16.cell? ⟨gb689, 0, none⟩ = some (.int .i64 0) := (blk_cell BK689.out 0).trans rfl; have hcz17_1 : w16.cell? ⟨gb689, 1, none⟩ = some (.int .i64 0) := (blk_cell BK689.out 1).trans rfl; have hcz17_2 : w16.cell? ⟨gb689, 2, none⟩ = some (.int .i64 0) := (blk_cell BK689.out 2).trans rfl; have hcz17_3 : w16.cell? ⟨gb689, 3, none⟩ = some (.int .i64 0) := (blk_cell BK689.out 3).trans rfl; have hcz17_4 : w16.cell? ⟨gb689, 4, none⟩ = some (.int .i64 0) := (blk_cell BK689.out 4).trans rfl; have hfz17_0 := blk_frozen BK689.out 0; have hfz17_1 := blk_frozen BK689.out 1; have hfz17_2 := blk_frozen BK689.out 2; have hfz17_3 := blk_frozen BK689.out 3; have hfz17_4 := blk_frozen BK689.out 4))
                repeat (go_quiet (first | ((with_reducible refine gate_dst (N := 9) rfl ?_); (try (refine gate_guard (by rfl) ?_; dsimp only)); refine box_event ?hg (N := 9) ?hd (cs := #[.int .i64 0, .int .i64 0, .int .i64 0, .int .i64 0, .int .i64 0]) (t := 76) ?hr ?_; (case hd => rfl); (case hg => rfl); (case hr => first | (go_simp; done) | (go_simp; rfl)); intro gb689 hg w16 hbox hb; have n0_ := Aside0.mk (Kd.R_below (Kd.R_elderB (by (with_reducible repeat (first | apply Kd.R_alloc | apply Kd.R_drewN | apply Kd.R_drew)); exact HO_7.out) gb689 (Nat.le_of_eq hg.symm)) hb); have n1_ := Aside0.mk (below_step (by repeat (first | (with_reducible first | exact HB.out | apply below_alloc | apply pw_below_drewN | apply below_drew1) | exact HB.out)) hb); have n2_ := Aside0.mk (hbox); have n3_ := Aside0.mk ((by rw [hg]; exact (below_size (by repeat (first | (with_reducible first | exact HB.out | apply below_alloc | apply pw_below_drewN | apply below_drew1) | exact HB.out))) : w.heap.size ≤ gb689)); have n4_ := Aside0.mk ((by rw [hg]; exact (below_size (by repeat (first | (with_reducible first | exact HB.out | apply below_alloc | apply pw_below_drewN | apply below_drew1) | exact HB.out))) : w.heap.size ≤ gb689)); clear HO_7; clear HB; have HO_7 := n0_; have HB := n1_; have BK689 := n2_; have GW689 := n3_; have GE689 := n4_; clear n0_ n1_ n2_ n3_ n4_; clear hb hbox hg; have hcz17_0 : w16.cell? ⟨gb689, 0, none⟩ = some (.int .i64 0) := (blk_cell BK689.out 0).trans rfl; have hcz17_1 : w16.cell? ⟨gb689, 1, none⟩ = some (.int .i64 0) := (blk_cell BK689.out 1).trans rfl; have hcz17_2 : w16.cell? ⟨gb689, 2, none⟩ = some (.int .i64 0) := (blk_cell BK689.out 2).trans rfl; have hcz17_3 : w16.cell? ⟨gb689, 3, none⟩ = some (.int .i64 0) := (blk_cell BK689.out 3).trans rfl; have hcz17_4 : w16.cell? ⟨gb689, 4, none⟩ = some (.int .i64 0) := (blk_cell BK689.out 4).trans rfl; have hfz17_0 := blk_frozen BK689.out 0; have hfz17_1 := blk_frozen BK689.out 1; have hfz17_2 := blk_frozen BK689.out 2; have hfz17_3 := blk_frozen BK689.out 3; have hfz17_4 := blk_frozen BK689.out 4)); go_upto_region 11 with (first | ((with_reducible refine gate_dst (N := 9) rfl ?_); (try (refine gate_guard (by rfl) ?_; dsimp only)); refine box_event ?hg (N := 9) ?hd (cs := #[.int .i64 0, .int .i64 0, .int .i64 0, .int .i64 0, .int .i64 0]) (t := 76) ?hr ?_; (case hd => rfl); (case hg => rfl); (case hr => first | (go_simp; done) | (go_simp; rfl)); intro gb689 hg w16 hbox hb; have n0_ := Aside0.mk (Kd.R_below (Kd.R_elderB (by (with_reducible repeat (first | apply Kd.R_alloc | apply Kd.R_drewN | apply Kd.R_drew)); exact HO_7.out) gb689 (Nat.le_of_eq hg.symm)) hb); have n1_ := Aside0.mk (below_step (by repeat (first | (with_reducible first | exact HB.out | apply below_alloc | apply pw_below_drewN | apply below_drew1) | exact HB.out)) hb); have n2_ := Aside0.mk (hbox); have n3_ := Aside0.mk ((by rw [hg]; exact (below_size (by repeat (first | (with_reducible first | exact HB.out | apply below_alloc | apply pw_below_drewN | apply below_drew1) | exact HB.out))) : w.heap.size ≤ gb689)); have n4_ := Aside0.mk ((by rw [hg]; exact (below_size (by repeat (first | (with_reducible first | exact HB.out | apply below_alloc | apply pw_below_drewN | apply below_drew1) | exact HB.out))) : w.heap.size ≤ gb689)); clear HO_7; clear HB; have HO_7 := n0_; have HB := n1_; have BK689 := n2_; have GW689 := n3_; have GE689 := n4_; clear n0_ n1_ n2_ n3_ n4_; clear hb hbox hg; have hcz17_0 : w16.cell? ⟨gb689, 0, none⟩ = some (.int .i64 0) := (blk_cell BK689.out 0).trans rfl; have hcz17_1 : w16.cell? ⟨gb689, 1, none⟩ = some (.int .i64 0) := (blk_cell BK689.out 1).trans rfl; have hcz17_2 : w16.cell? ⟨gb689, 2, none⟩ = some (.int .i64 0) := (blk_cell BK689.out 2).trans rfl; have hcz17_3 : w16.cell? ⟨gb689, 3, none⟩ = some (.int .i64 0) := (blk_cell BK689.out 3).trans rfl; have hcz17_4 : w16.cell? ⟨gb689, 4, none⟩ = some (.int .i64 0) := (blk_cell BK689.out 4).trans rfl; have hfz17_0 := blk_frozen BK689.out 0; have hfz17_1 := blk_frozen BK689.out 1; have hfz17_2 := blk_frozen BK689.out 2; have hfz17_3 := blk_frozen BK689.out 3; have hfz17_4 := blk_frozen BK689.out 4)))
                (try simp only [Act.put, List.setIfInBounds_toArray, List.set_cons_zero, List.set_cons_succ])
                go_cut [62] (fun v62 wc => ∃ (kq : Nat) (x62_13 : Bool), v62 = .bool x62_13 ∧ Aside0 (cartouchelaw10_EdgesReads.j2 kq l0 t681 t685 x8_2 x62_13 ((rd_T76 t685 x8_2).f0) ((rd_T76 t685 x8_2).f1) ((rd_T76 t685 x8_2).f2) ((rd_T76 t685 x8_2).f3) ((rd_T76 t685 x8_2).f4) = some r) ∧ Aside0 (kq ≤ k2) ∧ Aside0 (Kd.R k76 76 wc w.heap.size (fun k_ => k_ ≠ gb689) (.slice (some ad688) t685.length co15) t685) ∧ Aside0 (wc.heap[gb689]? = some (.cells #[.int .i64 ((rd_T76 t685 x8_2).f0), .int .i64 ((rd_T76 t685 x8_2).f1), .int .i64 ((rd_T76 t685 x8_2).f2), .int .i64 ((rd_T76 t685 x8_2).f3), .int .i64 ((rd_T76 t685 x8_2).f4)] 76 (0, 0))) ∧ Aside0 (Below w.heap.size w wc))
                case first =>
                  have H := HC14.out
                  clear HC14
                  by_cases c18 : ((rd_T76 t685 x8_2).f3) < 0
                  · rw [if_pos c18] at H
                    have c18b0 : decide (((rd_T76 t685 x8_2).f3) < 0) = true := decide_eq_true c18
                    clear c18
                    (first | rw [c18b0] | (simp only [i64_w, i32_w]; rw [c18b0]) | skip)
                    have H' := Aside0.mk H
                    clear H
                    have hcz19_0 : w16.cell? ⟨gb689, 0, none⟩ = some (.int .i64 0) := (blk_cell BK689.out 0).trans rfl
                    have hcz19_1 : w16.cell? ⟨gb689, 1, none⟩ = some (.int .i64 0) := (blk_cell BK689.out 1).trans rfl
                    have hcz19_2 : w16.cell? ⟨gb689, 2, none⟩ = some (.int .i64 0) := (blk_cell BK689.out 2).trans rfl
                    have hcz19_3 : w16.cell? ⟨gb689, 3, none⟩ = some (.int .i64 0) := (blk_cell BK689.out 3).trans rfl
                    have hcz19_4 : w16.cell? ⟨gb689, 4, none⟩ = some (.int .i64 0) := (blk_cell BK689.out 4).trans rfl
                    have hfz19_0 := blk_frozen BK689.out 0
                    have hfz19_1 := blk_frozen BK689.out 1
                    have hfz19_2 := blk_frozen BK689.out 2
                    have hfz19_3 := blk_frozen BK689.out 3
                    have hfz19_4 := blk_frozen BK689.out 4
                    go_wp2
                    repeat (go_quiet (fail); try go_wp2)
                    go_meet
                    case rel => exact ⟨_, (true), (by first | rfl | (simp; done) | (simp [*]; done)), H', ⟨by have := HJ4.out; have := HK2.out; first | omega | exact Nat.le_refl _⟩, ⟨by (with_reducible repeat (first | apply Kd.R_alloc | apply Kd.R_drewN | apply Kd.R_drew)); exact Kd.R_mono (Kd.R_far (p := ⟨gb689, 4, none⟩) (Kd.R_far (p := ⟨gb689, 3, none⟩) (Kd.R_far (p := ⟨gb689, 2, none⟩) (Kd.R_far (p := ⟨gb689, 1, none⟩) (Kd.R_far (p := ⟨gb689, 0, none⟩) (Kd.R_mono HO_7.out (fun k_ hk => (⟨hk, hk.2⟩ : _ ∧ k_ ≠ gb689))) (fun _ hk => hk.2) (.int .i64 ((rd_T76 t685 x8_2).f0))) (fun _ hk => hk.2) (.int .i64 ((rd_T76 t685 x8_2).f1))) (fun _ hk => hk.2) (.int .i64 ((rd_T76 t685 x8_2).f2))) (fun _ hk => hk.2) (.int .i64 ((rd_T76 t685 x8_2).f3))) (fun _ hk => hk.2) (.int .i64 ((rd_T76 t685 x8_2).f4))) (fun _ hk => hk.1.2)⟩, ⟨by (with_reducible repeat (first | refine blk_drewN ?_ _ | refine blk_drew ?_ | refine blk_alloc ?_ _)); refine blk_put (cs := #[.int .i64 ((rd_T76 t685 x8_2).f0), .int .i64 ((rd_T76 t685 x8_2).f1), .int .i64 ((rd_T76 t685 x8_2).f2), .int .i64 ((rd_T76 t685 x8_2).f3), .int .i64 0]) ?_ 4 _ rfl; (with_reducible repeat (first | refine blk_drewN ?_ _ | refine blk_drew ?_ | refine blk_alloc ?_ _)); refine blk_put (cs := #[.int .i64 ((rd_T76 t685 x8_2).f0), .int .i64 ((rd_T76 t685 x8_2).f1), .int .i64 ((rd_T76 t685 x8_2).f2), .int .i64 0, .int .i64 0]) ?_ 3 _ rfl; (with_reducible repeat (first | refine blk_drewN ?_ _ | refine blk_drew ?_ | refine blk_alloc ?_ _)); refine blk_put (cs := #[.int .i64 ((rd_T76 t685 x8_2).f0), .int .i64 ((rd_T76 t685 x8_2).f1), .int .i64 0, .int .i64 0, .int .i64 0]) ?_ 2 _ rfl; (with_reducible repeat (first | refine blk_drewN ?_ _ | refine blk_drew ?_ | refine blk_alloc ?_ _)); refine blk_put (cs := #[.int .i64 ((rd_T76 t685 x8_2).f0), .int .i64 0, .int .i64 0, .int .i64 0, .int .i64 0]) ?_ 1 _ rfl; (with_reducible repeat (first | refine blk_drewN ?_ _ | refine blk_drew ?_ | refine blk_alloc ?_ _)); refine blk_put (cs := #[.int .i64 0, .int .i64 0, .int .i64 0, .int .i64 0, .int .i64 0]) ?_ 0 _ rfl; (with_reducible repeat (first | refine blk_drewN ?_ _ | refine blk_drew ?_ | refine blk_alloc ?_ _)); exact BK689.out⟩, ⟨by repeat (first | (with_reducible first | exact HB.out | apply below_alloc | apply pw_below_drewN | apply below_drew1 | refine below_set ?_ GE689.out) | exact HB.out)⟩⟩
                  · rw [if_neg c18] at H
                    have c18b0 : decide (((rd_T76 t685 x8_2).f3) < 0) = false := decide_eq_false c18
                    clear c18
                    (first | rw [c18b0] | (simp only [i64_w, i32_w]; rw [c18b0]) | skip)
                    by_cases c20 : ((rd_T76 t685 x8_2).f3) ≥ (l0.length : Int)
                    · rw [if_pos c20] at H
                      have c20b0 : decide ((l0.length : Int) ≤ ((rd_T76 t685 x8_2).f3)) = true := decide_eq_true c20
                      clear c20
                      have H' := Aside0.mk H
                      clear H
                      have hcz21_0 : w16.cell? ⟨gb689, 0, none⟩ = some (.int .i64 0) := (blk_cell BK689.out 0).trans rfl
                      have hcz21_1 : w16.cell? ⟨gb689, 1, none⟩ = some (.int .i64 0) := (blk_cell BK689.out 1).trans rfl
                      have hcz21_2 : w16.cell? ⟨gb689, 2, none⟩ = some (.int .i64 0) := (blk_cell BK689.out 2).trans rfl
                      have hcz21_3 : w16.cell? ⟨gb689, 3, none⟩ = some (.int .i64 0) := (blk_cell BK689.out 3).trans rfl
                      have hcz21_4 : w16.cell? ⟨gb689, 4, none⟩ = some (.int .i64 0) := (blk_cell BK689.out 4).trans rfl
                      have hfz21_0 := blk_frozen BK689.out 0
                      have hfz21_1 := blk_frozen BK689.out 1
                      have hfz21_2 := blk_frozen BK689.out 2
                      have hfz21_3 := blk_frozen BK689.out 3
                      have hfz21_4 := blk_frozen BK689.out 4
                      go_wp2
                      repeat (go_quiet (fail); try go_wp2)
                      go_meet
                      case rel => exact ⟨_, (true), (by first | rfl | (simp; done) | (simp [*]; done)), H', ⟨by have := HJ4.out; have := HK2.out; first | omega | exact Nat.le_refl _⟩, ⟨by (with_reducible repeat (first | apply Kd.R_alloc | apply Kd.R_drewN | apply Kd.R_drew)); exact Kd.R_mono (Kd.R_far (p := ⟨gb689, 4, none⟩) (Kd.R_far (p := ⟨gb689, 3, none⟩) (Kd.R_far (p := ⟨gb689, 2, none⟩) (Kd.R_far (p := ⟨gb689, 1, none⟩) (Kd.R_far (p := ⟨gb689, 0, none⟩) (Kd.R_mono HO_7.out (fun k_ hk => (⟨hk, hk.2⟩ : _ ∧ k_ ≠ gb689))) (fun _ hk => hk.2) (.int .i64 ((rd_T76 t685 x8_2).f0))) (fun _ hk => hk.2) (.int .i64 ((rd_T76 t685 x8_2).f1))) (fun _ hk => hk.2) (.int .i64 ((rd_T76 t685 x8_2).f2))) (fun _ hk => hk.2) (.int .i64 ((rd_T76 t685 x8_2).f3))) (fun _ hk => hk.2) (.int .i64 ((rd_T76 t685 x8_2).f4))) (fun _ hk => hk.1.2)⟩, ⟨by (with_reducible repeat (first | refine blk_drewN ?_ _ | refine blk_drew ?_ | refine blk_alloc ?_ _)); refine blk_put (cs := #[.int .i64 ((rd_T76 t685 x8_2).f0), .int .i64 ((rd_T76 t685 x8_2).f1), .int .i64 ((rd_T76 t685 x8_2).f2), .int .i64 ((rd_T76 t685 x8_2).f3), .int .i64 0]) ?_ 4 _ rfl; (with_reducible repeat (first | refine blk_drewN ?_ _ | refine blk_drew ?_ | refine blk_alloc ?_ _)); refine blk_put (cs := #[.int .i64 ((rd_T76 t685 x8_2).f0), .int .i64 ((rd_T76 t685 x8_2).f1), .int .i64 ((rd_T76 t685 x8_2).f2), .int .i64 0, .int .i64 0]) ?_ 3 _ rfl; (with_reducible repeat (first | refine blk_drewN ?_ _ | refine blk_drew ?_ | refine blk_alloc ?_ _)); refine blk_put (cs := #[.int .i64 ((rd_T76 t685 x8_2).f0), .int .i64 ((rd_T76 t685 x8_2).f1), .int .i64 0, .int .i64 0, .int .i64 0]) ?_ 2 _ rfl; (with_reducible repeat (first | refine blk_drewN ?_ _ | refine blk_drew ?_ | refine blk_alloc ?_ _)); refine blk_put (cs := #[.int .i64 ((rd_T76 t685 x8_2).f0), .int .i64 0, .int .i64 0, .int .i64 0, .int .i64 0]) ?_ 1 _ rfl; (with_reducible repeat (first | refine blk_drewN ?_ _ | refine blk_drew ?_ | refine blk_alloc ?_ _)); refine blk_put (cs := #[.int .i64 0, .int .i64 0, .int .i64 0, .int .i64 0, .int .i64 0]) ?_ 0 _ rfl; (with_reducible repeat (first | refine blk_drewN ?_ _ | refine blk_drew ?_ | refine blk_alloc ?_ _)); exact BK689.out⟩, ⟨by repeat (first | (with_reducible first | exact HB.out | apply below_alloc | apply pw_below_drewN | apply below_drew1 | refine below_set ?_ GE689.out) | exact HB.out)⟩⟩
                    · rw [if_neg c20] at H
                      have c20b0 : decide ((l0.length : Int) ≤ ((rd_T76 t685 x8_2).f3)) = false := decide_eq_false c20
                      clear c20
                      by_cases c22 : ((rd_T76 t685 x8_2).f4) < 0
                      · rw [if_pos c22] at H
                        have c22b0 : decide (((rd_T76 t685 x8_2).f4) < 0) = true := decide_eq_true c22
                        clear c22
                        have H' := Aside0.mk H
                        clear H
                        have hcz23_0 : w16.cell? ⟨gb689, 0, none⟩ = some (.int .i64 0) := (blk_cell BK689.out 0).trans rfl
                        have hcz23_1 : w16.cell? ⟨gb689, 1, none⟩ = some (.int .i64 0) := (blk_cell BK689.out 1).trans rfl
                        have hcz23_2 : w16.cell? ⟨gb689, 2, none⟩ = some (.int .i64 0) := (blk_cell BK689.out 2).trans rfl
                        have hcz23_3 : w16.cell? ⟨gb689, 3, none⟩ = some (.int .i64 0) := (blk_cell BK689.out 3).trans rfl
                        have hcz23_4 : w16.cell? ⟨gb689, 4, none⟩ = some (.int .i64 0) := (blk_cell BK689.out 4).trans rfl
                        have hfz23_0 := blk_frozen BK689.out 0
                        have hfz23_1 := blk_frozen BK689.out 1
                        have hfz23_2 := blk_frozen BK689.out 2
                        have hfz23_3 := blk_frozen BK689.out 3
                        have hfz23_4 := blk_frozen BK689.out 4
                        go_wp2
                        repeat (go_quiet (fail); try go_wp2)
                        go_meet
                        case rel => exact ⟨_, (true), (by first | rfl | (simp; done) | (simp [*]; done)), H', ⟨by have := HJ4.out; have := HK2.out; first | omega | exact Nat.le_refl _⟩, ⟨by (with_reducible repeat (first | apply Kd.R_alloc | apply Kd.R_drewN | apply Kd.R_drew)); exact Kd.R_mono (Kd.R_far (p := ⟨gb689, 4, none⟩) (Kd.R_far (p := ⟨gb689, 3, none⟩) (Kd.R_far (p := ⟨gb689, 2, none⟩) (Kd.R_far (p := ⟨gb689, 1, none⟩) (Kd.R_far (p := ⟨gb689, 0, none⟩) (Kd.R_mono HO_7.out (fun k_ hk => (⟨hk, hk.2⟩ : _ ∧ k_ ≠ gb689))) (fun _ hk => hk.2) (.int .i64 ((rd_T76 t685 x8_2).f0))) (fun _ hk => hk.2) (.int .i64 ((rd_T76 t685 x8_2).f1))) (fun _ hk => hk.2) (.int .i64 ((rd_T76 t685 x8_2).f2))) (fun _ hk => hk.2) (.int .i64 ((rd_T76 t685 x8_2).f3))) (fun _ hk => hk.2) (.int .i64 ((rd_T76 t685 x8_2).f4))) (fun _ hk => hk.1.2)⟩, ⟨by (with_reducible repeat (first | refine blk_drewN ?_ _ | refine blk_drew ?_ | refine blk_alloc ?_ _)); refine blk_put (cs := #[.int .i64 ((rd_T76 t685 x8_2).f0), .int .i64 ((rd_T76 t685 x8_2).f1), .int .i64 ((rd_T76 t685 x8_2).f2), .int .i64 ((rd_T76 t685 x8_2).f3), .int .i64 0]) ?_ 4 _ rfl; (with_reducible repeat (first | refine blk_drewN ?_ _ | refine blk_drew ?_ | refine blk_alloc ?_ _)); refine blk_put (cs := #[.int .i64 ((rd_T76 t685 x8_2).f0), .int .i64 ((rd_T76 t685 x8_2).f1), .int .i64 ((rd_T76 t685 x8_2).f2), .int .i64 0, .int .i64 0]) ?_ 3 _ rfl; (with_reducible repeat (first | refine blk_drewN ?_ _ | refine blk_drew ?_ | refine blk_alloc ?_ _)); refine blk_put (cs := #[.int .i64 ((rd_T76 t685 x8_2).f0), .int .i64 ((rd_T76 t685 x8_2).f1), .int .i64 0, .int .i64 0, .int .i64 0]) ?_ 2 _ rfl; (with_reducible repeat (first | refine blk_drewN ?_ _ | refine blk_drew ?_ | refine blk_alloc ?_ _)); refine blk_put (cs := #[.int .i64 ((rd_T76 t685 x8_2).f0), .int .i64 0, .int .i64 0, .int .i64 0, .int .i64 0]) ?_ 1 _ rfl; (with_reducible repeat (first | refine blk_drewN ?_ _ | refine blk_drew ?_ | refine blk_alloc ?_ _)); refine blk_put (cs := #[.int .i64 0, .int .i64 0, .int .i64 0, .int .i64 0, .int .i64 0]) ?_ 0 _ rfl; (with_reducible repeat (first | refine blk_drewN ?_ _ | refine blk_drew ?_ | refine blk_alloc ?_ _)); exact BK689.out⟩, ⟨by repeat (first | (with_reducible first | exact HB.out | apply below_alloc | apply pw_below_drewN | apply below_drew1 | refine below_set ?_ GE689.out) | exact HB.out)⟩⟩
                      · rw [if_neg c22] at H
                        have c22b0 : decide (((rd_T76 t685 x8_2).f4) < 0) = false := decide_eq_false c22
                        clear c22
                        have H' := Aside0.mk H
                        clear H
                        have hcz24_0 : w16.cell? ⟨gb689, 0, none⟩ = some (.int .i64 0) := (blk_cell BK689.out 0).trans rfl
                        have hcz24_1 : w16.cell? ⟨gb689, 1, none⟩ = some (.int .i64 0) := (blk_cell BK689.out 1).trans rfl
                        have hcz24_2 : w16.cell? ⟨gb689, 2, none⟩ = some (.int .i64 0) := (blk_cell BK689.out 2).trans rfl
                        have hcz24_3 : w16.cell? ⟨gb689, 3, none⟩ = some (.int .i64 0) := (blk_cell BK689.out 3).trans rfl
                        have hcz24_4 : w16.cell? ⟨gb689, 4, none⟩ = some (.int .i64 0) := (blk_cell BK689.out 4).trans rfl
                        have hfz24_0 := blk_frozen BK689.out 0
                        have hfz24_1 := blk_frozen BK689.out 1
                        have hfz24_2 := blk_frozen BK689.out 2
                        have hfz24_3 := blk_frozen BK689.out 3
                        have hfz24_4 := blk_frozen BK689.out 4
                        go_wp2
                        repeat (go_quiet (fail); try go_wp2)
                        go_meet
                        case rel => exact ⟨_, (decide (((rd_T76 t685 x8_2).f4) ≥ (l0.length : Int))), (by first | rfl | (simp; done) | (simp [*]; done)), H', ⟨by have := HJ4.out; have := HK2.out; first | omega | exact Nat.le_refl _⟩, ⟨by (with_reducible repeat (first | apply Kd.R_alloc | apply Kd.R_drewN | apply Kd.R_drew)); exact Kd.R_mono (Kd.R_far (p := ⟨gb689, 4, none⟩) (Kd.R_far (p := ⟨gb689, 3, none⟩) (Kd.R_far (p := ⟨gb689, 2, none⟩) (Kd.R_far (p := ⟨gb689, 1, none⟩) (Kd.R_far (p := ⟨gb689, 0, none⟩) (Kd.R_mono HO_7.out (fun k_ hk => (⟨hk, hk.2⟩ : _ ∧ k_ ≠ gb689))) (fun _ hk => hk.2) (.int .i64 ((rd_T76 t685 x8_2).f0))) (fun _ hk => hk.2) (.int .i64 ((rd_T76 t685 x8_2).f1))) (fun _ hk => hk.2) (.int .i64 ((rd_T76 t685 x8_2).f2))) (fun _ hk => hk.2) (.int .i64 ((rd_T76 t685 x8_2).f3))) (fun _ hk => hk.2) (.int .i64 ((rd_T76 t685 x8_2).f4))) (fun _ hk => hk.1.2)⟩, ⟨by (with_reducible repeat (first | refine blk_drewN ?_ _ | refine blk_drew ?_ | refine blk_alloc ?_ _)); refine blk_put (cs := #[.int .i64 ((rd_T76 t685 x8_2).f0), .int .i64 ((rd_T76 t685 x8_2).f1), .int .i64 ((rd_T76 t685 x8_2).f2), .int .i64 ((rd_T76 t685 x8_2).f3), .int .i64 0]) ?_ 4 _ rfl; (with_reducible repeat (first | refine blk_drewN ?_ _ | refine blk_drew ?_ | refine blk_alloc ?_ _)); refine blk_put (cs := #[.int .i64 ((rd_T76 t685 x8_2).f0), .int .i64 ((rd_T76 t685 x8_2).f1), .int .i64 ((rd_T76 t685 x8_2).f2), .int .i64 0, .int .i64 0]) ?_ 3 _ rfl; (with_reducible repeat (first | refine blk_drewN ?_ _ | refine blk_drew ?_ | refine blk_alloc ?_ _)); refine blk_put (cs := #[.int .i64 ((rd_T76 t685 x8_2).f0), .int .i64 ((rd_T76 t685 x8_2).f1), .int .i64 0, .int .i64 0, .int .i64 0]) ?_ 2 _ rfl; (with_reducible repeat (first | refine blk_drewN ?_ _ | refine blk_drew ?_ | refine blk_alloc ?_ _)); refine blk_put (cs := #[.int .i64 ((rd_T76 t685 x8_2).f0), .int .i64 0, .int .i64 0, .int .i64 0, .int .i64 0]) ?_ 1 _ rfl; (with_reducible repeat (first | refine blk_drewN ?_ _ | refine blk_drew ?_ | refine blk_alloc ?_ _)); refine blk_put (cs := #[.int .i64 0, .int .i64 0, .int .i64 0, .int .i64 0, .int .i64 0]) ?_ 0 _ rfl; (with_reducible repeat (first | refine blk_drewN ?_ _ | refine blk_drew ?_ | refine blk_alloc ?_ _)); exact BK689.out⟩, ⟨by repeat (first | (with_reducible first | exact HB.out | apply below_alloc | apply pw_below_drewN | apply below_drew1 | refine below_set ?_ GE689.out) | exact HB.out)⟩⟩
                case rest =>
                  clear HC14
                  try clear c1
                  try clear c2
                  try clear p2
                  try clear p6
                  try clear q6
                  try clear hx6
                  try clear c8
                  try clear c9
                  try clear c12
                  try clear c12b0
                  try clear c13
                  try clear c13b0
                  try clear c18
                  try clear c18b0
                  try clear c20
                  try clear c20b0
                  try clear c22
                  try clear c22b0
                  try clear c24
                  try clear hcz17_0
                  try clear hcz17_1
                  try clear hcz17_2
                  try clear hcz17_3
                  try clear hcz17_4
                  try clear hcz19_0
                  try clear hcz19_1
                  try clear hcz19_2
                  try clear hcz19_3
                  try clear hcz19_4
                  try clear hcz21_0
                  try clear hcz21_1
                  try clear hcz21_2
                  try clear hcz21_3
                  try clear hcz21_4
                  try clear hcz23_0
                  try clear hcz23_1
                  try clear hcz23_2
                  try clear hcz23_3
                  try clear hcz23_4
                  try clear hcz24_0
                  try clear hcz24_1
                  try clear hcz24_2
                  try clear hcz24_3
                  try clear hcz24_4
                  try clear hfz17_0
                  try clear hfz17_1
                  try clear hfz17_2
                  try clear hfz17_3
                  try clear hfz17_4
                  try clear hfz19_0
                  try clear hfz19_1
                  try clear hfz19_2
                  try clear hfz19_3
                  try clear hfz19_4
                  try clear hfz21_0
                  try clear hfz21_1
                  try clear hfz21_2
                  try clear hfz21_3
                  try clear hfz21_4
                  try clear hfz23_0
                  try clear hfz23_1
                  try clear hfz23_2
                  try clear hfz23_3
                  try clear hfz23_4
                  try clear hfz24_0
                  try clear hfz24_1
                  try clear hfz24_2
                  try clear hfz24_3
                  try clear hfz24_4
                  try clear hx688_0
                  try clear hx688_1
                  try clear hx688_2
                  try clear hx688_3
                  try clear hx688_4
                  try clear p2
                  try clear p688
                  try clear q688
                  obtain ⟨kq, x62_13, rfl, HA, HJ13, HO_7, BK689, HB⟩ := hcut
                  cases kq with
                  | zero => exact absurd HA.out (by simp [cartouchelaw10_EdgesReads.j2])
                  | succ kj13 =>
                    have H := HA.out
                    clear HA
                    simp only [cartouchelaw10_EdgesReads.j2] at H
                    by_cases c25 : x62_13 = true
                    · subst c25
                      have H1 : (some false) = some r := by rw [if_pos rfl] at H; exact H
                      clear H
                      have H := H1
                      clear H1
                      obtain rfl := Option.some.inj H
                      go_wp2
                      repeat (go_quiet (fail); try go_wp2)
                      go_ret
                      exact ⟨by first | rfl | (simp [errW_none, errW_some] <;> rfl) | (simp [*, errW_none, errW_some] <;> rfl), by repeat (first | (with_reducible first | exact HB.out | apply below_alloc | apply pw_below_drewN | apply below_drew1 | refine below_set ?_ GE689.out) | exact HB.out)⟩
                    · replace c25 := Bool.eq_false_iff.mpr c25
                      subst c25
                      have H1 : ((cartoucheref08_Find.f l0 ((rd_T76 t685 x8_2).f1)).bind fun bt690 => ((cartoucheref08_Find.f l0 ((rd_T76 t685 x8_2).f2)).bind fun bt696 => (if ((rd_T76 t685 x8_2).f0) = 2 then (if 0 ≤ ((rd_T76 t685 x8_2).f3) then (if ((rd_T76 t685 x8_2).f3) < (l0.length : Int) then (if 0 ≤ ((rd_T76 t685 x8_2).f4) then (if ((rd_T76 t685 x8_2).f4) < (l0.length : Int) then (if ((rd_T31 l0 ((rd_T76 t685 x8_2).f3)).f3).toList = ((rd_T31 l0 ((rd_T76 t685 x8_2).f4)).f3).toList then (if ((rd_T76 t685 x8_2).f0) = 3 then (cartouchelaw10_EdgesReads.j3 kj13 l0 t681 t685 x8_2 true) else (if ((rd_T76 t685 x8_2).f0) = 1 then (cartouchelaw10_EdgesReads.j3 kj13 l0 t681 t685 x8_2 (decide (bt690.2.2.1 ≥ bt696.2.2.1))) else (cartouchelaw10_EdgesReads.j3 kj13 l0 t681 t685 x8_2 false))) else (cartouchelaw10_EdgesReads.j3 kj13 l0 t681 t685 x8_2 true)) else (none)) else (none)) else (none)) else (none)) else (if ((rd_T76 t685 x8_2).f0) = 3 then (if 0 ≤ ((rd_T76 t685 x8_2).f3) then (if ((rd_T76 t685 x8_2).f3) < (l0.length : Int) then (if 0 ≤ ((rd_T76 t685 x8_2).f4) then (if ((rd_T76 t685 x8_2).f4) < (l0.length : Int) then (if ((rd_T31 l0 ((rd_T76 t685 x8_2).f3)).f3).toList = ((rd_T31 l0 ((rd_T76 t685 x8_2).f4)).f3).toList then (cartouchelaw10_EdgesReads.j3 kj13 l0 t681 t685 x8_2 true) else (if ((rd_T76 t685 x8_2).f0) = 1 then (cartouchelaw10_EdgesReads.j3 kj13 l0 t681 t685 x8_2 (decide (bt690.2.2.1 ≥ bt696.2.2.1))) else (cartouchelaw10_EdgesReads.j3 kj13 l0 t681 t685 x8_2 false))) else (none)) else (none)) else (none)) else (none)) else (if ((rd_T76 t685 x8_2).f0) = 1 then (cartouchelaw10_EdgesReads.j3 kj13 l0 t681 t685 x8_2 (decide (bt690.2.2.1 ≥ bt696.2.2.1))) else (cartouchelaw10_EdgesReads.j3 kj13 l0 t681 t685 x8_2 false)))))) = some r := by rw [if_neg (show ¬ (false = true) by decide)] at H; exact H
                      clear H
                      have H := H1
                      clear H1
                      replace H := Option.bind_eq_some_iff.mp H
                      obtain ⟨⟨t690, t691, t692, t693, t694⟩, A260, H⟩ := H
                      replace H : ((cartoucheref08_Find.f l0 ((rd_T76 t685 x8_2).f2)).bind fun bt696 => (if ((rd_T76 t685 x8_2).f0) = 2 then (if 0 ≤ ((rd_T76 t685 x8_2).f3) then (if ((rd_T76 t685 x8_2).f3) < (l0.length : Int) then (if 0 ≤ ((rd_T76 t685 x8_2).f4) then (if ((rd_T76 t685 x8_2).f4) < (l0.length : Int) then (if ((rd_T31 l0 ((rd_T76 t685 x8_2).f3)).f3).toList = ((rd_T31 l0 ((rd_T76 t685 x8_2).f4)).f3).toList then (if ((rd_T76 t685 x8_2).f0) = 3 then (cartouchelaw10_EdgesReads.j3 kj13 l0 t681 t685 x8_2 true) else (if ((rd_T76 t685 x8_2).f0) = 1 then (cartouchelaw10_EdgesReads.j3 kj13 l0 t681 t685 x8_2 (decide (t692 ≥ bt696.2.2.1))) else (cartouchelaw10_EdgesReads.j3 kj13 l0 t681 t685 x8_2 false))) else (cartouchelaw10_EdgesReads.j3 kj13 l0 t681 t685 x8_2 true)) else (none)) else (none)) else (none)) else (none)) else (if ((rd_T76 t685 x8_2).f0) = 3 then (if 0 ≤ ((rd_T76 t685 x8_2).f3) then (if ((rd_T76 t685 x8_2).f3) < (l0.length : Int) then (if 0 ≤ ((rd_T76 t685 x8_2).f4) then (if ((rd_T76 t685 x8_2).f4) < (l0.length : Int) then (if ((rd_T31 l0 ((rd_T76 t685 x8_2).f3)).f3).toList = ((rd_T31 l0 ((rd_T76 t685 x8_2).f4)).f3).toList then (cartouchelaw10_EdgesReads.j3 kj13 l0 t681 t685 x8_2 true) else (if ((rd_T76 t685 x8_2).f0) = 1 then (cartouchelaw10_EdgesReads.j3 kj13 l0 t681 t685 x8_2 (decide (t692 ≥ bt696.2.2.1))) else (cartouchelaw10_EdgesReads.j3 kj13 l0 t681 t685 x8_2 false))) else (none)) else (none)) else (none)) else (none)) else (if ((rd_T76 t685 x8_2).f0) = 1 then (cartouchelaw10_EdgesReads.j3 kj13 l0 t681 t685 x8_2 (decide (t692 ≥ bt696.2.2.1))) else (cartouchelaw10_EdgesReads.j3 kj13 l0 t681 t685 x8_2 false))))) = some r := H
                      have A26 := Aside0.mk A260
                      clear A260
                      replace H := Option.bind_eq_some_iff.mp H
                      obtain ⟨⟨t696, t697, t698, t699, t700⟩, A270, H⟩ := H
                      replace H : (if ((rd_T76 t685 x8_2).f0) = 2 then (if 0 ≤ ((rd_T76 t685 x8_2).f3) then (if ((rd_T76 t685 x8_2).f3) < (l0.length : Int) then (if 0 ≤ ((rd_T76 t685 x8_2).f4) then (if ((rd_T76 t685 x8_2).f4) < (l0.length : Int) then (if ((rd_T31 l0 ((rd_T76 t685 x8_2).f3)).f3).toList = ((rd_T31 l0 ((rd_T76 t685 x8_2).f4)).f3).toList then (if ((rd_T76 t685 x8_2).f0) = 3 then (cartouchelaw10_EdgesReads.j3 kj13 l0 t681 t685 x8_2 true) else (if ((rd_T76 t685 x8_2).f0) = 1 then (cartouchelaw10_EdgesReads.j3 kj13 l0 t681 t685 x8_2 (decide (t692 ≥ t698))) else (cartouchelaw10_EdgesReads.j3 kj13 l0 t681 t685 x8_2 false))) else (cartouchelaw10_EdgesReads.j3 kj13 l0 t681 t685 x8_2 true)) else (none)) else (none)) else (none)) else (none)) else (if ((rd_T76 t685 x8_2).f0) = 3 then (if 0 ≤ ((rd_T76 t685 x8_2).f3) then (if ((rd_T76 t685 x8_2).f3) < (l0.length : Int) then (if 0 ≤ ((rd_T76 t685 x8_2).f4) then (if ((rd_T76 t685 x8_2).f4) < (l0.length : Int) then (if ((rd_T31 l0 ((rd_T76 t685 x8_2).f3)).f3).toList = ((rd_T31 l0 ((rd_T76 t685 x8_2).f4)).f3).toList then (cartouchelaw10_EdgesReads.j3 kj13 l0 t681 t685 x8_2 true) else (if ((rd_T76 t685 x8_2).f0) = 1 then (cartouchelaw10_EdgesReads.j3 kj13 l0 t681 t685 x8_2 (decide (t692 ≥ t698))) else (cartouchelaw10_EdgesReads.j3 kj13 l0 t681 t685 x8_2 false))) else (none)) else (none)) else (none)) else (none)) else (if ((rd_T76 t685 x8_2).f0) = 1 then (cartouchelaw10_EdgesReads.j3 kj13 l0 t681 t685 x8_2 (decide (t692 ≥ t698))) else (cartouchelaw10_EdgesReads.j3 kj13 l0 t681 t685 x8_2 false)))) = some r := H
                      have A27 := Aside0.mk A270
                      clear A270
                      have HC28 := Aside0.mk H
                      clear H
                      have hcz29_0 : wc.cell? ⟨gb689, 0, none⟩ = some (.int .i64 ((rd_T76 t685 x8_2).f0)) := (blk_cell BK689.out 0).trans rfl
                      have hcz29_1 : wc.cell? ⟨gb689, 1, none⟩ = some (.int .i64 ((rd_T76 t685 x8_2).f1)) := (blk_cell BK689.out 1).trans rfl
                      have hcz29_2 : wc.cell? ⟨gb689, 2, none⟩ = some (.int .i64 ((rd_T76 t685 x8_2).f2)) := (blk_cell BK689.out 2).trans rfl
                      have hcz29_3 : wc.cell? ⟨gb689, 3, none⟩ = some (.int .i64 ((rd_T76 t685 x8_2).f3)) := (blk_cell BK689.out 3).trans rfl
                      have hcz29_4 : wc.cell? ⟨gb689, 4, none⟩ = some (.int .i64 ((rd_T76 t685 x8_2).f4)) := (blk_cell BK689.out 4).trans rfl
                      have hfz29_0 := blk_frozen BK689.out 0
                      have hfz29_1 := blk_frozen BK689.out 1
                      have hfz29_2 := blk_frozen BK689.out 2
                      have hfz29_3 := blk_frozen BK689.out 3
                      have hfz29_4 := blk_frozen BK689.out 4
                      go_upto_region 15 with (first | (go_at_call 34; (with_reducible refine (cartoucheref08_Find.calls _ _ l0 ((rd_T76 t685 x8_2).f1) t690 t691 t692 t693 t694 _ ?side1 ?side2 A26.out).mono ?_); (case side1 => repeat (first | exact (Kd.C_below HR0.out HB.out) | (with_reducible refine Kd.C_alloc ?_ _) | (with_reducible refine Kd.C_drewN ?_ _) | (with_reducible refine Kd.C_drew ?_))); (case side2 => exact HC0.out); rintro e w30 ⟨rfl, hb⟩; have n0_ := Aside0.mk (Kd.R_below (by (with_reducible repeat (first | apply Kd.R_alloc | apply Kd.R_drewN | apply Kd.R_drew)); exact HO_7.out) hb); have n1_ := Aside0.mk (blk_below (g := gb689) (o := .cells #[.int .i64 ((rd_T76 t685 x8_2).f0), .int .i64 ((rd_T76 t685 x8_2).f1), .int .i64 ((rd_T76 t685 x8_2).f2), .int .i64 ((rd_T76 t685 x8_2).f3), .int .i64 ((rd_T76 t685 x8_2).f4)] 76 (0, 0)) (by (with_reducible repeat (first | refine blk_drewN ?_ _ | refine blk_drew ?_ | refine blk_alloc ?_ _)); exact BK689.out) hb); have n2_ := Aside0.mk (below_step (by repeat (first | (with_reducible first | exact HB.out | apply below_alloc | apply pw_below_drewN | apply below_drew1 | refine below_set ?_ GE689.out) | exact HB.out)) hb); clear HO_7; clear BK689; clear HB; have HO_7 := n0_; have BK689 := n1_; have HB := n2_; clear n0_ n1_ n2_; (try clear hb); (try clear hb2); (try clear hk); (try clear hi)) | ((with_reducible refine gate_dst (N := 10) rfl ?_); (try (refine gate_guard (by rfl) ?_; dsimp only)); refine box_event ?hg (N := 10) ?hd (cs := #[.int .i64 0, .int .i64 0, .int .i64 0, .bool false]) (t := 33) ?hr ?_; (case hd => rfl); (case hg => rfl); (case hr => first | (go_simp; done) | (go_simp; rfl)); intro gb695 hg w31 hbox hb; have n0_ := Aside0.mk (Kd.R_below (by (with_reducible repeat (first | apply Kd.R_alloc | apply Kd.R_drewN | apply Kd.R_drew)); exact HO_7.out) hb); have n1_ := Aside0.mk (blk_below (g := gb689) (o := .cells #[.int .i64 ((rd_T76 t685 x8_2).f0), .int .i64 ((rd_T76 t685 x8_2).f1), .int .i64 ((rd_T76 t685 x8_2).f2), .int .i64 ((rd_T76 t685 x8_2).f3), .int .i64 ((rd_T76 t685 x8_2).f4)] 76 (0, 0)) (by (with_reducible repeat (first | refine blk_drewN ?_ _ | refine blk_drew ?_ | refine blk_alloc ?_ _)); exact BK689.out) hb); have n2_ := Aside0.mk (below_step (by repeat (first | (with_reducible first | exact HB.out | apply below_alloc | apply pw_below_drewN | apply below_drew1 | refine below_set ?_ GE689.out) | exact HB.out)) hb); have n3_ := Aside0.mk (hbox); have n4_ := Aside0.mk ((by rw [hg]; exact (below_size (by repeat (first | (with_reducible first | exact HB.out | apply below_alloc | apply pw_below_drewN | apply below_drew1 | refine below_set ?_ GE689.out) | exact HB.out))) : w.heap.size ≤ gb695)); have n5_ := Aside0.mk ((by rw [hg]; exact (below_size (by repeat (first | (with_reducible first | exact HB.out | apply below_alloc | apply pw_below_drewN | apply below_drew1 | refine below_set ?_ GE689.out) | exact HB.out))) : w.heap.size ≤ gb695)); have n6_ := Aside0.mk ((by rw [hg]; exact Nat.ne_of_lt (blk_lt (g := gb689) (o := .cells #[.int .i64 ((rd_T76 t685 x8_2).f0), .int .i64 ((rd_T76 t685 x8_2).f1), .int .i64 ((rd_T76 t685 x8_2).f2), .int .i64 ((rd_T76 t685 x8_2).f3), .int .i64 ((rd_T76 t685 x8_2).f4)] 76 (0, 0)) (by (with_reducible repeat (first | refine blk_drewN ?_ _ | refine blk_drew ?_ | refine blk_alloc ?_ _)); exact BK689.out)) : gb689 ≠ gb695)); have n7_ := Aside0.mk ((by rw [hg]; exact Nat.ne_of_gt (blk_lt (g := gb689) (o := .cells #[.int .i64 ((rd_T76 t685 x8_2).f0), .int .i64 ((rd_T76 t685 x8_2).f1), .int .i64 ((rd_T76 t685 x8_2).f2), .int .i64 ((rd_T76 t685 x8_2).f3), .int .i64 ((rd_T76 t685 x8_2).f4)] 76 (0, 0)) (by (with_reducible repeat (first | refine blk_drewN ?_ _ | refine blk_drew ?_ | refine blk_alloc ?_ _)); exact BK689.out)) : gb695 ≠ gb689)); clear HO_7; clear BK689; clear HB; have HO_7 := n0_; have BK689 := n1_; have HB := n2_; have BK695 := n3_; have GW695 := n4_; have GE695 := n5_; have NB689_695 := n6_; have NB695_689 := n7_; clear n0_ n1_ n2_ n3_ n4_ n5_ n6_ n7_; clear hb hbox hg; have hnb32 := NB695_689.out; have hnc32 := NB689_695.out; have hcz33_0 : w31.cell? ⟨gb695, 0, none⟩ = some (.int .i64 0) := (blk_cell BK695.out 0).trans rfl; have hcz33_1 : w31.cell? ⟨gb695, 1, none⟩ = some (.int .i64 0) := (blk_cell BK695.out 1).trans rfl; have hcz33_2 : w31.cell? ⟨gb695, 2, none⟩ = some (.int .i64 0) := (blk_cell BK695.out 2).trans rfl; have hcz33_3 : w31.cell? ⟨gb695, 3, none⟩ = some (.bool false) := (blk_cell BK695.out 3).trans rfl; have hfz33_0 := blk_frozen BK695.out 0; have hfz33_1 := blk_frozen BK695.out 1; have hfz33_2 := blk_frozen BK695.out 2; have hfz33_3 := blk_frozen BK695.out 3; have hcz34_0 : w31.cell? ⟨gb689, 0, none⟩ = some (.int .i64 ((rd_T76 t685 x8_2).f0)) := (blk_cell BK689.out 0).trans rfl; have hcz34_1 : w31.cell? ⟨gb689, 1, none⟩ = some (.int .i64 ((rd_T76 t685 x8_2).f1)) := (blk_cell BK689.out 1).trans rfl; have hcz34_2 : w31.cell? ⟨gb689, 2, none⟩ = some (.int .i64 ((rd_T76 t685 x8_2).f2)) := (blk_cell BK689.out 2).trans rfl; have hcz34_3 : w31.cell? ⟨gb689, 3, none⟩ = some (.int .i64 ((rd_T76 t685 x8_2).f3)) := (blk_cell BK689.out 3).trans rfl; have hcz34_4 : w31.cell? ⟨gb689, 4, none⟩ = some (.int .i64 ((rd_T76 t685 x8_2).f4)) := (blk_cell BK689.out 4).trans rfl; have hfz34_0 := blk_frozen BK689.out 0; have hfz34_1 := blk_frozen BK689.out 1; have hfz34_2 := blk_frozen BK689.out 2; have hfz34_3 := blk_frozen BK689.out 3; have hfz34_4 := blk_frozen BK689.out 4) | (go_at_call 34; (with_reducible refine (cartoucheref08_Find.calls _ _ l0 ((rd_T76 t685 x8_2).f2) t696 t697 t698 t699 t700 _ ?side1 ?side2 A27.out).mono ?_); (case side1 => exact Kd.C_below HR0.out (by repeat (first | (with_reducible first | exact HB.out | apply below_alloc | apply pw_below_drewN | apply below_drew1 | refine below_set ?_ GE689.out | refine below_set ?_ GE695.out) | exact HB.out))); (case side2 => exact HC0.out); rintro e w35 ⟨rfl, hb⟩; have n0_ := Aside0.mk (Kd.R_below (by (with_reducible repeat (first | apply Kd.R_alloc | apply Kd.R_drewN | apply Kd.R_drew)); exact (Kd.R_mono (Kd.R_far (p := ⟨gb695, 3, none⟩) (Kd.R_far (p := ⟨gb695, 2, none⟩) (Kd.R_far (p := ⟨gb695, 1, none⟩) (Kd.R_far (p := ⟨gb695, 0, none⟩) (Kd.R_types HO_7.out BK695.out (by decide)) (fun _ hk => hk.2) (.int .i64 t690)) (fun _ hk => hk.2) (.int .i64 t691)) (fun _ hk => hk.2) (.int .i64 t692)) (fun _ hk => hk.2) (.bool t693)) (fun _ h_ => h_.1))) hb); have n1_ := Aside0.mk (blk_below (g := gb689) (o := .cells #[.int .i64 ((rd_T76 t685 x8_2).f0), .int .i64 ((rd_T76 t685 x8_2).f1), .int .i64 ((rd_T76 t685 x8_2).f2), .int .i64 ((rd_T76 t685 x8_2).f3), .int .i64 ((rd_T76 t685 x8_2).f4)] 76 (0, 0)) (by (with_reducible repeat (first | refine blk_drewN ?_ _ | refine blk_drew ?_ | refine blk_alloc ?_ _)); refine blk_far ?_ NB689_695.out _; (with_reducible repeat (first | refine blk_drewN ?_ _ | refine blk_drew ?_ | refine blk_alloc ?_ _)); refine blk_far ?_ NB689_695.out _; (with_reducible repeat (first | refine blk_drewN ?_ _ | refine blk_drew ?_ | refine blk_alloc ?_ _)); refine blk_far ?_ NB689_695.out _; (with_reducible repeat (first | refine blk_drewN ?_ _ | refine blk_drew ?_ | refine blk_alloc ?_ _)); refine blk_far ?_ NB689_695.out _; (with_reducible repeat (first | refine blk_drewN ?_ _ | refine blk_drew ?_ | refine blk_alloc ?_ _)); exact BK689.out) hb); have n2_ := Aside0.mk (blk_below (g := gb695) (o := .cells #[.int .i64 t690, .int .i64 t691, .int .i64 t692, .bool t693] 33 (0, 0)) (by (with_reducible repeat (first | refine blk_drewN ?_ _ | refine blk_drew ?_ | refine blk_alloc ?_ _)); refine blk_put (cs := #[.int .i64 t690, .int .i64 t691, .int .i64 t692, .bool false]) ?_ 3 _ rfl; (with_reducible repeat (first | refine blk_drewN ?_ _ | refine blk_drew ?_ | refine blk_alloc ?_ _)); refine blk_put (cs := #[.int .i64 t690, .int .i64 t691, .int .i64 0, .bool false]) ?_ 2 _ rfl; (with_reducible repeat (first | refine blk_drewN ?_ _ | refine blk_drew ?_ | refine blk_alloc ?_ _)); refine blk_put (cs := #[.int .i64 t690, .int .i64 0, .int .i64 0, .bool false]) ?_ 1 _ rfl; (with_reducible repeat (first | refine blk_drewN ?_ _ | refine blk_drew ?_ | refine blk_alloc ?_ _)); refine blk_put (cs := #[.int .i64 0, .int .i64 0, .int .i64 0, .bool false]) ?_ 0 _ rfl; (with_reducible repeat (first | refine blk_drewN ?_ _ | refine blk_drew ?_ | refine blk_alloc ?_ _)); exact BK695.out) hb); have n3_ := Aside0.mk (below_step (by repeat (first | (with_reducible first | exact HB.out | apply below_alloc | apply pw_below_drewN | apply below_drew1 | refine below_set ?_ GE689.out | refine below_set ?_ GE695.out) | exact HB.out)) hb); clear HO_7; clear BK689; clear BK695; clear HB; have HO_7 := n0_; have BK689 := n1_; have BK695 := n2_; have HB := n3_; clear n0_ n1_ n2_ n3_; (try clear hb); (try clear hb2); (try clear hk); (try clear hi)) | ((with_reducible refine gate_dst (N := 12) rfl ?_); (try (refine gate_guard (by rfl) ?_; dsimp only)); refine box_event ?hg (N := 12) ?hd (cs := #[.int .i64 0, .int .i64 0, .int .i64 0, .bool false]) (t := 33) ?hr ?_; (case hd => rfl); (case hg => rfl); (case hr => first | (go_simp; done) | (go_simp; rfl)); intro gb701 hg w36 hbox hb; have n0_ := Aside0.mk (Kd.R_below (by (with_reducible repeat (first | apply Kd.R_alloc | apply Kd.R_drewN | apply Kd.R_drew)); exact HO_7.out) hb); have n1_ := Aside0.mk (blk_below (g := gb689) (o := .cells #[.int .i64 ((rd_T76 t685 x8_2).f0), .int .i64 ((rd_T76 t685 x8_2).f1), .int .i64 ((rd_T76 t685 x8_2).f2), .int .i64 ((rd_T76 t685 x8_2).f3), .int .i64 ((rd_T76 t685 x8_2).f4)] 76 (0, 0)) (by (with_reducible repeat (first | refine blk_drewN ?_ _ | refine blk_drew ?_ | refine blk_alloc ?_ _)); exact BK689.out) hb); have n2_ := Aside0.mk (blk_below (g := gb695) (o := .cells #[.int .i64 t690, .int .i64 t691, .int .i64 t692, .bool t693] 33 (0, 0)) (by (with_reducible repeat (first | refine blk_drewN ?_ _ | refine blk_drew ?_ | refine blk_alloc ?_ _)); exact BK695.out) hb); have n3_ := Aside0.mk (below_step (by repeat (first | (with_reducible first | exact HB.out | apply below_alloc | apply pw_below_drewN | apply below_drew1 | refine below_set ?_ GE689.out | refine below_set ?_ GE695.out) | exact HB.out)) hb); have n4_ := Aside0.mk (hbox); have n5_ := Aside0.mk ((by rw [hg]; exact (below_size (by repeat (first | (with_reducible first | exact HB.out | apply below_alloc | apply pw_below_drewN | apply below_drew1 | refine below_set ?_ GE689.out | refine below_set ?_ GE695.out) | exact HB.out))) : w.heap.size ≤ gb701)); have n6_ := Aside0.mk ((by rw [hg]; exact (below_size (by repeat (first | (with_reducible first | exact HB.out | apply below_alloc | apply pw_below_drewN | apply below_drew1 | refine below_set ?_ GE689.out | refine below_set ?_ GE695.out) | exact HB.out))) : w.heap.size ≤ gb701)); have n7_ := Aside0.mk ((by rw [hg]; exact Nat.ne_of_lt (blk_lt (g := gb689) (o := .cells #[.int .i64 ((rd_T76 t685 x8_2).f0), .int .i64 ((rd_T76 t685 x8_2).f1), .int .i64 ((rd_T76 t685 x8_2).f2), .int .i64 ((rd_T76 t685 x8_2).f3), .int .i64 ((rd_T76 t685 x8_2).f4)] 76 (0, 0)) (by (with_reducible repeat (first | refine blk_drewN ?_ _ | refine blk_drew ?_ | refine blk_alloc ?_ _)); exact BK689.out)) : gb689 ≠ gb701)); have n8_ := Aside0.mk ((by rw [hg]; exact Nat.ne_of_gt (blk_lt (g := gb689) (o := .cells #[.int .i64 ((rd_T76 t685 x8_2).f0), .int .i64 ((rd_T76 t685 x8_2).f1), .int .i64 ((rd_T76 t685 x8_2).f2), .int .i64 ((rd_T76 t685 x8_2).f3), .int .i64 ((rd_T76 t685 x8_2).f4)] 76 (0, 0)) (by (with_reducible repeat (first | refine blk_drewN ?_ _ | refine blk_drew ?_ | refine blk_alloc ?_ _)); exact BK689.out)) : gb701 ≠ gb689)); have n9_ := Aside0.mk ((by rw [hg]; exact Nat.ne_of_lt (blk_lt (g := gb695) (o := .cells #[.int .i64 t690, .int .i64 t691, .int .i64 t692, .bool t693] 33 (0, 0)) (by (with_reducible repeat (first | refine blk_drewN ?_ _ | refine blk_drew ?_ | refine blk_alloc ?_ _)); exact BK695.out)) : gb695 ≠ gb701)); have n10_ := Aside0.mk ((by rw [hg]; exact Nat.ne_of_gt (blk_lt (g := gb695) (o := .cells #[.int .i64 t690, .int .i64 t691, .int .i64 t692, .bool t693] 33 (0, 0)) (by (with_reducible repeat (first | refine blk_drewN ?_ _ | refine blk_drew ?_ | refine blk_alloc ?_ _)); exact BK695.out)) : gb701 ≠ gb695)); clear HO_7; clear BK689; clear BK695; clear HB; have HO_7 := n0_; have BK689 := n1_; have BK695 := n2_; have HB := n3_; have BK701 := n4_; have GW701 := n5_; have GE701 := n6_; have NB689_701 := n7_; have NB701_689 := n8_; have NB695_701 := n9_; have NB701_695 := n10_; clear n0_ n1_ n2_ n3_ n4_ n5_ n6_ n7_ n8_ n9_ n10_; clear hb hbox hg; have hnb37 := NB701_689.out; have hnc37 := NB689_701.out; have hnb38 := NB701_695.out; have hnc38 := NB695_701.out; have hcz39_0 : w36.cell? ⟨gb701, 0, none⟩ = some (.int .i64 0) := (blk_cell BK701.out 0).trans rfl; have hcz39_1 : w36.cell? ⟨gb701, 1, none⟩ = some (.int .i64 0) := (blk_cell BK701.out 1).trans rfl; have hcz39_2 : w36.cell? ⟨gb701, 2, none⟩ = some (.int .i64 0) := (blk_cell BK701.out 2).trans rfl; have hcz39_3 : w36.cell? ⟨gb701, 3, none⟩ = some (.bool false) := (blk_cell BK701.out 3).trans rfl; have hfz39_0 := blk_frozen BK701.out 0; have hfz39_1 := blk_frozen BK701.out 1; have hfz39_2 := blk_frozen BK701.out 2; have hfz39_3 := blk_frozen BK701.out 3))
                      repeat (go_quiet (first | (go_at_call 34; (with_reducible refine (cartoucheref08_Find.calls _ _ l0 ((rd_T76 t685 x8_2).f1) t690 t691 t692 t693 t694 _ ?side1 ?side2 A26.out).mono ?_); (case side1 => repeat (first | exact (Kd.C_below HR0.out HB.out) | (with_reducible refine Kd.C_alloc ?_ _) | (with_reducible refine Kd.C_drewN ?_ _) | (with_reducible refine Kd.C_drew ?_))); (case side2 => exact HC0.out); rintro e w30 ⟨rfl, hb⟩; have n0_ := Aside0.mk (Kd.R_below (by (with_reducible repeat (first | apply Kd.R_alloc | apply Kd.R_drewN | apply Kd.R_drew)); exact HO_7.out) hb); have n1_ := Aside0.mk (blk_below (g := gb689) (o := .cells #[.int .i64 ((rd_T76 t685 x8_2).f0), .int .i64 ((rd_T76 t685 x8_2).f1), .int .i64 ((rd_T76 t685 x8_2).f2), .int .i64 ((rd_T76 t685 x8_2).f3), .int .i64 ((rd_T76 t685 x8_2).f4)] 76 (0, 0)) (by (with_reducible repeat (first | refine blk_drewN ?_ _ | refine blk_drew ?_ | refine blk_alloc ?_ _)); exact BK689.out) hb); have n2_ := Aside0.mk (below_step (by repeat (first | (with_reducible first | exact HB.out | apply below_alloc | apply pw_below_drewN | apply below_drew1 | refine below_set ?_ GE689.out) | exact HB.out)) hb); clear HO_7; clear BK689; clear HB; have HO_7 := n0_; have BK689 := n1_; have HB := n2_; clear n0_ n1_ n2_; (try clear hb); (try clear hb2); (try clear hk); (try clear hi)) | ((with_reducible refine gate_dst (N := 10) rfl ?_); (try (refine gate_guard (by rfl) ?_; dsimp only)); refine box_event ?hg (N := 10) ?hd (cs := #[.int .i64 0, .int .i64 0, .int .i64 0, .bool false]) (t := 33) ?hr ?_; (case hd => rfl); (case hg => rfl); (case hr => first | (go_simp; done) | (go_simp; rfl)); intro gb695 hg w31 hbox hb; have n0_ := Aside0.mk (Kd.R_below (by (with_reducible repeat (first | apply Kd.R_alloc | apply Kd.R_drewN | apply Kd.R_drew)); exact HO_7.out) hb); have n1_ := Aside0.mk (blk_below (g := gb689) (o := .cells #[.int .i64 ((rd_T76 t685 x8_2).f0), .int .i64 ((rd_T76 t685 x8_2).f1), .int .i64 ((rd_T76 t685 x8_2).f2), .int .i64 ((rd_T76 t685 x8_2).f3), .int .i64 ((rd_T76 t685 x8_2).f4)] 76 (0, 0)) (by (with_reducible repeat (first | refine blk_drewN ?_ _ | refine blk_drew ?_ | refine blk_alloc ?_ _)); exact BK689.out) hb); have n2_ := Aside0.mk (below_step (by repeat (first | (with_reducible first | exact HB.out | apply below_alloc | apply pw_below_drewN | apply below_drew1 | refine below_set ?_ GE689.out) | exact HB.out)) hb); have n3_ := Aside0.mk (hbox); have n4_ := Aside0.mk ((by rw [hg]; exact (below_size (by repeat (first | (with_reducible first | exact HB.out | apply below_alloc | apply pw_below_drewN | apply below_drew1 | refine below_set ?_ GE689.out) | exact HB.out))) : w.heap.size ≤ gb695)); have n5_ := Aside0.mk ((by rw [hg]; exact (below_size (by repeat (first | (with_reducible first | exact HB.out | apply below_alloc | apply pw_below_drewN | apply below_drew1 | refine below_set ?_ GE689.out) | exact HB.out))) : w.heap.size ≤ gb695)); have n6_ := Aside0.mk ((by rw [hg]; exact Nat.ne_of_lt (blk_lt (g := gb689) (o := .cells #[.int .i64 ((rd_T76 t685 x8_2).f0), .int .i64 ((rd_T76 t685 x8_2).f1), .int .i64 ((rd_T76 t685 x8_2).f2), .int .i64 ((rd_T76 t685 x8_2).f3), .int .i64 ((rd_T76 t685 x8_2).f4)] 76 (0, 0)) (by (with_reducible repeat (first | refine blk_drewN ?_ _ | refine blk_drew ?_ | refine blk_alloc ?_ _)); exact BK689.out)) : gb689 ≠ gb695)); have n7_ := Aside0.mk ((by rw [hg]; exact Nat.ne_of_gt (blk_lt (g := gb689) (o := .cells #[.int .i64 ((rd_T76 t685 x8_2).f0), .int .i64 ((rd_T76 t685 x8_2).f1), .int .i64 ((rd_T76 t685 x8_2).f2), .int .i64 ((rd_T76 t685 x8_2).f3), .int .i64 ((rd_T76 t685 x8_2).f4)] 76 (0, 0)) (by (with_reducible repeat (first | refine blk_drewN ?_ _ | refine blk_drew ?_ | refine blk_alloc ?_ _)); exact BK689.out)) : gb695 ≠ gb689)); clear HO_7; clear BK689; clear HB; have HO_7 := n0_; have BK689 := n1_; have HB := n2_; have BK695 := n3_; have GW695 := n4_; have GE695 := n5_; have NB689_695 := n6_; have NB695_689 := n7_; clear n0_ n1_ n2_ n3_ n4_ n5_ n6_ n7_; clear hb hbox hg; have hnb32 := NB695_689.out; have hnc32 := NB689_695.out; have hcz33_0 : w31.cell? ⟨gb695, 0, none⟩ = some (.int .i64 0) := (blk_cell BK695.out 0).trans rfl; have hcz33_1 : w31.cell? ⟨gb695, 1, none⟩ = some (.int .i64 0) := (blk_cell BK695.out 1).trans rfl; have hcz33_2 : w31.cell? ⟨gb695, 2, none⟩ = some (.int .i64 0) := (blk_cell BK695.out 2).trans rfl; have hcz33_3 : w31.cell? ⟨gb695, 3, none⟩ = some (.bool false) := (blk_cell BK695.out 3).trans rfl; have hfz33_0 := blk_frozen BK695.out 0; have hfz33_1 := blk_frozen BK695.out 1; have hfz33_2 := blk_frozen BK695.out 2; have hfz33_3 := blk_frozen BK695.out 3; have hcz34_0 : w31.cell? ⟨gb689, 0, none⟩ = some (.int .i64 ((rd_T76 t685 x8_2).f0)) := (blk_cell BK689.out 0).trans rfl; have hcz34_1 : w31.cell? ⟨gb689, 1, none⟩ = some (.int .i64 ((rd_T76 t685 x8_2).f1)) := (blk_cell BK689.out 1).trans rfl; have hcz34_2 : w31.cell? ⟨gb689, 2, none⟩ = some (.int .i64 ((rd_T76 t685 x8_2).f2)) := (blk_cell BK689.out 2).trans rfl; have hcz34_3 : w31.cell? ⟨gb689, 3, none⟩ = some (.int .i64 ((rd_T76 t685 x8_2).f3)) := (blk_cell BK689.out 3).trans rfl; have hcz34_4 : w31.cell? ⟨gb689, 4, none⟩ = some (.int .i64 ((rd_T76 t685 x8_2).f4)) := (blk_cell BK689.out 4).trans rfl; have hfz34_0 := blk_frozen BK689.out 0; have hfz34_1 := blk_frozen BK689.out 1; have hfz34_2 := blk_frozen BK689.out 2; have hfz34_3 := blk_frozen BK689.out 3; have hfz34_4 := blk_frozen BK689.out 4) | (go_at_call 34; (with_reducible refine (cartoucheref08_Find.calls _ _ l0 ((rd_T76 t685 x8_2).f2) t696 t697 t698 t699 t700 _ ?side1 ?side2 A27.out).mono ?_); (case side1 => exact Kd.C_below HR0.out (by repeat (first | (with_reducible first | exact HB.out | apply below_alloc | apply pw_below_drewN | apply below_drew1 | refine below_set ?_ GE689.out | refine below_set ?_ GE695.out) | exact HB.out))); (case side2 => exact HC0.out); rintro e w35 ⟨rfl, hb⟩; have n0_ := Aside0.mk (Kd.R_below (by (with_reducible repeat (first | apply Kd.R_alloc | apply Kd.R_drewN | apply Kd.R_drew)); exact (Kd.R_mono (Kd.R_far (p := ⟨gb695, 3, none⟩) (Kd.R_far (p := ⟨gb695, 2, none⟩) (Kd.R_far (p := ⟨gb695, 1, none⟩) (Kd.R_far (p := ⟨gb695, 0, none⟩) (Kd.R_types HO_7.out BK695.out (by decide)) (fun _ hk => hk.2) (.int .i64 t690)) (fun _ hk => hk.2) (.int .i64 t691)) (fun _ hk => hk.2) (.int .i64 t692)) (fun _ hk => hk.2) (.bool t693)) (fun _ h_ => h_.1))) hb); have n1_ := Aside0.mk (blk_below (g := gb689) (o := .cells #[.int .i64 ((rd_T76 t685 x8_2).f0), .int .i64 ((rd_T76 t685 x8_2).f1), .int .i64 ((rd_T76 t685 x8_2).f2), .int .i64 ((rd_T76 t685 x8_2).f3), .int .i64 ((rd_T76 t685 x8_2).f4)] 76 (0, 0)) (by (with_reducible repeat (first | refine blk_drewN ?_ _ | refine blk_drew ?_ | refine blk_alloc ?_ _)); refine blk_far ?_ NB689_695.out _; (with_reducible repeat (first | refine blk_drewN ?_ _ | refine blk_drew ?_ | refine blk_alloc ?_ _)); refine blk_far ?_ NB689_695.out _; (with_reducible repeat (first | refine blk_drewN ?_ _ | refine blk_drew ?_ | refine blk_alloc ?_ _)); refine blk_far ?_ NB689_695.out _; (with_reducible repeat (first | refine blk_drewN ?_ _ | refine blk_drew ?_ | refine blk_alloc ?_ _)); refine blk_far ?_ NB689_695.out _; (with_reducible repeat (first | refine blk_drewN ?_ _ | refine blk_drew ?_ | refine blk_alloc ?_ _)); exact BK689.out) hb); have n2_ := Aside0.mk (blk_below (g := gb695) (o := .cells #[.int .i64 t690, .int .i64 t691, .int .i64 t692, .bool t693] 33 (0, 0)) (by (with_reducible repeat (first | refine blk_drewN ?_ _ | refine blk_drew ?_ | refine blk_alloc ?_ _)); refine blk_put (cs := #[.int .i64 t690, .int .i64 t691, .int .i64 t692, .bool false]) ?_ 3 _ rfl; (with_reducible repeat (first | refine blk_drewN ?_ _ | refine blk_drew ?_ | refine blk_alloc ?_ _)); refine blk_put (cs := #[.int .i64 t690, .int .i64 t691, .int .i64 0, .bool false]) ?_ 2 _ rfl; (with_reducible repeat (first | refine blk_drewN ?_ _ | refine blk_drew ?_ | refine blk_alloc ?_ _)); refine blk_put (cs := #[.int .i64 t690, .int .i64 0, .int .i64 0, .bool false]) ?_ 1 _ rfl; (with_reducible repeat (first | refine blk_drewN ?_ _ | refine blk_drew ?_ | refine blk_alloc ?_ _)); refine blk_put (cs := #[.int .i64 0, .int .i64 0, .int .i64 0, .bool false]) ?_ 0 _ rfl; (with_reducible repeat (first | refine blk_drewN ?_ _ | refine blk_drew ?_ | refine blk_alloc ?_ _)); exact BK695.out) hb); have n3_ := Aside0.mk (below_step (by repeat (first | (with_reducible first | exact HB.out | apply below_alloc | apply pw_below_drewN | apply below_drew1 | refine below_set ?_ GE689.out | refine below_set ?_ GE695.out) | exact HB.out)) hb); clear HO_7; clear BK689; clear BK695; clear HB; have HO_7 := n0_; have BK689 := n1_; have BK695 := n2_; have HB := n3_; clear n0_ n1_ n2_ n3_; (try clear hb); (try clear hb2); (try clear hk); (try clear hi)) | ((with_reducible refine gate_dst (N := 12) rfl ?_); (try (refine gate_guard (by rfl) ?_; dsimp only)); refine box_event ?hg (N := 12) ?hd (cs := #[.int .i64 0, .int .i64 0, .int .i64 0, .bool false]) (t := 33) ?hr ?_; (case hd => rfl); (case hg => rfl); (case hr => first | (go_simp; done) | (go_simp; rfl)); intro gb701 hg w36 hbox hb; have n0_ := Aside0.mk (Kd.R_below (by (with_reducible repeat (first | apply Kd.R_alloc | apply Kd.R_drewN | apply Kd.R_drew)); exact HO_7.out) hb); have n1_ := Aside0.mk (blk_below (g := gb689) (o := .cells #[.int .i64 ((rd_T76 t685 x8_2).f0), .int .i64 ((rd_T76 t685 x8_2).f1), .int .i64 ((rd_T76 t685 x8_2).f2), .int .i64 ((rd_T76 t685 x8_2).f3), .int .i64 ((rd_T76 t685 x8_2).f4)] 76 (0, 0)) (by (with_reducible repeat (first | refine blk_drewN ?_ _ | refine blk_drew ?_ | refine blk_alloc ?_ _)); exact BK689.out) hb); have n2_ := Aside0.mk (blk_below (g := gb695) (o := .cells #[.int .i64 t690, .int .i64 t691, .int .i64 t692, .bool t693] 33 (0, 0)) (by (with_reducible repeat (first | refine blk_drewN ?_ _ | refine blk_drew ?_ | refine blk_alloc ?_ _)); exact BK695.out) hb); have n3_ := Aside0.mk (below_step (by repeat (first | (with_reducible first | exact HB.out | apply below_alloc | apply pw_below_drewN | apply below_drew1 | refine below_set ?_ GE689.out | refine below_set ?_ GE695.out) | exact HB.out)) hb); have n4_ := Aside0.mk (hbox); have n5_ := Aside0.mk ((by rw [hg]; exact (below_size (by repeat (first | (with_reducible first | exact HB.out | apply below_alloc | apply pw_below_drewN | apply below_drew1 | refine below_set ?_ GE689.out | refine below_set ?_ GE695.out) | exact HB.out))) : w.heap.size ≤ gb701)); have n6_ := Aside0.mk ((by rw [hg]; exact (below_size (by repeat (first | (with_reducible first | exact HB.out | apply below_alloc | apply pw_below_drewN | apply below_drew1 | refine below_set ?_ GE689.out | refine below_set ?_ GE695.out) | exact HB.out))) : w.heap.size ≤ gb701)); have n7_ := Aside0.mk ((by rw [hg]; exact Nat.ne_of_lt (blk_lt (g := gb689) (o := .cells #[.int .i64 ((rd_T76 t685 x8_2).f0), .int .i64 ((rd_T76 t685 x8_2).f1), .int .i64 ((rd_T76 t685 x8_2).f2), .int .i64 ((rd_T76 t685 x8_2).f3), .int .i64 ((rd_T76 t685 x8_2).f4)] 76 (0, 0)) (by (with_reducible repeat (first | refine blk_drewN ?_ _ | refine blk_drew ?_ | refine blk_alloc ?_ _)); exact BK689.out)) : gb689 ≠ gb701)); have n8_ := Aside0.mk ((by rw [hg]; exact Nat.ne_of_gt (blk_lt (g := gb689) (o := .cells #[.int .i64 ((rd_T76 t685 x8_2).f0), .int .i64 ((rd_T76 t685 x8_2).f1), .int .i64 ((rd_T76 t685 x8_2).f2), .int .i64 ((rd_T76 t685 x8_2).f3), .int .i64 ((rd_T76 t685 x8_2).f4)] 76 (0, 0)) (by (with_reducible repeat (first | refine blk_drewN ?_ _ | refine blk_drew ?_ | refine blk_alloc ?_ _)); exact BK689.out)) : gb701 ≠ gb689)); have n9_ := Aside0.mk ((by rw [hg]; exact Nat.ne_of_lt (blk_lt (g := gb695) (o := .cells #[.int .i64 t690, .int .i64 t691, .int .i64 t692, .bool t693] 33 (0, 0)) (by (with_reducible repeat (first | refine blk_drewN ?_ _ | refine blk_drew ?_ | refine blk_alloc ?_ _)); exact BK695.out)) : gb695 ≠ gb701)); have n10_ := Aside0.mk ((by rw [hg]; exact Nat.ne_of_gt (blk_lt (g := gb695) (o := .cells #[.int .i64 t690, .int .i64 t691, .int .i64 t692, .bool t693] 33 (0, 0)) (by (with_reducible repeat (first | refine blk_drewN ?_ _ | refine blk_drew ?_ | refine blk_alloc ?_ _)); exact BK695.out)) : gb701 ≠ gb695)); clear HO_7; clear BK689; clear BK695; clear HB; have HO_7 := n0_; have BK689 := n1_; have BK695 := n2_; have HB := n3_; have BK701 := n4_; have GW701 := n5_; have GE701 := n6_; have NB689_701 := n7_; have NB701_689 := n8_; have NB695_701 := n9_; have NB701_695 := n10_; clear n0_ n1_ n2_ n3_ n4_ n5_ n6_ n7_ n8_ n9_ n10_; clear hb hbox hg; have hnb37 := NB701_689.out; have hnc37 := NB689_701.out; have hnb38 := NB701_695.out; have hnc38 := NB695_701.out; have hcz39_0 : w36.cell? ⟨gb701, 0, none⟩ = some (.int .i64 0) := (blk_cell BK701.out 0).trans rfl; have hcz39_1 : w36.cell? ⟨gb701, 1, none⟩ = some (.int .i64 0) := (blk_cell BK701.out 1).trans rfl; have hcz39_2 : w36.cell? ⟨gb701, 2, none⟩ = some (.int .i64 0) := (blk_cell BK701.out 2).trans rfl; have hcz39_3 : w36.cell? ⟨gb701, 3, none⟩ = some (.bool false) := (blk_cell BK701.out 3).trans rfl; have hfz39_0 := blk_frozen BK701.out 0; have hfz39_1 := blk_frozen BK701.out 1; have hfz39_2 := blk_frozen BK701.out 2; have hfz39_3 := blk_frozen BK701.out 3)); go_upto_region 15 with (first | (go_at_call 34; (with_reducible refine (cartoucheref08_Find.calls _ _ l0 ((rd_T76 t685 x8_2).f1) t690 t691 t692 t693 t694 _ ?side1 ?side2 A26.out).mono ?_); (case side1 => repeat (first | exact (Kd.C_below HR0.out HB.out) | (with_reducible refine Kd.C_alloc ?_ _) | (with_reducible refine Kd.C_drewN ?_ _) | (with_reducible refine Kd.C_drew ?_))); (case side2 => exact HC0.out); rintro e w30 ⟨rfl, hb⟩; have n0_ := Aside0.mk (Kd.R_below (by (with_reducible repeat (first | apply Kd.R_alloc | apply Kd.R_drewN | apply Kd.R_drew)); exact HO_7.out) hb); have n1_ := Aside0.mk (blk_below (g := gb689) (o := .cells #[.int .i64 ((rd_T76 t685 x8_2).f0), .int .i64 ((rd_T76 t685 x8_2).f1), .int .i64 ((rd_T76 t685 x8_2).f2), .int .i64 ((rd_T76 t685 x8_2).f3), .int .i64 ((rd_T76 t685 x8_2).f4)] 76 (0, 0)) (by (with_reducible repeat (first | refine blk_drewN ?_ _ | refine blk_drew ?_ | refine blk_alloc ?_ _)); exact BK689.out) hb); have n2_ := Aside0.mk (below_step (by repeat (first | (with_reducible first | exact HB.out | apply below_alloc | apply pw_below_drewN | apply below_drew1 | refine below_set ?_ GE689.out) | exact HB.out)) hb); clear HO_7; clear BK689; clear HB; have HO_7 := n0_; have BK689 := n1_; have HB := n2_; clear n0_ n1_ n2_; (try clear hb); (try clear hb2); (try clear hk); (try clear hi)) | ((with_reducible refine gate_dst (N := 10) rfl ?_); (try (refine gate_guard (by rfl) ?_; dsimp only)); refine box_event ?hg (N := 10) ?hd (cs := #[.int .i64 0, .int .i64 0, .int .i64 0, .bool false]) (t := 33) ?hr ?_; (case hd => rfl); (case hg => rfl); (case hr => first | (go_simp; done) | (go_simp; rfl)); intro gb695 hg w31 hbox hb; have n0_ := Aside0.mk (Kd.R_below (by (with_reducible repeat (first | apply Kd.R_alloc | apply Kd.R_drewN | apply Kd.R_drew)); exact HO_7.out) hb); have n1_ := Aside0.mk (blk_below (g := gb689) (o := .cells #[.int .i64 ((rd_T76 t685 x8_2).f0), .int .i64 ((rd_T76 t685 x8_2).f1), .int .i64 ((rd_T76 t685 x8_2).f2), .int .i64 ((rd_T76 t685 x8_2).f3), .int .i64 ((rd_T76 t685 x8_2).f4)] 76 (0, 0)) (by (with_reducible repeat (first | refine blk_drewN ?_ _ | refine blk_drew ?_ | refine blk_alloc ?_ _)); exact BK689.out) hb); have n2_ := Aside0.mk (below_step (by repeat (first | (with_reducible first | exact HB.out | apply below_alloc | apply pw_below_drewN | apply below_drew1 | refine below_set ?_ GE689.out) | exact HB.out)) hb); have n3_ := Aside0.mk (hbox); have n4_ := Aside0.mk ((by rw [hg]; exact (below_size (by repeat (first | (with_reducible first | exact HB.out | apply below_alloc | apply pw_below_drewN | apply below_drew1 | refine below_set ?_ GE689.out) | exact HB.out))) : w.heap.size ≤ gb695)); have n5_ := Aside0.mk ((by rw [hg]; exact (below_size (by repeat (first | (with_reducible first | exact HB.out | apply below_alloc | apply pw_below_drewN | apply below_drew1 | refine below_set ?_ GE689.out) | exact HB.out))) : w.heap.size ≤ gb695)); have n6_ := Aside0.mk ((by rw [hg]; exact Nat.ne_of_lt (blk_lt (g := gb689) (o := .cells #[.int .i64 ((rd_T76 t685 x8_2).f0), .int .i64 ((rd_T76 t685 x8_2).f1), .int .i64 ((rd_T76 t685 x8_2).f2), .int .i64 ((rd_T76 t685 x8_2).f3), .int .i64 ((rd_T76 t685 x8_2).f4)] 76 (0, 0)) (by (with_reducible repeat (first | refine blk_drewN ?_ _ | refine blk_drew ?_ | refine blk_alloc ?_ _)); exact BK689.out)) : gb689 ≠ gb695)); have n7_ := Aside0.mk ((by rw [hg]; exact Nat.ne_of_gt (blk_lt (g := gb689) (o := .cells #[.int .i64 ((rd_T76 t685 x8_2).f0), .int .i64 ((rd_T76 t685 x8_2).f1), .int .i64 ((rd_T76 t685 x8_2).f2), .int .i64 ((rd_T76 t685 x8_2).f3), .int .i64 ((rd_T76 t685 x8_2).f4)] 76 (0, 0)) (by (with_reducible repeat (first | refine blk_drewN ?_ _ | refine blk_drew ?_ | refine blk_alloc ?_ _)); exact BK689.out)) : gb695 ≠ gb689)); clear HO_7; clear BK689; clear HB; have HO_7 := n0_; have BK689 := n1_; have HB := n2_; have BK695 := n3_; have GW695 := n4_; have GE695 := n5_; have NB689_695 := n6_; have NB695_689 := n7_; clear n0_ n1_ n2_ n3_ n4_ n5_ n6_ n7_; clear hb hbox hg; have hnb32 := NB695_689.out; have hnc32 := NB689_695.out; have hcz33_0 : w31.cell? ⟨gb695, 0, none⟩ = some (.int .i64 0) := (blk_cell BK695.out 0).trans rfl; have hcz33_1 : w31.cell? ⟨gb695, 1, none⟩ = some (.int .i64 0) := (blk_cell BK695.out 1).trans rfl; have hcz33_2 : w31.cell? ⟨gb695, 2, none⟩ = some (.int .i64 0) := (blk_cell BK695.out 2).trans rfl; have hcz33_3 : w31.cell? ⟨gb695, 3, none⟩ = some (.bool false) := (blk_cell BK695.out 3).trans rfl; have hfz33_0 := blk_frozen BK695.out 0; have hfz33_1 := blk_frozen BK695.out 1; have hfz33_2 := blk_frozen BK695.out 2; have hfz33_3 := blk_frozen BK695.out 3; have hcz34_0 : w31.cell? ⟨gb689, 0, none⟩ = some (.int .i64 ((rd_T76 t685 x8_2).f0)) := (blk_cell BK689.out 0).trans rfl; have hcz34_1 : w31.cell? ⟨gb689, 1, none⟩ = some (.int .i64 ((rd_T76 t685 x8_2).f1)) := (blk_cell BK689.out 1).trans rfl; have hcz34_2 : w31.cell? ⟨gb689, 2, none⟩ = some (.int .i64 ((rd_T76 t685 x8_2).f2)) := (blk_cell BK689.out 2).trans rfl; have hcz34_3 : w31.cell? ⟨gb689, 3, none⟩ = some (.int .i64 ((rd_T76 t685 x8_2).f3)) := (blk_cell BK689.out 3).trans rfl; have hcz34_4 : w31.cell? ⟨gb689, 4, none⟩ = some (.int .i64 ((rd_T76 t685 x8_2).f4)) := (blk_cell BK689.out 4).trans rfl; have hfz34_0 := blk_frozen BK689.out 0; have hfz34_1 := blk_frozen BK689.out 1; have hfz34_2 := blk_frozen BK689.out 2; have hfz34_3 := blk_frozen BK689.out 3; have hfz34_4 := blk_frozen BK689.out 4) | (go_at_call 34; (with_reducible refine (cartoucheref08_Find.calls _ _ l0 ((rd_T76 t685 x8_2).f2) t696 t697 t698 t699 t700 _ ?side1 ?side2 A27.out).mono ?_); (case side1 => exact Kd.C_below HR0.out (by repeat (first | (with_reducible first | exact HB.out | apply below_alloc | apply pw_below_drewN | apply below_drew1 | refine below_set ?_ GE689.out | refine below_set ?_ GE695.out) | exact HB.out))); (case side2 => exact HC0.out); rintro e w35 ⟨rfl, hb⟩; have n0_ := Aside0.mk (Kd.R_below (by (with_reducible repeat (first | apply Kd.R_alloc | apply Kd.R_drewN | apply Kd.R_drew)); exact (Kd.R_mono (Kd.R_far (p := ⟨gb695, 3, none⟩) (Kd.R_far (p := ⟨gb695, 2, none⟩) (Kd.R_far (p := ⟨gb695, 1, none⟩) (Kd.R_far (p := ⟨gb695, 0, none⟩) (Kd.R_types HO_7.out BK695.out (by decide)) (fun _ hk => hk.2) (.int .i64 t690)) (fun _ hk => hk.2) (.int .i64 t691)) (fun _ hk => hk.2) (.int .i64 t692)) (fun _ hk => hk.2) (.bool t693)) (fun _ h_ => h_.1))) hb); have n1_ := Aside0.mk (blk_below (g := gb689) (o := .cells #[.int .i64 ((rd_T76 t685 x8_2).f0), .int .i64 ((rd_T76 t685 x8_2).f1), .int .i64 ((rd_T76 t685 x8_2).f2), .int .i64 ((rd_T76 t685 x8_2).f3), .int .i64 ((rd_T76 t685 x8_2).f4)] 76 (0, 0)) (by (with_reducible repeat (first | refine blk_drewN ?_ _ | refine blk_drew ?_ | refine blk_alloc ?_ _)); refine blk_far ?_ NB689_695.out _; (with_reducible repeat (first | refine blk_drewN ?_ _ | refine blk_drew ?_ | refine blk_alloc ?_ _)); refine blk_far ?_ NB689_695.out _; (with_reducible repeat (first | refine blk_drewN ?_ _ | refine blk_drew ?_ | refine blk_alloc ?_ _)); refine blk_far ?_ NB689_695.out _; (with_reducible repeat (first | refine blk_drewN ?_ _ | refine blk_drew ?_ | refine blk_alloc ?_ _)); refine blk_far ?_ NB689_695.out _; (with_reducible repeat (first | refine blk_drewN ?_ _ | refine blk_drew ?_ | refine blk_alloc ?_ _)); exact BK689.out) hb); have n2_ := Aside0.mk (blk_below (g := gb695) (o := .cells #[.int .i64 t690, .int .i64 t691, .int .i64 t692, .bool t693] 33 (0, 0)) (by (with_reducible repeat (first | refine blk_drewN ?_ _ | refine blk_drew ?_ | refine blk_alloc ?_ _)); refine blk_put (cs := #[.int .i64 t690, .int .i64 t691, .int .i64 t692, .bool false]) ?_ 3 _ rfl; (with_reducible repeat (first | refine blk_drewN ?_ _ | refine blk_drew ?_ | refine blk_alloc ?_ _)); refine blk_put (cs := #[.int .i64 t690, .int .i64 t691, .int .i64 0, .bool false]) ?_ 2 _ rfl; (with_reducible repeat (first | refine blk_drewN ?_ _ | refine blk_drew ?_ | refine blk_alloc ?_ _)); refine blk_put (cs := #[.int .i64 t690, .int .i64 0, .int .i64 0, .bool false]) ?_ 1 _ rfl; (with_reducible repeat (first | refine blk_drewN ?_ _ | refine blk_drew ?_ | refine blk_alloc ?_ _)); refine blk_put (cs := #[.int .i64 0, .int .i64 0, .int .i64 0, .bool false]) ?_ 0 _ rfl; (with_reducible repeat (first | refine blk_drewN ?_ _ | refine blk_drew ?_ | refine blk_alloc ?_ _)); exact BK695.out) hb); have n3_ := Aside0.mk (below_step (by repeat (first | (with_reducible first | exact HB.out | apply below_alloc | apply pw_below_drewN | apply below_drew1 | refine below_set ?_ GE689.out | refine below_set ?_ GE695.out) | exact HB.out)) hb); clear HO_7; clear BK689; clear BK695; clear HB; have HO_7 := n0_; have BK689 := n1_; have BK695 := n2_; have HB := n3_; clear n0_ n1_ n2_ n3_; (try clear hb); (try clear hb2); (try clear hk); (try clear hi)) | ((with_reducible refine gate_dst (N := 12) rfl ?_); (try (refine gate_guard (by rfl) ?_; dsimp only)); refine box_event ?hg (N := 12) ?hd (cs := #[.int .i64 0, .int .i64 0, .int .i64 0, .bool false]) (t := 33) ?hr ?_; (case hd => rfl); (case hg => rfl); (case hr => first | (go_simp; done) | (go_simp; rfl)); intro gb701 hg w36 hbox hb; have n0_ := Aside0.mk (Kd.R_below (by (with_reducible repeat (first | apply Kd.R_alloc | apply Kd.R_drewN | apply Kd.R_drew)); exact HO_7.out) hb); have n1_ := Aside0.mk (blk_below (g := gb689) (o := .cells #[.int .i64 ((rd_T76 t685 x8_2).f0), .int .i64 ((rd_T76 t685 x8_2).f1), .int .i64 ((rd_T76 t685 x8_2).f2), .int .i64 ((rd_T76 t685 x8_2).f3), .int .i64 ((rd_T76 t685 x8_2).f4)] 76 (0, 0)) (by (with_reducible repeat (first | refine blk_drewN ?_ _ | refine blk_drew ?_ | refine blk_alloc ?_ _)); exact BK689.out) hb); have n2_ := Aside0.mk (blk_below (g := gb695) (o := .cells #[.int .i64 t690, .int .i64 t691, .int .i64 t692, .bool t693] 33 (0, 0)) (by (with_reducible repeat (first | refine blk_drewN ?_ _ | refine blk_drew ?_ | refine blk_alloc ?_ _)); exact BK695.out) hb); have n3_ := Aside0.mk (below_step (by repeat (first | (with_reducible first | exact HB.out | apply below_alloc | apply pw_below_drewN | apply below_drew1 | refine below_set ?_ GE689.out | refine below_set ?_ GE695.out) | exact HB.out)) hb); have n4_ := Aside0.mk (hbox); have n5_ := Aside0.mk ((by rw [hg]; exact (below_size (by repeat (first | (with_reducible first | exact HB.out | apply below_alloc | apply pw_below_drewN | apply below_drew1 | refine below_set ?_ GE689.out | refine below_set ?_ GE695.out) | exact HB.out))) : w.heap.size ≤ gb701)); have n6_ := Aside0.mk ((by rw [hg]; exact (below_size (by repeat (first | (with_reducible first | exact HB.out | apply below_alloc | apply pw_below_drewN | apply below_drew1 | refine below_set ?_ GE689.out | refine below_set ?_ GE695.out) | exact HB.out))) : w.heap.size ≤ gb701)); have n7_ := Aside0.mk ((by rw [hg]; exact Nat.ne_of_lt (blk_lt (g := gb689) (o := .cells #[.int .i64 ((rd_T76 t685 x8_2).f0), .int .i64 ((rd_T76 t685 x8_2).f1), .int .i64 ((rd_T76 t685 x8_2).f2), .int .i64 ((rd_T76 t685 x8_2).f3), .int .i64 ((rd_T76 t685 x8_2).f4)] 76 (0, 0)) (by (with_reducible repeat (first | refine blk_drewN ?_ _ | refine blk_drew ?_ | refine blk_alloc ?_ _)); exact BK689.out)) : gb689 ≠ gb701)); have n8_ := Aside0.mk ((by rw [hg]; exact Nat.ne_of_gt (blk_lt (g := gb689) (o := .cells #[.int .i64 ((rd_T76 t685 x8_2).f0), .int .i64 ((rd_T76 t685 x8_2).f1), .int .i64 ((rd_T76 t685 x8_2).f2), .int .i64 ((rd_T76 t685 x8_2).f3), .int .i64 ((rd_T76 t685 x8_2).f4)] 76 (0, 0)) (by (with_reducible repeat (first | refine blk_drewN ?_ _ | refine blk_drew ?_ | refine blk_alloc ?_ _)); exact BK689.out)) : gb701 ≠ gb689)); have n9_ := Aside0.mk ((by rw [hg]; exact Nat.ne_of_lt (blk_lt (g := gb695) (o := .cells #[.int .i64 t690, .int .i64 t691, .int .i64 t692, .bool t693] 33 (0, 0)) (by (with_reducible repeat (first | refine blk_drewN ?_ _ | refine blk_drew ?_ | refine blk_alloc ?_ _)); exact BK695.out)) : gb695 ≠ gb701)); have n10_ := Aside0.mk ((by rw [hg]; exact Nat.ne_of_gt (blk_lt (g := gb695) (o := .cells #[.int .i64 t690, .int .i64 t691, .int .i64 t692, .bool t693] 33 (0, 0)) (by (with_reducible repeat (first | refine blk_drewN ?_ _ | refine blk_drew ?_ | refine blk_alloc ?_ _)); exact BK695.out)) : gb701 ≠ gb695)); clear HO_7; clear BK689; clear BK695; clear HB; have HO_7 := n0_; have BK689 := n1_; have BK695 := n2_; have HB := n3_; have BK701 := n4_; have GW701 := n5_; have GE701 := n6_; have NB689_701 := n7_; have NB701_689 := n8_; have NB695_701 := n9_; have NB701_695 := n10_; clear n0_ n1_ n2_ n3_ n4_ n5_ n6_ n7_ n8_ n9_ n10_; clear hb hbox hg; have hnb37 := NB701_689.out; have hnc37 := NB689_701.out; have hnb38 := NB701_695.out; have hnc38 := NB695_701.out; have hcz39_0 : w36.cell? ⟨gb701, 0, none⟩ = some (.int .i64 0) := (blk_cell BK701.out 0).trans rfl; have hcz39_1 : w36.cell? ⟨gb701, 1, none⟩ = some (.int .i64 0) := (blk_cell BK701.out 1).trans rfl; have hcz39_2 : w36.cell? ⟨gb701, 2, none⟩ = some (.int .i64 0) := (blk_cell BK701.out 2).trans rfl; have hcz39_3 : w36.cell? ⟨gb701, 3, none⟩ = some (.bool false) := (blk_cell BK701.out 3).trans rfl; have hfz39_0 := blk_frozen BK701.out 0; have hfz39_1 := blk_frozen BK701.out 1; have hfz39_2 := blk_frozen BK701.out 2; have hfz39_3 := blk_frozen BK701.out 3)))
                      (try simp only [Act.put, List.setIfInBounds_toArray, List.set_cons_zero, List.set_cons_succ])
                      go_cut [126] (fun v126 wc => ∃ (kq : Nat) (x126_27 : Bool), v126 = .bool x126_27 ∧ Aside0 (cartouchelaw10_EdgesReads.j3 kq l0 t681 t685 x8_2 x126_27 = some r) ∧ Aside0 (kq ≤ kj13) ∧ Aside0 (Kd.R k76 76 wc w.heap.size (fun k_ => k_ ≠ gb689) (.slice (some ad688) t685.length co15) t685) ∧ Aside0 (wc.heap[gb689]? = some (.cells #[.int .i64 ((rd_T76 t685 x8_2).f0), .int .i64 ((rd_T76 t685 x8_2).f1), .int .i64 ((rd_T76 t685 x8_2).f2), .int .i64 ((rd_T76 t685 x8_2).f3), .int .i64 ((rd_T76 t685 x8_2).f4)] 76 (0, 0))) ∧ Aside0 (wc.heap[gb695]? = some (.cells #[.int .i64 t690, .int .i64 t691, .int .i64 t692, .bool t693] 33 (0, 0))) ∧ Aside0 (wc.heap[gb701]? = some (.cells #[.int .i64 t696, .int .i64 t697, .int .i64 t698, .bool t699] 33 (0, 0))) ∧ Aside0 (Below w.heap.size w wc))
                      case first =>
                        have H := HC28.out
                        clear HC28
                        by_cases c40 : ((rd_T76 t685 x8_2).f0) = 2
                        · rw [if_pos c40] at H
                          have c40b0 : (((rd_T76 t685 x8_2).f0) == 2) = true := beq_iff_eq.mpr c40
                          have c40b1 : (((rd_T76 t685 x8_2).f0) != 2) = false := bne_eq_false_iff_eq.mpr c40
                          clear c40
                          (first | rw [c40b0] | (simp only [i64_w, i32_w]; rw [c40b0]) | skip)
                          by_cases c41 : 0 ≤ ((rd_T76 t685 x8_2).f3)
                          · rw [if_pos c41] at H
                            have c41b0 : decide (0 ≤ ((rd_T76 t685 x8_2).f3)) = true := decide_eq_true c41
                            clear c41
                            by_cases c42 : ((rd_T76 t685 x8_2).f3) < (l0.length : Int)
                            · rw [if_pos c42] at H
                              have c42b0 : decide (((rd_T76 t685 x8_2).f3) < (l0.length : Int)) = true := decide_eq_true c42
                              clear c42
                              by_cases c43 : 0 ≤ ((rd_T76 t685 x8_2).f4)
                              · rw [if_pos c43] at H
                                have c43b0 : decide (0 ≤ ((rd_T76 t685 x8_2).f4)) = true := decide_eq_true c43
                                clear c43
                                by_cases c44 : ((rd_T76 t685 x8_2).f4) < (l0.length : Int)
                                · rw [if_pos c44] at H
                                  have c44b0 : decide (((rd_T76 t685 x8_2).f4) < (l0.length : Int)) = true := decide_eq_true c44
                                  clear c44
                                  by_cases c45 : ((rd_T31 l0 ((rd_T76 t685 x8_2).f3)).f3).toList = ((rd_T31 l0 ((rd_T76 t685 x8_2).f4)).f3).toList
                                  · rw [if_pos c45] at H
                                    have c45b0 : (((rd_T31 l0 ((rd_T76 t685 x8_2).f3)).f3).toList == ((rd_T31 l0 ((rd_T76 t685 x8_2).f4)).f3).toList) = true := beq_iff_eq.mpr c45
                                    have c45b1 : (((rd_T31 l0 ((rd_T76 t685 x8_2).f3)).f3).toList != ((rd_T31 l0 ((rd_T76 t685 x8_2).f4)).f3).toList) = false := bne_eq_false_iff_eq.mpr c45
                                    clear c45
                                    by_cases c46 : ((rd_T76 t685 x8_2).f0) = 3
                                    · rw [if_pos c46] at H
                                      have c46b0 : (((rd_T76 t685 x8_2).f0) == 3) = true := beq_iff_eq.mpr c46
                                      have c46b1 : (((rd_T76 t685 x8_2).f0) != 3) = false := bne_eq_false_iff_eq.mpr c46
                                      clear c46
                                      have H' := Aside0.mk H
                                      clear H
                                      have hnb47 := NB689_695.out
                                      have hnc47 := NB695_689.out
                                      have hnb48 := NB689_701.out
                                      have hnc48 := NB701_689.out
                                      have hcz49_0 : w36.cell? ⟨gb689, 0, none⟩ = some (.int .i64 ((rd_T76 t685 x8_2).f0)) := (blk_cell BK689.out 0).trans rfl
                                      have hcz49_1 : w36.cell? ⟨gb689, 1, none⟩ = some (.int .i64 ((rd_T76 t685 x8_2).f1)) := (blk_cell BK689.out 1).trans rfl
                                      have hcz49_2 : w36.cell? ⟨gb689, 2, none⟩ = some (.int .i64 ((rd_T76 t685 x8_2).f2)) := (blk_cell BK689.out 2).trans rfl
                                      have hcz49_3 : w36.cell? ⟨gb689, 3, none⟩ = some (.int .i64 ((rd_T76 t685 x8_2).f3)) := (blk_cell BK689.out 3).trans rfl
                                      have hcz49_4 : w36.cell? ⟨gb689, 4, none⟩ = some (.int .i64 ((rd_T76 t685 x8_2).f4)) := (blk_cell BK689.out 4).trans rfl
                                      have hfz49_0 := blk_frozen BK689.out 0
                                      have hfz49_1 := blk_frozen BK689.out 1
                                      have hfz49_2 := blk_frozen BK689.out 2
                                      have hfz49_3 := blk_frozen BK689.out 3
                                      have hfz49_4 := blk_frozen BK689.out 4
                                      have p702 : 0 ≤ (((rd_T76 t685 x8_2).f3) : Int) := of_decide_eq_true (by first | (with_reducible assumption) | assumption)
                                      have q702 : ((rd_T76 t685 x8_2).f3) < (l0.length : Int) := of_decide_eq_true (by first | (with_reducible assumption) | assumption)
                                      obtain ⟨ad702, e702, hx702_0, hx702_1, hx702_2, hx702_3⟩ := at_T31 HR0.out ((rd_T76 t685 x8_2).f3) p702 q702
                                      cases e702
                                      have hn702_0 : ad702.block ≠ gb701 := Nat.ne_of_lt (Nat.lt_of_lt_of_le (by have := World.block_lt_of_cell? _ _ hx702_0; first | rwa [add_block] at this | exact this) GW701.out)
                                      have hn702_1 : ad702.block ≠ gb701 := Nat.ne_of_lt (Nat.lt_of_lt_of_le (by have := World.block_lt_of_cell? _ _ hx702_0; first | rwa [add_block] at this | exact this) GW701.out)
                                      have hn702_2 : ad702.block ≠ gb701 := Nat.ne_of_lt (Nat.lt_of_lt_of_le (by have := World.block_lt_of_cell? _ _ hx702_0; first | rwa [add_block] at this | exact this) GW701.out)
                                      have hn702_3 : ad702.block ≠ gb701 := Nat.ne_of_lt (Nat.lt_of_lt_of_le (by have := World.block_lt_of_cell? _ _ hx702_0; first | rwa [add_block] at this | exact this) GW701.out)
                                      replace hx702_0 := (HB.out.cell (World.block_lt_of_cell? w _ hx702_0)).trans hx702_0
                                      replace hx702_1 := (HB.out.cell (World.block_lt_of_cell? w _ hx702_1)).trans hx702_1
                                      replace hx702_2 := (HB.out.cell (World.block_lt_of_cell? w _ hx702_2)).trans hx702_2
                                      replace hx702_3 := (HB.out.cell (World.block_lt_of_cell? w _ hx702_3)).trans hx702_3
                                      replace hx702_0 := (cell_far (p := ⟨gb701, 0, none⟩) (by first | (rw [add_block]; exact hn702_0) | (show (Addr.add _ _).block ≠ _; rw [add_block]; exact hn702_0) | exact hn702_0) (.int .i64 t696)).trans hx702_0
                                      replace hx702_1 := (cell_far (p := ⟨gb701, 0, none⟩) (by first | (rw [add_block]; exact hn702_0) | (show (Addr.add _ _).block ≠ _; rw [add_block]; exact hn702_0) | exact hn702_0) (.int .i64 t696)).trans hx702_1
                                      replace hx702_2 := (cell_far (p := ⟨gb701, 0, none⟩) (by first | (rw [add_block]; exact hn702_0) | (show (Addr.add _ _).block ≠ _; rw [add_block]; exact hn702_0) | exact hn702_0) (.int .i64 t696)).trans hx702_2
                                      replace hx702_3 := (cell_far (p := ⟨gb701, 0, none⟩) (by first | (rw [add_block]; exact hn702_0) | (show (Addr.add _ _).block ≠ _; rw [add_block]; exact hn702_0) | exact hn702_0) (.int .i64 t696)).trans hx702_3
                                      replace hx702_0 := (cell_far (p := ⟨gb701, 1, none⟩) (by first | (rw [add_block]; exact hn702_1) | (show (Addr.add _ _).block ≠ _; rw [add_block]; exact hn702_1) | exact hn702_1) (.int .i64 t697)).trans hx702_0
                                      replace hx702_1 := (cell_far (p := ⟨gb701, 1, none⟩) (by first | (rw [add_block]; exact hn702_1) | (show (Addr.add _ _).block ≠ _; rw [add_block]; exact hn702_1) | exact hn702_1) (.int .i64 t697)).trans hx702_1
                                      replace hx702_2 := (cell_far (p := ⟨gb701, 1, none⟩) (by first | (rw [add_block]; exact hn702_1) | (show (Addr.add _ _).block ≠ _; rw [add_block]; exact hn702_1) | exact hn702_1) (.int .i64 t697)).trans hx702_2
                                      replace hx702_3 := (cell_far (p := ⟨gb701, 1, none⟩) (by first | (rw [add_block]; exact hn702_1) | (show (Addr.add _ _).block ≠ _; rw [add_block]; exact hn702_1) | exact hn702_1) (.int .i64 t697)).trans hx702_3
                                      replace hx702_0 := (cell_far (p := ⟨gb701, 2, none⟩) (by first | (rw [add_block]; exact hn702_2) | (show (Addr.add _ _).block ≠ _; rw [add_block]; exact hn702_2) | exact hn702_2) (.int .i64 t698)).trans hx702_0
                                      replace hx702_1 := (cell_far (p := ⟨gb701, 2, none⟩) (by first | (rw [add_block]; exact hn702_2) | (show (Addr.add _ _).block ≠ _; rw [add_block]; exact hn702_2) | exact hn702_2) (.int .i64 t698)).trans hx702_1
                                      replace hx702_2 := (cell_far (p := ⟨gb701, 2, none⟩) (by first | (rw [add_block]; exact hn702_2) | (show (Addr.add _ _).block ≠ _; rw [add_block]; exact hn702_2) | exact hn702_2) (.int .i64 t698)).trans hx702_2
                                      replace hx702_3 := (cell_far (p := ⟨gb701, 2, none⟩) (by first | (rw [add_block]; exact hn702_2) | (show (Addr.add _ _).block ≠ _; rw [add_block]; exact hn702_2) | exact hn702_2) (.int .i64 t698)).trans hx702_3
                                      replace hx702_0 := (cell_far (p := ⟨gb701, 3, none⟩) (by first | (rw [add_block]; exact hn702_3) | (show (Addr.add _ _).block ≠ _; rw [add_block]; exact hn702_3) | exact hn702_3) (.bool t699)).trans hx702_0
                                      replace hx702_1 := (cell_far (p := ⟨gb701, 3, none⟩) (by first | (rw [add_block]; exact hn702_3) | (show (Addr.add _ _).block ≠ _; rw [add_block]; exact hn702_3) | exact hn702_3) (.bool t699)).trans hx702_1
                                      replace hx702_2 := (cell_far (p := ⟨gb701, 3, none⟩) (by first | (rw [add_block]; exact hn702_3) | (show (Addr.add _ _).block ≠ _; rw [add_block]; exact hn702_3) | exact hn702_3) (.bool t699)).trans hx702_2
                                      replace hx702_3 := (cell_far (p := ⟨gb701, 3, none⟩) (by first | (rw [add_block]; exact hn702_3) | (show (Addr.add _ _).block ≠ _; rw [add_block]; exact hn702_3) | exact hn702_3) (.bool t699)).trans hx702_3
                                      (try have hy702_0 := fun (n_ : Nat) => (show ((((((w36.drewN n_).setCell ⟨gb701, 0, none⟩ (.int .i64 t696)).setCell ⟨gb701, 1, none⟩ (.int .i64 t697)).setCell ⟨gb701, 2, none⟩ (.int .i64 t698)).setCell ⟨gb701, 3, none⟩ (.bool t699))).cell? _ = some _ from hx702_0))
                                      (try have hy702_1 := fun (n_ : Nat) => (show ((((((w36.drewN n_).setCell ⟨gb701, 0, none⟩ (.int .i64 t696)).setCell ⟨gb701, 1, none⟩ (.int .i64 t697)).setCell ⟨gb701, 2, none⟩ (.int .i64 t698)).setCell ⟨gb701, 3, none⟩ (.bool t699))).cell? _ = some _ from hx702_1))
                                      (try have hy702_2 := fun (n_ : Nat) => (show ((((((w36.drewN n_).setCell ⟨gb701, 0, none⟩ (.int .i64 t696)).setCell ⟨gb701, 1, none⟩ (.int .i64 t697)).setCell ⟨gb701, 2, none⟩ (.int .i64 t698)).setCell ⟨gb701, 3, none⟩ (.bool t699))).cell? _ = some _ from hx702_2))
                                      (try have hy702_3 := fun (n_ : Nat) => (show ((((((w36.drewN n_).setCell ⟨gb701, 0, none⟩ (.int .i64 t696)).setCell ⟨gb701, 1, none⟩ (.int .i64 t697)).setCell ⟨gb701, 2, none⟩ (.int .i64 t698)).setCell ⟨gb701, 3, none⟩ (.bool t699))).cell? _ = some _ from hx702_3))
                                      clear hn702_0
                                      clear hn702_1
                                      clear hn702_2
                                      clear hn702_3
                                      replace p702 := eq_true p702
                                      replace q702 := eq_true q702
                                      have p703 : 0 ≤ (((rd_T76 t685 x8_2).f4) : Int) := of_decide_eq_true (by first | (with_reducible assumption) | assumption)
                                      have q703 : ((rd_T76 t685 x8_2).f4) < (l0.length : Int) := of_decide_eq_true (by first | (with_reducible assumption) | assumption)
                                      obtain ⟨ad703, e703, hx703_0, hx703_1, hx703_2, hx703_3⟩ := at_T31 HR0.out ((rd_T76 t685 x8_2).f4) p703 q703
                                      obtain rfl : ad702 = ad703 := (by injection e703)
                                      have hn703_0 : ad702.block ≠ gb701 := Nat.ne_of_lt (Nat.lt_of_lt_of_le (by have := World.block_lt_of_cell? _ _ hx703_0; first | rwa [add_block] at this | exact this) GW701.out)
                                      have hn703_1 : ad702.block ≠ gb701 := Nat.ne_of_lt (Nat.lt_of_lt_of_le (by have := World.block_lt_of_cell? _ _ hx703_0; first | rwa [add_block] at this | exact this) GW701.out)
                                      have hn703_2 : ad702.block ≠ gb701 := Nat.ne_of_lt (Nat.lt_of_lt_of_le (by have := World.block_lt_of_cell? _ _ hx703_0; first | rwa [add_block] at this | exact this) GW701.out)
                                      have hn703_3 : ad702.block ≠ gb701 := Nat.ne_of_lt (Nat.lt_of_lt_of_le (by have := World.block_lt_of_cell? _ _ hx703_0; first | rwa [add_block] at this | exact this) GW701.out)
                                      replace hx703_0 := (HB.out.cell (World.block_lt_of_cell? w _ hx703_0)).trans hx703_0
                                      replace hx703_1 := (HB.out.cell (World.block_lt_of_cell? w _ hx703_1)).trans hx703_1
                                      replace hx703_2 := (HB.out.cell (World.block_lt_of_cell? w _ hx703_2)).trans hx703_2
                                      replace hx703_3 := (HB.out.cell (World.block_lt_of_cell? w _ hx703_3)).trans hx703_3
                                      replace hx703_0 := (cell_far (p := ⟨gb701, 0, none⟩) (by first | (rw [add_block]; exact hn703_0) | (show (Addr.add _ _).block ≠ _; rw [add_block]; exact hn703_0) | exact hn703_0) (.int .i64 t696)).trans hx703_0
                                      replace hx703_1 := (cell_far (p := ⟨gb701, 0, none⟩) (by first | (rw [add_block]; exact hn703_0) | (show (Addr.add _ _).block ≠ _; rw [add_block]; exact hn703_0) | exact hn703_0) (.int .i64 t696)).trans hx703_1
                                      replace hx703_2 := (cell_far (p := ⟨gb701, 0, none⟩) (by first | (rw [add_block]; exact hn703_0) | (show (Addr.add _ _).block ≠ _; rw [add_block]; exact hn703_0) | exact hn703_0) (.int .i64 t696)).trans hx703_2
                                      replace hx703_3 := (cell_far (p := ⟨gb701, 0, none⟩) (by first | (rw [add_block]; exact hn703_0) | (show (Addr.add _ _).block ≠ _; rw [add_block]; exact hn703_0) | exact hn703_0) (.int .i64 t696)).trans hx703_3
                                      replace hx703_0 := (cell_far (p := ⟨gb701, 1, none⟩) (by first | (rw [add_block]; exact hn703_1) | (show (Addr.add _ _).block ≠ _; rw [add_block]; exact hn703_1) | exact hn703_1) (.int .i64 t697)).trans hx703_0
                                      replace hx703_1 := (cell_far (p := ⟨gb701, 1, none⟩) (by first | (rw [add_block]; exact hn703_1) | (show (Addr.add _ _).block ≠ _; rw [add_block]; exact hn703_1) | exact hn703_1) (.int .i64 t697)).trans hx703_1
                                      replace hx703_2 := (cell_far (p := ⟨gb701, 1, none⟩) (by first | (rw [add_block]; exact hn703_1) | (show (Addr.add _ _).block ≠ _; rw [add_block]; exact hn703_1) | exact hn703_1) (.int .i64 t697)).trans hx703_2
                                      replace hx703_3 := (cell_far (p := ⟨gb701, 1, none⟩) (by first | (rw [add_block]; exact hn703_1) | (show (Addr.add _ _).block ≠ _; rw [add_block]; exact hn703_1) | exact hn703_1) (.int .i64 t697)).trans hx703_3
                                      replace hx703_0 := (cell_far (p := ⟨gb701, 2, none⟩) (by first | (rw [add_block]; exact hn703_2) | (show (Addr.add _ _).block ≠ _; rw [add_block]; exact hn703_2) | exact hn703_2) (.int .i64 t698)).trans hx703_0
                                      replace hx703_1 := (cell_far (p := ⟨gb701, 2, none⟩) (by first | (rw [add_block]; exact hn703_2) | (show (Addr.add _ _).block ≠ _; rw [add_block]; exact hn703_2) | exact hn703_2) (.int .i64 t698)).trans hx703_1
                                      replace hx703_2 := (cell_far (p := ⟨gb701, 2, none⟩) (by first | (rw [add_block]; exact hn703_2) | (show (Addr.add _ _).block ≠ _; rw [add_block]; exact hn703_2) | exact hn703_2) (.int .i64 t698)).trans hx703_2
                                      replace hx703_3 := (cell_far (p := ⟨gb701, 2, none⟩) (by first | (rw [add_block]; exact hn703_2) | (show (Addr.add _ _).block ≠ _; rw [add_block]; exact hn703_2) | exact hn703_2) (.int .i64 t698)).trans hx703_3
                                      replace hx703_0 := (cell_far (p := ⟨gb701, 3, none⟩) (by first | (rw [add_block]; exact hn703_3) | (show (Addr.add _ _).block ≠ _; rw [add_block]; exact hn703_3) | exact hn703_3) (.bool t699)).trans hx703_0
                                      replace hx703_1 := (cell_far (p := ⟨gb701, 3, none⟩) (by first | (rw [add_block]; exact hn703_3) | (show (Addr.add _ _).block ≠ _; rw [add_block]; exact hn703_3) | exact hn703_3) (.bool t699)).trans hx703_1
                                      replace hx703_2 := (cell_far (p := ⟨gb701, 3, none⟩) (by first | (rw [add_block]; exact hn703_3) | (show (Addr.add _ _).block ≠ _; rw [add_block]; exact hn703_3) | exact hn703_3) (.bool t699)).trans hx703_2
                                      replace hx703_3 := (cell_far (p := ⟨gb701, 3, none⟩) (by first | (rw [add_block]; exact hn703_3) | (show (Addr.add _ _).block ≠ _; rw [add_block]; exact hn703_3) | exact hn703_3) (.bool t699)).trans hx703_3
                                      (try have hy703_0 := fun (n_ : Nat) => (show ((((((w36.drewN n_).setCell ⟨gb701, 0, none⟩ (.int .i64 t696)).setCell ⟨gb701, 1, none⟩ (.int .i64 t697)).setCell ⟨gb701, 2, none⟩ (.int .i64 t698)).setCell ⟨gb701, 3, none⟩ (.bool t699))).cell? _ = some _ from hx703_0))
                                      (try have hy703_1 := fun (n_ : Nat) => (show ((((((w36.drewN n_).setCell ⟨gb701, 0, none⟩ (.int .i64 t696)).setCell ⟨gb701, 1, none⟩ (.int .i64 t697)).setCell ⟨gb701, 2, none⟩ (.int .i64 t698)).setCell ⟨gb701, 3, none⟩ (.bool t699))).cell? _ = some _ from hx703_1))
                                      (try have hy703_2 := fun (n_ : Nat) => (show ((((((w36.drewN n_).setCell ⟨gb701, 0, none⟩ (.int .i64 t696)).setCell ⟨gb701, 1, none⟩ (.int .i64 t697)).setCell ⟨gb701, 2, none⟩ (.int .i64 t698)).setCell ⟨gb701, 3, none⟩ (.bool t699))).cell? _ = some _ from hx703_2))
                                      (try have hy703_3 := fun (n_ : Nat) => (show ((((((w36.drewN n_).setCell ⟨gb701, 0, none⟩ (.int .i64 t696)).setCell ⟨gb701, 1, none⟩ (.int .i64 t697)).setCell ⟨gb701, 2, none⟩ (.int .i64 t698)).setCell ⟨gb701, 3, none⟩ (.bool t699))).cell? _ = some _ from hx703_3))
                                      clear hn703_0
                                      clear hn703_1
                                      clear hn703_2
                                      clear hn703_3
                                      replace p703 := eq_true p703
                                      replace q703 := eq_true q703
                                      have p704 : 0 ≤ (((rd_T76 t685 x8_2).f3) : Int) := of_decide_eq_true (by first | (with_reducible assumption) | assumption)
                                      have q704 : ((rd_T76 t685 x8_2).f3) < (l0.length : Int) := of_decide_eq_true (by first | (with_reducible assumption) | assumption)
                                      obtain ⟨ad704, e704, hx704_0, hx704_1, hx704_2, hx704_3⟩ := at_T31 HR0.out ((rd_T76 t685 x8_2).f3) p704 q704
                                      obtain rfl : ad702 = ad704 := (by injection e704)
                                      have hn704_0 : ad702.block ≠ gb701 := Nat.ne_of_lt (Nat.lt_of_lt_of_le (by have := World.block_lt_of_cell? _ _ hx704_0; first | rwa [add_block] at this | exact this) GW701.out)
                                      have hn704_1 : ad702.block ≠ gb701 := Nat.ne_of_lt (Nat.lt_of_lt_of_le (by have := World.block_lt_of_cell? _ _ hx704_0; first | rwa [add_block] at this | exact this) GW701.out)
                                      have hn704_2 : ad702.block ≠ gb701 := Nat.ne_of_lt (Nat.lt_of_lt_of_le (by have := World.block_lt_of_cell? _ _ hx704_0; first | rwa [add_block] at this | exact this) GW701.out)
                                      have hn704_3 : ad702.block ≠ gb701 := Nat.ne_of_lt (Nat.lt_of_lt_of_le (by have := World.block_lt_of_cell? _ _ hx704_0; first | rwa [add_block] at this | exact this) GW701.out)
                                      replace hx704_0 := (HB.out.cell (World.block_lt_of_cell? w _ hx704_0)).trans hx704_0
                                      replace hx704_1 := (HB.out.cell (World.block_lt_of_cell? w _ hx704_1)).trans hx704_1
                                      replace hx704_2 := (HB.out.cell (World.block_lt_of_cell? w _ hx704_2)).trans hx704_2
                                      replace hx704_3 := (HB.out.cell (World.block_lt_of_cell? w _ hx704_3)).trans hx704_3
                                      replace hx704_0 := (cell_far (p := ⟨gb701, 0, none⟩) (by first | (rw [add_block]; exact hn704_0) | (show (Addr.add _ _).block ≠ _; rw [add_block]; exact hn704_0) | exact hn704_0) (.int .i64 t696)).trans hx704_0
                                      replace hx704_1 := (cell_far (p := ⟨gb701, 0, none⟩) (by first | (rw [add_block]; exact hn704_0) | (show (Addr.add _ _).block ≠ _; rw [add_block]; exact hn704_0) | exact hn704_0) (.int .i64 t696)).trans hx704_1
                                      replace hx704_2 := (cell_far (p := ⟨gb701, 0, none⟩) (by first | (rw [add_block]; exact hn704_0) | (show (Addr.add _ _).block ≠ _; rw [add_block]; exact hn704_0) | exact hn704_0) (.int .i64 t696)).trans hx704_2
                                      replace hx704_3 := (cell_far (p := ⟨gb701, 0, none⟩) (by first | (rw [add_block]; exact hn704_0) | (show (Addr.add _ _).block ≠ _; rw [add_block]; exact hn704_0) | exact hn704_0) (.int .i64 t696)).trans hx704_3
                                      replace hx704_0 := (cell_far (p := ⟨gb701, 1, none⟩) (by first | (rw [add_block]; exact hn704_1) | (show (Addr.add _ _).block ≠ _; rw [add_block]; exact hn704_1) | exact hn704_1) (.int .i64 t697)).trans hx704_0
                                      replace hx704_1 := (cell_far (p := ⟨gb701, 1, none⟩) (by first | (rw [add_block]; exact hn704_1) | (show (Addr.add _ _).block ≠ _; rw [add_block]; exact hn704_1) | exact hn704_1) (.int .i64 t697)).trans hx704_1
                                      replace hx704_2 := (cell_far (p := ⟨gb701, 1, none⟩) (by first | (rw [add_block]; exact hn704_1) | (show (Addr.add _ _).block ≠ _; rw [add_block]; exact hn704_1) | exact hn704_1) (.int .i64 t697)).trans hx704_2
                                      replace hx704_3 := (cell_far (p := ⟨gb701, 1, none⟩) (by first | (rw [add_block]; exact hn704_1) | (show (Addr.add _ _).block ≠ _; rw [add_block]; exact hn704_1) | exact hn704_1) (.int .i64 t697)).trans hx704_3
                                      replace hx704_0 := (cell_far (p := ⟨gb701, 2, none⟩) (by first | (rw [add_block]; exact hn704_2) | (show (Addr.add _ _).block ≠ _; rw [add_block]; exact hn704_2) | exact hn704_2) (.int .i64 t698)).trans hx704_0
                                      replace hx704_1 := (cell_far (p := ⟨gb701, 2, none⟩) (by first | (rw [add_block]; exact hn704_2) | (show (Addr.add _ _).block ≠ _; rw [add_block]; exact hn704_2) | exact hn704_2) (.int .i64 t698)).trans hx704_1
                                      replace hx704_2 := (cell_far (p := ⟨gb701, 2, none⟩) (by first | (rw [add_block]; exact hn704_2) | (show (Addr.add _ _).block ≠ _; rw [add_block]; exact hn704_2) | exact hn704_2) (.int .i64 t698)).trans hx704_2
                                      replace hx704_3 := (cell_far (p := ⟨gb701, 2, none⟩) (by first | (rw [add_block]; exact hn704_2) | (show (Addr.add _ _).block ≠ _; rw [add_block]; exact hn704_2) | exact hn704_2) (.int .i64 t698)).trans hx704_3
                                      replace hx704_0 := (cell_far (p := ⟨gb701, 3, none⟩) (by first | (rw [add_block]; exact hn704_3) | (show (Addr.add _ _).block ≠ _; rw [add_block]; exact hn704_3) | exact hn704_3) (.bool t699)).trans hx704_0
                                      replace hx704_1 := (cell_far (p := ⟨gb701, 3, none⟩) (by first | (rw [add_block]; exact hn704_3) | (show (Addr.add _ _).block ≠ _; rw [add_block]; exact hn704_3) | exact hn704_3) (.bool t699)).trans hx704_1
                                      replace hx704_2 := (cell_far (p := ⟨gb701, 3, none⟩) (by first | (rw [add_block]; exact hn704_3) | (show (Addr.add _ _).block ≠ _; rw [add_block]; exact hn704_3) | exact hn704_3) (.bool t699)).trans hx704_2
                                      replace hx704_3 := (cell_far (p := ⟨gb701, 3, none⟩) (by first | (rw [add_block]; exact hn704_3) | (show (Addr.add _ _).block ≠ _; rw [add_block]; exact hn704_3) | exact hn704_3) (.bool t699)).trans hx704_3
                                      (try have hy704_0 := fun (n_ : Nat) => (show ((((((w36.drewN n_).setCell ⟨gb701, 0, none⟩ (.int .i64 t696)).setCell ⟨gb701, 1, none⟩ (.int .i64 t697)).setCell ⟨gb701, 2, none⟩ (.int .i64 t698)).setCell ⟨gb701, 3, none⟩ (.bool t699))).cell? _ = some _ from hx704_0))
                                      (try have hy704_1 := fun (n_ : Nat) => (show ((((((w36.drewN n_).setCell ⟨gb701, 0, none⟩ (.int .i64 t696)).setCell ⟨gb701, 1, none⟩ (.int .i64 t697)).setCell ⟨gb701, 2, none⟩ (.int .i64 t698)).setCell ⟨gb701, 3, none⟩ (.bool t699))).cell? _ = some _ from hx704_1))
                                      (try have hy704_2 := fun (n_ : Nat) => (show ((((((w36.drewN n_).setCell ⟨gb701, 0, none⟩ (.int .i64 t696)).setCell ⟨gb701, 1, none⟩ (.int .i64 t697)).setCell ⟨gb701, 2, none⟩ (.int .i64 t698)).setCell ⟨gb701, 3, none⟩ (.bool t699))).cell? _ = some _ from hx704_2))
                                      (try have hy704_3 := fun (n_ : Nat) => (show ((((((w36.drewN n_).setCell ⟨gb701, 0, none⟩ (.int .i64 t696)).setCell ⟨gb701, 1, none⟩ (.int .i64 t697)).setCell ⟨gb701, 2, none⟩ (.int .i64 t698)).setCell ⟨gb701, 3, none⟩ (.bool t699))).cell? _ = some _ from hx704_3))
                                      clear hn704_0
                                      clear hn704_1
                                      clear hn704_2
                                      clear hn704_3
                                      replace p704 := eq_true p704
                                      replace q704 := eq_true q704
                                      have p705 : 0 ≤ (((rd_T76 t685 x8_2).f4) : Int) := of_decide_eq_true (by first | (with_reducible assumption) | assumption)
                                      have q705 : ((rd_T76 t685 x8_2).f4) < (l0.length : Int) := of_decide_eq_true (by first | (with_reducible assumption) | assumption)
                                      obtain ⟨ad705, e705, hx705_0, hx705_1, hx705_2, hx705_3⟩ := at_T31 HR0.out ((rd_T76 t685 x8_2).f4) p705 q705
                                      obtain rfl : ad702 = ad705 := (by injection e705)
                                      have hn705_0 : ad702.block ≠ gb701 := Nat.ne_of_lt (Nat.lt_of_lt_of_le (by have := World.block_lt_of_cell? _ _ hx705_0; first | rwa [add_block] at this | exact this) GW701.out)
                                      have hn705_1 : ad702.block ≠ gb701 := Nat.ne_of_lt (Nat.lt_of_lt_of_le (by have := World.block_lt_of_cell? _ _ hx705_0; first | rwa [add_block] at this | exact this) GW701.out)
                                      have hn705_2 : ad702.block ≠ gb701 := Nat.ne_of_lt (Nat.lt_of_lt_of_le (by have := World.block_lt_of_cell? _ _ hx705_0; first | rwa [add_block] at this | exact this) GW701.out)
                                      have hn705_3 : ad702.block ≠ gb701 := Nat.ne_of_lt (Nat.lt_of_lt_of_le (by have := World.block_lt_of_cell? _ _ hx705_0; first | rwa [add_block] at this | exact this) GW701.out)
                                      replace hx705_0 := (HB.out.cell (World.block_lt_of_cell? w _ hx705_0)).trans hx705_0
                                      replace hx705_1 := (HB.out.cell (World.block_lt_of_cell? w _ hx705_1)).trans hx705_1
                                      replace hx705_2 := (HB.out.cell (World.block_lt_of_cell? w _ hx705_2)).trans hx705_2
                                      replace hx705_3 := (HB.out.cell (World.block_lt_of_cell? w _ hx705_3)).trans hx705_3
                                      replace hx705_0 := (cell_far (p := ⟨gb701, 0, none⟩) (by first | (rw [add_block]; exact hn705_0) | (show (Addr.add _ _).block ≠ _; rw [add_block]; exact hn705_0) | exact hn705_0) (.int .i64 t696)).trans hx705_0
                                      replace hx705_1 := (cell_far (p := ⟨gb701, 0, none⟩) (by first | (rw [add_block]; exact hn705_0) | (show (Addr.add _ _).block ≠ _; rw [add_block]; exact hn705_0) | exact hn705_0) (.int .i64 t696)).trans hx705_1
                                      replace hx705_2 := (cell_far (p := ⟨gb701, 0, none⟩) (by first | (rw [add_block]; exact hn705_0) | (show (Addr.add _ _).block ≠ _; rw [add_block]; exact hn705_0) | exact hn705_0) (.int .i64 t696)).trans hx705_2
                                      replace hx705_3 := (cell_far (p := ⟨gb701, 0, none⟩) (by first | (rw [add_block]; exact hn705_0) | (show (Addr.add _ _).block ≠ _; rw [add_block]; exact hn705_0) | exact hn705_0) (.int .i64 t696)).trans hx705_3
                                      replace hx705_0 := (cell_far (p := ⟨gb701, 1, none⟩) (by first | (rw [add_block]; exact hn705_1) | (show (Addr.add _ _).block ≠ _; rw [add_block]; exact hn705_1) | exact hn705_1) (.int .i64 t697)).trans hx705_0
                                      replace hx705_1 := (cell_far (p := ⟨gb701, 1, none⟩) (by first | (rw [add_block]; exact hn705_1) | (show (Addr.add _ _).block ≠ _; rw [add_block]; exact hn705_1) | exact hn705_1) (.int .i64 t697)).trans hx705_1
                                      replace hx705_2 := (cell_far (p := ⟨gb701, 1, none⟩) (by first | (rw [add_block]; exact hn705_1) | (show (Addr.add _ _).block ≠ _; rw [add_block]; exact hn705_1) | exact hn705_1) (.int .i64 t697)).trans hx705_2
                                      replace hx705_3 := (cell_far (p := ⟨gb701, 1, none⟩) (by first | (rw [add_block]; exact hn705_1) | (show (Addr.add _ _).block ≠ _; rw [add_block]; exact hn705_1) | exact hn705_1) (.int .i64 t697)).trans hx705_3
                                      replace hx705_0 := (cell_far (p := ⟨gb701, 2, none⟩) (by first | (rw [add_block]; exact hn705_2) | (show (Addr.add _ _).block ≠ _; rw [add_block]; exact hn705_2) | exact hn705_2) (.int .i64 t698)).trans hx705_0
                                      replace hx705_1 := (cell_far (p := ⟨gb701, 2, none⟩) (by first | (rw [add_block]; exact hn705_2) | (show (Addr.add _ _).block ≠ _; rw [add_block]; exact hn705_2) | exact hn705_2) (.int .i64 t698)).trans hx705_1
                                      replace hx705_2 := (cell_far (p := ⟨gb701, 2, none⟩) (by first | (rw [add_block]; exact hn705_2) | (show (Addr.add _ _).block ≠ _; rw [add_block]; exact hn705_2) | exact hn705_2) (.int .i64 t698)).trans hx705_2
                                      replace hx705_3 := (cell_far (p := ⟨gb701, 2, none⟩) (by first | (rw [add_block]; exact hn705_2) | (show (Addr.add _ _).block ≠ _; rw [add_block]; exact hn705_2) | exact hn705_2) (.int .i64 t698)).trans hx705_3
                                      replace hx705_0 := (cell_far (p := ⟨gb701, 3, none⟩) (by first | (rw [add_block]; exact hn705_3) | (show (Addr.add _ _).block ≠ _; rw [add_block]; exact hn705_3) | exact hn705_3) (.bool t699)).trans hx705_0
                                      replace hx705_1 := (cell_far (p := ⟨gb701, 3, none⟩) (by first | (rw [add_block]; exact hn705_3) | (show (Addr.add _ _).block ≠ _; rw [add_block]; exact hn705_3) | exact hn705_3) (.bool t699)).trans hx705_1
                                      replace hx705_2 := (cell_far (p := ⟨gb701, 3, none⟩) (by first | (rw [add_block]; exact hn705_3) | (show (Addr.add _ _).block ≠ _; rw [add_block]; exact hn705_3) | exact hn705_3) (.bool t699)).trans hx705_2
                                      replace hx705_3 := (cell_far (p := ⟨gb701, 3, none⟩) (by first | (rw [add_block]; exact hn705_3) | (show (Addr.add _ _).block ≠ _; rw [add_block]; exact hn705_3) | exact hn705_3) (.bool t699)).trans hx705_3
                                      (try have hy705_0 := fun (n_ : Nat) => (show ((((((w36.drewN n_).setCell ⟨gb701, 0, none⟩ (.int .i64 t696)).setCell ⟨gb701, 1, none⟩ (.int .i64 t697)).setCell ⟨gb701, 2, none⟩ (.int .i64 t698)).setCell ⟨gb701, 3, none⟩ (.bool t699))).cell? _ = some _ from hx705_0))
                                      (try have hy705_1 := fun (n_ : Nat) => (show ((((((w36.drewN n_).setCell ⟨gb701, 0, none⟩ (.int .i64 t696)).setCell ⟨gb701, 1, none⟩ (.int .i64 t697)).setCell ⟨gb701, 2, none⟩ (.int .i64 t698)).setCell ⟨gb701, 3, none⟩ (.bool t699))).cell? _ = some _ from hx705_1))
                                      (try have hy705_2 := fun (n_ : Nat) => (show ((((((w36.drewN n_).setCell ⟨gb701, 0, none⟩ (.int .i64 t696)).setCell ⟨gb701, 1, none⟩ (.int .i64 t697)).setCell ⟨gb701, 2, none⟩ (.int .i64 t698)).setCell ⟨gb701, 3, none⟩ (.bool t699))).cell? _ = some _ from hx705_2))
                                      (try have hy705_3 := fun (n_ : Nat) => (show ((((((w36.drewN n_).setCell ⟨gb701, 0, none⟩ (.int .i64 t696)).setCell ⟨gb701, 1, none⟩ (.int .i64 t697)).setCell ⟨gb701, 2, none⟩ (.int .i64 t698)).setCell ⟨gb701, 3, none⟩ (.bool t699))).cell? _ = some _ from hx705_3))
                                      clear hn705_0
                                      clear hn705_1
                                      clear hn705_2
                                      clear hn705_3
                                      replace p705 := eq_true p705
                                      replace q705 := eq_true q705
                                      go_wp2
                                      repeat (go_quiet (fail); try go_wp2)
                                      go_meet
                                      case rel => exact ⟨_, (true), (by first | rfl | (simp; done) | (simp [*]; done)), H', ⟨by have := HJ4.out; have := HK2.out; have := HJ13.out; first | omega | exact Nat.le_refl _⟩, ⟨by (with_reducible repeat (first | apply Kd.R_alloc | apply Kd.R_drewN | apply Kd.R_drew)); exact Kd.R_mono (Kd.R_far (p := ⟨gb701, 3, none⟩) (Kd.R_far (p := ⟨gb701, 2, none⟩) (Kd.R_far (p := ⟨gb701, 1, none⟩) (Kd.R_far (p := ⟨gb701, 0, none⟩) (Kd.R_types HO_7.out BK701.out (by decide)) (fun _ hk => hk.2) (.int .i64 t696)) (fun _ hk => hk.2) (.int .i64 t697)) (fun _ hk => hk.2) (.int .i64 t698)) (fun _ hk => hk.2) (.bool t699)) (fun _ hk => hk.1)⟩, ⟨by (with_reducible repeat (first | refine blk_drewN ?_ _ | refine blk_drew ?_ | refine blk_alloc ?_ _)); refine blk_far ?_ NB689_701.out _; (with_reducible repeat (first | refine blk_drewN ?_ _ | refine blk_drew ?_ | refine blk_alloc ?_ _)); refine blk_far ?_ NB689_701.out _; (with_reducible repeat (first | refine blk_drewN ?_ _ | refine blk_drew ?_ | refine blk_alloc ?_ _)); refine blk_far ?_ NB689_701.out _; (with_reducible repeat (first | refine blk_drewN ?_ _ | refine blk_drew ?_ | refine blk_alloc ?_ _)); refine blk_far ?_ NB689_701.out _; (with_reducible repeat (first | refine blk_drewN ?_ _ | refine blk_drew ?_ | refine blk_alloc ?_ _)); exact BK689.out⟩, ⟨by (with_reducible repeat (first | refine blk_drewN ?_ _ | refine blk_drew ?_ | refine blk_alloc ?_ _)); refine blk_far ?_ NB695_701.out _; (with_reducible repeat (first | refine blk_drewN ?_ _ | refine blk_drew ?_ | refine blk_alloc ?_ _)); refine blk_far ?_ NB695_701.out _; (with_reducible repeat (first | refine blk_drewN ?_ _ | refine blk_drew ?_ | refine blk_alloc ?_ _)); refine blk_far ?_ NB695_701.out _; (with_reducible repeat (first | refine blk_drewN ?_ _ | refine blk_drew ?_ | refine blk_alloc ?_ _)); refine blk_far ?_ NB695_701.out _; (with_reducible repeat (first | refine blk_drewN ?_ _ | refine blk_drew ?_ | refine blk_alloc ?_ _)); exact BK695.out⟩, ⟨by (with_reducible repeat (first | refine blk_drewN ?_ _ | refine blk_drew ?_ | refine blk_alloc ?_ _)); refine blk_put (cs := #[.int .i64 t696, .int .i64 t697, .int .i64 t698, .bool false]) ?_ 3 _ rfl; (with_reducible repeat (first | refine blk_drewN ?_ _ | refine blk_drew ?_ | refine blk_alloc ?_ _)); refine blk_put (cs := #[.int .i64 t696, .int .i64 t697, .int .i64 0, .bool false]) ?_ 2 _ rfl; (with_reducible repeat (first | refine blk_drewN ?_ _ | refine blk_drew ?_ | refine blk_alloc ?_ _)); refine blk_put (cs := #[.int .i64 t696, .int .i64 0, .int .i64 0, .bool false]) ?_ 1 _ rfl; (with_reducible repeat (first | refine blk_drewN ?_ _ | refine blk_drew ?_ | refine blk_alloc ?_ _)); refine blk_put (cs := #[.int .i64 0, .int .i64 0, .int .i64 0, .bool false]) ?_ 0 _ rfl; (with_reducible repeat (first | refine blk_drewN ?_ _ | refine blk_drew ?_ | refine blk_alloc ?_ _)); exact BK701.out⟩, ⟨by repeat (first | (with_reducible first | exact HB.out | apply below_alloc | apply pw_below_drewN | apply below_drew1 | refine below_set ?_ GE689.out | refine below_set ?_ GE695.out | refine below_set ?_ GE701.out) | exact HB.out)⟩⟩
                                    · rw [if_neg c46] at H
                                      have c46b0 : (((rd_T76 t685 x8_2).f0) == 3) = false := beq_eq_false_iff_ne.mpr c46
                                      have c46b1 : (((rd_T76 t685 x8_2).f0) != 3) = true := bne_iff_ne.mpr c46
                                      by_cases c50 : ((rd_T76 t685 x8_2).f0) = 1
                                      · rw [if_pos c50] at H
                                        have c50b0 : (((rd_T76 t685 x8_2).f0) == 1) = true := beq_iff_eq.mpr c50
                                        have c50b1 : (((rd_T76 t685 x8_2).f0) != 1) = false := bne_eq_false_iff_eq.mpr c50
                                        clear c50
                                        have H' := Aside0.mk H
                                        clear H
                                        have hnb51 := NB689_695.out
                                        have hnc51 := NB695_689.out
                                        have hnb52 := NB689_701.out
                                        have hnc52 := NB701_689.out
                                        have hcz53_0 : w36.cell? ⟨gb689, 0, none⟩ = some (.int .i64 ((rd_T76 t685 x8_2).f0)) := (blk_cell BK689.out 0).trans rfl
                                        have hcz53_1 : w36.cell? ⟨gb689, 1, none⟩ = some (.int .i64 ((rd_T76 t685 x8_2).f1)) := (blk_cell BK689.out 1).trans rfl
                                        have hcz53_2 : w36.cell? ⟨gb689, 2, none⟩ = some (.int .i64 ((rd_T76 t685 x8_2).f2)) := (blk_cell BK689.out 2).trans rfl
                                        have hcz53_3 : w36.cell? ⟨gb689, 3, none⟩ = some (.int .i64 ((rd_T76 t685 x8_2).f3)) := (blk_cell BK689.out 3).trans rfl
                                        have hcz53_4 : w36.cell? ⟨gb689, 4, none⟩ = some (.int .i64 ((rd_T76 t685 x8_2).f4)) := (blk_cell BK689.out 4).trans rfl
                                        have hfz53_0 := blk_frozen BK689.out 0
                                        have hfz53_1 := blk_frozen BK689.out 1
                                        have hfz53_2 := blk_frozen BK689.out 2
                                        have hfz53_3 := blk_frozen BK689.out 3
                                        have hfz53_4 := blk_frozen BK689.out 4
                                        have p702 : 0 ≤ (((rd_T76 t685 x8_2).f3) : Int) := of_decide_eq_true (by first | (with_reducible assumption) | assumption)
                                        have q702 : ((rd_T76 t685 x8_2).f3) < (l0.length : Int) := of_decide_eq_true (by first | (with_reducible assumption) | assumption)
                                        obtain ⟨ad702, e702, hx702_0, hx702_1, hx702_2, hx702_3⟩ := at_T31 HR0.out ((rd_T76 t685 x8_2).f3) p702 q702
                                        cases e702
                                        have hn702_0 : ad702.block ≠ gb701 := Nat.ne_of_lt (Nat.lt_of_lt_of_le (by have := World.block_lt_of_cell? _ _ hx702_0; first | rwa [add_block] at this | exact this) GW701.out)
                                        have hn702_1 : ad702.block ≠ gb701 := Nat.ne_of_lt (Nat.lt_of_lt_of_le (by have := World.block_lt_of_cell? _ _ hx702_0; first | rwa [add_block] at this | exact this) GW701.out)
                                        have hn702_2 : ad702.block ≠ gb701 := Nat.ne_of_lt (Nat.lt_of_lt_of_le (by have := World.block_lt_of_cell? _ _ hx702_0; first | rwa [add_block] at this | exact this) GW701.out)
                                        have hn702_3 : ad702.block ≠ gb701 := Nat.ne_of_lt (Nat.lt_of_lt_of_le (by have := World.block_lt_of_cell? _ _ hx702_0; first | rwa [add_block] at this | exact this) GW701.out)
                                        replace hx702_0 := (HB.out.cell (World.block_lt_of_cell? w _ hx702_0)).trans hx702_0
                                        replace hx702_1 := (HB.out.cell (World.block_lt_of_cell? w _ hx702_1)).trans hx702_1
                                        replace hx702_2 := (HB.out.cell (World.block_lt_of_cell? w _ hx702_2)).trans hx702_2
                                        replace hx702_3 := (HB.out.cell (World.block_lt_of_cell? w _ hx702_3)).trans hx702_3
                                        replace hx702_0 := (cell_far (p := ⟨gb701, 0, none⟩) (by first | (rw [add_block]; exact hn702_0) | (show (Addr.add _ _).block ≠ _; rw [add_block]; exact hn702_0) | exact hn702_0) (.int .i64 t696)).trans hx702_0
                                        replace hx702_1 := (cell_far (p := ⟨gb701, 0, none⟩) (by first | (rw [add_block]; exact hn702_0) | (show (Addr.add _ _).block ≠ _; rw [add_block]; exact hn702_0) | exact hn702_0) (.int .i64 t696)).trans hx702_1
                                        replace hx702_2 := (cell_far (p := ⟨gb701, 0, none⟩) (by first | (rw [add_block]; exact hn702_0) | (show (Addr.add _ _).block ≠ _; rw [add_block]; exact hn702_0) | exact hn702_0) (.int .i64 t696)).trans hx702_2
                                        replace hx702_3 := (cell_far (p := ⟨gb701, 0, none⟩) (by first | (rw [add_block]; exact hn702_0) | (show (Addr.add _ _).block ≠ _; rw [add_block]; exact hn702_0) | exact hn702_0) (.int .i64 t696)).trans hx702_3
                                        replace hx702_0 := (cell_far (p := ⟨gb701, 1, none⟩) (by first | (rw [add_block]; exact hn702_1) | (show (Addr.add _ _).block ≠ _; rw [add_block]; exact hn702_1) | exact hn702_1) (.int .i64 t697)).trans hx702_0
                                        replace hx702_1 := (cell_far (p := ⟨gb701, 1, none⟩) (by first | (rw [add_block]; exact hn702_1) | (show (Addr.add _ _).block ≠ _; rw [add_block]; exact hn702_1) | exact hn702_1) (.int .i64 t697)).trans hx702_1
                                        replace hx702_2 := (cell_far (p := ⟨gb701, 1, none⟩) (by first | (rw [add_block]; exact hn702_1) | (show (Addr.add _ _).block ≠ _; rw [add_block]; exact hn702_1) | exact hn702_1) (.int .i64 t697)).trans hx702_2
                                        replace hx702_3 := (cell_far (p := ⟨gb701, 1, none⟩) (by first | (rw [add_block]; exact hn702_1) | (show (Addr.add _ _).block ≠ _; rw [add_block]; exact hn702_1) | exact hn702_1) (.int .i64 t697)).trans hx702_3
                                        replace hx702_0 := (cell_far (p := ⟨gb701, 2, none⟩) (by first | (rw [add_block]; exact hn702_2) | (show (Addr.add _ _).block ≠ _; rw [add_block]; exact hn702_2) | exact hn702_2) (.int .i64 t698)).trans hx702_0
                                        replace hx702_1 := (cell_far (p := ⟨gb701, 2, none⟩) (by first | (rw [add_block]; exact hn702_2) | (show (Addr.add _ _).block ≠ _; rw [add_block]; exact hn702_2) | exact hn702_2) (.int .i64 t698)).trans hx702_1
                                        replace hx702_2 := (cell_far (p := ⟨gb701, 2, none⟩) (by first | (rw [add_block]; exact hn702_2) | (show (Addr.add _ _).block ≠ _; rw [add_block]; exact hn702_2) | exact hn702_2) (.int .i64 t698)).trans hx702_2
                                        replace hx702_3 := (cell_far (p := ⟨gb701, 2, none⟩) (by first | (rw [add_block]; exact hn702_2) | (show (Addr.add _ _).block ≠ _; rw [add_block]; exact hn702_2) | exact hn702_2) (.int .i64 t698)).trans hx702_3
                                        replace hx702_0 := (cell_far (p := ⟨gb701, 3, none⟩) (by first | (rw [add_block]; exact hn702_3) | (show (Addr.add _ _).block ≠ _; rw [add_block]; exact hn702_3) | exact hn702_3) (.bool t699)).trans hx702_0
                                        replace hx702_1 := (cell_far (p := ⟨gb701, 3, none⟩) (by first | (rw [add_block]; exact hn702_3) | (show (Addr.add _ _).block ≠ _; rw [add_block]; exact hn702_3) | exact hn702_3) (.bool t699)).trans hx702_1
                                        replace hx702_2 := (cell_far (p := ⟨gb701, 3, none⟩) (by first | (rw [add_block]; exact hn702_3) | (show (Addr.add _ _).block ≠ _; rw [add_block]; exact hn702_3) | exact hn702_3) (.bool t699)).trans hx702_2
                                        replace hx702_3 := (cell_far (p := ⟨gb701, 3, none⟩) (by first | (rw [add_block]; exact hn702_3) | (show (Addr.add _ _).block ≠ _; rw [add_block]; exact hn702_3) | exact hn702_3) (.bool t699)).trans hx702_3
                                        (try have hy702_0 := fun (n_ : Nat) => (show ((((((w36.drewN n_).setCell ⟨gb701, 0, none⟩ (.int .i64 t696)).setCell ⟨gb701, 1, none⟩ (.int .i64 t697)).setCell ⟨gb701, 2, none⟩ (.int .i64 t698)).setCell ⟨gb701, 3, none⟩ (.bool t699))).cell? _ = some _ from hx702_0))
                                        (try have hy702_1 := fun (n_ : Nat) => (show ((((((w36.drewN n_).setCell ⟨gb701, 0, none⟩ (.int .i64 t696)).setCell ⟨gb701, 1, none⟩ (.int .i64 t697)).setCell ⟨gb701, 2, none⟩ (.int .i64 t698)).setCell ⟨gb701, 3, none⟩ (.bool t699))).cell? _ = some _ from hx702_1))
                                        (try have hy702_2 := fun (n_ : Nat) => (show ((((((w36.drewN n_).setCell ⟨gb701, 0, none⟩ (.int .i64 t696)).setCell ⟨gb701, 1, none⟩ (.int .i64 t697)).setCell ⟨gb701, 2, none⟩ (.int .i64 t698)).setCell ⟨gb701, 3, none⟩ (.bool t699))).cell? _ = some _ from hx702_2))
                                        (try have hy702_3 := fun (n_ : Nat) => (show ((((((w36.drewN n_).setCell ⟨gb701, 0, none⟩ (.int .i64 t696)).setCell ⟨gb701, 1, none⟩ (.int .i64 t697)).setCell ⟨gb701, 2, none⟩ (.int .i64 t698)).setCell ⟨gb701, 3, none⟩ (.bool t699))).cell? _ = some _ from hx702_3))
                                        clear hn702_0
                                        clear hn702_1
                                        clear hn702_2
                                        clear hn702_3
                                        replace p702 := eq_true p702
                                        replace q702 := eq_true q702
                                        have p703 : 0 ≤ (((rd_T76 t685 x8_2).f4) : Int) := of_decide_eq_true (by first | (with_reducible assumption) | assumption)
                                        have q703 : ((rd_T76 t685 x8_2).f4) < (l0.length : Int) := of_decide_eq_true (by first | (with_reducible assumption) | assumption)
                                        obtain ⟨ad703, e703, hx703_0, hx703_1, hx703_2, hx703_3⟩ := at_T31 HR0.out ((rd_T76 t685 x8_2).f4) p703 q703
                                        obtain rfl : ad702 = ad703 := (by injection e703)
                                        have hn703_0 : ad702.block ≠ gb701 := Nat.ne_of_lt (Nat.lt_of_lt_of_le (by have := World.block_lt_of_cell? _ _ hx703_0; first | rwa [add_block] at this | exact this) GW701.out)
                                        have hn703_1 : ad702.block ≠ gb701 := Nat.ne_of_lt (Nat.lt_of_lt_of_le (by have := World.block_lt_of_cell? _ _ hx703_0; first | rwa [add_block] at this | exact this) GW701.out)
                                        have hn703_2 : ad702.block ≠ gb701 := Nat.ne_of_lt (Nat.lt_of_lt_of_le (by have := World.block_lt_of_cell? _ _ hx703_0; first | rwa [add_block] at this | exact this) GW701.out)
                                        have hn703_3 : ad702.block ≠ gb701 := Nat.ne_of_lt (Nat.lt_of_lt_of_le (by have := World.block_lt_of_cell? _ _ hx703_0; first | rwa [add_block] at this | exact this) GW701.out)
                                        replace hx703_0 := (HB.out.cell (World.block_lt_of_cell? w _ hx703_0)).trans hx703_0
                                        replace hx703_1 := (HB.out.cell (World.block_lt_of_cell? w _ hx703_1)).trans hx703_1
                                        replace hx703_2 := (HB.out.cell (World.block_lt_of_cell? w _ hx703_2)).trans hx703_2
                                        replace hx703_3 := (HB.out.cell (World.block_lt_of_cell? w _ hx703_3)).trans hx703_3
                                        replace hx703_0 := (cell_far (p := ⟨gb701, 0, none⟩) (by first | (rw [add_block]; exact hn703_0) | (show (Addr.add _ _).block ≠ _; rw [add_block]; exact hn703_0) | exact hn703_0) (.int .i64 t696)).trans hx703_0
                                        replace hx703_1 := (cell_far (p := ⟨gb701, 0, none⟩) (by first | (rw [add_block]; exact hn703_0) | (show (Addr.add _ _).block ≠ _; rw [add_block]; exact hn703_0) | exact hn703_0) (.int .i64 t696)).trans hx703_1
                                        replace hx703_2 := (cell_far (p := ⟨gb701, 0, none⟩) (by first | (rw [add_block]; exact hn703_0) | (show (Addr.add _ _).block ≠ _; rw [add_block]; exact hn703_0) | exact hn703_0) (.int .i64 t696)).trans hx703_2
                                        replace hx703_3 := (cell_far (p := ⟨gb701, 0, none⟩) (by first | (rw [add_block]; exact hn703_0) | (show (Addr.add _ _).block ≠ _; rw [add_block]; exact hn703_0) | exact hn703_0) (.int .i64 t696)).trans hx703_3
                                        replace hx703_0 := (cell_far (p := ⟨gb701, 1, none⟩) (by first | (rw [add_block]; exact hn703_1) | (show (Addr.add _ _).block ≠ _; rw [add_block]; exact hn703_1) | exact hn703_1) (.int .i64 t697)).trans hx703_0
                                        replace hx703_1 := (cell_far (p := ⟨gb701, 1, none⟩) (by first | (rw [add_block]; exact hn703_1) | (show (Addr.add _ _).block ≠ _; rw [add_block]; exact hn703_1) | exact hn703_1) (.int .i64 t697)).trans hx703_1
                                        replace hx703_2 := (cell_far (p := ⟨gb701, 1, none⟩) (by first | (rw [add_block]; exact hn703_1) | (show (Addr.add _ _).block ≠ _; rw [add_block]; exact hn703_1) | exact hn703_1) (.int .i64 t697)).trans hx703_2
                                        replace hx703_3 := (cell_far (p := ⟨gb701, 1, none⟩) (by first | (rw [add_block]; exact hn703_1) | (show (Addr.add _ _).block ≠ _; rw [add_block]; exact hn703_1) | exact hn703_1) (.int .i64 t697)).trans hx703_3
                                        replace hx703_0 := (cell_far (p := ⟨gb701, 2, none⟩) (by first | (rw [add_block]; exact hn703_2) | (show (Addr.add _ _).block ≠ _; rw [add_block]; exact hn703_2) | exact hn703_2) (.int .i64 t698)).trans hx703_0
                                        replace hx703_1 := (cell_far (p := ⟨gb701, 2, none⟩) (by first | (rw [add_block]; exact hn703_2) | (show (Addr.add _ _).block ≠ _; rw [add_block]; exact hn703_2) | exact hn703_2) (.int .i64 t698)).trans hx703_1
                                        replace hx703_2 := (cell_far (p := ⟨gb701, 2, none⟩) (by first | (rw [add_block]; exact hn703_2) | (show (Addr.add _ _).block ≠ _; rw [add_block]; exact hn703_2) | exact hn703_2) (.int .i64 t698)).trans hx703_2
                                        replace hx703_3 := (cell_far (p := ⟨gb701, 2, none⟩) (by first | (rw [add_block]; exact hn703_2) | (show (Addr.add _ _).block ≠ _; rw [add_block]; exact hn703_2) | exact hn703_2) (.int .i64 t698)).trans hx703_3
                                        replace hx703_0 := (cell_far (p := ⟨gb701, 3, none⟩) (by first | (rw [add_block]; exact hn703_3) | (show (Addr.add _ _).block ≠ _; rw [add_block]; exact hn703_3) | exact hn703_3) (.bool t699)).trans hx703_0
                                        replace hx703_1 := (cell_far (p := ⟨gb701, 3, none⟩) (by first | (rw [add_block]; exact hn703_3) | (show (Addr.add _ _).block ≠ _; rw [add_block]; exact hn703_3) | exact hn703_3) (.bool t699)).trans hx703_1
                                        replace hx703_2 := (cell_far (p := ⟨gb701, 3, none⟩) (by first | (rw [add_block]; exact hn703_3) | (show (Addr.add _ _).block ≠ _; rw [add_block]; exact hn703_3) | exact hn703_3) (.bool t699)).trans hx703_2
                                        replace hx703_3 := (cell_far (p := ⟨gb701, 3, none⟩) (by first | (rw [add_block]; exact hn703_3) | (show (Addr.add _ _).block ≠ _; rw [add_block]; exact hn703_3) | exact hn703_3) (.bool t699)).trans hx703_3
                                        (try have hy703_0 := fun (n_ : Nat) => (show ((((((w36.drewN n_).setCell ⟨gb701, 0, none⟩ (.int .i64 t696)).setCell ⟨gb701, 1, none⟩ (.int .i64 t697)).setCell ⟨gb701, 2, none⟩ (.int .i64 t698)).setCell ⟨gb701, 3, none⟩ (.bool t699))).cell? _ = some _ from hx703_0))
                                        (try have hy703_1 := fun (n_ : Nat) => (show ((((((w36.drewN n_).setCell ⟨gb701, 0, none⟩ (.int .i64 t696)).setCell ⟨gb701, 1, none⟩ (.int .i64 t697)).setCell ⟨gb701, 2, none⟩ (.int .i64 t698)).setCell ⟨gb701, 3, none⟩ (.bool t699))).cell? _ = some _ from hx703_1))
                                        (try have hy703_2 := fun (n_ : Nat) => (show ((((((w36.drewN n_).setCell ⟨gb701, 0, none⟩ (.int .i64 t696)).setCell ⟨gb701, 1, none⟩ (.int .i64 t697)).setCell ⟨gb701, 2, none⟩ (.int .i64 t698)).setCell ⟨gb701, 3, none⟩ (.bool t699))).cell? _ = some _ from hx703_2))
                                        (try have hy703_3 := fun (n_ : Nat) => (show ((((((w36.drewN n_).setCell ⟨gb701, 0, none⟩ (.int .i64 t696)).setCell ⟨gb701, 1, none⟩ (.int .i64 t697)).setCell ⟨gb701, 2, none⟩ (.int .i64 t698)).setCell ⟨gb701, 3, none⟩ (.bool t699))).cell? _ = some _ from hx703_3))
                                        clear hn703_0
                                        clear hn703_1
                                        clear hn703_2
                                        clear hn703_3
                                        replace p703 := eq_true p703
                                        replace q703 := eq_true q703
                                        have hnb54 := NB695_701.out
                                        have hnc54 := NB701_695.out
                                        have hcz55_0 : w36.cell? ⟨gb695, 0, none⟩ = some (.int .i64 t690) := (blk_cell BK695.out 0).trans rfl
                                        have hcz55_1 : w36.cell? ⟨gb695, 1, none⟩ = some (.int .i64 t691) := (blk_cell BK695.out 1).trans rfl
                                        have hcz55_2 : w36.cell? ⟨gb695, 2, none⟩ = some (.int .i64 t692) := (blk_cell BK695.out 2).trans rfl
                                        have hcz55_3 : w36.cell? ⟨gb695, 3, none⟩ = some (.bool t693) := (blk_cell BK695.out 3).trans rfl
                                        have hfz55_0 := blk_frozen BK695.out 0
                                        have hfz55_1 := blk_frozen BK695.out 1
                                        have hfz55_2 := blk_frozen BK695.out 2
                                        have hfz55_3 := blk_frozen BK695.out 3
                                        have hcz56_0 : w36.cell? ⟨gb701, 0, none⟩ = some (.int .i64 0) := (blk_cell BK701.out 0).trans rfl
                                        have hcz56_1 : w36.cell? ⟨gb701, 1, none⟩ = some (.int .i64 0) := (blk_cell BK701.out 1).trans rfl
                                        have hcz56_2 : w36.cell? ⟨gb701, 2, none⟩ = some (.int .i64 0) := (blk_cell BK701.out 2).trans rfl
                                        have hcz56_3 : w36.cell? ⟨gb701, 3, none⟩ = some (.bool false) := (blk_cell BK701.out 3).trans rfl
                                        have hfz56_0 := blk_frozen BK701.out 0
                                        have hfz56_1 := blk_frozen BK701.out 1
                                        have hfz56_2 := blk_frozen BK701.out 2
                                        have hfz56_3 := blk_frozen BK701.out 3
                                        go_wp2
                                        repeat (go_quiet (fail); try go_wp2)
                                        go_meet
                                        case rel => exact ⟨_, (decide (t692 ≥ t698)), (by first | rfl | (simp; done) | (simp [*]; done)), H', ⟨by have := HJ4.out; have := HK2.out; have := HJ13.out; first | omega | exact Nat.le_refl _⟩, ⟨by (with_reducible repeat (first | apply Kd.R_alloc | apply Kd.R_drewN | apply Kd.R_drew)); exact Kd.R_mono (Kd.R_far (p := ⟨gb701, 3, none⟩) (Kd.R_far (p := ⟨gb701, 2, none⟩) (Kd.R_far (p := ⟨gb701, 1, none⟩) (Kd.R_far (p := ⟨gb701, 0, none⟩) (Kd.R_types HO_7.out BK701.out (by decide)) (fun _ hk => hk.2) (.int .i64 t696)) (fun _ hk => hk.2) (.int .i64 t697)) (fun _ hk => hk.2) (.int .i64 t698)) (fun _ hk => hk.2) (.bool t699)) (fun _ hk => hk.1)⟩, ⟨by (with_reducible repeat (first | refine blk_drewN ?_ _ | refine blk_drew ?_ | refine blk_alloc ?_ _)); refine blk_far ?_ NB689_701.out _; (with_reducible repeat (first | refine blk_drewN ?_ _ | refine blk_drew ?_ | refine blk_alloc ?_ _)); refine blk_far ?_ NB689_701.out _; (with_reducible repeat (first | refine blk_drewN ?_ _ | refine blk_drew ?_ | refine blk_alloc ?_ _)); refine blk_far ?_ NB689_701.out _; (with_reducible repeat (first | refine blk_drewN ?_ _ | refine blk_drew ?_ | refine blk_alloc ?_ _)); refine blk_far ?_ NB689_701.out _; (with_reducible repeat (first | refine blk_drewN ?_ _ | refine blk_drew ?_ | refine blk_alloc ?_ _)); exact BK689.out⟩, ⟨by (with_reducible repeat (first | refine blk_drewN ?_ _ | refine blk_drew ?_ | refine blk_alloc ?_ _)); refine blk_far ?_ NB695_701.out _; (with_reducible repeat (first | refine blk_drewN ?_ _ | refine blk_drew ?_ | refine blk_alloc ?_ _)); refine blk_far ?_ NB695_701.out _; (with_reducible repeat (first | refine blk_drewN ?_ _ | refine blk_drew ?_ | refine blk_alloc ?_ _)); refine blk_far ?_ NB695_701.out _; (with_reducible repeat (first | refine blk_drewN ?_ _ | refine blk_drew ?_ | refine blk_alloc ?_ _)); refine blk_far ?_ NB695_701.out _; (with_reducible repeat (first | refine blk_drewN ?_ _ | refine blk_drew ?_ | refine blk_alloc ?_ _)); exact BK695.out⟩, ⟨by (with_reducible repeat (first | refine blk_drewN ?_ _ | refine blk_drew ?_ | refine blk_alloc ?_ _)); refine blk_put (cs := #[.int .i64 t696, .int .i64 t697, .int .i64 t698, .bool false]) ?_ 3 _ rfl; (with_reducible repeat (first | refine blk_drewN ?_ _ | refine blk_drew ?_ | refine blk_alloc ?_ _)); refine blk_put (cs := #[.int .i64 t696, .int .i64 t697, .int .i64 0, .bool false]) ?_ 2 _ rfl; (with_reducible repeat (first | refine blk_drewN ?_ _ | refine blk_drew ?_ | refine blk_alloc ?_ _)); refine blk_put (cs := #[.int .i64 t696, .int .i64 0, .int .i64 0, .bool false]) ?_ 1 _ rfl; (with_reducible repeat (first | refine blk_drewN ?_ _ | refine blk_drew ?_ | refine blk_alloc ?_ _)); refine blk_put (cs := #[.int .i64 0, .int .i64 0, .int .i64 0, .bool false]) ?_ 0 _ rfl; (with_reducible repeat (first | refine blk_drewN ?_ _ | refine blk_drew ?_ | refine blk_alloc ?_ _)); exact BK701.out⟩, ⟨by repeat (first | (with_reducible first | exact HB.out | apply below_alloc | apply pw_below_drewN | apply below_drew1 | refine below_set ?_ GE689.out | refine below_set ?_ GE695.out | refine below_set ?_ GE701.out) | exact HB.out)⟩⟩
                                      · rw [if_neg c50] at H
                                        have c50b0 : (((rd_T76 t685 x8_2).f0) == 1) = false := beq_eq_false_iff_ne.mpr c50
                                        have c50b1 : (((rd_T76 t685 x8_2).f0) != 1) = true := bne_iff_ne.mpr c50
                                        have H' := Aside0.mk H
                                        clear H
                                        have hnb57 := NB689_695.out
                                        have hnc57 := NB695_689.out
                                        have hnb58 := NB689_701.out
                                        have hnc58 := NB701_689.out
                                        have hcz59_0 : w36.cell? ⟨gb689, 0, none⟩ = some (.int .i64 ((rd_T76 t685 x8_2).f0)) := (blk_cell BK689.out 0).trans rfl
                                        have hcz59_1 : w36.cell? ⟨gb689, 1, none⟩ = some (.int .i64 ((rd_T76 t685 x8_2).f1)) := (blk_cell BK689.out 1).trans rfl
                                        have hcz59_2 : w36.cell? ⟨gb689, 2, none⟩ = some (.int .i64 ((rd_T76 t685 x8_2).f2)) := (blk_cell BK689.out 2).trans rfl
                                        have hcz59_3 : w36.cell? ⟨gb689, 3, none⟩ = some (.int .i64 ((rd_T76 t685 x8_2).f3)) := (blk_cell BK689.out 3).trans rfl
                                        have hcz59_4 : w36.cell? ⟨gb689, 4, none⟩ = some (.int .i64 ((rd_T76 t685 x8_2).f4)) := (blk_cell BK689.out 4).trans rfl
                                        have hfz59_0 := blk_frozen BK689.out 0
                                        have hfz59_1 := blk_frozen BK689.out 1
                                        have hfz59_2 := blk_frozen BK689.out 2
                                        have hfz59_3 := blk_frozen BK689.out 3
                                        have hfz59_4 := blk_frozen BK689.out 4
                                        have p702 : 0 ≤ (((rd_T76 t685 x8_2).f3) : Int) := of_decide_eq_true (by first | (with_reducible assumption) | assumption)
                                        have q702 : ((rd_T76 t685 x8_2).f3) < (l0.length : Int) := of_decide_eq_true (by first | (with_reducible assumption) | assumption)
                                        obtain ⟨ad702, e702, hx702_0, hx702_1, hx702_2, hx702_3⟩ := at_T31 HR0.out ((rd_T76 t685 x8_2).f3) p702 q702
                                        cases e702
                                        have hn702_0 : ad702.block ≠ gb701 := Nat.ne_of_lt (Nat.lt_of_lt_of_le (by have := World.block_lt_of_cell? _ _ hx702_0; first | rwa [add_block] at this | exact this) GW701.out)
                                        have hn702_1 : ad702.block ≠ gb701 := Nat.ne_of_lt (Nat.lt_of_lt_of_le (by have := World.block_lt_of_cell? _ _ hx702_0; first | rwa [add_block] at this | exact this) GW701.out)
                                        have hn702_2 : ad702.block ≠ gb701 := Nat.ne_of_lt (Nat.lt_of_lt_of_le (by have := World.block_lt_of_cell? _ _ hx702_0; first | rwa [add_block] at this | exact this) GW701.out)
                                        have hn702_3 : ad702.block ≠ gb701 := Nat.ne_of_lt (Nat.lt_of_lt_of_le (by have := World.block_lt_of_cell? _ _ hx702_0; first | rwa [add_block] at this | exact this) GW701.out)
                                        replace hx702_0 := (HB.out.cell (World.block_lt_of_cell? w _ hx702_0)).trans hx702_0
                                        replace hx702_1 := (HB.out.cell (World.block_lt_of_cell? w _ hx702_1)).trans hx702_1
                                        replace hx702_2 := (HB.out.cell (World.block_lt_of_cell? w _ hx702_2)).trans hx702_2
                                        replace hx702_3 := (HB.out.cell (World.block_lt_of_cell? w _ hx702_3)).trans hx702_3
                                        replace hx702_0 := (cell_far (p := ⟨gb701, 0, none⟩) (by first | (rw [add_block]; exact hn702_0) | (show (Addr.add _ _).block ≠ _; rw [add_block]; exact hn702_0) | exact hn702_0) (.int .i64 t696)).trans hx702_0
                                        replace hx702_1 := (cell_far (p := ⟨gb701, 0, none⟩) (by first | (rw [add_block]; exact hn702_0) | (show (Addr.add _ _).block ≠ _; rw [add_block]; exact hn702_0) | exact hn702_0) (.int .i64 t696)).trans hx702_1
                                        replace hx702_2 := (cell_far (p := ⟨gb701, 0, none⟩) (by first | (rw [add_block]; exact hn702_0) | (show (Addr.add _ _).block ≠ _; rw [add_block]; exact hn702_0) | exact hn702_0) (.int .i64 t696)).trans hx702_2
                                        replace hx702_3 := (cell_far (p := ⟨gb701, 0, none⟩) (by first | (rw [add_block]; exact hn702_0) | (show (Addr.add _ _).block ≠ _; rw [add_block]; exact hn702_0) | exact hn702_0) (.int .i64 t696)).trans hx702_3
                                        replace hx702_0 := (cell_far (p := ⟨gb701, 1, none⟩) (by first | (rw [add_block]; exact hn702_1) | (show (Addr.add _ _).block ≠ _; rw [add_block]; exact hn702_1) | exact hn702_1) (.int .i64 t697)).trans hx702_0
                                        replace hx702_1 := (cell_far (p := ⟨gb701, 1, none⟩) (by first | (rw [add_block]; exact hn702_1) | (show (Addr.add _ _).block ≠ _; rw [add_block]; exact hn702_1) | exact hn702_1) (.int .i64 t697)).trans hx702_1
                                        replace hx702_2 := (cell_far (p := ⟨gb701, 1, none⟩) (by first | (rw [add_block]; exact hn702_1) | (show (Addr.add _ _).block ≠ _; rw [add_block]; exact hn702_1) | exact hn702_1) (.int .i64 t697)).trans hx702_2
                                        replace hx702_3 := (cell_far (p := ⟨gb701, 1, none⟩) (by first | (rw [add_block]; exact hn702_1) | (show (Addr.add _ _).block ≠ _; rw [add_block]; exact hn702_1) | exact hn702_1) (.int .i64 t697)).trans hx702_3
                                        replace hx702_0 := (cell_far (p := ⟨gb701, 2, none⟩) (by first | (rw [add_block]; exact hn702_2) | (show (Addr.add _ _).block ≠ _; rw [add_block]; exact hn702_2) | exact hn702_2) (.int .i64 t698)).trans hx702_0
                                        replace hx702_1 := (cell_far (p := ⟨gb701, 2, none⟩) (by first | (rw [add_block]; exact hn702_2) | (show (Addr.add _ _).block ≠ _; rw [add_block]; exact hn702_2) | exact hn702_2) (.int .i64 t698)).trans hx702_1
                                        replace hx702_2 := (cell_far (p := ⟨gb701, 2, none⟩) (by first | (rw [add_block]; exact hn702_2) | (show (Addr.add _ _).block ≠ _; rw [add_block]; exact hn702_2) | exact hn702_2) (.int .i64 t698)).trans hx702_2
                                        replace hx702_3 := (cell_far (p := ⟨gb701, 2, none⟩) (by first | (rw [add_block]; exact hn702_2) | (show (Addr.add _ _).block ≠ _; rw [add_block]; exact hn702_2) | exact hn702_2) (.int .i64 t698)).trans hx702_3
                                        replace hx702_0 := (cell_far (p := ⟨gb701, 3, none⟩) (by first | (rw [add_block]; exact hn702_3) | (show (Addr.add _ _).block ≠ _; rw [add_block]; exact hn702_3) | exact hn702_3) (.bool t699)).trans hx702_0
                                        replace hx702_1 := (cell_far (p := ⟨gb701, 3, none⟩) (by first | (rw [add_block]; exact hn702_3) | (show (Addr.add _ _).block ≠ _; rw [add_block]; exact hn702_3) | exact hn702_3) (.bool t699)).trans hx702_1
                                        replace hx702_2 := (cell_far (p := ⟨gb701, 3, none⟩) (by first | (rw [add_block]; exact hn702_3) | (show (Addr.add _ _).block ≠ _; rw [add_block]; exact hn702_3) | exact hn702_3) (.bool t699)).trans hx702_2
                                        replace hx702_3 := (cell_far (p := ⟨gb701, 3, none⟩) (by first | (rw [add_block]; exact hn702_3) | (show (Addr.add _ _).block ≠ _; rw [add_block]; exact hn702_3) | exact hn702_3) (.bool t699)).trans hx702_3
                                        (try have hy702_0 := fun (n_ : Nat) => (show ((((((w36.drewN n_).setCell ⟨gb701, 0, none⟩ (.int .i64 t696)).setCell ⟨gb701, 1, none⟩ (.int .i64 t697)).setCell ⟨gb701, 2, none⟩ (.int .i64 t698)).setCell ⟨gb701, 3, none⟩ (.bool t699))).cell? _ = some _ from hx702_0))
                                        (try have hy702_1 := fun (n_ : Nat) => (show ((((((w36.drewN n_).setCell ⟨gb701, 0, none⟩ (.int .i64 t696)).setCell ⟨gb701, 1, none⟩ (.int .i64 t697)).setCell ⟨gb701, 2, none⟩ (.int .i64 t698)).setCell ⟨gb701, 3, none⟩ (.bool t699))).cell? _ = some _ from hx702_1))
                                        (try have hy702_2 := fun (n_ : Nat) => (show ((((((w36.drewN n_).setCell ⟨gb701, 0, none⟩ (.int .i64 t696)).setCell ⟨gb701, 1, none⟩ (.int .i64 t697)).setCell ⟨gb701, 2, none⟩ (.int .i64 t698)).setCell ⟨gb701, 3, none⟩ (.bool t699))).cell? _ = some _ from hx702_2))
                                        (try have hy702_3 := fun (n_ : Nat) => (show ((((((w36.drewN n_).setCell ⟨gb701, 0, none⟩ (.int .i64 t696)).setCell ⟨gb701, 1, none⟩ (.int .i64 t697)).setCell ⟨gb701, 2, none⟩ (.int .i64 t698)).setCell ⟨gb701, 3, none⟩ (.bool t699))).cell? _ = some _ from hx702_3))
                                        clear hn702_0
                                        clear hn702_1
                                        clear hn702_2
                                        clear hn702_3
                                        replace p702 := eq_true p702
                                        replace q702 := eq_true q702
                                        have p703 : 0 ≤ (((rd_T76 t685 x8_2).f4) : Int) := of_decide_eq_true (by first | (with_reducible assumption) | assumption)
                                        have q703 : ((rd_T76 t685 x8_2).f4) < (l0.length : Int) := of_decide_eq_true (by first | (with_reducible assumption) | assumption)
                                        obtain ⟨ad703, e703, hx703_0, hx703_1, hx703_2, hx703_3⟩ := at_T31 HR0.out ((rd_T76 t685 x8_2).f4) p703 q703
                                        obtain rfl : ad702 = ad703 := (by injection e703)
                                        have hn703_0 : ad702.block ≠ gb701 := Nat.ne_of_lt (Nat.lt_of_lt_of_le (by have := World.block_lt_of_cell? _ _ hx703_0; first | rwa [add_block] at this | exact this) GW701.out)
                                        have hn703_1 : ad702.block ≠ gb701 := Nat.ne_of_lt (Nat.lt_of_lt_of_le (by have := World.block_lt_of_cell? _ _ hx703_0; first | rwa [add_block] at this | exact this) GW701.out)
                                        have hn703_2 : ad702.block ≠ gb701 := Nat.ne_of_lt (Nat.lt_of_lt_of_le (by have := World.block_lt_of_cell? _ _ hx703_0; first | rwa [add_block] at this | exact this) GW701.out)
                                        have hn703_3 : ad702.block ≠ gb701 := Nat.ne_of_lt (Nat.lt_of_lt_of_le (by have := World.block_lt_of_cell? _ _ hx703_0; first | rwa [add_block] at this | exact this) GW701.out)
                                        replace hx703_0 := (HB.out.cell (World.block_lt_of_cell? w _ hx703_0)).trans hx703_0
                                        replace hx703_1 := (HB.out.cell (World.block_lt_of_cell? w _ hx703_1)).trans hx703_1
                                        replace hx703_2 := (HB.out.cell (World.block_lt_of_cell? w _ hx703_2)).trans hx703_2
                                        replace hx703_3 := (HB.out.cell (World.block_lt_of_cell? w _ hx703_3)).trans hx703_3
                                        replace hx703_0 := (cell_far (p := ⟨gb701, 0, none⟩) (by first | (rw [add_block]; exact hn703_0) | (show (Addr.add _ _).block ≠ _; rw [add_block]; exact hn703_0) | exact hn703_0) (.int .i64 t696)).trans hx703_0
                                        replace hx703_1 := (cell_far (p := ⟨gb701, 0, none⟩) (by first | (rw [add_block]; exact hn703_0) | (show (Addr.add _ _).block ≠ _; rw [add_block]; exact hn703_0) | exact hn703_0) (.int .i64 t696)).trans hx703_1
                                        replace hx703_2 := (cell_far (p := ⟨gb701, 0, none⟩) (by first | (rw [add_block]; exact hn703_0) | (show (Addr.add _ _).block ≠ _; rw [add_block]; exact hn703_0) | exact hn703_0) (.int .i64 t696)).trans hx703_2
                                        replace hx703_3 := (cell_far (p := ⟨gb701, 0, none⟩) (by first | (rw [add_block]; exact hn703_0) | (show (Addr.add _ _).block ≠ _; rw [add_block]; exact hn703_0) | exact hn703_0) (.int .i64 t696)).trans hx703_3
                                        replace hx703_0 := (cell_far (p := ⟨gb701, 1, none⟩) (by first | (rw [add_block]; exact hn703_1) | (show (Addr.add _ _).block ≠ _; rw [add_block]; exact hn703_1) | exact hn703_1) (.int .i64 t697)).trans hx703_0
                                        replace hx703_1 := (cell_far (p := ⟨gb701, 1, none⟩) (by first | (rw [add_block]; exact hn703_1) | (show (Addr.add _ _).block ≠ _; rw [add_block]; exact hn703_1) | exact hn703_1) (.int .i64 t697)).trans hx703_1
                                        replace hx703_2 := (cell_far (p := ⟨gb701, 1, none⟩) (by first | (rw [add_block]; exact hn703_1) | (show (Addr.add _ _).block ≠ _; rw [add_block]; exact hn703_1) | exact hn703_1) (.int .i64 t697)).trans hx703_2
                                        replace hx703_3 := (cell_far (p := ⟨gb701, 1, none⟩) (by first | (rw [add_block]; exact hn703_1) | (show (Addr.add _ _).block ≠ _; rw [add_block]; exact hn703_1) | exact hn703_1) (.int .i64 t697)).trans hx703_3
                                        replace hx703_0 := (cell_far (p := ⟨gb701, 2, none⟩) (by first | (rw [add_block]; exact hn703_2) | (show (Addr.add _ _).block ≠ _; rw [add_block]; exact hn703_2) | exact hn703_2) (.int .i64 t698)).trans hx703_0
                                        replace hx703_1 := (cell_far (p := ⟨gb701, 2, none⟩) (by first | (rw [add_block]; exact hn703_2) | (show (Addr.add _ _).block ≠ _; rw [add_block]; exact hn703_2) | exact hn703_2) (.int .i64 t698)).trans hx703_1
                                        replace hx703_2 := (cell_far (p := ⟨gb701, 2, none⟩) (by first | (rw [add_block]; exact hn703_2) | (show (Addr.add _ _).block ≠ _; rw [add_block]; exact hn703_2) | exact hn703_2) (.int .i64 t698)).trans hx703_2
                                        replace hx703_3 := (cell_far (p := ⟨gb701, 2, none⟩) (by first | (rw [add_block]; exact hn703_2) | (show (Addr.add _ _).block ≠ _; rw [add_block]; exact hn703_2) | exact hn703_2) (.int .i64 t698)).trans hx703_3
                                        replace hx703_0 := (cell_far (p := ⟨gb701, 3, none⟩) (by first | (rw [add_block]; exact hn703_3) | (show (Addr.add _ _).block ≠ _; rw [add_block]; exact hn703_3) | exact hn703_3) (.bool t699)).trans hx703_0
                                        replace hx703_1 := (cell_far (p := ⟨gb701, 3, none⟩) (by first | (rw [add_block]; exact hn703_3) | (show (Addr.add _ _).block ≠ _; rw [add_block]; exact hn703_3) | exact hn703_3) (.bool t699)).trans hx703_1
                                        replace hx703_2 := (cell_far (p := ⟨gb701, 3, none⟩) (by first | (rw [add_block]; exact hn703_3) | (show (Addr.add _ _).block ≠ _; rw [add_block]; exact hn703_3) | exact hn703_3) (.bool t699)).trans hx703_2
                                        replace hx703_3 := (cell_far (p := ⟨gb701, 3, none⟩) (by first | (rw [add_block]; exact hn703_3) | (show (Addr.add _ _).block ≠ _; rw [add_block]; exact hn703_3) | exact hn703_3) (.bool t699)).trans hx703_3
                                        (try have hy703_0 := fun (n_ : Nat) => (show ((((((w36.drewN n_).setCell ⟨gb701, 0, none⟩ (.int .i64 t696)).setCell ⟨gb701, 1, none⟩ (.int .i64 t697)).setCell ⟨gb701, 2, none⟩ (.int .i64 t698)).setCell ⟨gb701, 3, none⟩ (.bool t699))).cell? _ = some _ from hx703_0))
                                        (try have hy703_1 := fun (n_ : Nat) => (show ((((((w36.drewN n_).setCell ⟨gb701, 0, none⟩ (.int .i64 t696)).setCell ⟨gb701, 1, none⟩ (.int .i64 t697)).setCell ⟨gb701, 2, none⟩ (.int .i64 t698)).setCell ⟨gb701, 3, none⟩ (.bool t699))).cell? _ = some _ from hx703_1))
                                        (try have hy703_2 := fun (n_ : Nat) => (show ((((((w36.drewN n_).setCell ⟨gb701, 0, none⟩ (.int .i64 t696)).setCell ⟨gb701, 1, none⟩ (.int .i64 t697)).setCell ⟨gb701, 2, none⟩ (.int .i64 t698)).setCell ⟨gb701, 3, none⟩ (.bool t699))).cell? _ = some _ from hx703_2))
                                        (try have hy703_3 := fun (n_ : Nat) => (show ((((((w36.drewN n_).setCell ⟨gb701, 0, none⟩ (.int .i64 t696)).setCell ⟨gb701, 1, none⟩ (.int .i64 t697)).setCell ⟨gb701, 2, none⟩ (.int .i64 t698)).setCell ⟨gb701, 3, none⟩ (.bool t699))).cell? _ = some _ from hx703_3))
                                        clear hn703_0
                                        clear hn703_1
                                        clear hn703_2
                                        clear hn703_3
                                        replace p703 := eq_true p703
                                        replace q703 := eq_true q703
                                        go_wp2
                                        repeat (go_quiet (fail); try go_wp2)
                                        go_meet
                                        case rel => exact ⟨_, (false), (by first | rfl | (simp; done) | (simp [*]; done)), H', ⟨by have := HJ4.out; have := HK2.out; have := HJ13.out; first | omega | exact Nat.le_refl _⟩, ⟨by (with_reducible repeat (first | apply Kd.R_alloc | apply Kd.R_drewN | apply Kd.R_drew)); exact Kd.R_mono (Kd.R_far (p := ⟨gb701, 3, none⟩) (Kd.R_far (p := ⟨gb701, 2, none⟩) (Kd.R_far (p := ⟨gb701, 1, none⟩) (Kd.R_far (p := ⟨gb701, 0, none⟩) (Kd.R_types HO_7.out BK701.out (by decide)) (fun _ hk => hk.2) (.int .i64 t696)) (fun _ hk => hk.2) (.int .i64 t697)) (fun _ hk => hk.2) (.int .i64 t698)) (fun _ hk => hk.2) (.bool t699)) (fun _ hk => hk.1)⟩, ⟨by (with_reducible repeat (first | refine blk_drewN ?_ _ | refine blk_drew ?_ | refine blk_alloc ?_ _)); refine blk_far ?_ NB689_701.out _; (with_reducible repeat (first | refine blk_drewN ?_ _ | refine blk_drew ?_ | refine blk_alloc ?_ _)); refine blk_far ?_ NB689_701.out _; (with_reducible repeat (first | refine blk_drewN ?_ _ | refine blk_drew ?_ | refine blk_alloc ?_ _)); refine blk_far ?_ NB689_701.out _; (with_reducible repeat (first | refine blk_drewN ?_ _ | refine blk_drew ?_ | refine blk_alloc ?_ _)); refine blk_far ?_ NB689_701.out _; (with_reducible repeat (first | refine blk_drewN ?_ _ | refine blk_drew ?_ | refine blk_alloc ?_ _)); exact BK689.out⟩, ⟨by (with_reducible repeat (first | refine blk_drewN ?_ _ | refine blk_drew ?_ | refine blk_alloc ?_ _)); refine blk_far ?_ NB695_701.out _; (with_reducible repeat (first | refine blk_drewN ?_ _ | refine blk_drew ?_ | refine blk_alloc ?_ _)); refine blk_far ?_ NB695_701.out _; (with_reducible repeat (first | refine blk_drewN ?_ _ | refine blk_drew ?_ | refine blk_alloc ?_ _)); refine blk_far ?_ NB695_701.out _; (with_reducible repeat (first | refine blk_drewN ?_ _ | refine blk_drew ?_ | refine blk_alloc ?_ _)); refine blk_far ?_ NB695_701.out _; (with_reducible repeat (first | refine blk_drewN ?_ _ | refine blk_drew ?_ | refine blk_alloc ?_ _)); exact BK695.out⟩, ⟨by (with_reducible repeat (first | refine blk_drewN ?_ _ | refine blk_drew ?_ | refine blk_alloc ?_ _)); refine blk_put (cs := #[.int .i64 t696, .int .i64 t697, .int .i64 t698, .bool false]) ?_ 3 _ rfl; (with_reducible repeat (first | refine blk_drewN ?_ _ | refine blk_drew ?_ | refine blk_alloc ?_ _)); refine blk_put (cs := #[.int .i64 t696, .int .i64 t697, .int .i64 0, .bool false]) ?_ 2 _ rfl; (with_reducible repeat (first | refine blk_drewN ?_ _ | refine blk_drew ?_ | refine blk_alloc ?_ _)); refine blk_put (cs := #[.int .i64 t696, .int .i64 0, .int .i64 0, .bool false]) ?_ 1 _ rfl; (with_reducible repeat (first | refine blk_drewN ?_ _ | refine blk_drew ?_ | refine blk_alloc ?_ _)); refine blk_put (cs := #[.int .i64 0, .int .i64 0, .int .i64 0, .bool false]) ?_ 0 _ rfl; (with_reducible repeat (first | refine blk_drewN ?_ _ | refine blk_drew ?_ | refine blk_alloc ?_ _)); exact BK701.out⟩, ⟨by repeat (first | (with_reducible first | exact HB.out | apply below_alloc | apply pw_below_drewN | apply below_drew1 | refine below_set ?_ GE689.out | refine below_set ?_ GE695.out | refine below_set ?_ GE701.out) | exact HB.out)⟩⟩
                                  · rw [if_neg c45] at H
                                    have c45b0 : (((rd_T31 l0 ((rd_T76 t685 x8_2).f3)).f3).toList == ((rd_T31 l0 ((rd_T76 t685 x8_2).f4)).f3).toList) = false := beq_eq_false_iff_ne.mpr c45
                                    have c45b1 : (((rd_T31 l0 ((rd_T76 t685 x8_2).f3)).f3).toList != ((rd_T31 l0 ((rd_T76 t685 x8_2).f4)).f3).toList) = true := bne_iff_ne.mpr c45
                                    have H' := Aside0.mk H
                                    clear H
                                    have hnb60 := NB689_695.out
                                    have hnc60 := NB695_689.out
                                    have hnb61 := NB689_701.out
                                    have hnc61 := NB701_689.out
                                    have hcz62_0 : w36.cell? ⟨gb689, 0, none⟩ = some (.int .i64 ((rd_T76 t685 x8_2).f0)) := (blk_cell BK689.out 0).trans rfl
                                    have hcz62_1 : w36.cell? ⟨gb689, 1, none⟩ = some (.int .i64 ((rd_T76 t685 x8_2).f1)) := (blk_cell BK689.out 1).trans rfl
                                    have hcz62_2 : w36.cell? ⟨gb689, 2, none⟩ = some (.int .i64 ((rd_T76 t685 x8_2).f2)) := (blk_cell BK689.out 2).trans rfl
                                    have hcz62_3 : w36.cell? ⟨gb689, 3, none⟩ = some (.int .i64 ((rd_T76 t685 x8_2).f3)) := (blk_cell BK689.out 3).trans rfl
                                    have hcz62_4 : w36.cell? ⟨gb689, 4, none⟩ = some (.int .i64 ((rd_T76 t685 x8_2).f4)) := (blk_cell BK689.out 4).trans rfl
                                    have hfz62_0 := blk_frozen BK689.out 0
                                    have hfz62_1 := blk_frozen BK689.out 1
                                    have hfz62_2 := blk_frozen BK689.out 2
                                    have hfz62_3 := blk_frozen BK689.out 3
                                    have hfz62_4 := blk_frozen BK689.out 4
                                    have p702 : 0 ≤ (((rd_T76 t685 x8_2).f3) : Int) := of_decide_eq_true (by first | (with_reducible assumption) | assumption)
                                    have q702 : ((rd_T76 t685 x8_2).f3) < (l0.length : Int) := of_decide_eq_true (by first | (with_reducible assumption) | assumption)
                                    obtain ⟨ad702, e702, hx702_0, hx702_1, hx702_2, hx702_3⟩ := at_T31 HR0.out ((rd_T76 t685 x8_2).f3) p702 q702
                                    cases e702
                                    have hn702_0 : ad702.block ≠ gb701 := Nat.ne_of_lt (Nat.lt_of_lt_of_le (by have := World.block_lt_of_cell? _ _ hx702_0; first | rwa [add_block] at this | exact this) GW701.out)
                                    have hn702_1 : ad702.block ≠ gb701 := Nat.ne_of_lt (Nat.lt_of_lt_of_le (by have := World.block_lt_of_cell? _ _ hx702_0; first | rwa [add_block] at this | exact this) GW701.out)
                                    have hn702_2 : ad702.block ≠ gb701 := Nat.ne_of_lt (Nat.lt_of_lt_of_le (by have := World.block_lt_of_cell? _ _ hx702_0; first | rwa [add_block] at this | exact this) GW701.out)
                                    have hn702_3 : ad702.block ≠ gb701 := Nat.ne_of_lt (Nat.lt_of_lt_of_le (by have := World.block_lt_of_cell? _ _ hx702_0; first | rwa [add_block] at this | exact this) GW701.out)
                                    replace hx702_0 := (HB.out.cell (World.block_lt_of_cell? w _ hx702_0)).trans hx702_0
                                    replace hx702_1 := (HB.out.cell (World.block_lt_of_cell? w _ hx702_1)).trans hx702_1
                                    replace hx702_2 := (HB.out.cell (World.block_lt_of_cell? w _ hx702_2)).trans hx702_2
                                    replace hx702_3 := (HB.out.cell (World.block_lt_of_cell? w _ hx702_3)).trans hx702_3
                                    replace hx702_0 := (cell_far (p := ⟨gb701, 0, none⟩) (by first | (rw [add_block]; exact hn702_0) | (show (Addr.add _ _).block ≠ _; rw [add_block]; exact hn702_0) | exact hn702_0) (.int .i64 t696)).trans hx702_0
                                    replace hx702_1 := (cell_far (p := ⟨gb701, 0, none⟩) (by first | (rw [add_block]; exact hn702_0) | (show (Addr.add _ _).block ≠ _; rw [add_block]; exact hn702_0) | exact hn702_0) (.int .i64 t696)).trans hx702_1
                                    replace hx702_2 := (cell_far (p := ⟨gb701, 0, none⟩) (by first | (rw [add_block]; exact hn702_0) | (show (Addr.add _ _).block ≠ _; rw [add_block]; exact hn702_0) | exact hn702_0) (.int .i64 t696)).trans hx702_2
                                    replace hx702_3 := (cell_far (p := ⟨gb701, 0, none⟩) (by first | (rw [add_block]; exact hn702_0) | (show (Addr.add _ _).block ≠ _; rw [add_block]; exact hn702_0) | exact hn702_0) (.int .i64 t696)).trans hx702_3
                                    replace hx702_0 := (cell_far (p := ⟨gb701, 1, none⟩) (by first | (rw [add_block]; exact hn702_1) | (show (Addr.add _ _).block ≠ _; rw [add_block]; exact hn702_1) | exact hn702_1) (.int .i64 t697)).trans hx702_0
                                    replace hx702_1 := (cell_far (p := ⟨gb701, 1, none⟩) (by first | (rw [add_block]; exact hn702_1) | (show (Addr.add _ _).block ≠ _; rw [add_block]; exact hn702_1) | exact hn702_1) (.int .i64 t697)).trans hx702_1
                                    replace hx702_2 := (cell_far (p := ⟨gb701, 1, none⟩) (by first | (rw [add_block]; exact hn702_1) | (show (Addr.add _ _).block ≠ _; rw [add_block]; exact hn702_1) | exact hn702_1) (.int .i64 t697)).trans hx702_2
                                    replace hx702_3 := (cell_far (p := ⟨gb701, 1, none⟩) (by first | (rw [add_block]; exact hn702_1) | (show (Addr.add _ _).block ≠ _; rw [add_block]; exact hn702_1) | exact hn702_1) (.int .i64 t697)).trans hx702_3
                                    replace hx702_0 := (cell_far (p := ⟨gb701, 2, none⟩) (by first | (rw [add_block]; exact hn702_2) | (show (Addr.add _ _).block ≠ _; rw [add_block]; exact hn702_2) | exact hn702_2) (.int .i64 t698)).trans hx702_0
                                    replace hx702_1 := (cell_far (p := ⟨gb701, 2, none⟩) (by first | (rw [add_block]; exact hn702_2) | (show (Addr.add _ _).block ≠ _; rw [add_block]; exact hn702_2) | exact hn702_2) (.int .i64 t698)).trans hx702_1
                                    replace hx702_2 := (cell_far (p := ⟨gb701, 2, none⟩) (by first | (rw [add_block]; exact hn702_2) | (show (Addr.add _ _).block ≠ _; rw [add_block]; exact hn702_2) | exact hn702_2) (.int .i64 t698)).trans hx702_2
                                    replace hx702_3 := (cell_far (p := ⟨gb701, 2, none⟩) (by first | (rw [add_block]; exact hn702_2) | (show (Addr.add _ _).block ≠ _; rw [add_block]; exact hn702_2) | exact hn702_2) (.int .i64 t698)).trans hx702_3
                                    replace hx702_0 := (cell_far (p := ⟨gb701, 3, none⟩) (by first | (rw [add_block]; exact hn702_3) | (show (Addr.add _ _).block ≠ _; rw [add_block]; exact hn702_3) | exact hn702_3) (.bool t699)).trans hx702_0
                                    replace hx702_1 := (cell_far (p := ⟨gb701, 3, none⟩) (by first | (rw [add_block]; exact hn702_3) | (show (Addr.add _ _).block ≠ _; rw [add_block]; exact hn702_3) | exact hn702_3) (.bool t699)).trans hx702_1
                                    replace hx702_2 := (cell_far (p := ⟨gb701, 3, none⟩) (by first | (rw [add_block]; exact hn702_3) | (show (Addr.add _ _).block ≠ _; rw [add_block]; exact hn702_3) | exact hn702_3) (.bool t699)).trans hx702_2
                                    replace hx702_3 := (cell_far (p := ⟨gb701, 3, none⟩) (by first | (rw [add_block]; exact hn702_3) | (show (Addr.add _ _).block ≠ _; rw [add_block]; exact hn702_3) | exact hn702_3) (.bool t699)).trans hx702_3
                                    (try have hy702_0 := fun (n_ : Nat) => (show ((((((w36.drewN n_).setCell ⟨gb701, 0, none⟩ (.int .i64 t696)).setCell ⟨gb701, 1, none⟩ (.int .i64 t697)).setCell ⟨gb701, 2, none⟩ (.int .i64 t698)).setCell ⟨gb701, 3, none⟩ (.bool t699))).cell? _ = some _ from hx702_0))
                                    (try have hy702_1 := fun (n_ : Nat) => (show ((((((w36.drewN n_).setCell ⟨gb701, 0, none⟩ (.int .i64 t696)).setCell ⟨gb701, 1, none⟩ (.int .i64 t697)).setCell ⟨gb701, 2, none⟩ (.int .i64 t698)).setCell ⟨gb701, 3, none⟩ (.bool t699))).cell? _ = some _ from hx702_1))
                                    (try have hy702_2 := fun (n_ : Nat) => (show ((((((w36.drewN n_).setCell ⟨gb701, 0, none⟩ (.int .i64 t696)).setCell ⟨gb701, 1, none⟩ (.int .i64 t697)).setCell ⟨gb701, 2, none⟩ (.int .i64 t698)).setCell ⟨gb701, 3, none⟩ (.bool t699))).cell? _ = some _ from hx702_2))
                                    (try have hy702_3 := fun (n_ : Nat) => (show ((((((w36.drewN n_).setCell ⟨gb701, 0, none⟩ (.int .i64 t696)).setCell ⟨gb701, 1, none⟩ (.int .i64 t697)).setCell ⟨gb701, 2, none⟩ (.int .i64 t698)).setCell ⟨gb701, 3, none⟩ (.bool t699))).cell? _ = some _ from hx702_3))
                                    clear hn702_0
                                    clear hn702_1
                                    clear hn702_2
                                    clear hn702_3
                                    replace p702 := eq_true p702
                                    replace q702 := eq_true q702
                                    have p703 : 0 ≤ (((rd_T76 t685 x8_2).f4) : Int) := of_decide_eq_true (by first | (with_reducible assumption) | assumption)
                                    have q703 : ((rd_T76 t685 x8_2).f4) < (l0.length : Int) := of_decide_eq_true (by first | (with_reducible assumption) | assumption)
                                    obtain ⟨ad703, e703, hx703_0, hx703_1, hx703_2, hx703_3⟩ := at_T31 HR0.out ((rd_T76 t685 x8_2).f4) p703 q703
                                    obtain rfl : ad702 = ad703 := (by injection e703)
                                    have hn703_0 : ad702.block ≠ gb701 := Nat.ne_of_lt (Nat.lt_of_lt_of_le (by have := World.block_lt_of_cell? _ _ hx703_0; first | rwa [add_block] at this | exact this) GW701.out)
                                    have hn703_1 : ad702.block ≠ gb701 := Nat.ne_of_lt (Nat.lt_of_lt_of_le (by have := World.block_lt_of_cell? _ _ hx703_0; first | rwa [add_block] at this | exact this) GW701.out)
                                    have hn703_2 : ad702.block ≠ gb701 := Nat.ne_of_lt (Nat.lt_of_lt_of_le (by have := World.block_lt_of_cell? _ _ hx703_0; first | rwa [add_block] at this | exact this) GW701.out)
                                    have hn703_3 : ad702.block ≠ gb701 := Nat.ne_of_lt (Nat.lt_of_lt_of_le (by have := World.block_lt_of_cell? _ _ hx703_0; first | rwa [add_block] at this | exact this) GW701.out)
                                    replace hx703_0 := (HB.out.cell (World.block_lt_of_cell? w _ hx703_0)).trans hx703_0
                                    replace hx703_1 := (HB.out.cell (World.block_lt_of_cell? w _ hx703_1)).trans hx703_1
                                    replace hx703_2 := (HB.out.cell (World.block_lt_of_cell? w _ hx703_2)).trans hx703_2
                                    replace hx703_3 := (HB.out.cell (World.block_lt_of_cell? w _ hx703_3)).trans hx703_3
                                    replace hx703_0 := (cell_far (p := ⟨gb701, 0, none⟩) (by first | (rw [add_block]; exact hn703_0) | (show (Addr.add _ _).block ≠ _; rw [add_block]; exact hn703_0) | exact hn703_0) (.int .i64 t696)).trans hx703_0
                                    replace hx703_1 := (cell_far (p := ⟨gb701, 0, none⟩) (by first | (rw [add_block]; exact hn703_0) | (show (Addr.add _ _).block ≠ _; rw [add_block]; exact hn703_0) | exact hn703_0) (.int .i64 t696)).trans hx703_1
                                    replace hx703_2 := (cell_far (p := ⟨gb701, 0, none⟩) (by first | (rw [add_block]; exact hn703_0) | (show (Addr.add _ _).block ≠ _; rw [add_block]; exact hn703_0) | exact hn703_0) (.int .i64 t696)).trans hx703_2
                                    replace hx703_3 := (cell_far (p := ⟨gb701, 0, none⟩) (by first | (rw [add_block]; exact hn703_0) | (show (Addr.add _ _).block ≠ _; rw [add_block]; exact hn703_0) | exact hn703_0) (.int .i64 t696)).trans hx703_3
                                    replace hx703_0 := (cell_far (p := ⟨gb701, 1, none⟩) (by first | (rw [add_block]; exact hn703_1) | (show (Addr.add _ _).block ≠ _; rw [add_block]; exact hn703_1) | exact hn703_1) (.int .i64 t697)).trans hx703_0
                                    replace hx703_1 := (cell_far (p := ⟨gb701, 1, none⟩) (by first | (rw [add_block]; exact hn703_1) | (show (Addr.add _ _).block ≠ _; rw [add_block]; exact hn703_1) | exact hn703_1) (.int .i64 t697)).trans hx703_1
                                    replace hx703_2 := (cell_far (p := ⟨gb701, 1, none⟩) (by first | (rw [add_block]; exact hn703_1) | (show (Addr.add _ _).block ≠ _; rw [add_block]; exact hn703_1) | exact hn703_1) (.int .i64 t697)).trans hx703_2
                                    replace hx703_3 := (cell_far (p := ⟨gb701, 1, none⟩) (by first | (rw [add_block]; exact hn703_1) | (show (Addr.add _ _).block ≠ _; rw [add_block]; exact hn703_1) | exact hn703_1) (.int .i64 t697)).trans hx703_3
                                    replace hx703_0 := (cell_far (p := ⟨gb701, 2, none⟩) (by first | (rw [add_block]; exact hn703_2) | (show (Addr.add _ _).block ≠ _; rw [add_block]; exact hn703_2) | exact hn703_2) (.int .i64 t698)).trans hx703_0
                                    replace hx703_1 := (cell_far (p := ⟨gb701, 2, none⟩) (by first | (rw [add_block]; exact hn703_2) | (show (Addr.add _ _).block ≠ _; rw [add_block]; exact hn703_2) | exact hn703_2) (.int .i64 t698)).trans hx703_1
                                    replace hx703_2 := (cell_far (p := ⟨gb701, 2, none⟩) (by first | (rw [add_block]; exact hn703_2) | (show (Addr.add _ _).block ≠ _; rw [add_block]; exact hn703_2) | exact hn703_2) (.int .i64 t698)).trans hx703_2
                                    replace hx703_3 := (cell_far (p := ⟨gb701, 2, none⟩) (by first | (rw [add_block]; exact hn703_2) | (show (Addr.add _ _).block ≠ _; rw [add_block]; exact hn703_2) | exact hn703_2) (.int .i64 t698)).trans hx703_3
                                    replace hx703_0 := (cell_far (p := ⟨gb701, 3, none⟩) (by first | (rw [add_block]; exact hn703_3) | (show (Addr.add _ _).block ≠ _; rw [add_block]; exact hn703_3) | exact hn703_3) (.bool t699)).trans hx703_0
                                    replace hx703_1 := (cell_far (p := ⟨gb701, 3, none⟩) (by first | (rw [add_block]; exact hn703_3) | (show (Addr.add _ _).block ≠ _; rw [add_block]; exact hn703_3) | exact hn703_3) (.bool t699)).trans hx703_1
                                    replace hx703_2 := (cell_far (p := ⟨gb701, 3, none⟩) (by first | (rw [add_block]; exact hn703_3) | (show (Addr.add _ _).block ≠ _; rw [add_block]; exact hn703_3) | exact hn703_3) (.bool t699)).trans hx703_2
                                    replace hx703_3 := (cell_far (p := ⟨gb701, 3, none⟩) (by first | (rw [add_block]; exact hn703_3) | (show (Addr.add _ _).block ≠ _; rw [add_block]; exact hn703_3) | exact hn703_3) (.bool t699)).trans hx703_3
                                    (try have hy703_0 := fun (n_ : Nat) => (show ((((((w36.drewN n_).setCell ⟨gb701, 0, none⟩ (.int .i64 t696)).setCell ⟨gb701, 1, none⟩ (.int .i64 t697)).setCell ⟨gb701, 2, none⟩ (.int .i64 t698)).setCell ⟨gb701, 3, none⟩ (.bool t699))).cell? _ = some _ from hx703_0))
                                    (try have hy703_1 := fun (n_ : Nat) => (show ((((((w36.drewN n_).setCell ⟨gb701, 0, none⟩ (.int .i64 t696)).setCell ⟨gb701, 1, none⟩ (.int .i64 t697)).setCell ⟨gb701, 2, none⟩ (.int .i64 t698)).setCell ⟨gb701, 3, none⟩ (.bool t699))).cell? _ = some _ from hx703_1))
                                    (try have hy703_2 := fun (n_ : Nat) => (show ((((((w36.drewN n_).setCell ⟨gb701, 0, none⟩ (.int .i64 t696)).setCell ⟨gb701, 1, none⟩ (.int .i64 t697)).setCell ⟨gb701, 2, none⟩ (.int .i64 t698)).setCell ⟨gb701, 3, none⟩ (.bool t699))).cell? _ = some _ from hx703_2))
                                    (try have hy703_3 := fun (n_ : Nat) => (show ((((((w36.drewN n_).setCell ⟨gb701, 0, none⟩ (.int .i64 t696)).setCell ⟨gb701, 1, none⟩ (.int .i64 t697)).setCell ⟨gb701, 2, none⟩ (.int .i64 t698)).setCell ⟨gb701, 3, none⟩ (.bool t699))).cell? _ = some _ from hx703_3))
                                    clear hn703_0
                                    clear hn703_1
                                    clear hn703_2
                                    clear hn703_3
                                    replace p703 := eq_true p703
                                    replace q703 := eq_true q703
                                    go_wp2
                                    repeat (go_quiet (fail); try go_wp2)
                                    go_meet
                                    case rel => exact ⟨_, (true), (by first | rfl | (simp; done) | (simp [*]; done)), H', ⟨by have := HJ4.out; have := HK2.out; have := HJ13.out; first | omega | exact Nat.le_refl _⟩, ⟨by (with_reducible repeat (first | apply Kd.R_alloc | apply Kd.R_drewN | apply Kd.R_drew)); exact Kd.R_mono (Kd.R_far (p := ⟨gb701, 3, none⟩) (Kd.R_far (p := ⟨gb701, 2, none⟩) (Kd.R_far (p := ⟨gb701, 1, none⟩) (Kd.R_far (p := ⟨gb701, 0, none⟩) (Kd.R_types HO_7.out BK701.out (by decide)) (fun _ hk => hk.2) (.int .i64 t696)) (fun _ hk => hk.2) (.int .i64 t697)) (fun _ hk => hk.2) (.int .i64 t698)) (fun _ hk => hk.2) (.bool t699)) (fun _ hk => hk.1)⟩, ⟨by (with_reducible repeat (first | refine blk_drewN ?_ _ | refine blk_drew ?_ | refine blk_alloc ?_ _)); refine blk_far ?_ NB689_701.out _; (with_reducible repeat (first | refine blk_drewN ?_ _ | refine blk_drew ?_ | refine blk_alloc ?_ _)); refine blk_far ?_ NB689_701.out _; (with_reducible repeat (first | refine blk_drewN ?_ _ | refine blk_drew ?_ | refine blk_alloc ?_ _)); refine blk_far ?_ NB689_701.out _; (with_reducible repeat (first | refine blk_drewN ?_ _ | refine blk_drew ?_ | refine blk_alloc ?_ _)); refine blk_far ?_ NB689_701.out _; (with_reducible repeat (first | refine blk_drewN ?_ _ | refine blk_drew ?_ | refine blk_alloc ?_ _)); exact BK689.out⟩, ⟨by (with_reducible repeat (first | refine blk_drewN ?_ _ | refine blk_drew ?_ | refine blk_alloc ?_ _)); refine blk_far ?_ NB695_701.out _; (with_reducible repeat (first | refine blk_drewN ?_ _ | refine blk_drew ?_ | refine blk_alloc ?_ _)); refine blk_far ?_ NB695_701.out _; (with_reducible repeat (first | refine blk_drewN ?_ _ | refine blk_drew ?_ | refine blk_alloc ?_ _)); refine blk_far ?_ NB695_701.out _; (with_reducible repeat (first | refine blk_drewN ?_ _ | refine blk_drew ?_ | refine blk_alloc ?_ _)); refine blk_far ?_ NB695_701.out _; (with_reducible repeat (first | refine blk_drewN ?_ _ | refine blk_drew ?_ | refine blk_alloc ?_ _)); exact BK695.out⟩, ⟨by (with_reducible repeat (first | refine blk_drewN ?_ _ | refine blk_drew ?_ | refine blk_alloc ?_ _)); refine blk_put (cs := #[.int .i64 t696, .int .i64 t697, .int .i64 t698, .bool false]) ?_ 3 _ rfl; (with_reducible repeat (first | refine blk_drewN ?_ _ | refine blk_drew ?_ | refine blk_alloc ?_ _)); refine blk_put (cs := #[.int .i64 t696, .int .i64 t697, .int .i64 0, .bool false]) ?_ 2 _ rfl; (with_reducible repeat (first | refine blk_drewN ?_ _ | refine blk_drew ?_ | refine blk_alloc ?_ _)); refine blk_put (cs := #[.int .i64 t696, .int .i64 0, .int .i64 0, .bool false]) ?_ 1 _ rfl; (with_reducible repeat (first | refine blk_drewN ?_ _ | refine blk_drew ?_ | refine blk_alloc ?_ _)); refine blk_put (cs := #[.int .i64 0, .int .i64 0, .int .i64 0, .bool false]) ?_ 0 _ rfl; (with_reducible repeat (first | refine blk_drewN ?_ _ | refine blk_drew ?_ | refine blk_alloc ?_ _)); exact BK701.out⟩, ⟨by repeat (first | (with_reducible first | exact HB.out | apply below_alloc | apply pw_below_drewN | apply below_drew1 | refine below_set ?_ GE689.out | refine below_set ?_ GE695.out | refine below_set ?_ GE701.out) | exact HB.out)⟩⟩
                                · rw [if_neg c44] at H
                                  exact absurd H (by simp)
                              · rw [if_neg c43] at H
                                exact absurd H (by simp)
                            · rw [if_neg c42] at H
                              exact absurd H (by simp)
                          · rw [if_neg c41] at H
                            exact absurd H (by simp)
                        · rw [if_neg c40] at H
                          have c40b0 : (((rd_T76 t685 x8_2).f0) == 2) = false := beq_eq_false_iff_ne.mpr c40
                          have c40b1 : (((rd_T76 t685 x8_2).f0) != 2) = true := bne_iff_ne.mpr c40
                          (first | rw [c40b0] | (simp only [i64_w, i32_w]; rw [c40b0]) | skip)
                          by_cases c63 : ((rd_T76 t685 x8_2).f0) = 3
                          · rw [if_pos c63] at H
                            have c63b0 : (((rd_T76 t685 x8_2).f0) == 3) = true := beq_iff_eq.mpr c63
                            have c63b1 : (((rd_T76 t685 x8_2).f0) != 3) = false := bne_eq_false_iff_eq.mpr c63
                            clear c63
                            by_cases c64 : 0 ≤ ((rd_T76 t685 x8_2).f3)
                            · rw [if_pos c64] at H
                              have c64b0 : decide (0 ≤ ((rd_T76 t685 x8_2).f3)) = true := decide_eq_true c64
                              clear c64
                              by_cases c65 : ((rd_T76 t685 x8_2).f3) < (l0.length : Int)
                              · rw [if_pos c65] at H
                                have c65b0 : decide (((rd_T76 t685 x8_2).f3) < (l0.length : Int)) = true := decide_eq_true c65
                                clear c65
                                by_cases c66 : 0 ≤ ((rd_T76 t685 x8_2).f4)
                                · rw [if_pos c66] at H
                                  have c66b0 : decide (0 ≤ ((rd_T76 t685 x8_2).f4)) = true := decide_eq_true c66
                                  clear c66
                                  by_cases c67 : ((rd_T76 t685 x8_2).f4) < (l0.length : Int)
                                  · rw [if_pos c67] at H
                                    have c67b0 : decide (((rd_T76 t685 x8_2).f4) < (l0.length : Int)) = true := decide_eq_true c67
                                    clear c67
                                    by_cases c68 : ((rd_T31 l0 ((rd_T76 t685 x8_2).f3)).f3).toList = ((rd_T31 l0 ((rd_T76 t685 x8_2).f4)).f3).toList
                                    · rw [if_pos c68] at H
                                      have c68b0 : (((rd_T31 l0 ((rd_T76 t685 x8_2).f3)).f3).toList == ((rd_T31 l0 ((rd_T76 t685 x8_2).f4)).f3).toList) = true := beq_iff_eq.mpr c68
                                      have c68b1 : (((rd_T31 l0 ((rd_T76 t685 x8_2).f3)).f3).toList != ((rd_T31 l0 ((rd_T76 t685 x8_2).f4)).f3).toList) = false := bne_eq_false_iff_eq.mpr c68
                                      clear c68
                                      have H' := Aside0.mk H
                                      clear H
                                      have hnb69 := NB689_695.out
                                      have hnc69 := NB695_689.out
                                      have hnb70 := NB689_701.out
                                      have hnc70 := NB701_689.out
                                      have hcz71_0 : w36.cell? ⟨gb689, 0, none⟩ = some (.int .i64 ((rd_T76 t685 x8_2).f0)) := (blk_cell BK689.out 0).trans rfl
                                      have hcz71_1 : w36.cell? ⟨gb689, 1, none⟩ = some (.int .i64 ((rd_T76 t685 x8_2).f1)) := (blk_cell BK689.out 1).trans rfl
                                      have hcz71_2 : w36.cell? ⟨gb689, 2, none⟩ = some (.int .i64 ((rd_T76 t685 x8_2).f2)) := (blk_cell BK689.out 2).trans rfl
                                      have hcz71_3 : w36.cell? ⟨gb689, 3, none⟩ = some (.int .i64 ((rd_T76 t685 x8_2).f3)) := (blk_cell BK689.out 3).trans rfl
                                      have hcz71_4 : w36.cell? ⟨gb689, 4, none⟩ = some (.int .i64 ((rd_T76 t685 x8_2).f4)) := (blk_cell BK689.out 4).trans rfl
                                      have hfz71_0 := blk_frozen BK689.out 0
                                      have hfz71_1 := blk_frozen BK689.out 1
                                      have hfz71_2 := blk_frozen BK689.out 2
                                      have hfz71_3 := blk_frozen BK689.out 3
                                      have hfz71_4 := blk_frozen BK689.out 4
                                      have p706 : 0 ≤ (((rd_T76 t685 x8_2).f3) : Int) := of_decide_eq_true (by first | (with_reducible assumption) | assumption)
                                      have q706 : ((rd_T76 t685 x8_2).f3) < (l0.length : Int) := of_decide_eq_true (by first | (with_reducible assumption) | assumption)
                                      obtain ⟨ad706, e706, hx706_0, hx706_1, hx706_2, hx706_3⟩ := at_T31 HR0.out ((rd_T76 t685 x8_2).f3) p706 q706
                                      cases e706
                                      have hn706_0 : ad706.block ≠ gb701 := Nat.ne_of_lt (Nat.lt_of_lt_of_le (by have := World.block_lt_of_cell? _ _ hx706_0; first | rwa [add_block] at this | exact this) GW701.out)
                                      have hn706_1 : ad706.block ≠ gb701 := Nat.ne_of_lt (Nat.lt_of_lt_of_le (by have := World.block_lt_of_cell? _ _ hx706_0; first | rwa [add_block] at this | exact this) GW701.out)
                                      have hn706_2 : ad706.block ≠ gb701 := Nat.ne_of_lt (Nat.lt_of_lt_of_le (by have := World.block_lt_of_cell? _ _ hx706_0; first | rwa [add_block] at this | exact this) GW701.out)
                                      have hn706_3 : ad706.block ≠ gb701 := Nat.ne_of_lt (Nat.lt_of_lt_of_le (by have := World.block_lt_of_cell? _ _ hx706_0; first | rwa [add_block] at this | exact this) GW701.out)
                                      replace hx706_0 := (HB.out.cell (World.block_lt_of_cell? w _ hx706_0)).trans hx706_0
                                      replace hx706_1 := (HB.out.cell (World.block_lt_of_cell? w _ hx706_1)).trans hx706_1
                                      replace hx706_2 := (HB.out.cell (World.block_lt_of_cell? w _ hx706_2)).trans hx706_2
                                      replace hx706_3 := (HB.out.cell (World.block_lt_of_cell? w _ hx706_3)).trans hx706_3
                                      replace hx706_0 := (cell_far (p := ⟨gb701, 0, none⟩) (by first | (rw [add_block]; exact hn706_0) | (show (Addr.add _ _).block ≠ _; rw [add_block]; exact hn706_0) | exact hn706_0) (.int .i64 t696)).trans hx706_0
                                      replace hx706_1 := (cell_far (p := ⟨gb701, 0, none⟩) (by first | (rw [add_block]; exact hn706_0) | (show (Addr.add _ _).block ≠ _; rw [add_block]; exact hn706_0) | exact hn706_0) (.int .i64 t696)).trans hx706_1
                                      replace hx706_2 := (cell_far (p := ⟨gb701, 0, none⟩) (by first | (rw [add_block]; exact hn706_0) | (show (Addr.add _ _).block ≠ _; rw [add_block]; exact hn706_0) | exact hn706_0) (.int .i64 t696)).trans hx706_2
                                      replace hx706_3 := (cell_far (p := ⟨gb701, 0, none⟩) (by first | (rw [add_block]; exact hn706_0) | (show (Addr.add _ _).block ≠ _; rw [add_block]; exact hn706_0) | exact hn706_0) (.int .i64 t696)).trans hx706_3
                                      replace hx706_0 := (cell_far (p := ⟨gb701, 1, none⟩) (by first | (rw [add_block]; exact hn706_1) | (show (Addr.add _ _).block ≠ _; rw [add_block]; exact hn706_1) | exact hn706_1) (.int .i64 t697)).trans hx706_0
                                      replace hx706_1 := (cell_far (p := ⟨gb701, 1, none⟩) (by first | (rw [add_block]; exact hn706_1) | (show (Addr.add _ _).block ≠ _; rw [add_block]; exact hn706_1) | exact hn706_1) (.int .i64 t697)).trans hx706_1
                                      replace hx706_2 := (cell_far (p := ⟨gb701, 1, none⟩) (by first | (rw [add_block]; exact hn706_1) | (show (Addr.add _ _).block ≠ _; rw [add_block]; exact hn706_1) | exact hn706_1) (.int .i64 t697)).trans hx706_2
                                      replace hx706_3 := (cell_far (p := ⟨gb701, 1, none⟩) (by first | (rw [add_block]; exact hn706_1) | (show (Addr.add _ _).block ≠ _; rw [add_block]; exact hn706_1) | exact hn706_1) (.int .i64 t697)).trans hx706_3
                                      replace hx706_0 := (cell_far (p := ⟨gb701, 2, none⟩) (by first | (rw [add_block]; exact hn706_2) | (show (Addr.add _ _).block ≠ _; rw [add_block]; exact hn706_2) | exact hn706_2) (.int .i64 t698)).trans hx706_0
                                      replace hx706_1 := (cell_far (p := ⟨gb701, 2, none⟩) (by first | (rw [add_block]; exact hn706_2) | (show (Addr.add _ _).block ≠ _; rw [add_block]; exact hn706_2) | exact hn706_2) (.int .i64 t698)).trans hx706_1
                                      replace hx706_2 := (cell_far (p := ⟨gb701, 2, none⟩) (by first | (rw [add_block]; exact hn706_2) | (show (Addr.add _ _).block ≠ _; rw [add_block]; exact hn706_2) | exact hn706_2) (.int .i64 t698)).trans hx706_2
                                      replace hx706_3 := (cell_far (p := ⟨gb701, 2, none⟩) (by first | (rw [add_block]; exact hn706_2) | (show (Addr.add _ _).block ≠ _; rw [add_block]; exact hn706_2) | exact hn706_2) (.int .i64 t698)).trans hx706_3
                                      replace hx706_0 := (cell_far (p := ⟨gb701, 3, none⟩) (by first | (rw [add_block]; exact hn706_3) | (show (Addr.add _ _).block ≠ _; rw [add_block]; exact hn706_3) | exact hn706_3) (.bool t699)).trans hx706_0
                                      replace hx706_1 := (cell_far (p := ⟨gb701, 3, none⟩) (by first | (rw [add_block]; exact hn706_3) | (show (Addr.add _ _).block ≠ _; rw [add_block]; exact hn706_3) | exact hn706_3) (.bool t699)).trans hx706_1
                                      replace hx706_2 := (cell_far (p := ⟨gb701, 3, none⟩) (by first | (rw [add_block]; exact hn706_3) | (show (Addr.add _ _).block ≠ _; rw [add_block]; exact hn706_3) | exact hn706_3) (.bool t699)).trans hx706_2
                                      replace hx706_3 := (cell_far (p := ⟨gb701, 3, none⟩) (by first | (rw [add_block]; exact hn706_3) | (show (Addr.add _ _).block ≠ _; rw [add_block]; exact hn706_3) | exact hn706_3) (.bool t699)).trans hx706_3
                                      (try have hy706_0 := fun (n_ : Nat) => (show ((((((w36.drewN n_).setCell ⟨gb701, 0, none⟩ (.int .i64 t696)).setCell ⟨gb701, 1, none⟩ (.int .i64 t697)).setCell ⟨gb701, 2, none⟩ (.int .i64 t698)).setCell ⟨gb701, 3, none⟩ (.bool t699))).cell? _ = some _ from hx706_0))
                                      (try have hy706_1 := fun (n_ : Nat) => (show ((((((w36.drewN n_).setCell ⟨gb701, 0, none⟩ (.int .i64 t696)).setCell ⟨gb701, 1, none⟩ (.int .i64 t697)).setCell ⟨gb701, 2, none⟩ (.int .i64 t698)).setCell ⟨gb701, 3, none⟩ (.bool t699))).cell? _ = some _ from hx706_1))
                                      (try have hy706_2 := fun (n_ : Nat) => (show ((((((w36.drewN n_).setCell ⟨gb701, 0, none⟩ (.int .i64 t696)).setCell ⟨gb701, 1, none⟩ (.int .i64 t697)).setCell ⟨gb701, 2, none⟩ (.int .i64 t698)).setCell ⟨gb701, 3, none⟩ (.bool t699))).cell? _ = some _ from hx706_2))
                                      (try have hy706_3 := fun (n_ : Nat) => (show ((((((w36.drewN n_).setCell ⟨gb701, 0, none⟩ (.int .i64 t696)).setCell ⟨gb701, 1, none⟩ (.int .i64 t697)).setCell ⟨gb701, 2, none⟩ (.int .i64 t698)).setCell ⟨gb701, 3, none⟩ (.bool t699))).cell? _ = some _ from hx706_3))
                                      clear hn706_0
                                      clear hn706_1
                                      clear hn706_2
                                      clear hn706_3
                                      replace p706 := eq_true p706
                                      replace q706 := eq_true q706
                                      have p707 : 0 ≤ (((rd_T76 t685 x8_2).f4) : Int) := of_decide_eq_true (by first | (with_reducible assumption) | assumption)
                                      have q707 : ((rd_T76 t685 x8_2).f4) < (l0.length : Int) := of_decide_eq_true (by first | (with_reducible assumption) | assumption)
                                      obtain ⟨ad707, e707, hx707_0, hx707_1, hx707_2, hx707_3⟩ := at_T31 HR0.out ((rd_T76 t685 x8_2).f4) p707 q707
                                      obtain rfl : ad706 = ad707 := (by injection e707)
                                      have hn707_0 : ad706.block ≠ gb701 := Nat.ne_of_lt (Nat.lt_of_lt_of_le (by have := World.block_lt_of_cell? _ _ hx707_0; first | rwa [add_block] at this | exact this) GW701.out)
                                      have hn707_1 : ad706.block ≠ gb701 := Nat.ne_of_lt (Nat.lt_of_lt_of_le (by have := World.block_lt_of_cell? _ _ hx707_0; first | rwa [add_block] at this | exact this) GW701.out)
                                      have hn707_2 : ad706.block ≠ gb701 := Nat.ne_of_lt (Nat.lt_of_lt_of_le (by have := World.block_lt_of_cell? _ _ hx707_0; first | rwa [add_block] at this | exact this) GW701.out)
                                      have hn707_3 : ad706.block ≠ gb701 := Nat.ne_of_lt (Nat.lt_of_lt_of_le (by have := World.block_lt_of_cell? _ _ hx707_0; first | rwa [add_block] at this | exact this) GW701.out)
                                      replace hx707_0 := (HB.out.cell (World.block_lt_of_cell? w _ hx707_0)).trans hx707_0
                                      replace hx707_1 := (HB.out.cell (World.block_lt_of_cell? w _ hx707_1)).trans hx707_1
                                      replace hx707_2 := (HB.out.cell (World.block_lt_of_cell? w _ hx707_2)).trans hx707_2
                                      replace hx707_3 := (HB.out.cell (World.block_lt_of_cell? w _ hx707_3)).trans hx707_3
                                      replace hx707_0 := (cell_far (p := ⟨gb701, 0, none⟩) (by first | (rw [add_block]; exact hn707_0) | (show (Addr.add _ _).block ≠ _; rw [add_block]; exact hn707_0) | exact hn707_0) (.int .i64 t696)).trans hx707_0
                                      replace hx707_1 := (cell_far (p := ⟨gb701, 0, none⟩) (by first | (rw [add_block]; exact hn707_0) | (show (Addr.add _ _).block ≠ _; rw [add_block]; exact hn707_0) | exact hn707_0) (.int .i64 t696)).trans hx707_1
                                      replace hx707_2 := (cell_far (p := ⟨gb701, 0, none⟩) (by first | (rw [add_block]; exact hn707_0) | (show (Addr.add _ _).block ≠ _; rw [add_block]; exact hn707_0) | exact hn707_0) (.int .i64 t696)).trans hx707_2
                                      replace hx707_3 := (cell_far (p := ⟨gb701, 0, none⟩) (by first | (rw [add_block]; exact hn707_0) | (show (Addr.add _ _).block ≠ _; rw [add_block]; exact hn707_0) | exact hn707_0) (.int .i64 t696)).trans hx707_3
                                      replace hx707_0 := (cell_far (p := ⟨gb701, 1, none⟩) (by first | (rw [add_block]; exact hn707_1) | (show (Addr.add _ _).block ≠ _; rw [add_block]; exact hn707_1) | exact hn707_1) (.int .i64 t697)).trans hx707_0
                                      replace hx707_1 := (cell_far (p := ⟨gb701, 1, none⟩) (by first | (rw [add_block]; exact hn707_1) | (show (Addr.add _ _).block ≠ _; rw [add_block]; exact hn707_1) | exact hn707_1) (.int .i64 t697)).trans hx707_1
                                      replace hx707_2 := (cell_far (p := ⟨gb701, 1, none⟩) (by first | (rw [add_block]; exact hn707_1) | (show (Addr.add _ _).block ≠ _; rw [add_block]; exact hn707_1) | exact hn707_1) (.int .i64 t697)).trans hx707_2
                                      replace hx707_3 := (cell_far (p := ⟨gb701, 1, none⟩) (by first | (rw [add_block]; exact hn707_1) | (show (Addr.add _ _).block ≠ _; rw [add_block]; exact hn707_1) | exact hn707_1) (.int .i64 t697)).trans hx707_3
                                      replace hx707_0 := (cell_far (p := ⟨gb701, 2, none⟩) (by first | (rw [add_block]; exact hn707_2) | (show (Addr.add _ _).block ≠ _; rw [add_block]; exact hn707_2) | exact hn707_2) (.int .i64 t698)).trans hx707_0
                                      replace hx707_1 := (cell_far (p := ⟨gb701, 2, none⟩) (by first | (rw [add_block]; exact hn707_2) | (show (Addr.add _ _).block ≠ _; rw [add_block]; exact hn707_2) | exact hn707_2) (.int .i64 t698)).trans hx707_1
                                      replace hx707_2 := (cell_far (p := ⟨gb701, 2, none⟩) (by first | (rw [add_block]; exact hn707_2) | (show (Addr.add _ _).block ≠ _; rw [add_block]; exact hn707_2) | exact hn707_2) (.int .i64 t698)).trans hx707_2
                                      replace hx707_3 := (cell_far (p := ⟨gb701, 2, none⟩) (by first | (rw [add_block]; exact hn707_2) | (show (Addr.add _ _).block ≠ _; rw [add_block]; exact hn707_2) | exact hn707_2) (.int .i64 t698)).trans hx707_3
                                      replace hx707_0 := (cell_far (p := ⟨gb701, 3, none⟩) (by first | (rw [add_block]; exact hn707_3) | (show (Addr.add _ _).block ≠ _; rw [add_block]; exact hn707_3) | exact hn707_3) (.bool t699)).trans hx707_0
                                      replace hx707_1 := (cell_far (p := ⟨gb701, 3, none⟩) (by first | (rw [add_block]; exact hn707_3) | (show (Addr.add _ _).block ≠ _; rw [add_block]; exact hn707_3) | exact hn707_3) (.bool t699)).trans hx707_1
                                      replace hx707_2 := (cell_far (p := ⟨gb701, 3, none⟩) (by first | (rw [add_block]; exact hn707_3) | (show (Addr.add _ _).block ≠ _; rw [add_block]; exact hn707_3) | exact hn707_3) (.bool t699)).trans hx707_2
                                      replace hx707_3 := (cell_far (p := ⟨gb701, 3, none⟩) (by first | (rw [add_block]; exact hn707_3) | (show (Addr.add _ _).block ≠ _; rw [add_block]; exact hn707_3) | exact hn707_3) (.bool t699)).trans hx707_3
                                      (try have hy707_0 := fun (n_ : Nat) => (show ((((((w36.drewN n_).setCell ⟨gb701, 0, none⟩ (.int .i64 t696)).setCell ⟨gb701, 1, none⟩ (.int .i64 t697)).setCell ⟨gb701, 2, none⟩ (.int .i64 t698)).setCell ⟨gb701, 3, none⟩ (.bool t699))).cell? _ = some _ from hx707_0))
                                      (try have hy707_1 := fun (n_ : Nat) => (show ((((((w36.drewN n_).setCell ⟨gb701, 0, none⟩ (.int .i64 t696)).setCell ⟨gb701, 1, none⟩ (.int .i64 t697)).setCell ⟨gb701, 2, none⟩ (.int .i64 t698)).setCell ⟨gb701, 3, none⟩ (.bool t699))).cell? _ = some _ from hx707_1))
                                      (try have hy707_2 := fun (n_ : Nat) => (show ((((((w36.drewN n_).setCell ⟨gb701, 0, none⟩ (.int .i64 t696)).setCell ⟨gb701, 1, none⟩ (.int .i64 t697)).setCell ⟨gb701, 2, none⟩ (.int .i64 t698)).setCell ⟨gb701, 3, none⟩ (.bool t699))).cell? _ = some _ from hx707_2))
                                      (try have hy707_3 := fun (n_ : Nat) => (show ((((((w36.drewN n_).setCell ⟨gb701, 0, none⟩ (.int .i64 t696)).setCell ⟨gb701, 1, none⟩ (.int .i64 t697)).setCell ⟨gb701, 2, none⟩ (.int .i64 t698)).setCell ⟨gb701, 3, none⟩ (.bool t699))).cell? _ = some _ from hx707_3))
                                      clear hn707_0
                                      clear hn707_1
                                      clear hn707_2
                                      clear hn707_3
                                      replace p707 := eq_true p707
                                      replace q707 := eq_true q707
                                      go_wp2
                                      repeat (go_quiet (fail); try go_wp2)
                                      go_meet
                                      case rel => exact ⟨_, (true), (by first | rfl | (simp; done) | (simp [*]; done)), H', ⟨by have := HJ4.out; have := HK2.out; have := HJ13.out; first | omega | exact Nat.le_refl _⟩, ⟨by (with_reducible repeat (first | apply Kd.R_alloc | apply Kd.R_drewN | apply Kd.R_drew)); exact Kd.R_mono (Kd.R_far (p := ⟨gb701, 3, none⟩) (Kd.R_far (p := ⟨gb701, 2, none⟩) (Kd.R_far (p := ⟨gb701, 1, none⟩) (Kd.R_far (p := ⟨gb701, 0, none⟩) (Kd.R_types HO_7.out BK701.out (by decide)) (fun _ hk => hk.2) (.int .i64 t696)) (fun _ hk => hk.2) (.int .i64 t697)) (fun _ hk => hk.2) (.int .i64 t698)) (fun _ hk => hk.2) (.bool t699)) (fun _ hk => hk.1)⟩, ⟨by (with_reducible repeat (first | refine blk_drewN ?_ _ | refine blk_drew ?_ | refine blk_alloc ?_ _)); refine blk_far ?_ NB689_701.out _; (with_reducible repeat (first | refine blk_drewN ?_ _ | refine blk_drew ?_ | refine blk_alloc ?_ _)); refine blk_far ?_ NB689_701.out _; (with_reducible repeat (first | refine blk_drewN ?_ _ | refine blk_drew ?_ | refine blk_alloc ?_ _)); refine blk_far ?_ NB689_701.out _; (with_reducible repeat (first | refine blk_drewN ?_ _ | refine blk_drew ?_ | refine blk_alloc ?_ _)); refine blk_far ?_ NB689_701.out _; (with_reducible repeat (first | refine blk_drewN ?_ _ | refine blk_drew ?_ | refine blk_alloc ?_ _)); exact BK689.out⟩, ⟨by (with_reducible repeat (first | refine blk_drewN ?_ _ | refine blk_drew ?_ | refine blk_alloc ?_ _)); refine blk_far ?_ NB695_701.out _; (with_reducible repeat (first | refine blk_drewN ?_ _ | refine blk_drew ?_ | refine blk_alloc ?_ _)); refine blk_far ?_ NB695_701.out _; (with_reducible repeat (first | refine blk_drewN ?_ _ | refine blk_drew ?_ | refine blk_alloc ?_ _)); refine blk_far ?_ NB695_701.out _; (with_reducible repeat (first | refine blk_drewN ?_ _ | refine blk_drew ?_ | refine blk_alloc ?_ _)); refine blk_far ?_ NB695_701.out _; (with_reducible repeat (first | refine blk_drewN ?_ _ | refine blk_drew ?_ | refine blk_alloc ?_ _)); exact BK695.out⟩, ⟨by (with_reducible repeat (first | refine blk_drewN ?_ _ | refine blk_drew ?_ | refine blk_alloc ?_ _)); refine blk_put (cs := #[.int .i64 t696, .int .i64 t697, .int .i64 t698, .bool false]) ?_ 3 _ rfl; (with_reducible repeat (first | refine blk_drewN ?_ _ | refine blk_drew ?_ | refine blk_alloc ?_ _)); refine blk_put (cs := #[.int .i64 t696, .int .i64 t697, .int .i64 0, .bool false]) ?_ 2 _ rfl; (with_reducible repeat (first | refine blk_drewN ?_ _ | refine blk_drew ?_ | refine blk_alloc ?_ _)); refine blk_put (cs := #[.int .i64 t696, .int .i64 0, .int .i64 0, .bool false]) ?_ 1 _ rfl; (with_reducible repeat (first | refine blk_drewN ?_ _ | refine blk_drew ?_ | refine blk_alloc ?_ _)); refine blk_put (cs := #[.int .i64 0, .int .i64 0, .int .i64 0, .bool false]) ?_ 0 _ rfl; (with_reducible repeat (first | refine blk_drewN ?_ _ | refine blk_drew ?_ | refine blk_alloc ?_ _)); exact BK701.out⟩, ⟨by repeat (first | (with_reducible first | exact HB.out | apply below_alloc | apply pw_below_drewN | apply below_drew1 | refine below_set ?_ GE689.out | refine below_set ?_ GE695.out | refine below_set ?_ GE701.out) | exact HB.out)⟩⟩
                                    · rw [if_neg c68] at H
                                      have c68b0 : (((rd_T31 l0 ((rd_T76 t685 x8_2).f3)).f3).toList == ((rd_T31 l0 ((rd_T76 t685 x8_2).f4)).f3).toList) = false := beq_eq_false_iff_ne.mpr c68
                                      have c68b1 : (((rd_T31 l0 ((rd_T76 t685 x8_2).f3)).f3).toList != ((rd_T31 l0 ((rd_T76 t685 x8_2).f4)).f3).toList) = true := bne_iff_ne.mpr c68
                                      by_cases c72 : ((rd_T76 t685 x8_2).f0) = 1
                                      · rw [if_pos c72] at H
                                        have c72b0 : (((rd_T76 t685 x8_2).f0) == 1) = true := beq_iff_eq.mpr c72
                                        have c72b1 : (((rd_T76 t685 x8_2).f0) != 1) = false := bne_eq_false_iff_eq.mpr c72
                                        clear c72
                                        have H' := Aside0.mk H
                                        clear H
                                        have hnb73 := NB689_695.out
                                        have hnc73 := NB695_689.out
                                        have hnb74 := NB689_701.out
                                        have hnc74 := NB701_689.out
                                        have hcz75_0 : w36.cell? ⟨gb689, 0, none⟩ = some (.int .i64 ((rd_T76 t685 x8_2).f0)) := (blk_cell BK689.out 0).trans rfl
                                        have hcz75_1 : w36.cell? ⟨gb689, 1, none⟩ = some (.int .i64 ((rd_T76 t685 x8_2).f1)) := (blk_cell BK689.out 1).trans rfl
                                        have hcz75_2 : w36.cell? ⟨gb689, 2, none⟩ = some (.int .i64 ((rd_T76 t685 x8_2).f2)) := (blk_cell BK689.out 2).trans rfl
                                        have hcz75_3 : w36.cell? ⟨gb689, 3, none⟩ = some (.int .i64 ((rd_T76 t685 x8_2).f3)) := (blk_cell BK689.out 3).trans rfl
                                        have hcz75_4 : w36.cell? ⟨gb689, 4, none⟩ = some (.int .i64 ((rd_T76 t685 x8_2).f4)) := (blk_cell BK689.out 4).trans rfl
                                        have hfz75_0 := blk_frozen BK689.out 0
                                        have hfz75_1 := blk_frozen BK689.out 1
                                        have hfz75_2 := blk_frozen BK689.out 2
                                        have hfz75_3 := blk_frozen BK689.out 3
                                        have hfz75_4 := blk_frozen BK689.out 4
                                        have p706 : 0 ≤ (((rd_T76 t685 x8_2).f3) : Int) := of_decide_eq_true (by first | (with_reducible assumption) | assumption)
                                        have q706 : ((rd_T76 t685 x8_2).f3) < (l0.length : Int) := of_decide_eq_true (by first | (with_reducible assumption) | assumption)
                                        obtain ⟨ad706, e706, hx706_0, hx706_1, hx706_2, hx706_3⟩ := at_T31 HR0.out ((rd_T76 t685 x8_2).f3) p706 q706
                                        cases e706
                                        have hn706_0 : ad706.block ≠ gb701 := Nat.ne_of_lt (Nat.lt_of_lt_of_le (by have := World.block_lt_of_cell? _ _ hx706_0; first | rwa [add_block] at this | exact this) GW701.out)
                                        have hn706_1 : ad706.block ≠ gb701 := Nat.ne_of_lt (Nat.lt_of_lt_of_le (by have := World.block_lt_of_cell? _ _ hx706_0; first | rwa [add_block] at this | exact this) GW701.out)
                                        have hn706_2 : ad706.block ≠ gb701 := Nat.ne_of_lt (Nat.lt_of_lt_of_le (by have := World.block_lt_of_cell? _ _ hx706_0; first | rwa [add_block] at this | exact this) GW701.out)
                                        have hn706_3 : ad706.block ≠ gb701 := Nat.ne_of_lt (Nat.lt_of_lt_of_le (by have := World.block_lt_of_cell? _ _ hx706_0; first | rwa [add_block] at this | exact this) GW701.out)
                                        replace hx706_0 := (HB.out.cell (World.block_lt_of_cell? w _ hx706_0)).trans hx706_0
                                        replace hx706_1 := (HB.out.cell (World.block_lt_of_cell? w _ hx706_1)).trans hx706_1
                                        replace hx706_2 := (HB.out.cell (World.block_lt_of_cell? w _ hx706_2)).trans hx706_2
                                        replace hx706_3 := (HB.out.cell (World.block_lt_of_cell? w _ hx706_3)).trans hx706_3
                                        replace hx706_0 := (cell_far (p := ⟨gb701, 0, none⟩) (by first | (rw [add_block]; exact hn706_0) | (show (Addr.add _ _).block ≠ _; rw [add_block]; exact hn706_0) | exact hn706_0) (.int .i64 t696)).trans hx706_0
                                        replace hx706_1 := (cell_far (p := ⟨gb701, 0, none⟩) (by first | (rw [add_block]; exact hn706_0) | (show (Addr.add _ _).block ≠ _; rw [add_block]; exact hn706_0) | exact hn706_0) (.int .i64 t696)).trans hx706_1
                                        replace hx706_2 := (cell_far (p := ⟨gb701, 0, none⟩) (by first | (rw [add_block]; exact hn706_0) | (show (Addr.add _ _).block ≠ _; rw [add_block]; exact hn706_0) | exact hn706_0) (.int .i64 t696)).trans hx706_2
                                        replace hx706_3 := (cell_far (p := ⟨gb701, 0, none⟩) (by first | (rw [add_block]; exact hn706_0) | (show (Addr.add _ _).block ≠ _; rw [add_block]; exact hn706_0) | exact hn706_0) (.int .i64 t696)).trans hx706_3
                                        replace hx706_0 := (cell_far (p := ⟨gb701, 1, none⟩) (by first | (rw [add_block]; exact hn706_1) | (show (Addr.add _ _).block ≠ _; rw [add_block]; exact hn706_1) | exact hn706_1) (.int .i64 t697)).trans hx706_0
                                        replace hx706_1 := (cell_far (p := ⟨gb701, 1, none⟩) (by first | (rw [add_block]; exact hn706_1) | (show (Addr.add _ _).block ≠ _; rw [add_block]; exact hn706_1) | exact hn706_1) (.int .i64 t697)).trans hx706_1
                                        replace hx706_2 := (cell_far (p := ⟨gb701, 1, none⟩) (by first | (rw [add_block]; exact hn706_1) | (show (Addr.add _ _).block ≠ _; rw [add_block]; exact hn706_1) | exact hn706_1) (.int .i64 t697)).trans hx706_2
                                        replace hx706_3 := (cell_far (p := ⟨gb701, 1, none⟩) (by first | (rw [add_block]; exact hn706_1) | (show (Addr.add _ _).block ≠ _; rw [add_block]; exact hn706_1) | exact hn706_1) (.int .i64 t697)).trans hx706_3
                                        replace hx706_0 := (cell_far (p := ⟨gb701, 2, none⟩) (by first | (rw [add_block]; exact hn706_2) | (show (Addr.add _ _).block ≠ _; rw [add_block]; exact hn706_2) | exact hn706_2) (.int .i64 t698)).trans hx706_0
                                        replace hx706_1 := (cell_far (p := ⟨gb701, 2, none⟩) (by first | (rw [add_block]; exact hn706_2) | (show (Addr.add _ _).block ≠ _; rw [add_block]; exact hn706_2) | exact hn706_2) (.int .i64 t698)).trans hx706_1
                                        replace hx706_2 := (cell_far (p := ⟨gb701, 2, none⟩) (by first | (rw [add_block]; exact hn706_2) | (show (Addr.add _ _).block ≠ _; rw [add_block]; exact hn706_2) | exact hn706_2) (.int .i64 t698)).trans hx706_2
                                        replace hx706_3 := (cell_far (p := ⟨gb701, 2, none⟩) (by first | (rw [add_block]; exact hn706_2) | (show (Addr.add _ _).block ≠ _; rw [add_block]; exact hn706_2) | exact hn706_2) (.int .i64 t698)).trans hx706_3
                                        replace hx706_0 := (cell_far (p := ⟨gb701, 3, none⟩) (by first | (rw [add_block]; exact hn706_3) | (show (Addr.add _ _).block ≠ _; rw [add_block]; exact hn706_3) | exact hn706_3) (.bool t699)).trans hx706_0
                                        replace hx706_1 := (cell_far (p := ⟨gb701, 3, none⟩) (by first | (rw [add_block]; exact hn706_3) | (show (Addr.add _ _).block ≠ _; rw [add_block]; exact hn706_3) | exact hn706_3) (.bool t699)).trans hx706_1
                                        replace hx706_2 := (cell_far (p := ⟨gb701, 3, none⟩) (by first | (rw [add_block]; exact hn706_3) | (show (Addr.add _ _).block ≠ _; rw [add_block]; exact hn706_3) | exact hn706_3) (.bool t699)).trans hx706_2
                                        replace hx706_3 := (cell_far (p := ⟨gb701, 3, none⟩) (by first | (rw [add_block]; exact hn706_3) | (show (Addr.add _ _).block ≠ _; rw [add_block]; exact hn706_3) | exact hn706_3) (.bool t699)).trans hx706_3
                                        (try have hy706_0 := fun (n_ : Nat) => (show ((((((w36.drewN n_).setCell ⟨gb701, 0, none⟩ (.int .i64 t696)).setCell ⟨gb701, 1, none⟩ (.int .i64 t697)).setCell ⟨gb701, 2, none⟩ (.int .i64 t698)).setCell ⟨gb701, 3, none⟩ (.bool t699))).cell? _ = some _ from hx706_0))
                                        (try have hy706_1 := fun (n_ : Nat) => (show ((((((w36.drewN n_).setCell ⟨gb701, 0, none⟩ (.int .i64 t696)).setCell ⟨gb701, 1, none⟩ (.int .i64 t697)).setCell ⟨gb701, 2, none⟩ (.int .i64 t698)).setCell ⟨gb701, 3, none⟩ (.bool t699))).cell? _ = some _ from hx706_1))
                                        (try have hy706_2 := fun (n_ : Nat) => (show ((((((w36.drewN n_).setCell ⟨gb701, 0, none⟩ (.int .i64 t696)).setCell ⟨gb701, 1, none⟩ (.int .i64 t697)).setCell ⟨gb701, 2, none⟩ (.int .i64 t698)).setCell ⟨gb701, 3, none⟩ (.bool t699))).cell? _ = some _ from hx706_2))
                                        (try have hy706_3 := fun (n_ : Nat) => (show ((((((w36.drewN n_).setCell ⟨gb701, 0, none⟩ (.int .i64 t696)).setCell ⟨gb701, 1, none⟩ (.int .i64 t697)).setCell ⟨gb701, 2, none⟩ (.int .i64 t698)).setCell ⟨gb701, 3, none⟩ (.bool t699))).cell? _ = some _ from hx706_3))
                                        clear hn706_0
                                        clear hn706_1
                                        clear hn706_2
                                        clear hn706_3
                                        replace p706 := eq_true p706
                                        replace q706 := eq_true q706
                                        have p707 : 0 ≤ (((rd_T76 t685 x8_2).f4) : Int) := of_decide_eq_true (by first | (with_reducible assumption) | assumption)
                                        have q707 : ((rd_T76 t685 x8_2).f4) < (l0.length : Int) := of_decide_eq_true (by first | (with_reducible assumption) | assumption)
                                        obtain ⟨ad707, e707, hx707_0, hx707_1, hx707_2, hx707_3⟩ := at_T31 HR0.out ((rd_T76 t685 x8_2).f4) p707 q707
                                        obtain rfl : ad706 = ad707 := (by injection e707)
                                        have hn707_0 : ad706.block ≠ gb701 := Nat.ne_of_lt (Nat.lt_of_lt_of_le (by have := World.block_lt_of_cell? _ _ hx707_0; first | rwa [add_block] at this | exact this) GW701.out)
                                        have hn707_1 : ad706.block ≠ gb701 := Nat.ne_of_lt (Nat.lt_of_lt_of_le (by have := World.block_lt_of_cell? _ _ hx707_0; first | rwa [add_block] at this | exact this) GW701.out)
                                        have hn707_2 : ad706.block ≠ gb701 := Nat.ne_of_lt (Nat.lt_of_lt_of_le (by have := World.block_lt_of_cell? _ _ hx707_0; first | rwa [add_block] at this | exact this) GW701.out)
                                        have hn707_3 : ad706.block ≠ gb701 := Nat.ne_of_lt (Nat.lt_of_lt_of_le (by have := World.block_lt_of_cell? _ _ hx707_0; first | rwa [add_block] at this | exact this) GW701.out)
                                        replace hx707_0 := (HB.out.cell (World.block_lt_of_cell? w _ hx707_0)).trans hx707_0
                                        replace hx707_1 := (HB.out.cell (World.block_lt_of_cell? w _ hx707_1)).trans hx707_1
                                        replace hx707_2 := (HB.out.cell (World.block_lt_of_cell? w _ hx707_2)).trans hx707_2
                                        replace hx707_3 := (HB.out.cell (World.block_lt_of_cell? w _ hx707_3)).trans hx707_3
                                        replace hx707_0 := (cell_far (p := ⟨gb701, 0, none⟩) (by first | (rw [add_block]; exact hn707_0) | (show (Addr.add _ _).block ≠ _; rw [add_block]; exact hn707_0) | exact hn707_0) (.int .i64 t696)).trans hx707_0
                                        replace hx707_1 := (cell_far (p := ⟨gb701, 0, none⟩) (by first | (rw [add_block]; exact hn707_0) | (show (Addr.add _ _).block ≠ _; rw [add_block]; exact hn707_0) | exact hn707_0) (.int .i64 t696)).trans hx707_1
                                        replace hx707_2 := (cell_far (p := ⟨gb701, 0, none⟩) (by first | (rw [add_block]; exact hn707_0) | (show (Addr.add _ _).block ≠ _; rw [add_block]; exact hn707_0) | exact hn707_0) (.int .i64 t696)).trans hx707_2
                                        replace hx707_3 := (cell_far (p := ⟨gb701, 0, none⟩) (by first | (rw [add_block]; exact hn707_0) | (show (Addr.add _ _).block ≠ _; rw [add_block]; exact hn707_0) | exact hn707_0) (.int .i64 t696)).trans hx707_3
                                        replace hx707_0 := (cell_far (p := ⟨gb701, 1, none⟩) (by first | (rw [add_block]; exact hn707_1) | (show (Addr.add _ _).block ≠ _; rw [add_block]; exact hn707_1) | exact hn707_1) (.int .i64 t697)).trans hx707_0
                                        replace hx707_1 := (cell_far (p := ⟨gb701, 1, none⟩) (by first | (rw [add_block]; exact hn707_1) | (show (Addr.add _ _).block ≠ _; rw [add_block]; exact hn707_1) | exact hn707_1) (.int .i64 t697)).trans hx707_1
                                        replace hx707_2 := (cell_far (p := ⟨gb701, 1, none⟩) (by first | (rw [add_block]; exact hn707_1) | (show (Addr.add _ _).block ≠ _; rw [add_block]; exact hn707_1) | exact hn707_1) (.int .i64 t697)).trans hx707_2
                                        replace hx707_3 := (cell_far (p := ⟨gb701, 1, none⟩) (by first | (rw [add_block]; exact hn707_1) | (show (Addr.add _ _).block ≠ _; rw [add_block]; exact hn707_1) | exact hn707_1) (.int .i64 t697)).trans hx707_3
                                        replace hx707_0 := (cell_far (p := ⟨gb701, 2, none⟩) (by first | (rw [add_block]; exact hn707_2) | (show (Addr.add _ _).block ≠ _; rw [add_block]; exact hn707_2) | exact hn707_2) (.int .i64 t698)).trans hx707_0
                                        replace hx707_1 := (cell_far (p := ⟨gb701, 2, none⟩) (by first | (rw [add_block]; exact hn707_2) | (show (Addr.add _ _).block ≠ _; rw [add_block]; exact hn707_2) | exact hn707_2) (.int .i64 t698)).trans hx707_1
                                        replace hx707_2 := (cell_far (p := ⟨gb701, 2, none⟩) (by first | (rw [add_block]; exact hn707_2) | (show (Addr.add _ _).block ≠ _; rw [add_block]; exact hn707_2) | exact hn707_2) (.int .i64 t698)).trans hx707_2
                                        replace hx707_3 := (cell_far (p := ⟨gb701, 2, none⟩) (by first | (rw [add_block]; exact hn707_2) | (show (Addr.add _ _).block ≠ _; rw [add_block]; exact hn707_2) | exact hn707_2) (.int .i64 t698)).trans hx707_3
                                        replace hx707_0 := (cell_far (p := ⟨gb701, 3, none⟩) (by first | (rw [add_block]; exact hn707_3) | (show (Addr.add _ _).block ≠ _; rw [add_block]; exact hn707_3) | exact hn707_3) (.bool t699)).trans hx707_0
                                        replace hx707_1 := (cell_far (p := ⟨gb701, 3, none⟩) (by first | (rw [add_block]; exact hn707_3) | (show (Addr.add _ _).block ≠ _; rw [add_block]; exact hn707_3) | exact hn707_3) (.bool t699)).trans hx707_1
                                        replace hx707_2 := (cell_far (p := ⟨gb701, 3, none⟩) (by first | (rw [add_block]; exact hn707_3) | (show (Addr.add _ _).block ≠ _; rw [add_block]; exact hn707_3) | exact hn707_3) (.bool t699)).trans hx707_2
                                        replace hx707_3 := (cell_far (p := ⟨gb701, 3, none⟩) (by first | (rw [add_block]; exact hn707_3) | (show (Addr.add _ _).block ≠ _; rw [add_block]; exact hn707_3) | exact hn707_3) (.bool t699)).trans hx707_3
                                        (try have hy707_0 := fun (n_ : Nat) => (show ((((((w36.drewN n_).setCell ⟨gb701, 0, none⟩ (.int .i64 t696)).setCell ⟨gb701, 1, none⟩ (.int .i64 t697)).setCell ⟨gb701, 2, none⟩ (.int .i64 t698)).setCell ⟨gb701, 3, none⟩ (.bool t699))).cell? _ = some _ from hx707_0))
                                        (try have hy707_1 := fun (n_ : Nat) => (show ((((((w36.drewN n_).setCell ⟨gb701, 0, none⟩ (.int .i64 t696)).setCell ⟨gb701, 1, none⟩ (.int .i64 t697)).setCell ⟨gb701, 2, none⟩ (.int .i64 t698)).setCell ⟨gb701, 3, none⟩ (.bool t699))).cell? _ = some _ from hx707_1))
                                        (try have hy707_2 := fun (n_ : Nat) => (show ((((((w36.drewN n_).setCell ⟨gb701, 0, none⟩ (.int .i64 t696)).setCell ⟨gb701, 1, none⟩ (.int .i64 t697)).setCell ⟨gb701, 2, none⟩ (.int .i64 t698)).setCell ⟨gb701, 3, none⟩ (.bool t699))).cell? _ = some _ from hx707_2))
                                        (try have hy707_3 := fun (n_ : Nat) => (show ((((((w36.drewN n_).setCell ⟨gb701, 0, none⟩ (.int .i64 t696)).setCell ⟨gb701, 1, none⟩ (.int .i64 t697)).setCell ⟨gb701, 2, none⟩ (.int .i64 t698)).setCell ⟨gb701, 3, none⟩ (.bool t699))).cell? _ = some _ from hx707_3))
                                        clear hn707_0
                                        clear hn707_1
                                        clear hn707_2
                                        clear hn707_3
                                        replace p707 := eq_true p707
                                        replace q707 := eq_true q707
                                        have hnb76 := NB695_701.out
                                        have hnc76 := NB701_695.out
                                        have hcz77_0 : w36.cell? ⟨gb695, 0, none⟩ = some (.int .i64 t690) := (blk_cell BK695.out 0).trans rfl
                                        have hcz77_1 : w36.cell? ⟨gb695, 1, none⟩ = some (.int .i64 t691) := (blk_cell BK695.out 1).trans rfl
                                        have hcz77_2 : w36.cell? ⟨gb695, 2, none⟩ = some (.int .i64 t692) := (blk_cell BK695.out 2).trans rfl
                                        have hcz77_3 : w36.cell? ⟨gb695, 3, none⟩ = some (.bool t693) := (blk_cell BK695.out 3).trans rfl
                                        have hfz77_0 := blk_frozen BK695.out 0
                                        have hfz77_1 := blk_frozen BK695.out 1
                                        have hfz77_2 := blk_frozen BK695.out 2
                                        have hfz77_3 := blk_frozen BK695.out 3
                                        have hcz78_0 : w36.cell? ⟨gb701, 0, none⟩ = some (.int .i64 0) := (blk_cell BK701.out 0).trans rfl
                                        have hcz78_1 : w36.cell? ⟨gb701, 1, none⟩ = some (.int .i64 0) := (blk_cell BK701.out 1).trans rfl
                                        have hcz78_2 : w36.cell? ⟨gb701, 2, none⟩ = some (.int .i64 0) := (blk_cell BK701.out 2).trans rfl
                                        have hcz78_3 : w36.cell? ⟨gb701, 3, none⟩ = some (.bool false) := (blk_cell BK701.out 3).trans rfl
                                        have hfz78_0 := blk_frozen BK701.out 0
                                        have hfz78_1 := blk_frozen BK701.out 1
                                        have hfz78_2 := blk_frozen BK701.out 2
                                        have hfz78_3 := blk_frozen BK701.out 3
                                        go_wp2
                                        repeat (go_quiet (fail); try go_wp2)
                                        go_meet
                                        case rel => exact ⟨_, (decide (t692 ≥ t698)), (by first | rfl | (simp; done) | (simp [*]; done)), H', ⟨by have := HJ4.out; have := HK2.out; have := HJ13.out; first | omega | exact Nat.le_refl _⟩, ⟨by (with_reducible repeat (first | apply Kd.R_alloc | apply Kd.R_drewN | apply Kd.R_drew)); exact Kd.R_mono (Kd.R_far (p := ⟨gb701, 3, none⟩) (Kd.R_far (p := ⟨gb701, 2, none⟩) (Kd.R_far (p := ⟨gb701, 1, none⟩) (Kd.R_far (p := ⟨gb701, 0, none⟩) (Kd.R_types HO_7.out BK701.out (by decide)) (fun _ hk => hk.2) (.int .i64 t696)) (fun _ hk => hk.2) (.int .i64 t697)) (fun _ hk => hk.2) (.int .i64 t698)) (fun _ hk => hk.2) (.bool t699)) (fun _ hk => hk.1)⟩, ⟨by (with_reducible repeat (first | refine blk_drewN ?_ _ | refine blk_drew ?_ | refine blk_alloc ?_ _)); refine blk_far ?_ NB689_701.out _; (with_reducible repeat (first | refine blk_drewN ?_ _ | refine blk_drew ?_ | refine blk_alloc ?_ _)); refine blk_far ?_ NB689_701.out _; (with_reducible repeat (first | refine blk_drewN ?_ _ | refine blk_drew ?_ | refine blk_alloc ?_ _)); refine blk_far ?_ NB689_701.out _; (with_reducible repeat (first | refine blk_drewN ?_ _ | refine blk_drew ?_ | refine blk_alloc ?_ _)); refine blk_far ?_ NB689_701.out _; (with_reducible repeat (first | refine blk_drewN ?_ _ | refine blk_drew ?_ | refine blk_alloc ?_ _)); exact BK689.out⟩, ⟨by (with_reducible repeat (first | refine blk_drewN ?_ _ | refine blk_drew ?_ | refine blk_alloc ?_ _)); refine blk_far ?_ NB695_701.out _; (with_reducible repeat (first | refine blk_drewN ?_ _ | refine blk_drew ?_ | refine blk_alloc ?_ _)); refine blk_far ?_ NB695_701.out _; (with_reducible repeat (first | refine blk_drewN ?_ _ | refine blk_drew ?_ | refine blk_alloc ?_ _)); refine blk_far ?_ NB695_701.out _; (with_reducible repeat (first | refine blk_drewN ?_ _ | refine blk_drew ?_ | refine blk_alloc ?_ _)); refine blk_far ?_ NB695_701.out _; (with_reducible repeat (first | refine blk_drewN ?_ _ | refine blk_drew ?_ | refine blk_alloc ?_ _)); exact BK695.out⟩, ⟨by (with_reducible repeat (first | refine blk_drewN ?_ _ | refine blk_drew ?_ | refine blk_alloc ?_ _)); refine blk_put (cs := #[.int .i64 t696, .int .i64 t697, .int .i64 t698, .bool false]) ?_ 3 _ rfl; (with_reducible repeat (first | refine blk_drewN ?_ _ | refine blk_drew ?_ | refine blk_alloc ?_ _)); refine blk_put (cs := #[.int .i64 t696, .int .i64 t697, .int .i64 0, .bool false]) ?_ 2 _ rfl; (with_reducible repeat (first | refine blk_drewN ?_ _ | refine blk_drew ?_ | refine blk_alloc ?_ _)); refine blk_put (cs := #[.int .i64 t696, .int .i64 0, .int .i64 0, .bool false]) ?_ 1 _ rfl; (with_reducible repeat (first | refine blk_drewN ?_ _ | refine blk_drew ?_ | refine blk_alloc ?_ _)); refine blk_put (cs := #[.int .i64 0, .int .i64 0, .int .i64 0, .bool false]) ?_ 0 _ rfl; (with_reducible repeat (first | refine blk_drewN ?_ _ | refine blk_drew ?_ | refine blk_alloc ?_ _)); exact BK701.out⟩, ⟨by repeat (first | (with_reducible first | exact HB.out | apply below_alloc | apply pw_below_drewN | apply below_drew1 | refine below_set ?_ GE689.out | refine below_set ?_ GE695.out | refine below_set ?_ GE701.out) | exact HB.out)⟩⟩
                                      · rw [if_neg c72] at H
                                        have c72b0 : (((rd_T76 t685 x8_2).f0) == 1) = false := beq_eq_false_iff_ne.mpr c72
                                        have c72b1 : (((rd_T76 t685 x8_2).f0) != 1) = true := bne_iff_ne.mpr c72
                                        have H' := Aside0.mk H
                                        clear H
                                        have hnb79 := NB689_695.out
                                        have hnc79 := NB695_689.out
                                        have hnb80 := NB689_701.out
                                        have hnc80 := NB701_689.out
                                        have hcz81_0 : w36.cell? ⟨gb689, 0, none⟩ = some (.int .i64 ((rd_T76 t685 x8_2).f0)) := (blk_cell BK689.out 0).trans rfl
                                        have hcz81_1 : w36.cell? ⟨gb689, 1, none⟩ = some (.int .i64 ((rd_T76 t685 x8_2).f1)) := (blk_cell BK689.out 1).trans rfl
                                        have hcz81_2 : w36.cell? ⟨gb689, 2, none⟩ = some (.int .i64 ((rd_T76 t685 x8_2).f2)) := (blk_cell BK689.out 2).trans rfl
                                        have hcz81_3 : w36.cell? ⟨gb689, 3, none⟩ = some (.int .i64 ((rd_T76 t685 x8_2).f3)) := (blk_cell BK689.out 3).trans rfl
                                        have hcz81_4 : w36.cell? ⟨gb689, 4, none⟩ = some (.int .i64 ((rd_T76 t685 x8_2).f4)) := (blk_cell BK689.out 4).trans rfl
                                        have hfz81_0 := blk_frozen BK689.out 0
                                        have hfz81_1 := blk_frozen BK689.out 1
                                        have hfz81_2 := blk_frozen BK689.out 2
                                        have hfz81_3 := blk_frozen BK689.out 3
                                        have hfz81_4 := blk_frozen BK689.out 4
                                        have p706 : 0 ≤ (((rd_T76 t685 x8_2).f3) : Int) := of_decide_eq_true (by first | (with_reducible assumption) | assumption)
                                        have q706 : ((rd_T76 t685 x8_2).f3) < (l0.length : Int) := of_decide_eq_true (by first | (with_reducible assumption) | assumption)
                                        obtain ⟨ad706, e706, hx706_0, hx706_1, hx706_2, hx706_3⟩ := at_T31 HR0.out ((rd_T76 t685 x8_2).f3) p706 q706
                                        cases e706
                                        have hn706_0 : ad706.block ≠ gb701 := Nat.ne_of_lt (Nat.lt_of_lt_of_le (by have := World.block_lt_of_cell? _ _ hx706_0; first | rwa [add_block] at this | exact this) GW701.out)
                                        have hn706_1 : ad706.block ≠ gb701 := Nat.ne_of_lt (Nat.lt_of_lt_of_le (by have := World.block_lt_of_cell? _ _ hx706_0; first | rwa [add_block] at this | exact this) GW701.out)
                                        have hn706_2 : ad706.block ≠ gb701 := Nat.ne_of_lt (Nat.lt_of_lt_of_le (by have := World.block_lt_of_cell? _ _ hx706_0; first | rwa [add_block] at this | exact this) GW701.out)
                                        have hn706_3 : ad706.block ≠ gb701 := Nat.ne_of_lt (Nat.lt_of_lt_of_le (by have := World.block_lt_of_cell? _ _ hx706_0; first | rwa [add_block] at this | exact this) GW701.out)
                                        replace hx706_0 := (HB.out.cell (World.block_lt_of_cell? w _ hx706_0)).trans hx706_0
                                        replace hx706_1 := (HB.out.cell (World.block_lt_of_cell? w _ hx706_1)).trans hx706_1
                                        replace hx706_2 := (HB.out.cell (World.block_lt_of_cell? w _ hx706_2)).trans hx706_2
                                        replace hx706_3 := (HB.out.cell (World.block_lt_of_cell? w _ hx706_3)).trans hx706_3
                                        replace hx706_0 := (cell_far (p := ⟨gb701, 0, none⟩) (by first | (rw [add_block]; exact hn706_0) | (show (Addr.add _ _).block ≠ _; rw [add_block]; exact hn706_0) | exact hn706_0) (.int .i64 t696)).trans hx706_0
                                        replace hx706_1 := (cell_far (p := ⟨gb701, 0, none⟩) (by first | (rw [add_block]; exact hn706_0) | (show (Addr.add _ _).block ≠ _; rw [add_block]; exact hn706_0) | exact hn706_0) (.int .i64 t696)).trans hx706_1
                                        replace hx706_2 := (cell_far (p := ⟨gb701, 0, none⟩) (by first | (rw [add_block]; exact hn706_0) | (show (Addr.add _ _).block ≠ _; rw [add_block]; exact hn706_0) | exact hn706_0) (.int .i64 t696)).trans hx706_2
                                        replace hx706_3 := (cell_far (p := ⟨gb701, 0, none⟩) (by first | (rw [add_block]; exact hn706_0) | (show (Addr.add _ _).block ≠ _; rw [add_block]; exact hn706_0) | exact hn706_0) (.int .i64 t696)).trans hx706_3
                                        replace hx706_0 := (cell_far (p := ⟨gb701, 1, none⟩) (by first | (rw [add_block]; exact hn706_1) | (show (Addr.add _ _).block ≠ _; rw [add_block]; exact hn706_1) | exact hn706_1) (.int .i64 t697)).trans hx706_0
                                        replace hx706_1 := (cell_far (p := ⟨gb701, 1, none⟩) (by first | (rw [add_block]; exact hn706_1) | (show (Addr.add _ _).block ≠ _; rw [add_block]; exact hn706_1) | exact hn706_1) (.int .i64 t697)).trans hx706_1
                                        replace hx706_2 := (cell_far (p := ⟨gb701, 1, none⟩) (by first | (rw [add_block]; exact hn706_1) | (show (Addr.add _ _).block ≠ _; rw [add_block]; exact hn706_1) | exact hn706_1) (.int .i64 t697)).trans hx706_2
                                        replace hx706_3 := (cell_far (p := ⟨gb701, 1, none⟩) (by first | (rw [add_block]; exact hn706_1) | (show (Addr.add _ _).block ≠ _; rw [add_block]; exact hn706_1) | exact hn706_1) (.int .i64 t697)).trans hx706_3
                                        replace hx706_0 := (cell_far (p := ⟨gb701, 2, none⟩) (by first | (rw [add_block]; exact hn706_2) | (show (Addr.add _ _).block ≠ _; rw [add_block]; exact hn706_2) | exact hn706_2) (.int .i64 t698)).trans hx706_0
                                        replace hx706_1 := (cell_far (p := ⟨gb701, 2, none⟩) (by first | (rw [add_block]; exact hn706_2) | (show (Addr.add _ _).block ≠ _; rw [add_block]; exact hn706_2) | exact hn706_2) (.int .i64 t698)).trans hx706_1
                                        replace hx706_2 := (cell_far (p := ⟨gb701, 2, none⟩) (by first | (rw [add_block]; exact hn706_2) | (show (Addr.add _ _).block ≠ _; rw [add_block]; exact hn706_2) | exact hn706_2) (.int .i64 t698)).trans hx706_2
                                        replace hx706_3 := (cell_far (p := ⟨gb701, 2, none⟩) (by first | (rw [add_block]; exact hn706_2) | (show (Addr.add _ _).block ≠ _; rw [add_block]; exact hn706_2) | exact hn706_2) (.int .i64 t698)).trans hx706_3
                                        replace hx706_0 := (cell_far (p := ⟨gb701, 3, none⟩) (by first | (rw [add_block]; exact hn706_3) | (show (Addr.add _ _).block ≠ _; rw [add_block]; exact hn706_3) | exact hn706_3) (.bool t699)).trans hx706_0
                                        replace hx706_1 := (cell_far (p := ⟨gb701, 3, none⟩) (by first | (rw [add_block]; exact hn706_3) | (show (Addr.add _ _).block ≠ _; rw [add_block]; exact hn706_3) | exact hn706_3) (.bool t699)).trans hx706_1
                                        replace hx706_2 := (cell_far (p := ⟨gb701, 3, none⟩) (by first | (rw [add_block]; exact hn706_3) | (show (Addr.add _ _).block ≠ _; rw [add_block]; exact hn706_3) | exact hn706_3) (.bool t699)).trans hx706_2
                                        replace hx706_3 := (cell_far (p := ⟨gb701, 3, none⟩) (by first | (rw [add_block]; exact hn706_3) | (show (Addr.add _ _).block ≠ _; rw [add_block]; exact hn706_3) | exact hn706_3) (.bool t699)).trans hx706_3
                                        (try have hy706_0 := fun (n_ : Nat) => (show ((((((w36.drewN n_).setCell ⟨gb701, 0, none⟩ (.int .i64 t696)).setCell ⟨gb701, 1, none⟩ (.int .i64 t697)).setCell ⟨gb701, 2, none⟩ (.int .i64 t698)).setCell ⟨gb701, 3, none⟩ (.bool t699))).cell? _ = some _ from hx706_0))
                                        (try have hy706_1 := fun (n_ : Nat) => (show ((((((w36.drewN n_).setCell ⟨gb701, 0, none⟩ (.int .i64 t696)).setCell ⟨gb701, 1, none⟩ (.int .i64 t697)).setCell ⟨gb701, 2, none⟩ (.int .i64 t698)).setCell ⟨gb701, 3, none⟩ (.bool t699))).cell? _ = some _ from hx706_1))
                                        (try have hy706_2 := fun (n_ : Nat) => (show ((((((w36.drewN n_).setCell ⟨gb701, 0, none⟩ (.int .i64 t696)).setCell ⟨gb701, 1, none⟩ (.int .i64 t697)).setCell ⟨gb701, 2, none⟩ (.int .i64 t698)).setCell ⟨gb701, 3, none⟩ (.bool t699))).cell? _ = some _ from hx706_2))
                                        (try have hy706_3 := fun (n_ : Nat) => (show ((((((w36.drewN n_).setCell ⟨gb701, 0, none⟩ (.int .i64 t696)).setCell ⟨gb701, 1, none⟩ (.int .i64 t697)).setCell ⟨gb701, 2, none⟩ (.int .i64 t698)).setCell ⟨gb701, 3, none⟩ (.bool t699))).cell? _ = some _ from hx706_3))
                                        clear hn706_0
                                        clear hn706_1
                                        clear hn706_2
                                        clear hn706_3
                                        replace p706 := eq_true p706
                                        replace q706 := eq_true q706
                                        have p707 : 0 ≤ (((rd_T76 t685 x8_2).f4) : Int) := of_decide_eq_true (by first | (with_reducible assumption) | assumption)
                                        have q707 : ((rd_T76 t685 x8_2).f4) < (l0.length : Int) := of_decide_eq_true (by first | (with_reducible assumption) | assumption)
                                        obtain ⟨ad707, e707, hx707_0, hx707_1, hx707_2, hx707_3⟩ := at_T31 HR0.out ((rd_T76 t685 x8_2).f4) p707 q707
                                        obtain rfl : ad706 = ad707 := (by injection e707)
                                        have hn707_0 : ad706.block ≠ gb701 := Nat.ne_of_lt (Nat.lt_of_lt_of_le (by have := World.block_lt_of_cell? _ _ hx707_0; first | rwa [add_block] at this | exact this) GW701.out)
                                        have hn707_1 : ad706.block ≠ gb701 := Nat.ne_of_lt (Nat.lt_of_lt_of_le (by have := World.block_lt_of_cell? _ _ hx707_0; first | rwa [add_block] at this | exact this) GW701.out)
                                        have hn707_2 : ad706.block ≠ gb701 := Nat.ne_of_lt (Nat.lt_of_lt_of_le (by have := World.block_lt_of_cell? _ _ hx707_0; first | rwa [add_block] at this | exact this) GW701.out)
                                        have hn707_3 : ad706.block ≠ gb701 := Nat.ne_of_lt (Nat.lt_of_lt_of_le (by have := World.block_lt_of_cell? _ _ hx707_0; first | rwa [add_block] at this | exact this) GW701.out)
                                        replace hx707_0 := (HB.out.cell (World.block_lt_of_cell? w _ hx707_0)).trans hx707_0
                                        replace hx707_1 := (HB.out.cell (World.block_lt_of_cell? w _ hx707_1)).trans hx707_1
                                        replace hx707_2 := (HB.out.cell (World.block_lt_of_cell? w _ hx707_2)).trans hx707_2
                                        replace hx707_3 := (HB.out.cell (World.block_lt_of_cell? w _ hx707_3)).trans hx707_3
                                        replace hx707_0 := (cell_far (p := ⟨gb701, 0, none⟩) (by first | (rw [add_block]; exact hn707_0) | (show (Addr.add _ _).block ≠ _; rw [add_block]; exact hn707_0) | exact hn707_0) (.int .i64 t696)).trans hx707_0
                                        replace hx707_1 := (cell_far (p := ⟨gb701, 0, none⟩) (by first | (rw [add_block]; exact hn707_0) | (show (Addr.add _ _).block ≠ _; rw [add_block]; exact hn707_0) | exact hn707_0) (.int .i64 t696)).trans hx707_1
                                        replace hx707_2 := (cell_far (p := ⟨gb701, 0, none⟩) (by first | (rw [add_block]; exact hn707_0) | (show (Addr.add _ _).block ≠ _; rw [add_block]; exact hn707_0) | exact hn707_0) (.int .i64 t696)).trans hx707_2
                                        replace hx707_3 := (cell_far (p := ⟨gb701, 0, none⟩) (by first | (rw [add_block]; exact hn707_0) | (show (Addr.add _ _).block ≠ _; rw [add_block]; exact hn707_0) | exact hn707_0) (.int .i64 t696)).trans hx707_3
                                        replace hx707_0 := (cell_far (p := ⟨gb701, 1, none⟩) (by first | (rw [add_block]; exact hn707_1) | (show (Addr.add _ _).block ≠ _; rw [add_block]; exact hn707_1) | exact hn707_1) (.int .i64 t697)).trans hx707_0
                                        replace hx707_1 := (cell_far (p := ⟨gb701, 1, none⟩) (by first | (rw [add_block]; exact hn707_1) | (show (Addr.add _ _).block ≠ _; rw [add_block]; exact hn707_1) | exact hn707_1) (.int .i64 t697)).trans hx707_1
                                        replace hx707_2 := (cell_far (p := ⟨gb701, 1, none⟩) (by first | (rw [add_block]; exact hn707_1) | (show (Addr.add _ _).block ≠ _; rw [add_block]; exact hn707_1) | exact hn707_1) (.int .i64 t697)).trans hx707_2
                                        replace hx707_3 := (cell_far (p := ⟨gb701, 1, none⟩) (by first | (rw [add_block]; exact hn707_1) | (show (Addr.add _ _).block ≠ _; rw [add_block]; exact hn707_1) | exact hn707_1) (.int .i64 t697)).trans hx707_3
                                        replace hx707_0 := (cell_far (p := ⟨gb701, 2, none⟩) (by first | (rw [add_block]; exact hn707_2) | (show (Addr.add _ _).block ≠ _; rw [add_block]; exact hn707_2) | exact hn707_2) (.int .i64 t698)).trans hx707_0
                                        replace hx707_1 := (cell_far (p := ⟨gb701, 2, none⟩) (by first | (rw [add_block]; exact hn707_2) | (show (Addr.add _ _).block ≠ _; rw [add_block]; exact hn707_2) | exact hn707_2) (.int .i64 t698)).trans hx707_1
                                        replace hx707_2 := (cell_far (p := ⟨gb701, 2, none⟩) (by first | (rw [add_block]; exact hn707_2) | (show (Addr.add _ _).block ≠ _; rw [add_block]; exact hn707_2) | exact hn707_2) (.int .i64 t698)).trans hx707_2
                                        replace hx707_3 := (cell_far (p := ⟨gb701, 2, none⟩) (by first | (rw [add_block]; exact hn707_2) | (show (Addr.add _ _).block ≠ _; rw [add_block]; exact hn707_2) | exact hn707_2) (.int .i64 t698)).trans hx707_3
                                        replace hx707_0 := (cell_far (p := ⟨gb701, 3, none⟩) (by first | (rw [add_block]; exact hn707_3) | (show (Addr.add _ _).block ≠ _; rw [add_block]; exact hn707_3) | exact hn707_3) (.bool t699)).trans hx707_0
                                        replace hx707_1 := (cell_far (p := ⟨gb701, 3, none⟩) (by first | (rw [add_block]; exact hn707_3) | (show (Addr.add _ _).block ≠ _; rw [add_block]; exact hn707_3) | exact hn707_3) (.bool t699)).trans hx707_1
                                        replace hx707_2 := (cell_far (p := ⟨gb701, 3, none⟩) (by first | (rw [add_block]; exact hn707_3) | (show (Addr.add _ _).block ≠ _; rw [add_block]; exact hn707_3) | exact hn707_3) (.bool t699)).trans hx707_2
                                        replace hx707_3 := (cell_far (p := ⟨gb701, 3, none⟩) (by first | (rw [add_block]; exact hn707_3) | (show (Addr.add _ _).block ≠ _; rw [add_block]; exact hn707_3) | exact hn707_3) (.bool t699)).trans hx707_3
                                        (try have hy707_0 := fun (n_ : Nat) => (show ((((((w36.drewN n_).setCell ⟨gb701, 0, none⟩ (.int .i64 t696)).setCell ⟨gb701, 1, none⟩ (.int .i64 t697)).setCell ⟨gb701, 2, none⟩ (.int .i64 t698)).setCell ⟨gb701, 3, none⟩ (.bool t699))).cell? _ = some _ from hx707_0))
                                        (try have hy707_1 := fun (n_ : Nat) => (show ((((((w36.drewN n_).setCell ⟨gb701, 0, none⟩ (.int .i64 t696)).setCell ⟨gb701, 1, none⟩ (.int .i64 t697)).setCell ⟨gb701, 2, none⟩ (.int .i64 t698)).setCell ⟨gb701, 3, none⟩ (.bool t699))).cell? _ = some _ from hx707_1))
                                        (try have hy707_2 := fun (n_ : Nat) => (show ((((((w36.drewN n_).setCell ⟨gb701, 0, none⟩ (.int .i64 t696)).setCell ⟨gb701, 1, none⟩ (.int .i64 t697)).setCell ⟨gb701, 2, none⟩ (.int .i64 t698)).setCell ⟨gb701, 3, none⟩ (.bool t699))).cell? _ = some _ from hx707_2))
                                        (try have hy707_3 := fun (n_ : Nat) => (show ((((((w36.drewN n_).setCell ⟨gb701, 0, none⟩ (.int .i64 t696)).setCell ⟨gb701, 1, none⟩ (.int .i64 t697)).setCell ⟨gb701, 2, none⟩ (.int .i64 t698)).setCell ⟨gb701, 3, none⟩ (.bool t699))).cell? _ = some _ from hx707_3))
                                        clear hn707_0
                                        clear hn707_1
                                        clear hn707_2
                                        clear hn707_3
                                        replace p707 := eq_true p707
                                        replace q707 := eq_true q707
                                        go_wp2
                                        repeat (go_quiet (fail); try go_wp2)
                                        go_meet
                                        case rel => exact ⟨_, (false), (by first | rfl | (simp; done) | (simp [*]; done)), H', ⟨by have := HJ4.out; have := HK2.out; have := HJ13.out; first | omega | exact Nat.le_refl _⟩, ⟨by (with_reducible repeat (first | apply Kd.R_alloc | apply Kd.R_drewN | apply Kd.R_drew)); exact Kd.R_mono (Kd.R_far (p := ⟨gb701, 3, none⟩) (Kd.R_far (p := ⟨gb701, 2, none⟩) (Kd.R_far (p := ⟨gb701, 1, none⟩) (Kd.R_far (p := ⟨gb701, 0, none⟩) (Kd.R_types HO_7.out BK701.out (by decide)) (fun _ hk => hk.2) (.int .i64 t696)) (fun _ hk => hk.2) (.int .i64 t697)) (fun _ hk => hk.2) (.int .i64 t698)) (fun _ hk => hk.2) (.bool t699)) (fun _ hk => hk.1)⟩, ⟨by (with_reducible repeat (first | refine blk_drewN ?_ _ | refine blk_drew ?_ | refine blk_alloc ?_ _)); refine blk_far ?_ NB689_701.out _; (with_reducible repeat (first | refine blk_drewN ?_ _ | refine blk_drew ?_ | refine blk_alloc ?_ _)); refine blk_far ?_ NB689_701.out _; (with_reducible repeat (first | refine blk_drewN ?_ _ | refine blk_drew ?_ | refine blk_alloc ?_ _)); refine blk_far ?_ NB689_701.out _; (with_reducible repeat (first | refine blk_drewN ?_ _ | refine blk_drew ?_ | refine blk_alloc ?_ _)); refine blk_far ?_ NB689_701.out _; (with_reducible repeat (first | refine blk_drewN ?_ _ | refine blk_drew ?_ | refine blk_alloc ?_ _)); exact BK689.out⟩, ⟨by (with_reducible repeat (first | refine blk_drewN ?_ _ | refine blk_drew ?_ | refine blk_alloc ?_ _)); refine blk_far ?_ NB695_701.out _; (with_reducible repeat (first | refine blk_drewN ?_ _ | refine blk_drew ?_ | refine blk_alloc ?_ _)); refine blk_far ?_ NB695_701.out _; (with_reducible repeat (first | refine blk_drewN ?_ _ | refine blk_drew ?_ | refine blk_alloc ?_ _)); refine blk_far ?_ NB695_701.out _; (with_reducible repeat (first | refine blk_drewN ?_ _ | refine blk_drew ?_ | refine blk_alloc ?_ _)); refine blk_far ?_ NB695_701.out _; (with_reducible repeat (first | refine blk_drewN ?_ _ | refine blk_drew ?_ | refine blk_alloc ?_ _)); exact BK695.out⟩, ⟨by (with_reducible repeat (first | refine blk_drewN ?_ _ | refine blk_drew ?_ | refine blk_alloc ?_ _)); refine blk_put (cs := #[.int .i64 t696, .int .i64 t697, .int .i64 t698, .bool false]) ?_ 3 _ rfl; (with_reducible repeat (first | refine blk_drewN ?_ _ | refine blk_drew ?_ | refine blk_alloc ?_ _)); refine blk_put (cs := #[.int .i64 t696, .int .i64 t697, .int .i64 0, .bool false]) ?_ 2 _ rfl; (with_reducible repeat (first | refine blk_drewN ?_ _ | refine blk_drew ?_ | refine blk_alloc ?_ _)); refine blk_put (cs := #[.int .i64 t696, .int .i64 0, .int .i64 0, .bool false]) ?_ 1 _ rfl; (with_reducible repeat (first | refine blk_drewN ?_ _ | refine blk_drew ?_ | refine blk_alloc ?_ _)); refine blk_put (cs := #[.int .i64 0, .int .i64 0, .int .i64 0, .bool false]) ?_ 0 _ rfl; (with_reducible repeat (first | refine blk_drewN ?_ _ | refine blk_drew ?_ | refine blk_alloc ?_ _)); exact BK701.out⟩, ⟨by repeat (first | (with_reducible first | exact HB.out | apply below_alloc | apply pw_below_drewN | apply below_drew1 | refine below_set ?_ GE689.out | refine below_set ?_ GE695.out | refine below_set ?_ GE701.out) | exact HB.out)⟩⟩
                                  · rw [if_neg c67] at H
                                    exact absurd H (by simp)
                                · rw [if_neg c66] at H
                                  exact absurd H (by simp)
                              · rw [if_neg c65] at H
                                exact absurd H (by simp)
                            · rw [if_neg c64] at H
                              exact absurd H (by simp)
                          · rw [if_neg c63] at H
                            have c63b0 : (((rd_T76 t685 x8_2).f0) == 3) = false := beq_eq_false_iff_ne.mpr c63
                            have c63b1 : (((rd_T76 t685 x8_2).f0) != 3) = true := bne_iff_ne.mpr c63
                            by_cases c82 : ((rd_T76 t685 x8_2).f0) = 1
                            · rw [if_pos c82] at H
                              have c82b0 : (((rd_T76 t685 x8_2).f0) == 1) = true := beq_iff_eq.mpr c82
                              have c82b1 : (((rd_T76 t685 x8_2).f0) != 1) = false := bne_eq_false_iff_eq.mpr c82
                              clear c82
                              have H' := Aside0.mk H
                              clear H
                              have hnb83 := NB689_695.out
                              have hnc83 := NB695_689.out
                              have hnb84 := NB689_701.out
                              have hnc84 := NB701_689.out
                              have hcz85_0 : w36.cell? ⟨gb689, 0, none⟩ = some (.int .i64 ((rd_T76 t685 x8_2).f0)) := (blk_cell BK689.out 0).trans rfl
                              have hcz85_1 : w36.cell? ⟨gb689, 1, none⟩ = some (.int .i64 ((rd_T76 t685 x8_2).f1)) := (blk_cell BK689.out 1).trans rfl
                              have hcz85_2 : w36.cell? ⟨gb689, 2, none⟩ = some (.int .i64 ((rd_T76 t685 x8_2).f2)) := (blk_cell BK689.out 2).trans rfl
                              have hcz85_3 : w36.cell? ⟨gb689, 3, none⟩ = some (.int .i64 ((rd_T76 t685 x8_2).f3)) := (blk_cell BK689.out 3).trans rfl
                              have hcz85_4 : w36.cell? ⟨gb689, 4, none⟩ = some (.int .i64 ((rd_T76 t685 x8_2).f4)) := (blk_cell BK689.out 4).trans rfl
                              have hfz85_0 := blk_frozen BK689.out 0
                              have hfz85_1 := blk_frozen BK689.out 1
                              have hfz85_2 := blk_frozen BK689.out 2
                              have hfz85_3 := blk_frozen BK689.out 3
                              have hfz85_4 := blk_frozen BK689.out 4
                              have hnb86 := NB695_701.out
                              have hnc86 := NB701_695.out
                              have hcz87_0 : w36.cell? ⟨gb695, 0, none⟩ = some (.int .i64 t690) := (blk_cell BK695.out 0).trans rfl
                              have hcz87_1 : w36.cell? ⟨gb695, 1, none⟩ = some (.int .i64 t691) := (blk_cell BK695.out 1).trans rfl
                              have hcz87_2 : w36.cell? ⟨gb695, 2, none⟩ = some (.int .i64 t692) := (blk_cell BK695.out 2).trans rfl
                              have hcz87_3 : w36.cell? ⟨gb695, 3, none⟩ = some (.bool t693) := (blk_cell BK695.out 3).trans rfl
                              have hfz87_0 := blk_frozen BK695.out 0
                              have hfz87_1 := blk_frozen BK695.out 1
                              have hfz87_2 := blk_frozen BK695.out 2
                              have hfz87_3 := blk_frozen BK695.out 3
                              have hcz88_0 : w36.cell? ⟨gb701, 0, none⟩ = some (.int .i64 0) := (blk_cell BK701.out 0).trans rfl
                              have hcz88_1 : w36.cell? ⟨gb701, 1, none⟩ = some (.int .i64 0) := (blk_cell BK701.out 1).trans rfl
                              have hcz88_2 : w36.cell? ⟨gb701, 2, none⟩ = some (.int .i64 0) := (blk_cell BK701.out 2).trans rfl
                              have hcz88_3 : w36.cell? ⟨gb701, 3, none⟩ = some (.bool false) := (blk_cell BK701.out 3).trans rfl
                              have hfz88_0 := blk_frozen BK701.out 0
                              have hfz88_1 := blk_frozen BK701.out 1
                              have hfz88_2 := blk_frozen BK701.out 2
                              have hfz88_3 := blk_frozen BK701.out 3
                              go_wp2
                              repeat (go_quiet (fail); try go_wp2)
                              go_meet
                              case rel => exact ⟨_, (decide (t692 ≥ t698)), (by first | rfl | (simp; done) | (simp [*]; done)), H', ⟨by have := HJ4.out; have := HK2.out; have := HJ13.out; first | omega | exact Nat.le_refl _⟩, ⟨by (with_reducible repeat (first | apply Kd.R_alloc | apply Kd.R_drewN | apply Kd.R_drew)); exact Kd.R_mono (Kd.R_far (p := ⟨gb701, 3, none⟩) (Kd.R_far (p := ⟨gb701, 2, none⟩) (Kd.R_far (p := ⟨gb701, 1, none⟩) (Kd.R_far (p := ⟨gb701, 0, none⟩) (Kd.R_types HO_7.out BK701.out (by decide)) (fun _ hk => hk.2) (.int .i64 t696)) (fun _ hk => hk.2) (.int .i64 t697)) (fun _ hk => hk.2) (.int .i64 t698)) (fun _ hk => hk.2) (.bool t699)) (fun _ hk => hk.1)⟩, ⟨by (with_reducible repeat (first | refine blk_drewN ?_ _ | refine blk_drew ?_ | refine blk_alloc ?_ _)); refine blk_far ?_ NB689_701.out _; (with_reducible repeat (first | refine blk_drewN ?_ _ | refine blk_drew ?_ | refine blk_alloc ?_ _)); refine blk_far ?_ NB689_701.out _; (with_reducible repeat (first | refine blk_drewN ?_ _ | refine blk_drew ?_ | refine blk_alloc ?_ _)); refine blk_far ?_ NB689_701.out _; (with_reducible repeat (first | refine blk_drewN ?_ _ | refine blk_drew ?_ | refine blk_alloc ?_ _)); refine blk_far ?_ NB689_701.out _; (with_reducible repeat (first | refine blk_drewN ?_ _ | refine blk_drew ?_ | refine blk_alloc ?_ _)); exact BK689.out⟩, ⟨by (with_reducible repeat (first | refine blk_drewN ?_ _ | refine blk_drew ?_ | refine blk_alloc ?_ _)); refine blk_far ?_ NB695_701.out _; (with_reducible repeat (first | refine blk_drewN ?_ _ | refine blk_drew ?_ | refine blk_alloc ?_ _)); refine blk_far ?_ NB695_701.out _; (with_reducible repeat (first | refine blk_drewN ?_ _ | refine blk_drew ?_ | refine blk_alloc ?_ _)); refine blk_far ?_ NB695_701.out _; (with_reducible repeat (first | refine blk_drewN ?_ _ | refine blk_drew ?_ | refine blk_alloc ?_ _)); refine blk_far ?_ NB695_701.out _; (with_reducible repeat (first | refine blk_drewN ?_ _ | refine blk_drew ?_ | refine blk_alloc ?_ _)); exact BK695.out⟩, ⟨by (with_reducible repeat (first | refine blk_drewN ?_ _ | refine blk_drew ?_ | refine blk_alloc ?_ _)); refine blk_put (cs := #[.int .i64 t696, .int .i64 t697, .int .i64 t698, .bool false]) ?_ 3 _ rfl; (with_reducible repeat (first | refine blk_drewN ?_ _ | refine blk_drew ?_ | refine blk_alloc ?_ _)); refine blk_put (cs := #[.int .i64 t696, .int .i64 t697, .int .i64 0, .bool false]) ?_ 2 _ rfl; (with_reducible repeat (first | refine blk_drewN ?_ _ | refine blk_drew ?_ | refine blk_alloc ?_ _)); refine blk_put (cs := #[.int .i64 t696, .int .i64 0, .int .i64 0, .bool false]) ?_ 1 _ rfl; (with_reducible repeat (first | refine blk_drewN ?_ _ | refine blk_drew ?_ | refine blk_alloc ?_ _)); refine blk_put (cs := #[.int .i64 0, .int .i64 0, .int .i64 0, .bool false]) ?_ 0 _ rfl; (with_reducible repeat (first | refine blk_drewN ?_ _ | refine blk_drew ?_ | refine blk_alloc ?_ _)); exact BK701.out⟩, ⟨by repeat (first | (with_reducible first | exact HB.out | apply below_alloc | apply pw_below_drewN | apply below_drew1 | refine below_set ?_ GE689.out | refine below_set ?_ GE695.out | refine below_set ?_ GE701.out) | exact HB.out)⟩⟩
                            · rw [if_neg c82] at H
                              have c82b0 : (((rd_T76 t685 x8_2).f0) == 1) = false := beq_eq_false_iff_ne.mpr c82
                              have c82b1 : (((rd_T76 t685 x8_2).f0) != 1) = true := bne_iff_ne.mpr c82
                              have H' := Aside0.mk H
                              clear H
                              have hnb89 := NB689_695.out
                              have hnc89 := NB695_689.out
                              have hnb90 := NB689_701.out
                              have hnc90 := NB701_689.out
                              have hcz91_0 : w36.cell? ⟨gb689, 0, none⟩ = some (.int .i64 ((rd_T76 t685 x8_2).f0)) := (blk_cell BK689.out 0).trans rfl
                              have hcz91_1 : w36.cell? ⟨gb689, 1, none⟩ = some (.int .i64 ((rd_T76 t685 x8_2).f1)) := (blk_cell BK689.out 1).trans rfl
                              have hcz91_2 : w36.cell? ⟨gb689, 2, none⟩ = some (.int .i64 ((rd_T76 t685 x8_2).f2)) := (blk_cell BK689.out 2).trans rfl
                              have hcz91_3 : w36.cell? ⟨gb689, 3, none⟩ = some (.int .i64 ((rd_T76 t685 x8_2).f3)) := (blk_cell BK689.out 3).trans rfl
                              have hcz91_4 : w36.cell? ⟨gb689, 4, none⟩ = some (.int .i64 ((rd_T76 t685 x8_2).f4)) := (blk_cell BK689.out 4).trans rfl
                              have hfz91_0 := blk_frozen BK689.out 0
                              have hfz91_1 := blk_frozen BK689.out 1
                              have hfz91_2 := blk_frozen BK689.out 2
                              have hfz91_3 := blk_frozen BK689.out 3
                              have hfz91_4 := blk_frozen BK689.out 4
                              go_wp2
                              repeat (go_quiet (fail); try go_wp2)
                              go_meet
                              case rel => exact ⟨_, (false), (by first | rfl | (simp; done) | (simp [*]; done)), H', ⟨by have := HJ4.out; have := HK2.out; have := HJ13.out; first | omega | exact Nat.le_refl _⟩, ⟨by (with_reducible repeat (first | apply Kd.R_alloc | apply Kd.R_drewN | apply Kd.R_drew)); exact Kd.R_mono (Kd.R_far (p := ⟨gb701, 3, none⟩) (Kd.R_far (p := ⟨gb701, 2, none⟩) (Kd.R_far (p := ⟨gb701, 1, none⟩) (Kd.R_far (p := ⟨gb701, 0, none⟩) (Kd.R_types HO_7.out BK701.out (by decide)) (fun _ hk => hk.2) (.int .i64 t696)) (fun _ hk => hk.2) (.int .i64 t697)) (fun _ hk => hk.2) (.int .i64 t698)) (fun _ hk => hk.2) (.bool t699)) (fun _ hk => hk.1)⟩, ⟨by (with_reducible repeat (first | refine blk_drewN ?_ _ | refine blk_drew ?_ | refine blk_alloc ?_ _)); refine blk_far ?_ NB689_701.out _; (with_reducible repeat (first | refine blk_drewN ?_ _ | refine blk_drew ?_ | refine blk_alloc ?_ _)); refine blk_far ?_ NB689_701.out _; (with_reducible repeat (first | refine blk_drewN ?_ _ | refine blk_drew ?_ | refine blk_alloc ?_ _)); refine blk_far ?_ NB689_701.out _; (with_reducible repeat (first | refine blk_drewN ?_ _ | refine blk_drew ?_ | refine blk_alloc ?_ _)); refine blk_far ?_ NB689_701.out _; (with_reducible repeat (first | refine blk_drewN ?_ _ | refine blk_drew ?_ | refine blk_alloc ?_ _)); exact BK689.out⟩, ⟨by (with_reducible repeat (first | refine blk_drewN ?_ _ | refine blk_drew ?_ | refine blk_alloc ?_ _)); refine blk_far ?_ NB695_701.out _; (with_reducible repeat (first | refine blk_drewN ?_ _ | refine blk_drew ?_ | refine blk_alloc ?_ _)); refine blk_far ?_ NB695_701.out _; (with_reducible repeat (first | refine blk_drewN ?_ _ | refine blk_drew ?_ | refine blk_alloc ?_ _)); refine blk_far ?_ NB695_701.out _; (with_reducible repeat (first | refine blk_drewN ?_ _ | refine blk_drew ?_ | refine blk_alloc ?_ _)); refine blk_far ?_ NB695_701.out _; (with_reducible repeat (first | refine blk_drewN ?_ _ | refine blk_drew ?_ | refine blk_alloc ?_ _)); exact BK695.out⟩, ⟨by (with_reducible repeat (first | refine blk_drewN ?_ _ | refine blk_drew ?_ | refine blk_alloc ?_ _)); refine blk_put (cs := #[.int .i64 t696, .int .i64 t697, .int .i64 t698, .bool false]) ?_ 3 _ rfl; (with_reducible repeat (first | refine blk_drewN ?_ _ | refine blk_drew ?_ | refine blk_alloc ?_ _)); refine blk_put (cs := #[.int .i64 t696, .int .i64 t697, .int .i64 0, .bool false]) ?_ 2 _ rfl; (with_reducible repeat (first | refine blk_drewN ?_ _ | refine blk_drew ?_ | refine blk_alloc ?_ _)); refine blk_put (cs := #[.int .i64 t696, .int .i64 0, .int .i64 0, .bool false]) ?_ 1 _ rfl; (with_reducible repeat (first | refine blk_drewN ?_ _ | refine blk_drew ?_ | refine blk_alloc ?_ _)); refine blk_put (cs := #[.int .i64 0, .int .i64 0, .int .i64 0, .bool false]) ?_ 0 _ rfl; (with_reducible repeat (first | refine blk_drewN ?_ _ | refine blk_drew ?_ | refine blk_alloc ?_ _)); exact BK701.out⟩, ⟨by repeat (first | (with_reducible first | exact HB.out | apply below_alloc | apply pw_below_drewN | apply below_drew1 | refine below_set ?_ GE689.out | refine below_set ?_ GE695.out | refine below_set ?_ GE701.out) | exact HB.out)⟩⟩
                      case rest =>
                        clear HC28
                        try clear p2
                        try clear c4
                        try clear c6
                        try clear c7
                        try clear p7
                        try clear q7
                        try clear hx7
                        try clear c8
                        try clear c9
                        try clear c40
                        try clear c40b0
                        try clear c40b1
                        try clear c41
                        try clear c42
                        try clear c43
                        try clear c44
                        try clear c45
                        try clear c45b0
                        try clear c45b1
                        try clear c60
                        try clear c61
                        try clear c63
                        try clear c63b0
                        try clear c63b1
                        try clear c64
                        try clear c64b0
                        try clear c65
                        try clear c65b0
                        try clear c66
                        try clear c66b0
                        try clear c67
                        try clear c67b0
                        try clear c68
                        try clear c68b0
                        try clear c68b1
                        try clear c69
                        try clear c70
                        try clear p70
                        try clear q70
                        try clear hx70
                        try clear c72
                        try clear c72b0
                        try clear c72b1
                        try clear c73
                        try clear c74
                        try clear c76
                        try clear c79
                        try clear c80
                        try clear c82
                        try clear c82b0
                        try clear c82b1
                        try clear c83
                        try clear c84
                        try clear c86
                        try clear c89
                        try clear c90
                        try clear hcz62_0
                        try clear hcz62_1
                        try clear hcz62_2
                        try clear hcz62_3
                        try clear hcz62_4
                        try clear hcz71_0
                        try clear hcz71_1
                        try clear hcz71_2
                        try clear hcz71_3
                        try clear hcz71_4
                        try clear hcz75_0
                        try clear hcz75_1
                        try clear hcz75_2
                        try clear hcz75_3
                        try clear hcz75_4
                        try clear hcz77_0
                        try clear hcz77_1
                        try clear hcz77_2
                        try clear hcz77_3
                        try clear hcz78_0
                        try clear hcz78_1
                        try clear hcz78_2
                        try clear hcz78_3
                        try clear hcz81_0
                        try clear hcz81_1
                        try clear hcz81_2
                        try clear hcz81_3
                        try clear hcz81_4
                        try clear hcz85_0
                        try clear hcz85_1
                        try clear hcz85_2
                        try clear hcz85_3
                        try clear hcz85_4
                        try clear hcz87_0
                        try clear hcz87_1
                        try clear hcz87_2
                        try clear hcz87_3
                        try clear hcz88_0
                        try clear hcz88_1
                        try clear hcz88_2
                        try clear hcz88_3
                        try clear hcz91_0
                        try clear hcz91_1
                        try clear hcz91_2
                        try clear hcz91_3
                        try clear hcz91_4
                        try clear hfz62_0
                        try clear hfz62_1
                        try clear hfz62_2
                        try clear hfz62_3
                        try clear hfz62_4
                        try clear hfz71_0
                        try clear hfz71_1
                        try clear hfz71_2
                        try clear hfz71_3
                        try clear hfz71_4
                        try clear hfz75_0
                        try clear hfz75_1
                        try clear hfz75_2
                        try clear hfz75_3
                        try clear hfz75_4
                        try clear hfz77_0
                        try clear hfz77_1
                        try clear hfz77_2
                        try clear hfz77_3
                        try clear hfz78_0
                        try clear hfz78_1
                        try clear hfz78_2
                        try clear hfz78_3
                        try clear hfz81_0
                        try clear hfz81_1
                        try clear hfz81_2
                        try clear hfz81_3
                        try clear hfz81_4
                        try clear hfz85_0
                        try clear hfz85_1
                        try clear hfz85_2
                        try clear hfz85_3
                        try clear hfz85_4
                        try clear hfz87_0
                        try clear hfz87_1
                        try clear hfz87_2
                        try clear hfz87_3
                        try clear hfz88_0
                        try clear hfz88_1
                        try clear hfz88_2
                        try clear hfz88_3
                        try clear hfz91_0
                        try clear hfz91_1
                        try clear hfz91_2
                        try clear hfz91_3
                        try clear hfz91_4
                        try clear hx702_0
                        try clear hx702_1
                        try clear hx702_2
                        try clear hx702_3
                        try clear hx703_0
                        try clear hx703_1
                        try clear hx703_2
                        try clear hx703_3
                        try clear hx706_0
                        try clear hx706_1
                        try clear hx706_2
                        try clear hx706_3
                        try clear hx707_0
                        try clear hx707_1
                        try clear hx707_2
                        try clear hx707_3
                        try clear p702
                        try clear p703
                        try clear p706
                        try clear p707
                        try clear q702
                        try clear q703
                        try clear q706
                        try clear q707
                        obtain ⟨kq, x126_27, rfl, HA, HJ27, HO_7, BK689, BK695, BK701, HB⟩ := hcut
                        cases kq with
                        | zero => exact absurd HA.out (by simp [cartouchelaw10_EdgesReads.j3])
                        | succ kj27 =>
                          have H := HA.out
                          clear HA
                          simp only [cartouchelaw10_EdgesReads.j3] at H
                          by_cases c92 : x126_27 = true
                          · subst c92
                            have H1 : (some false) = some r := by rw [if_pos rfl] at H; exact H
                            clear H
                            have H := H1
                            clear H1
                            obtain rfl := Option.some.inj H
                            go_wp2
                            repeat (go_quiet (fail); try go_wp2)
                            go_ret
                            exact ⟨by first | rfl | (simp [errW_none, errW_some] <;> rfl) | (simp [*, errW_none, errW_some] <;> rfl), by repeat (first | (with_reducible first | exact HB.out | apply below_alloc | apply pw_below_drewN | apply below_drew1 | refine below_set ?_ GE689.out | refine below_set ?_ GE695.out | refine below_set ?_ GE701.out) | exact HB.out)⟩
                          · replace c92 := Bool.eq_false_iff.mpr c92
                            subst c92
                            have H1 : (cartouchelaw10_EdgesReads.l0 kj27 l0 t681 t685 (wrap64 (x8_2 + 1))) = some r := by rw [if_neg (show ¬ (false = true) by decide)] at H; exact H
                            clear H
                            have H := H1
                            clear H1
                            have H' := Aside0.mk H
                            clear H
                            go_wp2
                            repeat (go_quiet (fail); try go_wp2)
                            go_roundg kj27
                            case measure => have := HJ4.out; have := HK2.out; have := HJ13.out; have := HJ27.out; omega
                            case rel => exact ⟨(wrap64 (x8_2 + 1)), (by first | rfl | (simp; done) | (simp [*]; done)), H', ⟨by have := HJ4.out; have := HK2.out; have := HJ13.out; have := HJ27.out; omega⟩, ⟨by (with_reducible repeat (first | apply Kd.R_alloc | apply Kd.R_drewN | apply Kd.R_drew)); exact Kd.R_mono HO_7.out (fun _ hk => trivial)⟩, ⟨by repeat (first | (with_reducible first | exact HB.out | apply below_alloc | apply pw_below_drewN | apply below_drew1 | refine below_set ?_ GE689.out | refine below_set ?_ GE695.out | refine below_set ?_ GE701.out) | exact HB.out)⟩⟩
              · rw [if_neg c13] at H
                exact absurd H (by simp)
            · rw [if_neg c12] at H
              have c12b0 : decide (x8_2 < (t685.length : Int)) = false := decide_eq_false c12
              clear c12
              obtain rfl := Option.some.inj H
              obtain ⟨Ao93, co93, eo93⟩ := Kd.R_slice HO_7.out
              subst eo93
              go_wp2
              repeat (go_quiet (fail); try go_wp2)
              go_ret
              exact ⟨by first | rfl | (simp [errW_none, errW_some] <;> rfl) | (simp [*, errW_none, errW_some] <;> rfl), by repeat (first | (with_reducible first | exact HB.out | apply below_alloc | apply pw_below_drewN | apply below_drew1) | exact HB.out)⟩

end Go.Proofs.YthjgmccpbcelgaaPr
