/- Contracts of Go functions, printed by a program of this session over the translation: each call answers what its Lean function says. -/
import Derived.Test.YtebjiimlcnmfpaaGreatPr0
import Derived.Test.YtebjiimlcnmfpaaGreatPrCartoucheref10Nodes
import Derived.Test.YtebjiimlcnmfpaaGreatPrCartouchelaw13Shown
import Derived.Test.YtebjiimlcnmfpaaGreatPrCartouchelaw13Few
import Derived.Test.YtebjiimlcnmfpaaGreatB15
namespace Go.Proofs.YtebjiimlcnmfpaaGreatPr
open Go.RowKit Go.Proofs.YtebjiimlcnmfpaaGreatW.PrintWords Go.Proofs.YtebjiimlcnmfpaaGreatW.PrintLast Go.Proofs.YtebjiimlcnmfpaaGreatW.PrintMore
attribute [local go_sem] max2_int min2_int max_two min_two max_three min_three max_four min_four   -- for this text's walks alone
set_option linter.unusedVariables false
set_option linter.unusedSimpArgs false
/-! ### cartouchelaw13_CheckNodes: function 15 -/
mutual
def cartouchelaw13_CheckNodes.j0 : Nat → List (S50) → List Int → Bool → Bool → Option (Bool)
 | 0, _, _, _, _ => none
 | k + 1, x0, x2, x7, x29 => if x29 = true then (some x7) else ((cartoucheref10_Nodes.f k x0).bind fun t709 => (if (t709.length : Int) = (x2.length : Int) then (cartouchelaw13_CheckNodes.l0 k x2 x7 t709 0) else (some false)))
def cartouchelaw13_CheckNodes.l0 : Nat → List Int → Bool → List Int → Int → Option (Bool)
 | 0, _, _, _, _ => none
 | k + 1, x2, x7, x9, x10 => if x10 < (x9.length : Int) then (cartouchelaw13_CheckNodes.l1 k x2 x7 x9 x10 0 0) else (some x7)
def cartouchelaw13_CheckNodes.l1 : Nat → List Int → Bool → List Int → Int → Int → Int → Option (Bool)
 | 0, _, _, _, _, _, _ => none
 | k + 1, x2, x7, x9, x10, x11, x12 => if x12 < (x2.length : Int) then (if 0 ≤ x12 then (if 0 ≤ x10 then (if x10 < (x9.length : Int) then (if (rd x2 x12) = (rd x9 x10) then (cartouchelaw13_CheckNodes.l1 k x2 x7 x9 x10 (wrap64 (x11 + 1)) (wrap64 (x12 + 1))) else (cartouchelaw13_CheckNodes.l1 k x2 x7 x9 x10 x11 (wrap64 (x12 + 1)))) else (none)) else (none)) else (none)) else (if x11 = 1 then (cartouchelaw13_CheckNodes.l0 k x2 x7 x9 (wrap64 (x10 + 1))) else (some false))
end
def cartouchelaw13_CheckNodes.f (k : Nat) (l0 : List (S50)) (a1 : Int) (l2 : List Int) : Option (Bool) := (cartouchelaw13_shown.f).bind fun t706 => ((cartouchelaw13_few.f k l0).bind fun t707 => (if t707 = true then (if (l2.length : Int) > 100 then (cartouchelaw13_CheckNodes.j0 k l0 l2 t706 true) else ((check_Ahead.f l0 a1 l2).bind fun t708 => (cartouchelaw13_CheckNodes.j0 k l0 l2 t706 (!t708)))) else (cartouchelaw13_CheckNodes.j0 k l0 l2 t706 true)))
theorem cartouchelaw13_CheckNodes.mono_l : ∀ k, (∀ y0 y1 y2 y3, LeO (cartouchelaw13_CheckNodes.j0 k y0 y1 y2 y3) (cartouchelaw13_CheckNodes.j0 (k + 1) y0 y1 y2 y3)) ∧ (∀ y0 y1 y2 y3, LeO (cartouchelaw13_CheckNodes.l0 k y0 y1 y2 y3) (cartouchelaw13_CheckNodes.l0 (k + 1) y0 y1 y2 y3)) ∧ (∀ y0 y1 y2 y3 y4 y5, LeO (cartouchelaw13_CheckNodes.l1 k y0 y1 y2 y3 y4 y5) (cartouchelaw13_CheckNodes.l1 (k + 1) y0 y1 y2 y3 y4 y5))
 | 0 => ⟨fun _ _ _ _ r h => by simp [cartouchelaw13_CheckNodes.j0] at h, fun _ _ _ _ r h => by simp [cartouchelaw13_CheckNodes.l0] at h, fun _ _ _ _ _ _ r h => by simp [cartouchelaw13_CheckNodes.l1] at h⟩
 | k + 1 => by
  obtain ⟨ih0, ih1, ih2⟩ := cartouchelaw13_CheckNodes.mono_l k
  refine ⟨?_, ?_, ?_⟩
  · intro y0 y1 y2 y3
    unfold cartouchelaw13_CheckNodes.j0
    repeat' first
    | (with_reducible exact ih0 _ _ _ _)
    | (with_reducible exact ih1 _ _ _ _)
    | (with_reducible exact ih2 _ _ _ _ _ _)
    | (with_reducible exact cartouchelaw13_few.mono _ _)
    | (with_reducible exact cartoucheref10_Nodes.mono _ _)
    | (with_reducible exact LeO.refl _)
    | (with_reducible exact LeO.none _)
    | (with_reducible refine LeO.ite ?_ ?_)
    | (with_reducible refine LeO.bind ?_ (fun _ => ?_))
    | exact ih0 _ _ _ _
    | exact ih1 _ _ _ _
    | exact ih2 _ _ _ _ _ _
    | exact cartouchelaw13_few.mono _ _
    | exact cartoucheref10_Nodes.mono _ _
    | exact LeO.none _
    | refine LeO.ite ?_ ?_
    | refine LeO.bind ?_ (fun _ => ?_)
  · intro y0 y1 y2 y3
    unfold cartouchelaw13_CheckNodes.l0
    repeat' first
    | (with_reducible exact ih0 _ _ _ _)
    | (with_reducible exact ih1 _ _ _ _)
    | (with_reducible exact ih2 _ _ _ _ _ _)
    | (with_reducible exact cartouchelaw13_few.mono _ _)
    | (with_reducible exact cartoucheref10_Nodes.mono _ _)
    | (with_reducible exact LeO.refl _)
    | (with_reducible exact LeO.none _)
    | (with_reducible refine LeO.ite ?_ ?_)
    | (with_reducible refine LeO.bind ?_ (fun _ => ?_))
    | exact ih0 _ _ _ _
    | exact ih1 _ _ _ _
    | exact ih2 _ _ _ _ _ _
    | exact cartouchelaw13_few.mono _ _
    | exact cartoucheref10_Nodes.mono _ _
    | exact LeO.none _
    | refine LeO.ite ?_ ?_
    | refine LeO.bind ?_ (fun _ => ?_)
  · intro y0 y1 y2 y3 y4 y5
    unfold cartouchelaw13_CheckNodes.l1
    repeat' first
    | (with_reducible exact ih0 _ _ _ _)
    | (with_reducible exact ih1 _ _ _ _)
    | (with_reducible exact ih2 _ _ _ _ _ _)
    | (with_reducible exact cartouchelaw13_few.mono _ _)
    | (with_reducible exact cartoucheref10_Nodes.mono _ _)
    | (with_reducible exact LeO.refl _)
    | (with_reducible exact LeO.none _)
    | (with_reducible refine LeO.ite ?_ ?_)
    | (with_reducible refine LeO.bind ?_ (fun _ => ?_))
    | exact ih0 _ _ _ _
    | exact ih1 _ _ _ _
    | exact ih2 _ _ _ _ _ _
    | exact cartouchelaw13_few.mono _ _
    | exact cartoucheref10_Nodes.mono _ _
    | exact LeO.none _
    | refine LeO.ite ?_ ?_
    | refine LeO.bind ?_ (fun _ => ?_)
theorem cartouchelaw13_CheckNodes.mono : ∀ a0 a1 a2 k, LeO (cartouchelaw13_CheckNodes.f k a0 a1 a2) (cartouchelaw13_CheckNodes.f (k + 1) a0 a1 a2) := by
 intro a0 a1 a2 k
 obtain ⟨ih0, ih1, ih2⟩ := cartouchelaw13_CheckNodes.mono_l k
 unfold cartouchelaw13_CheckNodes.f
 repeat' first
  | (with_reducible exact ih0 _ _ _ _)
  | (with_reducible exact ih1 _ _ _ _)
  | (with_reducible exact ih2 _ _ _ _ _ _)
  | (with_reducible exact cartouchelaw13_few.mono _ _)
  | (with_reducible exact cartoucheref10_Nodes.mono _ _)
  | (with_reducible exact LeO.refl _)
  | (with_reducible exact LeO.none _)
  | (with_reducible refine LeO.ite ?_ ?_)
  | (with_reducible refine LeO.bind ?_ (fun _ => ?_))
  | exact ih0 _ _ _ _
  | exact ih1 _ _ _ _
  | exact ih2 _ _ _ _ _ _
  | exact cartouchelaw13_few.mono _ _
  | exact cartoucheref10_Nodes.mono _ _
  | exact LeO.none _
  | refine LeO.ite ?_ ?_
  | refine LeO.bind ?_ (fun _ => ?_)
set_option maxHeartbeats 8000000 in
set_option maxRecDepth 100000 in
theorem cartouchelaw13_CheckNodes.calls (k : Nat) (A0 : Option Addr) (c0 : Nat) (l0 : List (S50)) (a1 : Int) (A2 : Option Addr) (c2 : Nat) (l2 : List Int) (r : Bool) (w : World) (hr0 : Kd.C k50 w A0 l0.length l0) (hc0 : l0.length ≤ c0) (hr2 : Kd.C (Kd.int .i64) w A2 l2.length l2) (hc2 : l2.length ≤ c2) (h : cartouchelaw13_CheckNodes.f k l0 a1 l2 = some r) :
 Calls Tryz.prog 15 #[.slice A0 l0.length c0, .int .i64 a1, .slice A2 l2.length c2] w fun e w' => e = .returned (.bool r) ∧ Below w.heap.size w w' := by
 have HR0 := Aside0.mk hr0
 have HC0 := Aside0.mk hc0
 clear hr0 hc0
 have HR2 := Aside0.mk hr2
 have HC2 := Aside0.mk hc2
 clear hr2 hc2
 have HB := Aside0.mk (Below.refl w.heap.size w)
 have H : ((cartouchelaw13_shown.f).bind fun t706 => ((cartouchelaw13_few.f k l0).bind fun t707 => (if t707 = true then (if (l2.length : Int) > 100 then (cartouchelaw13_CheckNodes.j0 k l0 l2 t706 true) else ((check_Ahead.f l0 a1 l2).bind fun t708 => (cartouchelaw13_CheckNodes.j0 k l0 l2 t706 (!t708)))) else (cartouchelaw13_CheckNodes.j0 k l0 l2 t706 true)))) = some r := h
 clear h
 replace H := Option.bind_eq_some_iff.mp H
 obtain ⟨t706, A40, H⟩ := H
 replace H : ((cartouchelaw13_few.f k l0).bind fun t707 => (if t707 = true then (if (l2.length : Int) > 100 then (cartouchelaw13_CheckNodes.j0 k l0 l2 t706 true) else ((check_Ahead.f l0 a1 l2).bind fun t708 => (cartouchelaw13_CheckNodes.j0 k l0 l2 t706 (!t708)))) else (cartouchelaw13_CheckNodes.j0 k l0 l2 t706 true))) = some r := H
 have A4 := Aside0.mk A40
 clear A40
 replace H := Option.bind_eq_some_iff.mp H
 obtain ⟨t707, A50, H⟩ := H
 replace H : (if t707 = true then (if (l2.length : Int) > 100 then (cartouchelaw13_CheckNodes.j0 k l0 l2 t706 true) else ((check_Ahead.f l0 a1 l2).bind fun t708 => (cartouchelaw13_CheckNodes.j0 k l0 l2 t706 (!t708)))) else (cartouchelaw13_CheckNodes.j0 k l0 l2 t706 true)) = some r := H
 have A5 := Aside0.mk A50
 clear A50
 have HC6 := Aside0.mk H
 clear H
 go_enter Tryz.func15, Tryz.ntmps15
 go_upto_region 3 with (first | (go_at_call 36; (with_reducible refine (cartouchelaw13_shown.calls  t706 _ A4.out).mono ?_); rintro e w7 ⟨rfl, hb⟩; have n0_ := Aside0.mk (below_step (by repeat (first | (with_reducible first | exact HB.out | apply below_alloc | apply pw_below_drewN | apply below_drew1) | exact HB.out)) hb); clear HB; have HB := n0_; clear n0_; (try clear hb); (try clear hb2); (try clear hk); (try clear hi)) | (go_at_call 37; (with_reducible refine (cartouchelaw13_few.calls k _ _ l0 t707 _ ?side1 ?side2 A5.out).mono ?_); (case side1 => repeat (first | exact (Kd.C_below HR0.out HB.out) | (with_reducible refine Kd.C_alloc ?_ _) | (with_reducible refine Kd.C_drewN ?_ _) | (with_reducible refine Kd.C_drew ?_))); (case side2 => exact HC0.out); rintro e w' ⟨rfl, ⟨nd, rfl⟩⟩; (try first | exact ⟨rfl, _, World.drewN_drewN _ _ _⟩ | exact ⟨rfl, _, Eq.trans (World.drewN_drewN _ _ _) (congrArg (World.drewN _) (Nat.add_assoc _ _ _))⟩)))
 repeat (go_quiet (first | (go_at_call 36; (with_reducible refine (cartouchelaw13_shown.calls  t706 _ A4.out).mono ?_); rintro e w7 ⟨rfl, hb⟩; have n0_ := Aside0.mk (below_step (by repeat (first | (with_reducible first | exact HB.out | apply below_alloc | apply pw_below_drewN | apply below_drew1) | exact HB.out)) hb); clear HB; have HB := n0_; clear n0_; (try clear hb); (try clear hb2); (try clear hk); (try clear hi)) | (go_at_call 37; (with_reducible refine (cartouchelaw13_few.calls k _ _ l0 t707 _ ?side1 ?side2 A5.out).mono ?_); (case side1 => repeat (first | exact (Kd.C_below HR0.out HB.out) | (with_reducible refine Kd.C_alloc ?_ _) | (with_reducible refine Kd.C_drewN ?_ _) | (with_reducible refine Kd.C_drew ?_))); (case side2 => exact HC0.out); rintro e w' ⟨rfl, ⟨nd, rfl⟩⟩; (try first | exact ⟨rfl, _, World.drewN_drewN _ _ _⟩ | exact ⟨rfl, _, Eq.trans (World.drewN_drewN _ _ _) (congrArg (World.drewN _) (Nat.add_assoc _ _ _))⟩))); go_upto_region 3 with (first | (go_at_call 36; (with_reducible refine (cartouchelaw13_shown.calls  t706 _ A4.out).mono ?_); rintro e w7 ⟨rfl, hb⟩; have n0_ := Aside0.mk (below_step (by repeat (first | (with_reducible first | exact HB.out | apply below_alloc | apply pw_below_drewN | apply below_drew1) | exact HB.out)) hb); clear HB; have HB := n0_; clear n0_; (try clear hb); (try clear hb2); (try clear hk); (try clear hi)) | (go_at_call 37; (with_reducible refine (cartouchelaw13_few.calls k _ _ l0 t707 _ ?side1 ?side2 A5.out).mono ?_); (case side1 => repeat (first | exact (Kd.C_below HR0.out HB.out) | (with_reducible refine Kd.C_alloc ?_ _) | (with_reducible refine Kd.C_drewN ?_ _) | (with_reducible refine Kd.C_drew ?_))); (case side2 => exact HC0.out); rintro e w' ⟨rfl, ⟨nd, rfl⟩⟩; (try first | exact ⟨rfl, _, World.drewN_drewN _ _ _⟩ | exact ⟨rfl, _, Eq.trans (World.drewN_drewN _ _ _) (congrArg (World.drewN _) (Nat.add_assoc _ _ _))⟩))))
 (try simp only [Act.put, List.setIfInBounds_toArray, List.set_cons_zero, List.set_cons_succ])
 go_cut [29] (fun v29 wc => ∃ (kq : Nat) (x29_5 : Bool), v29 = .bool x29_5 ∧ Aside0 (cartouchelaw13_CheckNodes.j0 kq l0 l2 t706 x29_5 = some r) ∧ Aside0 (kq ≤ k) ∧ Aside0 (Below w.heap.size w wc))
 case first =>
  have H := HC6.out
  clear HC6
  by_cases c8 : t707 = true
  · subst c8
    have H1 : (if (l2.length : Int) > 100 then (cartouchelaw13_CheckNodes.j0 k l0 l2 t706 true) else ((check_Ahead.f l0 a1 l2).bind fun t708 => (cartouchelaw13_CheckNodes.j0 k l0 l2 t706 (!t708)))) = some r := by rw [if_pos rfl] at H; exact H
    clear H
    have H := H1
    clear H1
    by_cases c9 : (l2.length : Int) > 100
    · rw [if_pos c9] at H
      have c9b0 : decide (100 < (l2.length : Int)) = true := decide_eq_true c9
      have c9b1 : decide (100 < l2.length) = true := decide_eq_true (by omega)
      clear c9
      (first | rw [c9b0] | (simp only [i64_w, i32_w]; rw [c9b0]) | skip)
      have H' := Aside0.mk H
      clear H
      go_wp2
      repeat (go_quiet (fail); try go_wp2)
      go_meet
      case rel => exact ⟨_, (true), (by first | rfl | (simp; done) | (simp [*]; done)), H', ⟨by first | omega | exact Nat.le_refl _⟩, ⟨by repeat (first | (with_reducible first | exact HB.out | apply below_alloc | apply pw_below_drewN | apply below_drew1) | exact HB.out)⟩⟩
    · rw [if_neg c9] at H
      have c9b0 : decide (100 < (l2.length : Int)) = false := decide_eq_false c9
      have c9b1 : decide (100 < l2.length) = false := decide_eq_false (by omega)
      clear c9
      (first | rw [c9b0] | (simp only [i64_w, i32_w]; rw [c9b0]) | skip)
      replace H := Option.bind_eq_some_iff.mp H
      obtain ⟨t708, A100, H⟩ := H
      replace H : (cartouchelaw13_CheckNodes.j0 k l0 l2 t706 (!t708)) = some r := H
      have A10 := Aside0.mk A100
      clear A100
      have H' := Aside0.mk H
      clear H
      go_wp2_with (first | (go_at_call 40; (with_reducible refine (check_Ahead.calls _ _ l0 a1 _ _ l2 t708 _ ?side1 ?side2 ?side3 ?side4 A10.out).mono ?_); (case side1 => repeat (first | exact (Kd.C_below HR0.out HB.out) | (with_reducible refine Kd.C_alloc ?_ _) | (with_reducible refine Kd.C_drewN ?_ _) | (with_reducible refine Kd.C_drew ?_))); (case side2 => exact HC0.out); (case side3 => repeat (first | exact (Kd.C_below HR2.out HB.out) | (with_reducible refine Kd.C_alloc ?_ _) | (with_reducible refine Kd.C_drewN ?_ _) | (with_reducible refine Kd.C_drew ?_))); (case side4 => exact HC2.out); rintro e w11 ⟨rfl, hb⟩; have n0_ := Aside0.mk (below_step (by repeat (first | (with_reducible first | exact HB.out | apply below_alloc | apply pw_below_drewN | apply below_drew1) | exact HB.out)) hb); clear HB; have HB := n0_; clear n0_; (try clear hb); (try clear hb2); (try clear hk); (try clear hi)))
      repeat (go_quiet (first | (go_at_call 40; (with_reducible refine (check_Ahead.calls _ _ l0 a1 _ _ l2 t708 _ ?side1 ?side2 ?side3 ?side4 A10.out).mono ?_); (case side1 => repeat (first | exact (Kd.C_below HR0.out HB.out) | (with_reducible refine Kd.C_alloc ?_ _) | (with_reducible refine Kd.C_drewN ?_ _) | (with_reducible refine Kd.C_drew ?_))); (case side2 => exact HC0.out); (case side3 => repeat (first | exact (Kd.C_below HR2.out HB.out) | (with_reducible refine Kd.C_alloc ?_ _) | (with_reducible refine Kd.C_drewN ?_ _) | (with_reducible refine Kd.C_drew ?_))); (case side4 => exact HC2.out); rintro e w11 ⟨rfl, hb⟩; have n0_ := Aside0.mk (below_step (by repeat (first | (with_reducible first | exact HB.out | apply below_alloc | apply pw_below_drewN | apply below_drew1) | exact HB.out)) hb); clear HB; have HB := n0_; clear n0_; (try clear hb); (try clear hb2); (try clear hk); (try clear hi))); try go_wp2_with (first | (go_at_call 40; (with_reducible refine (check_Ahead.calls _ _ l0 a1 _ _ l2 t708 _ ?side1 ?side2 ?side3 ?side4 A10.out).mono ?_); (case side1 => repeat (first | exact (Kd.C_below HR0.out HB.out) | (with_reducible refine Kd.C_alloc ?_ _) | (with_reducible refine Kd.C_drewN ?_ _) | (with_reducible refine Kd.C_drew ?_))); (case side2 => exact HC0.out); (case side3 => repeat (first | exact (Kd.C_below HR2.out HB.out) | (with_reducible refine Kd.C_alloc ?_ _) | (with_reducible refine Kd.C_drewN ?_ _) | (with_reducible refine Kd.C_drew ?_))); (case side4 => exact HC2.out); rintro e w11 ⟨rfl, hb⟩; have n0_ := Aside0.mk (below_step (by repeat (first | (with_reducible first | exact HB.out | apply below_alloc | apply pw_below_drewN | apply below_drew1) | exact HB.out)) hb); clear HB; have HB := n0_; clear n0_; (try clear hb); (try clear hb2); (try clear hk); (try clear hi))))
      go_meet
      case rel => exact ⟨_, (!t708), (by first | rfl | (simp; done) | (simp [*]; done)), H', ⟨by first | omega | exact Nat.le_refl _⟩, ⟨by repeat (first | (with_reducible first | exact HB.out | apply below_alloc | apply pw_below_drewN | apply below_drew1) | exact HB.out)⟩⟩
  · replace c8 := Bool.eq_false_iff.mpr c8
    subst c8
    have H1 : (cartouchelaw13_CheckNodes.j0 k l0 l2 t706 true) = some r := by rw [if_neg (show ¬ (false = true) by decide)] at H; exact H
    clear H
    have H := H1
    clear H1
    have H' := Aside0.mk H
    clear H
    go_wp2
    repeat (go_quiet (fail); try go_wp2)
    go_meet
    case rel => exact ⟨_, (true), (by first | rfl | (simp; done) | (simp [*]; done)), H', ⟨by first | omega | exact Nat.le_refl _⟩, ⟨by repeat (first | (with_reducible first | exact HB.out | apply below_alloc | apply pw_below_drewN | apply below_drew1) | exact HB.out)⟩⟩
 case rest =>
  clear HC6
  try clear c1
  try clear c2
  try clear p2
  try clear c8
  try clear c9
  try clear c9b0
  try clear c9b1
  obtain ⟨kq, x29_5, rfl, HA, HJ5, HB⟩ := hcut
  cases kq with
  | zero => exact absurd HA.out (by simp [cartouchelaw13_CheckNodes.j0])
  | succ kj5 =>
   have H := HA.out
   clear HA
   simp only [cartouchelaw13_CheckNodes.j0] at H
   by_cases c12 : x29_5 = true
   · subst c12
     have H1 : (some t706) = some r := by rw [if_pos rfl] at H; exact H
     clear H
     have H := H1
     clear H1
     obtain rfl := Option.some.inj H
     go_wp2
     repeat (go_quiet (fail); try go_wp2)
     go_ret
     exact ⟨by first | rfl | (simp [errW_none, errW_some] <;> rfl) | (simp [*, errW_none, errW_some] <;> rfl), by repeat (first | (with_reducible first | exact HB.out | apply below_alloc | apply pw_below_drewN | apply below_drew1) | exact HB.out)⟩
   · replace c12 := Bool.eq_false_iff.mpr c12
     subst c12
     have H1 : ((cartoucheref10_Nodes.f kj5 l0).bind fun t709 => (if (t709.length : Int) = (l2.length : Int) then (cartouchelaw13_CheckNodes.l0 kj5 l2 t706 t709 0) else (some false))) = some r := by rw [if_neg (show ¬ (false = true) by decide)] at H; exact H
     clear H
     have H := H1
     clear H1
     replace H := Option.bind_eq_some_iff.mp H
     obtain ⟨t709, A130, H⟩ := H
     replace H : (if (t709.length : Int) = (l2.length : Int) then (cartouchelaw13_CheckNodes.l0 kj5 l2 t706 t709 0) else (some false)) = some r := H
     have A13 := Aside0.mk A130
     clear A130
     by_cases c14 : (t709.length : Int) = (l2.length : Int)
     · rw [if_pos c14] at H
       have c14b0 : ((t709.length : Int) == (l2.length : Int)) = true := beq_iff_eq.mpr c14
       have c14b1 : ((t709.length : Int) != (l2.length : Int)) = false := bne_eq_false_iff_eq.mpr c14
       have c14b2 : (t709.length == l2.length) = true := by first | simpa using c14 | (simp at c14 ⊢; omega)
       clear c14
       have H' := Aside0.mk H
       clear H
       go_wp2_with (first | (go_at_call 25; (with_reducible refine (cartoucheref10_Nodes.calls kj5 _ _ l0 t709 _ ?side1 ?side2 A13.out).mono ?_); (case side1 => repeat (first | exact (Kd.C_below HR0.out HB.out) | (with_reducible refine Kd.C_alloc ?_ _) | (with_reducible refine Kd.C_drewN ?_ _) | (with_reducible refine Kd.C_drew ?_))); (case side2 => exact HC0.out); rintro e w15 ⟨v710, rfl, ho0, hb⟩; have n0_ := Aside0.mk (Kd.R_lower ho0 (below_size (by repeat (first | (with_reducible first | exact HB.out | apply below_alloc | apply pw_below_drewN | apply below_drew1) | exact HB.out)))); have n1_ := Aside0.mk (below_step (by repeat (first | (with_reducible first | exact HB.out | apply below_alloc | apply pw_below_drewN | apply below_drew1) | exact HB.out)) hb); clear HB; have HO711 := n0_; have HB := n1_; clear n0_ n1_; (try clear hb); (try clear hb2); (try clear hk); (try clear hi); (try clear ho0); obtain ⟨Ao16, co16, eo16⟩ := Kd.R_slice HO711.out; subst eo16))
       repeat (go_quiet (first | (go_at_call 25; (with_reducible refine (cartoucheref10_Nodes.calls kj5 _ _ l0 t709 _ ?side1 ?side2 A13.out).mono ?_); (case side1 => repeat (first | exact (Kd.C_below HR0.out HB.out) | (with_reducible refine Kd.C_alloc ?_ _) | (with_reducible refine Kd.C_drewN ?_ _) | (with_reducible refine Kd.C_drew ?_))); (case side2 => exact HC0.out); rintro e w15 ⟨v710, rfl, ho0, hb⟩; have n0_ := Aside0.mk (Kd.R_lower ho0 (below_size (by repeat (first | (with_reducible first | exact HB.out | apply below_alloc | apply pw_below_drewN | apply below_drew1) | exact HB.out)))); have n1_ := Aside0.mk (below_step (by repeat (first | (with_reducible first | exact HB.out | apply below_alloc | apply pw_below_drewN | apply below_drew1) | exact HB.out)) hb); clear HB; have HO711 := n0_; have HB := n1_; clear n0_ n1_; (try clear hb); (try clear hb2); (try clear hk); (try clear hi); (try clear ho0); obtain ⟨Ao16, co16, eo16⟩ := Kd.R_slice HO711.out; subst eo16)); try go_wp2_with (first | (go_at_call 25; (with_reducible refine (cartoucheref10_Nodes.calls kj5 _ _ l0 t709 _ ?side1 ?side2 A13.out).mono ?_); (case side1 => repeat (first | exact (Kd.C_below HR0.out HB.out) | (with_reducible refine Kd.C_alloc ?_ _) | (with_reducible refine Kd.C_drewN ?_ _) | (with_reducible refine Kd.C_drew ?_))); (case side2 => exact HC0.out); rintro e w15 ⟨v710, rfl, ho0, hb⟩; have n0_ := Aside0.mk (Kd.R_lower ho0 (below_size (by repeat (first | (with_reducible first | exact HB.out | apply below_alloc | apply pw_below_drewN | apply below_drew1) | exact HB.out)))); have n1_ := Aside0.mk (below_step (by repeat (first | (with_reducible first | exact HB.out | apply below_alloc | apply pw_below_drewN | apply below_drew1) | exact HB.out)) hb); clear HB; have HO711 := n0_; have HB := n1_; clear n0_ n1_; (try clear hb); (try clear hb2); (try clear hk); (try clear hi); (try clear ho0); obtain ⟨Ao16, co16, eo16⟩ := Kd.R_slice HO711.out; subst eo16)))
       go_loopg [10] kj5 (fun kq v10 w' => ∃ (x10_2 : Int), v10 = .int .i64 x10_2 ∧ Aside0 (cartouchelaw13_CheckNodes.l0 kq l2 t706 t709 x10_2 = some r) ∧ Aside0 (kq ≤ kj5) ∧ Aside0 (Kd.R (Kd.int .i64) 3 w' w.heap.size (fun _ => True) (.slice Ao16 t709.length co16) t709) ∧ Aside0 (Below w.heap.size w w'))
       case atStart => exact ⟨(0), (by first | rfl | (simp; done) | (simp [*]; done)), H', ⟨Nat.le_refl _⟩, ⟨by (with_reducible repeat (first | apply Kd.R_alloc | apply Kd.R_drewN | apply Kd.R_drew)); exact HO711.out⟩, ⟨by repeat (first | (with_reducible first | exact HB.out | apply below_alloc | apply pw_below_drewN | apply below_drew1) | exact HB.out)⟩⟩
       case round =>
        clear H'
        try clear c1
        try clear c2
        try clear p2
        try clear c8
        try clear c9
        try clear c9b0
        try clear c9b1
        try clear c12
        try clear c14
        try clear c14b0
        try clear c14b1
        try clear c14b2
        try clear c15
        try clear p2
        obtain ⟨x10_2, rfl, HA, HK2, HO_9, HB⟩ := hrel
        cases gk with
        | zero => exact absurd HA.out (by simp [cartouchelaw13_CheckNodes.l0])
        | succ k2 =>
         have H := HA.out
         clear HA
         simp only [cartouchelaw13_CheckNodes.l0] at H
         by_cases c17 : x10_2 < (t709.length : Int)
         · rw [if_pos c17] at H
           have c17b0 : decide (x10_2 < (t709.length : Int)) = true := decide_eq_true c17
           clear c17
           have H' := Aside0.mk H
           clear H
           go_wp2
           repeat (go_quiet (fail); try go_wp2)
           go_loopg [11, 12] k2 (fun kq v11 v12 w' => ∃ (x11_3 : Int) (x12_3 : Int), v11 = .int .i64 x11_3 ∧ v12 = .int .i64 x12_3 ∧ Aside0 (cartouchelaw13_CheckNodes.l1 kq l2 t706 t709 x10_2 x11_3 x12_3 = some r) ∧ Aside0 (kq ≤ k2) ∧ Aside0 (Kd.R (Kd.int .i64) 3 w' w.heap.size (fun _ => True) (.slice Ao16 t709.length co16) t709) ∧ Aside0 (Below w.heap.size w w'))
           case atStart => exact ⟨(0), (0), (by first | rfl | (simp; done) | (simp [*]; done)), (by first | rfl | (simp; done) | (simp [*]; done)), H', ⟨Nat.le_refl _⟩, ⟨by (with_reducible repeat (first | apply Kd.R_alloc | apply Kd.R_drewN | apply Kd.R_drew)); exact HO_9.out⟩, ⟨by repeat (first | (with_reducible first | exact HB.out | apply below_alloc | apply pw_below_drewN | apply below_drew1) | exact HB.out)⟩⟩
           case round =>
            clear H'
            try clear c1
            try clear c2
            try clear p2
            try clear c8
            try clear c9
            try clear c9b0
            try clear c9b1
            try clear c12
            try clear c14
            try clear c14b0
            try clear c14b1
            try clear c14b2
            try clear c15
            try clear c17
            try clear c17b0
            try clear p2
            obtain ⟨x11_3, x12_3, rfl, rfl, HA, HK3, HO_9, HB⟩ := hrel
            cases gk with
            | zero => exact absurd HA.out (by simp [cartouchelaw13_CheckNodes.l1])
            | succ k3 =>
             have H := HA.out
             clear HA
             simp only [cartouchelaw13_CheckNodes.l1] at H
             by_cases c18 : x12_3 < (l2.length : Int)
             · rw [if_pos c18] at H
               have c18b0 : decide (x12_3 < (l2.length : Int)) = true := decide_eq_true c18
               clear c18
               by_cases c19 : 0 ≤ x12_3
               · rw [if_pos c19] at H
                 have c19b0 : decide (0 ≤ x12_3) = true := decide_eq_true c19
                 clear c19
                 by_cases c20 : 0 ≤ x10_2
                 · rw [if_pos c20] at H
                   have c20b0 : decide (0 ≤ x10_2) = true := decide_eq_true c20
                   clear c20
                   by_cases c21 : x10_2 < (t709.length : Int)
                   · rw [if_pos c21] at H
                     have c21b0 : decide (x10_2 < (t709.length : Int)) = true := decide_eq_true c21
                     clear c21
                     by_cases c22 : (rd l2 x12_3) = (rd t709 x10_2)
                     · rw [if_pos c22] at H
                       have c22b0 : ((rd l2 x12_3) == (rd t709 x10_2)) = true := beq_iff_eq.mpr c22
                       have c22b1 : ((rd l2 x12_3) != (rd t709 x10_2)) = false := bne_eq_false_iff_eq.mpr c22
                       clear c22
                       have H' := Aside0.mk H
                       clear H
                       have p712 : 0 ≤ (x12_3 : Int) := of_decide_eq_true (by first | (with_reducible assumption) | assumption)
                       have q712 : x12_3 < (l2.length : Int) := of_decide_eq_true (by first | (with_reducible assumption) | assumption)
                       obtain ⟨ad712, e712, hx712_0⟩ := Kd.at_int HR2.out x12_3 p712 q712
                       cases e712
                       replace hx712_0 := (HB.out.cell (World.block_lt_of_cell? w _ hx712_0)).trans hx712_0
                       replace p712 := eq_true p712
                       replace q712 := eq_true q712
                       have p713 : 0 ≤ (x10_2 : Int) := of_decide_eq_true (by first | (with_reducible assumption) | assumption)
                       have q713 : x10_2 < (t709.length : Int) := of_decide_eq_true (by first | (with_reducible assumption) | assumption)
                       obtain ⟨ad713, e713, hx713_0⟩ := Kd.at_int (Kd.R_reads' HO_9.out).2.2 x10_2 p713 q713
                       cases e713
                       replace p713 := eq_true p713
                       replace q713 := eq_true q713
                       go_wp2
                       repeat (go_quiet (fail); try go_wp2)
                       go_roundg k3
                       case measure => have := HJ5.out; have := HK2.out; have := HK3.out; omega
                       case rel => exact ⟨(wrap64 (x11_3 + 1)), (wrap64 (x12_3 + 1)), (by first | rfl | (simp; done) | (simp [*]; done)), (by first | rfl | (simp; done) | (simp [*]; done)), H', ⟨by have := HJ5.out; have := HK2.out; have := HK3.out; omega⟩, ⟨by (with_reducible repeat (first | apply Kd.R_alloc | apply Kd.R_drewN | apply Kd.R_drew)); exact HO_9.out⟩, ⟨by repeat (first | (with_reducible first | exact HB.out | apply below_alloc | apply pw_below_drewN | apply below_drew1) | exact HB.out)⟩⟩
                     · rw [if_neg c22] at H
                       have c22b0 : ((rd l2 x12_3) == (rd t709 x10_2)) = false := beq_eq_false_iff_ne.mpr c22
                       have c22b1 : ((rd l2 x12_3) != (rd t709 x10_2)) = true := bne_iff_ne.mpr c22
                       have H' := Aside0.mk H
                       clear H
                       have p712 : 0 ≤ (x12_3 : Int) := of_decide_eq_true (by first | (with_reducible assumption) | assumption)
                       have q712 : x12_3 < (l2.length : Int) := of_decide_eq_true (by first | (with_reducible assumption) | assumption)
                       obtain ⟨ad712, e712, hx712_0⟩ := Kd.at_int HR2.out x12_3 p712 q712
                       cases e712
                       replace hx712_0 := (HB.out.cell (World.block_lt_of_cell? w _ hx712_0)).trans hx712_0
                       replace p712 := eq_true p712
                       replace q712 := eq_true q712
                       have p713 : 0 ≤ (x10_2 : Int) := of_decide_eq_true (by first | (with_reducible assumption) | assumption)
                       have q713 : x10_2 < (t709.length : Int) := of_decide_eq_true (by first | (with_reducible assumption) | assumption)
                       obtain ⟨ad713, e713, hx713_0⟩ := Kd.at_int (Kd.R_reads' HO_9.out).2.2 x10_2 p713 q713
                       cases e713
                       replace p713 := eq_true p713
                       replace q713 := eq_true q713
                       go_wp2
                       repeat (go_quiet (fail); try go_wp2)
                       go_roundg k3
                       case measure => have := HJ5.out; have := HK2.out; have := HK3.out; omega
                       case rel => exact ⟨(x11_3), (wrap64 (x12_3 + 1)), (by first | rfl | (simp; done) | (simp [*]; done)), (by first | rfl | (simp; done) | (simp [*]; done)), H', ⟨by have := HJ5.out; have := HK2.out; have := HK3.out; omega⟩, ⟨by (with_reducible repeat (first | apply Kd.R_alloc | apply Kd.R_drewN | apply Kd.R_drew)); exact HO_9.out⟩, ⟨by repeat (first | (with_reducible first | exact HB.out | apply below_alloc | apply pw_below_drewN | apply below_drew1) | exact HB.out)⟩⟩
                   · rw [if_neg c21] at H
                     exact absurd H (by simp)
                 · rw [if_neg c20] at H
                   exact absurd H (by simp)
               · rw [if_neg c19] at H
                 exact absurd H (by simp)
             · rw [if_neg c18] at H
               have c18b0 : decide (x12_3 < (l2.length : Int)) = false := decide_eq_false c18
               clear c18
               by_cases c23 : x11_3 = 1
               · rw [if_pos c23] at H
                 have c23b0 : (x11_3 == 1) = true := beq_iff_eq.mpr c23
                 have c23b1 : (x11_3 != 1) = false := bne_eq_false_iff_eq.mpr c23
                 clear c23
                 have H' := Aside0.mk H
                 clear H
                 go_wp2
                 repeat (go_quiet (fail); try go_wp2)
                 go_roundg k3
                 case measure => have := HJ5.out; have := HK2.out; have := HK3.out; omega
                 case rel => exact ⟨(wrap64 (x10_2 + 1)), (by first | rfl | (simp; done) | (simp [*]; done)), H', ⟨by have := HJ5.out; have := HK2.out; have := HK3.out; omega⟩, ⟨by (with_reducible repeat (first | apply Kd.R_alloc | apply Kd.R_drewN | apply Kd.R_drew)); exact HO_9.out⟩, ⟨by repeat (first | (with_reducible first | exact HB.out | apply below_alloc | apply pw_below_drewN | apply below_drew1) | exact HB.out)⟩⟩
               · rw [if_neg c23] at H
                 have c23b0 : (x11_3 == 1) = false := beq_eq_false_iff_ne.mpr c23
                 have c23b1 : (x11_3 != 1) = true := bne_iff_ne.mpr c23
                 obtain rfl := Option.some.inj H
                 go_wp2
                 repeat (go_quiet (fail); try go_wp2)
                 go_ret
                 exact ⟨by first | rfl | (simp [errW_none, errW_some] <;> rfl) | (simp [*, errW_none, errW_some] <;> rfl), by repeat (first | (with_reducible first | exact HB.out | apply below_alloc | apply pw_below_drewN | apply below_drew1) | exact HB.out)⟩
         · rw [if_neg c17] at H
           have c17b0 : decide (x10_2 < (t709.length : Int)) = false := decide_eq_false c17
           clear c17
           obtain rfl := Option.some.inj H
           go_wp2
           repeat (go_quiet (fail); try go_wp2)
           go_ret
           exact ⟨by first | rfl | (simp [errW_none, errW_some] <;> rfl) | (simp [*, errW_none, errW_some] <;> rfl), by repeat (first | (with_reducible first | exact HB.out | apply below_alloc | apply pw_below_drewN | apply below_drew1) | exact HB.out)⟩
     · rw [if_neg c14] at H
       have c14b0 : ((t709.length : Int) == (l2.length : Int)) = false := beq_eq_false_iff_ne.mpr c14
       have c14b1 : ((t709.length : Int) != (l2.length : Int)) = true := bne_iff_ne.mpr c14
       have c14b2 : (t709.length == l2.length) = false := by first | simpa using c14 | (simp at c14 ⊢; omega)
       obtain rfl := Option.some.inj H
       go_wp2_with (first | (go_at_call 25; (with_reducible refine (cartoucheref10_Nodes.calls kj5 _ _ l0 t709 _ ?side1 ?side2 A13.out).mono ?_); (case side1 => repeat (first | exact (Kd.C_below HR0.out HB.out) | (with_reducible refine Kd.C_alloc ?_ _) | (with_reducible refine Kd.C_drewN ?_ _) | (with_reducible refine Kd.C_drew ?_))); (case side2 => exact HC0.out); rintro e w24 ⟨v710, rfl, ho0, hb⟩; have n0_ := Aside0.mk (Kd.R_lower ho0 (below_size (by repeat (first | (with_reducible first | exact HB.out | apply below_alloc | apply pw_below_drewN | apply below_drew1) | exact HB.out)))); have n1_ := Aside0.mk (below_step (by repeat (first | (with_reducible first | exact HB.out | apply below_alloc | apply pw_below_drewN | apply below_drew1) | exact HB.out)) hb); clear HB; have HO711 := n0_; have HB := n1_; clear n0_ n1_; (try clear hb); (try clear hb2); (try clear hk); (try clear hi); (try clear ho0); obtain ⟨Ao25, co25, eo25⟩ := Kd.R_slice HO711.out; subst eo25))
       repeat (go_quiet (first | (go_at_call 25; (with_reducible refine (cartoucheref10_Nodes.calls kj5 _ _ l0 t709 _ ?side1 ?side2 A13.out).mono ?_); (case side1 => repeat (first | exact (Kd.C_below HR0.out HB.out) | (with_reducible refine Kd.C_alloc ?_ _) | (with_reducible refine Kd.C_drewN ?_ _) | (with_reducible refine Kd.C_drew ?_))); (case side2 => exact HC0.out); rintro e w24 ⟨v710, rfl, ho0, hb⟩; have n0_ := Aside0.mk (Kd.R_lower ho0 (below_size (by repeat (first | (with_reducible first | exact HB.out | apply below_alloc | apply pw_below_drewN | apply below_drew1) | exact HB.out)))); have n1_ := Aside0.mk (below_step (by repeat (first | (with_reducible first | exact HB.out | apply below_alloc | apply pw_below_drewN | apply below_drew1) | exact HB.out)) hb); clear HB; have HO711 := n0_; have HB := n1_; clear n0_ n1_; (try clear hb); (try clear hb2); (try clear hk); (try clear hi); (try clear ho0); obtain ⟨Ao25, co25, eo25⟩ := Kd.R_slice HO711.out; subst eo25)); try go_wp2_with (first | (go_at_call 25; (with_reducible refine (cartoucheref10_Nodes.calls kj5 _ _ l0 t709 _ ?side1 ?side2 A13.out).mono ?_); (case side1 => repeat (first | exact (Kd.C_below HR0.out HB.out) | (with_reducible refine Kd.C_alloc ?_ _) | (with_reducible refine Kd.C_drewN ?_ _) | (with_reducible refine Kd.C_drew ?_))); (case side2 => exact HC0.out); rintro e w24 ⟨v710, rfl, ho0, hb⟩; have n0_ := Aside0.mk (Kd.R_lower ho0 (below_size (by repeat (first | (with_reducible first | exact HB.out | apply below_alloc | apply pw_below_drewN | apply below_drew1) | exact HB.out)))); have n1_ := Aside0.mk (below_step (by repeat (first | (with_reducible first | exact HB.out | apply below_alloc | apply pw_below_drewN | apply below_drew1) | exact HB.out)) hb); clear HB; have HO711 := n0_; have HB := n1_; clear n0_ n1_; (try clear hb); (try clear hb2); (try clear hk); (try clear hi); (try clear ho0); obtain ⟨Ao25, co25, eo25⟩ := Kd.R_slice HO711.out; subst eo25)))
       go_ret
       exact ⟨by first | rfl | (simp [errW_none, errW_some] <;> rfl) | (simp [*, errW_none, errW_some] <;> rfl), by repeat (first | (with_reducible first | exact HB.out | apply below_alloc | apply pw_below_drewN | apply below_drew1) | exact HB.out)⟩
end Go.Proofs.YtebjiimlcnmfpaaGreatPr
