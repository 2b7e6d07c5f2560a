/- Contracts of Go functions, printed by a program of this session over the translation: each call answers what its Lean function says. -/
import Derived.Test.YthjgmccpbcelgaaPr0
import Derived.Test.YthjgmccpbcelgaaPr39
import Derived.Test.YthjgmccpbcelgaaPr40
import Derived.Test.YthjgmccpbcelgaaB1
namespace Go.Proofs.YthjgmccpbcelgaaPr
open Go.RowKit Go.Proofs.YthjgmccpbcelgaaW.PrintWords Go.Proofs.YthjgmccpbcelgaaW.PrintLast Go.Proofs.YthjgmccpbcelgaaW.PrintMore
attribute [local go_sem] max2_int min2_int max_two min_two max_three min_three max_four min_four   -- for this text's walks alone
set_option linter.unusedVariables false
set_option linter.unusedSimpArgs false

/-! ### cartouchelaw08_HistoryOnce: function 20 -/
mutual
def cartouchelaw08_HistoryOnce.j0 : Nat → List (S31) → Bool → Bool → Option (Bool)
  | 0, _, _, _ => none
  | k + 1, x0, x3, x24 => if x24 = true then (some x3) else (cartouchelaw08_HistoryOnce.l0 k x0 x3 0)
def cartouchelaw08_HistoryOnce.l0 : Nat → List (S31) → Bool → Int → Option (Bool)
  | 0, _, _, _ => none
  | k + 1, x0, x3, x7 => if x7 < (x0.length : Int) then (if 0 ≤ x7 then ((history_Find.f x0 ((rd_T31 x0 x7).f1)).bind fun bt589 => (if bt589.2.2.2.2 = true then (if x7 < bt589.2.1 then (cartouchelaw08_HistoryOnce.j2 k x0 x3 x7 true) else (if x7 > bt589.2.2.1 then (cartouchelaw08_HistoryOnce.j2 k x0 x3 x7 true) else (if bt589.2.2.1 ≥ (x0.length : Int) then (cartouchelaw08_HistoryOnce.j2 k x0 x3 x7 true) else (if ((((rd_T31 x0 x7).f0) == 1) != (x7 == bt589.2.1)) = true then (cartouchelaw08_HistoryOnce.j2 k x0 x3 x7 true) else (cartouchelaw08_HistoryOnce.j2 k x0 x3 x7 ((decide (((rd_T31 x0 x7).f0) ≥ 4)) != (x7 == bt589.2.2.1))))))) else (cartouchelaw08_HistoryOnce.j2 k x0 x3 x7 true))) else (none)) else (some x3)
def cartouchelaw08_HistoryOnce.j2 : Nat → List (S31) → Bool → Int → Bool → Option (Bool)
  | 0, _, _, _, _ => none
  | k + 1, x0, x3, x7, x88 => if x88 = true then (some false) else (cartouchelaw08_HistoryOnce.l1 k x0 x3 x7 0)
def cartouchelaw08_HistoryOnce.l1 : Nat → List (S31) → Bool → Int → Int → Option (Bool)
  | 0, _, _, _, _ => none
  | k + 1, x0, x3, x7, x10 => if x10 < x7 then (if 0 ≤ x7 then (if x7 < (x0.length : Int) then (if ((rd_T31 x0 x7).f0) = 3 then (if 0 ≤ x10 then (if x10 < (x0.length : Int) then (if ((rd_T31 x0 x10).f0) = 3 then (if ((rd_T31 x0 x7).f3).toList = ((rd_T31 x0 x10).f3).toList then (some false) else (cartouchelaw08_HistoryOnce.l1 k x0 x3 x7 (wrap64 (x10 + 1)))) else (cartouchelaw08_HistoryOnce.l1 k x0 x3 x7 (wrap64 (x10 + 1)))) else (none)) else (none)) else (cartouchelaw08_HistoryOnce.l1 k x0 x3 x7 (wrap64 (x10 + 1)))) else (none)) else (none)) else (cartouchelaw08_HistoryOnce.l0 k x0 x3 (wrap64 (x7 + 1)))
end
def cartouchelaw08_HistoryOnce.f (k : Nat) (l0 : List (S31)) : Option (Bool) := (cartouchelaw08_shown.f).bind fun t584 => ((cartouchelaw08_few.f l0).bind fun t585 => ((history_Formed.f l0).bind fun bt586 => (if t585 = true then (cartouchelaw08_HistoryOnce.j0 k l0 t584 (bt586.2 != 0)) else (cartouchelaw08_HistoryOnce.j0 k l0 t584 true))))
theorem cartouchelaw08_HistoryOnce.mono_l : ∀ k, (∀ y0 y1 y2, LeO (cartouchelaw08_HistoryOnce.j0 k y0 y1 y2) (cartouchelaw08_HistoryOnce.j0 (k + 1) y0 y1 y2)) ∧ (∀ y0 y1 y2, LeO (cartouchelaw08_HistoryOnce.l0 k y0 y1 y2) (cartouchelaw08_HistoryOnce.l0 (k + 1) y0 y1 y2)) ∧ (∀ y0 y1 y2 y3, LeO (cartouchelaw08_HistoryOnce.j2 k y0 y1 y2 y3) (cartouchelaw08_HistoryOnce.j2 (k + 1) y0 y1 y2 y3)) ∧ (∀ y0 y1 y2 y3, LeO (cartouchelaw08_HistoryOnce.l1 k y0 y1 y2 y3) (cartouchelaw08_HistoryOnce.l1 (k + 1) y0 y1 y2 y3))
  | 0 => ⟨fun _ _ _ r h => by simp [cartouchelaw08_HistoryOnce.j0] at h, fun _ _ _ r h => by simp [cartouchelaw08_HistoryOnce.l0] at h, fun _ _ _ _ r h => by simp [cartouchelaw08_HistoryOnce.j2] at h, fun _ _ _ _ r h => by simp [cartouchelaw08_HistoryOnce.l1] at h⟩
  | k + 1 => by
    obtain ⟨ih0, ih1, ih2, ih3⟩ := cartouchelaw08_HistoryOnce.mono_l k
    refine ⟨?_, ?_, ?_, ?_⟩
    · intro y0 y1 y2
      unfold cartouchelaw08_HistoryOnce.j0
      repeat' first
      | (with_reducible exact ih0 _ _ _)
      | (with_reducible exact ih1 _ _ _)
      | (with_reducible exact ih2 _ _ _ _)
      | (with_reducible exact ih3 _ _ _ _)
      | (with_reducible exact LeO.refl _)
      | (with_reducible exact LeO.none _)
      | (with_reducible refine LeO.ite ?_ ?_)
      | (with_reducible refine LeO.bind ?_ (fun _ => ?_))
      | exact ih0 _ _ _
      | exact ih1 _ _ _
      | exact ih2 _ _ _ _
      | exact ih3 _ _ _ _
      | exact LeO.none _
      | refine LeO.ite ?_ ?_
      | refine LeO.bind ?_ (fun _ => ?_)
    · intro y0 y1 y2
      unfold cartouchelaw08_HistoryOnce.l0
      repeat' first
      | (with_reducible exact ih0 _ _ _)
      | (with_reducible exact ih1 _ _ _)
      | (with_reducible exact ih2 _ _ _ _)
      | (with_reducible exact ih3 _ _ _ _)
      | (with_reducible exact LeO.refl _)
      | (with_reducible exact LeO.none _)
      | (with_reducible refine LeO.ite ?_ ?_)
      | (with_reducible refine LeO.bind ?_ (fun _ => ?_))
      | exact ih0 _ _ _
      | exact ih1 _ _ _
      | exact ih2 _ _ _ _
      | exact ih3 _ _ _ _
      | exact LeO.none _
      | refine LeO.ite ?_ ?_
      | refine LeO.bind ?_ (fun _ => ?_)
    · intro y0 y1 y2 y3
      unfold cartouchelaw08_HistoryOnce.j2
      repeat' first
      | (with_reducible exact ih0 _ _ _)
      | (with_reducible exact ih1 _ _ _)
      | (with_reducible exact ih2 _ _ _ _)
      | (with_reducible exact ih3 _ _ _ _)
      | (with_reducible exact LeO.refl _)
      | (with_reducible exact LeO.none _)
      | (with_reducible refine LeO.ite ?_ ?_)
      | (with_reducible refine LeO.bind ?_ (fun _ => ?_))
      | exact ih0 _ _ _
      | exact ih1 _ _ _
      | exact ih2 _ _ _ _
      | exact ih3 _ _ _ _
      | exact LeO.none _
      | refine LeO.ite ?_ ?_
      | refine LeO.bind ?_ (fun _ => ?_)
    · intro y0 y1 y2 y3
      unfold cartouchelaw08_HistoryOnce.l1
      repeat' first
      | (with_reducible exact ih0 _ _ _)
      | (with_reducible exact ih1 _ _ _)
      | (with_reducible exact ih2 _ _ _ _)
      | (with_reducible exact ih3 _ _ _ _)
      | (with_reducible exact LeO.refl _)
      | (with_reducible exact LeO.none _)
      | (with_reducible refine LeO.ite ?_ ?_)
      | (with_reducible refine LeO.bind ?_ (fun _ => ?_))
      | exact ih0 _ _ _
      | exact ih1 _ _ _
      | exact ih2 _ _ _ _
      | exact ih3 _ _ _ _
      | exact LeO.none _
      | refine LeO.ite ?_ ?_
      | refine LeO.bind ?_ (fun _ => ?_)
theorem cartouchelaw08_HistoryOnce.mono : ∀ a0 k, LeO (cartouchelaw08_HistoryOnce.f k a0) (cartouchelaw08_HistoryOnce.f (k + 1) a0) := by
  intro a0 k
  obtain ⟨ih0, ih1, ih2, ih3⟩ := cartouchelaw08_HistoryOnce.mono_l k
  unfold cartouchelaw08_HistoryOnce.f
  repeat' first
      | (with_reducible exact ih0 _ _ _)
      | (with_reducible exact ih1 _ _ _)
      | (with_reducible exact ih2 _ _ _ _)
      | (with_reducible exact ih3 _ _ _ _)
      | (with_reducible exact LeO.refl _)
      | (with_reducible exact LeO.none _)
      | (with_reducible refine LeO.ite ?_ ?_)
      | (with_reducible refine LeO.bind ?_ (fun _ => ?_))
      | exact ih0 _ _ _
      | exact ih1 _ _ _
      | exact ih2 _ _ _ _
      | exact ih3 _ _ _ _
      | exact LeO.none _
      | refine LeO.ite ?_ ?_
      | refine LeO.bind ?_ (fun _ => ?_)
set_option maxHeartbeats 8000000 in
set_option maxRecDepth 100000 in
theorem cartouchelaw08_HistoryOnce.calls (k : Nat) (A0 : Option Addr) (c0 : Nat) (l0 : List (S31)) (r : Bool) (w : World) (hr0 : Kd.C k31 w A0 l0.length l0) (hc0 : l0.length ≤ c0) (h : cartouchelaw08_HistoryOnce.f k l0 = some r) :
    Calls Try.prog 20 #[.slice A0 l0.length c0] w fun e w' => e = .returned (.bool r) ∧ Below w.heap.size w w' := by
  have hu33 := Try.underlying33
  have HR0 := Aside0.mk hr0
  have HC0 := Aside0.mk hc0
  clear hr0 hc0
  have HB := Aside0.mk (Below.refl w.heap.size w)
  have H : ((cartouchelaw08_shown.f).bind fun t584 => ((cartouchelaw08_few.f l0).bind fun t585 => ((history_Formed.f l0).bind fun bt586 => (if t585 = true then (cartouchelaw08_HistoryOnce.j0 k l0 t584 (bt586.2 != 0)) else (cartouchelaw08_HistoryOnce.j0 k l0 t584 true))))) = some r := h
  clear h
  replace H := Option.bind_eq_some_iff.mp H
  obtain ⟨t584, A20, H⟩ := H
  replace H : ((cartouchelaw08_few.f l0).bind fun t585 => ((history_Formed.f l0).bind fun bt586 => (if t585 = true then (cartouchelaw08_HistoryOnce.j0 k l0 t584 (bt586.2 != 0)) else (cartouchelaw08_HistoryOnce.j0 k l0 t584 true)))) = some r := H
  have A2 := Aside0.mk A20
  clear A20
  replace H := Option.bind_eq_some_iff.mp H
  obtain ⟨t585, A30, H⟩ := H
  replace H : ((history_Formed.f l0).bind fun bt586 => (if t585 = true then (cartouchelaw08_HistoryOnce.j0 k l0 t584 (bt586.2 != 0)) else (cartouchelaw08_HistoryOnce.j0 k l0 t584 true))) = some r := H
  have A3 := Aside0.mk A30
  clear A30
  replace H := Option.bind_eq_some_iff.mp H
  obtain ⟨⟨t586, t587⟩, A40, H⟩ := H
  replace H : (if t585 = true then (cartouchelaw08_HistoryOnce.j0 k l0 t584 (t587 != 0)) else (cartouchelaw08_HistoryOnce.j0 k l0 t584 true)) = some r := H
  have A4 := Aside0.mk A40
  clear A40
  have HC5 := Aside0.mk H
  clear H
  go_enter Try.func20, Try.ntmps20
  go_upto_region 4 with (first | (go_at_call 56; (with_reducible refine (cartouchelaw08_shown.calls  t584 _ A2.out).mono ?_); rintro e w6 ⟨rfl, hb⟩; have n0_ := Aside0.mk (below_step (by repeat (first | (with_reducible first | exact HB.out | apply below_alloc | apply pw_below_drewN | apply below_drew1) | exact HB.out)) hb); clear HB; have HB := n0_; clear n0_; (try clear hb); (try clear hb2); (try clear hk); (try clear hi)) | (go_at_call 57; (with_reducible refine (cartouchelaw08_few.calls _ _ l0 t585 _ ?side1 ?side2 A3.out).mono ?_); (case side1 => repeat (first | exact (Kd.C_below HR0.out HB.out) | (with_reducible refine Kd.C_alloc ?_ _) | (with_reducible refine Kd.C_drewN ?_ _) | (with_reducible refine Kd.C_drew ?_))); (case side2 => exact HC0.out); rintro e w' ⟨rfl, ⟨nd, rfl⟩⟩; (try first | exact ⟨rfl, _, World.drewN_drewN _ _ _⟩ | exact ⟨rfl, _, Eq.trans (World.drewN_drewN _ _ _) (congrArg (World.drewN _) (Nat.add_assoc _ _ _))⟩)) | (go_at_call 58; (with_reducible refine (history_Formed.calls _ _ l0 t586 t587 _ ?side1 ?side2 A4.out).mono ?_); (case side1 => repeat (first | exact (Kd.C_below HR0.out (by repeat (first | (with_reducible first | exact HB.out | apply below_alloc | apply pw_below_drewN | apply below_drew1) | exact HB.out))) | (with_reducible refine Kd.C_alloc ?_ _) | (with_reducible refine Kd.C_drewN ?_ _) | (with_reducible refine Kd.C_drew ?_))); (case side2 => exact HC0.out); rintro e w7 ⟨rfl, hb⟩; have n0_ := Aside0.mk (below_step (by repeat (first | (with_reducible first | exact HB.out | apply below_alloc | apply pw_below_drewN | apply below_drew1) | exact HB.out)) hb); clear HB; have HB := n0_; clear n0_; (try clear hb); (try clear hb2); (try clear hk); (try clear hi)))
  repeat (go_quiet (first | (go_at_call 56; (with_reducible refine (cartouchelaw08_shown.calls  t584 _ A2.out).mono ?_); rintro e w6 ⟨rfl, hb⟩; have n0_ := Aside0.mk (below_step (by repeat (first | (with_reducible first | exact HB.out | apply below_alloc | apply pw_below_drewN | apply below_drew1) | exact HB.out)) hb); clear HB; have HB := n0_; clear n0_; (try clear hb); (try clear hb2); (try clear hk); (try clear hi)) | (go_at_call 57; (with_reducible refine (cartouchelaw08_few.calls _ _ l0 t585 _ ?side1 ?side2 A3.out).mono ?_); (case side1 => repeat (first | exact (Kd.C_below HR0.out HB.out) | (with_reducible refine Kd.C_alloc ?_ _) | (with_reducible refine Kd.C_drewN ?_ _) | (with_reducible refine Kd.C_drew ?_))); (case side2 => exact HC0.out); rintro e w' ⟨rfl, ⟨nd, rfl⟩⟩; (try first | exact ⟨rfl, _, World.drewN_drewN _ _ _⟩ | exact ⟨rfl, _, Eq.trans (World.drewN_drewN _ _ _) (congrArg (World.drewN _) (Nat.add_assoc _ _ _))⟩)) | (go_at_call 58; (with_reducible refine (history_Formed.calls _ _ l0 t586 t587 _ ?side1 ?side2 A4.out).mono ?_); (case side1 => repeat (first | exact (Kd.C_below HR0.out (by repeat (first | (with_reducible first | exact HB.out | apply below_alloc | apply pw_below_drewN | apply below_drew1) | exact HB.out))) | (with_reducible refine Kd.C_alloc ?_ _) | (with_reducible refine Kd.C_drewN ?_ _) | (with_reducible refine Kd.C_drew ?_))); (case side2 => exact HC0.out); rintro e w7 ⟨rfl, hb⟩; have n0_ := Aside0.mk (below_step (by repeat (first | (with_reducible first | exact HB.out | apply below_alloc | apply pw_below_drewN | apply below_drew1) | exact HB.out)) hb); clear HB; have HB := n0_; clear n0_; (try clear hb); (try clear hb2); (try clear hk); (try clear hi))); go_upto_region 4 with (first | (go_at_call 56; (with_reducible refine (cartouchelaw08_shown.calls  t584 _ A2.out).mono ?_); rintro e w6 ⟨rfl, hb⟩; have n0_ := Aside0.mk (below_step (by repeat (first | (with_reducible first | exact HB.out | apply below_alloc | apply pw_below_drewN | apply below_drew1) | exact HB.out)) hb); clear HB; have HB := n0_; clear n0_; (try clear hb); (try clear hb2); (try clear hk); (try clear hi)) | (go_at_call 57; (with_reducible refine (cartouchelaw08_few.calls _ _ l0 t585 _ ?side1 ?side2 A3.out).mono ?_); (case side1 => repeat (first | exact (Kd.C_below HR0.out HB.out) | (with_reducible refine Kd.C_alloc ?_ _) | (with_reducible refine Kd.C_drewN ?_ _) | (with_reducible refine Kd.C_drew ?_))); (case side2 => exact HC0.out); rintro e w' ⟨rfl, ⟨nd, rfl⟩⟩; (try first | exact ⟨rfl, _, World.drewN_drewN _ _ _⟩ | exact ⟨rfl, _, Eq.trans (World.drewN_drewN _ _ _) (congrArg (World.drewN _) (Nat.add_assoc _ _ _))⟩)) | (go_at_call 58; (with_reducible refine (history_Formed.calls _ _ l0 t586 t587 _ ?side1 ?side2 A4.out).mono ?_); (case side1 => repeat (first | exact (Kd.C_below HR0.out (by repeat (first | (with_reducible first | exact HB.out | apply below_alloc | apply pw_below_drewN | apply below_drew1) | exact HB.out))) | (with_reducible refine Kd.C_alloc ?_ _) | (with_reducible refine Kd.C_drewN ?_ _) | (with_reducible refine Kd.C_drew ?_))); (case side2 => exact HC0.out); rintro e w7 ⟨rfl, hb⟩; have n0_ := Aside0.mk (below_step (by repeat (first | (with_reducible first | exact HB.out | apply below_alloc | apply pw_below_drewN | apply below_drew1) | exact HB.out)) hb); clear HB; have HB := n0_; clear n0_; (try clear hb); (try clear hb2); (try clear hk); (try clear hi))))
  (try simp only [Act.put, List.setIfInBounds_toArray, List.set_cons_zero, List.set_cons_succ])
  go_cut [24] (fun v24 wc => ∃ (kq : Nat) (x24_4 : Bool), v24 = .bool x24_4 ∧ Aside0 (cartouchelaw08_HistoryOnce.j0 kq l0 t584 x24_4 = some r) ∧ Aside0 (kq ≤ k) ∧ Aside0 (Below w.heap.size w wc))
  case first =>
    have H := HC5.out
    clear HC5
    by_cases c8 : t585 = true
    · subst c8
      have H1 : (cartouchelaw08_HistoryOnce.j0 k l0 t584 (t587 != 0)) = some r := by rw [if_pos rfl] at H; exact H
      clear H
      have H := H1
      clear H1
      have H' := Aside0.mk H
      clear H
      go_wp2
      repeat (go_quiet (fail); try go_wp2)
      go_meet
      case rel => exact ⟨_, ((t587 != 0)), (by first | rfl | (simp; done) | (simp [*]; done)), H', ⟨by first | omega | exact Nat.le_refl _⟩, ⟨by repeat (first | (with_reducible first | exact HB.out | apply below_alloc | apply pw_below_drewN | apply below_drew1) | exact HB.out)⟩⟩
    · replace c8 := Bool.eq_false_iff.mpr c8
      subst c8
      have H1 : (cartouchelaw08_HistoryOnce.j0 k l0 t584 true) = some r := by rw [if_neg (show ¬ (false = true) by decide)] at H; exact H
      clear H
      have H := H1
      clear H1
      have H' := Aside0.mk H
      clear H
      go_wp2
      repeat (go_quiet (fail); try go_wp2)
      go_meet
      case rel => exact ⟨_, (true), (by first | rfl | (simp; done) | (simp [*]; done)), H', ⟨by first | omega | exact Nat.le_refl _⟩, ⟨by repeat (first | (with_reducible first | exact HB.out | apply below_alloc | apply pw_below_drewN | apply below_drew1) | exact HB.out)⟩⟩
  case rest =>
    clear HC5
    try clear c2
    try clear p2
    try clear c8
    obtain ⟨kq, x24_4, rfl, HA, HJ4, HB⟩ := hcut
    cases kq with
    | zero => exact absurd HA.out (by simp [cartouchelaw08_HistoryOnce.j0])
    | succ kj4 =>
      have H := HA.out
      clear HA
      simp only [cartouchelaw08_HistoryOnce.j0] at H
      by_cases c9 : x24_4 = true
      · subst c9
        have H1 : (some t584) = some r := by rw [if_pos rfl] at H; exact H
        clear H
        have H := H1
        clear H1
        obtain rfl := Option.some.inj H
        go_wp2
        repeat (go_quiet (fail); try go_wp2)
        go_ret
        exact ⟨by first | rfl | (simp [errW_none, errW_some] <;> rfl) | (simp [*, errW_none, errW_some] <;> rfl), by repeat (first | (with_reducible first | exact HB.out | apply below_alloc | apply pw_below_drewN | apply below_drew1) | exact HB.out)⟩
      · replace c9 := Bool.eq_false_iff.mpr c9
        subst c9
        have H1 : (cartouchelaw08_HistoryOnce.l0 kj4 l0 t584 0) = some r := by rw [if_neg (show ¬ (false = true) by decide)] at H; exact H
        clear H
        have H := H1
        clear H1
        have H' := Aside0.mk H
        clear H
        go_wp2
        repeat (go_quiet (fail); try go_wp2)
        go_loopg [7] kj4 (fun kq v7 w' => ∃ (x7_2 : Int), v7 = .int .i64 x7_2 ∧ Aside0 (cartouchelaw08_HistoryOnce.l0 kq l0 t584 x7_2 = some r) ∧ Aside0 (kq ≤ kj4) ∧ Aside0 (Below w.heap.size w w'))
        case atStart => exact ⟨(0), (by first | rfl | (simp; done) | (simp [*]; done)), H', ⟨Nat.le_refl _⟩, ⟨by repeat (first | (with_reducible first | exact HB.out | apply below_alloc | apply pw_below_drewN | apply below_drew1) | exact HB.out)⟩⟩
        case round =>
          clear H'
          try clear c2
          try clear p2
          try clear c8
          try clear c9
          try clear p2
          obtain ⟨x7_2, rfl, HA, HK2, HB⟩ := hrel
          cases gk with
          | zero => exact absurd HA.out (by simp [cartouchelaw08_HistoryOnce.l0])
          | succ k2 =>
            have H := HA.out
            clear HA
            simp only [cartouchelaw08_HistoryOnce.l0] at H
            by_cases c10 : x7_2 < (l0.length : Int)
            · rw [if_pos c10] at H
              have c10b0 : decide (x7_2 < (l0.length : Int)) = true := decide_eq_true c10
              clear c10
              by_cases c11 : 0 ≤ x7_2
              · rw [if_pos c11] at H
                have c11b0 : decide (0 ≤ x7_2) = true := decide_eq_true c11
                clear c11
                replace H := Option.bind_eq_some_iff.mp H
                obtain ⟨⟨t589, t590, t591, t592, t593⟩, A120, H⟩ := H
                replace H : (if t593 = true then (if x7_2 < t590 then (cartouchelaw08_HistoryOnce.j2 k2 l0 t584 x7_2 true) else (if x7_2 > t591 then (cartouchelaw08_HistoryOnce.j2 k2 l0 t584 x7_2 true) else (if t591 ≥ (l0.length : Int) then (cartouchelaw08_HistoryOnce.j2 k2 l0 t584 x7_2 true) else (if ((((rd_T31 l0 x7_2).f0) == 1) != (x7_2 == t590)) = true then (cartouchelaw08_HistoryOnce.j2 k2 l0 t584 x7_2 true) else (cartouchelaw08_HistoryOnce.j2 k2 l0 t584 x7_2 ((decide (((rd_T31 l0 x7_2).f0) ≥ 4)) != (x7_2 == t591))))))) else (cartouchelaw08_HistoryOnce.j2 k2 l0 t584 x7_2 true)) = some r := H
                have A12 := Aside0.mk A120
                clear A120
                have HC13 := Aside0.mk H
                clear H
                have p588 : 0 ≤ (x7_2 : Int) := of_decide_eq_true (by first | (with_reducible assumption) | assumption)
                have q588 : x7_2 < (l0.length : Int) := of_decide_eq_true (by first | (with_reducible assumption) | assumption)
                obtain ⟨ad588, e588, hx588_0, hx588_1, hx588_2, hx588_3⟩ := at_T31 HR0.out x7_2 p588 q588
                cases e588
                replace hx588_0 := (HB.out.cell (World.block_lt_of_cell? w _ hx588_0)).trans hx588_0
                replace hx588_1 := (HB.out.cell (World.block_lt_of_cell? w _ hx588_1)).trans hx588_1
                replace hx588_2 := (HB.out.cell (World.block_lt_of_cell? w _ hx588_2)).trans hx588_2
                replace hx588_3 := (HB.out.cell (World.block_lt_of_cell? w _ hx588_3)).trans hx588_3
                replace p588 := eq_true p588
                replace q588 := eq_true q588
                go_upto_region 10 with (first | (go_at_call 64; (with_reducible refine (history_Find.calls _ _ l0 ((rd_T31 l0 x7_2).f1) t589 t590 t591 t592 t593 _ ?side1 ?side2 A12.out).mono ?_); (case side1 => repeat (first | exact (Kd.C_below HR0.out HB.out) | (with_reducible refine Kd.C_alloc ?_ _) | (with_reducible refine Kd.C_drewN ?_ _) | (with_reducible refine Kd.C_drew ?_))); (case side2 => exact HC0.out); rintro e w14 ⟨rfl, hb⟩; have n0_ := Aside0.mk (below_step (by repeat (first | (with_reducible first | exact HB.out | apply below_alloc | apply pw_below_drewN | apply below_drew1) | exact HB.out)) hb); clear HB; have HB := n0_; clear n0_; (try clear hb); (try clear hb2); (try clear hk); (try clear hi)) | ((with_reducible refine gate_dst (N := 8) rfl ?_); (try (refine gate_guard (by rfl) ?_; dsimp only)); refine box_event ?hg (N := 8) ?hd (cs := #[.int .i64 0, .int .i64 0, .int .i64 0, .bool false]) (t := 33) ?hr ?_; (case hd => rfl); (case hg => rfl); (case hr => first | (go_simp; done) | (go_simp; rfl)); intro gb594 hg w15 hbox hb; have n0_ := Aside0.mk (below_step (by repeat (first | (with_reducible first | exact HB.out | apply below_alloc | apply pw_below_drewN | apply below_drew1) | exact HB.out)) hb); have n1_ := Aside0.mk (hbox); have n2_ := Aside0.mk ((by rw [hg]; exact (below_size (by repeat (first | (with_reducible first | exact HB.out | apply below_alloc | apply pw_below_drewN | apply below_drew1) | exact HB.out))) : w.heap.size ≤ gb594)); have n3_ := Aside0.mk ((by rw [hg]; exact (below_size (by repeat (first | (with_reducible first | exact HB.out | apply below_alloc | apply pw_below_drewN | apply below_drew1) | exact HB.out))) : w.heap.size ≤ gb594)); clear HB; have HB := n0_; have BK594 := n1_; have GW594 := n2_; have GE594 := n3_; clear n0_ n1_ n2_ n3_; clear hb hbox hg; have hcz16_0 : w15.cell? ⟨gb594, 0, none⟩ = some (.int .i64 0) := (blk_cell BK594.out 0).trans rfl; have hcz16_1 : w15.cell? ⟨gb594, 1, none⟩ = some (.int .i64 0) := (blk_cell BK594.out 1).trans rfl; have hcz16_2 : w15.cell? ⟨gb594, 2, none⟩ = some (.int .i64 0) := (blk_cell BK594.out 2).trans rfl; have hcz16_3 : w15.cell? ⟨gb594, 3, none⟩ = some (.bool false) := (blk_cell BK594.out 3).trans rfl; have hfz16_0 := blk_frozen BK594.out 0; have hfz16_1 := blk_frozen BK594.out 1; have hfz16_2 := blk_frozen BK594.out 2; have hfz16_3 := blk_frozen BK594.out 3))
                repeat (go_quiet (first | (go_at_call 64; (with_reducible refine (history_Find.calls _ _ l0 ((rd_T31 l0 x7_2).f1) t589 t590 t591 t592 t593 _ ?side1 ?side2 A12.out).mono ?_); (case side1 => repeat (first | exact (Kd.C_below HR0.out HB.out) | (with_reducible refine Kd.C_alloc ?_ _) | (with_reducible refine Kd.C_drewN ?_ _) | (with_reducible refine Kd.C_drew ?_))); (case side2 => exact HC0.out); rintro e w14 ⟨rfl, hb⟩; have n0_ := Aside0.mk (below_step (by repeat (first | (with_reducible first | exact HB.out | apply below_alloc | apply pw_below_drewN | apply below_drew1) | exact HB.out)) hb); clear HB; have HB := n0_; clear n0_; (try clear hb); (try clear hb2); (try clear hk); (try clear hi)) | ((with_reducible refine gate_dst (N := 8) rfl ?_); (try (refine gate_guard (by rfl) ?_; dsimp only)); refine box_event ?hg (N := 8) ?hd (cs := #[.int .i64 0, .int .i64 0, .int .i64 0, .bool false]) (t := 33) ?hr ?_; (case hd => rfl); (case hg => rfl); (case hr => first | (go_simp; done) | (go_simp; rfl)); intro gb594 hg w15 hbox hb; have n0_ := Aside0.mk (below_step (by repeat (first | (with_reducible first | exact HB.out | apply below_alloc | apply pw_below_drewN | apply below_drew1) | exact HB.out)) hb); have n1_ := Aside0.mk (hbox); have n2_ := Aside0.mk ((by rw [hg]; exact (below_size (by repeat (first | (with_reducible first | exact HB.out | apply below_alloc | apply pw_below_drewN | apply below_drew1) | exact HB.out))) : w.heap.size ≤ gb594)); have n3_ := Aside0.mk ((by rw [hg]; exact (below_size (by repeat (first | (with_reducible first | exact HB.out | apply below_alloc | apply pw_below_drewN | apply below_drew1) | exact HB.out))) : w.heap.size ≤ gb594)); clear HB; have HB := n0_; have BK594 := n1_; have GW594 := n2_; have GE594 := n3_; clear n0_ n1_ n2_ n3_; clear hb hbox hg; have hcz16_0 : w15.cell? ⟨gb594, 0, none⟩ = some (.int .i64 0) := (blk_cell BK594.out 0).trans rfl; have hcz16_1 : w15.cell? ⟨gb594, 1, none⟩ = some (.int .i64 0) := (blk_cell BK594.out 1).trans rfl; have hcz16_2 : w15.cell? ⟨gb594, 2, none⟩ = some (.int .i64 0) := (blk_cell BK594.out 2).trans rfl; have hcz16_3 : w15.cell? ⟨gb594, 3, none⟩ = some (.bool false) := (blk_cell BK594.out 3).trans rfl; have hfz16_0 := blk_frozen BK594.out 0; have hfz16_1 := blk_frozen BK594.out 1; have hfz16_2 := blk_frozen BK594.out 2; have hfz16_3 := blk_frozen BK594.out 3)); go_upto_region 10 with (first | (go_at_call 64; (with_reducible refine (history_Find.calls _ _ l0 ((rd_T31 l0 x7_2).f1) t589 t590 t591 t592 t593 _ ?side1 ?side2 A12.out).mono ?_); (case side1 => repeat (first | exact (Kd.C_below HR0.out HB.out) | (with_reducible refine Kd.C_alloc ?_ _) | (with_reducible refine Kd.C_drewN ?_ _) | (with_reducible refine Kd.C_drew ?_))); (case side2 => exact HC0.out); rintro e w14 ⟨rfl, hb⟩; have n0_ := Aside0.mk (below_step (by repeat (first | (with_reducible first | exact HB.out | apply below_alloc | apply pw_below_drewN | apply below_drew1) | exact HB.out)) hb); clear HB; have HB := n0_; clear n0_; (try clear hb); (try clear hb2); (try clear hk); (try clear hi)) | ((with_reducible refine gate_dst (N := 8) rfl ?_); (try (refine gate_guard (by rfl) ?_; dsimp only)); refine box_event ?hg (N := 8) ?hd (cs := #[.int .i64 0, .int .i64 0, .int .i64 0, .bool false]) (t := 33) ?hr ?_; (case hd => rfl); (case hg => rfl); (case hr => first | (go_simp; done) | (go_simp; rfl)); intro gb594 hg w15 hbox hb; have n0_ := Aside0.mk (below_step (by repeat (first | (with_reducible first | exact HB.out | apply below_alloc | apply pw_below_drewN | apply below_drew1) | exact HB.out)) hb); have n1_ := Aside0.mk (hbox); have n2_ := Aside0.mk ((by rw [hg]; exact (below_size (by repeat (first | (with_reducible first | exact HB.out | apply below_alloc | apply pw_below_drewN | apply below_drew1) | exact HB.out))) : w.heap.size ≤ gb594)); have n3_ := Aside0.mk ((by rw [hg]; exact (below_size (by repeat (first | (with_reducible first | exact HB.out | apply below_alloc | apply pw_below_drewN | apply below_drew1) | exact HB.out))) : w.heap.size ≤ gb594)); clear HB; have HB := n0_; have BK594 := n1_; have GW594 := n2_; have GE594 := n3_; clear n0_ n1_ n2_ n3_; clear hb hbox hg; have hcz16_0 : w15.cell? ⟨gb594, 0, none⟩ = some (.int .i64 0) := (blk_cell BK594.out 0).trans rfl; have hcz16_1 : w15.cell? ⟨gb594, 1, none⟩ = some (.int .i64 0) := (blk_cell BK594.out 1).trans rfl; have hcz16_2 : w15.cell? ⟨gb594, 2, none⟩ = some (.int .i64 0) := (blk_cell BK594.out 2).trans rfl; have hcz16_3 : w15.cell? ⟨gb594, 3, none⟩ = some (.bool false) := (blk_cell BK594.out 3).trans rfl; have hfz16_0 := blk_frozen BK594.out 0; have hfz16_1 := blk_frozen BK594.out 1; have hfz16_2 := blk_frozen BK594.out 2; have hfz16_3 := blk_frozen BK594.out 3)))
                (try simp only [Act.put, List.setIfInBounds_toArray, List.set_cons_zero, List.set_cons_succ])
                go_cut [88] (fun v88 wc => ∃ (kq : Nat) (x88_12 : Bool), v88 = .bool x88_12 ∧ Aside0 (cartouchelaw08_HistoryOnce.j2 kq l0 t584 x7_2 x88_12 = some r) ∧ Aside0 (kq ≤ k2) ∧ Aside0 (wc.heap[gb594]? = some (.cells #[.int .i64 t589, .int .i64 t590, .int .i64 t591, .bool t592] 33 (0, 0))) ∧ Aside0 (Below w.heap.size w wc))
                case first =>
                  have H := HC13.out
                  clear HC13
                  by_cases c17 : t593 = true
                  · subst c17
                    have H1 : (if x7_2 < t590 then (cartouchelaw08_HistoryOnce.j2 k2 l0 t584 x7_2 true) else (if x7_2 > t591 then (cartouchelaw08_HistoryOnce.j2 k2 l0 t584 x7_2 true) else (if t591 ≥ (l0.length : Int) then (cartouchelaw08_HistoryOnce.j2 k2 l0 t584 x7_2 true) else (if ((((rd_T31 l0 x7_2).f0) == 1) != (x7_2 == t590)) = true then (cartouchelaw08_HistoryOnce.j2 k2 l0 t584 x7_2 true) else (cartouchelaw08_HistoryOnce.j2 k2 l0 t584 x7_2 ((decide (((rd_T31 l0 x7_2).f0) ≥ 4)) != (x7_2 == t591))))))) = some r := by rw [if_pos rfl] at H; exact H
                    clear H
                    have H := H1
                    clear H1
                    by_cases c18 : x7_2 < t590
                    · rw [if_pos c18] at H
                      have c18b0 : decide (x7_2 < t590) = true := decide_eq_true c18
                      clear c18
                      (first | rw [c18b0] | (simp only [i64_w, i32_w]; rw [c18b0]) | skip)
                      have H' := Aside0.mk H
                      clear H
                      have hcz19_0 : w15.cell? ⟨gb594, 0, none⟩ = some (.int .i64 0) := (blk_cell BK594.out 0).trans rfl
                      have hcz19_1 : w15.cell? ⟨gb594, 1, none⟩ = some (.int .i64 0) := (blk_cell BK594.out 1).trans rfl
                      have hcz19_2 : w15.cell? ⟨gb594, 2, none⟩ = some (.int .i64 0) := (blk_cell BK594.out 2).trans rfl
                      have hcz19_3 : w15.cell? ⟨gb594, 3, none⟩ = some (.bool false) := (blk_cell BK594.out 3).trans rfl
                      have hfz19_0 := blk_frozen BK594.out 0
                      have hfz19_1 := blk_frozen BK594.out 1
                      have hfz19_2 := blk_frozen BK594.out 2
                      have hfz19_3 := blk_frozen BK594.out 3
                      go_wp2
                      repeat (go_quiet (fail); try go_wp2)
                      go_meet
                      case rel => exact ⟨_, (true), (by first | rfl | (simp; done) | (simp [*]; done)), H', ⟨by have := HJ4.out; have := HK2.out; first | omega | exact Nat.le_refl _⟩, ⟨by (with_reducible repeat (first | refine blk_drewN ?_ _ | refine blk_drew ?_ | refine blk_alloc ?_ _)); refine blk_put (cs := #[.int .i64 t589, .int .i64 t590, .int .i64 t591, .bool false]) ?_ 3 _ rfl; (with_reducible repeat (first | refine blk_drewN ?_ _ | refine blk_drew ?_ | refine blk_alloc ?_ _)); refine blk_put (cs := #[.int .i64 t589, .int .i64 t590, .int .i64 0, .bool false]) ?_ 2 _ rfl; (with_reducible repeat (first | refine blk_drewN ?_ _ | refine blk_drew ?_ | refine blk_alloc ?_ _)); refine blk_put (cs := #[.int .i64 t589, .int .i64 0, .int .i64 0, .bool false]) ?_ 1 _ rfl; (with_reducible repeat (first | refine blk_drewN ?_ _ | refine blk_drew ?_ | refine blk_alloc ?_ _)); refine blk_put (cs := #[.int .i64 0, .int .i64 0, .int .i64 0, .bool false]) ?_ 0 _ rfl; (with_reducible repeat (first | refine blk_drewN ?_ _ | refine blk_drew ?_ | refine blk_alloc ?_ _)); exact BK594.out⟩, ⟨by repeat (first | (with_reducible first | exact HB.out | apply below_alloc | apply pw_below_drewN | apply below_drew1 | refine below_set ?_ GE594.out) | exact HB.out)⟩⟩
                    · rw [if_neg c18] at H
                      have c18b0 : decide (x7_2 < t590) = false := decide_eq_false c18
                      clear c18
                      (first | rw [c18b0] | (simp only [i64_w, i32_w]; rw [c18b0]) | skip)
                      by_cases c20 : x7_2 > t591
                      · rw [if_pos c20] at H
                        have c20b0 : decide (t591 < x7_2) = true := decide_eq_true c20
                        clear c20
                        have H' := Aside0.mk H
                        clear H
                        have hcz21_0 : w15.cell? ⟨gb594, 0, none⟩ = some (.int .i64 0) := (blk_cell BK594.out 0).trans rfl
                        have hcz21_1 : w15.cell? ⟨gb594, 1, none⟩ = some (.int .i64 0) := (blk_cell BK594.out 1).trans rfl
                        have hcz21_2 : w15.cell? ⟨gb594, 2, none⟩ = some (.int .i64 0) := (blk_cell BK594.out 2).trans rfl
                        have hcz21_3 : w15.cell? ⟨gb594, 3, none⟩ = some (.bool false) := (blk_cell BK594.out 3).trans rfl
                        have hfz21_0 := blk_frozen BK594.out 0
                        have hfz21_1 := blk_frozen BK594.out 1
                        have hfz21_2 := blk_frozen BK594.out 2
                        have hfz21_3 := blk_frozen BK594.out 3
                        go_wp2
                        repeat (go_quiet (fail); try go_wp2)
                        go_meet
                        case rel => exact ⟨_, (true), (by first | rfl | (simp; done) | (simp [*]; done)), H', ⟨by have := HJ4.out; have := HK2.out; first | omega | exact Nat.le_refl _⟩, ⟨by (with_reducible repeat (first | refine blk_drewN ?_ _ | refine blk_drew ?_ | refine blk_alloc ?_ _)); refine blk_put (cs := #[.int .i64 t589, .int .i64 t590, .int .i64 t591, .bool false]) ?_ 3 _ rfl; (with_reducible repeat (first | refine blk_drewN ?_ _ | refine blk_drew ?_ | refine blk_alloc ?_ _)); refine blk_put (cs := #[.int .i64 t589, .int .i64 t590, .int .i64 0, .bool false]) ?_ 2 _ rfl; (with_reducible repeat (first | refine blk_drewN ?_ _ | refine blk_drew ?_ | refine blk_alloc ?_ _)); refine blk_put (cs := #[.int .i64 t589, .int .i64 0, .int .i64 0, .bool false]) ?_ 1 _ rfl; (with_reducible repeat (first | refine blk_drewN ?_ _ | refine blk_drew ?_ | refine blk_alloc ?_ _)); refine blk_put (cs := #[.int .i64 0, .int .i64 0, .int .i64 0, .bool false]) ?_ 0 _ rfl; (with_reducible repeat (first | refine blk_drewN ?_ _ | refine blk_drew ?_ | refine blk_alloc ?_ _)); exact BK594.out⟩, ⟨by repeat (first | (with_reducible first | exact HB.out | apply below_alloc | apply pw_below_drewN | apply below_drew1 | refine below_set ?_ GE594.out) | exact HB.out)⟩⟩
                      · rw [if_neg c20] at H
                        have c20b0 : decide (t591 < x7_2) = false := decide_eq_false c20
                        clear c20
                        by_cases c22 : t591 ≥ (l0.length : Int)
                        · rw [if_pos c22] at H
                          have c22b0 : decide ((l0.length : Int) ≤ t591) = true := decide_eq_true c22
                          clear c22
                          have H' := Aside0.mk H
                          clear H
                          have hcz23_0 : w15.cell? ⟨gb594, 0, none⟩ = some (.int .i64 0) := (blk_cell BK594.out 0).trans rfl
                          have hcz23_1 : w15.cell? ⟨gb594, 1, none⟩ = some (.int .i64 0) := (blk_cell BK594.out 1).trans rfl
                          have hcz23_2 : w15.cell? ⟨gb594, 2, none⟩ = some (.int .i64 0) := (blk_cell BK594.out 2).trans rfl
                          have hcz23_3 : w15.cell? ⟨gb594, 3, none⟩ = some (.bool false) := (blk_cell BK594.out 3).trans rfl
                          have hfz23_0 := blk_frozen BK594.out 0
                          have hfz23_1 := blk_frozen BK594.out 1
                          have hfz23_2 := blk_frozen BK594.out 2
                          have hfz23_3 := blk_frozen BK594.out 3
                          go_wp2
                          repeat (go_quiet (fail); try go_wp2)
                          go_meet
                          case rel => exact ⟨_, (true), (by first | rfl | (simp; done) | (simp [*]; done)), H', ⟨by have := HJ4.out; have := HK2.out; first | omega | exact Nat.le_refl _⟩, ⟨by (with_reducible repeat (first | refine blk_drewN ?_ _ | refine blk_drew ?_ | refine blk_alloc ?_ _)); refine blk_put (cs := #[.int .i64 t589, .int .i64 t590, .int .i64 t591, .bool false]) ?_ 3 _ rfl; (with_reducible repeat (first | refine blk_drewN ?_ _ | refine blk_drew ?_ | refine blk_alloc ?_ _)); refine blk_put (cs := #[.int .i64 t589, .int .i64 t590, .int .i64 0, .bool false]) ?_ 2 _ rfl; (with_reducible repeat (first | refine blk_drewN ?_ _ | refine blk_drew ?_ | refine blk_alloc ?_ _)); refine blk_put (cs := #[.int .i64 t589, .int .i64 0, .int .i64 0, .bool false]) ?_ 1 _ rfl; (with_reducible repeat (first | refine blk_drewN ?_ _ | refine blk_drew ?_ | refine blk_alloc ?_ _)); refine blk_put (cs := #[.int .i64 0, .int .i64 0, .int .i64 0, .bool false]) ?_ 0 _ rfl; (with_reducible repeat (first | refine blk_drewN ?_ _ | refine blk_drew ?_ | refine blk_alloc ?_ _)); exact BK594.out⟩, ⟨by repeat (first | (with_reducible first | exact HB.out | apply below_alloc | apply pw_below_drewN | apply below_drew1 | refine below_set ?_ GE594.out) | exact HB.out)⟩⟩
                        · rw [if_neg c22] at H
                          have c22b0 : decide ((l0.length : Int) ≤ t591) = false := decide_eq_false c22
                          clear c22
                          by_cases c24 : ((((rd_T31 l0 x7_2).f0) == 1) != (x7_2 == t590)) = true
                          · rw [if_pos c24] at H
                            have c24b0 : ((((rd_T31 l0 x7_2).f0) == 1) != (x7_2 == t590)) = true := c24
                            (try (have c24b1 : decide ((((rd_T31 l0 x7_2).f0) == 1) = (x7_2 == t590)) = false := by simpa using c24))
                            (try (have c24b2 : ((((rd_T31 l0 x7_2).f0) == 1) == (x7_2 == t590)) = false := by simpa using c24))
                            (try (have c24b3 : ¬ ((((rd_T31 l0 x7_2).f0) == 1) = (x7_2 == t590)) := by simpa using c24))
                            clear c24
                            have H' := Aside0.mk H
                            clear H
                            have hcz25_0 : w15.cell? ⟨gb594, 0, none⟩ = some (.int .i64 0) := (blk_cell BK594.out 0).trans rfl
                            have hcz25_1 : w15.cell? ⟨gb594, 1, none⟩ = some (.int .i64 0) := (blk_cell BK594.out 1).trans rfl
                            have hcz25_2 : w15.cell? ⟨gb594, 2, none⟩ = some (.int .i64 0) := (blk_cell BK594.out 2).trans rfl
                            have hcz25_3 : w15.cell? ⟨gb594, 3, none⟩ = some (.bool false) := (blk_cell BK594.out 3).trans rfl
                            have hfz25_0 := blk_frozen BK594.out 0
                            have hfz25_1 := blk_frozen BK594.out 1
                            have hfz25_2 := blk_frozen BK594.out 2
                            have hfz25_3 := blk_frozen BK594.out 3
                            have p595 : 0 ≤ (x7_2 : Int) := of_decide_eq_true (by first | (with_reducible assumption) | assumption)
                            have q595 : x7_2 < (l0.length : Int) := of_decide_eq_true (by first | (with_reducible assumption) | assumption)
                            obtain ⟨ad595, e595, hx595_0, hx595_1, hx595_2, hx595_3⟩ := at_T31 HR0.out x7_2 p595 q595
                            obtain rfl : ad588 = ad595 := (by injection e595)
                            have hn595_0 : ad588.block ≠ gb594 := Nat.ne_of_lt (Nat.lt_of_lt_of_le (by have := World.block_lt_of_cell? _ _ hx595_0; first | rwa [add_block] at this | exact this) GW594.out)
                            have hn595_1 : ad588.block ≠ gb594 := Nat.ne_of_lt (Nat.lt_of_lt_of_le (by have := World.block_lt_of_cell? _ _ hx595_0; first | rwa [add_block] at this | exact this) GW594.out)
                            have hn595_2 : ad588.block ≠ gb594 := Nat.ne_of_lt (Nat.lt_of_lt_of_le (by have := World.block_lt_of_cell? _ _ hx595_0; first | rwa [add_block] at this | exact this) GW594.out)
                            have hn595_3 : ad588.block ≠ gb594 := Nat.ne_of_lt (Nat.lt_of_lt_of_le (by have := World.block_lt_of_cell? _ _ hx595_0; first | rwa [add_block] at this | exact this) GW594.out)
                            replace hx595_0 := (HB.out.cell (World.block_lt_of_cell? w _ hx595_0)).trans hx595_0
                            replace hx595_1 := (HB.out.cell (World.block_lt_of_cell? w _ hx595_1)).trans hx595_1
                            replace hx595_2 := (HB.out.cell (World.block_lt_of_cell? w _ hx595_2)).trans hx595_2
                            replace hx595_3 := (HB.out.cell (World.block_lt_of_cell? w _ hx595_3)).trans hx595_3
                            replace hx595_0 := (cell_far (p := ⟨gb594, 0, none⟩) (by first | (rw [add_block]; exact hn595_0) | (show (Addr.add _ _).block ≠ _; rw [add_block]; exact hn595_0) | exact hn595_0) (.int .i64 t589)).trans hx595_0
                            replace hx595_1 := (cell_far (p := ⟨gb594, 0, none⟩) (by first | (rw [add_block]; exact hn595_0) | (show (Addr.add _ _).block ≠ _; rw [add_block]; exact hn595_0) | exact hn595_0) (.int .i64 t589)).trans hx595_1
                            replace hx595_2 := (cell_far (p := ⟨gb594, 0, none⟩) (by first | (rw [add_block]; exact hn595_0) | (show (Addr.add _ _).block ≠ _; rw [add_block]; exact hn595_0) | exact hn595_0) (.int .i64 t589)).trans hx595_2
                            replace hx595_3 := (cell_far (p := ⟨gb594, 0, none⟩) (by first | (rw [add_block]; exact hn595_0) | (show (Addr.add _ _).block ≠ _; rw [add_block]; exact hn595_0) | exact hn595_0) (.int .i64 t589)).trans hx595_3
                            replace hx595_0 := (cell_far (p := ⟨gb594, 1, none⟩) (by first | (rw [add_block]; exact hn595_1) | (show (Addr.add _ _).block ≠ _; rw [add_block]; exact hn595_1) | exact hn595_1) (.int .i64 t590)).trans hx595_0
                            replace hx595_1 := (cell_far (p := ⟨gb594, 1, none⟩) (by first | (rw [add_block]; exact hn595_1) | (show (Addr.add _ _).block ≠ _; rw [add_block]; exact hn595_1) | exact hn595_1) (.int .i64 t590)).trans hx595_1
                            replace hx595_2 := (cell_far (p := ⟨gb594, 1, none⟩) (by first | (rw [add_block]; exact hn595_1) | (show (Addr.add _ _).block ≠ _; rw [add_block]; exact hn595_1) | exact hn595_1) (.int .i64 t590)).trans hx595_2
                            replace hx595_3 := (cell_far (p := ⟨gb594, 1, none⟩) (by first | (rw [add_block]; exact hn595_1) | (show (Addr.add _ _).block ≠ _; rw [add_block]; exact hn595_1) | exact hn595_1) (.int .i64 t590)).trans hx595_3
                            replace hx595_0 := (cell_far (p := ⟨gb594, 2, none⟩) (by first | (rw [add_block]; exact hn595_2) | (show (Addr.add _ _).block ≠ _; rw [add_block]; exact hn595_2) | exact hn595_2) (.int .i64 t591)).trans hx595_0
                            replace hx595_1 := (cell_far (p := ⟨gb594, 2, none⟩) (by first | (rw [add_block]; exact hn595_2) | (show (Addr.add _ _).block ≠ _; rw [add_block]; exact hn595_2) | exact hn595_2) (.int .i64 t591)).trans hx595_1
                            replace hx595_2 := (cell_far (p := ⟨gb594, 2, none⟩) (by first | (rw [add_block]; exact hn595_2) | (show (Addr.add _ _).block ≠ _; rw [add_block]; exact hn595_2) | exact hn595_2) (.int .i64 t591)).trans hx595_2
                            replace hx595_3 := (cell_far (p := ⟨gb594, 2, none⟩) (by first | (rw [add_block]; exact hn595_2) | (show (Addr.add _ _).block ≠ _; rw [add_block]; exact hn595_2) | exact hn595_2) (.int .i64 t591)).trans hx595_3
                            replace hx595_0 := (cell_far (p := ⟨gb594, 3, none⟩) (by first | (rw [add_block]; exact hn595_3) | (show (Addr.add _ _).block ≠ _; rw [add_block]; exact hn595_3) | exact hn595_3) (.bool t592)).trans hx595_0
                            replace hx595_1 := (cell_far (p := ⟨gb594, 3, none⟩) (by first | (rw [add_block]; exact hn595_3) | (show (Addr.add _ _).block ≠ _; rw [add_block]; exact hn595_3) | exact hn595_3) (.bool t592)).trans hx595_1
                            replace hx595_2 := (cell_far (p := ⟨gb594, 3, none⟩) (by first | (rw [add_block]; exact hn595_3) | (show (Addr.add _ _).block ≠ _; rw [add_block]; exact hn595_3) | exact hn595_3) (.bool t592)).trans hx595_2
                            replace hx595_3 := (cell_far (p := ⟨gb594, 3, none⟩) (by first | (rw [add_block]; exact hn595_3) | (show (Addr.add _ _).block ≠ _; rw [add_block]; exact hn595_3) | exact hn595_3) (.bool t592)).trans hx595_3
                            (try have hy595_0 := fun (n_ : Nat) => (show ((((((w15.drewN n_).setCell ⟨gb594, 0, none⟩ (.int .i64 t589)).setCell ⟨gb594, 1, none⟩ (.int .i64 t590)).setCell ⟨gb594, 2, none⟩ (.int .i64 t591)).setCell ⟨gb594, 3, none⟩ (.bool t592))).cell? _ = some _ from hx595_0))
                            (try have hy595_1 := fun (n_ : Nat) => (show ((((((w15.drewN n_).setCell ⟨gb594, 0, none⟩ (.int .i64 t589)).setCell ⟨gb594, 1, none⟩ (.int .i64 t590)).setCell ⟨gb594, 2, none⟩ (.int .i64 t591)).setCell ⟨gb594, 3, none⟩ (.bool t592))).cell? _ = some _ from hx595_1))
                            (try have hy595_2 := fun (n_ : Nat) => (show ((((((w15.drewN n_).setCell ⟨gb594, 0, none⟩ (.int .i64 t589)).setCell ⟨gb594, 1, none⟩ (.int .i64 t590)).setCell ⟨gb594, 2, none⟩ (.int .i64 t591)).setCell ⟨gb594, 3, none⟩ (.bool t592))).cell? _ = some _ from hx595_2))
                            (try have hy595_3 := fun (n_ : Nat) => (show ((((((w15.drewN n_).setCell ⟨gb594, 0, none⟩ (.int .i64 t589)).setCell ⟨gb594, 1, none⟩ (.int .i64 t590)).setCell ⟨gb594, 2, none⟩ (.int .i64 t591)).setCell ⟨gb594, 3, none⟩ (.bool t592))).cell? _ = some _ from hx595_3))
                            clear hn595_0
                            clear hn595_1
                            clear hn595_2
                            clear hn595_3
                            replace p595 := eq_true p595
                            replace q595 := eq_true q595
                            go_wp2
                            repeat (go_quiet (fail); try go_wp2)
                            go_meet
                            case rel => exact ⟨_, (true), (by first | rfl | (simp; done) | (simp [*]; done)), H', ⟨by have := HJ4.out; have := HK2.out; first | omega | exact Nat.le_refl _⟩, ⟨by (with_reducible repeat (first | refine blk_drewN ?_ _ | refine blk_drew ?_ | refine blk_alloc ?_ _)); refine blk_put (cs := #[.int .i64 t589, .int .i64 t590, .int .i64 t591, .bool false]) ?_ 3 _ rfl; (with_reducible repeat (first | refine blk_drewN ?_ _ | refine blk_drew ?_ | refine blk_alloc ?_ _)); refine blk_put (cs := #[.int .i64 t589, .int .i64 t590, .int .i64 0, .bool false]) ?_ 2 _ rfl; (with_reducible repeat (first | refine blk_drewN ?_ _ | refine blk_drew ?_ | refine blk_alloc ?_ _)); refine blk_put (cs := #[.int .i64 t589, .int .i64 0, .int .i64 0, .bool false]) ?_ 1 _ rfl; (with_reducible repeat (first | refine blk_drewN ?_ _ | refine blk_drew ?_ | refine blk_alloc ?_ _)); refine blk_put (cs := #[.int .i64 0, .int .i64 0, .int .i64 0, .bool false]) ?_ 0 _ rfl; (with_reducible repeat (first | refine blk_drewN ?_ _ | refine blk_drew ?_ | refine blk_alloc ?_ _)); exact BK594.out⟩, ⟨by repeat (first | (with_reducible first | exact HB.out | apply below_alloc | apply pw_below_drewN | apply below_drew1 | refine below_set ?_ GE594.out) | exact HB.out)⟩⟩
                          · rw [if_neg c24] at H
                            have c24b0 : ((((rd_T31 l0 x7_2).f0) == 1) != (x7_2 == t590)) = false := by simpa using c24
                            (try (have c24b1 : decide ((((rd_T31 l0 x7_2).f0) == 1) = (x7_2 == t590)) = true := by simpa using c24))
                            (try (have c24b2 : ((((rd_T31 l0 x7_2).f0) == 1) == (x7_2 == t590)) = true := by simpa using c24))
                            clear c24
                            have H' := Aside0.mk H
                            clear H
                            have hcz26_0 : w15.cell? ⟨gb594, 0, none⟩ = some (.int .i64 0) := (blk_cell BK594.out 0).trans rfl
                            have hcz26_1 : w15.cell? ⟨gb594, 1, none⟩ = some (.int .i64 0) := (blk_cell BK594.out 1).trans rfl
                            have hcz26_2 : w15.cell? ⟨gb594, 2, none⟩ = some (.int .i64 0) := (blk_cell BK594.out 2).trans rfl
                            have hcz26_3 : w15.cell? ⟨gb594, 3, none⟩ = some (.bool false) := (blk_cell BK594.out 3).trans rfl
                            have hfz26_0 := blk_frozen BK594.out 0
                            have hfz26_1 := blk_frozen BK594.out 1
                            have hfz26_2 := blk_frozen BK594.out 2
                            have hfz26_3 := blk_frozen BK594.out 3
                            have p595 : 0 ≤ (x7_2 : Int) := of_decide_eq_true (by first | (with_reducible assumption) | assumption)
                            have q595 : x7_2 < (l0.length : Int) := of_decide_eq_true (by first | (with_reducible assumption) | assumption)
                            obtain ⟨ad595, e595, hx595_0, hx595_1, hx595_2, hx595_3⟩ := at_T31 HR0.out x7_2 p595 q595
                            obtain rfl : ad588 = ad595 := (by injection e595)
                            have hn595_0 : ad588.block ≠ gb594 := Nat.ne_of_lt (Nat.lt_of_lt_of_le (by have := World.block_lt_of_cell? _ _ hx595_0; first | rwa [add_block] at this | exact this) GW594.out)
                            have hn595_1 : ad588.block ≠ gb594 := Nat.ne_of_lt (Nat.lt_of_lt_of_le (by have := World.block_lt_of_cell? _ _ hx595_0; first | rwa [add_block] at this | exact this) GW594.out)
                            have hn595_2 : ad588.block ≠ gb594 := Nat.ne_of_lt (Nat.lt_of_lt_of_le (by have := World.block_lt_of_cell? _ _ hx595_0; first | rwa [add_block] at this | exact this) GW594.out)
                            have hn595_3 : ad588.block ≠ gb594 := Nat.ne_of_lt (Nat.lt_of_lt_of_le (by have := World.block_lt_of_cell? _ _ hx595_0; first | rwa [add_block] at this | exact this) GW594.out)
                            replace hx595_0 := (HB.out.cell (World.block_lt_of_cell? w _ hx595_0)).trans hx595_0
                            replace hx595_1 := (HB.out.cell (World.block_lt_of_cell? w _ hx595_1)).trans hx595_1
                            replace hx595_2 := (HB.out.cell (World.block_lt_of_cell? w _ hx595_2)).trans hx595_2
                            replace hx595_3 := (HB.out.cell (World.block_lt_of_cell? w _ hx595_3)).trans hx595_3
                            replace hx595_0 := (cell_far (p := ⟨gb594, 0, none⟩) (by first | (rw [add_block]; exact hn595_0) | (show (Addr.add _ _).block ≠ _; rw [add_block]; exact hn595_0) | exact hn595_0) (.int .i64 t589)).trans hx595_0
                            replace hx595_1 := (cell_far (p := ⟨gb594, 0, none⟩) (by first | (rw [add_block]; exact hn595_0) | (show (Addr.add _ _).block ≠ _; rw [add_block]; exact hn595_0) | exact hn595_0) (.int .i64 t589)).trans hx595_1
                            replace hx595_2 := (cell_far (p := ⟨gb594, 0, none⟩) (by first | (rw [add_block]; exact hn595_0) | (show (Addr.add _ _).block ≠ _; rw [add_block]; exact hn595_0) | exact hn595_0) (.int .i64 t589)).trans hx595_2
                            replace hx595_3 := (cell_far (p := ⟨gb594, 0, none⟩) (by first | (rw [add_block]; exact hn595_0) | (show (Addr.add _ _).block ≠ _; rw [add_block]; exact hn595_0) | exact hn595_0) (.int .i64 t589)).trans hx595_3
                            replace hx595_0 := (cell_far (p := ⟨gb594, 1, none⟩) (by first | (rw [add_block]; exact hn595_1) | (show (Addr.add _ _).block ≠ _; rw [add_block]; exact hn595_1) | exact hn595_1) (.int .i64 t590)).trans hx595_0
                            replace hx595_1 := (cell_far (p := ⟨gb594, 1, none⟩) (by first | (rw [add_block]; exact hn595_1) | (show (Addr.add _ _).block ≠ _; rw [add_block]; exact hn595_1) | exact hn595_1) (.int .i64 t590)).trans hx595_1
                            replace hx595_2 := (cell_far (p := ⟨gb594, 1, none⟩) (by first | (rw [add_block]; exact hn595_1) | (show (Addr.add _ _).block ≠ _; rw [add_block]; exact hn595_1) | exact hn595_1) (.int .i64 t590)).trans hx595_2
                            replace hx595_3 := (cell_far (p := ⟨gb594, 1, none⟩) (by first | (rw [add_block]; exact hn595_1) | (show (Addr.add _ _).block ≠ _; rw [add_block]; exact hn595_1) | exact hn595_1) (.int .i64 t590)).trans hx595_3
                            replace hx595_0 := (cell_far (p := ⟨gb594, 2, none⟩) (by first | (rw [add_block]; exact hn595_2) | (show (Addr.add _ _).block ≠ _; rw [add_block]; exact hn595_2) | exact hn595_2) (.int .i64 t591)).trans hx595_0
                            replace hx595_1 := (cell_far (p := ⟨gb594, 2, none⟩) (by first | (rw [add_block]; exact hn595_2) | (show (Addr.add _ _).block ≠ _; rw [add_block]; exact hn595_2) | exact hn595_2) (.int .i64 t591)).trans hx595_1
                            replace hx595_2 := (cell_far (p := ⟨gb594, 2, none⟩) (by first | (rw [add_block]; exact hn595_2) | (show (Addr.add _ _).block ≠ _; rw [add_block]; exact hn595_2) | exact hn595_2) (.int .i64 t591)).trans hx595_2
                            replace hx595_3 := (cell_far (p := ⟨gb594, 2, none⟩) (by first | (rw [add_block]; exact hn595_2) | (show (Addr.add _ _).block ≠ _; rw [add_block]; exact hn595_2) | exact hn595_2) (.int .i64 t591)).trans hx595_3
                            replace hx595_0 := (cell_far (p := ⟨gb594, 3, none⟩) (by first | (rw [add_block]; exact hn595_3) | (show (Addr.add _ _).block ≠ _; rw [add_block]; exact hn595_3) | exact hn595_3) (.bool t592)).trans hx595_0
                            replace hx595_1 := (cell_far (p := ⟨gb594, 3, none⟩) (by first | (rw [add_block]; exact hn595_3) | (show (Addr.add _ _).block ≠ _; rw [add_block]; exact hn595_3) | exact hn595_3) (.bool t592)).trans hx595_1
                            replace hx595_2 := (cell_far (p := ⟨gb594, 3, none⟩) (by first | (rw [add_block]; exact hn595_3) | (show (Addr.add _ _).block ≠ _; rw [add_block]; exact hn595_3) | exact hn595_3) (.bool t592)).trans hx595_2
                            replace hx595_3 := (cell_far (p := ⟨gb594, 3, none⟩) (by first | (rw [add_block]; exact hn595_3) | (show (Addr.add _ _).block ≠ _; rw [add_block]; exact hn595_3) | exact hn595_3) (.bool t592)).trans hx595_3
                            (try have hy595_0 := fun (n_ : Nat) => (show ((((((w15.drewN n_).setCell ⟨gb594, 0, none⟩ (.int .i64 t589)).setCell ⟨gb594, 1, none⟩ (.int .i64 t590)).setCell ⟨gb594, 2, none⟩ (.int .i64 t591)).setCell ⟨gb594, 3, none⟩ (.bool t592))).cell? _ = some _ from hx595_0))
                            (try have hy595_1 := fun (n_ : Nat) => (show ((((((w15.drewN n_).setCell ⟨gb594, 0, none⟩ (.int .i64 t589)).setCell ⟨gb594, 1, none⟩ (.int .i64 t590)).setCell ⟨gb594, 2, none⟩ (.int .i64 t591)).setCell ⟨gb594, 3, none⟩ (.bool t592))).cell? _ = some _ from hx595_1))
                            (try have hy595_2 := fun (n_ : Nat) => (show ((((((w15.drewN n_).setCell ⟨gb594, 0, none⟩ (.int .i64 t589)).setCell ⟨gb594, 1, none⟩ (.int .i64 t590)).setCell ⟨gb594, 2, none⟩ (.int .i64 t591)).setCell ⟨gb594, 3, none⟩ (.bool t592))).cell? _ = some _ from hx595_2))
                            (try have hy595_3 := fun (n_ : Nat) => (show ((((((w15.drewN n_).setCell ⟨gb594, 0, none⟩ (.int .i64 t589)).setCell ⟨gb594, 1, none⟩ (.int .i64 t590)).setCell ⟨gb594, 2, none⟩ (.int .i64 t591)).setCell ⟨gb594, 3, none⟩ (.bool t592))).cell? _ = some _ from hx595_3))
                            clear hn595_0
                            clear hn595_1
                            clear hn595_2
                            clear hn595_3
                            replace p595 := eq_true p595
                            replace q595 := eq_true q595
                            have p596 : 0 ≤ (x7_2 : Int) := of_decide_eq_true (by first | (with_reducible assumption) | assumption)
                            have q596 : x7_2 < (l0.length : Int) := of_decide_eq_true (by first | (with_reducible assumption) | assumption)
                            obtain ⟨ad596, e596, hx596_0, hx596_1, hx596_2, hx596_3⟩ := at_T31 HR0.out x7_2 p596 q596
                            obtain rfl : ad588 = ad596 := (by injection e596)
                            have hn596_0 : ad588.block ≠ gb594 := Nat.ne_of_lt (Nat.lt_of_lt_of_le (by have := World.block_lt_of_cell? _ _ hx596_0; first | rwa [add_block] at this | exact this) GW594.out)
                            have hn596_1 : ad588.block ≠ gb594 := Nat.ne_of_lt (Nat.lt_of_lt_of_le (by have := World.block_lt_of_cell? _ _ hx596_0; first | rwa [add_block] at this | exact this) GW594.out)
                            have hn596_2 : ad588.block ≠ gb594 := Nat.ne_of_lt (Nat.lt_of_lt_of_le (by have := World.block_lt_of_cell? _ _ hx596_0; first | rwa [add_block] at this | exact this) GW594.out)
                            have hn596_3 : ad588.block ≠ gb594 := Nat.ne_of_lt (Nat.lt_of_lt_of_le (by have := World.block_lt_of_cell? _ _ hx596_0; first | rwa [add_block] at this | exact this) GW594.out)
                            replace hx596_0 := (HB.out.cell (World.block_lt_of_cell? w _ hx596_0)).trans hx596_0
                            replace hx596_1 := (HB.out.cell (World.block_lt_of_cell? w _ hx596_1)).trans hx596_1
                            replace hx596_2 := (HB.out.cell (World.block_lt_of_cell? w _ hx596_2)).trans hx596_2
                            replace hx596_3 := (HB.out.cell (World.block_lt_of_cell? w _ hx596_3)).trans hx596_3
                            replace hx596_0 := (cell_far (p := ⟨gb594, 0, none⟩) (by first | (rw [add_block]; exact hn596_0) | (show (Addr.add _ _).block ≠ _; rw [add_block]; exact hn596_0) | exact hn596_0) (.int .i64 t589)).trans hx596_0
                            replace hx596_1 := (cell_far (p := ⟨gb594, 0, none⟩) (by first | (rw [add_block]; exact hn596_0) | (show (Addr.add _ _).block ≠ _; rw [add_block]; exact hn596_0) | exact hn596_0) (.int .i64 t589)).trans hx596_1
                            replace hx596_2 := (cell_far (p := ⟨gb594, 0, none⟩) (by first | (rw [add_block]; exact hn596_0) | (show (Addr.add _ _).block ≠ _; rw [add_block]; exact hn596_0) | exact hn596_0) (.int .i64 t589)).trans hx596_2
                            replace hx596_3 := (cell_far (p := ⟨gb594, 0, none⟩) (by first | (rw [add_block]; exact hn596_0) | (show (Addr.add _ _).block ≠ _; rw [add_block]; exact hn596_0) | exact hn596_0) (.int .i64 t589)).trans hx596_3
                            replace hx596_0 := (cell_far (p := ⟨gb594, 1, none⟩) (by first | (rw [add_block]; exact hn596_1) | (show (Addr.add _ _).block ≠ _; rw [add_block]; exact hn596_1) | exact hn596_1) (.int .i64 t590)).trans hx596_0
                            replace hx596_1 := (cell_far (p := ⟨gb594, 1, none⟩) (by first | (rw [add_block]; exact hn596_1) | (show (Addr.add _ _).block ≠ _; rw [add_block]; exact hn596_1) | exact hn596_1) (.int .i64 t590)).trans hx596_1
                            replace hx596_2 := (cell_far (p := ⟨gb594, 1, none⟩) (by first | (rw [add_block]; exact hn596_1) | (show (Addr.add _ _).block ≠ _; rw [add_block]; exact hn596_1) | exact hn596_1) (.int .i64 t590)).trans hx596_2
                            replace hx596_3 := (cell_far (p := ⟨gb594, 1, none⟩) (by first | (rw [add_block]; exact hn596_1) | (show (Addr.add _ _).block ≠ _; rw [add_block]; exact hn596_1) | exact hn596_1) (.int .i64 t590)).trans hx596_3
                            replace hx596_0 := (cell_far (p := ⟨gb594, 2, none⟩) (by first | (rw [add_block]; exact hn596_2) | (show (Addr.add _ _).block ≠ _; rw [add_block]; exact hn596_2) | exact hn596_2) (.int .i64 t591)).trans hx596_0
                            replace hx596_1 := (cell_far (p := ⟨gb594, 2, none⟩) (by first | (rw [add_block]; exact hn596_2) | (show (Addr.add _ _).block ≠ _; rw [add_block]; exact hn596_2) | exact hn596_2) (.int .i64 t591)).trans hx596_1
                            replace hx596_2 := (cell_far (p := ⟨gb594, 2, none⟩) (by first | (rw [add_block]; exact hn596_2) | (show (Addr.add _ _).block ≠ _; rw [add_block]; exact hn596_2) | exact hn596_2) (.int .i64 t591)).trans hx596_2
                            replace hx596_3 := (cell_far (p := ⟨gb594, 2, none⟩) (by first | (rw [add_block]; exact hn596_2) | (show (Addr.add _ _).block ≠ _; rw [add_block]; exact hn596_2) | exact hn596_2) (.int .i64 t591)).trans hx596_3
                            replace hx596_0 := (cell_far (p := ⟨gb594, 3, none⟩) (by first | (rw [add_block]; exact hn596_3) | (show (Addr.add _ _).block ≠ _; rw [add_block]; exact hn596_3) | exact hn596_3) (.bool t592)).trans hx596_0
                            replace hx596_1 := (cell_far (p := ⟨gb594, 3, none⟩) (by first | (rw [add_block]; exact hn596_3) | (show (Addr.add _ _).block ≠ _; rw [add_block]; exact hn596_3) | exact hn596_3) (.bool t592)).trans hx596_1
                            replace hx596_2 := (cell_far (p := ⟨gb594, 3, none⟩) (by first | (rw [add_block]; exact hn596_3) | (show (Addr.add _ _).block ≠ _; rw [add_block]; exact hn596_3) | exact hn596_3) (.bool t592)).trans hx596_2
                            replace hx596_3 := (cell_far (p := ⟨gb594, 3, none⟩) (by first | (rw [add_block]; exact hn596_3) | (show (Addr.add _ _).block ≠ _; rw [add_block]; exact hn596_3) | exact hn596_3) (.bool t592)).trans hx596_3
                            (try have hy596_0 := fun (n_ : Nat) => (show ((((((w15.drewN n_).setCell ⟨gb594, 0, none⟩ (.int .i64 t589)).setCell ⟨gb594, 1, none⟩ (.int .i64 t590)).setCell ⟨gb594, 2, none⟩ (.int .i64 t591)).setCell ⟨gb594, 3, none⟩ (.bool t592))).cell? _ = some _ from hx596_0))
                            (try have hy596_1 := fun (n_ : Nat) => (show ((((((w15.drewN n_).setCell ⟨gb594, 0, none⟩ (.int .i64 t589)).setCell ⟨gb594, 1, none⟩ (.int .i64 t590)).setCell ⟨gb594, 2, none⟩ (.int .i64 t591)).setCell ⟨gb594, 3, none⟩ (.bool t592))).cell? _ = some _ from hx596_1))
                            (try have hy596_2 := fun (n_ : Nat) => (show ((((((w15.drewN n_).setCell ⟨gb594, 0, none⟩ (.int .i64 t589)).setCell ⟨gb594, 1, none⟩ (.int .i64 t590)).setCell ⟨gb594, 2, none⟩ (.int .i64 t591)).setCell ⟨gb594, 3, none⟩ (.bool t592))).cell? _ = some _ from hx596_2))
                            (try have hy596_3 := fun (n_ : Nat) => (show ((((((w15.drewN n_).setCell ⟨gb594, 0, none⟩ (.int .i64 t589)).setCell ⟨gb594, 1, none⟩ (.int .i64 t590)).setCell ⟨gb594, 2, none⟩ (.int .i64 t591)).setCell ⟨gb594, 3, none⟩ (.bool t592))).cell? _ = some _ from hx596_3))
                            clear hn596_0
                            clear hn596_1
                            clear hn596_2
                            clear hn596_3
                            replace p596 := eq_true p596
                            replace q596 := eq_true q596
                            go_wp2
                            repeat (go_quiet (fail); try go_wp2)
                            go_meet
                            case rel => exact ⟨_, (((decide (((rd_T31 l0 x7_2).f0) ≥ 4)) != (x7_2 == t591))), (by first | rfl | (simp; done) | (simp [*]; done)), H', ⟨by have := HJ4.out; have := HK2.out; first | omega | exact Nat.le_refl _⟩, ⟨by (with_reducible repeat (first | refine blk_drewN ?_ _ | refine blk_drew ?_ | refine blk_alloc ?_ _)); refine blk_put (cs := #[.int .i64 t589, .int .i64 t590, .int .i64 t591, .bool false]) ?_ 3 _ rfl; (with_reducible repeat (first | refine blk_drewN ?_ _ | refine blk_drew ?_ | refine blk_alloc ?_ _)); refine blk_put (cs := #[.int .i64 t589, .int .i64 t590, .int .i64 0, .bool false]) ?_ 2 _ rfl; (with_reducible repeat (first | refine blk_drewN ?_ _ | refine blk_drew ?_ | refine blk_alloc ?_ _)); refine blk_put (cs := #[.int .i64 t589, .int .i64 0, .int .i64 0, .bool false]) ?_ 1 _ rfl; (with_reducible repeat (first | refine blk_drewN ?_ _ | refine blk_drew ?_ | refine blk_alloc ?_ _)); refine blk_put (cs := #[.int .i64 0, .int .i64 0, .int .i64 0, .bool false]) ?_ 0 _ rfl; (with_reducible repeat (first | refine blk_drewN ?_ _ | refine blk_drew ?_ | refine blk_alloc ?_ _)); exact BK594.out⟩, ⟨by repeat (first | (with_reducible first | exact HB.out | apply below_alloc | apply pw_below_drewN | apply below_drew1 | refine below_set ?_ GE594.out) | exact HB.out)⟩⟩
                  · replace c17 := Bool.eq_false_iff.mpr c17
                    subst c17
                    have H1 : (cartouchelaw08_HistoryOnce.j2 k2 l0 t584 x7_2 true) = some r := by rw [if_neg (show ¬ (false = true) by decide)] at H; exact H
                    clear H
                    have H := H1
                    clear H1
                    have H' := Aside0.mk H
                    clear H
                    go_wp2
                    repeat (go_quiet (fail); try go_wp2)
                    go_meet
                    case rel => exact ⟨_, (true), (by first | rfl | (simp; done) | (simp [*]; done)), H', ⟨by have := HJ4.out; have := HK2.out; first | omega | exact Nat.le_refl _⟩, ⟨by (with_reducible repeat (first | refine blk_drewN ?_ _ | refine blk_drew ?_ | refine blk_alloc ?_ _)); refine blk_put (cs := #[.int .i64 t589, .int .i64 t590, .int .i64 t591, .bool false]) ?_ 3 _ rfl; (with_reducible repeat (first | refine blk_drewN ?_ _ | refine blk_drew ?_ | refine blk_alloc ?_ _)); refine blk_put (cs := #[.int .i64 t589, .int .i64 t590, .int .i64 0, .bool false]) ?_ 2 _ rfl; (with_reducible repeat (first | refine blk_drewN ?_ _ | refine blk_drew ?_ | refine blk_alloc ?_ _)); refine blk_put (cs := #[.int .i64 t589, .int .i64 0, .int .i64 0, .bool false]) ?_ 1 _ rfl; (with_reducible repeat (first | refine blk_drewN ?_ _ | refine blk_drew ?_ | refine blk_alloc ?_ _)); refine blk_put (cs := #[.int .i64 0, .int .i64 0, .int .i64 0, .bool false]) ?_ 0 _ rfl; (with_reducible repeat (first | refine blk_drewN ?_ _ | refine blk_drew ?_ | refine blk_alloc ?_ _)); exact BK594.out⟩, ⟨by repeat (first | (with_reducible first | exact HB.out | apply below_alloc | apply pw_below_drewN | apply below_drew1 | refine below_set ?_ GE594.out) | exact HB.out)⟩⟩
                case rest =>
                  clear HC13
                  try clear c1
                  try clear c2
                  try clear p2
                  try clear p5
                  try clear q5
                  try clear hx5
                  try clear c8
                  try clear c9
                  try clear c10
                  try clear c10b0
                  try clear c11
                  try clear c11b0
                  try clear c17
                  try clear c18
                  try clear c18b0
                  try clear c20
                  try clear c20b0
                  try clear c22
                  try clear c22b0
                  try clear c24
                  try clear c24b0
                  try clear c24b1
                  try clear c24b2
                  try clear hcz16_0
                  try clear hcz16_1
                  try clear hcz16_2
                  try clear hcz16_3
                  try clear hcz19_0
                  try clear hcz19_1
                  try clear hcz19_2
                  try clear hcz19_3
                  try clear hcz21_0
                  try clear hcz21_1
                  try clear hcz21_2
                  try clear hcz21_3
                  try clear hcz23_0
                  try clear hcz23_1
                  try clear hcz23_2
                  try clear hcz23_3
                  try clear hcz25_0
                  try clear hcz25_1
                  try clear hcz25_2
                  try clear hcz25_3
                  try clear hcz26_0
                  try clear hcz26_1
                  try clear hcz26_2
                  try clear hcz26_3
                  try clear hfz16_0
                  try clear hfz16_1
                  try clear hfz16_2
                  try clear hfz16_3
                  try clear hfz19_0
                  try clear hfz19_1
                  try clear hfz19_2
                  try clear hfz19_3
                  try clear hfz21_0
                  try clear hfz21_1
                  try clear hfz21_2
                  try clear hfz21_3
                  try clear hfz23_0
                  try clear hfz23_1
                  try clear hfz23_2
                  try clear hfz23_3
                  try clear hfz25_0
                  try clear hfz25_1
                  try clear hfz25_2
                  try clear hfz25_3
                  try clear hfz26_0
                  try clear hfz26_1
                  try clear hfz26_2
                  try clear hfz26_3
                  try clear hx588_0
                  try clear hx588_1
                  try clear hx588_2
                  try clear hx588_3
                  try clear hx595_0
                  try clear hx595_1
                  try clear hx595_2
                  try clear hx595_3
                  try clear hx596_0
                  try clear hx596_1
                  try clear hx596_2
                  try clear hx596_3
                  try clear p2
                  try clear p588
                  try clear p595
                  try clear p596
                  try clear q588
                  try clear q595
                  try clear q596
                  obtain ⟨kq, x88_12, rfl, HA, HJ12, BK594, HB⟩ := hcut
                  cases kq with
                  | zero => exact absurd HA.out (by simp [cartouchelaw08_HistoryOnce.j2])
                  | succ kj12 =>
                    have H := HA.out
                    clear HA
                    simp only [cartouchelaw08_HistoryOnce.j2] at H
                    by_cases c27 : x88_12 = true
                    · subst c27
                      have H1 : (some false) = some r := by rw [if_pos rfl] at H; exact H
                      clear H
                      have H := H1
                      clear H1
                      obtain rfl := Option.some.inj H
                      go_wp2
                      repeat (go_quiet (fail); try go_wp2)
                      go_ret
                      exact ⟨by first | rfl | (simp [errW_none, errW_some] <;> rfl) | (simp [*, errW_none, errW_some] <;> rfl), by repeat (first | (with_reducible first | exact HB.out | apply below_alloc | apply pw_below_drewN | apply below_drew1 | refine below_set ?_ GE594.out) | exact HB.out)⟩
                    · replace c27 := Bool.eq_false_iff.mpr c27
                      subst c27
                      have H1 : (cartouchelaw08_HistoryOnce.l1 kj12 l0 t584 x7_2 0) = some r := by rw [if_neg (show ¬ (false = true) by decide)] at H; exact H
                      clear H
                      have H := H1
                      clear H1
                      have H' := Aside0.mk H
                      clear H
                      go_wp2
                      repeat (go_quiet (fail); try go_wp2)
                      go_loopg [10] kj12 (fun kq v10 w' => ∃ (x10_4 : Int), v10 = .int .i64 x10_4 ∧ Aside0 (cartouchelaw08_HistoryOnce.l1 kq l0 t584 x7_2 x10_4 = some r) ∧ Aside0 (kq ≤ kj12) ∧ Aside0 (w'.heap[gb594]? = some (.cells #[.int .i64 t589, .int .i64 t590, .int .i64 t591, .bool t592] 33 (0, 0))) ∧ Aside0 (Below w.heap.size w w'))
                      case atStart => exact ⟨(0), (by first | rfl | (simp; done) | (simp [*]; done)), H', ⟨Nat.le_refl _⟩, ⟨by (with_reducible repeat (first | refine blk_drewN ?_ _ | refine blk_drew ?_ | refine blk_alloc ?_ _)); exact BK594.out⟩, ⟨by repeat (first | (with_reducible first | exact HB.out | apply below_alloc | apply pw_below_drewN | apply below_drew1 | refine below_set ?_ GE594.out) | exact HB.out)⟩⟩
                      case round =>
                        clear H'
                        try clear c1
                        try clear c2
                        try clear p2
                        try clear p5
                        try clear q5
                        try clear hx5
                        try clear c8
                        try clear c9
                        try clear c10
                        try clear c10b0
                        try clear c11
                        try clear c11b0
                        try clear c17
                        try clear c18
                        try clear c18b0
                        try clear c20
                        try clear c20b0
                        try clear c22
                        try clear c22b0
                        try clear c24
                        try clear c24b0
                        try clear c24b1
                        try clear c24b2
                        try clear c27
                        try clear hcz16_0
                        try clear hcz16_1
                        try clear hcz16_2
                        try clear hcz16_3
                        try clear hcz19_0
                        try clear hcz19_1
                        try clear hcz19_2
                        try clear hcz19_3
                        try clear hcz21_0
                        try clear hcz21_1
                        try clear hcz21_2
                        try clear hcz21_3
                        try clear hcz23_0
                        try clear hcz23_1
                        try clear hcz23_2
                        try clear hcz23_3
                        try clear hcz25_0
                        try clear hcz25_1
                        try clear hcz25_2
                        try clear hcz25_3
                        try clear hcz26_0
                        try clear hcz26_1
                        try clear hcz26_2
                        try clear hcz26_3
                        try clear hfz16_0
                        try clear hfz16_1
                        try clear hfz16_2
                        try clear hfz16_3
                        try clear hfz19_0
                        try clear hfz19_1
                        try clear hfz19_2
                        try clear hfz19_3
                        try clear hfz21_0
                        try clear hfz21_1
                        try clear hfz21_2
                        try clear hfz21_3
                        try clear hfz23_0
                        try clear hfz23_1
                        try clear hfz23_2
                        try clear hfz23_3
                        try clear hfz25_0
                        try clear hfz25_1
                        try clear hfz25_2
                        try clear hfz25_3
                        try clear hfz26_0
                        try clear hfz26_1
                        try clear hfz26_2
                        try clear hfz26_3
                        try clear hx588_0
                        try clear hx588_1
                        try clear hx588_2
                        try clear hx588_3
                        try clear hx595_0
                        try clear hx595_1
                        try clear hx595_2
                        try clear hx595_3
                        try clear hx596_0
                        try clear hx596_1
                        try clear hx596_2
                        try clear hx596_3
                        try clear p2
                        try clear p5
                        try clear p588
                        try clear p595
                        try clear p596
                        try clear q5
                        try clear q588
                        try clear q595
                        try clear q596
                        obtain ⟨x10_4, rfl, HA, HK4, BK594, HB⟩ := hrel
                        cases gk with
                        | zero => exact absurd HA.out (by simp [cartouchelaw08_HistoryOnce.l1])
                        | succ k4 =>
                          have H := HA.out
                          clear HA
                          simp only [cartouchelaw08_HistoryOnce.l1] at H
                          by_cases c28 : x10_4 < x7_2
                          · rw [if_pos c28] at H
                            have c28b0 : decide (x10_4 < x7_2) = true := decide_eq_true c28
                            clear c28
                            by_cases c29 : 0 ≤ x7_2
                            · rw [if_pos c29] at H
                              have c29b0 : decide (0 ≤ x7_2) = true := decide_eq_true c29
                              clear c29
                              by_cases c30 : x7_2 < (l0.length : Int)
                              · rw [if_pos c30] at H
                                have c30b0 : decide (x7_2 < (l0.length : Int)) = true := decide_eq_true c30
                                clear c30
                                by_cases c31 : ((rd_T31 l0 x7_2).f0) = 3
                                · rw [if_pos c31] at H
                                  have c31b0 : (((rd_T31 l0 x7_2).f0) == 3) = true := beq_iff_eq.mpr c31
                                  have c31b1 : (((rd_T31 l0 x7_2).f0) != 3) = false := bne_eq_false_iff_eq.mpr c31
                                  clear c31
                                  by_cases c32 : 0 ≤ x10_4
                                  · rw [if_pos c32] at H
                                    have c32b0 : decide (0 ≤ x10_4) = true := decide_eq_true c32
                                    clear c32
                                    by_cases c33 : x10_4 < (l0.length : Int)
                                    · rw [if_pos c33] at H
                                      have c33b0 : decide (x10_4 < (l0.length : Int)) = true := decide_eq_true c33
                                      clear c33
                                      by_cases c34 : ((rd_T31 l0 x10_4).f0) = 3
                                      · rw [if_pos c34] at H
                                        have c34b0 : (((rd_T31 l0 x10_4).f0) == 3) = true := beq_iff_eq.mpr c34
                                        have c34b1 : (((rd_T31 l0 x10_4).f0) != 3) = false := bne_eq_false_iff_eq.mpr c34
                                        clear c34
                                        by_cases c35 : ((rd_T31 l0 x7_2).f3).toList = ((rd_T31 l0 x10_4).f3).toList
                                        · rw [if_pos c35] at H
                                          have c35b0 : (((rd_T31 l0 x7_2).f3).toList == ((rd_T31 l0 x10_4).f3).toList) = true := beq_iff_eq.mpr c35
                                          have c35b1 : (((rd_T31 l0 x7_2).f3).toList != ((rd_T31 l0 x10_4).f3).toList) = false := bne_eq_false_iff_eq.mpr c35
                                          clear c35
                                          obtain rfl := Option.some.inj H
                                          have p597 : 0 ≤ (x7_2 : Int) := of_decide_eq_true (by first | (with_reducible assumption) | assumption)
                                          have q597 : x7_2 < (l0.length : Int) := of_decide_eq_true (by first | (with_reducible assumption) | assumption)
                                          obtain ⟨ad597, e597, hx597_0, hx597_1, hx597_2, hx597_3⟩ := at_T31 HR0.out x7_2 p597 q597
                                          obtain rfl : ad588 = ad597 := (by injection e597)
                                          replace hx597_0 := (HB.out.cell (World.block_lt_of_cell? w _ hx597_0)).trans hx597_0
                                          replace hx597_1 := (HB.out.cell (World.block_lt_of_cell? w _ hx597_1)).trans hx597_1
                                          replace hx597_2 := (HB.out.cell (World.block_lt_of_cell? w _ hx597_2)).trans hx597_2
                                          replace hx597_3 := (HB.out.cell (World.block_lt_of_cell? w _ hx597_3)).trans hx597_3
                                          replace p597 := eq_true p597
                                          replace q597 := eq_true q597
                                          have p598 : 0 ≤ (x10_4 : Int) := of_decide_eq_true (by first | (with_reducible assumption) | assumption)
                                          have q598 : x10_4 < (l0.length : Int) := of_decide_eq_true (by first | (with_reducible assumption) | assumption)
                                          obtain ⟨ad598, e598, hx598_0, hx598_1, hx598_2, hx598_3⟩ := at_T31 HR0.out x10_4 p598 q598
                                          obtain rfl : ad588 = ad598 := (by injection e598)
                                          replace hx598_0 := (HB.out.cell (World.block_lt_of_cell? w _ hx598_0)).trans hx598_0
                                          replace hx598_1 := (HB.out.cell (World.block_lt_of_cell? w _ hx598_1)).trans hx598_1
                                          replace hx598_2 := (HB.out.cell (World.block_lt_of_cell? w _ hx598_2)).trans hx598_2
                                          replace hx598_3 := (HB.out.cell (World.block_lt_of_cell? w _ hx598_3)).trans hx598_3
                                          replace p598 := eq_true p598
                                          replace q598 := eq_true q598
                                          have p599 : 0 ≤ (x7_2 : Int) := of_decide_eq_true (by first | (with_reducible assumption) | assumption)
                                          have q599 : x7_2 < (l0.length : Int) := of_decide_eq_true (by first | (with_reducible assumption) | assumption)
                                          obtain ⟨ad599, e599, hx599_0, hx599_1, hx599_2, hx599_3⟩ := at_T31 HR0.out x7_2 p599 q599
                                          obtain rfl : ad588 = ad599 := (by injection e599)
                                          replace hx599_0 := (HB.out.cell (World.block_lt_of_cell? w _ hx599_0)).trans hx599_0
                                          replace hx599_1 := (HB.out.cell (World.block_lt_of_cell? w _ hx599_1)).trans hx599_1
                                          replace hx599_2 := (HB.out.cell (World.block_lt_of_cell? w _ hx599_2)).trans hx599_2
                                          replace hx599_3 := (HB.out.cell (World.block_lt_of_cell? w _ hx599_3)).trans hx599_3
                                          replace p599 := eq_true p599
                                          replace q599 := eq_true q599
                                          have p600 : 0 ≤ (x10_4 : Int) := of_decide_eq_true (by first | (with_reducible assumption) | assumption)
                                          have q600 : x10_4 < (l0.length : Int) := of_decide_eq_true (by first | (with_reducible assumption) | assumption)
                                          obtain ⟨ad600, e600, hx600_0, hx600_1, hx600_2, hx600_3⟩ := at_T31 HR0.out x10_4 p600 q600
                                          obtain rfl : ad588 = ad600 := (by injection e600)
                                          replace hx600_0 := (HB.out.cell (World.block_lt_of_cell? w _ hx600_0)).trans hx600_0
                                          replace hx600_1 := (HB.out.cell (World.block_lt_of_cell? w _ hx600_1)).trans hx600_1
                                          replace hx600_2 := (HB.out.cell (World.block_lt_of_cell? w _ hx600_2)).trans hx600_2
                                          replace hx600_3 := (HB.out.cell (World.block_lt_of_cell? w _ hx600_3)).trans hx600_3
                                          replace p600 := eq_true p600
                                          replace q600 := eq_true q600
                                          go_wp2
                                          repeat (go_quiet (fail); try go_wp2)
                                          go_ret
                                          exact ⟨by first | rfl | (simp [errW_none, errW_some] <;> rfl) | (simp [*, errW_none, errW_some] <;> rfl), by repeat (first | (with_reducible first | exact HB.out | apply below_alloc | apply pw_below_drewN | apply below_drew1 | refine below_set ?_ GE594.out) | exact HB.out)⟩
                                        · rw [if_neg c35] at H
                                          have c35b0 : (((rd_T31 l0 x7_2).f3).toList == ((rd_T31 l0 x10_4).f3).toList) = false := beq_eq_false_iff_ne.mpr c35
                                          have c35b1 : (((rd_T31 l0 x7_2).f3).toList != ((rd_T31 l0 x10_4).f3).toList) = true := bne_iff_ne.mpr c35
                                          have H' := Aside0.mk H
                                          clear H
                                          have p597 : 0 ≤ (x7_2 : Int) := of_decide_eq_true (by first | (with_reducible assumption) | assumption)
                                          have q597 : x7_2 < (l0.length : Int) := of_decide_eq_true (by first | (with_reducible assumption) | assumption)
                                          obtain ⟨ad597, e597, hx597_0, hx597_1, hx597_2, hx597_3⟩ := at_T31 HR0.out x7_2 p597 q597
                                          obtain rfl : ad588 = ad597 := (by injection e597)
                                          replace hx597_0 := (HB.out.cell (World.block_lt_of_cell? w _ hx597_0)).trans hx597_0
                                          replace hx597_1 := (HB.out.cell (World.block_lt_of_cell? w _ hx597_1)).trans hx597_1
                                          replace hx597_2 := (HB.out.cell (World.block_lt_of_cell? w _ hx597_2)).trans hx597_2
                                          replace hx597_3 := (HB.out.cell (World.block_lt_of_cell? w _ hx597_3)).trans hx597_3
                                          replace p597 := eq_true p597
                                          replace q597 := eq_true q597
                                          have p598 : 0 ≤ (x10_4 : Int) := of_decide_eq_true (by first | (with_reducible assumption) | assumption)
                                          have q598 : x10_4 < (l0.length : Int) := of_decide_eq_true (by first | (with_reducible assumption) | assumption)
                                          obtain ⟨ad598, e598, hx598_0, hx598_1, hx598_2, hx598_3⟩ := at_T31 HR0.out x10_4 p598 q598
                                          obtain rfl : ad588 = ad598 := (by injection e598)
                                          replace hx598_0 := (HB.out.cell (World.block_lt_of_cell? w _ hx598_0)).trans hx598_0
                                          replace hx598_1 := (HB.out.cell (World.block_lt_of_cell? w _ hx598_1)).trans hx598_1
                                          replace hx598_2 := (HB.out.cell (World.block_lt_of_cell? w _ hx598_2)).trans hx598_2
                                          replace hx598_3 := (HB.out.cell (World.block_lt_of_cell? w _ hx598_3)).trans hx598_3
                                          replace p598 := eq_true p598
                                          replace q598 := eq_true q598
                                          have p599 : 0 ≤ (x7_2 : Int) := of_decide_eq_true (by first | (with_reducible assumption) | assumption)
                                          have q599 : x7_2 < (l0.length : Int) := of_decide_eq_true (by first | (with_reducible assumption) | assumption)
                                          obtain ⟨ad599, e599, hx599_0, hx599_1, hx599_2, hx599_3⟩ := at_T31 HR0.out x7_2 p599 q599
                                          obtain rfl : ad588 = ad599 := (by injection e599)
                                          replace hx599_0 := (HB.out.cell (World.block_lt_of_cell? w _ hx599_0)).trans hx599_0
                                          replace hx599_1 := (HB.out.cell (World.block_lt_of_cell? w _ hx599_1)).trans hx599_1
                                          replace hx599_2 := (HB.out.cell (World.block_lt_of_cell? w _ hx599_2)).trans hx599_2
                                          replace hx599_3 := (HB.out.cell (World.block_lt_of_cell? w _ hx599_3)).trans hx599_3
                                          replace p599 := eq_true p599
                                          replace q599 := eq_true q599
                                          have p600 : 0 ≤ (x10_4 : Int) := of_decide_eq_true (by first | (with_reducible assumption) | assumption)
                                          have q600 : x10_4 < (l0.length : Int) := of_decide_eq_true (by first | (with_reducible assumption) | assumption)
                                          obtain ⟨ad600, e600, hx600_0, hx600_1, hx600_2, hx600_3⟩ := at_T31 HR0.out x10_4 p600 q600
                                          obtain rfl : ad588 = ad600 := (by injection e600)
                                          replace hx600_0 := (HB.out.cell (World.block_lt_of_cell? w _ hx600_0)).trans hx600_0
                                          replace hx600_1 := (HB.out.cell (World.block_lt_of_cell? w _ hx600_1)).trans hx600_1
                                          replace hx600_2 := (HB.out.cell (World.block_lt_of_cell? w _ hx600_2)).trans hx600_2
                                          replace hx600_3 := (HB.out.cell (World.block_lt_of_cell? w _ hx600_3)).trans hx600_3
                                          replace p600 := eq_true p600
                                          replace q600 := eq_true q600
                                          go_wp2
                                          repeat (go_quiet (fail); try go_wp2)
                                          go_roundg k4
                                          case measure => have := HJ4.out; have := HK2.out; have := HJ12.out; have := HK4.out; omega
                                          case rel => exact ⟨(wrap64 (x10_4 + 1)), (by first | rfl | (simp; done) | (simp [*]; done)), H', ⟨by have := HJ4.out; have := HK2.out; have := HJ12.out; have := HK4.out; omega⟩, ⟨by (with_reducible repeat (first | refine blk_drewN ?_ _ | refine blk_drew ?_ | refine blk_alloc ?_ _)); exact BK594.out⟩, ⟨by repeat (first | (with_reducible first | exact HB.out | apply below_alloc | apply pw_below_drewN | apply below_drew1 | refine below_set ?_ GE594.out) | exact HB.out)⟩⟩
                                      · rw [if_neg c34] at H
                                        have c34b0 : (((rd_T31 l0 x10_4).f0) == 3) = false := beq_eq_false_iff_ne.mpr c34
                                        have c34b1 : (((rd_T31 l0 x10_4).f0) != 3) = true := bne_iff_ne.mpr c34
                                        have H' := Aside0.mk H
                                        clear H
                                        have p597 : 0 ≤ (x7_2 : Int) := of_decide_eq_true (by first | (with_reducible assumption) | assumption)
                                        have q597 : x7_2 < (l0.length : Int) := of_decide_eq_true (by first | (with_reducible assumption) | assumption)
                                        obtain ⟨ad597, e597, hx597_0, hx597_1, hx597_2, hx597_3⟩ := at_T31 HR0.out x7_2 p597 q597
                                        obtain rfl : ad588 = ad597 := (by injection e597)
                                        replace hx597_0 := (HB.out.cell (World.block_lt_of_cell? w _ hx597_0)).trans hx597_0
                                        replace hx597_1 := (HB.out.cell (World.block_lt_of_cell? w _ hx597_1)).trans hx597_1
                                        replace hx597_2 := (HB.out.cell (World.block_lt_of_cell? w _ hx597_2)).trans hx597_2
                                        replace hx597_3 := (HB.out.cell (World.block_lt_of_cell? w _ hx597_3)).trans hx597_3
                                        replace p597 := eq_true p597
                                        replace q597 := eq_true q597
                                        have p598 : 0 ≤ (x10_4 : Int) := of_decide_eq_true (by first | (with_reducible assumption) | assumption)
                                        have q598 : x10_4 < (l0.length : Int) := of_decide_eq_true (by first | (with_reducible assumption) | assumption)
                                        obtain ⟨ad598, e598, hx598_0, hx598_1, hx598_2, hx598_3⟩ := at_T31 HR0.out x10_4 p598 q598
                                        obtain rfl : ad588 = ad598 := (by injection e598)
                                        replace hx598_0 := (HB.out.cell (World.block_lt_of_cell? w _ hx598_0)).trans hx598_0
                                        replace hx598_1 := (HB.out.cell (World.block_lt_of_cell? w _ hx598_1)).trans hx598_1
                                        replace hx598_2 := (HB.out.cell (World.block_lt_of_cell? w _ hx598_2)).trans hx598_2
                                        replace hx598_3 := (HB.out.cell (World.block_lt_of_cell? w _ hx598_3)).trans hx598_3
                                        replace p598 := eq_true p598
                                        replace q598 := eq_true q598
                                        go_wp2
                                        repeat (go_quiet (fail); try go_wp2)
                                        go_roundg k4
                                        case measure => have := HJ4.out; have := HK2.out; have := HJ12.out; have := HK4.out; omega
                                        case rel => exact ⟨(wrap64 (x10_4 + 1)), (by first | rfl | (simp; done) | (simp [*]; done)), H', ⟨by have := HJ4.out; have := HK2.out; have := HJ12.out; have := HK4.out; omega⟩, ⟨by (with_reducible repeat (first | refine blk_drewN ?_ _ | refine blk_drew ?_ | refine blk_alloc ?_ _)); exact BK594.out⟩, ⟨by repeat (first | (with_reducible first | exact HB.out | apply below_alloc | apply pw_below_drewN | apply below_drew1 | refine below_set ?_ GE594.out) | exact HB.out)⟩⟩
                                    · rw [if_neg c33] at H
                                      exact absurd H (by simp)
                                  · rw [if_neg c32] at H
                                    exact absurd H (by simp)
                                · rw [if_neg c31] at H
                                  have c31b0 : (((rd_T31 l0 x7_2).f0) == 3) = false := beq_eq_false_iff_ne.mpr c31
                                  have c31b1 : (((rd_T31 l0 x7_2).f0) != 3) = true := bne_iff_ne.mpr c31
                                  have H' := Aside0.mk H
                                  clear H
                                  have p597 : 0 ≤ (x7_2 : Int) := of_decide_eq_true (by first | (with_reducible assumption) | assumption)
                                  have q597 : x7_2 < (l0.length : Int) := of_decide_eq_true (by first | (with_reducible assumption) | assumption)
                                  obtain ⟨ad597, e597, hx597_0, hx597_1, hx597_2, hx597_3⟩ := at_T31 HR0.out x7_2 p597 q597
                                  obtain rfl : ad588 = ad597 := (by injection e597)
                                  replace hx597_0 := (HB.out.cell (World.block_lt_of_cell? w _ hx597_0)).trans hx597_0
                                  replace hx597_1 := (HB.out.cell (World.block_lt_of_cell? w _ hx597_1)).trans hx597_1
                                  replace hx597_2 := (HB.out.cell (World.block_lt_of_cell? w _ hx597_2)).trans hx597_2
                                  replace hx597_3 := (HB.out.cell (World.block_lt_of_cell? w _ hx597_3)).trans hx597_3
                                  replace p597 := eq_true p597
                                  replace q597 := eq_true q597
                                  go_wp2
                                  repeat (go_quiet (fail); try go_wp2)
                                  go_roundg k4
                                  case measure => have := HJ4.out; have := HK2.out; have := HJ12.out; have := HK4.out; omega
                                  case rel => exact ⟨(wrap64 (x10_4 + 1)), (by first | rfl | (simp; done) | (simp [*]; done)), H', ⟨by have := HJ4.out; have := HK2.out; have := HJ12.out; have := HK4.out; omega⟩, ⟨by (with_reducible repeat (first | refine blk_drewN ?_ _ | refine blk_drew ?_ | refine blk_alloc ?_ _)); exact BK594.out⟩, ⟨by repeat (first | (with_reducible first | exact HB.out | apply below_alloc | apply pw_below_drewN | apply below_drew1 | refine below_set ?_ GE594.out) | exact HB.out)⟩⟩
                              · rw [if_neg c30] at H
                                exact absurd H (by simp)
                            · rw [if_neg c29] at H
                              exact absurd H (by simp)
                          · rw [if_neg c28] at H
                            have c28b0 : decide (x10_4 < x7_2) = false := decide_eq_false c28
                            clear c28
                            have H' := Aside0.mk H
                            clear H
                            go_wp2
                            repeat (go_quiet (fail); try go_wp2)
                            go_roundg k4
                            case measure => have := HJ4.out; have := HK2.out; have := HJ12.out; have := HK4.out; omega
                            case rel => exact ⟨(wrap64 (x7_2 + 1)), (by first | rfl | (simp; done) | (simp [*]; done)), H', ⟨by have := HJ4.out; have := HK2.out; have := HJ12.out; have := HK4.out; omega⟩, ⟨by repeat (first | (with_reducible first | exact HB.out | apply below_alloc | apply pw_below_drewN | apply below_drew1 | refine below_set ?_ GE594.out) | exact HB.out)⟩⟩
              · rw [if_neg c11] at H
                exact absurd H (by simp)
            · rw [if_neg c10] at H
              have c10b0 : decide (x7_2 < (l0.length : Int)) = false := decide_eq_false c10
              clear c10
              obtain rfl := Option.some.inj H
              go_wp2
              repeat (go_quiet (fail); try go_wp2)
              go_ret
              exact ⟨by first | rfl | (simp [errW_none, errW_some] <;> rfl) | (simp [*, errW_none, errW_some] <;> rfl), by repeat (first | (with_reducible first | exact HB.out | apply below_alloc | apply pw_below_drewN | apply below_drew1) | exact HB.out)⟩

end Go.Proofs.YthjgmccpbcelgaaPr
