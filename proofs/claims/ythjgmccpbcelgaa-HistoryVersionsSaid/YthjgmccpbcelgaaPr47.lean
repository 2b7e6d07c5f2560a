/- Contracts of Go functions, printed by a program of this session over the translation: each call answers what its Lean function says. -/
import Derived.Test.YthjgmccpbcelgaaPr0
import Derived.Test.YthjgmccpbcelgaaPr39
import Derived.Test.YthjgmccpbcelgaaPr40
import Derived.Test.YthjgmccpbcelgaaB1
namespace Go.Proofs.YthjgmccpbcelgaaPr
open Go.RowKit Go.Proofs.YthjgmccpbcelgaaW.PrintWords Go.Proofs.YthjgmccpbcelgaaW.PrintLast Go.Proofs.YthjgmccpbcelgaaW.PrintMore
attribute [local go_sem] max2_int min2_int max_two min_two max_three min_three max_four min_four   -- for this text's walks alone
set_option linter.unusedVariables false
set_option linter.unusedSimpArgs false

/-! ### cartouchelaw08_HistoryVersions: function 21 -/
mutual
def cartouchelaw08_HistoryVersions.j0 : Nat → List (S31) → ByteArray → Bool → Bool → Option (Bool)
  | 0, _, _, _, _ => none
  | k + 1, x0, x1, x5, x32 => if x32 = true then (some x5) else ((history_Versions.f x0 x1).bind fun t605 => (cartouchelaw08_HistoryVersions.l0 k x0 x1 x5 t605 (-1) 0))
def cartouchelaw08_HistoryVersions.l0 : Nat → List (S31) → ByteArray → Bool → List Int → Int → Int → Option (Bool)
  | 0, _, _, _, _, _, _ => none
  | k + 1, x0, x1, x5, x9, x10, x11 => if x11 < (x9.length : Int) then (if 0 ≤ x11 then (if (rd x9 x11) < 0 then (cartouchelaw08_HistoryVersions.j2 k x0 x1 x5 x9 x10 x11 true) else (if (rd x9 x11) ≥ (x0.length : Int) then (cartouchelaw08_HistoryVersions.j2 k x0 x1 x5 x9 x10 x11 true) else (if 0 ≤ (rd x9 x11) then (if (rd x9 x11) < (x0.length : Int) then (if ((rd_T31 x0 (rd x9 x11)).f0) = 3 then (cartouchelaw08_HistoryVersions.j2 k x0 x1 x5 x9 x10 x11 (((rd_T31 x0 (rd x9 x11)).f2).toList != x1.toList)) else (cartouchelaw08_HistoryVersions.j2 k x0 x1 x5 x9 x10 x11 true)) else (none)) else (none)))) else (none)) else (cartouchelaw08_HistoryVersions.l1 k x0 x1 x5 x9 0)
def cartouchelaw08_HistoryVersions.j2 : Nat → List (S31) → ByteArray → Bool → List Int → Int → Int → Bool → Option (Bool)
  | 0, _, _, _, _, _, _, _ => none
  | k + 1, x0, x1, x5, x9, x10, x11, x79 => if x79 = true then (some false) else (if 0 ≤ x11 then (if x11 < (x9.length : Int) then (if 0 ≤ (rd x9 x11) then (if (rd x9 x11) < (x0.length : Int) then ((history_Find.f x0 ((rd_T31 x0 (rd x9 x11)).f1)).bind fun bt616 => (if bt616.2.2.2.2 = true then (if bt616.2.2.2.1 = true then (if bt616.2.2.1 ≤ x10 then (some false) else (cartouchelaw08_HistoryVersions.l0 k x0 x1 x5 x9 bt616.2.2.1 (wrap64 (x11 + 1)))) else (some false)) else (some false))) else (none)) else (none)) else (none)) else (none))
def cartouchelaw08_HistoryVersions.l1 : Nat → List (S31) → ByteArray → Bool → List Int → Int → Option (Bool)
  | 0, _, _, _, _, _ => none
  | k + 1, x0, x1, x5, x9, x14 => if x14 < (x0.length : Int) then (if 0 ≤ x14 then ((history_Find.f x0 ((rd_T31 x0 x14).f1)).bind fun bt623 => (if ((rd_T31 x0 x14).f0) = 3 then (if ((rd_T31 x0 x14).f2).toList = x1.toList then (cartouchelaw08_HistoryVersions.j4 k x0 x1 x5 x9 x14 (!bt623.2.2.2.1)) else (cartouchelaw08_HistoryVersions.j4 k x0 x1 x5 x9 x14 true)) else (cartouchelaw08_HistoryVersions.j4 k x0 x1 x5 x9 x14 true))) else (none)) else (some x5)
def cartouchelaw08_HistoryVersions.j4 : Nat → List (S31) → ByteArray → Bool → List Int → Int → Bool → Option (Bool)
  | 0, _, _, _, _, _, _ => none
  | k + 1, x0, x1, x5, x9, x14, x143 => if x143 = true then (cartouchelaw08_HistoryVersions.l1 k x0 x1 x5 x9 (wrap64 (x14 + 1))) else (cartouchelaw08_HistoryVersions.l2 k x0 x1 x5 x9 x14 false 0)
def cartouchelaw08_HistoryVersions.l2 : Nat → List (S31) → ByteArray → Bool → List Int → Int → Bool → Int → Option (Bool)
  | 0, _, _, _, _, _, _, _ => none
  | k + 1, x0, x1, x5, x9, x14, x17, x18 => if x18 < (x9.length : Int) then (if x17 = true then (cartouchelaw08_HistoryVersions.l2 k x0 x1 x5 x9 x14 true (wrap64 (x18 + 1))) else (if 0 ≤ x18 then (if 0 ≤ (rd x9 x18) then (if (rd x9 x18) < (x0.length : Int) then (if 0 ≤ x14 then (if x14 < (x0.length : Int) then (if ((rd_T31 x0 (rd x9 x18)).f1) = ((rd_T31 x0 x14).f1) then (cartouchelaw08_HistoryVersions.l2 k x0 x1 x5 x9 x14 (decide ((rd x9 x18) ≥ x14)) (wrap64 (x18 + 1))) else (cartouchelaw08_HistoryVersions.l2 k x0 x1 x5 x9 x14 false (wrap64 (x18 + 1)))) else (none)) else (none)) else (none)) else (none)) else (none))) else (if x17 = true then (cartouchelaw08_HistoryVersions.l1 k x0 x1 x5 x9 (wrap64 (x14 + 1))) else (some false))
end
def cartouchelaw08_HistoryVersions.f (k : Nat) (l0 : List (S31)) (a1 : ByteArray) : Option (Bool) := (cartouchelaw08_shown.f).bind fun t601 => ((cartouchelaw08_few.f l0).bind fun t602 => ((history_Formed.f l0).bind fun bt603 => (if t602 = true then (cartouchelaw08_HistoryVersions.j0 k l0 a1 t601 (bt603.2 != 0)) else (cartouchelaw08_HistoryVersions.j0 k l0 a1 t601 true))))
theorem cartouchelaw08_HistoryVersions.mono_l : ∀ k, (∀ y0 y1 y2 y3, LeO (cartouchelaw08_HistoryVersions.j0 k y0 y1 y2 y3) (cartouchelaw08_HistoryVersions.j0 (k + 1) y0 y1 y2 y3)) ∧ (∀ y0 y1 y2 y3 y4 y5, LeO (cartouchelaw08_HistoryVersions.l0 k y0 y1 y2 y3 y4 y5) (cartouchelaw08_HistoryVersions.l0 (k + 1) y0 y1 y2 y3 y4 y5)) ∧ (∀ y0 y1 y2 y3 y4 y5 y6, LeO (cartouchelaw08_HistoryVersions.j2 k y0 y1 y2 y3 y4 y5 y6) (cartouchelaw08_HistoryVersions.j2 (k + 1) y0 y1 y2 y3 y4 y5 y6)) ∧ (∀ y0 y1 y2 y3 y4, LeO (cartouchelaw08_HistoryVersions.l1 k y0 y1 y2 y3 y4) (cartouchelaw08_HistoryVersions.l1 (k + 1) y0 y1 y2 y3 y4)) ∧ (∀ y0 y1 y2 y3 y4 y5, LeO (cartouchelaw08_HistoryVersions.j4 k y0 y1 y2 y3 y4 y5) (cartouchelaw08_HistoryVersions.j4 (k + 1) y0 y1 y2 y3 y4 y5)) ∧ (∀ y0 y1 y2 y3 y4 y5 y6, LeO (cartouchelaw08_HistoryVersions.l2 k y0 y1 y2 y3 y4 y5 y6) (cartouchelaw08_HistoryVersions.l2 (k + 1) y0 y1 y2 y3 y4 y5 y6))
  | 0 => ⟨fun _ _ _ _ r h => by simp [cartouchelaw08_HistoryVersions.j0] at h, fun _ _ _ _ _ _ r h => by simp [cartouchelaw08_HistoryVersions.l0] at h, fun _ _ _ _ _ _ _ r h => by simp [cartouchelaw08_HistoryVersions.j2] at h, fun _ _ _ _ _ r h => by simp [cartouchelaw08_HistoryVersions.l1] at h, fun _ _ _ _ _ _ r h => by simp [cartouchelaw08_HistoryVersions.j4] at h, fun _ _ _ _ _ _ _ r h => by simp [cartouchelaw08_HistoryVersions.l2] at h⟩
  | k + 1 => by
    obtain ⟨ih0, ih1, ih2, ih3, ih4, ih5⟩ := cartouchelaw08_HistoryVersions.mono_l k
    refine ⟨?_, ?_, ?_, ?_, ?_, ?_⟩
    · intro y0 y1 y2 y3
      unfold cartouchelaw08_HistoryVersions.j0
      repeat' first
      | (with_reducible exact ih0 _ _ _ _)
      | (with_reducible exact ih1 _ _ _ _ _ _)
      | (with_reducible exact ih2 _ _ _ _ _ _ _)
      | (with_reducible exact ih3 _ _ _ _ _)
      | (with_reducible exact ih4 _ _ _ _ _ _)
      | (with_reducible exact ih5 _ _ _ _ _ _ _)
      | (with_reducible exact LeO.refl _)
      | (with_reducible exact LeO.none _)
      | (with_reducible refine LeO.ite ?_ ?_)
      | (with_reducible refine LeO.bind ?_ (fun _ => ?_))
      | exact ih0 _ _ _ _
      | exact ih1 _ _ _ _ _ _
      | exact ih2 _ _ _ _ _ _ _
      | exact ih3 _ _ _ _ _
      | exact ih4 _ _ _ _ _ _
      | exact ih5 _ _ _ _ _ _ _
      | exact LeO.none _
      | refine LeO.ite ?_ ?_
      | refine LeO.bind ?_ (fun _ => ?_)
    · intro y0 y1 y2 y3 y4 y5
      unfold cartouchelaw08_HistoryVersions.l0
      repeat' first
      | (with_reducible exact ih0 _ _ _ _)
      | (with_reducible exact ih1 _ _ _ _ _ _)
      | (with_reducible exact ih2 _ _ _ _ _ _ _)
      | (with_reducible exact ih3 _ _ _ _ _)
      | (with_reducible exact ih4 _ _ _ _ _ _)
      | (with_reducible exact ih5 _ _ _ _ _ _ _)
      | (with_reducible exact LeO.refl _)
      | (with_reducible exact LeO.none _)
      | (with_reducible refine LeO.ite ?_ ?_)
      | (with_reducible refine LeO.bind ?_ (fun _ => ?_))
      | exact ih0 _ _ _ _
      | exact ih1 _ _ _ _ _ _
      | exact ih2 _ _ _ _ _ _ _
      | exact ih3 _ _ _ _ _
      | exact ih4 _ _ _ _ _ _
      | exact ih5 _ _ _ _ _ _ _
      | exact LeO.none _
      | refine LeO.ite ?_ ?_
      | refine LeO.bind ?_ (fun _ => ?_)
    · intro y0 y1 y2 y3 y4 y5 y6
      unfold cartouchelaw08_HistoryVersions.j2
      repeat' first
      | (with_reducible exact ih0 _ _ _ _)
      | (with_reducible exact ih1 _ _ _ _ _ _)
      | (with_reducible exact ih2 _ _ _ _ _ _ _)
      | (with_reducible exact ih3 _ _ _ _ _)
      | (with_reducible exact ih4 _ _ _ _ _ _)
      | (with_reducible exact ih5 _ _ _ _ _ _ _)
      | (with_reducible exact LeO.refl _)
      | (with_reducible exact LeO.none _)
      | (with_reducible refine LeO.ite ?_ ?_)
      | (with_reducible refine LeO.bind ?_ (fun _ => ?_))
      | exact ih0 _ _ _ _
      | exact ih1 _ _ _ _ _ _
      | exact ih2 _ _ _ _ _ _ _
      | exact ih3 _ _ _ _ _
      | exact ih4 _ _ _ _ _ _
      | exact ih5 _ _ _ _ _ _ _
      | exact LeO.none _
      | refine LeO.ite ?_ ?_
      | refine LeO.bind ?_ (fun _ => ?_)
    · intro y0 y1 y2 y3 y4
      unfold cartouchelaw08_HistoryVersions.l1
      repeat' first
      | (with_reducible exact ih0 _ _ _ _)
      | (with_reducible exact ih1 _ _ _ _ _ _)
      | (with_reducible exact ih2 _ _ _ _ _ _ _)
      | (with_reducible exact ih3 _ _ _ _ _)
      | (with_reducible exact ih4 _ _ _ _ _ _)
      | (with_reducible exact ih5 _ _ _ _ _ _ _)
      | (with_reducible exact LeO.refl _)
      | (with_reducible exact LeO.none _)
      | (with_reducible refine LeO.ite ?_ ?_)
      | (with_reducible refine LeO.bind ?_ (fun _ => ?_))
      | exact ih0 _ _ _ _
      | exact ih1 _ _ _ _ _ _
      | exact ih2 _ _ _ _ _ _ _
      | exact ih3 _ _ _ _ _
      | exact ih4 _ _ _ _ _ _
      | exact ih5 _ _ _ _ _ _ _
      | exact LeO.none _
      | refine LeO.ite ?_ ?_
      | refine LeO.bind ?_ (fun _ => ?_)
    · intro y0 y1 y2 y3 y4 y5
      unfold cartouchelaw08_HistoryVersions.j4
      repeat' first
      | (with_reducible exact ih0 _ _ _ _)
      | (with_reducible exact ih1 _ _ _ _ _ _)
      | (with_reducible exact ih2 _ _ _ _ _ _ _)
      | (with_reducible exact ih3 _ _ _ _ _)
      | (with_reducible exact ih4 _ _ _ _ _ _)
      | (with_reducible exact ih5 _ _ _ _ _ _ _)
      | (with_reducible exact LeO.refl _)
      | (with_reducible exact LeO.none _)
      | (with_reducible refine LeO.ite ?_ ?_)
      | (with_reducible refine LeO.bind ?_ (fun _ => ?_))
      | exact ih0 _ _ _ _
      | exact ih1 _ _ _ _ _ _
      | exact ih2 _ _ _ _ _ _ _
      | exact ih3 _ _ _ _ _
      | exact ih4 _ _ _ _ _ _
      | exact ih5 _ _ _ _ _ _ _
      | exact LeO.none _
      | refine LeO.ite ?_ ?_
      | refine LeO.bind ?_ (fun _ => ?_)
    · intro y0 y1 y2 y3 y4 y5 y6
      unfold cartouchelaw08_HistoryVersions.l2
      repeat' first
      | (with_reducible exact ih0 _ _ _ _)
      | (with_reducible exact ih1 _ _ _ _ _ _)
      | (with_reducible exact ih2 _ _ _ _ _ _ _)
      | (with_reducible exact ih3 _ _ _ _ _)
      | (with_reducible exact ih4 _ _ _ _ _ _)
      | (with_reducible exact ih5 _ _ _ _ _ _ _)
      | (with_reducible exact LeO.refl _)
      | (with_reducible exact LeO.none _)
      | (with_reducible refine LeO.ite ?_ ?_)
      | (with_reducible refine LeO.bind ?_ (fun _ => ?_))
      | exact ih0 _ _ _ _
      | exact ih1 _ _ _ _ _ _
      | exact ih2 _ _ _ _ _ _ _
      | exact ih3 _ _ _ _ _
      | exact ih4 _ _ _ _ _ _
      | exact ih5 _ _ _ _ _ _ _
      | exact LeO.none _
      | refine LeO.ite ?_ ?_
      | refine LeO.bind ?_ (fun _ => ?_)
theorem cartouchelaw08_HistoryVersions.mono : ∀ a0 a1 k, LeO (cartouchelaw08_HistoryVersions.f k a0 a1) (cartouchelaw08_HistoryVersions.f (k + 1) a0 a1) := by
  intro a0 a1 k
  obtain ⟨ih0, ih1, ih2, ih3, ih4, ih5⟩ := cartouchelaw08_HistoryVersions.mono_l k
  unfold cartouchelaw08_HistoryVersions.f
  repeat' first
      | (with_reducible exact ih0 _ _ _ _)
      | (with_reducible exact ih1 _ _ _ _ _ _)
      | (with_reducible exact ih2 _ _ _ _ _ _ _)
      | (with_reducible exact ih3 _ _ _ _ _)
      | (with_reducible exact ih4 _ _ _ _ _ _)
      | (with_reducible exact ih5 _ _ _ _ _ _ _)
      | (with_reducible exact LeO.refl _)
      | (with_reducible exact LeO.none _)
      | (with_reducible refine LeO.ite ?_ ?_)
      | (with_reducible refine LeO.bind ?_ (fun _ => ?_))
      | exact ih0 _ _ _ _
      | exact ih1 _ _ _ _ _ _
      | exact ih2 _ _ _ _ _ _ _
      | exact ih3 _ _ _ _ _
      | exact ih4 _ _ _ _ _ _
      | exact ih5 _ _ _ _ _ _ _
      | exact LeO.none _
      | refine LeO.ite ?_ ?_
      | refine LeO.bind ?_ (fun _ => ?_)
set_option maxHeartbeats 8000000 in
set_option maxRecDepth 100000 in
theorem cartouchelaw08_HistoryVersions.calls (k : Nat) (A0 : Option Addr) (c0 : Nat) (l0 : List (S31)) (a1 : ByteArray) (r : Bool) (w : World) (hr0 : Kd.C k31 w A0 l0.length l0) (hc0 : l0.length ≤ c0) (h : cartouchelaw08_HistoryVersions.f k l0 a1 = some r) :
    Calls Try.prog 21 #[.slice A0 l0.length c0, .string a1] w fun e w' => e = .returned (.bool r) ∧ Below w.heap.size w w' := by
  have hu33 := Try.underlying33
  have HR0 := Aside0.mk hr0
  have HC0 := Aside0.mk hc0
  clear hr0 hc0
  have HB := Aside0.mk (Below.refl w.heap.size w)
  have H : ((cartouchelaw08_shown.f).bind fun t601 => ((cartouchelaw08_few.f l0).bind fun t602 => ((history_Formed.f l0).bind fun bt603 => (if t602 = true then (cartouchelaw08_HistoryVersions.j0 k l0 a1 t601 (bt603.2 != 0)) else (cartouchelaw08_HistoryVersions.j0 k l0 a1 t601 true))))) = some r := h
  clear h
  replace H := Option.bind_eq_some_iff.mp H
  obtain ⟨t601, A30, H⟩ := H
  replace H : ((cartouchelaw08_few.f l0).bind fun t602 => ((history_Formed.f l0).bind fun bt603 => (if t602 = true then (cartouchelaw08_HistoryVersions.j0 k l0 a1 t601 (bt603.2 != 0)) else (cartouchelaw08_HistoryVersions.j0 k l0 a1 t601 true)))) = some r := H
  have A3 := Aside0.mk A30
  clear A30
  replace H := Option.bind_eq_some_iff.mp H
  obtain ⟨t602, A40, H⟩ := H
  replace H : ((history_Formed.f l0).bind fun bt603 => (if t602 = true then (cartouchelaw08_HistoryVersions.j0 k l0 a1 t601 (bt603.2 != 0)) else (cartouchelaw08_HistoryVersions.j0 k l0 a1 t601 true))) = some r := H
  have A4 := Aside0.mk A40
  clear A40
  replace H := Option.bind_eq_some_iff.mp H
  obtain ⟨⟨t603, t604⟩, A50, H⟩ := H
  replace H : (if t602 = true then (cartouchelaw08_HistoryVersions.j0 k l0 a1 t601 (t604 != 0)) else (cartouchelaw08_HistoryVersions.j0 k l0 a1 t601 true)) = some r := H
  have A5 := Aside0.mk A50
  clear A50
  have HC6 := Aside0.mk H
  clear H
  go_enter Try.func21, Try.ntmps21
  go_upto_region 4 with (first | (go_at_call 56; (with_reducible refine (cartouchelaw08_shown.calls  t601 _ A3.out).mono ?_); rintro e w7 ⟨rfl, hb⟩; have n0_ := Aside0.mk (below_step (by repeat (first | (with_reducible first | exact HB.out | apply below_alloc | apply pw_below_drewN | apply below_drew1) | exact HB.out)) hb); clear HB; have HB := n0_; clear n0_; (try clear hb); (try clear hb2); (try clear hk); (try clear hi)) | (go_at_call 57; (with_reducible refine (cartouchelaw08_few.calls _ _ l0 t602 _ ?side1 ?side2 A4.out).mono ?_); (case side1 => repeat (first | exact (Kd.C_below HR0.out HB.out) | (with_reducible refine Kd.C_alloc ?_ _) | (with_reducible refine Kd.C_drewN ?_ _) | (with_reducible refine Kd.C_drew ?_))); (case side2 => exact HC0.out); rintro e w' ⟨rfl, ⟨nd, rfl⟩⟩; (try first | exact ⟨rfl, _, World.drewN_drewN _ _ _⟩ | exact ⟨rfl, _, Eq.trans (World.drewN_drewN _ _ _) (congrArg (World.drewN _) (Nat.add_assoc _ _ _))⟩)) | (go_at_call 58; (with_reducible refine (history_Formed.calls _ _ l0 t603 t604 _ ?side1 ?side2 A5.out).mono ?_); (case side1 => repeat (first | exact (Kd.C_below HR0.out (by repeat (first | (with_reducible first | exact HB.out | apply below_alloc | apply pw_below_drewN | apply below_drew1) | exact HB.out))) | (with_reducible refine Kd.C_alloc ?_ _) | (with_reducible refine Kd.C_drewN ?_ _) | (with_reducible refine Kd.C_drew ?_))); (case side2 => exact HC0.out); rintro e w8 ⟨rfl, hb⟩; have n0_ := Aside0.mk (below_step (by repeat (first | (with_reducible first | exact HB.out | apply below_alloc | apply pw_below_drewN | apply below_drew1) | exact HB.out)) hb); clear HB; have HB := n0_; clear n0_; (try clear hb); (try clear hb2); (try clear hk); (try clear hi)))
  repeat (go_quiet (first | (go_at_call 56; (with_reducible refine (cartouchelaw08_shown.calls  t601 _ A3.out).mono ?_); rintro e w7 ⟨rfl, hb⟩; have n0_ := Aside0.mk (below_step (by repeat (first | (with_reducible first | exact HB.out | apply below_alloc | apply pw_below_drewN | apply below_drew1) | exact HB.out)) hb); clear HB; have HB := n0_; clear n0_; (try clear hb); (try clear hb2); (try clear hk); (try clear hi)) | (go_at_call 57; (with_reducible refine (cartouchelaw08_few.calls _ _ l0 t602 _ ?side1 ?side2 A4.out).mono ?_); (case side1 => repeat (first | exact (Kd.C_below HR0.out HB.out) | (with_reducible refine Kd.C_alloc ?_ _) | (with_reducible refine Kd.C_drewN ?_ _) | (with_reducible refine Kd.C_drew ?_))); (case side2 => exact HC0.out); rintro e w' ⟨rfl, ⟨nd, rfl⟩⟩; (try first | exact ⟨rfl, _, World.drewN_drewN _ _ _⟩ | exact ⟨rfl, _, Eq.trans (World.drewN_drewN _ _ _) (congrArg (World.drewN _) (Nat.add_assoc _ _ _))⟩)) | (go_at_call 58; (with_reducible refine (history_Formed.calls _ _ l0 t603 t604 _ ?side1 ?side2 A5.out).mono ?_); (case side1 => repeat (first | exact (Kd.C_below HR0.out (by repeat (first | (with_reducible first | exact HB.out | apply below_alloc | apply pw_below_drewN | apply below_drew1) | exact HB.out))) | (with_reducible refine Kd.C_alloc ?_ _) | (with_reducible refine Kd.C_drewN ?_ _) | (with_reducible refine Kd.C_drew ?_))); (case side2 => exact HC0.out); rintro e w8 ⟨rfl, hb⟩; have n0_ := Aside0.mk (below_step (by repeat (first | (with_reducible first | exact HB.out | apply below_alloc | apply pw_below_drewN | apply below_drew1) | exact HB.out)) hb); clear HB; have HB := n0_; clear n0_; (try clear hb); (try clear hb2); (try clear hk); (try clear hi))); go_upto_region 4 with (first | (go_at_call 56; (with_reducible refine (cartouchelaw08_shown.calls  t601 _ A3.out).mono ?_); rintro e w7 ⟨rfl, hb⟩; have n0_ := Aside0.mk (below_step (by repeat (first | (with_reducible first | exact HB.out | apply below_alloc | apply pw_below_drewN | apply below_drew1) | exact HB.out)) hb); clear HB; have HB := n0_; clear n0_; (try clear hb); (try clear hb2); (try clear hk); (try clear hi)) | (go_at_call 57; (with_reducible refine (cartouchelaw08_few.calls _ _ l0 t602 _ ?side1 ?side2 A4.out).mono ?_); (case side1 => repeat (first | exact (Kd.C_below HR0.out HB.out) | (with_reducible refine Kd.C_alloc ?_ _) | (with_reducible refine Kd.C_drewN ?_ _) | (with_reducible refine Kd.C_drew ?_))); (case side2 => exact HC0.out); rintro e w' ⟨rfl, ⟨nd, rfl⟩⟩; (try first | exact ⟨rfl, _, World.drewN_drewN _ _ _⟩ | exact ⟨rfl, _, Eq.trans (World.drewN_drewN _ _ _) (congrArg (World.drewN _) (Nat.add_assoc _ _ _))⟩)) | (go_at_call 58; (with_reducible refine (history_Formed.calls _ _ l0 t603 t604 _ ?side1 ?side2 A5.out).mono ?_); (case side1 => repeat (first | exact (Kd.C_below HR0.out (by repeat (first | (with_reducible first | exact HB.out | apply below_alloc | apply pw_below_drewN | apply below_drew1) | exact HB.out))) | (with_reducible refine Kd.C_alloc ?_ _) | (with_reducible refine Kd.C_drewN ?_ _) | (with_reducible refine Kd.C_drew ?_))); (case side2 => exact HC0.out); rintro e w8 ⟨rfl, hb⟩; have n0_ := Aside0.mk (below_step (by repeat (first | (with_reducible first | exact HB.out | apply below_alloc | apply pw_below_drewN | apply below_drew1) | exact HB.out)) hb); clear HB; have HB := n0_; clear n0_; (try clear hb); (try clear hb2); (try clear hk); (try clear hi))))
  (try simp only [Act.put, List.setIfInBounds_toArray, List.set_cons_zero, List.set_cons_succ])
  go_cut [32] (fun v32 wc => ∃ (kq : Nat) (x32_5 : Bool), v32 = .bool x32_5 ∧ Aside0 (cartouchelaw08_HistoryVersions.j0 kq l0 a1 t601 x32_5 = some r) ∧ Aside0 (kq ≤ k) ∧ Aside0 (Below w.heap.size w wc))
  case first =>
    have H := HC6.out
    clear HC6
    by_cases c9 : t602 = true
    · subst c9
      have H1 : (cartouchelaw08_HistoryVersions.j0 k l0 a1 t601 (t604 != 0)) = some r := by rw [if_pos rfl] at H; exact H
      clear H
      have H := H1
      clear H1
      have H' := Aside0.mk H
      clear H
      go_wp2
      repeat (go_quiet (fail); try go_wp2)
      go_meet
      case rel => exact ⟨_, ((t604 != 0)), (by first | rfl | (simp; done) | (simp [*]; done)), H', ⟨by first | omega | exact Nat.le_refl _⟩, ⟨by repeat (first | (with_reducible first | exact HB.out | apply below_alloc | apply pw_below_drewN | apply below_drew1) | exact HB.out)⟩⟩
    · replace c9 := Bool.eq_false_iff.mpr c9
      subst c9
      have H1 : (cartouchelaw08_HistoryVersions.j0 k l0 a1 t601 true) = some r := by rw [if_neg (show ¬ (false = true) by decide)] at H; exact H
      clear H
      have H := H1
      clear H1
      have H' := Aside0.mk H
      clear H
      go_wp2
      repeat (go_quiet (fail); try go_wp2)
      go_meet
      case rel => exact ⟨_, (true), (by first | rfl | (simp; done) | (simp [*]; done)), H', ⟨by first | omega | exact Nat.le_refl _⟩, ⟨by repeat (first | (with_reducible first | exact HB.out | apply below_alloc | apply pw_below_drewN | apply below_drew1) | exact HB.out)⟩⟩
  case rest =>
    clear HC6
    try clear c2
    try clear p2
    try clear c9
    obtain ⟨kq, x32_5, rfl, HA, HJ5, HB⟩ := hcut
    cases kq with
    | zero => exact absurd HA.out (by simp [cartouchelaw08_HistoryVersions.j0])
    | succ kj5 =>
      have H := HA.out
      clear HA
      simp only [cartouchelaw08_HistoryVersions.j0] at H
      by_cases c10 : x32_5 = true
      · subst c10
        have H1 : (some t601) = some r := by rw [if_pos rfl] at H; exact H
        clear H
        have H := H1
        clear H1
        obtain rfl := Option.some.inj H
        go_wp2
        repeat (go_quiet (fail); try go_wp2)
        go_ret
        exact ⟨by first | rfl | (simp [errW_none, errW_some] <;> rfl) | (simp [*, errW_none, errW_some] <;> rfl), by repeat (first | (with_reducible first | exact HB.out | apply below_alloc | apply pw_below_drewN | apply below_drew1) | exact HB.out)⟩
      · replace c10 := Bool.eq_false_iff.mpr c10
        subst c10
        have H1 : ((history_Versions.f l0 a1).bind fun t605 => (cartouchelaw08_HistoryVersions.l0 kj5 l0 a1 t601 t605 (-1) 0)) = some r := by rw [if_neg (show ¬ (false = true) by decide)] at H; exact H
        clear H
        have H := H1
        clear H1
        replace H := Option.bind_eq_some_iff.mp H
        obtain ⟨t605, A110, H⟩ := H
        replace H : (cartouchelaw08_HistoryVersions.l0 kj5 l0 a1 t601 t605 (-1) 0) = some r := H
        have A11 := Aside0.mk A110
        clear A110
        have H' := Aside0.mk H
        clear H
        go_wp2_with (first | (go_at_call 59; (with_reducible refine (history_Versions.calls _ _ l0 a1 t605 _ ?side1 ?side2 A11.out).mono ?_); (case side1 => repeat (first | exact (Kd.C_below HR0.out HB.out) | (with_reducible refine Kd.C_alloc ?_ _) | (with_reducible refine Kd.C_drewN ?_ _) | (with_reducible refine Kd.C_drew ?_))); (case side2 => exact HC0.out); rintro e w12 ⟨v606, rfl, ho0, hb⟩; have n0_ := Aside0.mk (Kd.R_lower ho0 (below_size (by repeat (first | (with_reducible first | exact HB.out | apply below_alloc | apply pw_below_drewN | apply below_drew1) | exact HB.out)))); have n1_ := Aside0.mk (below_step (by repeat (first | (with_reducible first | exact HB.out | apply below_alloc | apply pw_below_drewN | apply below_drew1) | exact HB.out)) hb); clear HB; have HO607 := n0_; have HB := n1_; clear n0_ n1_; (try clear hb); (try clear hb2); (try clear hk); (try clear hi); (try clear ho0)))
        repeat (go_quiet (first | (go_at_call 59; (with_reducible refine (history_Versions.calls _ _ l0 a1 t605 _ ?side1 ?side2 A11.out).mono ?_); (case side1 => repeat (first | exact (Kd.C_below HR0.out HB.out) | (with_reducible refine Kd.C_alloc ?_ _) | (with_reducible refine Kd.C_drewN ?_ _) | (with_reducible refine Kd.C_drew ?_))); (case side2 => exact HC0.out); rintro e w12 ⟨v606, rfl, ho0, hb⟩; have n0_ := Aside0.mk (Kd.R_lower ho0 (below_size (by repeat (first | (with_reducible first | exact HB.out | apply below_alloc | apply pw_below_drewN | apply below_drew1) | exact HB.out)))); have n1_ := Aside0.mk (below_step (by repeat (first | (with_reducible first | exact HB.out | apply below_alloc | apply pw_below_drewN | apply below_drew1) | exact HB.out)) hb); clear HB; have HO607 := n0_; have HB := n1_; clear n0_ n1_; (try clear hb); (try clear hb2); (try clear hk); (try clear hi); (try clear ho0))); try go_wp2_with (first | (go_at_call 59; (with_reducible refine (history_Versions.calls _ _ l0 a1 t605 _ ?side1 ?side2 A11.out).mono ?_); (case side1 => repeat (first | exact (Kd.C_below HR0.out HB.out) | (with_reducible refine Kd.C_alloc ?_ _) | (with_reducible refine Kd.C_drewN ?_ _) | (with_reducible refine Kd.C_drew ?_))); (case side2 => exact HC0.out); rintro e w12 ⟨v606, rfl, ho0, hb⟩; have n0_ := Aside0.mk (Kd.R_lower ho0 (below_size (by repeat (first | (with_reducible first | exact HB.out | apply below_alloc | apply pw_below_drewN | apply below_drew1) | exact HB.out)))); have n1_ := Aside0.mk (below_step (by repeat (first | (with_reducible first | exact HB.out | apply below_alloc | apply pw_below_drewN | apply below_drew1) | exact HB.out)) hb); clear HB; have HO607 := n0_; have HB := n1_; clear n0_ n1_; (try clear hb); (try clear hb2); (try clear hk); (try clear hi); (try clear ho0))))
        go_loopg [10, 11] kj5 (fun kq v10 v11 w' => ∃ (x10_2 : Int) (x11_2 : Int), v10 = .int .i64 x10_2 ∧ v11 = .int .i64 x11_2 ∧ Aside0 (cartouchelaw08_HistoryVersions.l0 kq l0 a1 t601 t605 x10_2 x11_2 = some r) ∧ Aside0 (kq ≤ kj5) ∧ Aside0 (Kd.R (Kd.int .i64) 3 w' w.heap.size (fun _ => True) v606 t605) ∧ Aside0 (Below w.heap.size w w'))
        case atStart => exact ⟨((-1)), (0), (by first | rfl | (simp; done) | (simp [*]; done)), (by first | rfl | (simp; done) | (simp [*]; done)), H', ⟨Nat.le_refl _⟩, ⟨by (with_reducible repeat (first | apply Kd.R_alloc | apply Kd.R_drewN | apply Kd.R_drew)); exact HO607.out⟩, ⟨by repeat (first | (with_reducible first | exact HB.out | apply below_alloc | apply pw_below_drewN | apply below_drew1) | exact HB.out)⟩⟩
        case round =>
          clear H'
          try clear c1
          try clear c2
          try clear p2
          try clear c9
          try clear c10
          try clear p2
          obtain ⟨x10_2, x11_2, rfl, rfl, HA, HK2, HO_9, HB⟩ := hrel
          cases gk with
          | zero => exact absurd HA.out (by simp [cartouchelaw08_HistoryVersions.l0])
          | succ k2 =>
            have H := HA.out
            clear HA
            simp only [cartouchelaw08_HistoryVersions.l0] at H
            by_cases c13 : x11_2 < (t605.length : Int)
            · rw [if_pos c13] at H
              have c13b0 : decide (x11_2 < (t605.length : Int)) = true := decide_eq_true c13
              clear c13
              have HC14 := Aside0.mk H
              clear H
              obtain ⟨Ao15, co15, eo15⟩ := Kd.R_slice HO_9.out
              subst eo15
              go_upto_region 11 with (fail)
              repeat (go_quiet (fail); go_upto_region 11 with (fail))
              go_cut [79] (fun v79 wc => ∃ (kq : Nat) (x79_13 : Bool), v79 = .bool x79_13 ∧ Aside0 (cartouchelaw08_HistoryVersions.j2 kq l0 a1 t601 t605 x10_2 x11_2 x79_13 = some r) ∧ Aside0 (kq ≤ k2) ∧ Aside0 (Kd.R (Kd.int .i64) 3 wc w.heap.size (fun _ => True) (.slice Ao15 t605.length co15) t605) ∧ Aside0 (Below w.heap.size w wc))
              case first =>
                have H := HC14.out
                clear HC14
                by_cases c16 : 0 ≤ x11_2
                · rw [if_pos c16] at H
                  have c16b0 : decide (0 ≤ x11_2) = true := decide_eq_true c16
                  clear c16
                  (first | rw [c16b0] | (simp only [i64_w, i32_w]; rw [c16b0]) | skip)
                  by_cases c17 : (rd t605 x11_2) < 0
                  · rw [if_pos c17] at H
                    have c17b0 : decide ((rd t605 x11_2) < 0) = true := decide_eq_true c17
                    clear c17
                    have H' := Aside0.mk H
                    clear H
                    have p608 : 0 ≤ (x11_2 : Int) := of_decide_eq_true (by first | (with_reducible assumption) | assumption)
                    have q608 : x11_2 < (t605.length : Int) := of_decide_eq_true (by first | (with_reducible assumption) | assumption)
                    obtain ⟨ad608, e608, hx608_0⟩ := Kd.at_int (Kd.R_reads' HO_9.out).2.2 x11_2 p608 q608
                    cases e608
                    replace p608 := eq_true p608
                    replace q608 := eq_true q608
                    go_wp2
                    repeat (go_quiet (fail); try go_wp2)
                    go_meet
                    case rel => exact ⟨_, (true), (by first | rfl | (simp; done) | (simp [*]; done)), H', ⟨by have := HJ5.out; have := HK2.out; first | omega | exact Nat.le_refl _⟩, ⟨by (with_reducible repeat (first | apply Kd.R_alloc | apply Kd.R_drewN | apply Kd.R_drew)); exact HO_9.out⟩, ⟨by repeat (first | (with_reducible first | exact HB.out | apply below_alloc | apply pw_below_drewN | apply below_drew1) | exact HB.out)⟩⟩
                  · rw [if_neg c17] at H
                    have c17b0 : decide ((rd t605 x11_2) < 0) = false := decide_eq_false c17
                    clear c17
                    by_cases c18 : (rd t605 x11_2) ≥ (l0.length : Int)
                    · rw [if_pos c18] at H
                      have c18b0 : decide ((l0.length : Int) ≤ (rd t605 x11_2)) = true := decide_eq_true c18
                      clear c18
                      have H' := Aside0.mk H
                      clear H
                      have p608 : 0 ≤ (x11_2 : Int) := of_decide_eq_true (by first | (with_reducible assumption) | assumption)
                      have q608 : x11_2 < (t605.length : Int) := of_decide_eq_true (by first | (with_reducible assumption) | assumption)
                      obtain ⟨ad608, e608, hx608_0⟩ := Kd.at_int (Kd.R_reads' HO_9.out).2.2 x11_2 p608 q608
                      cases e608
                      replace p608 := eq_true p608
                      replace q608 := eq_true q608
                      have p609 : 0 ≤ (x11_2 : Int) := of_decide_eq_true (by first | (with_reducible assumption) | assumption)
                      have q609 : x11_2 < (t605.length : Int) := of_decide_eq_true (by first | (with_reducible assumption) | assumption)
                      obtain ⟨ad609, e609, hx609_0⟩ := Kd.at_int (Kd.R_reads' HO_9.out).2.2 x11_2 p609 q609
                      obtain rfl : ad608 = ad609 := (by injection e609)
                      replace p609 := eq_true p609
                      replace q609 := eq_true q609
                      go_wp2
                      repeat (go_quiet (fail); try go_wp2)
                      go_meet
                      case rel => exact ⟨_, (true), (by first | rfl | (simp; done) | (simp [*]; done)), H', ⟨by have := HJ5.out; have := HK2.out; first | omega | exact Nat.le_refl _⟩, ⟨by (with_reducible repeat (first | apply Kd.R_alloc | apply Kd.R_drewN | apply Kd.R_drew)); exact HO_9.out⟩, ⟨by repeat (first | (with_reducible first | exact HB.out | apply below_alloc | apply pw_below_drewN | apply below_drew1) | exact HB.out)⟩⟩
                    · rw [if_neg c18] at H
                      have c18b0 : decide ((l0.length : Int) ≤ (rd t605 x11_2)) = false := decide_eq_false c18
                      clear c18
                      by_cases c19 : 0 ≤ (rd t605 x11_2)
                      · rw [if_pos c19] at H
                        have c19b0 : decide (0 ≤ (rd t605 x11_2)) = true := decide_eq_true c19
                        clear c19
                        by_cases c20 : (rd t605 x11_2) < (l0.length : Int)
                        · rw [if_pos c20] at H
                          have c20b0 : decide ((rd t605 x11_2) < (l0.length : Int)) = true := decide_eq_true c20
                          clear c20
                          by_cases c21 : ((rd_T31 l0 (rd t605 x11_2)).f0) = 3
                          · rw [if_pos c21] at H
                            have c21b0 : (((rd_T31 l0 (rd t605 x11_2)).f0) == 3) = true := beq_iff_eq.mpr c21
                            have c21b1 : (((rd_T31 l0 (rd t605 x11_2)).f0) != 3) = false := bne_eq_false_iff_eq.mpr c21
                            clear c21
                            have H' := Aside0.mk H
                            clear H
                            have p608 : 0 ≤ (x11_2 : Int) := of_decide_eq_true (by first | (with_reducible assumption) | assumption)
                            have q608 : x11_2 < (t605.length : Int) := of_decide_eq_true (by first | (with_reducible assumption) | assumption)
                            obtain ⟨ad608, e608, hx608_0⟩ := Kd.at_int (Kd.R_reads' HO_9.out).2.2 x11_2 p608 q608
                            cases e608
                            replace p608 := eq_true p608
                            replace q608 := eq_true q608
                            have p609 : 0 ≤ (x11_2 : Int) := of_decide_eq_true (by first | (with_reducible assumption) | assumption)
                            have q609 : x11_2 < (t605.length : Int) := of_decide_eq_true (by first | (with_reducible assumption) | assumption)
                            obtain ⟨ad609, e609, hx609_0⟩ := Kd.at_int (Kd.R_reads' HO_9.out).2.2 x11_2 p609 q609
                            obtain rfl : ad608 = ad609 := (by injection e609)
                            replace p609 := eq_true p609
                            replace q609 := eq_true q609
                            have p610 : 0 ≤ (x11_2 : Int) := of_decide_eq_true (by first | (with_reducible assumption) | assumption)
                            have q610 : x11_2 < (t605.length : Int) := of_decide_eq_true (by first | (with_reducible assumption) | assumption)
                            obtain ⟨ad610, e610, hx610_0⟩ := Kd.at_int (Kd.R_reads' HO_9.out).2.2 x11_2 p610 q610
                            obtain rfl : ad608 = ad610 := (by injection e610)
                            replace p610 := eq_true p610
                            replace q610 := eq_true q610
                            have p611 : 0 ≤ ((rd t605 x11_2) : Int) := of_decide_eq_true (by first | (with_reducible assumption) | assumption)
                            have q611 : (rd t605 x11_2) < (l0.length : Int) := of_decide_eq_true (by first | (with_reducible assumption) | assumption)
                            obtain ⟨ad611, e611, hx611_0, hx611_1, hx611_2, hx611_3⟩ := at_T31 HR0.out (rd t605 x11_2) p611 q611
                            cases e611
                            replace hx611_0 := (HB.out.cell (World.block_lt_of_cell? w _ hx611_0)).trans hx611_0
                            replace hx611_1 := (HB.out.cell (World.block_lt_of_cell? w _ hx611_1)).trans hx611_1
                            replace hx611_2 := (HB.out.cell (World.block_lt_of_cell? w _ hx611_2)).trans hx611_2
                            replace hx611_3 := (HB.out.cell (World.block_lt_of_cell? w _ hx611_3)).trans hx611_3
                            replace p611 := eq_true p611
                            replace q611 := eq_true q611
                            have p612 : 0 ≤ (x11_2 : Int) := of_decide_eq_true (by first | (with_reducible assumption) | assumption)
                            have q612 : x11_2 < (t605.length : Int) := of_decide_eq_true (by first | (with_reducible assumption) | assumption)
                            obtain ⟨ad612, e612, hx612_0⟩ := Kd.at_int (Kd.R_reads' HO_9.out).2.2 x11_2 p612 q612
                            obtain rfl : ad608 = ad612 := (by injection e612)
                            replace p612 := eq_true p612
                            replace q612 := eq_true q612
                            have p613 : 0 ≤ ((rd t605 x11_2) : Int) := of_decide_eq_true (by first | (with_reducible assumption) | assumption)
                            have q613 : (rd t605 x11_2) < (l0.length : Int) := of_decide_eq_true (by first | (with_reducible assumption) | assumption)
                            obtain ⟨ad613, e613, hx613_0, hx613_1, hx613_2, hx613_3⟩ := at_T31 HR0.out (rd t605 x11_2) p613 q613
                            obtain rfl : ad611 = ad613 := (by injection e613)
                            replace hx613_0 := (HB.out.cell (World.block_lt_of_cell? w _ hx613_0)).trans hx613_0
                            replace hx613_1 := (HB.out.cell (World.block_lt_of_cell? w _ hx613_1)).trans hx613_1
                            replace hx613_2 := (HB.out.cell (World.block_lt_of_cell? w _ hx613_2)).trans hx613_2
                            replace hx613_3 := (HB.out.cell (World.block_lt_of_cell? w _ hx613_3)).trans hx613_3
                            replace p613 := eq_true p613
                            replace q613 := eq_true q613
                            go_wp2
                            repeat (go_quiet (fail); try go_wp2)
                            go_meet
                            case rel => exact ⟨_, ((((rd_T31 l0 (rd t605 x11_2)).f2).toList != a1.toList)), (by first | rfl | (simp; done) | (simp [*]; done)), H', ⟨by have := HJ5.out; have := HK2.out; first | omega | exact Nat.le_refl _⟩, ⟨by (with_reducible repeat (first | apply Kd.R_alloc | apply Kd.R_drewN | apply Kd.R_drew)); exact HO_9.out⟩, ⟨by repeat (first | (with_reducible first | exact HB.out | apply below_alloc | apply pw_below_drewN | apply below_drew1) | exact HB.out)⟩⟩
                          · rw [if_neg c21] at H
                            have c21b0 : (((rd_T31 l0 (rd t605 x11_2)).f0) == 3) = false := beq_eq_false_iff_ne.mpr c21
                            have c21b1 : (((rd_T31 l0 (rd t605 x11_2)).f0) != 3) = true := bne_iff_ne.mpr c21
                            have H' := Aside0.mk H
                            clear H
                            have p608 : 0 ≤ (x11_2 : Int) := of_decide_eq_true (by first | (with_reducible assumption) | assumption)
                            have q608 : x11_2 < (t605.length : Int) := of_decide_eq_true (by first | (with_reducible assumption) | assumption)
                            obtain ⟨ad608, e608, hx608_0⟩ := Kd.at_int (Kd.R_reads' HO_9.out).2.2 x11_2 p608 q608
                            cases e608
                            replace p608 := eq_true p608
                            replace q608 := eq_true q608
                            have p609 : 0 ≤ (x11_2 : Int) := of_decide_eq_true (by first | (with_reducible assumption) | assumption)
                            have q609 : x11_2 < (t605.length : Int) := of_decide_eq_true (by first | (with_reducible assumption) | assumption)
                            obtain ⟨ad609, e609, hx609_0⟩ := Kd.at_int (Kd.R_reads' HO_9.out).2.2 x11_2 p609 q609
                            obtain rfl : ad608 = ad609 := (by injection e609)
                            replace p609 := eq_true p609
                            replace q609 := eq_true q609
                            have p610 : 0 ≤ (x11_2 : Int) := of_decide_eq_true (by first | (with_reducible assumption) | assumption)
                            have q610 : x11_2 < (t605.length : Int) := of_decide_eq_true (by first | (with_reducible assumption) | assumption)
                            obtain ⟨ad610, e610, hx610_0⟩ := Kd.at_int (Kd.R_reads' HO_9.out).2.2 x11_2 p610 q610
                            obtain rfl : ad608 = ad610 := (by injection e610)
                            replace p610 := eq_true p610
                            replace q610 := eq_true q610
                            have p611 : 0 ≤ ((rd t605 x11_2) : Int) := of_decide_eq_true (by first | (with_reducible assumption) | assumption)
                            have q611 : (rd t605 x11_2) < (l0.length : Int) := of_decide_eq_true (by first | (with_reducible assumption) | assumption)
                            obtain ⟨ad611, e611, hx611_0, hx611_1, hx611_2, hx611_3⟩ := at_T31 HR0.out (rd t605 x11_2) p611 q611
                            cases e611
                            replace hx611_0 := (HB.out.cell (World.block_lt_of_cell? w _ hx611_0)).trans hx611_0
                            replace hx611_1 := (HB.out.cell (World.block_lt_of_cell? w _ hx611_1)).trans hx611_1
                            replace hx611_2 := (HB.out.cell (World.block_lt_of_cell? w _ hx611_2)).trans hx611_2
                            replace hx611_3 := (HB.out.cell (World.block_lt_of_cell? w _ hx611_3)).trans hx611_3
                            replace p611 := eq_true p611
                            replace q611 := eq_true q611
                            go_wp2
                            repeat (go_quiet (fail); try go_wp2)
                            go_meet
                            case rel => exact ⟨_, (true), (by first | rfl | (simp; done) | (simp [*]; done)), H', ⟨by have := HJ5.out; have := HK2.out; first | omega | exact Nat.le_refl _⟩, ⟨by (with_reducible repeat (first | apply Kd.R_alloc | apply Kd.R_drewN | apply Kd.R_drew)); exact HO_9.out⟩, ⟨by repeat (first | (with_reducible first | exact HB.out | apply below_alloc | apply pw_below_drewN | apply below_drew1) | exact HB.out)⟩⟩
                        · rw [if_neg c20] at H
                          exact absurd H (by simp)
                      · rw [if_neg c19] at H
                        exact absurd H (by simp)
                · rw [if_neg c16] at H
                  exact absurd H (by simp)
              case rest =>
                clear HC14
                try clear c1
                try clear c2
                try clear p2
                try clear p6
                try clear q6
                try clear hx6
                try clear c9
                try clear c10
                try clear c13
                try clear c13b0
                try clear c16
                try clear c16b0
                try clear c17
                try clear c17b0
                try clear c18
                try clear c18b0
                try clear c19
                try clear c19b0
                try clear c20
                try clear c20b0
                try clear c21
                try clear c21b0
                try clear c21b1
                try clear hx608_0
                try clear hx609_0
                try clear hx610_0
                try clear hx611_0
                try clear hx611_1
                try clear hx611_2
                try clear hx611_3
                try clear hx612_0
                try clear hx613_0
                try clear hx613_1
                try clear hx613_2
                try clear hx613_3
                try clear p2
                try clear p608
                try clear p609
                try clear p610
                try clear p611
                try clear p612
                try clear p613
                try clear q608
                try clear q609
                try clear q610
                try clear q611
                try clear q612
                try clear q613
                obtain ⟨kq, x79_13, rfl, HA, HJ13, HO_9, HB⟩ := hcut
                cases kq with
                | zero => exact absurd HA.out (by simp [cartouchelaw08_HistoryVersions.j2])
                | succ kj13 =>
                  have H := HA.out
                  clear HA
                  simp only [cartouchelaw08_HistoryVersions.j2] at H
                  by_cases c22 : x79_13 = true
                  · subst c22
                    have H1 : (some false) = some r := by rw [if_pos rfl] at H; exact H
                    clear H
                    have H := H1
                    clear H1
                    obtain rfl := Option.some.inj H
                    go_wp2
                    repeat (go_quiet (fail); try go_wp2)
                    go_ret
                    exact ⟨by first | rfl | (simp [errW_none, errW_some] <;> rfl) | (simp [*, errW_none, errW_some] <;> rfl), by repeat (first | (with_reducible first | exact HB.out | apply below_alloc | apply pw_below_drewN | apply below_drew1) | exact HB.out)⟩
                  · replace c22 := Bool.eq_false_iff.mpr c22
                    subst c22
                    have H1 : (if 0 ≤ x11_2 then (if x11_2 < (t605.length : Int) then (if 0 ≤ (rd t605 x11_2) then (if (rd t605 x11_2) < (l0.length : Int) then ((history_Find.f l0 ((rd_T31 l0 (rd t605 x11_2)).f1)).bind fun bt616 => (if bt616.2.2.2.2 = true then (if bt616.2.2.2.1 = true then (if bt616.2.2.1 ≤ x10_2 then (some false) else (cartouchelaw08_HistoryVersions.l0 kj13 l0 a1 t601 t605 bt616.2.2.1 (wrap64 (x11_2 + 1)))) else (some false)) else (some false))) else (none)) else (none)) else (none)) else (none)) = some r := by rw [if_neg (show ¬ (false = true) by decide)] at H; exact H
                    clear H
                    have H := H1
                    clear H1
                    by_cases c23 : 0 ≤ x11_2
                    · rw [if_pos c23] at H
                      have c23b0 : decide (0 ≤ x11_2) = true := decide_eq_true c23
                      clear c23
                      by_cases c24 : x11_2 < (t605.length : Int)
                      · rw [if_pos c24] at H
                        have c24b0 : decide (x11_2 < (t605.length : Int)) = true := decide_eq_true c24
                        clear c24
                        by_cases c25 : 0 ≤ (rd t605 x11_2)
                        · rw [if_pos c25] at H
                          have c25b0 : decide (0 ≤ (rd t605 x11_2)) = true := decide_eq_true c25
                          clear c25
                          by_cases c26 : (rd t605 x11_2) < (l0.length : Int)
                          · rw [if_pos c26] at H
                            have c26b0 : decide ((rd t605 x11_2) < (l0.length : Int)) = true := decide_eq_true c26
                            clear c26
                            replace H := Option.bind_eq_some_iff.mp H
                            obtain ⟨⟨t616, t617, t618, t619, t620⟩, A270, H⟩ := H
                            replace H : (if t620 = true then (if t619 = true then (if t618 ≤ x10_2 then (some false) else (cartouchelaw08_HistoryVersions.l0 kj13 l0 a1 t601 t605 t618 (wrap64 (x11_2 + 1)))) else (some false)) else (some false)) = some r := H
                            have A27 := Aside0.mk A270
                            clear A270
                            by_cases c28 : t620 = true
                            · subst c28
                              have H1 : (if t619 = true then (if t618 ≤ x10_2 then (some false) else (cartouchelaw08_HistoryVersions.l0 kj13 l0 a1 t601 t605 t618 (wrap64 (x11_2 + 1)))) else (some false)) = some r := by rw [if_pos rfl] at H; exact H
                              clear H
                              have H := H1
                              clear H1
                              by_cases c29 : t619 = true
                              · subst c29
                                have H1 : (if t618 ≤ x10_2 then (some false) else (cartouchelaw08_HistoryVersions.l0 kj13 l0 a1 t601 t605 t618 (wrap64 (x11_2 + 1)))) = some r := by rw [if_pos rfl] at H; exact H
                                clear H
                                have H := H1
                                clear H1
                                by_cases c30 : t618 ≤ x10_2
                                · rw [if_pos c30] at H
                                  have c30b0 : decide (t618 ≤ x10_2) = true := decide_eq_true c30
                                  clear c30
                                  obtain rfl := Option.some.inj H
                                  have p614 : 0 ≤ (x11_2 : Int) := of_decide_eq_true (by first | (with_reducible assumption) | assumption)
                                  have q614 : x11_2 < (t605.length : Int) := of_decide_eq_true (by first | (with_reducible assumption) | assumption)
                                  obtain ⟨ad614, e614, hx614_0⟩ := Kd.at_int (Kd.R_reads' HO_9.out).2.2 x11_2 p614 q614
                                  cases e614
                                  replace p614 := eq_true p614
                                  replace q614 := eq_true q614
                                  have p615 : 0 ≤ ((rd t605 x11_2) : Int) := of_decide_eq_true (by first | (with_reducible assumption) | assumption)
                                  have q615 : (rd t605 x11_2) < (l0.length : Int) := of_decide_eq_true (by first | (with_reducible assumption) | assumption)
                                  obtain ⟨ad615, e615, hx615_0, hx615_1, hx615_2, hx615_3⟩ := at_T31 HR0.out (rd t605 x11_2) p615 q615
                                  cases e615
                                  replace hx615_0 := (HB.out.cell (World.block_lt_of_cell? w _ hx615_0)).trans hx615_0
                                  replace hx615_1 := (HB.out.cell (World.block_lt_of_cell? w _ hx615_1)).trans hx615_1
                                  replace hx615_2 := (HB.out.cell (World.block_lt_of_cell? w _ hx615_2)).trans hx615_2
                                  replace hx615_3 := (HB.out.cell (World.block_lt_of_cell? w _ hx615_3)).trans hx615_3
                                  replace p615 := eq_true p615
                                  replace q615 := eq_true q615
                                  go_wp2_with (first | (go_at_call 64; (with_reducible refine (history_Find.calls _ _ l0 ((rd_T31 l0 (rd t605 x11_2)).f1) t616 t617 t618 true true _ ?side1 ?side2 A27.out).mono ?_); (case side1 => repeat (first | exact (Kd.C_below HR0.out HB.out) | (with_reducible refine Kd.C_alloc ?_ _) | (with_reducible refine Kd.C_drewN ?_ _) | (with_reducible refine Kd.C_drew ?_))); (case side2 => exact HC0.out); rintro e w31 ⟨rfl, hb⟩; have n0_ := Aside0.mk (Kd.R_below (by (with_reducible repeat (first | apply Kd.R_alloc | apply Kd.R_drewN | apply Kd.R_drew)); exact HO_9.out) hb); have n1_ := Aside0.mk (below_step (by repeat (first | (with_reducible first | exact HB.out | apply below_alloc | apply pw_below_drewN | apply below_drew1) | exact HB.out)) hb); clear HO_9; clear HB; have HO_9 := n0_; have HB := n1_; clear n0_ n1_; (try clear hb); (try clear hb2); (try clear hk); (try clear hi)) | ((with_reducible refine gate_dst (N := 12) rfl ?_); (try (refine gate_guard (by rfl) ?_; dsimp only)); refine box_event ?hg (N := 12) ?hd (cs := #[.int .i64 0, .int .i64 0, .int .i64 0, .bool false]) (t := 33) ?hr ?_; (case hd => rfl); (case hg => rfl); (case hr => first | (go_simp; done) | (go_simp; rfl)); intro gb621 hg w32 hbox hb; have n0_ := Aside0.mk (Kd.R_below (by (with_reducible repeat (first | apply Kd.R_alloc | apply Kd.R_drewN | apply Kd.R_drew)); exact HO_9.out) hb); have n1_ := Aside0.mk (below_step (by repeat (first | (with_reducible first | exact HB.out | apply below_alloc | apply pw_below_drewN | apply below_drew1) | exact HB.out)) hb); have n2_ := Aside0.mk (hbox); have n3_ := Aside0.mk ((by rw [hg]; exact (below_size (by repeat (first | (with_reducible first | exact HB.out | apply below_alloc | apply pw_below_drewN | apply below_drew1) | exact HB.out))) : w.heap.size ≤ gb621)); have n4_ := Aside0.mk ((by rw [hg]; exact (below_size (by repeat (first | (with_reducible first | exact HB.out | apply below_alloc | apply pw_below_drewN | apply below_drew1) | exact HB.out))) : w.heap.size ≤ gb621)); clear HO_9; clear HB; have HO_9 := n0_; have HB := n1_; have BK621 := n2_; have GW621 := n3_; have GE621 := n4_; clear n0_ n1_ n2_ n3_ n4_; clear hb hbox hg; have hcz33_0 : w32.cell? ⟨gb621, 0, none⟩ = some (.int .i64 0) := (blk_cell BK621.out 0).trans rfl; have hcz33_1 : w32.cell? ⟨gb621, 1, none⟩ = some (.int .i64 0) := (blk_cell BK621.out 1).trans rfl; have hcz33_2 : w32.cell? ⟨gb621, 2, none⟩ = some (.int .i64 0) := (blk_cell BK621.out 2).trans rfl; have hcz33_3 : w32.cell? ⟨gb621, 3, none⟩ = some (.bool false) := (blk_cell BK621.out 3).trans rfl; have hfz33_0 := blk_frozen BK621.out 0; have hfz33_1 := blk_frozen BK621.out 1; have hfz33_2 := blk_frozen BK621.out 2; have hfz33_3 := blk_frozen BK621.out 3))
                                  repeat (go_quiet (first | (go_at_call 64; (with_reducible refine (history_Find.calls _ _ l0 ((rd_T31 l0 (rd t605 x11_2)).f1) t616 t617 t618 true true _ ?side1 ?side2 A27.out).mono ?_); (case side1 => repeat (first | exact (Kd.C_below HR0.out HB.out) | (with_reducible refine Kd.C_alloc ?_ _) | (with_reducible refine Kd.C_drewN ?_ _) | (with_reducible refine Kd.C_drew ?_))); (case side2 => exact HC0.out); rintro e w31 ⟨rfl, hb⟩; have n0_ := Aside0.mk (Kd.R_below (by (with_reducible repeat (first | apply Kd.R_alloc | apply Kd.R_drewN | apply Kd.R_drew)); exact HO_9.out) hb); have n1_ := Aside0.mk (below_step (by repeat (first | (with_reducible first | exact HB.out | apply below_alloc | apply pw_below_drewN | apply below_drew1) | exact HB.out)) hb); clear HO_9; clear HB; have HO_9 := n0_; have HB := n1_; clear n0_ n1_; (try clear hb); (try clear hb2); (try clear hk); (try clear hi)) | ((with_reducible refine gate_dst (N := 12) rfl ?_); (try (refine gate_guard (by rfl) ?_; dsimp only)); refine box_event ?hg (N := 12) ?hd (cs := #[.int .i64 0, .int .i64 0, .int .i64 0, .bool false]) (t := 33) ?hr ?_; (case hd => rfl); (case hg => rfl); (case hr => first | (go_simp; done) | (go_simp; rfl)); intro gb621 hg w32 hbox hb; have n0_ := Aside0.mk (Kd.R_below (by (with_reducible repeat (first | apply Kd.R_alloc | apply Kd.R_drewN | apply Kd.R_drew)); exact HO_9.out) hb); have n1_ := Aside0.mk (below_step (by repeat (first | (with_reducible first | exact HB.out | apply below_alloc | apply pw_below_drewN | apply below_drew1) | exact HB.out)) hb); have n2_ := Aside0.mk (hbox); have n3_ := Aside0.mk ((by rw [hg]; exact (below_size (by repeat (first | (with_reducible first | exact HB.out | apply below_alloc | apply pw_below_drewN | apply below_drew1) | exact HB.out))) : w.heap.size ≤ gb621)); have n4_ := Aside0.mk ((by rw [hg]; exact (below_size (by repeat (first | (with_reducible first | exact HB.out | apply below_alloc | apply pw_below_drewN | apply below_drew1) | exact HB.out))) : w.heap.size ≤ gb621)); clear HO_9; clear HB; have HO_9 := n0_; have HB := n1_; have BK621 := n2_; have GW621 := n3_; have GE621 := n4_; clear n0_ n1_ n2_ n3_ n4_; clear hb hbox hg; have hcz33_0 : w32.cell? ⟨gb621, 0, none⟩ = some (.int .i64 0) := (blk_cell BK621.out 0).trans rfl; have hcz33_1 : w32.cell? ⟨gb621, 1, none⟩ = some (.int .i64 0) := (blk_cell BK621.out 1).trans rfl; have hcz33_2 : w32.cell? ⟨gb621, 2, none⟩ = some (.int .i64 0) := (blk_cell BK621.out 2).trans rfl; have hcz33_3 : w32.cell? ⟨gb621, 3, none⟩ = some (.bool false) := (blk_cell BK621.out 3).trans rfl; have hfz33_0 := blk_frozen BK621.out 0; have hfz33_1 := blk_frozen BK621.out 1; have hfz33_2 := blk_frozen BK621.out 2; have hfz33_3 := blk_frozen BK621.out 3)); try go_wp2_with (first | (go_at_call 64; (with_reducible refine (history_Find.calls _ _ l0 ((rd_T31 l0 (rd t605 x11_2)).f1) t616 t617 t618 true true _ ?side1 ?side2 A27.out).mono ?_); (case side1 => repeat (first | exact (Kd.C_below HR0.out HB.out) | (with_reducible refine Kd.C_alloc ?_ _) | (with_reducible refine Kd.C_drewN ?_ _) | (with_reducible refine Kd.C_drew ?_))); (case side2 => exact HC0.out); rintro e w31 ⟨rfl, hb⟩; have n0_ := Aside0.mk (Kd.R_below (by (with_reducible repeat (first | apply Kd.R_alloc | apply Kd.R_drewN | apply Kd.R_drew)); exact HO_9.out) hb); have n1_ := Aside0.mk (below_step (by repeat (first | (with_reducible first | exact HB.out | apply below_alloc | apply pw_below_drewN | apply below_drew1) | exact HB.out)) hb); clear HO_9; clear HB; have HO_9 := n0_; have HB := n1_; clear n0_ n1_; (try clear hb); (try clear hb2); (try clear hk); (try clear hi)) | ((with_reducible refine gate_dst (N := 12) rfl ?_); (try (refine gate_guard (by rfl) ?_; dsimp only)); refine box_event ?hg (N := 12) ?hd (cs := #[.int .i64 0, .int .i64 0, .int .i64 0, .bool false]) (t := 33) ?hr ?_; (case hd => rfl); (case hg => rfl); (case hr => first | (go_simp; done) | (go_simp; rfl)); intro gb621 hg w32 hbox hb; have n0_ := Aside0.mk (Kd.R_below (by (with_reducible repeat (first | apply Kd.R_alloc | apply Kd.R_drewN | apply Kd.R_drew)); exact HO_9.out) hb); have n1_ := Aside0.mk (below_step (by repeat (first | (with_reducible first | exact HB.out | apply below_alloc | apply pw_below_drewN | apply below_drew1) | exact HB.out)) hb); have n2_ := Aside0.mk (hbox); have n3_ := Aside0.mk ((by rw [hg]; exact (below_size (by repeat (first | (with_reducible first | exact HB.out | apply below_alloc | apply pw_below_drewN | apply below_drew1) | exact HB.out))) : w.heap.size ≤ gb621)); have n4_ := Aside0.mk ((by rw [hg]; exact (below_size (by repeat (first | (with_reducible first | exact HB.out | apply below_alloc | apply pw_below_drewN | apply below_drew1) | exact HB.out))) : w.heap.size ≤ gb621)); clear HO_9; clear HB; have HO_9 := n0_; have HB := n1_; have BK621 := n2_; have GW621 := n3_; have GE621 := n4_; clear n0_ n1_ n2_ n3_ n4_; clear hb hbox hg; have hcz33_0 : w32.cell? ⟨gb621, 0, none⟩ = some (.int .i64 0) := (blk_cell BK621.out 0).trans rfl; have hcz33_1 : w32.cell? ⟨gb621, 1, none⟩ = some (.int .i64 0) := (blk_cell BK621.out 1).trans rfl; have hcz33_2 : w32.cell? ⟨gb621, 2, none⟩ = some (.int .i64 0) := (blk_cell BK621.out 2).trans rfl; have hcz33_3 : w32.cell? ⟨gb621, 3, none⟩ = some (.bool false) := (blk_cell BK621.out 3).trans rfl; have hfz33_0 := blk_frozen BK621.out 0; have hfz33_1 := blk_frozen BK621.out 1; have hfz33_2 := blk_frozen BK621.out 2; have hfz33_3 := blk_frozen BK621.out 3)))
                                  go_ret
                                  exact ⟨by first | rfl | (simp [errW_none, errW_some] <;> rfl) | (simp [*, errW_none, errW_some] <;> rfl), by repeat (first | (with_reducible first | exact HB.out | apply below_alloc | apply pw_below_drewN | apply below_drew1 | refine below_set ?_ GE621.out) | exact HB.out)⟩
                                · rw [if_neg c30] at H
                                  have c30b0 : decide (t618 ≤ x10_2) = false := decide_eq_false c30
                                  clear c30
                                  have H' := Aside0.mk H
                                  clear H
                                  have p614 : 0 ≤ (x11_2 : Int) := of_decide_eq_true (by first | (with_reducible assumption) | assumption)
                                  have q614 : x11_2 < (t605.length : Int) := of_decide_eq_true (by first | (with_reducible assumption) | assumption)
                                  obtain ⟨ad614, e614, hx614_0⟩ := Kd.at_int (Kd.R_reads' HO_9.out).2.2 x11_2 p614 q614
                                  cases e614
                                  replace p614 := eq_true p614
                                  replace q614 := eq_true q614
                                  have p615 : 0 ≤ ((rd t605 x11_2) : Int) := of_decide_eq_true (by first | (with_reducible assumption) | assumption)
                                  have q615 : (rd t605 x11_2) < (l0.length : Int) := of_decide_eq_true (by first | (with_reducible assumption) | assumption)
                                  obtain ⟨ad615, e615, hx615_0, hx615_1, hx615_2, hx615_3⟩ := at_T31 HR0.out (rd t605 x11_2) p615 q615
                                  cases e615
                                  replace hx615_0 := (HB.out.cell (World.block_lt_of_cell? w _ hx615_0)).trans hx615_0
                                  replace hx615_1 := (HB.out.cell (World.block_lt_of_cell? w _ hx615_1)).trans hx615_1
                                  replace hx615_2 := (HB.out.cell (World.block_lt_of_cell? w _ hx615_2)).trans hx615_2
                                  replace hx615_3 := (HB.out.cell (World.block_lt_of_cell? w _ hx615_3)).trans hx615_3
                                  replace p615 := eq_true p615
                                  replace q615 := eq_true q615
                                  go_wp2_with (first | (go_at_call 64; (with_reducible refine (history_Find.calls _ _ l0 ((rd_T31 l0 (rd t605 x11_2)).f1) t616 t617 t618 true true _ ?side1 ?side2 A27.out).mono ?_); (case side1 => repeat (first | exact (Kd.C_below HR0.out HB.out) | (with_reducible refine Kd.C_alloc ?_ _) | (with_reducible refine Kd.C_drewN ?_ _) | (with_reducible refine Kd.C_drew ?_))); (case side2 => exact HC0.out); rintro e w34 ⟨rfl, hb⟩; have n0_ := Aside0.mk (Kd.R_below (by (with_reducible repeat (first | apply Kd.R_alloc | apply Kd.R_drewN | apply Kd.R_drew)); exact HO_9.out) hb); have n1_ := Aside0.mk (below_step (by repeat (first | (with_reducible first | exact HB.out | apply below_alloc | apply pw_below_drewN | apply below_drew1) | exact HB.out)) hb); clear HO_9; clear HB; have HO_9 := n0_; have HB := n1_; clear n0_ n1_; (try clear hb); (try clear hb2); (try clear hk); (try clear hi)) | ((with_reducible refine gate_dst (N := 12) rfl ?_); (try (refine gate_guard (by rfl) ?_; dsimp only)); refine box_event ?hg (N := 12) ?hd (cs := #[.int .i64 0, .int .i64 0, .int .i64 0, .bool false]) (t := 33) ?hr ?_; (case hd => rfl); (case hg => rfl); (case hr => first | (go_simp; done) | (go_simp; rfl)); intro gb621 hg w35 hbox hb; have n0_ := Aside0.mk (Kd.R_below (by (with_reducible repeat (first | apply Kd.R_alloc | apply Kd.R_drewN | apply Kd.R_drew)); exact HO_9.out) hb); have n1_ := Aside0.mk (below_step (by repeat (first | (with_reducible first | exact HB.out | apply below_alloc | apply pw_below_drewN | apply below_drew1) | exact HB.out)) hb); have n2_ := Aside0.mk (hbox); have n3_ := Aside0.mk ((by rw [hg]; exact (below_size (by repeat (first | (with_reducible first | exact HB.out | apply below_alloc | apply pw_below_drewN | apply below_drew1) | exact HB.out))) : w.heap.size ≤ gb621)); have n4_ := Aside0.mk ((by rw [hg]; exact (below_size (by repeat (first | (with_reducible first | exact HB.out | apply below_alloc | apply pw_below_drewN | apply below_drew1) | exact HB.out))) : w.heap.size ≤ gb621)); clear HO_9; clear HB; have HO_9 := n0_; have HB := n1_; have BK621 := n2_; have GW621 := n3_; have GE621 := n4_; clear n0_ n1_ n2_ n3_ n4_; clear hb hbox hg; have hcz36_0 : w35.cell? ⟨gb621, 0, none⟩ = some (.int .i64 0) := (blk_cell BK621.out 0).trans rfl; have hcz36_1 : w35.cell? ⟨gb621, 1, none⟩ = some (.int .i64 0) := (blk_cell BK621.out 1).trans rfl; have hcz36_2 : w35.cell? ⟨gb621, 2, none⟩ = some (.int .i64 0) := (blk_cell BK621.out 2).trans rfl; have hcz36_3 : w35.cell? ⟨gb621, 3, none⟩ = some (.bool false) := (blk_cell BK621.out 3).trans rfl; have hfz36_0 := blk_frozen BK621.out 0; have hfz36_1 := blk_frozen BK621.out 1; have hfz36_2 := blk_frozen BK621.out 2; have hfz36_3 := blk_frozen BK621.out 3))
                                  repeat (go_quiet (first | (go_at_call 64; (with_reducible refine (history_Find.calls _ _ l0 ((rd_T31 l0 (rd t605 x11_2)).f1) t616 t617 t618 true true _ ?side1 ?side2 A27.out).mono ?_); (case side1 => repeat (first | exact (Kd.C_below HR0.out HB.out) | (with_reducible refine Kd.C_alloc ?_ _) | (with_reducible refine Kd.C_drewN ?_ _) | (with_reducible refine Kd.C_drew ?_))); (case side2 => exact HC0.out); rintro e w34 ⟨rfl, hb⟩; have n0_ := Aside0.mk (Kd.R_below (by (with_reducible repeat (first | apply Kd.R_alloc | apply Kd.R_drewN | apply Kd.R_drew)); exact HO_9.out) hb); have n1_ := Aside0.mk (below_step (by repeat (first | (with_reducible first | exact HB.out | apply below_alloc | apply pw_below_drewN | apply below_drew1) | exact HB.out)) hb); clear HO_9; clear HB; have HO_9 := n0_; have HB := n1_; clear n0_ n1_; (try clear hb); (try clear hb2); (try clear hk); (try clear hi)) | ((with_reducible refine gate_dst (N := 12) rfl ?_); (try (refine gate_guard (by rfl) ?_; dsimp only)); refine box_event ?hg (N := 12) ?hd (cs := #[.int .i64 0, .int .i64 0, .int .i64 0, .bool false]) (t := 33) ?hr ?_; (case hd => rfl); (case hg => rfl); (case hr => first | (go_simp; done) | (go_simp; rfl)); intro gb621 hg w35 hbox hb; have n0_ := Aside0.mk (Kd.R_below (by (with_reducible repeat (first | apply Kd.R_alloc | apply Kd.R_drewN | apply Kd.R_drew)); exact HO_9.out) hb); have n1_ := Aside0.mk (below_step (by repeat (first | (with_reducible first | exact HB.out | apply below_alloc | apply pw_below_drewN | apply below_drew1) | exact HB.out)) hb); have n2_ := Aside0.mk (hbox); have n3_ := Aside0.mk ((by rw [hg]; exact (below_size (by repeat (first | (with_reducible first | exact HB.out | apply below_alloc | apply pw_below_drewN | apply below_drew1) | exact HB.out))) : w.heap.size ≤ gb621)); have n4_ := Aside0.mk ((by rw [hg]; exact (below_size (by repeat (first | (with_reducible first | exact HB.out | apply below_alloc | apply pw_below_drewN | apply below_drew1) | exact HB.out))) : w.heap.size ≤ gb621)); clear HO_9; clear HB; have HO_9 := n0_; have HB := n1_; have BK621 := n2_; have GW621 := n3_; have GE621 := n4_; clear n0_ n1_ n2_ n3_ n4_; clear hb hbox hg; have hcz36_0 : w35.cell? ⟨gb621, 0, none⟩ = some (.int .i64 0) := (blk_cell BK621.out 0).trans rfl; have hcz36_1 : w35.cell? ⟨gb621, 1, none⟩ = some (.int .i64 0) := (blk_cell BK621.out 1).trans rfl; have hcz36_2 : w35.cell? ⟨gb621, 2, none⟩ = some (.int .i64 0) := (blk_cell BK621.out 2).trans rfl; have hcz36_3 : w35.cell? ⟨gb621, 3, none⟩ = some (.bool false) := (blk_cell BK621.out 3).trans rfl; have hfz36_0 := blk_frozen BK621.out 0; have hfz36_1 := blk_frozen BK621.out 1; have hfz36_2 := blk_frozen BK621.out 2; have hfz36_3 := blk_frozen BK621.out 3)); try go_wp2_with (first | (go_at_call 64; (with_reducible refine (history_Find.calls _ _ l0 ((rd_T31 l0 (rd t605 x11_2)).f1) t616 t617 t618 true true _ ?side1 ?side2 A27.out).mono ?_); (case side1 => repeat (first | exact (Kd.C_below HR0.out HB.out) | (with_reducible refine Kd.C_alloc ?_ _) | (with_reducible refine Kd.C_drewN ?_ _) | (with_reducible refine Kd.C_drew ?_))); (case side2 => exact HC0.out); rintro e w34 ⟨rfl, hb⟩; have n0_ := Aside0.mk (Kd.R_below (by (with_reducible repeat (first | apply Kd.R_alloc | apply Kd.R_drewN | apply Kd.R_drew)); exact HO_9.out) hb); have n1_ := Aside0.mk (below_step (by repeat (first | (with_reducible first | exact HB.out | apply below_alloc | apply pw_below_drewN | apply below_drew1) | exact HB.out)) hb); clear HO_9; clear HB; have HO_9 := n0_; have HB := n1_; clear n0_ n1_; (try clear hb); (try clear hb2); (try clear hk); (try clear hi)) | ((with_reducible refine gate_dst (N := 12) rfl ?_); (try (refine gate_guard (by rfl) ?_; dsimp only)); refine box_event ?hg (N := 12) ?hd (cs := #[.int .i64 0, .int .i64 0, .int .i64 0, .bool false]) (t := 33) ?hr ?_; (case hd => rfl); (case hg => rfl); (case hr => first | (go_simp; done) | (go_simp; rfl)); intro gb621 hg w35 hbox hb; have n0_ := Aside0.mk (Kd.R_below (by (with_reducible repeat (first | apply Kd.R_alloc | apply Kd.R_drewN | apply Kd.R_drew)); exact HO_9.out) hb); have n1_ := Aside0.mk (below_step (by repeat (first | (with_reducible first | exact HB.out | apply below_alloc | apply pw_below_drewN | apply below_drew1) | exact HB.out)) hb); have n2_ := Aside0.mk (hbox); have n3_ := Aside0.mk ((by rw [hg]; exact (below_size (by repeat (first | (with_reducible first | exact HB.out | apply below_alloc | apply pw_below_drewN | apply below_drew1) | exact HB.out))) : w.heap.size ≤ gb621)); have n4_ := Aside0.mk ((by rw [hg]; exact (below_size (by repeat (first | (with_reducible first | exact HB.out | apply below_alloc | apply pw_below_drewN | apply below_drew1) | exact HB.out))) : w.heap.size ≤ gb621)); clear HO_9; clear HB; have HO_9 := n0_; have HB := n1_; have BK621 := n2_; have GW621 := n3_; have GE621 := n4_; clear n0_ n1_ n2_ n3_ n4_; clear hb hbox hg; have hcz36_0 : w35.cell? ⟨gb621, 0, none⟩ = some (.int .i64 0) := (blk_cell BK621.out 0).trans rfl; have hcz36_1 : w35.cell? ⟨gb621, 1, none⟩ = some (.int .i64 0) := (blk_cell BK621.out 1).trans rfl; have hcz36_2 : w35.cell? ⟨gb621, 2, none⟩ = some (.int .i64 0) := (blk_cell BK621.out 2).trans rfl; have hcz36_3 : w35.cell? ⟨gb621, 3, none⟩ = some (.bool false) := (blk_cell BK621.out 3).trans rfl; have hfz36_0 := blk_frozen BK621.out 0; have hfz36_1 := blk_frozen BK621.out 1; have hfz36_2 := blk_frozen BK621.out 2; have hfz36_3 := blk_frozen BK621.out 3)))
                                  go_roundg kj13
                                  case measure => have := HJ5.out; have := HK2.out; have := HJ13.out; omega
                                  case rel => exact ⟨(t618), (wrap64 (x11_2 + 1)), (by first | rfl | (simp; done) | (simp [*]; done)), (by first | rfl | (simp; done) | (simp [*]; done)), H', ⟨by have := HJ5.out; have := HK2.out; have := HJ13.out; omega⟩, ⟨by (with_reducible repeat (first | apply Kd.R_alloc | apply Kd.R_drewN | apply Kd.R_drew)); exact Kd.R_mono (Kd.R_far (p := ⟨gb621, 3, none⟩) (Kd.R_far (p := ⟨gb621, 2, none⟩) (Kd.R_far (p := ⟨gb621, 1, none⟩) (Kd.R_far (p := ⟨gb621, 0, none⟩) (Kd.R_types HO_9.out BK621.out (by decide)) (fun _ hk => hk.2) (.int .i64 t616)) (fun _ hk => hk.2) (.int .i64 t617)) (fun _ hk => hk.2) (.int .i64 t618)) (fun _ hk => hk.2) (.bool true)) (fun _ hk => trivial)⟩, ⟨by repeat (first | (with_reducible first | exact HB.out | apply below_alloc | apply pw_below_drewN | apply below_drew1 | refine below_set ?_ GE621.out) | exact HB.out)⟩⟩
                              · replace c29 := Bool.eq_false_iff.mpr c29
                                subst c29
                                have H1 : (some false) = some r := by rw [if_neg (show ¬ (false = true) by decide)] at H; exact H
                                clear H
                                have H := H1
                                clear H1
                                obtain rfl := Option.some.inj H
                                have p614 : 0 ≤ (x11_2 : Int) := of_decide_eq_true (by first | (with_reducible assumption) | assumption)
                                have q614 : x11_2 < (t605.length : Int) := of_decide_eq_true (by first | (with_reducible assumption) | assumption)
                                obtain ⟨ad614, e614, hx614_0⟩ := Kd.at_int (Kd.R_reads' HO_9.out).2.2 x11_2 p614 q614
                                cases e614
                                replace p614 := eq_true p614
                                replace q614 := eq_true q614
                                have p615 : 0 ≤ ((rd t605 x11_2) : Int) := of_decide_eq_true (by first | (with_reducible assumption) | assumption)
                                have q615 : (rd t605 x11_2) < (l0.length : Int) := of_decide_eq_true (by first | (with_reducible assumption) | assumption)
                                obtain ⟨ad615, e615, hx615_0, hx615_1, hx615_2, hx615_3⟩ := at_T31 HR0.out (rd t605 x11_2) p615 q615
                                cases e615
                                replace hx615_0 := (HB.out.cell (World.block_lt_of_cell? w _ hx615_0)).trans hx615_0
                                replace hx615_1 := (HB.out.cell (World.block_lt_of_cell? w _ hx615_1)).trans hx615_1
                                replace hx615_2 := (HB.out.cell (World.block_lt_of_cell? w _ hx615_2)).trans hx615_2
                                replace hx615_3 := (HB.out.cell (World.block_lt_of_cell? w _ hx615_3)).trans hx615_3
                                replace p615 := eq_true p615
                                replace q615 := eq_true q615
                                go_wp2_with (first | (go_at_call 64; (with_reducible refine (history_Find.calls _ _ l0 ((rd_T31 l0 (rd t605 x11_2)).f1) t616 t617 t618 false true _ ?side1 ?side2 A27.out).mono ?_); (case side1 => repeat (first | exact (Kd.C_below HR0.out HB.out) | (with_reducible refine Kd.C_alloc ?_ _) | (with_reducible refine Kd.C_drewN ?_ _) | (with_reducible refine Kd.C_drew ?_))); (case side2 => exact HC0.out); rintro e w37 ⟨rfl, hb⟩; have n0_ := Aside0.mk (Kd.R_below (by (with_reducible repeat (first | apply Kd.R_alloc | apply Kd.R_drewN | apply Kd.R_drew)); exact HO_9.out) hb); have n1_ := Aside0.mk (below_step (by repeat (first | (with_reducible first | exact HB.out | apply below_alloc | apply pw_below_drewN | apply below_drew1) | exact HB.out)) hb); clear HO_9; clear HB; have HO_9 := n0_; have HB := n1_; clear n0_ n1_; (try clear hb); (try clear hb2); (try clear hk); (try clear hi)) | ((with_reducible refine gate_dst (N := 12) rfl ?_); (try (refine gate_guard (by rfl) ?_; dsimp only)); refine box_event ?hg (N := 12) ?hd (cs := #[.int .i64 0, .int .i64 0, .int .i64 0, .bool false]) (t := 33) ?hr ?_; (case hd => rfl); (case hg => rfl); (case hr => first | (go_simp; done) | (go_simp; rfl)); intro gb621 hg w38 hbox hb; have n0_ := Aside0.mk (Kd.R_below (by (with_reducible repeat (first | apply Kd.R_alloc | apply Kd.R_drewN | apply Kd.R_drew)); exact HO_9.out) hb); have n1_ := Aside0.mk (below_step (by repeat (first | (with_reducible first | exact HB.out | apply below_alloc | apply pw_below_drewN | apply below_drew1) | exact HB.out)) hb); have n2_ := Aside0.mk (hbox); have n3_ := Aside0.mk ((by rw [hg]; exact (below_size (by repeat (first | (with_reducible first | exact HB.out | apply below_alloc | apply pw_below_drewN | apply below_drew1) | exact HB.out))) : w.heap.size ≤ gb621)); have n4_ := Aside0.mk ((by rw [hg]; exact (below_size (by repeat (first | (with_reducible first | exact HB.out | apply below_alloc | apply pw_below_drewN | apply below_drew1) | exact HB.out))) : w.heap.size ≤ gb621)); clear HO_9; clear HB; have HO_9 := n0_; have HB := n1_; have BK621 := n2_; have GW621 := n3_; have GE621 := n4_; clear n0_ n1_ n2_ n3_ n4_; clear hb hbox hg; have hcz39_0 : w38.cell? ⟨gb621, 0, none⟩ = some (.int .i64 0) := (blk_cell BK621.out 0).trans rfl; have hcz39_1 : w38.cell? ⟨gb621, 1, none⟩ = some (.int .i64 0) := (blk_cell BK621.out 1).trans rfl; have hcz39_2 : w38.cell? ⟨gb621, 2, none⟩ = some (.int .i64 0) := (blk_cell BK621.out 2).trans rfl; have hcz39_3 : w38.cell? ⟨gb621, 3, none⟩ = some (.bool false) := (blk_cell BK621.out 3).trans rfl; have hfz39_0 := blk_frozen BK621.out 0; have hfz39_1 := blk_frozen BK621.out 1; have hfz39_2 := blk_frozen BK621.out 2; have hfz39_3 := blk_frozen BK621.out 3))
                                repeat (go_quiet (first | (go_at_call 64; (with_reducible refine (history_Find.calls _ _ l0 ((rd_T31 l0 (rd t605 x11_2)).f1) t616 t617 t618 false true _ ?side1 ?side2 A27.out).mono ?_); (case side1 => repeat (first | exact (Kd.C_below HR0.out HB.out) | (with_reducible refine Kd.C_alloc ?_ _) | (with_reducible refine Kd.C_drewN ?_ _) | (with_reducible refine Kd.C_drew ?_))); (case side2 => exact HC0.out); rintro e w37 ⟨rfl, hb⟩; have n0_ := Aside0.mk (Kd.R_below (by (with_reducible repeat (first | apply Kd.R_alloc | apply Kd.R_drewN | apply Kd.R_drew)); exact HO_9.out) hb); have n1_ := Aside0.mk (below_step (by repeat (first | (with_reducible first | exact HB.out | apply below_alloc | apply pw_below_drewN | apply below_drew1) | exact HB.out)) hb); clear HO_9; clear HB; have HO_9 := n0_; have HB := n1_; clear n0_ n1_; (try clear hb); (try clear hb2); (try clear hk); (try clear hi)) | ((with_reducible refine gate_dst (N := 12) rfl ?_); (try (refine gate_guard (by rfl) ?_; dsimp only)); refine box_event ?hg (N := 12) ?hd (cs := #[.int .i64 0, .int .i64 0, .int .i64 0, .bool false]) (t := 33) ?hr ?_; (case hd => rfl); (case hg => rfl); (case hr => first | (go_simp; done) | (go_simp; rfl)); intro gb621 hg w38 hbox hb; have n0_ := Aside0.mk (Kd.R_below (by (with_reducible repeat (first | apply Kd.R_alloc | apply Kd.R_drewN | apply Kd.R_drew)); exact HO_9.out) hb); have n1_ := Aside0.mk (below_step (by repeat (first | (with_reducible first | exact HB.out | apply below_alloc | apply pw_below_drewN | apply below_drew1) | exact HB.out)) hb); have n2_ := Aside0.mk (hbox); have n3_ := Aside0.mk ((by rw [hg]; exact (below_size (by repeat (first | (with_reducible first | exact HB.out | apply below_alloc | apply pw_below_drewN | apply below_drew1) | exact HB.out))) : w.heap.size ≤ gb621)); have n4_ := Aside0.mk ((by rw [hg]; exact (below_size (by repeat (first | (with_reducible first | exact HB.out | apply below_alloc | apply pw_below_drewN | apply below_drew1) | exact HB.out))) : w.heap.size ≤ gb621)); clear HO_9; clear HB; have HO_9 := n0_; have HB := n1_; have BK621 := n2_; have GW621 := n3_; have GE621 := n4_; clear n0_ n1_ n2_ n3_ n4_; clear hb hbox hg; have hcz39_0 : w38.cell? ⟨gb621, 0, none⟩ = some (.int .i64 0) := (blk_cell BK621.out 0).trans rfl; have hcz39_1 : w38.cell? ⟨gb621, 1, none⟩ = some (.int .i64 0) := (blk_cell BK621.out 1).trans rfl; have hcz39_2 : w38.cell? ⟨gb621, 2, none⟩ = some (.int .i64 0) := (blk_cell BK621.out 2).trans rfl; have hcz39_3 : w38.cell? ⟨gb621, 3, none⟩ = some (.bool false) := (blk_cell BK621.out 3).trans rfl; have hfz39_0 := blk_frozen BK621.out 0; have hfz39_1 := blk_frozen BK621.out 1; have hfz39_2 := blk_frozen BK621.out 2; have hfz39_3 := blk_frozen BK621.out 3)); try go_wp2_with (first | (go_at_call 64; (with_reducible refine (history_Find.calls _ _ l0 ((rd_T31 l0 (rd t605 x11_2)).f1) t616 t617 t618 false true _ ?side1 ?side2 A27.out).mono ?_); (case side1 => repeat (first | exact (Kd.C_below HR0.out HB.out) | (with_reducible refine Kd.C_alloc ?_ _) | (with_reducible refine Kd.C_drewN ?_ _) | (with_reducible refine Kd.C_drew ?_))); (case side2 => exact HC0.out); rintro e w37 ⟨rfl, hb⟩; have n0_ := Aside0.mk (Kd.R_below (by (with_reducible repeat (first | apply Kd.R_alloc | apply Kd.R_drewN | apply Kd.R_drew)); exact HO_9.out) hb); have n1_ := Aside0.mk (below_step (by repeat (first | (with_reducible first | exact HB.out | apply below_alloc | apply pw_below_drewN | apply below_drew1) | exact HB.out)) hb); clear HO_9; clear HB; have HO_9 := n0_; have HB := n1_; clear n0_ n1_; (try clear hb); (try clear hb2); (try clear hk); (try clear hi)) | ((with_reducible refine gate_dst (N := 12) rfl ?_); (try (refine gate_guard (by rfl) ?_; dsimp only)); refine box_event ?hg (N := 12) ?hd (cs := #[.int .i64 0, .int .i64 0, .int .i64 0, .bool false]) (t := 33) ?hr ?_; (case hd => rfl); (case hg => rfl); (case hr => first | (go_simp; done) | (go_simp; rfl)); intro gb621 hg w38 hbox hb; have n0_ := Aside0.mk (Kd.R_below (by (with_reducible repeat (first | apply Kd.R_alloc | apply Kd.R_drewN | apply Kd.R_drew)); exact HO_9.out) hb); have n1_ := Aside0.mk (below_step (by repeat (first | (with_reducible first | exact HB.out | apply below_alloc | apply pw_below_drewN | apply below_drew1) | exact HB.out)) hb); have n2_ := Aside0.mk (hbox); have n3_ := Aside0.mk ((by rw [hg]; exact (below_size (by repeat (first | (with_reducible first | exact HB.out | apply below_alloc | apply pw_below_drewN | apply below_drew1) | exact HB.out))) : w.heap.size ≤ gb621)); have n4_ := Aside0.mk ((by rw [hg]; exact (below_size (by repeat (first | (with_reducible first | exact HB.out | apply below_alloc | apply pw_below_drewN | apply below_drew1) | exact HB.out))) : w.heap.size ≤ gb621)); clear HO_9; clear HB; have HO_9 := n0_; have HB := n1_; have BK621 := n2_; have GW621 := n3_; have GE621 := n4_; clear n0_ n1_ n2_ n3_ n4_; clear hb hbox hg; have hcz39_0 : w38.cell? ⟨gb621, 0, none⟩ = some (.int .i64 0) := (blk_cell BK621.out 0).trans rfl; have hcz39_1 : w38.cell? ⟨gb621, 1, none⟩ = some (.int .i64 0) := (blk_cell BK621.out 1).trans rfl; have hcz39_2 : w38.cell? ⟨gb621, 2, none⟩ = some (.int .i64 0) := (blk_cell BK621.out 2).trans rfl; have hcz39_3 : w38.cell? ⟨gb621, 3, none⟩ = some (.bool false) := (blk_cell BK621.out 3).trans rfl; have hfz39_0 := blk_frozen BK621.out 0; have hfz39_1 := blk_frozen BK621.out 1; have hfz39_2 := blk_frozen BK621.out 2; have hfz39_3 := blk_frozen BK621.out 3)))
                                go_ret
                                exact ⟨by first | rfl | (simp [errW_none, errW_some] <;> rfl) | (simp [*, errW_none, errW_some] <;> rfl), by repeat (first | (with_reducible first | exact HB.out | apply below_alloc | apply pw_below_drewN | apply below_drew1 | refine below_set ?_ GE621.out) | exact HB.out)⟩
                            · replace c28 := Bool.eq_false_iff.mpr c28
                              subst c28
                              have H1 : (some false) = some r := by rw [if_neg (show ¬ (false = true) by decide)] at H; exact H
                              clear H
                              have H := H1
                              clear H1
                              obtain rfl := Option.some.inj H
                              have p614 : 0 ≤ (x11_2 : Int) := of_decide_eq_true (by first | (with_reducible assumption) | assumption)
                              have q614 : x11_2 < (t605.length : Int) := of_decide_eq_true (by first | (with_reducible assumption) | assumption)
                              obtain ⟨ad614, e614, hx614_0⟩ := Kd.at_int (Kd.R_reads' HO_9.out).2.2 x11_2 p614 q614
                              cases e614
                              replace p614 := eq_true p614
                              replace q614 := eq_true q614
                              have p615 : 0 ≤ ((rd t605 x11_2) : Int) := of_decide_eq_true (by first | (with_reducible assumption) | assumption)
                              have q615 : (rd t605 x11_2) < (l0.length : Int) := of_decide_eq_true (by first | (with_reducible assumption) | assumption)
                              obtain ⟨ad615, e615, hx615_0, hx615_1, hx615_2, hx615_3⟩ := at_T31 HR0.out (rd t605 x11_2) p615 q615
                              cases e615
                              replace hx615_0 := (HB.out.cell (World.block_lt_of_cell? w _ hx615_0)).trans hx615_0
                              replace hx615_1 := (HB.out.cell (World.block_lt_of_cell? w _ hx615_1)).trans hx615_1
                              replace hx615_2 := (HB.out.cell (World.block_lt_of_cell? w _ hx615_2)).trans hx615_2
                              replace hx615_3 := (HB.out.cell (World.block_lt_of_cell? w _ hx615_3)).trans hx615_3
                              replace p615 := eq_true p615
                              replace q615 := eq_true q615
                              go_wp2_with (first | (go_at_call 64; (with_reducible refine (history_Find.calls _ _ l0 ((rd_T31 l0 (rd t605 x11_2)).f1) t616 t617 t618 t619 false _ ?side1 ?side2 A27.out).mono ?_); (case side1 => repeat (first | exact (Kd.C_below HR0.out HB.out) | (with_reducible refine Kd.C_alloc ?_ _) | (with_reducible refine Kd.C_drewN ?_ _) | (with_reducible refine Kd.C_drew ?_))); (case side2 => exact HC0.out); rintro e w40 ⟨rfl, hb⟩; have n0_ := Aside0.mk (Kd.R_below (by (with_reducible repeat (first | apply Kd.R_alloc | apply Kd.R_drewN | apply Kd.R_drew)); exact HO_9.out) hb); have n1_ := Aside0.mk (below_step (by repeat (first | (with_reducible first | exact HB.out | apply below_alloc | apply pw_below_drewN | apply below_drew1) | exact HB.out)) hb); clear HO_9; clear HB; have HO_9 := n0_; have HB := n1_; clear n0_ n1_; (try clear hb); (try clear hb2); (try clear hk); (try clear hi)) | ((with_reducible refine gate_dst (N := 12) rfl ?_); (try (refine gate_guard (by rfl) ?_; dsimp only)); refine box_event ?hg (N := 12) ?hd (cs := #[.int .i64 0, .int .i64 0, .int .i64 0, .bool false]) (t := 33) ?hr ?_; (case hd => rfl); (case hg => rfl); (case hr => first | (go_simp; done) | (go_simp; rfl)); intro gb621 hg w41 hbox hb; have n0_ := Aside0.mk (Kd.R_below (by (with_reducible repeat (first | apply Kd.R_alloc | apply Kd.R_drewN | apply Kd.R_drew)); exact HO_9.out) hb); have n1_ := Aside0.mk (below_step (by repeat (first | (with_reducible first | exact HB.out | apply below_alloc | apply pw_below_drewN | apply below_drew1) | exact HB.out)) hb); have n2_ := Aside0.mk (hbox); have n3_ := Aside0.mk ((by rw [hg]; exact (below_size (by repeat (first | (with_reducible first | exact HB.out | apply below_alloc | apply pw_below_drewN | apply below_drew1) | exact HB.out))) : w.heap.size ≤ gb621)); have n4_ := Aside0.mk ((by rw [hg]; exact (below_size (by repeat (first | (with_reducible first | exact HB.out | apply below_alloc | apply pw_below_drewN | apply below_drew1) | exact HB.out))) : w.heap.size ≤ gb621)); clear HO_9; clear HB; have HO_9 := n0_; have HB := n1_; have BK621 := n2_; have GW621 := n3_; have GE621 := n4_; clear n0_ n1_ n2_ n3_ n4_; clear hb hbox hg; have hcz42_0 : w41.cell? ⟨gb621, 0, none⟩ = some (.int .i64 0) := (blk_cell BK621.out 0).trans rfl; have hcz42_1 : w41.cell? ⟨gb621, 1, none⟩ = some (.int .i64 0) := (blk_cell BK621.out 1).trans rfl; have hcz42_2 : w41.cell? ⟨gb621, 2, none⟩ = some (.int .i64 0) := (blk_cell BK621.out 2).trans rfl; have hcz42_3 : w41.cell? ⟨gb621, 3, none⟩ = some (.bool false) := (blk_cell BK621.out 3).trans rfl; have hfz42_0 := blk_frozen BK621.out 0; have hfz42_1 := blk_frozen BK621.out 1; have hfz42_2 := blk_frozen BK621.out 2; have hfz42_3 := blk_frozen BK621.out 3))
                              repeat (go_quiet (first | (go_at_call 64; (with_reducible refine (history_Find.calls _ _ l0 ((rd_T31 l0 (rd t605 x11_2)).f1) t616 t617 t618 t619 false _ ?side1 ?side2 A27.out).mono ?_); (case side1 => repeat (first | exact (Kd.C_below HR0.out HB.out) | (with_reducible refine Kd.C_alloc ?_ _) | (with_reducible refine Kd.C_drewN ?_ _) | (with_reducible refine Kd.C_drew ?_))); (case side2 => exact HC0.out); rintro e w40 ⟨rfl, hb⟩; have n0_ := Aside0.mk (Kd.R_below (by (with_reducible repeat (first | apply Kd.R_alloc | apply Kd.R_drewN | apply Kd.R_drew)); exact HO_9.out) hb); have n1_ := Aside0.mk (below_step (by repeat (first | (with_reducible first | exact HB.out | apply below_alloc | apply pw_below_drewN | apply below_drew1) | exact HB.out)) hb); clear HO_9; clear HB; have HO_9 := n0_; have HB := n1_; clear n0_ n1_; (try clear hb); (try clear hb2); (try clear hk); (try clear hi)) | ((with_reducible refine gate_dst (N := 12) rfl ?_); (try (refine gate_guard (by rfl) ?_; dsimp only)); refine box_event ?hg (N := 12) ?hd (cs := #[.int .i64 0, .int .i64 0, .int .i64 0, .bool false]) (t := 33) ?hr ?_; (case hd => rfl); (case hg => rfl); (case hr => first | (go_simp; done) | (go_simp; rfl)); intro gb621 hg w41 hbox hb; have n0_ := Aside0.mk (Kd.R_below (by (with_reducible repeat (first | apply Kd.R_alloc | apply Kd.R_drewN | apply Kd.R_drew)); exact HO_9.out) hb); have n1_ := Aside0.mk (below_step (by repeat (first | (with_reducible first | exact HB.out | apply below_alloc | apply pw_below_drewN | apply below_drew1) | exact HB.out)) hb); have n2_ := Aside0.mk (hbox); have n3_ := Aside0.mk ((by rw [hg]; exact (below_size (by repeat (first | (with_reducible first | exact HB.out | apply below_alloc | apply pw_below_drewN | apply below_drew1) | exact HB.out))) : w.heap.size ≤ gb621)); have n4_ := Aside0.mk ((by rw [hg]; exact (below_size (by repeat (first | (with_reducible first | exact HB.out | apply below_alloc | apply pw_below_drewN | apply below_drew1) | exact HB.out))) : w.heap.size ≤ gb621)); clear HO_9; clear HB; have HO_9 := n0_; have HB := n1_; have BK621 := n2_; have GW621 := n3_; have GE621 := n4_; clear n0_ n1_ n2_ n3_ n4_; clear hb hbox hg; have hcz42_0 : w41.cell? ⟨gb621, 0, none⟩ = some (.int .i64 0) := (blk_cell BK621.out 0).trans rfl; have hcz42_1 : w41.cell? ⟨gb621, 1, none⟩ = some (.int .i64 0) := (blk_cell BK621.out 1).trans rfl; have hcz42_2 : w41.cell? ⟨gb621, 2, none⟩ = some (.int .i64 0) := (blk_cell BK621.out 2).trans rfl; have hcz42_3 : w41.cell? ⟨gb621, 3, none⟩ = some (.bool false) := (blk_cell BK621.out 3).trans rfl; have hfz42_0 := blk_frozen BK621.out 0; have hfz42_1 := blk_frozen BK621.out 1; have hfz42_2 := blk_frozen BK621.out 2; have hfz42_3 := blk_frozen BK621.out 3)); try go_wp2_with (first | (go_at_call 64; (with_reducible refine (history_Find.calls _ _ l0 ((rd_T31 l0 (rd t605 x11_2)).f1) t616 t617 t618 t619 false _ ?side1 ?side2 A27.out).mono ?_); (case side1 => repeat (first | exact (Kd.C_below HR0.out HB.out) | (with_reducible refine Kd.C_alloc ?_ _) | (with_reducible refine Kd.C_drewN ?_ _) | (with_reducible refine Kd.C_drew ?_))); (case side2 => exact HC0.out); rintro e w40 ⟨rfl, hb⟩; have n0_ := Aside0.mk (Kd.R_below (by (with_reducible repeat (first | apply Kd.R_alloc | apply Kd.R_drewN | apply Kd.R_drew)); exact HO_9.out) hb); have n1_ := Aside0.mk (below_step (by repeat (first | (with_reducible first | exact HB.out | apply below_alloc | apply pw_below_drewN | apply below_drew1) | exact HB.out)) hb); clear HO_9; clear HB; have HO_9 := n0_; have HB := n1_; clear n0_ n1_; (try clear hb); (try clear hb2); (try clear hk); (try clear hi)) | ((with_reducible refine gate_dst (N := 12) rfl ?_); (try (refine gate_guard (by rfl) ?_; dsimp only)); refine box_event ?hg (N := 12) ?hd (cs := #[.int .i64 0, .int .i64 0, .int .i64 0, .bool false]) (t := 33) ?hr ?_; (case hd => rfl); (case hg => rfl); (case hr => first | (go_simp; done) | (go_simp; rfl)); intro gb621 hg w41 hbox hb; have n0_ := Aside0.mk (Kd.R_below (by (with_reducible repeat (first | apply Kd.R_alloc | apply Kd.R_drewN | apply Kd.R_drew)); exact HO_9.out) hb); have n1_ := Aside0.mk (below_step (by repeat (first | (with_reducible first | exact HB.out | apply below_alloc | apply pw_below_drewN | apply below_drew1) | exact HB.out)) hb); have n2_ := Aside0.mk (hbox); have n3_ := Aside0.mk ((by rw [hg]; exact (below_size (by repeat (first | (with_reducible first | exact HB.out | apply below_alloc | apply pw_below_drewN | apply below_drew1) | exact HB.out))) : w.heap.size ≤ gb621)); have n4_ := Aside0.mk ((by rw [hg]; exact (below_size (by repeat (first | (with_reducible first | exact HB.out | apply below_alloc | apply pw_below_drewN | apply below_drew1) | exact HB.out))) : w.heap.size ≤ gb621)); clear HO_9; clear HB; have HO_9 := n0_; have HB := n1_; have BK621 := n2_; have GW621 := n3_; have GE621 := n4_; clear n0_ n1_ n2_ n3_ n4_; clear hb hbox hg; have hcz42_0 : w41.cell? ⟨gb621, 0, none⟩ = some (.int .i64 0) := (blk_cell BK621.out 0).trans rfl; have hcz42_1 : w41.cell? ⟨gb621, 1, none⟩ = some (.int .i64 0) := (blk_cell BK621.out 1).trans rfl; have hcz42_2 : w41.cell? ⟨gb621, 2, none⟩ = some (.int .i64 0) := (blk_cell BK621.out 2).trans rfl; have hcz42_3 : w41.cell? ⟨gb621, 3, none⟩ = some (.bool false) := (blk_cell BK621.out 3).trans rfl; have hfz42_0 := blk_frozen BK621.out 0; have hfz42_1 := blk_frozen BK621.out 1; have hfz42_2 := blk_frozen BK621.out 2; have hfz42_3 := blk_frozen BK621.out 3)))
                              go_ret
                              exact ⟨by first | rfl | (simp [errW_none, errW_some] <;> rfl) | (simp [*, errW_none, errW_some] <;> rfl), by repeat (first | (with_reducible first | exact HB.out | apply below_alloc | apply pw_below_drewN | apply below_drew1 | refine below_set ?_ GE621.out) | exact HB.out)⟩
                          · rw [if_neg c26] at H
                            exact absurd H (by simp)
                        · rw [if_neg c25] at H
                          exact absurd H (by simp)
                      · rw [if_neg c24] at H
                        exact absurd H (by simp)
                    · rw [if_neg c23] at H
                      exact absurd H (by simp)
            · rw [if_neg c13] at H
              have c13b0 : decide (x11_2 < (t605.length : Int)) = false := decide_eq_false c13
              clear c13
              have H' := Aside0.mk H
              clear H
              obtain ⟨Ao43, co43, eo43⟩ := Kd.R_slice HO_9.out
              subst eo43
              go_wp2
              repeat (go_quiet (fail); try go_wp2)
              go_loopg [14] k2 (fun kq v14 w' => ∃ (x14_3 : Int), v14 = .int .i64 x14_3 ∧ Aside0 (cartouchelaw08_HistoryVersions.l1 kq l0 a1 t601 t605 x14_3 = some r) ∧ Aside0 (kq ≤ k2) ∧ Aside0 (Kd.R (Kd.int .i64) 3 w' w.heap.size (fun _ => True) (.slice Ao43 t605.length co43) t605) ∧ Aside0 (Below w.heap.size w w'))
              case atStart => exact ⟨(0), (by first | rfl | (simp; done) | (simp [*]; done)), H', ⟨Nat.le_refl _⟩, ⟨by (with_reducible repeat (first | apply Kd.R_alloc | apply Kd.R_drewN | apply Kd.R_drew)); exact HO_9.out⟩, ⟨by repeat (first | (with_reducible first | exact HB.out | apply below_alloc | apply pw_below_drewN | apply below_drew1) | exact HB.out)⟩⟩
              case round =>
                clear H'
                try clear c1
                try clear c2
                try clear p2
                try clear c3
                try clear p6
                try clear q6
                try clear hx6
                try clear c9
                try clear c10
                try clear c13
                try clear c13b0
                try clear c16
                try clear c16b0
                try clear c17
                try clear c17b0
                try clear c18
                try clear c18b0
                try clear c19
                try clear c19b0
                try clear c20
                try clear c20b0
                try clear c21
                try clear c21b0
                try clear c21b1
                try clear c22
                try clear c23
                try clear c23b0
                try clear c24
                try clear c24b0
                try clear c25
                try clear c25b0
                try clear c26
                try clear c26b0
                try clear c28
                try clear c29
                try clear c30
                try clear c30b0
                try clear hcz33_0
                try clear hcz33_1
                try clear hcz33_2
                try clear hcz33_3
                try clear hcz36_0
                try clear hcz36_1
                try clear hcz36_2
                try clear hcz36_3
                try clear hcz39_0
                try clear hcz39_1
                try clear hcz39_2
                try clear hcz39_3
                try clear hcz42_0
                try clear hcz42_1
                try clear hcz42_2
                try clear hcz42_3
                try clear hfz33_0
                try clear hfz33_1
                try clear hfz33_2
                try clear hfz33_3
                try clear hfz36_0
                try clear hfz36_1
                try clear hfz36_2
                try clear hfz36_3
                try clear hfz39_0
                try clear hfz39_1
                try clear hfz39_2
                try clear hfz39_3
                try clear hfz42_0
                try clear hfz42_1
                try clear hfz42_2
                try clear hfz42_3
                try clear hx608_0
                try clear hx609_0
                try clear hx610_0
                try clear hx611_0
                try clear hx611_1
                try clear hx611_2
                try clear hx611_3
                try clear hx612_0
                try clear hx613_0
                try clear hx613_1
                try clear hx613_2
                try clear hx613_3
                try clear hx614_0
                try clear hx615_0
                try clear hx615_1
                try clear hx615_2
                try clear hx615_3
                try clear p2
                try clear p6
                try clear p608
                try clear p609
                try clear p610
                try clear p611
                try clear p612
                try clear p613
                try clear p614
                try clear p615
                try clear q6
                try clear q608
                try clear q609
                try clear q610
                try clear q611
                try clear q612
                try clear q613
                try clear q614
                try clear q615
                obtain ⟨x14_3, rfl, HA, HK3, HO_9, HB⟩ := hrel
                cases gk with
                | zero => exact absurd HA.out (by simp [cartouchelaw08_HistoryVersions.l1])
                | succ k3 =>
                  have H := HA.out
                  clear HA
                  simp only [cartouchelaw08_HistoryVersions.l1] at H
                  by_cases c44 : x14_3 < (l0.length : Int)
                  · rw [if_pos c44] at H
                    have c44b0 : decide (x14_3 < (l0.length : Int)) = true := decide_eq_true c44
                    clear c44
                    by_cases c45 : 0 ≤ x14_3
                    · rw [if_pos c45] at H
                      have c45b0 : decide (0 ≤ x14_3) = true := decide_eq_true c45
                      clear c45
                      replace H := Option.bind_eq_some_iff.mp H
                      obtain ⟨⟨t623, t624, t625, t626, t627⟩, A460, H⟩ := H
                      replace H : (if ((rd_T31 l0 x14_3).f0) = 3 then (if ((rd_T31 l0 x14_3).f2).toList = a1.toList then (cartouchelaw08_HistoryVersions.j4 k3 l0 a1 t601 t605 x14_3 (!t626)) else (cartouchelaw08_HistoryVersions.j4 k3 l0 a1 t601 t605 x14_3 true)) else (cartouchelaw08_HistoryVersions.j4 k3 l0 a1 t601 t605 x14_3 true)) = some r := H
                      have A46 := Aside0.mk A460
                      clear A460
                      have HC47 := Aside0.mk H
                      clear H
                      have p622 : 0 ≤ (x14_3 : Int) := of_decide_eq_true (by first | (with_reducible assumption) | assumption)
                      have q622 : x14_3 < (l0.length : Int) := of_decide_eq_true (by first | (with_reducible assumption) | assumption)
                      obtain ⟨ad622, e622, hx622_0, hx622_1, hx622_2, hx622_3⟩ := at_T31 HR0.out x14_3 p622 q622
                      cases e622
                      replace hx622_0 := (HB.out.cell (World.block_lt_of_cell? w _ hx622_0)).trans hx622_0
                      replace hx622_1 := (HB.out.cell (World.block_lt_of_cell? w _ hx622_1)).trans hx622_1
                      replace hx622_2 := (HB.out.cell (World.block_lt_of_cell? w _ hx622_2)).trans hx622_2
                      replace hx622_3 := (HB.out.cell (World.block_lt_of_cell? w _ hx622_3)).trans hx622_3
                      replace p622 := eq_true p622
                      replace q622 := eq_true q622
                      go_upto_region 21 with (first | (go_at_call 64; (with_reducible refine (history_Find.calls _ _ l0 ((rd_T31 l0 x14_3).f1) t623 t624 t625 t626 t627 _ ?side1 ?side2 A46.out).mono ?_); (case side1 => repeat (first | exact (Kd.C_below HR0.out HB.out) | (with_reducible refine Kd.C_alloc ?_ _) | (with_reducible refine Kd.C_drewN ?_ _) | (with_reducible refine Kd.C_drew ?_))); (case side2 => exact HC0.out); rintro e w48 ⟨rfl, hb⟩; have n0_ := Aside0.mk (Kd.R_below (by (with_reducible repeat (first | apply Kd.R_alloc | apply Kd.R_drewN | apply Kd.R_drew)); exact HO_9.out) hb); have n1_ := Aside0.mk (below_step (by repeat (first | (with_reducible first | exact HB.out | apply below_alloc | apply pw_below_drewN | apply below_drew1) | exact HB.out)) hb); clear HO_9; clear HB; have HO_9 := n0_; have HB := n1_; clear n0_ n1_; (try clear hb); (try clear hb2); (try clear hk); (try clear hi)) | ((with_reducible refine gate_dst (N := 15) rfl ?_); (try (refine gate_guard (by rfl) ?_; dsimp only)); refine box_event ?hg (N := 15) ?hd (cs := #[.int .i64 0, .int .i64 0, .int .i64 0, .bool false]) (t := 33) ?hr ?_; (case hd => rfl); (case hg => rfl); (case hr => first | (go_simp; done) | (go_simp; rfl)); intro gb628 hg w49 hbox hb; have n0_ := Aside0.mk (Kd.R_below (by (with_reducible repeat (first | apply Kd.R_alloc | apply Kd.R_drewN | apply Kd.R_drew)); exact HO_9.out) hb); have n1_ := Aside0.mk (below_step (by repeat (first | (with_reducible first | exact HB.out | apply below_alloc | apply pw_below_drewN | apply below_drew1) | exact HB.out)) hb); have n2_ := Aside0.mk (hbox); have n3_ := Aside0.mk ((by rw [hg]; exact (below_size (by repeat (first | (with_reducible first | exact HB.out | apply below_alloc | apply pw_below_drewN | apply below_drew1) | exact HB.out))) : w.heap.size ≤ gb628)); have n4_ := Aside0.mk ((by rw [hg]; exact (below_size (by repeat (first | (with_reducible first | exact HB.out | apply below_alloc | apply pw_below_drewN | apply below_drew1) | exact HB.out))) : w.heap.size ≤ gb628)); clear HO_9; clear HB; have HO_9 := n0_; have HB := n1_; have BK628 := n2_; have GW628 := n3_; have GE628 := n4_; clear n0_ n1_ n2_ n3_ n4_; clear hb hbox hg; have hcz50_0 : w49.cell? ⟨gb628, 0, none⟩ = some (.int .i64 0) := (blk_cell BK628.out 0).trans rfl; have hcz50_1 : w49.cell? ⟨gb628, 1, none⟩ = some (.int .i64 0) := (blk_cell BK628.out 1).trans rfl; have hcz50_2 : w49.cell? ⟨gb628, 2, none⟩ = some (.int .i64 0) := (blk_cell BK628.out 2).trans rfl; have hcz50_3 : w49.cell? ⟨gb628, 3, none⟩ = some (.bool false) := (blk_cell BK628.out 3).trans rfl; have hfz50_0 := blk_frozen BK628.out 0; have hfz50_1 := blk_frozen BK628.out 1; have hfz50_2 := blk_frozen BK628.out 2; have hfz50_3 := blk_frozen BK628.out 3))
                      repeat (go_quiet (first | (go_at_call 64; (with_reducible refine (history_Find.calls _ _ l0 ((rd_T31 l0 x14_3).f1) t623 t624 t625 t626 t627 _ ?side1 ?side2 A46.out).mono ?_); (case side1 => repeat (first | exact (Kd.C_below HR0.out HB.out) | (with_reducible refine Kd.C_alloc ?_ _) | (with_reducible refine Kd.C_drewN ?_ _) | (with_reducible refine Kd.C_drew ?_))); (case side2 => exact HC0.out); rintro e w48 ⟨rfl, hb⟩; have n0_ := Aside0.mk (Kd.R_below (by (with_reducible repeat (first | apply Kd.R_alloc | apply Kd.R_drewN | apply Kd.R_drew)); exact HO_9.out) hb); have n1_ := Aside0.mk (below_step (by repeat (first | (with_reducible first | exact HB.out | apply below_alloc | apply pw_below_drewN | apply below_drew1) | exact HB.out)) hb); clear HO_9; clear HB; have HO_9 := n0_; have HB := n1_; clear n0_ n1_; (try clear hb); (try clear hb2); (try clear hk); (try clear hi)) | ((with_reducible refine gate_dst (N := 15) rfl ?_); (try (refine gate_guard (by rfl) ?_; dsimp only)); refine box_event ?hg (N := 15) ?hd (cs := #[.int .i64 0, .int .i64 0, .int .i64 0, .bool false]) (t := 33) ?hr ?_; (case hd => rfl); (case hg => rfl); (case hr => first | (go_simp; done) | (go_simp; rfl)); intro gb628 hg w49 hbox hb; have n0_ := Aside0.mk (Kd.R_below (by (with_reducible repeat (first | apply Kd.R_alloc | apply Kd.R_drewN | apply Kd.R_drew)); exact HO_9.out) hb); have n1_ := Aside0.mk (below_step (by repeat (first | (with_reducible first | exact HB.out | apply below_alloc | apply pw_below_drewN | apply below_drew1) | exact HB.out)) hb); have n2_ := Aside0.mk (hbox); have n3_ := Aside0.mk ((by rw [hg]; exact (below_size (by repeat (first | (with_reducible first | exact HB.out | apply below_alloc | apply pw_below_drewN | apply below_drew1) | exact HB.out))) : w.heap.size ≤ gb628)); have n4_ := Aside0.mk ((by rw [hg]; exact (below_size (by repeat (first | (with_reducible first | exact HB.out | apply below_alloc | apply pw_below_drewN | apply below_drew1) | exact HB.out))) : w.heap.size ≤ gb628)); clear HO_9; clear HB; have HO_9 := n0_; have HB := n1_; have BK628 := n2_; have GW628 := n3_; have GE628 := n4_; clear n0_ n1_ n2_ n3_ n4_; clear hb hbox hg; have hcz50_0 : w49.cell? ⟨gb628, 0, none⟩ = some (.int .i64 0) := (blk_cell BK628.out 0).trans rfl; have hcz50_1 : w49.cell? ⟨gb628, 1, none⟩ = some (.int .i64 0) := (blk_cell BK628.out 1).trans rfl; have hcz50_2 : w49.cell? ⟨gb628, 2, none⟩ = some (.int .i64 0) := (blk_cell BK628.out 2).trans rfl; have hcz50_3 : w49.cell? ⟨gb628, 3, none⟩ = some (.bool false) := (blk_cell BK628.out 3).trans rfl; have hfz50_0 := blk_frozen BK628.out 0; have hfz50_1 := blk_frozen BK628.out 1; have hfz50_2 := blk_frozen BK628.out 2; have hfz50_3 := blk_frozen BK628.out 3)); go_upto_region 21 with (first | (go_at_call 64; (with_reducible refine (history_Find.calls _ _ l0 ((rd_T31 l0 x14_3).f1) t623 t624 t625 t626 t627 _ ?side1 ?side2 A46.out).mono ?_); (case side1 => repeat (first | exact (Kd.C_below HR0.out HB.out) | (with_reducible refine Kd.C_alloc ?_ _) | (with_reducible refine Kd.C_drewN ?_ _) | (with_reducible refine Kd.C_drew ?_))); (case side2 => exact HC0.out); rintro e w48 ⟨rfl, hb⟩; have n0_ := Aside0.mk (Kd.R_below (by (with_reducible repeat (first | apply Kd.R_alloc | apply Kd.R_drewN | apply Kd.R_drew)); exact HO_9.out) hb); have n1_ := Aside0.mk (below_step (by repeat (first | (with_reducible first | exact HB.out | apply below_alloc | apply pw_below_drewN | apply below_drew1) | exact HB.out)) hb); clear HO_9; clear HB; have HO_9 := n0_; have HB := n1_; clear n0_ n1_; (try clear hb); (try clear hb2); (try clear hk); (try clear hi)) | ((with_reducible refine gate_dst (N := 15) rfl ?_); (try (refine gate_guard (by rfl) ?_; dsimp only)); refine box_event ?hg (N := 15) ?hd (cs := #[.int .i64 0, .int .i64 0, .int .i64 0, .bool false]) (t := 33) ?hr ?_; (case hd => rfl); (case hg => rfl); (case hr => first | (go_simp; done) | (go_simp; rfl)); intro gb628 hg w49 hbox hb; have n0_ := Aside0.mk (Kd.R_below (by (with_reducible repeat (first | apply Kd.R_alloc | apply Kd.R_drewN | apply Kd.R_drew)); exact HO_9.out) hb); have n1_ := Aside0.mk (below_step (by repeat (first | (with_reducible first | exact HB.out | apply below_alloc | apply pw_below_drewN | apply below_drew1) | exact HB.out)) hb); have n2_ := Aside0.mk (hbox); have n3_ := Aside0.mk ((by rw [hg]; exact (below_size (by repeat (first | (with_reducible first | exact HB.out | apply below_alloc | apply pw_below_drewN | apply below_drew1) | exact HB.out))) : w.heap.size ≤ gb628)); have n4_ := Aside0.mk ((by rw [hg]; exact (below_size (by repeat (first | (with_reducible first | exact HB.out | apply below_alloc | apply pw_below_drewN | apply below_drew1) | exact HB.out))) : w.heap.size ≤ gb628)); clear HO_9; clear HB; have HO_9 := n0_; have HB := n1_; have BK628 := n2_; have GW628 := n3_; have GE628 := n4_; clear n0_ n1_ n2_ n3_ n4_; clear hb hbox hg; have hcz50_0 : w49.cell? ⟨gb628, 0, none⟩ = some (.int .i64 0) := (blk_cell BK628.out 0).trans rfl; have hcz50_1 : w49.cell? ⟨gb628, 1, none⟩ = some (.int .i64 0) := (blk_cell BK628.out 1).trans rfl; have hcz50_2 : w49.cell? ⟨gb628, 2, none⟩ = some (.int .i64 0) := (blk_cell BK628.out 2).trans rfl; have hcz50_3 : w49.cell? ⟨gb628, 3, none⟩ = some (.bool false) := (blk_cell BK628.out 3).trans rfl; have hfz50_0 := blk_frozen BK628.out 0; have hfz50_1 := blk_frozen BK628.out 1; have hfz50_2 := blk_frozen BK628.out 2; have hfz50_3 := blk_frozen BK628.out 3)))
                      (try simp only [Act.put, List.setIfInBounds_toArray, List.set_cons_zero, List.set_cons_succ])
                      go_cut [143] (fun v143 wc => ∃ (kq : Nat) (x143_46 : Bool), v143 = .bool x143_46 ∧ Aside0 (cartouchelaw08_HistoryVersions.j4 kq l0 a1 t601 t605 x14_3 x143_46 = some r) ∧ Aside0 (kq ≤ k3) ∧ Aside0 (Kd.R (Kd.int .i64) 3 wc w.heap.size (fun _ => True) (.slice Ao43 t605.length co43) t605) ∧ Aside0 (wc.heap[gb628]? = some (.cells #[.int .i64 t623, .int .i64 t624, .int .i64 t625, .bool t626] 33 (0, 0))) ∧ Aside0 (Below w.heap.size w wc))
                      case first =>
                        have H := HC47.out
                        clear HC47
                        by_cases c51 : ((rd_T31 l0 x14_3).f0) = 3
                        · rw [if_pos c51] at H
                          have c51b0 : (((rd_T31 l0 x14_3).f0) == 3) = true := beq_iff_eq.mpr c51
                          have c51b1 : (((rd_T31 l0 x14_3).f0) != 3) = false := bne_eq_false_iff_eq.mpr c51
                          clear c51
                          (first | rw [c51b0] | (simp only [i64_w, i32_w]; rw [c51b0]) | skip)
                          by_cases c52 : ((rd_T31 l0 x14_3).f2).toList = a1.toList
                          · rw [if_pos c52] at H
                            have c52b0 : (((rd_T31 l0 x14_3).f2).toList == a1.toList) = true := beq_iff_eq.mpr c52
                            have c52b1 : (((rd_T31 l0 x14_3).f2).toList != a1.toList) = false := bne_eq_false_iff_eq.mpr c52
                            clear c52
                            have H' := Aside0.mk H
                            clear H
                            have p629 : 0 ≤ (x14_3 : Int) := of_decide_eq_true (by first | (with_reducible assumption) | assumption)
                            have q629 : x14_3 < (l0.length : Int) := of_decide_eq_true (by first | (with_reducible assumption) | assumption)
                            obtain ⟨ad629, e629, hx629_0, hx629_1, hx629_2, hx629_3⟩ := at_T31 HR0.out x14_3 p629 q629
                            obtain rfl : ad622 = ad629 := (by injection e629)
                            have hn629_0 : ad622.block ≠ gb628 := Nat.ne_of_lt (Nat.lt_of_lt_of_le (by have := World.block_lt_of_cell? _ _ hx629_0; first | rwa [add_block] at this | exact this) GW628.out)
                            have hn629_1 : ad622.block ≠ gb628 := Nat.ne_of_lt (Nat.lt_of_lt_of_le (by have := World.block_lt_of_cell? _ _ hx629_0; first | rwa [add_block] at this | exact this) GW628.out)
                            have hn629_2 : ad622.block ≠ gb628 := Nat.ne_of_lt (Nat.lt_of_lt_of_le (by have := World.block_lt_of_cell? _ _ hx629_0; first | rwa [add_block] at this | exact this) GW628.out)
                            have hn629_3 : ad622.block ≠ gb628 := Nat.ne_of_lt (Nat.lt_of_lt_of_le (by have := World.block_lt_of_cell? _ _ hx629_0; first | rwa [add_block] at this | exact this) GW628.out)
                            replace hx629_0 := (HB.out.cell (World.block_lt_of_cell? w _ hx629_0)).trans hx629_0
                            replace hx629_1 := (HB.out.cell (World.block_lt_of_cell? w _ hx629_1)).trans hx629_1
                            replace hx629_2 := (HB.out.cell (World.block_lt_of_cell? w _ hx629_2)).trans hx629_2
                            replace hx629_3 := (HB.out.cell (World.block_lt_of_cell? w _ hx629_3)).trans hx629_3
                            replace hx629_0 := (cell_far (p := ⟨gb628, 0, none⟩) (by first | (rw [add_block]; exact hn629_0) | (show (Addr.add _ _).block ≠ _; rw [add_block]; exact hn629_0) | exact hn629_0) (.int .i64 t623)).trans hx629_0
                            replace hx629_1 := (cell_far (p := ⟨gb628, 0, none⟩) (by first | (rw [add_block]; exact hn629_0) | (show (Addr.add _ _).block ≠ _; rw [add_block]; exact hn629_0) | exact hn629_0) (.int .i64 t623)).trans hx629_1
                            replace hx629_2 := (cell_far (p := ⟨gb628, 0, none⟩) (by first | (rw [add_block]; exact hn629_0) | (show (Addr.add _ _).block ≠ _; rw [add_block]; exact hn629_0) | exact hn629_0) (.int .i64 t623)).trans hx629_2
                            replace hx629_3 := (cell_far (p := ⟨gb628, 0, none⟩) (by first | (rw [add_block]; exact hn629_0) | (show (Addr.add _ _).block ≠ _; rw [add_block]; exact hn629_0) | exact hn629_0) (.int .i64 t623)).trans hx629_3
                            replace hx629_0 := (cell_far (p := ⟨gb628, 1, none⟩) (by first | (rw [add_block]; exact hn629_1) | (show (Addr.add _ _).block ≠ _; rw [add_block]; exact hn629_1) | exact hn629_1) (.int .i64 t624)).trans hx629_0
                            replace hx629_1 := (cell_far (p := ⟨gb628, 1, none⟩) (by first | (rw [add_block]; exact hn629_1) | (show (Addr.add _ _).block ≠ _; rw [add_block]; exact hn629_1) | exact hn629_1) (.int .i64 t624)).trans hx629_1
                            replace hx629_2 := (cell_far (p := ⟨gb628, 1, none⟩) (by first | (rw [add_block]; exact hn629_1) | (show (Addr.add _ _).block ≠ _; rw [add_block]; exact hn629_1) | exact hn629_1) (.int .i64 t624)).trans hx629_2
                            replace hx629_3 := (cell_far (p := ⟨gb628, 1, none⟩) (by first | (rw [add_block]; exact hn629_1) | (show (Addr.add _ _).block ≠ _; rw [add_block]; exact hn629_1) | exact hn629_1) (.int .i64 t624)).trans hx629_3
                            replace hx629_0 := (cell_far (p := ⟨gb628, 2, none⟩) (by first | (rw [add_block]; exact hn629_2) | (show (Addr.add _ _).block ≠ _; rw [add_block]; exact hn629_2) | exact hn629_2) (.int .i64 t625)).trans hx629_0
                            replace hx629_1 := (cell_far (p := ⟨gb628, 2, none⟩) (by first | (rw [add_block]; exact hn629_2) | (show (Addr.add _ _).block ≠ _; rw [add_block]; exact hn629_2) | exact hn629_2) (.int .i64 t625)).trans hx629_1
                            replace hx629_2 := (cell_far (p := ⟨gb628, 2, none⟩) (by first | (rw [add_block]; exact hn629_2) | (show (Addr.add _ _).block ≠ _; rw [add_block]; exact hn629_2) | exact hn629_2) (.int .i64 t625)).trans hx629_2
                            replace hx629_3 := (cell_far (p := ⟨gb628, 2, none⟩) (by first | (rw [add_block]; exact hn629_2) | (show (Addr.add _ _).block ≠ _; rw [add_block]; exact hn629_2) | exact hn629_2) (.int .i64 t625)).trans hx629_3
                            replace hx629_0 := (cell_far (p := ⟨gb628, 3, none⟩) (by first | (rw [add_block]; exact hn629_3) | (show (Addr.add _ _).block ≠ _; rw [add_block]; exact hn629_3) | exact hn629_3) (.bool t626)).trans hx629_0
                            replace hx629_1 := (cell_far (p := ⟨gb628, 3, none⟩) (by first | (rw [add_block]; exact hn629_3) | (show (Addr.add _ _).block ≠ _; rw [add_block]; exact hn629_3) | exact hn629_3) (.bool t626)).trans hx629_1
                            replace hx629_2 := (cell_far (p := ⟨gb628, 3, none⟩) (by first | (rw [add_block]; exact hn629_3) | (show (Addr.add _ _).block ≠ _; rw [add_block]; exact hn629_3) | exact hn629_3) (.bool t626)).trans hx629_2
                            replace hx629_3 := (cell_far (p := ⟨gb628, 3, none⟩) (by first | (rw [add_block]; exact hn629_3) | (show (Addr.add _ _).block ≠ _; rw [add_block]; exact hn629_3) | exact hn629_3) (.bool t626)).trans hx629_3
                            (try have hy629_0 := fun (n_ : Nat) => (show ((((((w49.drewN n_).setCell ⟨gb628, 0, none⟩ (.int .i64 t623)).setCell ⟨gb628, 1, none⟩ (.int .i64 t624)).setCell ⟨gb628, 2, none⟩ (.int .i64 t625)).setCell ⟨gb628, 3, none⟩ (.bool t626))).cell? _ = some _ from hx629_0))
                            (try have hy629_1 := fun (n_ : Nat) => (show ((((((w49.drewN n_).setCell ⟨gb628, 0, none⟩ (.int .i64 t623)).setCell ⟨gb628, 1, none⟩ (.int .i64 t624)).setCell ⟨gb628, 2, none⟩ (.int .i64 t625)).setCell ⟨gb628, 3, none⟩ (.bool t626))).cell? _ = some _ from hx629_1))
                            (try have hy629_2 := fun (n_ : Nat) => (show ((((((w49.drewN n_).setCell ⟨gb628, 0, none⟩ (.int .i64 t623)).setCell ⟨gb628, 1, none⟩ (.int .i64 t624)).setCell ⟨gb628, 2, none⟩ (.int .i64 t625)).setCell ⟨gb628, 3, none⟩ (.bool t626))).cell? _ = some _ from hx629_2))
                            (try have hy629_3 := fun (n_ : Nat) => (show ((((((w49.drewN n_).setCell ⟨gb628, 0, none⟩ (.int .i64 t623)).setCell ⟨gb628, 1, none⟩ (.int .i64 t624)).setCell ⟨gb628, 2, none⟩ (.int .i64 t625)).setCell ⟨gb628, 3, none⟩ (.bool t626))).cell? _ = some _ from hx629_3))
                            clear hn629_0
                            clear hn629_1
                            clear hn629_2
                            clear hn629_3
                            replace p629 := eq_true p629
                            replace q629 := eq_true q629
                            have p630 : 0 ≤ (x14_3 : Int) := of_decide_eq_true (by first | (with_reducible assumption) | assumption)
                            have q630 : x14_3 < (l0.length : Int) := of_decide_eq_true (by first | (with_reducible assumption) | assumption)
                            obtain ⟨ad630, e630, hx630_0, hx630_1, hx630_2, hx630_3⟩ := at_T31 HR0.out x14_3 p630 q630
                            obtain rfl : ad622 = ad630 := (by injection e630)
                            have hn630_0 : ad622.block ≠ gb628 := Nat.ne_of_lt (Nat.lt_of_lt_of_le (by have := World.block_lt_of_cell? _ _ hx630_0; first | rwa [add_block] at this | exact this) GW628.out)
                            have hn630_1 : ad622.block ≠ gb628 := Nat.ne_of_lt (Nat.lt_of_lt_of_le (by have := World.block_lt_of_cell? _ _ hx630_0; first | rwa [add_block] at this | exact this) GW628.out)
                            have hn630_2 : ad622.block ≠ gb628 := Nat.ne_of_lt (Nat.lt_of_lt_of_le (by have := World.block_lt_of_cell? _ _ hx630_0; first | rwa [add_block] at this | exact this) GW628.out)
                            have hn630_3 : ad622.block ≠ gb628 := Nat.ne_of_lt (Nat.lt_of_lt_of_le (by have := World.block_lt_of_cell? _ _ hx630_0; first | rwa [add_block] at this | exact this) GW628.out)
                            replace hx630_0 := (HB.out.cell (World.block_lt_of_cell? w _ hx630_0)).trans hx630_0
                            replace hx630_1 := (HB.out.cell (World.block_lt_of_cell? w _ hx630_1)).trans hx630_1
                            replace hx630_2 := (HB.out.cell (World.block_lt_of_cell? w _ hx630_2)).trans hx630_2
                            replace hx630_3 := (HB.out.cell (World.block_lt_of_cell? w _ hx630_3)).trans hx630_3
                            replace hx630_0 := (cell_far (p := ⟨gb628, 0, none⟩) (by first | (rw [add_block]; exact hn630_0) | (show (Addr.add _ _).block ≠ _; rw [add_block]; exact hn630_0) | exact hn630_0) (.int .i64 t623)).trans hx630_0
                            replace hx630_1 := (cell_far (p := ⟨gb628, 0, none⟩) (by first | (rw [add_block]; exact hn630_0) | (show (Addr.add _ _).block ≠ _; rw [add_block]; exact hn630_0) | exact hn630_0) (.int .i64 t623)).trans hx630_1
                            replace hx630_2 := (cell_far (p := ⟨gb628, 0, none⟩) (by first | (rw [add_block]; exact hn630_0) | (show (Addr.add _ _).block ≠ _; rw [add_block]; exact hn630_0) | exact hn630_0) (.int .i64 t623)).trans hx630_2
                            replace hx630_3 := (cell_far (p := ⟨gb628, 0, none⟩) (by first | (rw [add_block]; exact hn630_0) | (show (Addr.add _ _).block ≠ _; rw [add_block]; exact hn630_0) | exact hn630_0) (.int .i64 t623)).trans hx630_3
                            replace hx630_0 := (cell_far (p := ⟨gb628, 1, none⟩) (by first | (rw [add_block]; exact hn630_1) | (show (Addr.add _ _).block ≠ _; rw [add_block]; exact hn630_1) | exact hn630_1) (.int .i64 t624)).trans hx630_0
                            replace hx630_1 := (cell_far (p := ⟨gb628, 1, none⟩) (by first | (rw [add_block]; exact hn630_1) | (show (Addr.add _ _).block ≠ _; rw [add_block]; exact hn630_1) | exact hn630_1) (.int .i64 t624)).trans hx630_1
                            replace hx630_2 := (cell_far (p := ⟨gb628, 1, none⟩) (by first | (rw [add_block]; exact hn630_1) | (show (Addr.add _ _).block ≠ _; rw [add_block]; exact hn630_1) | exact hn630_1) (.int .i64 t624)).trans hx630_2
                            replace hx630_3 := (cell_far (p := ⟨gb628, 1, none⟩) (by first | (rw [add_block]; exact hn630_1) | (show (Addr.add _ _).block ≠ _; rw [add_block]; exact hn630_1) | exact hn630_1) (.int .i64 t624)).trans hx630_3
                            replace hx630_0 := (cell_far (p := ⟨gb628, 2, none⟩) (by first | (rw [add_block]; exact hn630_2) | (show (Addr.add _ _).block ≠ _; rw [add_block]; exact hn630_2) | exact hn630_2) (.int .i64 t625)).trans hx630_0
                            replace hx630_1 := (cell_far (p := ⟨gb628, 2, none⟩) (by first | (rw [add_block]; exact hn630_2) | (show (Addr.add _ _).block ≠ _; rw [add_block]; exact hn630_2) | exact hn630_2) (.int .i64 t625)).trans hx630_1
                            replace hx630_2 := (cell_far (p := ⟨gb628, 2, none⟩) (by first | (rw [add_block]; exact hn630_2) | (show (Addr.add _ _).block ≠ _; rw [add_block]; exact hn630_2) | exact hn630_2) (.int .i64 t625)).trans hx630_2
                            replace hx630_3 := (cell_far (p := ⟨gb628, 2, none⟩) (by first | (rw [add_block]; exact hn630_2) | (show (Addr.add _ _).block ≠ _; rw [add_block]; exact hn630_2) | exact hn630_2) (.int .i64 t625)).trans hx630_3
                            replace hx630_0 := (cell_far (p := ⟨gb628, 3, none⟩) (by first | (rw [add_block]; exact hn630_3) | (show (Addr.add _ _).block ≠ _; rw [add_block]; exact hn630_3) | exact hn630_3) (.bool t626)).trans hx630_0
                            replace hx630_1 := (cell_far (p := ⟨gb628, 3, none⟩) (by first | (rw [add_block]; exact hn630_3) | (show (Addr.add _ _).block ≠ _; rw [add_block]; exact hn630_3) | exact hn630_3) (.bool t626)).trans hx630_1
                            replace hx630_2 := (cell_far (p := ⟨gb628, 3, none⟩) (by first | (rw [add_block]; exact hn630_3) | (show (Addr.add _ _).block ≠ _; rw [add_block]; exact hn630_3) | exact hn630_3) (.bool t626)).trans hx630_2
                            replace hx630_3 := (cell_far (p := ⟨gb628, 3, none⟩) (by first | (rw [add_block]; exact hn630_3) | (show (Addr.add _ _).block ≠ _; rw [add_block]; exact hn630_3) | exact hn630_3) (.bool t626)).trans hx630_3
                            (try have hy630_0 := fun (n_ : Nat) => (show ((((((w49.drewN n_).setCell ⟨gb628, 0, none⟩ (.int .i64 t623)).setCell ⟨gb628, 1, none⟩ (.int .i64 t624)).setCell ⟨gb628, 2, none⟩ (.int .i64 t625)).setCell ⟨gb628, 3, none⟩ (.bool t626))).cell? _ = some _ from hx630_0))
                            (try have hy630_1 := fun (n_ : Nat) => (show ((((((w49.drewN n_).setCell ⟨gb628, 0, none⟩ (.int .i64 t623)).setCell ⟨gb628, 1, none⟩ (.int .i64 t624)).setCell ⟨gb628, 2, none⟩ (.int .i64 t625)).setCell ⟨gb628, 3, none⟩ (.bool t626))).cell? _ = some _ from hx630_1))
                            (try have hy630_2 := fun (n_ : Nat) => (show ((((((w49.drewN n_).setCell ⟨gb628, 0, none⟩ (.int .i64 t623)).setCell ⟨gb628, 1, none⟩ (.int .i64 t624)).setCell ⟨gb628, 2, none⟩ (.int .i64 t625)).setCell ⟨gb628, 3, none⟩ (.bool t626))).cell? _ = some _ from hx630_2))
                            (try have hy630_3 := fun (n_ : Nat) => (show ((((((w49.drewN n_).setCell ⟨gb628, 0, none⟩ (.int .i64 t623)).setCell ⟨gb628, 1, none⟩ (.int .i64 t624)).setCell ⟨gb628, 2, none⟩ (.int .i64 t625)).setCell ⟨gb628, 3, none⟩ (.bool t626))).cell? _ = some _ from hx630_3))
                            clear hn630_0
                            clear hn630_1
                            clear hn630_2
                            clear hn630_3
                            replace p630 := eq_true p630
                            replace q630 := eq_true q630
                            have hcz53_0 : w49.cell? ⟨gb628, 0, none⟩ = some (.int .i64 0) := (blk_cell BK628.out 0).trans rfl
                            have hcz53_1 : w49.cell? ⟨gb628, 1, none⟩ = some (.int .i64 0) := (blk_cell BK628.out 1).trans rfl
                            have hcz53_2 : w49.cell? ⟨gb628, 2, none⟩ = some (.int .i64 0) := (blk_cell BK628.out 2).trans rfl
                            have hcz53_3 : w49.cell? ⟨gb628, 3, none⟩ = some (.bool false) := (blk_cell BK628.out 3).trans rfl
                            have hfz53_0 := blk_frozen BK628.out 0
                            have hfz53_1 := blk_frozen BK628.out 1
                            have hfz53_2 := blk_frozen BK628.out 2
                            have hfz53_3 := blk_frozen BK628.out 3
                            go_wp2
                            repeat (go_quiet (fail); try go_wp2)
                            go_meet
                            case rel => exact ⟨_, (!t626), (by first | rfl | (simp; done) | (simp [*]; done)), H', ⟨by have := HJ5.out; have := HK2.out; have := HK3.out; first | omega | exact Nat.le_refl _⟩, ⟨by (with_reducible repeat (first | apply Kd.R_alloc | apply Kd.R_drewN | apply Kd.R_drew)); exact Kd.R_mono (Kd.R_far (p := ⟨gb628, 3, none⟩) (Kd.R_far (p := ⟨gb628, 2, none⟩) (Kd.R_far (p := ⟨gb628, 1, none⟩) (Kd.R_far (p := ⟨gb628, 0, none⟩) (Kd.R_types HO_9.out BK628.out (by decide)) (fun _ hk => hk.2) (.int .i64 t623)) (fun _ hk => hk.2) (.int .i64 t624)) (fun _ hk => hk.2) (.int .i64 t625)) (fun _ hk => hk.2) (.bool t626)) (fun _ hk => trivial)⟩, ⟨by (with_reducible repeat (first | refine blk_drewN ?_ _ | refine blk_drew ?_ | refine blk_alloc ?_ _)); refine blk_put (cs := #[.int .i64 t623, .int .i64 t624, .int .i64 t625, .bool false]) ?_ 3 _ rfl; (with_reducible repeat (first | refine blk_drewN ?_ _ | refine blk_drew ?_ | refine blk_alloc ?_ _)); refine blk_put (cs := #[.int .i64 t623, .int .i64 t624, .int .i64 0, .bool false]) ?_ 2 _ rfl; (with_reducible repeat (first | refine blk_drewN ?_ _ | refine blk_drew ?_ | refine blk_alloc ?_ _)); refine blk_put (cs := #[.int .i64 t623, .int .i64 0, .int .i64 0, .bool false]) ?_ 1 _ rfl; (with_reducible repeat (first | refine blk_drewN ?_ _ | refine blk_drew ?_ | refine blk_alloc ?_ _)); refine blk_put (cs := #[.int .i64 0, .int .i64 0, .int .i64 0, .bool false]) ?_ 0 _ rfl; (with_reducible repeat (first | refine blk_drewN ?_ _ | refine blk_drew ?_ | refine blk_alloc ?_ _)); exact BK628.out⟩, ⟨by repeat (first | (with_reducible first | exact HB.out | apply below_alloc | apply pw_below_drewN | apply below_drew1 | refine below_set ?_ GE628.out) | exact HB.out)⟩⟩
                          · rw [if_neg c52] at H
                            have c52b0 : (((rd_T31 l0 x14_3).f2).toList == a1.toList) = false := beq_eq_false_iff_ne.mpr c52
                            have c52b1 : (((rd_T31 l0 x14_3).f2).toList != a1.toList) = true := bne_iff_ne.mpr c52
                            have H' := Aside0.mk H
                            clear H
                            have p629 : 0 ≤ (x14_3 : Int) := of_decide_eq_true (by first | (with_reducible assumption) | assumption)
                            have q629 : x14_3 < (l0.length : Int) := of_decide_eq_true (by first | (with_reducible assumption) | assumption)
                            obtain ⟨ad629, e629, hx629_0, hx629_1, hx629_2, hx629_3⟩ := at_T31 HR0.out x14_3 p629 q629
                            obtain rfl : ad622 = ad629 := (by injection e629)
                            have hn629_0 : ad622.block ≠ gb628 := Nat.ne_of_lt (Nat.lt_of_lt_of_le (by have := World.block_lt_of_cell? _ _ hx629_0; first | rwa [add_block] at this | exact this) GW628.out)
                            have hn629_1 : ad622.block ≠ gb628 := Nat.ne_of_lt (Nat.lt_of_lt_of_le (by have := World.block_lt_of_cell? _ _ hx629_0; first | rwa [add_block] at this | exact this) GW628.out)
                            have hn629_2 : ad622.block ≠ gb628 := Nat.ne_of_lt (Nat.lt_of_lt_of_le (by have := World.block_lt_of_cell? _ _ hx629_0; first | rwa [add_block] at this | exact this) GW628.out)
                            have hn629_3 : ad622.block ≠ gb628 := Nat.ne_of_lt (Nat.lt_of_lt_of_le (by have := World.block_lt_of_cell? _ _ hx629_0; first | rwa [add_block] at this | exact this) GW628.out)
                            replace hx629_0 := (HB.out.cell (World.block_lt_of_cell? w _ hx629_0)).trans hx629_0
                            replace hx629_1 := (HB.out.cell (World.block_lt_of_cell? w _ hx629_1)).trans hx629_1
                            replace hx629_2 := (HB.out.cell (World.block_lt_of_cell? w _ hx629_2)).trans hx629_2
                            replace hx629_3 := (HB.out.cell (World.block_lt_of_cell? w _ hx629_3)).trans hx629_3
                            replace hx629_0 := (cell_far (p := ⟨gb628, 0, none⟩) (by first | (rw [add_block]; exact hn629_0) | (show (Addr.add _ _).block ≠ _; rw [add_block]; exact hn629_0) | exact hn629_0) (.int .i64 t623)).trans hx629_0
                            replace hx629_1 := (cell_far (p := ⟨gb628, 0, none⟩) (by first | (rw [add_block]; exact hn629_0) | (show (Addr.add _ _).block ≠ _; rw [add_block]; exact hn629_0) | exact hn629_0) (.int .i64 t623)).trans hx629_1
                            replace hx629_2 := (cell_far (p := ⟨gb628, 0, none⟩) (by first | (rw [add_block]; exact hn629_0) | (show (Addr.add _ _).block ≠ _; rw [add_block]; exact hn629_0) | exact hn629_0) (.int .i64 t623)).trans hx629_2
                            replace hx629_3 := (cell_far (p := ⟨gb628, 0, none⟩) (by first | (rw [add_block]; exact hn629_0) | (show (Addr.add _ _).block ≠ _; rw [add_block]; exact hn629_0) | exact hn629_0) (.int .i64 t623)).trans hx629_3
                            replace hx629_0 := (cell_far (p := ⟨gb628, 1, none⟩) (by first | (rw [add_block]; exact hn629_1) | (show (Addr.add _ _).block ≠ _; rw [add_block]; exact hn629_1) | exact hn629_1) (.int .i64 t624)).trans hx629_0
                            replace hx629_1 := (cell_far (p := ⟨gb628, 1, none⟩) (by first | (rw [add_block]; exact hn629_1) | (show (Addr.add _ _).block ≠ _; rw [add_block]; exact hn629_1) | exact hn629_1) (.int .i64 t624)).trans hx629_1
                            replace hx629_2 := (cell_far (p := ⟨gb628, 1, none⟩) (by first | (rw [add_block]; exact hn629_1) | (show (Addr.add _ _).block ≠ _; rw [add_block]; exact hn629_1) | exact hn629_1) (.int .i64 t624)).trans hx629_2
                            replace hx629_3 := (cell_far (p := ⟨gb628, 1, none⟩) (by first | (rw [add_block]; exact hn629_1) | (show (Addr.add _ _).block ≠ _; rw [add_block]; exact hn629_1) | exact hn629_1) (.int .i64 t624)).trans hx629_3
                            replace hx629_0 := (cell_far (p := ⟨gb628, 2, none⟩) (by first | (rw [add_block]; exact hn629_2) | (show (Addr.add _ _).block ≠ _; rw [add_block]; exact hn629_2) | exact hn629_2) (.int .i64 t625)).trans hx629_0
                            replace hx629_1 := (cell_far (p := ⟨gb628, 2, none⟩) (by first | (rw [add_block]; exact hn629_2) | (show (Addr.add _ _).block ≠ _; rw [add_block]; exact hn629_2) | exact hn629_2) (.int .i64 t625)).trans hx629_1
                            replace hx629_2 := (cell_far (p := ⟨gb628, 2, none⟩) (by first | (rw [add_block]; exact hn629_2) | (show (Addr.add _ _).block ≠ _; rw [add_block]; exact hn629_2) | exact hn629_2) (.int .i64 t625)).trans hx629_2
                            replace hx629_3 := (cell_far (p := ⟨gb628, 2, none⟩) (by first | (rw [add_block]; exact hn629_2) | (show (Addr.add _ _).block ≠ _; rw [add_block]; exact hn629_2) | exact hn629_2) (.int .i64 t625)).trans hx629_3
                            replace hx629_0 := (cell_far (p := ⟨gb628, 3, none⟩) (by first | (rw [add_block]; exact hn629_3) | (show (Addr.add _ _).block ≠ _; rw [add_block]; exact hn629_3) | exact hn629_3) (.bool t626)).trans hx629_0
                            replace hx629_1 := (cell_far (p := ⟨gb628, 3, none⟩) (by first | (rw [add_block]; exact hn629_3) | (show (Addr.add _ _).block ≠ _; rw [add_block]; exact hn629_3) | exact hn629_3) (.bool t626)).trans hx629_1
                            replace hx629_2 := (cell_far (p := ⟨gb628, 3, none⟩) (by first | (rw [add_block]; exact hn629_3) | (show (Addr.add _ _).block ≠ _; rw [add_block]; exact hn629_3) | exact hn629_3) (.bool t626)).trans hx629_2
                            replace hx629_3 := (cell_far (p := ⟨gb628, 3, none⟩) (by first | (rw [add_block]; exact hn629_3) | (show (Addr.add _ _).block ≠ _; rw [add_block]; exact hn629_3) | exact hn629_3) (.bool t626)).trans hx629_3
                            (try have hy629_0 := fun (n_ : Nat) => (show ((((((w49.drewN n_).setCell ⟨gb628, 0, none⟩ (.int .i64 t623)).setCell ⟨gb628, 1, none⟩ (.int .i64 t624)).setCell ⟨gb628, 2, none⟩ (.int .i64 t625)).setCell ⟨gb628, 3, none⟩ (.bool t626))).cell? _ = some _ from hx629_0))
                            (try have hy629_1 := fun (n_ : Nat) => (show ((((((w49.drewN n_).setCell ⟨gb628, 0, none⟩ (.int .i64 t623)).setCell ⟨gb628, 1, none⟩ (.int .i64 t624)).setCell ⟨gb628, 2, none⟩ (.int .i64 t625)).setCell ⟨gb628, 3, none⟩ (.bool t626))).cell? _ = some _ from hx629_1))
                            (try have hy629_2 := fun (n_ : Nat) => (show ((((((w49.drewN n_).setCell ⟨gb628, 0, none⟩ (.int .i64 t623)).setCell ⟨gb628, 1, none⟩ (.int .i64 t624)).setCell ⟨gb628, 2, none⟩ (.int .i64 t625)).setCell ⟨gb628, 3, none⟩ (.bool t626))).cell? _ = some _ from hx629_2))
                            (try have hy629_3 := fun (n_ : Nat) => (show ((((((w49.drewN n_).setCell ⟨gb628, 0, none⟩ (.int .i64 t623)).setCell ⟨gb628, 1, none⟩ (.int .i64 t624)).setCell ⟨gb628, 2, none⟩ (.int .i64 t625)).setCell ⟨gb628, 3, none⟩ (.bool t626))).cell? _ = some _ from hx629_3))
                            clear hn629_0
                            clear hn629_1
                            clear hn629_2
                            clear hn629_3
                            replace p629 := eq_true p629
                            replace q629 := eq_true q629
                            have p630 : 0 ≤ (x14_3 : Int) := of_decide_eq_true (by first | (with_reducible assumption) | assumption)
                            have q630 : x14_3 < (l0.length : Int) := of_decide_eq_true (by first | (with_reducible assumption) | assumption)
                            obtain ⟨ad630, e630, hx630_0, hx630_1, hx630_2, hx630_3⟩ := at_T31 HR0.out x14_3 p630 q630
                            obtain rfl : ad622 = ad630 := (by injection e630)
                            have hn630_0 : ad622.block ≠ gb628 := Nat.ne_of_lt (Nat.lt_of_lt_of_le (by have := World.block_lt_of_cell? _ _ hx630_0; first | rwa [add_block] at this | exact this) GW628.out)
                            have hn630_1 : ad622.block ≠ gb628 := Nat.ne_of_lt (Nat.lt_of_lt_of_le (by have := World.block_lt_of_cell? _ _ hx630_0; first | rwa [add_block] at this | exact this) GW628.out)
                            have hn630_2 : ad622.block ≠ gb628 := Nat.ne_of_lt (Nat.lt_of_lt_of_le (by have := World.block_lt_of_cell? _ _ hx630_0; first | rwa [add_block] at this | exact this) GW628.out)
                            have hn630_3 : ad622.block ≠ gb628 := Nat.ne_of_lt (Nat.lt_of_lt_of_le (by have := World.block_lt_of_cell? _ _ hx630_0; first | rwa [add_block] at this | exact this) GW628.out)
                            replace hx630_0 := (HB.out.cell (World.block_lt_of_cell? w _ hx630_0)).trans hx630_0
                            replace hx630_1 := (HB.out.cell (World.block_lt_of_cell? w _ hx630_1)).trans hx630_1
                            replace hx630_2 := (HB.out.cell (World.block_lt_of_cell? w _ hx630_2)).trans hx630_2
                            replace hx630_3 := (HB.out.cell (World.block_lt_of_cell? w _ hx630_3)).trans hx630_3
                            replace hx630_0 := (cell_far (p := ⟨gb628, 0, none⟩) (by first | (rw [add_block]; exact hn630_0) | (show (Addr.add _ _).block ≠ _; rw [add_block]; exact hn630_0) | exact hn630_0) (.int .i64 t623)).trans hx630_0
                            replace hx630_1 := (cell_far (p := ⟨gb628, 0, none⟩) (by first | (rw [add_block]; exact hn630_0) | (show (Addr.add _ _).block ≠ _; rw [add_block]; exact hn630_0) | exact hn630_0) (.int .i64 t623)).trans hx630_1
                            replace hx630_2 := (cell_far (p := ⟨gb628, 0, none⟩) (by first | (rw [add_block]; exact hn630_0) | (show (Addr.add _ _).block ≠ _; rw [add_block]; exact hn630_0) | exact hn630_0) (.int .i64 t623)).trans hx630_2
                            replace hx630_3 := (cell_far (p := ⟨gb628, 0, none⟩) (by first | (rw [add_block]; exact hn630_0) | (show (Addr.add _ _).block ≠ _; rw [add_block]; exact hn630_0) | exact hn630_0) (.int .i64 t623)).trans hx630_3
                            replace hx630_0 := (cell_far (p := ⟨gb628, 1, none⟩) (by first | (rw [add_block]; exact hn630_1) | (show (Addr.add _ _).block ≠ _; rw [add_block]; exact hn630_1) | exact hn630_1) (.int .i64 t624)).trans hx630_0
                            replace hx630_1 := (cell_far (p := ⟨gb628, 1, none⟩) (by first | (rw [add_block]; exact hn630_1) | (show (Addr.add _ _).block ≠ _; rw [add_block]; exact hn630_1) | exact hn630_1) (.int .i64 t624)).trans hx630_1
                            replace hx630_2 := (cell_far (p := ⟨gb628, 1, none⟩) (by first | (rw [add_block]; exact hn630_1) | (show (Addr.add _ _).block ≠ _; rw [add_block]; exact hn630_1) | exact hn630_1) (.int .i64 t624)).trans hx630_2
                            replace hx630_3 := (cell_far (p := ⟨gb628, 1, none⟩) (by first | (rw [add_block]; exact hn630_1) | (show (Addr.add _ _).block ≠ _; rw [add_block]; exact hn630_1) | exact hn630_1) (.int .i64 t624)).trans hx630_3
                            replace hx630_0 := (cell_far (p := ⟨gb628, 2, none⟩) (by first | (rw [add_block]; exact hn630_2) | (show (Addr.add _ _).block ≠ _; rw [add_block]; exact hn630_2) | exact hn630_2) (.int .i64 t625)).trans hx630_0
                            replace hx630_1 := (cell_far (p := ⟨gb628, 2, none⟩) (by first | (rw [add_block]; exact hn630_2) | (show (Addr.add _ _).block ≠ _; rw [add_block]; exact hn630_2) | exact hn630_2) (.int .i64 t625)).trans hx630_1
                            replace hx630_2 := (cell_far (p := ⟨gb628, 2, none⟩) (by first | (rw [add_block]; exact hn630_2) | (show (Addr.add _ _).block ≠ _; rw [add_block]; exact hn630_2) | exact hn630_2) (.int .i64 t625)).trans hx630_2
                            replace hx630_3 := (cell_far (p := ⟨gb628, 2, none⟩) (by first | (rw [add_block]; exact hn630_2) | (show (Addr.add _ _).block ≠ _; rw [add_block]; exact hn630_2) | exact hn630_2) (.int .i64 t625)).trans hx630_3
                            replace hx630_0 := (cell_far (p := ⟨gb628, 3, none⟩) (by first | (rw [add_block]; exact hn630_3) | (show (Addr.add _ _).block ≠ _; rw [add_block]; exact hn630_3) | exact hn630_3) (.bool t626)).trans hx630_0
                            replace hx630_1 := (cell_far (p := ⟨gb628, 3, none⟩) (by first | (rw [add_block]; exact hn630_3) | (show (Addr.add _ _).block ≠ _; rw [add_block]; exact hn630_3) | exact hn630_3) (.bool t626)).trans hx630_1
                            replace hx630_2 := (cell_far (p := ⟨gb628, 3, none⟩) (by first | (rw [add_block]; exact hn630_3) | (show (Addr.add _ _).block ≠ _; rw [add_block]; exact hn630_3) | exact hn630_3) (.bool t626)).trans hx630_2
                            replace hx630_3 := (cell_far (p := ⟨gb628, 3, none⟩) (by first | (rw [add_block]; exact hn630_3) | (show (Addr.add _ _).block ≠ _; rw [add_block]; exact hn630_3) | exact hn630_3) (.bool t626)).trans hx630_3
                            (try have hy630_0 := fun (n_ : Nat) => (show ((((((w49.drewN n_).setCell ⟨gb628, 0, none⟩ (.int .i64 t623)).setCell ⟨gb628, 1, none⟩ (.int .i64 t624)).setCell ⟨gb628, 2, none⟩ (.int .i64 t625)).setCell ⟨gb628, 3, none⟩ (.bool t626))).cell? _ = some _ from hx630_0))
                            (try have hy630_1 := fun (n_ : Nat) => (show ((((((w49.drewN n_).setCell ⟨gb628, 0, none⟩ (.int .i64 t623)).setCell ⟨gb628, 1, none⟩ (.int .i64 t624)).setCell ⟨gb628, 2, none⟩ (.int .i64 t625)).setCell ⟨gb628, 3, none⟩ (.bool t626))).cell? _ = some _ from hx630_1))
                            (try have hy630_2 := fun (n_ : Nat) => (show ((((((w49.drewN n_).setCell ⟨gb628, 0, none⟩ (.int .i64 t623)).setCell ⟨gb628, 1, none⟩ (.int .i64 t624)).setCell ⟨gb628, 2, none⟩ (.int .i64 t625)).setCell ⟨gb628, 3, none⟩ (.bool t626))).cell? _ = some _ from hx630_2))
                            (try have hy630_3 := fun (n_ : Nat) => (show ((((((w49.drewN n_).setCell ⟨gb628, 0, none⟩ (.int .i64 t623)).setCell ⟨gb628, 1, none⟩ (.int .i64 t624)).setCell ⟨gb628, 2, none⟩ (.int .i64 t625)).setCell ⟨gb628, 3, none⟩ (.bool t626))).cell? _ = some _ from hx630_3))
                            clear hn630_0
                            clear hn630_1
                            clear hn630_2
                            clear hn630_3
                            replace p630 := eq_true p630
                            replace q630 := eq_true q630
                            go_wp2
                            repeat (go_quiet (fail); try go_wp2)
                            go_meet
                            case rel => exact ⟨_, (true), (by first | rfl | (simp; done) | (simp [*]; done)), H', ⟨by have := HJ5.out; have := HK2.out; have := HK3.out; first | omega | exact Nat.le_refl _⟩, ⟨by (with_reducible repeat (first | apply Kd.R_alloc | apply Kd.R_drewN | apply Kd.R_drew)); exact Kd.R_mono (Kd.R_far (p := ⟨gb628, 3, none⟩) (Kd.R_far (p := ⟨gb628, 2, none⟩) (Kd.R_far (p := ⟨gb628, 1, none⟩) (Kd.R_far (p := ⟨gb628, 0, none⟩) (Kd.R_types HO_9.out BK628.out (by decide)) (fun _ hk => hk.2) (.int .i64 t623)) (fun _ hk => hk.2) (.int .i64 t624)) (fun _ hk => hk.2) (.int .i64 t625)) (fun _ hk => hk.2) (.bool t626)) (fun _ hk => trivial)⟩, ⟨by (with_reducible repeat (first | refine blk_drewN ?_ _ | refine blk_drew ?_ | refine blk_alloc ?_ _)); refine blk_put (cs := #[.int .i64 t623, .int .i64 t624, .int .i64 t625, .bool false]) ?_ 3 _ rfl; (with_reducible repeat (first | refine blk_drewN ?_ _ | refine blk_drew ?_ | refine blk_alloc ?_ _)); refine blk_put (cs := #[.int .i64 t623, .int .i64 t624, .int .i64 0, .bool false]) ?_ 2 _ rfl; (with_reducible repeat (first | refine blk_drewN ?_ _ | refine blk_drew ?_ | refine blk_alloc ?_ _)); refine blk_put (cs := #[.int .i64 t623, .int .i64 0, .int .i64 0, .bool false]) ?_ 1 _ rfl; (with_reducible repeat (first | refine blk_drewN ?_ _ | refine blk_drew ?_ | refine blk_alloc ?_ _)); refine blk_put (cs := #[.int .i64 0, .int .i64 0, .int .i64 0, .bool false]) ?_ 0 _ rfl; (with_reducible repeat (first | refine blk_drewN ?_ _ | refine blk_drew ?_ | refine blk_alloc ?_ _)); exact BK628.out⟩, ⟨by repeat (first | (with_reducible first | exact HB.out | apply below_alloc | apply pw_below_drewN | apply below_drew1 | refine below_set ?_ GE628.out) | exact HB.out)⟩⟩
                        · rw [if_neg c51] at H
                          have c51b0 : (((rd_T31 l0 x14_3).f0) == 3) = false := beq_eq_false_iff_ne.mpr c51
                          have c51b1 : (((rd_T31 l0 x14_3).f0) != 3) = true := bne_iff_ne.mpr c51
                          (first | rw [c51b0] | (simp only [i64_w, i32_w]; rw [c51b0]) | skip)
                          have H' := Aside0.mk H
                          clear H
                          have p629 : 0 ≤ (x14_3 : Int) := of_decide_eq_true (by first | (with_reducible assumption) | assumption)
                          have q629 : x14_3 < (l0.length : Int) := of_decide_eq_true (by first | (with_reducible assumption) | assumption)
                          obtain ⟨ad629, e629, hx629_0, hx629_1, hx629_2, hx629_3⟩ := at_T31 HR0.out x14_3 p629 q629
                          obtain rfl : ad622 = ad629 := (by injection e629)
                          have hn629_0 : ad622.block ≠ gb628 := Nat.ne_of_lt (Nat.lt_of_lt_of_le (by have := World.block_lt_of_cell? _ _ hx629_0; first | rwa [add_block] at this | exact this) GW628.out)
                          have hn629_1 : ad622.block ≠ gb628 := Nat.ne_of_lt (Nat.lt_of_lt_of_le (by have := World.block_lt_of_cell? _ _ hx629_0; first | rwa [add_block] at this | exact this) GW628.out)
                          have hn629_2 : ad622.block ≠ gb628 := Nat.ne_of_lt (Nat.lt_of_lt_of_le (by have := World.block_lt_of_cell? _ _ hx629_0; first | rwa [add_block] at this | exact this) GW628.out)
                          have hn629_3 : ad622.block ≠ gb628 := Nat.ne_of_lt (Nat.lt_of_lt_of_le (by have := World.block_lt_of_cell? _ _ hx629_0; first | rwa [add_block] at this | exact this) GW628.out)
                          replace hx629_0 := (HB.out.cell (World.block_lt_of_cell? w _ hx629_0)).trans hx629_0
                          replace hx629_1 := (HB.out.cell (World.block_lt_of_cell? w _ hx629_1)).trans hx629_1
                          replace hx629_2 := (HB.out.cell (World.block_lt_of_cell? w _ hx629_2)).trans hx629_2
                          replace hx629_3 := (HB.out.cell (World.block_lt_of_cell? w _ hx629_3)).trans hx629_3
                          replace hx629_0 := (cell_far (p := ⟨gb628, 0, none⟩) (by first | (rw [add_block]; exact hn629_0) | (show (Addr.add _ _).block ≠ _; rw [add_block]; exact hn629_0) | exact hn629_0) (.int .i64 t623)).trans hx629_0
                          replace hx629_1 := (cell_far (p := ⟨gb628, 0, none⟩) (by first | (rw [add_block]; exact hn629_0) | (show (Addr.add _ _).block ≠ _; rw [add_block]; exact hn629_0) | exact hn629_0) (.int .i64 t623)).trans hx629_1
                          replace hx629_2 := (cell_far (p := ⟨gb628, 0, none⟩) (by first | (rw [add_block]; exact hn629_0) | (show (Addr.add _ _).block ≠ _; rw [add_block]; exact hn629_0) | exact hn629_0) (.int .i64 t623)).trans hx629_2
                          replace hx629_3 := (cell_far (p := ⟨gb628, 0, none⟩) (by first | (rw [add_block]; exact hn629_0) | (show (Addr.add _ _).block ≠ _; rw [add_block]; exact hn629_0) | exact hn629_0) (.int .i64 t623)).trans hx629_3
                          replace hx629_0 := (cell_far (p := ⟨gb628, 1, none⟩) (by first | (rw [add_block]; exact hn629_1) | (show (Addr.add _ _).block ≠ _; rw [add_block]; exact hn629_1) | exact hn629_1) (.int .i64 t624)).trans hx629_0
                          replace hx629_1 := (cell_far (p := ⟨gb628, 1, none⟩) (by first | (rw [add_block]; exact hn629_1) | (show (Addr.add _ _).block ≠ _; rw [add_block]; exact hn629_1) | exact hn629_1) (.int .i64 t624)).trans hx629_1
                          replace hx629_2 := (cell_far (p := ⟨gb628, 1, none⟩) (by first | (rw [add_block]; exact hn629_1) | (show (Addr.add _ _).block ≠ _; rw [add_block]; exact hn629_1) | exact hn629_1) (.int .i64 t624)).trans hx629_2
                          replace hx629_3 := (cell_far (p := ⟨gb628, 1, none⟩) (by first | (rw [add_block]; exact hn629_1) | (show (Addr.add _ _).block ≠ _; rw [add_block]; exact hn629_1) | exact hn629_1) (.int .i64 t624)).trans hx629_3
                          replace hx629_0 := (cell_far (p := ⟨gb628, 2, none⟩) (by first | (rw [add_block]; exact hn629_2) | (show (Addr.add _ _).block ≠ _; rw [add_block]; exact hn629_2) | exact hn629_2) (.int .i64 t625)).trans hx629_0
                          replace hx629_1 := (cell_far (p := ⟨gb628, 2, none⟩) (by first | (rw [add_block]; exact hn629_2) | (show (Addr.add _ _).block ≠ _; rw [add_block]; exact hn629_2) | exact hn629_2) (.int .i64 t625)).trans hx629_1
                          replace hx629_2 := (cell_far (p := ⟨gb628, 2, none⟩) (by first | (rw [add_block]; exact hn629_2) | (show (Addr.add _ _).block ≠ _; rw [add_block]; exact hn629_2) | exact hn629_2) (.int .i64 t625)).trans hx629_2
                          replace hx629_3 := (cell_far (p := ⟨gb628, 2, none⟩) (by first | (rw [add_block]; exact hn629_2) | (show (Addr.add _ _).block ≠ _; rw [add_block]; exact hn629_2) | exact hn629_2) (.int .i64 t625)).trans hx629_3
                          replace hx629_0 := (cell_far (p := ⟨gb628, 3, none⟩) (by first | (rw [add_block]; exact hn629_3) | (show (Addr.add _ _).block ≠ _; rw [add_block]; exact hn629_3) | exact hn629_3) (.bool t626)).trans hx629_0
                          replace hx629_1 := (cell_far (p := ⟨gb628, 3, none⟩) (by first | (rw [add_block]; exact hn629_3) | (show (Addr.add _ _).block ≠ _; rw [add_block]; exact hn629_3) | exact hn629_3) (.bool t626)).trans hx629_1
                          replace hx629_2 := (cell_far (p := ⟨gb628, 3, none⟩) (by first | (rw [add_block]; exact hn629_3) | (show (Addr.add _ _).block ≠ _; rw [add_block]; exact hn629_3) | exact hn629_3) (.bool t626)).trans hx629_2
                          replace hx629_3 := (cell_far (p := ⟨gb628, 3, none⟩) (by first | (rw [add_block]; exact hn629_3) | (show (Addr.add _ _).block ≠ _; rw [add_block]; exact hn629_3) | exact hn629_3) (.bool t626)).trans hx629_3
                          (try have hy629_0 := fun (n_ : Nat) => (show ((((((w49.drewN n_).setCell ⟨gb628, 0, none⟩ (.int .i64 t623)).setCell ⟨gb628, 1, none⟩ (.int .i64 t624)).setCell ⟨gb628, 2, none⟩ (.int .i64 t625)).setCell ⟨gb628, 3, none⟩ (.bool t626))).cell? _ = some _ from hx629_0))
                          (try have hy629_1 := fun (n_ : Nat) => (show ((((((w49.drewN n_).setCell ⟨gb628, 0, none⟩ (.int .i64 t623)).setCell ⟨gb628, 1, none⟩ (.int .i64 t624)).setCell ⟨gb628, 2, none⟩ (.int .i64 t625)).setCell ⟨gb628, 3, none⟩ (.bool t626))).cell? _ = some _ from hx629_1))
                          (try have hy629_2 := fun (n_ : Nat) => (show ((((((w49.drewN n_).setCell ⟨gb628, 0, none⟩ (.int .i64 t623)).setCell ⟨gb628, 1, none⟩ (.int .i64 t624)).setCell ⟨gb628, 2, none⟩ (.int .i64 t625)).setCell ⟨gb628, 3, none⟩ (.bool t626))).cell? _ = some _ from hx629_2))
                          (try have hy629_3 := fun (n_ : Nat) => (show ((((((w49.drewN n_).setCell ⟨gb628, 0, none⟩ (.int .i64 t623)).setCell ⟨gb628, 1, none⟩ (.int .i64 t624)).setCell ⟨gb628, 2, none⟩ (.int .i64 t625)).setCell ⟨gb628, 3, none⟩ (.bool t626))).cell? _ = some _ from hx629_3))
                          clear hn629_0
                          clear hn629_1
                          clear hn629_2
                          clear hn629_3
                          replace p629 := eq_true p629
                          replace q629 := eq_true q629
                          go_wp2
                          repeat (go_quiet (fail); try go_wp2)
                          go_meet
                          case rel => exact ⟨_, (true), (by first | rfl | (simp; done) | (simp [*]; done)), H', ⟨by have := HJ5.out; have := HK2.out; have := HK3.out; first | omega | exact Nat.le_refl _⟩, ⟨by (with_reducible repeat (first | apply Kd.R_alloc | apply Kd.R_drewN | apply Kd.R_drew)); exact Kd.R_mono (Kd.R_far (p := ⟨gb628, 3, none⟩) (Kd.R_far (p := ⟨gb628, 2, none⟩) (Kd.R_far (p := ⟨gb628, 1, none⟩) (Kd.R_far (p := ⟨gb628, 0, none⟩) (Kd.R_types HO_9.out BK628.out (by decide)) (fun _ hk => hk.2) (.int .i64 t623)) (fun _ hk => hk.2) (.int .i64 t624)) (fun _ hk => hk.2) (.int .i64 t625)) (fun _ hk => hk.2) (.bool t626)) (fun _ hk => trivial)⟩, ⟨by (with_reducible repeat (first | refine blk_drewN ?_ _ | refine blk_drew ?_ | refine blk_alloc ?_ _)); refine blk_put (cs := #[.int .i64 t623, .int .i64 t624, .int .i64 t625, .bool false]) ?_ 3 _ rfl; (with_reducible repeat (first | refine blk_drewN ?_ _ | refine blk_drew ?_ | refine blk_alloc ?_ _)); refine blk_put (cs := #[.int .i64 t623, .int .i64 t624, .int .i64 0, .bool false]) ?_ 2 _ rfl; (with_reducible repeat (first | refine blk_drewN ?_ _ | refine blk_drew ?_ | refine blk_alloc ?_ _)); refine blk_put (cs := #[.int .i64 t623, .int .i64 0, .int .i64 0, .bool false]) ?_ 1 _ rfl; (with_reducible repeat (first | refine blk_drewN ?_ _ | refine blk_drew ?_ | refine blk_alloc ?_ _)); refine blk_put (cs := #[.int .i64 0, .int .i64 0, .int .i64 0, .bool false]) ?_ 0 _ rfl; (with_reducible repeat (first | refine blk_drewN ?_ _ | refine blk_drew ?_ | refine blk_alloc ?_ _)); exact BK628.out⟩, ⟨by repeat (first | (with_reducible first | exact HB.out | apply below_alloc | apply pw_below_drewN | apply below_drew1 | refine below_set ?_ GE628.out) | exact HB.out)⟩⟩
                      case rest =>
                        clear HC47
                        try clear c1
                        try clear c2
                        try clear p2
                        try clear c3
                        try clear c4
                        try clear c5
                        try clear p6
                        try clear q6
                        try clear hx6
                        try clear c9
                        try clear c10
                        try clear c13
                        try clear c13b0
                        try clear c16
                        try clear c16b0
                        try clear c17
                        try clear c17b0
                        try clear c18
                        try clear c18b0
                        try clear c19
                        try clear c19b0
                        try clear c20
                        try clear c20b0
                        try clear c21
                        try clear c21b0
                        try clear c21b1
                        try clear c22
                        try clear c23
                        try clear c23b0
                        try clear c24
                        try clear c24b0
                        try clear c25
                        try clear c25b0
                        try clear c26
                        try clear c26b0
                        try clear c28
                        try clear c29
                        try clear c30
                        try clear c30b0
                        try clear c44
                        try clear c44b0
                        try clear c45
                        try clear c45b0
                        try clear c51
                        try clear c51b0
                        try clear c51b1
                        try clear c52
                        try clear c52b0
                        try clear c52b1
                        try clear hcz33_0
                        try clear hcz33_1
                        try clear hcz33_2
                        try clear hcz33_3
                        try clear hcz36_0
                        try clear hcz36_1
                        try clear hcz36_2
                        try clear hcz36_3
                        try clear hcz39_0
                        try clear hcz39_1
                        try clear hcz39_2
                        try clear hcz39_3
                        try clear hcz42_0
                        try clear hcz42_1
                        try clear hcz42_2
                        try clear hcz42_3
                        try clear hcz50_0
                        try clear hcz50_1
                        try clear hcz50_2
                        try clear hcz50_3
                        try clear hcz53_0
                        try clear hcz53_1
                        try clear hcz53_2
                        try clear hcz53_3
                        try clear hfz33_0
                        try clear hfz33_1
                        try clear hfz33_2
                        try clear hfz33_3
                        try clear hfz36_0
                        try clear hfz36_1
                        try clear hfz36_2
                        try clear hfz36_3
                        try clear hfz39_0
                        try clear hfz39_1
                        try clear hfz39_2
                        try clear hfz39_3
                        try clear hfz42_0
                        try clear hfz42_1
                        try clear hfz42_2
                        try clear hfz42_3
                        try clear hfz50_0
                        try clear hfz50_1
                        try clear hfz50_2
                        try clear hfz50_3
                        try clear hfz53_0
                        try clear hfz53_1
                        try clear hfz53_2
                        try clear hfz53_3
                        try clear hx608_0
                        try clear hx609_0
                        try clear hx610_0
                        try clear hx611_0
                        try clear hx611_1
                        try clear hx611_2
                        try clear hx611_3
                        try clear hx612_0
                        try clear hx613_0
                        try clear hx613_1
                        try clear hx613_2
                        try clear hx613_3
                        try clear hx614_0
                        try clear hx615_0
                        try clear hx615_1
                        try clear hx615_2
                        try clear hx615_3
                        try clear hx622_0
                        try clear hx622_1
                        try clear hx622_2
                        try clear hx622_3
                        try clear hx629_0
                        try clear hx629_1
                        try clear hx629_2
                        try clear hx629_3
                        try clear hx630_0
                        try clear hx630_1
                        try clear hx630_2
                        try clear hx630_3
                        try clear p2
                        try clear p6
                        try clear p608
                        try clear p609
                        try clear p610
                        try clear p611
                        try clear p612
                        try clear p613
                        try clear p614
                        try clear p615
                        try clear p622
                        try clear p629
                        try clear p630
                        try clear q6
                        try clear q608
                        try clear q609
                        try clear q610
                        try clear q611
                        try clear q612
                        try clear q613
                        try clear q614
                        try clear q615
                        try clear q622
                        try clear q629
                        try clear q630
                        obtain ⟨kq, x143_46, rfl, HA, HJ46, HO_9, BK628, HB⟩ := hcut
                        cases kq with
                        | zero => exact absurd HA.out (by simp [cartouchelaw08_HistoryVersions.j4])
                        | succ kj46 =>
                          have H := HA.out
                          clear HA
                          simp only [cartouchelaw08_HistoryVersions.j4] at H
                          by_cases c54 : x143_46 = true
                          · subst c54
                            have H1 : (cartouchelaw08_HistoryVersions.l1 kj46 l0 a1 t601 t605 (wrap64 (x14_3 + 1))) = some r := by rw [if_pos rfl] at H; exact H
                            clear H
                            have H := H1
                            clear H1
                            have H' := Aside0.mk H
                            clear H
                            go_wp2
                            repeat (go_quiet (fail); try go_wp2)
                            go_roundg kj46
                            case measure => have := HJ5.out; have := HK2.out; have := HK3.out; have := HJ46.out; omega
                            case rel => exact ⟨(wrap64 (x14_3 + 1)), (by first | rfl | (simp; done) | (simp [*]; done)), H', ⟨by have := HJ5.out; have := HK2.out; have := HK3.out; have := HJ46.out; omega⟩, ⟨by (with_reducible repeat (first | apply Kd.R_alloc | apply Kd.R_drewN | apply Kd.R_drew)); exact HO_9.out⟩, ⟨by repeat (first | (with_reducible first | exact HB.out | apply below_alloc | apply pw_below_drewN | apply below_drew1 | refine below_set ?_ GE628.out) | exact HB.out)⟩⟩
                          · replace c54 := Bool.eq_false_iff.mpr c54
                            subst c54
                            have H1 : (cartouchelaw08_HistoryVersions.l2 kj46 l0 a1 t601 t605 x14_3 false 0) = some r := by rw [if_neg (show ¬ (false = true) by decide)] at H; exact H
                            clear H
                            have H := H1
                            clear H1
                            have H' := Aside0.mk H
                            clear H
                            go_wp2
                            repeat (go_quiet (fail); try go_wp2)
                            go_loopg [17, 18] kj46 (fun kq v17 v18 w' => ∃ (x17_5 : Bool) (x18_5 : Int), v17 = .bool x17_5 ∧ v18 = .int .i64 x18_5 ∧ Aside0 (cartouchelaw08_HistoryVersions.l2 kq l0 a1 t601 t605 x14_3 x17_5 x18_5 = some r) ∧ Aside0 (kq ≤ kj46) ∧ Aside0 (Kd.R (Kd.int .i64) 3 w' w.heap.size (fun _ => True) (.slice Ao43 t605.length co43) t605) ∧ Aside0 (w'.heap[gb628]? = some (.cells #[.int .i64 t623, .int .i64 t624, .int .i64 t625, .bool t626] 33 (0, 0))) ∧ Aside0 (Below w.heap.size w w'))
                            case atStart => exact ⟨(false), (0), (by first | rfl | (simp; done) | (simp [*]; done)), (by first | rfl | (simp; done) | (simp [*]; done)), H', ⟨Nat.le_refl _⟩, ⟨by (with_reducible repeat (first | apply Kd.R_alloc | apply Kd.R_drewN | apply Kd.R_drew)); exact HO_9.out⟩, ⟨by (with_reducible repeat (first | refine blk_drewN ?_ _ | refine blk_drew ?_ | refine blk_alloc ?_ _)); exact BK628.out⟩, ⟨by repeat (first | (with_reducible first | exact HB.out | apply below_alloc | apply pw_below_drewN | apply below_drew1 | refine below_set ?_ GE628.out) | exact HB.out)⟩⟩
                            case round =>
                              clear H'
                              try clear c1
                              try clear c2
                              try clear p2
                              try clear c3
                              try clear c4
                              try clear c5
                              try clear p6
                              try clear q6
                              try clear hx6
                              try clear c9
                              try clear c10
                              try clear c13
                              try clear c13b0
                              try clear c16
                              try clear c16b0
                              try clear c17
                              try clear c17b0
                              try clear c18
                              try clear c18b0
                              try clear c19
                              try clear c19b0
                              try clear c20
                              try clear c20b0
                              try clear c21
                              try clear c21b0
                              try clear c21b1
                              try clear c22
                              try clear c23
                              try clear c23b0
                              try clear c24
                              try clear c24b0
                              try clear c25
                              try clear c25b0
                              try clear c26
                              try clear c26b0
                              try clear c28
                              try clear c29
                              try clear c30
                              try clear c30b0
                              try clear c44
                              try clear c44b0
                              try clear c45
                              try clear c45b0
                              try clear c51
                              try clear c51b0
                              try clear c51b1
                              try clear c52
                              try clear c52b0
                              try clear c52b1
                              try clear c54
                              try clear hcz33_0
                              try clear hcz33_1
                              try clear hcz33_2
                              try clear hcz33_3
                              try clear hcz36_0
                              try clear hcz36_1
                              try clear hcz36_2
                              try clear hcz36_3
                              try clear hcz39_0
                              try clear hcz39_1
                              try clear hcz39_2
                              try clear hcz39_3
                              try clear hcz42_0
                              try clear hcz42_1
                              try clear hcz42_2
                              try clear hcz42_3
                              try clear hcz50_0
                              try clear hcz50_1
                              try clear hcz50_2
                              try clear hcz50_3
                              try clear hcz53_0
                              try clear hcz53_1
                              try clear hcz53_2
                              try clear hcz53_3
                              try clear hfz33_0
                              try clear hfz33_1
                              try clear hfz33_2
                              try clear hfz33_3
                              try clear hfz36_0
                              try clear hfz36_1
                              try clear hfz36_2
                              try clear hfz36_3
                              try clear hfz39_0
                              try clear hfz39_1
                              try clear hfz39_2
                              try clear hfz39_3
                              try clear hfz42_0
                              try clear hfz42_1
                              try clear hfz42_2
                              try clear hfz42_3
                              try clear hfz50_0
                              try clear hfz50_1
                              try clear hfz50_2
                              try clear hfz50_3
                              try clear hfz53_0
                              try clear hfz53_1
                              try clear hfz53_2
                              try clear hfz53_3
                              try clear hx608_0
                              try clear hx609_0
                              try clear hx610_0
                              try clear hx611_0
                              try clear hx611_1
                              try clear hx611_2
                              try clear hx611_3
                              try clear hx612_0
                              try clear hx613_0
                              try clear hx613_1
                              try clear hx613_2
                              try clear hx613_3
                              try clear hx614_0
                              try clear hx615_0
                              try clear hx615_1
                              try clear hx615_2
                              try clear hx615_3
                              try clear hx622_0
                              try clear hx622_1
                              try clear hx622_2
                              try clear hx622_3
                              try clear hx629_0
                              try clear hx629_1
                              try clear hx629_2
                              try clear hx629_3
                              try clear hx630_0
                              try clear hx630_1
                              try clear hx630_2
                              try clear hx630_3
                              try clear p2
                              try clear p6
                              try clear p608
                              try clear p609
                              try clear p610
                              try clear p611
                              try clear p612
                              try clear p613
                              try clear p614
                              try clear p615
                              try clear p622
                              try clear p629
                              try clear p630
                              try clear q6
                              try clear q608
                              try clear q609
                              try clear q610
                              try clear q611
                              try clear q612
                              try clear q613
                              try clear q614
                              try clear q615
                              try clear q622
                              try clear q629
                              try clear q630
                              obtain ⟨x17_5, x18_5, rfl, rfl, HA, HK5, HO_9, BK628, HB⟩ := hrel
                              cases gk with
                              | zero => exact absurd HA.out (by simp [cartouchelaw08_HistoryVersions.l2])
                              | succ k5 =>
                                have H := HA.out
                                clear HA
                                simp only [cartouchelaw08_HistoryVersions.l2] at H
                                by_cases c55 : x18_5 < (t605.length : Int)
                                · rw [if_pos c55] at H
                                  have c55b0 : decide (x18_5 < (t605.length : Int)) = true := decide_eq_true c55
                                  clear c55
                                  by_cases c56 : x17_5 = true
                                  · subst c56
                                    have H1 : (cartouchelaw08_HistoryVersions.l2 k5 l0 a1 t601 t605 x14_3 true (wrap64 (x18_5 + 1))) = some r := by rw [if_pos rfl] at H; exact H
                                    clear H
                                    have H := H1
                                    clear H1
                                    have H' := Aside0.mk H
                                    clear H
                                    go_wp2
                                    repeat (go_quiet (fail); try go_wp2)
                                    go_roundg k5
                                    case measure => have := HJ5.out; have := HK2.out; have := HK3.out; have := HJ46.out; have := HK5.out; omega
                                    case rel => exact ⟨(true), (wrap64 (x18_5 + 1)), (by first | rfl | (simp; done) | (simp [*]; done)), (by first | rfl | (simp; done) | (simp [*]; done)), H', ⟨by have := HJ5.out; have := HK2.out; have := HK3.out; have := HJ46.out; have := HK5.out; omega⟩, ⟨by (with_reducible repeat (first | apply Kd.R_alloc | apply Kd.R_drewN | apply Kd.R_drew)); exact HO_9.out⟩, ⟨by (with_reducible repeat (first | refine blk_drewN ?_ _ | refine blk_drew ?_ | refine blk_alloc ?_ _)); exact BK628.out⟩, ⟨by repeat (first | (with_reducible first | exact HB.out | apply below_alloc | apply pw_below_drewN | apply below_drew1 | refine below_set ?_ GE628.out) | exact HB.out)⟩⟩
                                  · replace c56 := Bool.eq_false_iff.mpr c56
                                    subst c56
                                    have H1 : (if 0 ≤ x18_5 then (if 0 ≤ (rd t605 x18_5) then (if (rd t605 x18_5) < (l0.length : Int) then (if 0 ≤ x14_3 then (if x14_3 < (l0.length : Int) then (if ((rd_T31 l0 (rd t605 x18_5)).f1) = ((rd_T31 l0 x14_3).f1) then (cartouchelaw08_HistoryVersions.l2 k5 l0 a1 t601 t605 x14_3 (decide ((rd t605 x18_5) ≥ x14_3)) (wrap64 (x18_5 + 1))) else (cartouchelaw08_HistoryVersions.l2 k5 l0 a1 t601 t605 x14_3 false (wrap64 (x18_5 + 1)))) else (none)) else (none)) else (none)) else (none)) else (none)) = some r := by rw [if_neg (show ¬ (false = true) by decide)] at H; exact H
                                    clear H
                                    have H := H1
                                    clear H1
                                    by_cases c57 : 0 ≤ x18_5
                                    · rw [if_pos c57] at H
                                      have c57b0 : decide (0 ≤ x18_5) = true := decide_eq_true c57
                                      clear c57
                                      by_cases c58 : 0 ≤ (rd t605 x18_5)
                                      · rw [if_pos c58] at H
                                        have c58b0 : decide (0 ≤ (rd t605 x18_5)) = true := decide_eq_true c58
                                        clear c58
                                        by_cases c59 : (rd t605 x18_5) < (l0.length : Int)
                                        · rw [if_pos c59] at H
                                          have c59b0 : decide ((rd t605 x18_5) < (l0.length : Int)) = true := decide_eq_true c59
                                          clear c59
                                          by_cases c60 : 0 ≤ x14_3
                                          · rw [if_pos c60] at H
                                            have c60b0 : decide (0 ≤ x14_3) = true := decide_eq_true c60
                                            clear c60
                                            by_cases c61 : x14_3 < (l0.length : Int)
                                            · rw [if_pos c61] at H
                                              have c61b0 : decide (x14_3 < (l0.length : Int)) = true := decide_eq_true c61
                                              clear c61
                                              by_cases c62 : ((rd_T31 l0 (rd t605 x18_5)).f1) = ((rd_T31 l0 x14_3).f1)
                                              · rw [if_pos c62] at H
                                                have c62b0 : (((rd_T31 l0 (rd t605 x18_5)).f1) == ((rd_T31 l0 x14_3).f1)) = true := beq_iff_eq.mpr c62
                                                have c62b1 : (((rd_T31 l0 (rd t605 x18_5)).f1) != ((rd_T31 l0 x14_3).f1)) = false := bne_eq_false_iff_eq.mpr c62
                                                clear c62
                                                have H' := Aside0.mk H
                                                clear H
                                                have p631 : 0 ≤ (x18_5 : Int) := of_decide_eq_true (by first | (with_reducible assumption) | assumption)
                                                have q631 : x18_5 < (t605.length : Int) := of_decide_eq_true (by first | (with_reducible assumption) | assumption)
                                                obtain ⟨ad631, e631, hx631_0⟩ := Kd.at_int (Kd.R_reads' HO_9.out).2.2 x18_5 p631 q631
                                                cases e631
                                                replace p631 := eq_true p631
                                                replace q631 := eq_true q631
                                                have p632 : 0 ≤ ((rd t605 x18_5) : Int) := of_decide_eq_true (by first | (with_reducible assumption) | assumption)
                                                have q632 : (rd t605 x18_5) < (l0.length : Int) := of_decide_eq_true (by first | (with_reducible assumption) | assumption)
                                                obtain ⟨ad632, e632, hx632_0, hx632_1, hx632_2, hx632_3⟩ := at_T31 HR0.out (rd t605 x18_5) p632 q632
                                                obtain rfl : ad622 = ad632 := (by injection e632)
                                                replace hx632_0 := (HB.out.cell (World.block_lt_of_cell? w _ hx632_0)).trans hx632_0
                                                replace hx632_1 := (HB.out.cell (World.block_lt_of_cell? w _ hx632_1)).trans hx632_1
                                                replace hx632_2 := (HB.out.cell (World.block_lt_of_cell? w _ hx632_2)).trans hx632_2
                                                replace hx632_3 := (HB.out.cell (World.block_lt_of_cell? w _ hx632_3)).trans hx632_3
                                                replace p632 := eq_true p632
                                                replace q632 := eq_true q632
                                                have p633 : 0 ≤ (x14_3 : Int) := of_decide_eq_true (by first | (with_reducible assumption) | assumption)
                                                have q633 : x14_3 < (l0.length : Int) := of_decide_eq_true (by first | (with_reducible assumption) | assumption)
                                                obtain ⟨ad633, e633, hx633_0, hx633_1, hx633_2, hx633_3⟩ := at_T31 HR0.out x14_3 p633 q633
                                                obtain rfl : ad622 = ad633 := (by injection e633)
                                                replace hx633_0 := (HB.out.cell (World.block_lt_of_cell? w _ hx633_0)).trans hx633_0
                                                replace hx633_1 := (HB.out.cell (World.block_lt_of_cell? w _ hx633_1)).trans hx633_1
                                                replace hx633_2 := (HB.out.cell (World.block_lt_of_cell? w _ hx633_2)).trans hx633_2
                                                replace hx633_3 := (HB.out.cell (World.block_lt_of_cell? w _ hx633_3)).trans hx633_3
                                                replace p633 := eq_true p633
                                                replace q633 := eq_true q633
                                                have p634 : 0 ≤ (x18_5 : Int) := of_decide_eq_true (by first | (with_reducible assumption) | assumption)
                                                have q634 : x18_5 < (t605.length : Int) := of_decide_eq_true (by first | (with_reducible assumption) | assumption)
                                                obtain ⟨ad634, e634, hx634_0⟩ := Kd.at_int (Kd.R_reads' HO_9.out).2.2 x18_5 p634 q634
                                                obtain rfl : ad631 = ad634 := (by injection e634)
                                                replace p634 := eq_true p634
                                                replace q634 := eq_true q634
                                                go_wp2
                                                repeat (go_quiet (fail); try go_wp2)
                                                go_roundg k5
                                                case measure => have := HJ5.out; have := HK2.out; have := HK3.out; have := HJ46.out; have := HK5.out; omega
                                                case rel => exact ⟨(decide ((rd t605 x18_5) ≥ x14_3)), (wrap64 (x18_5 + 1)), (by first | rfl | (simp; done) | (simp [*]; done)), (by first | rfl | (simp; done) | (simp [*]; done)), H', ⟨by have := HJ5.out; have := HK2.out; have := HK3.out; have := HJ46.out; have := HK5.out; omega⟩, ⟨by (with_reducible repeat (first | apply Kd.R_alloc | apply Kd.R_drewN | apply Kd.R_drew)); exact HO_9.out⟩, ⟨by (with_reducible repeat (first | refine blk_drewN ?_ _ | refine blk_drew ?_ | refine blk_alloc ?_ _)); exact BK628.out⟩, ⟨by repeat (first | (with_reducible first | exact HB.out | apply below_alloc | apply pw_below_drewN | apply below_drew1 | refine below_set ?_ GE628.out) | exact HB.out)⟩⟩
                                              · rw [if_neg c62] at H
                                                have c62b0 : (((rd_T31 l0 (rd t605 x18_5)).f1) == ((rd_T31 l0 x14_3).f1)) = false := beq_eq_false_iff_ne.mpr c62
                                                have c62b1 : (((rd_T31 l0 (rd t605 x18_5)).f1) != ((rd_T31 l0 x14_3).f1)) = true := bne_iff_ne.mpr c62
                                                have H' := Aside0.mk H
                                                clear H
                                                have p631 : 0 ≤ (x18_5 : Int) := of_decide_eq_true (by first | (with_reducible assumption) | assumption)
                                                have q631 : x18_5 < (t605.length : Int) := of_decide_eq_true (by first | (with_reducible assumption) | assumption)
                                                obtain ⟨ad631, e631, hx631_0⟩ := Kd.at_int (Kd.R_reads' HO_9.out).2.2 x18_5 p631 q631
                                                cases e631
                                                replace p631 := eq_true p631
                                                replace q631 := eq_true q631
                                                have p632 : 0 ≤ ((rd t605 x18_5) : Int) := of_decide_eq_true (by first | (with_reducible assumption) | assumption)
                                                have q632 : (rd t605 x18_5) < (l0.length : Int) := of_decide_eq_true (by first | (with_reducible assumption) | assumption)
                                                obtain ⟨ad632, e632, hx632_0, hx632_1, hx632_2, hx632_3⟩ := at_T31 HR0.out (rd t605 x18_5) p632 q632
                                                obtain rfl : ad622 = ad632 := (by injection e632)
                                                replace hx632_0 := (HB.out.cell (World.block_lt_of_cell? w _ hx632_0)).trans hx632_0
                                                replace hx632_1 := (HB.out.cell (World.block_lt_of_cell? w _ hx632_1)).trans hx632_1
                                                replace hx632_2 := (HB.out.cell (World.block_lt_of_cell? w _ hx632_2)).trans hx632_2
                                                replace hx632_3 := (HB.out.cell (World.block_lt_of_cell? w _ hx632_3)).trans hx632_3
                                                replace p632 := eq_true p632
                                                replace q632 := eq_true q632
                                                have p633 : 0 ≤ (x14_3 : Int) := of_decide_eq_true (by first | (with_reducible assumption) | assumption)
                                                have q633 : x14_3 < (l0.length : Int) := of_decide_eq_true (by first | (with_reducible assumption) | assumption)
                                                obtain ⟨ad633, e633, hx633_0, hx633_1, hx633_2, hx633_3⟩ := at_T31 HR0.out x14_3 p633 q633
                                                obtain rfl : ad622 = ad633 := (by injection e633)
                                                replace hx633_0 := (HB.out.cell (World.block_lt_of_cell? w _ hx633_0)).trans hx633_0
                                                replace hx633_1 := (HB.out.cell (World.block_lt_of_cell? w _ hx633_1)).trans hx633_1
                                                replace hx633_2 := (HB.out.cell (World.block_lt_of_cell? w _ hx633_2)).trans hx633_2
                                                replace hx633_3 := (HB.out.cell (World.block_lt_of_cell? w _ hx633_3)).trans hx633_3
                                                replace p633 := eq_true p633
                                                replace q633 := eq_true q633
                                                go_wp2
                                                repeat (go_quiet (fail); try go_wp2)
                                                go_roundg k5
                                                case measure => have := HJ5.out; have := HK2.out; have := HK3.out; have := HJ46.out; have := HK5.out; omega
                                                case rel => exact ⟨(false), (wrap64 (x18_5 + 1)), (by first | rfl | (simp; done) | (simp [*]; done)), (by first | rfl | (simp; done) | (simp [*]; done)), H', ⟨by have := HJ5.out; have := HK2.out; have := HK3.out; have := HJ46.out; have := HK5.out; omega⟩, ⟨by (with_reducible repeat (first | apply Kd.R_alloc | apply Kd.R_drewN | apply Kd.R_drew)); exact HO_9.out⟩, ⟨by (with_reducible repeat (first | refine blk_drewN ?_ _ | refine blk_drew ?_ | refine blk_alloc ?_ _)); exact BK628.out⟩, ⟨by repeat (first | (with_reducible first | exact HB.out | apply below_alloc | apply pw_below_drewN | apply below_drew1 | refine below_set ?_ GE628.out) | exact HB.out)⟩⟩
                                            · rw [if_neg c61] at H
                                              exact absurd H (by simp)
                                          · rw [if_neg c60] at H
                                            exact absurd H (by simp)
                                        · rw [if_neg c59] at H
                                          exact absurd H (by simp)
                                      · rw [if_neg c58] at H
                                        exact absurd H (by simp)
                                    · rw [if_neg c57] at H
                                      exact absurd H (by simp)
                                · rw [if_neg c55] at H
                                  have c55b0 : decide (x18_5 < (t605.length : Int)) = false := decide_eq_false c55
                                  clear c55
                                  by_cases c63 : x17_5 = true
                                  · subst c63
                                    have H1 : (cartouchelaw08_HistoryVersions.l1 k5 l0 a1 t601 t605 (wrap64 (x14_3 + 1))) = some r := by rw [if_pos rfl] at H; exact H
                                    clear H
                                    have H := H1
                                    clear H1
                                    have H' := Aside0.mk H
                                    clear H
                                    go_wp2
                                    repeat (go_quiet (fail); try go_wp2)
                                    go_roundg k5
                                    case measure => have := HJ5.out; have := HK2.out; have := HK3.out; have := HJ46.out; have := HK5.out; omega
                                    case rel => exact ⟨(wrap64 (x14_3 + 1)), (by first | rfl | (simp; done) | (simp [*]; done)), H', ⟨by have := HJ5.out; have := HK2.out; have := HK3.out; have := HJ46.out; have := HK5.out; omega⟩, ⟨by (with_reducible repeat (first | apply Kd.R_alloc | apply Kd.R_drewN | apply Kd.R_drew)); exact HO_9.out⟩, ⟨by repeat (first | (with_reducible first | exact HB.out | apply below_alloc | apply pw_below_drewN | apply below_drew1 | refine below_set ?_ GE628.out) | exact HB.out)⟩⟩
                                  · replace c63 := Bool.eq_false_iff.mpr c63
                                    subst c63
                                    have H1 : (some false) = some r := by rw [if_neg (show ¬ (false = true) by decide)] at H; exact H
                                    clear H
                                    have H := H1
                                    clear H1
                                    obtain rfl := Option.some.inj H
                                    go_wp2
                                    repeat (go_quiet (fail); try go_wp2)
                                    go_ret
                                    exact ⟨by first | rfl | (simp [errW_none, errW_some] <;> rfl) | (simp [*, errW_none, errW_some] <;> rfl), by repeat (first | (with_reducible first | exact HB.out | apply below_alloc | apply pw_below_drewN | apply below_drew1 | refine below_set ?_ GE628.out) | exact HB.out)⟩
                    · rw [if_neg c45] at H
                      exact absurd H (by simp)
                  · rw [if_neg c44] at H
                    have c44b0 : decide (x14_3 < (l0.length : Int)) = false := decide_eq_false c44
                    clear c44
                    obtain rfl := Option.some.inj H
                    go_wp2
                    repeat (go_quiet (fail); try go_wp2)
                    go_ret
                    exact ⟨by first | rfl | (simp [errW_none, errW_some] <;> rfl) | (simp [*, errW_none, errW_some] <;> rfl), by repeat (first | (with_reducible first | exact HB.out | apply below_alloc | apply pw_below_drewN | apply below_drew1) | exact HB.out)⟩

end Go.Proofs.YthjgmccpbcelgaaPr
