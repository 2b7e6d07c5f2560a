/- Contracts of Go functions, printed by a program of this session over the translation: each call answers what its Lean function says. -/
import Derived.Test.YthjgmccpbcelgaaPr0
import Derived.Test.YthjgmccpbcelgaaPr16
import Derived.Test.YthjgmccpbcelgaaPr17
import Derived.Test.YthjgmccpbcelgaaPr19
import Derived.Test.YthjgmccpbcelgaaB8
namespace Go.Proofs.YthjgmccpbcelgaaPr
open Go.RowKit Go.Proofs.YthjgmccpbcelgaaW.PrintWords Go.Proofs.YthjgmccpbcelgaaW.PrintLast Go.Proofs.YthjgmccpbcelgaaW.PrintMore
attribute [local go_sem] max2_int min2_int max_two min_two max_three min_three max_four min_four   -- for this text's walks alone
set_option linter.unusedVariables false
set_option linter.unusedSimpArgs false

/-! ### cartouchelaw11_RingMade: function 9 -/
mutual
def cartouchelaw11_RingMade.j0 : Nat → List (S50) → Bool → List (S50) → Bool → Option (Bool)
  | 0, _, _, _, _ => none
  | k + 1, x0, x3, x5, x24 => if x24 = true then (some x3) else (cartouchelaw11_RingMade.l0 k x0 x3 x5 0)
def cartouchelaw11_RingMade.l0 : Nat → List (S50) → Bool → List (S50) → Int → Option (Bool)
  | 0, _, _, _, _ => none
  | k + 1, x0, x3, x5, x7 => if x7 < (x5.length : Int) then (cartouchelaw11_RingMade.l1 k x0 x3 x5 x7 false 0) else (if x3 = true then (some (decide ((x5.length : Int) > 0))) else (some false))
def cartouchelaw11_RingMade.l1 : Nat → List (S50) → Bool → List (S50) → Int → Bool → Int → Option (Bool)
  | 0, _, _, _, _, _, _ => none
  | k + 1, x0, x3, x5, x7, x8, x9 => if x9 < (x0.length : Int) then (if 0 ≤ x9 then (if x9 ≤ (wrap64 (x9 + 1)) then (if (wrap64 (x9 + 1)) ≤ (x0.length : Int) then (if 0 ≤ x7 then (if x7 ≤ (wrap64 (x7 + 1)) then (if (wrap64 (x7 + 1)) ≤ (x5.length : Int) then ((cartoucheref10_SameSteps.f k ((x0.take ((wrap64 (x9 + 1)) : Int).toNat).drop (x9 : Int).toNat) ((x5.take ((wrap64 (x7 + 1)) : Int).toNat).drop (x7 : Int).toNat)).bind fun t291 => (if x8 = true then (cartouchelaw11_RingMade.j3 k x0 x3 x5 x7 true x9) else (cartouchelaw11_RingMade.j3 k x0 x3 x5 x7 t291 x9))) else (none)) else (none)) else (none)) else (none)) else (none)) else (none)) else (if x8 = true then (cartouchelaw11_RingMade.l0 k x0 x3 x5 (wrap64 (x7 + 1))) else (some false))
def cartouchelaw11_RingMade.j3 : Nat → List (S50) → Bool → List (S50) → Int → Bool → Int → Option (Bool)
  | 0, _, _, _, _, _, _ => none
  | k + 1, x0, x3, x5, x7, x8, x9 => if (x5.length : Int) > 1 then (if 0 ≤ x9 then (if x9 < (x0.length : Int) then (cartouchelaw11_RingMade.j4 k x0 x3 x5 x7 x8 x9 (((rd_T50 x0 x9).f0) == ((rd_T50 x0 x9).f1))) else (none)) else (none)) else (cartouchelaw11_RingMade.j4 k x0 x3 x5 x7 x8 x9 false)
def cartouchelaw11_RingMade.j4 : Nat → List (S50) → Bool → List (S50) → Int → Bool → Int → Bool → Option (Bool)
  | 0, _, _, _, _, _, _, _ => none
  | k + 1, x0, x3, x5, x7, x8, x9, x68 => if x68 = true then (some false) else (cartouchelaw11_RingMade.l1 k x0 x3 x5 x7 x8 (wrap64 (x9 + 1)))
end
def cartouchelaw11_RingMade.f (k : Nat) (l0 : List (S50)) : Option (Bool) := (cartouchelaw11_shown.f).bind fun t276 => ((cartouchelaw11_few.f l0).bind fun t277 => ((ring_Ring.f l0).bind fun bt278 => (if t277 = true then (cartouchelaw11_RingMade.j0 k l0 t276 bt278.1 (!bt278.2)) else (cartouchelaw11_RingMade.j0 k l0 t276 bt278.1 true))))
theorem cartouchelaw11_RingMade.mono_l : ∀ k, (∀ y0 y1 y2 y3, LeO (cartouchelaw11_RingMade.j0 k y0 y1 y2 y3) (cartouchelaw11_RingMade.j0 (k + 1) y0 y1 y2 y3)) ∧ (∀ y0 y1 y2 y3, LeO (cartouchelaw11_RingMade.l0 k y0 y1 y2 y3) (cartouchelaw11_RingMade.l0 (k + 1) y0 y1 y2 y3)) ∧ (∀ y0 y1 y2 y3 y4 y5, LeO (cartouchelaw11_RingMade.l1 k y0 y1 y2 y3 y4 y5) (cartouchelaw11_RingMade.l1 (k + 1) y0 y1 y2 y3 y4 y5)) ∧ (∀ y0 y1 y2 y3 y4 y5, LeO (cartouchelaw11_RingMade.j3 k y0 y1 y2 y3 y4 y5) (cartouchelaw11_RingMade.j3 (k + 1) y0 y1 y2 y3 y4 y5)) ∧ (∀ y0 y1 y2 y3 y4 y5 y6, LeO (cartouchelaw11_RingMade.j4 k y0 y1 y2 y3 y4 y5 y6) (cartouchelaw11_RingMade.j4 (k + 1) y0 y1 y2 y3 y4 y5 y6))
  | 0 => ⟨fun _ _ _ _ r h => by simp [cartouchelaw11_RingMade.j0] at h, fun _ _ _ _ r h => by simp [cartouchelaw11_RingMade.l0] at h, fun _ _ _ _ _ _ r h => by simp [cartouchelaw11_RingMade.l1] at h, fun _ _ _ _ _ _ r h => by simp [cartouchelaw11_RingMade.j3] at h, fun _ _ _ _ _ _ _ r h => by simp [cartouchelaw11_RingMade.j4] at h⟩
  | k + 1 => by
    obtain ⟨ih0, ih1, ih2, ih3, ih4⟩ := cartouchelaw11_RingMade.mono_l k
    refine ⟨?_, ?_, ?_, ?_, ?_⟩
    · intro y0 y1 y2 y3
      unfold cartouchelaw11_RingMade.j0
      repeat' first
      | (with_reducible exact ih0 _ _ _ _)
      | (with_reducible exact ih1 _ _ _ _)
      | (with_reducible exact ih2 _ _ _ _ _ _)
      | (with_reducible exact ih3 _ _ _ _ _ _)
      | (with_reducible exact ih4 _ _ _ _ _ _ _)
      | (with_reducible exact cartoucheref10_SameSteps.mono _ _ _)
      | (with_reducible exact LeO.refl _)
      | (with_reducible exact LeO.none _)
      | (with_reducible refine LeO.ite ?_ ?_)
      | (with_reducible refine LeO.bind ?_ (fun _ => ?_))
      | exact ih0 _ _ _ _
      | exact ih1 _ _ _ _
      | exact ih2 _ _ _ _ _ _
      | exact ih3 _ _ _ _ _ _
      | exact ih4 _ _ _ _ _ _ _
      | exact cartoucheref10_SameSteps.mono _ _ _
      | exact LeO.none _
      | refine LeO.ite ?_ ?_
      | refine LeO.bind ?_ (fun _ => ?_)
    · intro y0 y1 y2 y3
      unfold cartouchelaw11_RingMade.l0
      repeat' first
      | (with_reducible exact ih0 _ _ _ _)
      | (with_reducible exact ih1 _ _ _ _)
      | (with_reducible exact ih2 _ _ _ _ _ _)
      | (with_reducible exact ih3 _ _ _ _ _ _)
      | (with_reducible exact ih4 _ _ _ _ _ _ _)
      | (with_reducible exact cartoucheref10_SameSteps.mono _ _ _)
      | (with_reducible exact LeO.refl _)
      | (with_reducible exact LeO.none _)
      | (with_reducible refine LeO.ite ?_ ?_)
      | (with_reducible refine LeO.bind ?_ (fun _ => ?_))
      | exact ih0 _ _ _ _
      | exact ih1 _ _ _ _
      | exact ih2 _ _ _ _ _ _
      | exact ih3 _ _ _ _ _ _
      | exact ih4 _ _ _ _ _ _ _
      | exact cartoucheref10_SameSteps.mono _ _ _
      | exact LeO.none _
      | refine LeO.ite ?_ ?_
      | refine LeO.bind ?_ (fun _ => ?_)
    · intro y0 y1 y2 y3 y4 y5
      unfold cartouchelaw11_RingMade.l1
      repeat' first
      | (with_reducible exact ih0 _ _ _ _)
      | (with_reducible exact ih1 _ _ _ _)
      | (with_reducible exact ih2 _ _ _ _ _ _)
      | (with_reducible exact ih3 _ _ _ _ _ _)
      | (with_reducible exact ih4 _ _ _ _ _ _ _)
      | (with_reducible exact cartoucheref10_SameSteps.mono _ _ _)
      | (with_reducible exact LeO.refl _)
      | (with_reducible exact LeO.none _)
      | (with_reducible refine LeO.ite ?_ ?_)
      | (with_reducible refine LeO.bind ?_ (fun _ => ?_))
      | exact ih0 _ _ _ _
      | exact ih1 _ _ _ _
      | exact ih2 _ _ _ _ _ _
      | exact ih3 _ _ _ _ _ _
      | exact ih4 _ _ _ _ _ _ _
      | exact cartoucheref10_SameSteps.mono _ _ _
      | exact LeO.none _
      | refine LeO.ite ?_ ?_
      | refine LeO.bind ?_ (fun _ => ?_)
    · intro y0 y1 y2 y3 y4 y5
      unfold cartouchelaw11_RingMade.j3
      repeat' first
      | (with_reducible exact ih0 _ _ _ _)
      | (with_reducible exact ih1 _ _ _ _)
      | (with_reducible exact ih2 _ _ _ _ _ _)
      | (with_reducible exact ih3 _ _ _ _ _ _)
      | (with_reducible exact ih4 _ _ _ _ _ _ _)
      | (with_reducible exact cartoucheref10_SameSteps.mono _ _ _)
      | (with_reducible exact LeO.refl _)
      | (with_reducible exact LeO.none _)
      | (with_reducible refine LeO.ite ?_ ?_)
      | (with_reducible refine LeO.bind ?_ (fun _ => ?_))
      | exact ih0 _ _ _ _
      | exact ih1 _ _ _ _
      | exact ih2 _ _ _ _ _ _
      | exact ih3 _ _ _ _ _ _
      | exact ih4 _ _ _ _ _ _ _
      | exact cartoucheref10_SameSteps.mono _ _ _
      | exact LeO.none _
      | refine LeO.ite ?_ ?_
      | refine LeO.bind ?_ (fun _ => ?_)
    · intro y0 y1 y2 y3 y4 y5 y6
      unfold cartouchelaw11_RingMade.j4
      repeat' first
      | (with_reducible exact ih0 _ _ _ _)
      | (with_reducible exact ih1 _ _ _ _)
      | (with_reducible exact ih2 _ _ _ _ _ _)
      | (with_reducible exact ih3 _ _ _ _ _ _)
      | (with_reducible exact ih4 _ _ _ _ _ _ _)
      | (with_reducible exact cartoucheref10_SameSteps.mono _ _ _)
      | (with_reducible exact LeO.refl _)
      | (with_reducible exact LeO.none _)
      | (with_reducible refine LeO.ite ?_ ?_)
      | (with_reducible refine LeO.bind ?_ (fun _ => ?_))
      | exact ih0 _ _ _ _
      | exact ih1 _ _ _ _
      | exact ih2 _ _ _ _ _ _
      | exact ih3 _ _ _ _ _ _
      | exact ih4 _ _ _ _ _ _ _
      | exact cartoucheref10_SameSteps.mono _ _ _
      | exact LeO.none _
      | refine LeO.ite ?_ ?_
      | refine LeO.bind ?_ (fun _ => ?_)
theorem cartouchelaw11_RingMade.mono : ∀ a0 k, LeO (cartouchelaw11_RingMade.f k a0) (cartouchelaw11_RingMade.f (k + 1) a0) := by
  intro a0 k
  obtain ⟨ih0, ih1, ih2, ih3, ih4⟩ := cartouchelaw11_RingMade.mono_l k
  unfold cartouchelaw11_RingMade.f
  repeat' first
      | (with_reducible exact ih0 _ _ _ _)
      | (with_reducible exact ih1 _ _ _ _)
      | (with_reducible exact ih2 _ _ _ _ _ _)
      | (with_reducible exact ih3 _ _ _ _ _ _)
      | (with_reducible exact ih4 _ _ _ _ _ _ _)
      | (with_reducible exact cartoucheref10_SameSteps.mono _ _ _)
      | (with_reducible exact LeO.refl _)
      | (with_reducible exact LeO.none _)
      | (with_reducible refine LeO.ite ?_ ?_)
      | (with_reducible refine LeO.bind ?_ (fun _ => ?_))
      | exact ih0 _ _ _ _
      | exact ih1 _ _ _ _
      | exact ih2 _ _ _ _ _ _
      | exact ih3 _ _ _ _ _ _
      | exact ih4 _ _ _ _ _ _ _
      | exact cartoucheref10_SameSteps.mono _ _ _
      | exact LeO.none _
      | refine LeO.ite ?_ ?_
      | refine LeO.bind ?_ (fun _ => ?_)
set_option maxHeartbeats 8000000 in
set_option maxRecDepth 100000 in
theorem cartouchelaw11_RingMade.calls (k : Nat) (A0 : Option Addr) (c0 : Nat) (l0 : List (S50)) (r : Bool) (w : World) (hr0 : Kd.C k50 w A0 l0.length l0) (hc0 : l0.length ≤ c0) (h : cartouchelaw11_RingMade.f k l0 = some r) :
    Calls Try.prog 9 #[.slice A0 l0.length c0] w fun e w' => e = .returned (.bool r) ∧ Below w.heap.size w w' := by
  have HR0 := Aside0.mk hr0
  have HC0 := Aside0.mk hc0
  clear hr0 hc0
  have HB := Aside0.mk (Below.refl w.heap.size w)
  have H : ((cartouchelaw11_shown.f).bind fun t276 => ((cartouchelaw11_few.f l0).bind fun t277 => ((ring_Ring.f l0).bind fun bt278 => (if t277 = true then (cartouchelaw11_RingMade.j0 k l0 t276 bt278.1 (!bt278.2)) else (cartouchelaw11_RingMade.j0 k l0 t276 bt278.1 true))))) = some r := h
  clear h
  replace H := Option.bind_eq_some_iff.mp H
  obtain ⟨t276, A20, H⟩ := H
  replace H : ((cartouchelaw11_few.f l0).bind fun t277 => ((ring_Ring.f l0).bind fun bt278 => (if t277 = true then (cartouchelaw11_RingMade.j0 k l0 t276 bt278.1 (!bt278.2)) else (cartouchelaw11_RingMade.j0 k l0 t276 bt278.1 true)))) = some r := H
  have A2 := Aside0.mk A20
  clear A20
  replace H := Option.bind_eq_some_iff.mp H
  obtain ⟨t277, A30, H⟩ := H
  replace H : ((ring_Ring.f l0).bind fun bt278 => (if t277 = true then (cartouchelaw11_RingMade.j0 k l0 t276 bt278.1 (!bt278.2)) else (cartouchelaw11_RingMade.j0 k l0 t276 bt278.1 true))) = some r := H
  have A3 := Aside0.mk A30
  clear A30
  replace H := Option.bind_eq_some_iff.mp H
  obtain ⟨⟨t278, t281⟩, A40, H⟩ := H
  replace H : (if t277 = true then (cartouchelaw11_RingMade.j0 k l0 t276 t278 (!t281)) else (cartouchelaw11_RingMade.j0 k l0 t276 t278 true)) = some r := H
  have A4 := Aside0.mk A40
  clear A40
  have HC5 := Aside0.mk H
  clear H
  go_enter Try.func9, Try.ntmps9
  go_upto_region 4 with (first | (go_at_call 43; (with_reducible refine (cartouchelaw11_shown.calls  t276 _ A2.out).mono ?_); rintro e w6 ⟨rfl, hb⟩; have n0_ := Aside0.mk (below_step (by repeat (first | (with_reducible first | exact HB.out | apply below_alloc | apply pw_below_drewN | apply below_drew1) | exact HB.out)) hb); clear HB; have HB := n0_; clear n0_; (try clear hb); (try clear hb2); (try clear hk); (try clear hi)) | (go_at_call 44; (with_reducible refine (cartouchelaw11_few.calls _ _ l0 t277 _ ?side1 ?side2 A3.out).mono ?_); (case side1 => repeat (first | exact (Kd.C_below HR0.out HB.out) | (with_reducible refine Kd.C_alloc ?_ _) | (with_reducible refine Kd.C_drewN ?_ _) | (with_reducible refine Kd.C_drew ?_))); (case side2 => exact HC0.out); rintro e w' ⟨rfl, ⟨nd, rfl⟩⟩; (try first | exact ⟨rfl, _, World.drewN_drewN _ _ _⟩ | exact ⟨rfl, _, Eq.trans (World.drewN_drewN _ _ _) (congrArg (World.drewN _) (Nat.add_assoc _ _ _))⟩)) | (go_at_call 45; (with_reducible refine (ring_Ring.calls (fun k_ => k_ < w.heap.size) _ _ l0 t278 t281 _ ?side1 A4.out).mono ?_); (case side1 => exact Kd.V_mk HC0.out (Kd.F_below (Kd.C_F k50_heap HR0.out) (by repeat (first | (with_reducible first | exact HB.out | apply below_alloc | apply pw_below_drewN | apply below_drew1) | exact HB.out)))); rintro e w7 ⟨v279, rfl, ho0, hb⟩; have n0_ := Aside0.mk (Kd.N_lower (Kd.N_mono (ok' := fun k_ => True) ho0 (fun k_ hk_ => trivial)) (below_size (by repeat (first | (with_reducible first | exact HB.out | apply below_alloc | apply pw_below_drewN | apply below_drew1) | exact HB.out)))); have n1_ := Aside0.mk (below_step (by repeat (first | (with_reducible first | exact HB.out | apply below_alloc | apply pw_below_drewN | apply below_drew1) | exact HB.out)) hb); clear HB; have HO280 := n0_; have HB := n1_; clear n0_ n1_; (try clear hb); (try clear hb2); (try clear hk); (try clear hi); (try clear ho0)))
  repeat (go_quiet (first | (go_at_call 43; (with_reducible refine (cartouchelaw11_shown.calls  t276 _ A2.out).mono ?_); rintro e w6 ⟨rfl, hb⟩; have n0_ := Aside0.mk (below_step (by repeat (first | (with_reducible first | exact HB.out | apply below_alloc | apply pw_below_drewN | apply below_drew1) | exact HB.out)) hb); clear HB; have HB := n0_; clear n0_; (try clear hb); (try clear hb2); (try clear hk); (try clear hi)) | (go_at_call 44; (with_reducible refine (cartouchelaw11_few.calls _ _ l0 t277 _ ?side1 ?side2 A3.out).mono ?_); (case side1 => repeat (first | exact (Kd.C_below HR0.out HB.out) | (with_reducible refine Kd.C_alloc ?_ _) | (with_reducible refine Kd.C_drewN ?_ _) | (with_reducible refine Kd.C_drew ?_))); (case side2 => exact HC0.out); rintro e w' ⟨rfl, ⟨nd, rfl⟩⟩; (try first | exact ⟨rfl, _, World.drewN_drewN _ _ _⟩ | exact ⟨rfl, _, Eq.trans (World.drewN_drewN _ _ _) (congrArg (World.drewN _) (Nat.add_assoc _ _ _))⟩)) | (go_at_call 45; (with_reducible refine (ring_Ring.calls (fun k_ => k_ < w.heap.size) _ _ l0 t278 t281 _ ?side1 A4.out).mono ?_); (case side1 => exact Kd.V_mk HC0.out (Kd.F_below (Kd.C_F k50_heap HR0.out) (by repeat (first | (with_reducible first | exact HB.out | apply below_alloc | apply pw_below_drewN | apply below_drew1) | exact HB.out)))); rintro e w7 ⟨v279, rfl, ho0, hb⟩; have n0_ := Aside0.mk (Kd.N_lower (Kd.N_mono (ok' := fun k_ => True) ho0 (fun k_ hk_ => trivial)) (below_size (by repeat (first | (with_reducible first | exact HB.out | apply below_alloc | apply pw_below_drewN | apply below_drew1) | exact HB.out)))); have n1_ := Aside0.mk (below_step (by repeat (first | (with_reducible first | exact HB.out | apply below_alloc | apply pw_below_drewN | apply below_drew1) | exact HB.out)) hb); clear HB; have HO280 := n0_; have HB := n1_; clear n0_ n1_; (try clear hb); (try clear hb2); (try clear hk); (try clear hi); (try clear ho0))); go_upto_region 4 with (first | (go_at_call 43; (with_reducible refine (cartouchelaw11_shown.calls  t276 _ A2.out).mono ?_); rintro e w6 ⟨rfl, hb⟩; have n0_ := Aside0.mk (below_step (by repeat (first | (with_reducible first | exact HB.out | apply below_alloc | apply pw_below_drewN | apply below_drew1) | exact HB.out)) hb); clear HB; have HB := n0_; clear n0_; (try clear hb); (try clear hb2); (try clear hk); (try clear hi)) | (go_at_call 44; (with_reducible refine (cartouchelaw11_few.calls _ _ l0 t277 _ ?side1 ?side2 A3.out).mono ?_); (case side1 => repeat (first | exact (Kd.C_below HR0.out HB.out) | (with_reducible refine Kd.C_alloc ?_ _) | (with_reducible refine Kd.C_drewN ?_ _) | (with_reducible refine Kd.C_drew ?_))); (case side2 => exact HC0.out); rintro e w' ⟨rfl, ⟨nd, rfl⟩⟩; (try first | exact ⟨rfl, _, World.drewN_drewN _ _ _⟩ | exact ⟨rfl, _, Eq.trans (World.drewN_drewN _ _ _) (congrArg (World.drewN _) (Nat.add_assoc _ _ _))⟩)) | (go_at_call 45; (with_reducible refine (ring_Ring.calls (fun k_ => k_ < w.heap.size) _ _ l0 t278 t281 _ ?side1 A4.out).mono ?_); (case side1 => exact Kd.V_mk HC0.out (Kd.F_below (Kd.C_F k50_heap HR0.out) (by repeat (first | (with_reducible first | exact HB.out | apply below_alloc | apply pw_below_drewN | apply below_drew1) | exact HB.out)))); rintro e w7 ⟨v279, rfl, ho0, hb⟩; have n0_ := Aside0.mk (Kd.N_lower (Kd.N_mono (ok' := fun k_ => True) ho0 (fun k_ hk_ => trivial)) (below_size (by repeat (first | (with_reducible first | exact HB.out | apply below_alloc | apply pw_below_drewN | apply below_drew1) | exact HB.out)))); have n1_ := Aside0.mk (below_step (by repeat (first | (with_reducible first | exact HB.out | apply below_alloc | apply pw_below_drewN | apply below_drew1) | exact HB.out)) hb); clear HB; have HO280 := n0_; have HB := n1_; clear n0_ n1_; (try clear hb); (try clear hb2); (try clear hk); (try clear hi); (try clear ho0))))
  (try simp only [Act.put, List.setIfInBounds_toArray, List.set_cons_zero, List.set_cons_succ])
  go_cut [24] (fun v24 wc => ∃ (kq : Nat) (x24_4 : Bool), v24 = .bool x24_4 ∧ Aside0 (cartouchelaw11_RingMade.j0 kq l0 t276 t278 x24_4 = some r) ∧ Aside0 (kq ≤ k) ∧ Aside0 (Kd.N k50 50 wc w.heap.size (fun _ => True) v279 t278) ∧ Aside0 (Below w.heap.size w wc))
  case first =>
    have H := HC5.out
    clear HC5
    by_cases c8 : t277 = true
    · subst c8
      have H1 : (cartouchelaw11_RingMade.j0 k l0 t276 t278 (!t281)) = some r := by rw [if_pos rfl] at H; exact H
      clear H
      have H := H1
      clear H1
      have H' := Aside0.mk H
      clear H
      go_wp2
      repeat (go_quiet (fail); try go_wp2)
      go_meet
      case rel => exact ⟨_, (!t281), (by first | rfl | (simp; done) | (simp [*]; done)), H', ⟨by first | omega | exact Nat.le_refl _⟩, ⟨by (with_reducible repeat (first | apply Kd.N_alloc | apply Kd.N_drewN | apply Kd.N_drew)); exact HO280.out⟩, ⟨by repeat (first | (with_reducible first | exact HB.out | apply below_alloc | apply pw_below_drewN | apply below_drew1) | exact HB.out)⟩⟩
    · replace c8 := Bool.eq_false_iff.mpr c8
      subst c8
      have H1 : (cartouchelaw11_RingMade.j0 k l0 t276 t278 true) = some r := by rw [if_neg (show ¬ (false = true) by decide)] at H; exact H
      clear H
      have H := H1
      clear H1
      have H' := Aside0.mk H
      clear H
      go_wp2
      repeat (go_quiet (fail); try go_wp2)
      go_meet
      case rel => exact ⟨_, (true), (by first | rfl | (simp; done) | (simp [*]; done)), H', ⟨by first | omega | exact Nat.le_refl _⟩, ⟨by (with_reducible repeat (first | apply Kd.N_alloc | apply Kd.N_drewN | apply Kd.N_drew)); exact HO280.out⟩, ⟨by repeat (first | (with_reducible first | exact HB.out | apply below_alloc | apply pw_below_drewN | apply below_drew1) | exact HB.out)⟩⟩
  case rest =>
    clear HC5
    try clear p2
    try clear c8
    obtain ⟨kq, x24_4, rfl, HA, HJ4, HO_5, HB⟩ := hcut
    cases kq with
    | zero => exact absurd HA.out (by simp [cartouchelaw11_RingMade.j0])
    | succ kj4 =>
      have H := HA.out
      clear HA
      simp only [cartouchelaw11_RingMade.j0] at H
      by_cases c9 : x24_4 = true
      · subst c9
        have H1 : (some t276) = some r := by rw [if_pos rfl] at H; exact H
        clear H
        have H := H1
        clear H1
        obtain rfl := Option.some.inj H
        go_wp2
        repeat (go_quiet (fail); try go_wp2)
        go_ret
        exact ⟨by first | rfl | (simp [errW_none, errW_some] <;> rfl) | (simp [*, errW_none, errW_some] <;> rfl), by repeat (first | (with_reducible first | exact HB.out | apply below_alloc | apply pw_below_drewN | apply below_drew1) | exact HB.out)⟩
      · replace c9 := Bool.eq_false_iff.mpr c9
        subst c9
        have H1 : (cartouchelaw11_RingMade.l0 kj4 l0 t276 t278 0) = some r := by rw [if_neg (show ¬ (false = true) by decide)] at H; exact H
        clear H
        have H := H1
        clear H1
        have H' := Aside0.mk H
        clear H
        go_wp2
        repeat (go_quiet (fail); try go_wp2)
        go_loopg [7] kj4 (fun kq v7 w' => ∃ (x7_2 : Int), v7 = .int .i64 x7_2 ∧ Aside0 (cartouchelaw11_RingMade.l0 kq l0 t276 t278 x7_2 = some r) ∧ Aside0 (kq ≤ kj4) ∧ Aside0 (Kd.N k50 50 w' w.heap.size (fun _ => True) v279 t278) ∧ Aside0 (Below w.heap.size w w'))
        case atStart => exact ⟨(0), (by first | rfl | (simp; done) | (simp [*]; done)), H', ⟨Nat.le_refl _⟩, ⟨by (with_reducible repeat (first | apply Kd.N_alloc | apply Kd.N_drewN | apply Kd.N_drew)); exact HO_5.out⟩, ⟨by repeat (first | (with_reducible first | exact HB.out | apply below_alloc | apply pw_below_drewN | apply below_drew1) | exact HB.out)⟩⟩
        case round =>
          clear H'
          try clear p2
          try clear c8
          try clear c9
          try clear p2
          obtain ⟨x7_2, rfl, HA, HK2, HO_5, HB⟩ := hrel
          cases gk with
          | zero => exact absurd HA.out (by simp [cartouchelaw11_RingMade.l0])
          | succ k2 =>
            have H := HA.out
            clear HA
            simp only [cartouchelaw11_RingMade.l0] at H
            by_cases c10 : x7_2 < (t278.length : Int)
            · rw [if_pos c10] at H
              have c10b0 : decide (x7_2 < (t278.length : Int)) = true := decide_eq_true c10
              clear c10
              have H' := Aside0.mk H
              clear H
              obtain ⟨Ao11, co11, eo11⟩ := Kd.N_slice HO_5.out
              subst eo11
              go_wp2
              repeat (go_quiet (fail); try go_wp2)
              go_loopg [8, 9] k2 (fun kq v8 v9 w' => ∃ (x8_3 : Bool) (x9_3 : Int), v8 = .bool x8_3 ∧ v9 = .int .i64 x9_3 ∧ Aside0 (cartouchelaw11_RingMade.l1 kq l0 t276 t278 x7_2 x8_3 x9_3 = some r) ∧ Aside0 (kq ≤ k2) ∧ Aside0 (Kd.N k50 50 w' w.heap.size (fun _ => True) (.slice Ao11 t278.length co11) t278) ∧ Aside0 (Below w.heap.size w w'))
              case atStart => exact ⟨(false), (0), (by first | rfl | (simp; done) | (simp [*]; done)), (by first | rfl | (simp; done) | (simp [*]; done)), H', ⟨Nat.le_refl _⟩, ⟨by (with_reducible repeat (first | apply Kd.N_alloc | apply Kd.N_drewN | apply Kd.N_drew)); exact HO_5.out⟩, ⟨by repeat (first | (with_reducible first | exact HB.out | apply below_alloc | apply pw_below_drewN | apply below_drew1) | exact HB.out)⟩⟩
              case round =>
                clear H'
                try clear c1
                try clear p2
                try clear c8
                try clear c9
                try clear c10
                try clear c10b0
                try clear p2
                obtain ⟨x8_3, x9_3, rfl, rfl, HA, HK3, HO_5, HB⟩ := hrel
                cases gk with
                | zero => exact absurd HA.out (by simp [cartouchelaw11_RingMade.l1])
                | succ k3 =>
                  have H := HA.out
                  clear HA
                  simp only [cartouchelaw11_RingMade.l1] at H
                  by_cases c12 : x9_3 < (l0.length : Int)
                  · rw [if_pos c12] at H
                    have c12b0 : decide (x9_3 < (l0.length : Int)) = true := decide_eq_true c12
                    clear c12
                    by_cases c13 : 0 ≤ x9_3
                    · rw [if_pos c13] at H
                      have c13b0 := eq_true c13
                      have c13b1 : decide (0 ≤ x9_3) = true := decide_eq_true c13
                      clear c13
                      by_cases c14 : x9_3 ≤ (wrap64 (x9_3 + 1))
                      · rw [if_pos c14] at H
                        have c14b0 := eq_true c14
                        have c14b1 : decide (x9_3 ≤ (wrap64 (x9_3 + 1))) = true := decide_eq_true c14
                        by_cases c15 : (wrap64 (x9_3 + 1)) ≤ (l0.length : Int)
                        · rw [if_pos c15] at H
                          have c15b0 := eq_true c15
                          have c15b1 : decide ((wrap64 (x9_3 + 1)) ≤ (l0.length : Int)) = true := decide_eq_true c15
                          obtain ⟨y282, hy282⟩ : ∃ y_ : List (S50), y_ = ((l0.take ((wrap64 (x9_3 + 1)) : Int).toNat).drop (x9_3 : Int).toNat) := ⟨_, rfl⟩
                          replace H : (if 0 ≤ x7_2 then (if x7_2 ≤ (wrap64 (x7_2 + 1)) then (if (wrap64 (x7_2 + 1)) ≤ (t278.length : Int) then ((cartoucheref10_SameSteps.f k3 y282 ((t278.take ((wrap64 (x7_2 + 1)) : Int).toNat).drop (x7_2 : Int).toNat)).bind fun t291 => (if x8_3 = true then (cartouchelaw11_RingMade.j3 k3 l0 t276 t278 x7_2 true x9_3) else (cartouchelaw11_RingMade.j3 k3 l0 t276 t278 x7_2 t291 x9_3))) else (none)) else (none)) else (none)) = some r := by first | (rw [hy282]; with_reducible exact H) | (have H2_ := (Option.bind_some _ _).symm.trans H; rw [hy282]; with_reducible exact H2_) | (have H2_ := (Option.bind_some _ _).symm.trans H; with_reducible exact H2_) | with_reducible exact H | (rw [hy282]; exact H) | exact H
                          have Ny282 := Aside0.mk hy282
                          clear hy282
                          by_cases c16 : 0 ≤ x7_2
                          · rw [if_pos c16] at H
                            have c16b0 := eq_true c16
                            have c16b1 : decide (0 ≤ x7_2) = true := decide_eq_true c16
                            clear c16
                            by_cases c17 : x7_2 ≤ (wrap64 (x7_2 + 1))
                            · rw [if_pos c17] at H
                              have c17b0 := eq_true c17
                              have c17b1 : decide (x7_2 ≤ (wrap64 (x7_2 + 1))) = true := decide_eq_true c17
                              by_cases c18 : (wrap64 (x7_2 + 1)) ≤ (t278.length : Int)
                              · rw [if_pos c18] at H
                                have c18b0 := eq_true c18
                                have c18b1 : decide ((wrap64 (x7_2 + 1)) ≤ (t278.length : Int)) = true := decide_eq_true c18
                                obtain ⟨y286, hy286⟩ : ∃ y_ : List (S50), y_ = ((t278.take ((wrap64 (x7_2 + 1)) : Int).toNat).drop (x7_2 : Int).toNat) := ⟨_, rfl⟩
                                replace H : ((cartoucheref10_SameSteps.f k3 y282 y286).bind fun t291 => (if x8_3 = true then (cartouchelaw11_RingMade.j3 k3 l0 t276 t278 x7_2 true x9_3) else (cartouchelaw11_RingMade.j3 k3 l0 t276 t278 x7_2 t291 x9_3))) = some r := by first | (rw [hy286]; with_reducible exact H) | (have H2_ := (Option.bind_some _ _).symm.trans H; rw [hy286]; with_reducible exact H2_) | (have H2_ := (Option.bind_some _ _).symm.trans H; with_reducible exact H2_) | with_reducible exact H | (rw [hy286]; exact H) | exact H
                                have Ny286 := Aside0.mk hy286
                                clear hy286
                                replace H := Option.bind_eq_some_iff.mp H
                                obtain ⟨t291, A190, H⟩ := H
                                replace H : (if x8_3 = true then (cartouchelaw11_RingMade.j3 k3 l0 t276 t278 x7_2 true x9_3) else (cartouchelaw11_RingMade.j3 k3 l0 t276 t278 x7_2 t291 x9_3)) = some r := H
                                have A19 := Aside0.mk A190
                                clear A190
                                have HC20 := Aside0.mk H
                                clear H
                                have q21 : ((wrap64 (x9_3 + 1)) : Int) ≤ ((l0.length : Int) : Int) := of_decide_eq_true (by first | (with_reducible assumption) | assumption)
                                obtain ⟨i021, hi021, _, hsz21, _⟩ := info_parts info50
                                have hroom21 : l0.length ≤ c0 := HC0.out
                                have hC21 : Kd.C k50 _ A0 l0.length l0 := HR0.out
                                have ql21 : (x9_3 : Int) ≤ ((wrap64 (x9_3 + 1)) : Int) := of_decide_eq_true (by first | (with_reducible assumption) | assumption)
                                have q021 : (0 : Int) ≤ (x9_3 : Int) := of_decide_eq_true (by first | (with_reducible assumption) | assumption)
                                have hcut21 := cut_mid (P := Try.prog) 43 50 .i64 .i64 Try.underlying43 hi021 3 hsz21 A0 l0.length c0 x9_3 (wrap64 (x9_3 + 1)) q021 ql21 q21 hroom21
                                have hr21 := Kd.C_mid (lo := (x9_3 : Int).toNat) (hi := ((wrap64 (x9_3 + 1)) : Int).toNat) (c := c0) hC21 (by omega) (by omega) hroom21
                                obtain ⟨A21, hA21⟩ : ∃ A1, A1 = (if c0 = (x9_3 : Int).toNat then A0 else (A0 : Option Addr).map (·.add ((x9_3 : Int).toNat * 3))) := ⟨_, rfl⟩
                                obtain ⟨c21, hc21⟩ : ∃ c1, c1 = c0 - (x9_3 : Int).toNat := ⟨_, rfl⟩
                                have hy21 : y282.length = ((wrap64 (x9_3 + 1)) : Int).toNat - (x9_3 : Int).toNat := (by rw [Ny282.out, List.length_drop, List.length_take] <;> omega)
                                rw [show ((l0).take ((wrap64 (x9_3 + 1)) : Int).toNat).drop (x9_3 : Int).toNat = y282 from Ny282.out.symm] at hr21
                                replace hr21 : Kd.C k50 _ A21 y282.length y282 := (by rw [hA21]; exact hr21)
                                rw [← hy21, ← hA21, ← hc21] at hcut21
                                have HR285 := Aside0.mk hr21
                                have HC285 := Aside0.mk (show y282.length ≤ c21 from by rw [hy21, hc21]; exact Nat.sub_le_sub_right (Nat.le_trans (by omega) hroom21) _)
                                clear hr21 hC21 hroom21 hi021 hsz21 hc21
                                have KY21 := Aside0.mk hy21
                                have KA21 := Aside0.mk hA21
                                clear hy21 hA21
                                replace q21 := eq_true q21
                                have q22 : ((wrap64 (x7_2 + 1)) : Int) ≤ ((t278.length : Int) : Int) := of_decide_eq_true (by first | (with_reducible assumption) | assumption)
                                obtain ⟨i022, hi022, _, hsz22, _⟩ := info_parts info50
                                have hroom22 : t278.length ≤ co11 := (Kd.N_reads' HO_5.out).2.1
                                have hC22 : Kd.F k50 _ _ Ao11 t278.length t278 := (Kd.V_at (base := w.heap.size) (Kd.N_V HO_5.out)).2.2
                                have ql22 : (x7_2 : Int) ≤ ((wrap64 (x7_2 + 1)) : Int) := of_decide_eq_true (by first | (with_reducible assumption) | assumption)
                                have q022 : (0 : Int) ≤ (x7_2 : Int) := of_decide_eq_true (by first | (with_reducible assumption) | assumption)
                                have hcut22 := cut_mid (P := Try.prog) 43 50 .i64 .i64 Try.underlying43 hi022 3 hsz22 Ao11 t278.length co11 x7_2 (wrap64 (x7_2 + 1)) q022 ql22 q22 hroom22
                                have hr22 := Kd.F_mid (lo := (x7_2 : Int).toNat) (hi := ((wrap64 (x7_2 + 1)) : Int).toNat) (c := co11) hC22 (by omega) (by omega) hroom22
                                obtain ⟨A22, hA22⟩ : ∃ A1, A1 = (if co11 = (x7_2 : Int).toNat then Ao11 else (Ao11 : Option Addr).map (·.add ((x7_2 : Int).toNat * 3))) := ⟨_, rfl⟩
                                obtain ⟨c22, hc22⟩ : ∃ c1, c1 = co11 - (x7_2 : Int).toNat := ⟨_, rfl⟩
                                have hy22 : y286.length = ((wrap64 (x7_2 + 1)) : Int).toNat - (x7_2 : Int).toNat := (by rw [Ny286.out, List.length_drop, List.length_take] <;> omega)
                                rw [show ((t278).take ((wrap64 (x7_2 + 1)) : Int).toNat).drop (x7_2 : Int).toNat = y286 from Ny286.out.symm] at hr22
                                replace hr22 : Kd.F k50 _ _ A22 y286.length y286 := (by rw [hA22]; exact hr22)
                                rw [← hy22, ← hA22, ← hc22] at hcut22
                                have HO290 := Aside0.mk (show Kd.V k50 50 _ w.heap.size _ (.slice A22 y286.length c22) y286 from Kd.V_mk (by rw [hy22, hc22]; exact Nat.sub_le_sub_right (Nat.le_trans (by omega) hroom22) _) hr22)
                                have HC290 := Aside0.mk (show y286.length ≤ c22 from by rw [hy22, hc22]; exact Nat.sub_le_sub_right (Nat.le_trans (by omega) hroom22) _)
                                clear hr22 hC22 hroom22 hi022 hsz22 hc22
                                have KY22 := Aside0.mk hy22
                                have KA22 := Aside0.mk hA22
                                clear hy22 hA22
                                replace q22 := eq_true q22
                                go_upto_region 14 with (first | (go_at_call 46; (with_reducible refine (cartoucheref10_SameSteps.calls k3 _ _ y282 _ _ y286 t291 _ ?side1 ?side2 ?side3 ?side4 A19.out).mono ?_); (case side1 => repeat (first | exact (Kd.C_below HR285.out HB.out) | (with_reducible refine Kd.C_alloc ?_ _) | (with_reducible refine Kd.C_drewN ?_ _) | (with_reducible refine Kd.C_drew ?_))); (case side2 => exact HC285.out); (case side3 => repeat (first | exact (Kd.V_reads' HO290.out).2.2 | (with_reducible refine Kd.C_alloc ?_ _) | (with_reducible refine Kd.C_drewN ?_ _) | (with_reducible refine Kd.C_drew ?_))); (case side4 => exact (Kd.V_reads' HO290.out).2.1); rintro e w' ⟨rfl, ⟨nd, rfl⟩⟩; (try first | exact ⟨rfl, _, World.drewN_drewN _ _ _⟩ | exact ⟨rfl, _, Eq.trans (World.drewN_drewN _ _ _) (congrArg (World.drewN _) (Nat.add_assoc _ _ _))⟩)))
                                repeat (go_quiet (first | (go_at_call 46; (with_reducible refine (cartoucheref10_SameSteps.calls k3 _ _ y282 _ _ y286 t291 _ ?side1 ?side2 ?side3 ?side4 A19.out).mono ?_); (case side1 => repeat (first | exact (Kd.C_below HR285.out HB.out) | (with_reducible refine Kd.C_alloc ?_ _) | (with_reducible refine Kd.C_drewN ?_ _) | (with_reducible refine Kd.C_drew ?_))); (case side2 => exact HC285.out); (case side3 => repeat (first | exact (Kd.V_reads' HO290.out).2.2 | (with_reducible refine Kd.C_alloc ?_ _) | (with_reducible refine Kd.C_drewN ?_ _) | (with_reducible refine Kd.C_drew ?_))); (case side4 => exact (Kd.V_reads' HO290.out).2.1); rintro e w' ⟨rfl, ⟨nd, rfl⟩⟩; (try first | exact ⟨rfl, _, World.drewN_drewN _ _ _⟩ | exact ⟨rfl, _, Eq.trans (World.drewN_drewN _ _ _) (congrArg (World.drewN _) (Nat.add_assoc _ _ _))⟩))); go_upto_region 14 with (first | (go_at_call 46; (with_reducible refine (cartoucheref10_SameSteps.calls k3 _ _ y282 _ _ y286 t291 _ ?side1 ?side2 ?side3 ?side4 A19.out).mono ?_); (case side1 => repeat (first | exact (Kd.C_below HR285.out HB.out) | (with_reducible refine Kd.C_alloc ?_ _) | (with_reducible refine Kd.C_drewN ?_ _) | (with_reducible refine Kd.C_drew ?_))); (case side2 => exact HC285.out); (case side3 => repeat (first | exact (Kd.V_reads' HO290.out).2.2 | (with_reducible refine Kd.C_alloc ?_ _) | (with_reducible refine Kd.C_drewN ?_ _) | (with_reducible refine Kd.C_drew ?_))); (case side4 => exact (Kd.V_reads' HO290.out).2.1); rintro e w' ⟨rfl, ⟨nd, rfl⟩⟩; (try first | exact ⟨rfl, _, World.drewN_drewN _ _ _⟩ | exact ⟨rfl, _, Eq.trans (World.drewN_drewN _ _ _) (congrArg (World.drewN _) (Nat.add_assoc _ _ _))⟩))))
                                (try simp only [Act.put, List.setIfInBounds_toArray, List.set_cons_zero, List.set_cons_succ])
                                go_cut [8] (fun v8 wc => ∃ (kq : Nat) (x8_19 : Bool), v8 = .bool x8_19 ∧ Aside0 (cartouchelaw11_RingMade.j3 kq l0 t276 t278 x7_2 x8_19 x9_3 = some r) ∧ Aside0 (kq ≤ k3) ∧ Aside0 (Kd.N k50 50 wc w.heap.size (fun _ => True) (.slice Ao11 t278.length co11) t278) ∧ Aside0 (Below w.heap.size w wc))
                                case first =>
                                  have H := HC20.out
                                  clear HC20
                                  by_cases c23 : x8_3 = true
                                  · subst c23
                                    have H1 : (cartouchelaw11_RingMade.j3 k3 l0 t276 t278 x7_2 true x9_3) = some r := by rw [if_pos rfl] at H; exact H
                                    clear H
                                    have H := H1
                                    clear H1
                                    have H' := Aside0.mk H
                                    clear H
                                    go_wp2
                                    repeat (go_quiet (fail); try go_wp2)
                                    go_meet
                                    case rel => exact ⟨_, (true), (by first | rfl | (simp; done) | (simp [*]; done)), H', ⟨by have := HJ4.out; have := HK2.out; have := HK3.out; first | omega | exact Nat.le_refl _⟩, ⟨by (with_reducible repeat (first | apply Kd.N_alloc | apply Kd.N_drewN | apply Kd.N_drew)); exact HO_5.out⟩, ⟨by repeat (first | (with_reducible first | exact HB.out | apply below_alloc | apply pw_below_drewN | apply below_drew1) | exact HB.out)⟩⟩
                                  · replace c23 := Bool.eq_false_iff.mpr c23
                                    subst c23
                                    have H1 : (cartouchelaw11_RingMade.j3 k3 l0 t276 t278 x7_2 t291 x9_3) = some r := by rw [if_neg (show ¬ (false = true) by decide)] at H; exact H
                                    clear H
                                    have H := H1
                                    clear H1
                                    have H' := Aside0.mk H
                                    clear H
                                    go_wp2
                                    repeat (go_quiet (fail); try go_wp2)
                                    go_meet
                                    case rel => exact ⟨_, (t291), (by first | rfl | (simp; done) | (simp [*]; done)), H', ⟨by have := HJ4.out; have := HK2.out; have := HK3.out; first | omega | exact Nat.le_refl _⟩, ⟨by (with_reducible repeat (first | apply Kd.N_alloc | apply Kd.N_drewN | apply Kd.N_drew)); exact HO_5.out⟩, ⟨by repeat (first | (with_reducible first | exact HB.out | apply below_alloc | apply pw_below_drewN | apply below_drew1) | exact HB.out)⟩⟩
                                case rest =>
                                  clear HC20
                                  try clear c1
                                  try clear c2
                                  try clear p2
                                  try clear q2
                                  try clear p6
                                  try clear c8
                                  try clear c9
                                  try clear c10
                                  try clear c10b0
                                  try clear c12
                                  try clear c12b0
                                  try clear c13
                                  try clear c13b0
                                  try clear c13b1
                                  try clear c14
                                  try clear c14b0
                                  try clear c14b1
                                  try clear c15
                                  try clear c15b0
                                  try clear c15b1
                                  try clear c16
                                  try clear c16b0
                                  try clear c16b1
                                  try clear c17
                                  try clear c17b0
                                  try clear c17b1
                                  try clear c18
                                  try clear c18b0
                                  try clear c18b1
                                  try clear c21
                                  try clear q21
                                  try clear c22
                                  try clear q22
                                  try clear c23
                                  try clear p2
                                  try clear q021
                                  try clear q022
                                  try clear q21
                                  try clear q22
                                  obtain ⟨kq, x8_19, rfl, HA, HJ19, HO_5, HB⟩ := hcut
                                  cases kq with
                                  | zero => exact absurd HA.out (by simp [cartouchelaw11_RingMade.j3])
                                  | succ kj19 =>
                                    have H := HA.out
                                    clear HA
                                    simp only [cartouchelaw11_RingMade.j3] at H
                                    have HC24 := Aside0.mk H
                                    clear H
                                    go_upto_region 15 with (fail)
                                    repeat (go_quiet (fail); go_upto_region 15 with (fail))
                                    go_cut [68] (fun v68 wc => ∃ (kq : Nat) (x68_23 : Bool), v68 = .bool x68_23 ∧ Aside0 (cartouchelaw11_RingMade.j4 kq l0 t276 t278 x7_2 x8_19 x9_3 x68_23 = some r) ∧ Aside0 (kq ≤ kj19) ∧ Aside0 (Kd.N k50 50 wc w.heap.size (fun _ => True) (.slice Ao11 t278.length co11) t278) ∧ Aside0 (Below w.heap.size w wc))
                                    case first =>
                                      have H := HC24.out
                                      clear HC24
                                      by_cases c25 : (t278.length : Int) > 1
                                      · rw [if_pos c25] at H
                                        have c25b0 : decide (1 < (t278.length : Int)) = true := decide_eq_true c25
                                        have c25b1 : decide (1 < t278.length) = true := decide_eq_true (by omega)
                                        clear c25
                                        (first | rw [c25b0] | (simp only [i64_w, i32_w]; rw [c25b0]) | skip)
                                        by_cases c26 : 0 ≤ x9_3
                                        · rw [if_pos c26] at H
                                          have c26b0 : decide (0 ≤ x9_3) = true := decide_eq_true c26
                                          clear c26
                                          by_cases c27 : x9_3 < (l0.length : Int)
                                          · rw [if_pos c27] at H
                                            have c27b0 : decide (x9_3 < (l0.length : Int)) = true := decide_eq_true c27
                                            clear c27
                                            have H' := Aside0.mk H
                                            clear H
                                            have p292 : 0 ≤ (x9_3 : Int) := of_decide_eq_true (by first | (with_reducible assumption) | assumption)
                                            have q292 : x9_3 < (l0.length : Int) := of_decide_eq_true (by first | (with_reducible assumption) | assumption)
                                            obtain ⟨ad292, A292_2, c292_2, e292, hx292_0, hx292_1, hx292_2, hl292_2, hi292_2⟩ := at_T50 HR0.out x9_3 p292 q292
                                            cases e292
                                            replace hx292_0 := (HB.out.cell (World.block_lt_of_cell? w _ hx292_0)).trans hx292_0
                                            replace hx292_1 := (HB.out.cell (World.block_lt_of_cell? w _ hx292_1)).trans hx292_1
                                            replace hx292_2 := (HB.out.cell (World.block_lt_of_cell? w _ hx292_2)).trans hx292_2
                                            have HR292_2 := Aside0.mk hi292_2
                                            have HC292_2 := Aside0.mk hl292_2
                                            clear hi292_2 hl292_2
                                            replace p292 := eq_true p292
                                            replace q292 := eq_true q292
                                            have p293 : 0 ≤ (x9_3 : Int) := of_decide_eq_true (by first | (with_reducible assumption) | assumption)
                                            have q293 : x9_3 < (l0.length : Int) := of_decide_eq_true (by first | (with_reducible assumption) | assumption)
                                            obtain ⟨ad293, A293_2, c293_2, e293, hx293_0, hx293_1, hx293_2, hl293_2, hi293_2⟩ := at_T50 HR0.out x9_3 p293 q293
                                            obtain rfl : ad292 = ad293 := (by injection e293)
                                            replace hx293_0 := (HB.out.cell (World.block_lt_of_cell? w _ hx293_0)).trans hx293_0
                                            replace hx293_1 := (HB.out.cell (World.block_lt_of_cell? w _ hx293_1)).trans hx293_1
                                            replace hx293_2 := (HB.out.cell (World.block_lt_of_cell? w _ hx293_2)).trans hx293_2
                                            have HR293_2 := Aside0.mk hi293_2
                                            have HC293_2 := Aside0.mk hl293_2
                                            clear hi293_2 hl293_2
                                            replace p293 := eq_true p293
                                            replace q293 := eq_true q293
                                            have ea_ := Option.some.inj (hx292_2.symm.trans hx293_2)
                                            injection ea_ with ea_ en_ ec_
                                            subst ea_
                                            subst ec_
                                            clear en_
                                            go_wp2
                                            repeat (go_quiet (fail); try go_wp2)
                                            go_meet
                                            case rel => exact ⟨_, ((((rd_T50 l0 x9_3).f0) == ((rd_T50 l0 x9_3).f1))), (by first | rfl | (simp; done) | (simp [*]; done)), H', ⟨by have := HJ4.out; have := HK2.out; have := HK3.out; have := HJ19.out; first | omega | exact Nat.le_refl _⟩, ⟨by (with_reducible repeat (first | apply Kd.N_alloc | apply Kd.N_drewN | apply Kd.N_drew)); exact HO_5.out⟩, ⟨by repeat (first | (with_reducible first | exact HB.out | apply below_alloc | apply pw_below_drewN | apply below_drew1) | exact HB.out)⟩⟩
                                          · rw [if_neg c27] at H
                                            exact absurd H (by simp)
                                        · rw [if_neg c26] at H
                                          exact absurd H (by simp)
                                      · rw [if_neg c25] at H
                                        have c25b0 : decide (1 < (t278.length : Int)) = false := decide_eq_false c25
                                        have c25b1 : decide (1 < t278.length) = false := decide_eq_false (by omega)
                                        clear c25
                                        (first | rw [c25b0] | (simp only [i64_w, i32_w]; rw [c25b0]) | skip)
                                        have H' := Aside0.mk H
                                        clear H
                                        go_wp2
                                        repeat (go_quiet (fail); try go_wp2)
                                        go_meet
                                        case rel => exact ⟨_, (false), (by first | rfl | (simp; done) | (simp [*]; done)), H', ⟨by have := HJ4.out; have := HK2.out; have := HK3.out; have := HJ19.out; first | omega | exact Nat.le_refl _⟩, ⟨by (with_reducible repeat (first | apply Kd.N_alloc | apply Kd.N_drewN | apply Kd.N_drew)); exact HO_5.out⟩, ⟨by repeat (first | (with_reducible first | exact HB.out | apply below_alloc | apply pw_below_drewN | apply below_drew1) | exact HB.out)⟩⟩
                                    case rest =>
                                      clear HC24
                                      try clear c1
                                      try clear c2
                                      try clear p2
                                      try clear q2
                                      try clear hx2
                                      try clear p6
                                      try clear c8
                                      try clear c9
                                      try clear c10
                                      try clear c10b0
                                      try clear c12
                                      try clear c12b0
                                      try clear c13
                                      try clear c13b0
                                      try clear c13b1
                                      try clear c14
                                      try clear c14b0
                                      try clear c14b1
                                      try clear c15
                                      try clear c15b0
                                      try clear c15b1
                                      try clear c16
                                      try clear c16b0
                                      try clear c16b1
                                      try clear c17
                                      try clear c17b0
                                      try clear c17b1
                                      try clear c18
                                      try clear c18b0
                                      try clear c18b1
                                      try clear c21
                                      try clear q21
                                      try clear c22
                                      try clear q22
                                      try clear c23
                                      try clear c25
                                      try clear c25b0
                                      try clear c25b1
                                      try clear c26
                                      try clear c26b0
                                      try clear c27
                                      try clear c27b0
                                      try clear hx292_0
                                      try clear hx292_1
                                      try clear hx292_2
                                      try clear hx293_0
                                      try clear hx293_1
                                      try clear hx293_2
                                      try clear p2
                                      try clear p292
                                      try clear p293
                                      try clear p6
                                      try clear q021
                                      try clear q022
                                      try clear q2
                                      try clear q21
                                      try clear q22
                                      try clear q292
                                      try clear q293
                                      obtain ⟨kq, x68_23, rfl, HA, HJ23, HO_5, HB⟩ := hcut
                                      cases kq with
                                      | zero => exact absurd HA.out (by simp [cartouchelaw11_RingMade.j4])
                                      | succ kj23 =>
                                        have H := HA.out
                                        clear HA
                                        simp only [cartouchelaw11_RingMade.j4] at H
                                        by_cases c28 : x68_23 = true
                                        · subst c28
                                          have H1 : (some false) = some r := by rw [if_pos rfl] at H; exact H
                                          clear H
                                          have H := H1
                                          clear H1
                                          obtain rfl := Option.some.inj H
                                          go_wp2
                                          repeat (go_quiet (fail); try go_wp2)
                                          go_ret
                                          exact ⟨by first | rfl | (simp [errW_none, errW_some] <;> rfl) | (simp [*, errW_none, errW_some] <;> rfl), by repeat (first | (with_reducible first | exact HB.out | apply below_alloc | apply pw_below_drewN | apply below_drew1) | exact HB.out)⟩
                                        · replace c28 := Bool.eq_false_iff.mpr c28
                                          subst c28
                                          have H1 : (cartouchelaw11_RingMade.l1 kj23 l0 t276 t278 x7_2 x8_19 (wrap64 (x9_3 + 1))) = some r := by rw [if_neg (show ¬ (false = true) by decide)] at H; exact H
                                          clear H
                                          have H := H1
                                          clear H1
                                          have H' := Aside0.mk H
                                          clear H
                                          go_wp2
                                          repeat (go_quiet (fail); try go_wp2)
                                          go_roundg kj23
                                          case measure => have := HJ4.out; have := HK2.out; have := HK3.out; have := HJ19.out; have := HJ23.out; omega
                                          case rel => exact ⟨(x8_19), (wrap64 (x9_3 + 1)), (by first | rfl | (simp; done) | (simp [*]; done)), (by first | rfl | (simp; done) | (simp [*]; done)), H', ⟨by have := HJ4.out; have := HK2.out; have := HK3.out; have := HJ19.out; have := HJ23.out; omega⟩, ⟨by (with_reducible repeat (first | apply Kd.N_alloc | apply Kd.N_drewN | apply Kd.N_drew)); exact HO_5.out⟩, ⟨by repeat (first | (with_reducible first | exact HB.out | apply below_alloc | apply pw_below_drewN | apply below_drew1) | exact HB.out)⟩⟩
                              · rw [if_neg c18] at H
                                exact absurd H (by simp)
                            · rw [if_neg c17] at H
                              exact absurd H (by simp)
                          · rw [if_neg c16] at H
                            exact absurd H (by simp)
                        · rw [if_neg c15] at H
                          exact absurd H (by simp)
                      · rw [if_neg c14] at H
                        exact absurd H (by simp)
                    · rw [if_neg c13] at H
                      exact absurd H (by simp)
                  · rw [if_neg c12] at H
                    have c12b0 : decide (x9_3 < (l0.length : Int)) = false := decide_eq_false c12
                    clear c12
                    by_cases c29 : x8_3 = true
                    · subst c29
                      have H1 : (cartouchelaw11_RingMade.l0 k3 l0 t276 t278 (wrap64 (x7_2 + 1))) = some r := by rw [if_pos rfl] at H; exact H
                      clear H
                      have H := H1
                      clear H1
                      have H' := Aside0.mk H
                      clear H
                      go_wp2
                      repeat (go_quiet (fail); try go_wp2)
                      go_roundg k3
                      case measure => have := HJ4.out; have := HK2.out; have := HK3.out; omega
                      case rel => exact ⟨(wrap64 (x7_2 + 1)), (by first | rfl | (simp; done) | (simp [*]; done)), H', ⟨by have := HJ4.out; have := HK2.out; have := HK3.out; omega⟩, ⟨by (with_reducible repeat (first | apply Kd.N_alloc | apply Kd.N_drewN | apply Kd.N_drew)); exact HO_5.out⟩, ⟨by repeat (first | (with_reducible first | exact HB.out | apply below_alloc | apply pw_below_drewN | apply below_drew1) | exact HB.out)⟩⟩
                    · replace c29 := Bool.eq_false_iff.mpr c29
                      subst c29
                      have H1 : (some false) = some r := by rw [if_neg (show ¬ (false = true) by decide)] at H; exact H
                      clear H
                      have H := H1
                      clear H1
                      obtain rfl := Option.some.inj H
                      go_wp2
                      repeat (go_quiet (fail); try go_wp2)
                      go_ret
                      exact ⟨by first | rfl | (simp [errW_none, errW_some] <;> rfl) | (simp [*, errW_none, errW_some] <;> rfl), by repeat (first | (with_reducible first | exact HB.out | apply below_alloc | apply pw_below_drewN | apply below_drew1) | exact HB.out)⟩
            · rw [if_neg c10] at H
              have c10b0 : decide (x7_2 < (t278.length : Int)) = false := decide_eq_false c10
              clear c10
              by_cases c30 : t276 = true
              · subst c30
                have H1 : (some (decide ((t278.length : Int) > 0))) = some r := by rw [if_pos rfl] at H; exact H
                clear H
                have H := H1
                clear H1
                obtain rfl := Option.some.inj H
                obtain ⟨Ao31, co31, eo31⟩ := Kd.N_slice HO_5.out
                subst eo31
                go_wp2
                repeat (go_quiet (fail); try go_wp2)
                go_ret
                exact ⟨by first | rfl | (simp [errW_none, errW_some] <;> rfl) | (simp [*, errW_none, errW_some] <;> rfl), by repeat (first | (with_reducible first | exact HB.out | apply below_alloc | apply pw_below_drewN | apply below_drew1) | exact HB.out)⟩
              · replace c30 := Bool.eq_false_iff.mpr c30
                subst c30
                have H1 : (some false) = some r := by rw [if_neg (show ¬ (false = true) by decide)] at H; exact H
                clear H
                have H := H1
                clear H1
                obtain rfl := Option.some.inj H
                obtain ⟨Ao32, co32, eo32⟩ := Kd.N_slice HO_5.out
                subst eo32
                go_wp2
                repeat (go_quiet (fail); try go_wp2)
                go_ret
                exact ⟨by first | rfl | (simp [errW_none, errW_some] <;> rfl) | (simp [*, errW_none, errW_some] <;> rfl), by repeat (first | (with_reducible first | exact HB.out | apply below_alloc | apply pw_below_drewN | apply below_drew1) | exact HB.out)⟩

end Go.Proofs.YthjgmccpbcelgaaPr
