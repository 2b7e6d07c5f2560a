/- Contracts of Go functions, printed by a program of this session over the translation: each call answers what its Lean function says. -/
import Derived.Test.YthjgmccpbcelgaaPr0
import Derived.Test.YthjgmccpbcelgaaPr16
import Derived.Test.YthjgmccpbcelgaaPr17
import Derived.Test.YthjgmccpbcelgaaPr19
import Derived.Test.YthjgmccpbcelgaaPr25
import Derived.Test.YthjgmccpbcelgaaB8
namespace Go.Proofs.YthjgmccpbcelgaaPr
open Go.RowKit Go.Proofs.YthjgmccpbcelgaaW.PrintWords Go.Proofs.YthjgmccpbcelgaaW.PrintLast Go.Proofs.YthjgmccpbcelgaaW.PrintMore
attribute [local go_sem] max2_int min2_int max_two min_two max_three min_three max_four min_four   -- for this text's walks alone
set_option linter.unusedVariables false
set_option linter.unusedSimpArgs false

/-! ### cartouchelaw11_RingShort: function 12 -/
mutual
def cartouchelaw11_RingShort.j0 : Nat → List (S50) → Int → Int → Bool → List (S50) → Bool → Bool → Option (Bool)
  | 0, _, _, _, _, _, _, _ => none
  | k + 1, x0, x1, x2, x7, x9, x10, x48 => if x48 = true then (some x7) else (cartouchelaw11_RingShort.l0 k x0 x1 x2 x7 x9 x10 true 0)
def cartouchelaw11_RingShort.l0 : Nat → List (S50) → Int → Int → Bool → List (S50) → Bool → Bool → Int → Option (Bool)
  | 0, _, _, _, _, _, _, _, _ => none
  | k + 1, x0, x1, x2, x7, x9, x10, x11, x12 => if x12 < (x9.length : Int) then (cartouchelaw11_RingShort.l1 k x0 x1 x2 x7 x9 x10 x11 x12 false 0) else (if x7 = true then (if x10 = true then (if x11 = true then (some (decide ((x9.length : Int) ≤ (wrap64 (x2 - x1))))) else (some false)) else (some false)) else (some false))
def cartouchelaw11_RingShort.l1 : Nat → List (S50) → Int → Int → Bool → List (S50) → Bool → Bool → Int → Bool → Int → Option (Bool)
  | 0, _, _, _, _, _, _, _, _, _, _ => none
  | k + 1, x0, x1, x2, x7, x9, x10, x11, x12, x13, x14 => if x14 < (x0.length : Int) then (if 0 ≤ x14 then (if x14 ≤ (wrap64 (x14 + 1)) then (if (wrap64 (x14 + 1)) ≤ (x0.length : Int) then (if 0 ≤ x12 then (if x12 ≤ (wrap64 (x12 + 1)) then (if (wrap64 (x12 + 1)) ≤ (x9.length : Int) then ((cartoucheref10_SameSteps.f k ((x0.take ((wrap64 (x14 + 1)) : Int).toNat).drop (x14 : Int).toNat) ((x9.take ((wrap64 (x12 + 1)) : Int).toNat).drop (x12 : Int).toNat)).bind fun t407 => (if x13 = true then (cartouchelaw11_RingShort.l1 k x0 x1 x2 x7 x9 x10 x11 x12 true (wrap64 (x14 + 1))) else (cartouchelaw11_RingShort.l1 k x0 x1 x2 x7 x9 x10 x11 x12 t407 (wrap64 (x14 + 1))))) else (none)) else (none)) else (none)) else (none)) else (none)) else (none)) else (if x11 = true then (cartouchelaw11_RingShort.l0 k x0 x1 x2 x7 x9 x10 x13 (wrap64 (x12 + 1))) else (cartouchelaw11_RingShort.l0 k x0 x1 x2 x7 x9 x10 false (wrap64 (x12 + 1))))
end
def cartouchelaw11_RingShort.f (k : Nat) (l0 : List (S50)) (a1 : Int) (a2 : Int) : Option (Bool) := (cartouchelaw11_shown.f).bind fun t387 => ((cartouchelaw11_few.f l0).bind fun t388 => ((ring_Ring.f l0).bind fun bt389 => (if t388 = true then (if a1 < 0 then (cartouchelaw11_RingShort.j0 k l0 a1 a2 t387 bt389.1 bt389.2 true) else (if a2 > (l0.length : Int) then (cartouchelaw11_RingShort.j0 k l0 a1 a2 t387 bt389.1 bt389.2 true) else (if a1 ≥ a2 then (cartouchelaw11_RingShort.j0 k l0 a1 a2 t387 bt389.1 bt389.2 true) else (if 0 ≤ a1 then (if a1 ≤ a2 then (if a2 ≤ (l0.length : Int) then ((ring_Closed.f k ((l0.take (a2 : Int).toNat).drop (a1 : Int).toNat)).bind fun t397 => (cartouchelaw11_RingShort.j0 k l0 a1 a2 t387 bt389.1 bt389.2 (!t397))) else (none)) else (none)) else (none))))) else (cartouchelaw11_RingShort.j0 k l0 a1 a2 t387 bt389.1 bt389.2 true))))
theorem cartouchelaw11_RingShort.mono_l : ∀ k, (∀ y0 y1 y2 y3 y4 y5 y6, LeO (cartouchelaw11_RingShort.j0 k y0 y1 y2 y3 y4 y5 y6) (cartouchelaw11_RingShort.j0 (k + 1) y0 y1 y2 y3 y4 y5 y6)) ∧ (∀ y0 y1 y2 y3 y4 y5 y6 y7, LeO (cartouchelaw11_RingShort.l0 k y0 y1 y2 y3 y4 y5 y6 y7) (cartouchelaw11_RingShort.l0 (k + 1) y0 y1 y2 y3 y4 y5 y6 y7)) ∧ (∀ y0 y1 y2 y3 y4 y5 y6 y7 y8 y9, LeO (cartouchelaw11_RingShort.l1 k y0 y1 y2 y3 y4 y5 y6 y7 y8 y9) (cartouchelaw11_RingShort.l1 (k + 1) y0 y1 y2 y3 y4 y5 y6 y7 y8 y9))
  | 0 => ⟨fun _ _ _ _ _ _ _ r h => by simp [cartouchelaw11_RingShort.j0] at h, fun _ _ _ _ _ _ _ _ r h => by simp [cartouchelaw11_RingShort.l0] at h, fun _ _ _ _ _ _ _ _ _ _ r h => by simp [cartouchelaw11_RingShort.l1] at h⟩
  | k + 1 => by
    obtain ⟨ih0, ih1, ih2⟩ := cartouchelaw11_RingShort.mono_l k
    refine ⟨?_, ?_, ?_⟩
    · intro y0 y1 y2 y3 y4 y5 y6
      unfold cartouchelaw11_RingShort.j0
      repeat' first
      | (with_reducible exact ih0 _ _ _ _ _ _ _)
      | (with_reducible exact ih1 _ _ _ _ _ _ _ _)
      | (with_reducible exact ih2 _ _ _ _ _ _ _ _ _ _)
      | (with_reducible exact cartoucheref10_SameSteps.mono _ _ _)
      | (with_reducible exact ring_Closed.mono _ _)
      | (with_reducible exact LeO.refl _)
      | (with_reducible exact LeO.none _)
      | (with_reducible refine LeO.ite ?_ ?_)
      | (with_reducible refine LeO.bind ?_ (fun _ => ?_))
      | exact ih0 _ _ _ _ _ _ _
      | exact ih1 _ _ _ _ _ _ _ _
      | exact ih2 _ _ _ _ _ _ _ _ _ _
      | exact cartoucheref10_SameSteps.mono _ _ _
      | exact ring_Closed.mono _ _
      | exact LeO.none _
      | refine LeO.ite ?_ ?_
      | refine LeO.bind ?_ (fun _ => ?_)
    · intro y0 y1 y2 y3 y4 y5 y6 y7
      unfold cartouchelaw11_RingShort.l0
      repeat' first
      | (with_reducible exact ih0 _ _ _ _ _ _ _)
      | (with_reducible exact ih1 _ _ _ _ _ _ _ _)
      | (with_reducible exact ih2 _ _ _ _ _ _ _ _ _ _)
      | (with_reducible exact cartoucheref10_SameSteps.mono _ _ _)
      | (with_reducible exact ring_Closed.mono _ _)
      | (with_reducible exact LeO.refl _)
      | (with_reducible exact LeO.none _)
      | (with_reducible refine LeO.ite ?_ ?_)
      | (with_reducible refine LeO.bind ?_ (fun _ => ?_))
      | exact ih0 _ _ _ _ _ _ _
      | exact ih1 _ _ _ _ _ _ _ _
      | exact ih2 _ _ _ _ _ _ _ _ _ _
      | exact cartoucheref10_SameSteps.mono _ _ _
      | exact ring_Closed.mono _ _
      | exact LeO.none _
      | refine LeO.ite ?_ ?_
      | refine LeO.bind ?_ (fun _ => ?_)
    · intro y0 y1 y2 y3 y4 y5 y6 y7 y8 y9
      unfold cartouchelaw11_RingShort.l1
      repeat' first
      | (with_reducible exact ih0 _ _ _ _ _ _ _)
      | (with_reducible exact ih1 _ _ _ _ _ _ _ _)
      | (with_reducible exact ih2 _ _ _ _ _ _ _ _ _ _)
      | (with_reducible exact cartoucheref10_SameSteps.mono _ _ _)
      | (with_reducible exact ring_Closed.mono _ _)
      | (with_reducible exact LeO.refl _)
      | (with_reducible exact LeO.none _)
      | (with_reducible refine LeO.ite ?_ ?_)
      | (with_reducible refine LeO.bind ?_ (fun _ => ?_))
      | exact ih0 _ _ _ _ _ _ _
      | exact ih1 _ _ _ _ _ _ _ _
      | exact ih2 _ _ _ _ _ _ _ _ _ _
      | exact cartoucheref10_SameSteps.mono _ _ _
      | exact ring_Closed.mono _ _
      | exact LeO.none _
      | refine LeO.ite ?_ ?_
      | refine LeO.bind ?_ (fun _ => ?_)
theorem cartouchelaw11_RingShort.mono : ∀ a0 a1 a2 k, LeO (cartouchelaw11_RingShort.f k a0 a1 a2) (cartouchelaw11_RingShort.f (k + 1) a0 a1 a2) := by
  intro a0 a1 a2 k
  obtain ⟨ih0, ih1, ih2⟩ := cartouchelaw11_RingShort.mono_l k
  unfold cartouchelaw11_RingShort.f
  repeat' first
      | (with_reducible exact ih0 _ _ _ _ _ _ _)
      | (with_reducible exact ih1 _ _ _ _ _ _ _ _)
      | (with_reducible exact ih2 _ _ _ _ _ _ _ _ _ _)
      | (with_reducible exact cartoucheref10_SameSteps.mono _ _ _)
      | (with_reducible exact ring_Closed.mono _ _)
      | (with_reducible exact LeO.refl _)
      | (with_reducible exact LeO.none _)
      | (with_reducible refine LeO.ite ?_ ?_)
      | (with_reducible refine LeO.bind ?_ (fun _ => ?_))
      | exact ih0 _ _ _ _ _ _ _
      | exact ih1 _ _ _ _ _ _ _ _
      | exact ih2 _ _ _ _ _ _ _ _ _ _
      | exact cartoucheref10_SameSteps.mono _ _ _
      | exact ring_Closed.mono _ _
      | exact LeO.none _
      | refine LeO.ite ?_ ?_
      | refine LeO.bind ?_ (fun _ => ?_)
set_option maxHeartbeats 8000000 in
set_option maxRecDepth 100000 in
theorem cartouchelaw11_RingShort.calls (k : Nat) (A0 : Option Addr) (c0 : Nat) (l0 : List (S50)) (a1 : Int) (a2 : Int) (r : Bool) (w : World) (hr0 : Kd.C k50 w A0 l0.length l0) (hc0 : l0.length ≤ c0) (h : cartouchelaw11_RingShort.f k l0 a1 a2 = some r) :
    Calls Try.prog 12 #[.slice A0 l0.length c0, .int .i64 a1, .int .i64 a2] w fun e w' => e = .returned (.bool r) ∧ Below w.heap.size w w' := by
  have HR0 := Aside0.mk hr0
  have HC0 := Aside0.mk hc0
  clear hr0 hc0
  have HB := Aside0.mk (Below.refl w.heap.size w)
  have H : ((cartouchelaw11_shown.f).bind fun t387 => ((cartouchelaw11_few.f l0).bind fun t388 => ((ring_Ring.f l0).bind fun bt389 => (if t388 = true then (if a1 < 0 then (cartouchelaw11_RingShort.j0 k l0 a1 a2 t387 bt389.1 bt389.2 true) else (if a2 > (l0.length : Int) then (cartouchelaw11_RingShort.j0 k l0 a1 a2 t387 bt389.1 bt389.2 true) else (if a1 ≥ a2 then (cartouchelaw11_RingShort.j0 k l0 a1 a2 t387 bt389.1 bt389.2 true) else (if 0 ≤ a1 then (if a1 ≤ a2 then (if a2 ≤ (l0.length : Int) then ((ring_Closed.f k ((l0.take (a2 : Int).toNat).drop (a1 : Int).toNat)).bind fun t397 => (cartouchelaw11_RingShort.j0 k l0 a1 a2 t387 bt389.1 bt389.2 (!t397))) else (none)) else (none)) else (none))))) else (cartouchelaw11_RingShort.j0 k l0 a1 a2 t387 bt389.1 bt389.2 true))))) = some r := h
  clear h
  replace H := Option.bind_eq_some_iff.mp H
  obtain ⟨t387, A40, H⟩ := H
  replace H : ((cartouchelaw11_few.f l0).bind fun t388 => ((ring_Ring.f l0).bind fun bt389 => (if t388 = true then (if a1 < 0 then (cartouchelaw11_RingShort.j0 k l0 a1 a2 t387 bt389.1 bt389.2 true) else (if a2 > (l0.length : Int) then (cartouchelaw11_RingShort.j0 k l0 a1 a2 t387 bt389.1 bt389.2 true) else (if a1 ≥ a2 then (cartouchelaw11_RingShort.j0 k l0 a1 a2 t387 bt389.1 bt389.2 true) else (if 0 ≤ a1 then (if a1 ≤ a2 then (if a2 ≤ (l0.length : Int) then ((ring_Closed.f k ((l0.take (a2 : Int).toNat).drop (a1 : Int).toNat)).bind fun t397 => (cartouchelaw11_RingShort.j0 k l0 a1 a2 t387 bt389.1 bt389.2 (!t397))) else (none)) else (none)) else (none))))) else (cartouchelaw11_RingShort.j0 k l0 a1 a2 t387 bt389.1 bt389.2 true)))) = some r := H
  have A4 := Aside0.mk A40
  clear A40
  replace H := Option.bind_eq_some_iff.mp H
  obtain ⟨t388, A50, H⟩ := H
  replace H : ((ring_Ring.f l0).bind fun bt389 => (if t388 = true then (if a1 < 0 then (cartouchelaw11_RingShort.j0 k l0 a1 a2 t387 bt389.1 bt389.2 true) else (if a2 > (l0.length : Int) then (cartouchelaw11_RingShort.j0 k l0 a1 a2 t387 bt389.1 bt389.2 true) else (if a1 ≥ a2 then (cartouchelaw11_RingShort.j0 k l0 a1 a2 t387 bt389.1 bt389.2 true) else (if 0 ≤ a1 then (if a1 ≤ a2 then (if a2 ≤ (l0.length : Int) then ((ring_Closed.f k ((l0.take (a2 : Int).toNat).drop (a1 : Int).toNat)).bind fun t397 => (cartouchelaw11_RingShort.j0 k l0 a1 a2 t387 bt389.1 bt389.2 (!t397))) else (none)) else (none)) else (none))))) else (cartouchelaw11_RingShort.j0 k l0 a1 a2 t387 bt389.1 bt389.2 true))) = some r := H
  have A5 := Aside0.mk A50
  clear A50
  replace H := Option.bind_eq_some_iff.mp H
  obtain ⟨⟨t389, t392⟩, A60, H⟩ := H
  replace H : (if t388 = true then (if a1 < 0 then (cartouchelaw11_RingShort.j0 k l0 a1 a2 t387 t389 t392 true) else (if a2 > (l0.length : Int) then (cartouchelaw11_RingShort.j0 k l0 a1 a2 t387 t389 t392 true) else (if a1 ≥ a2 then (cartouchelaw11_RingShort.j0 k l0 a1 a2 t387 t389 t392 true) else (if 0 ≤ a1 then (if a1 ≤ a2 then (if a2 ≤ (l0.length : Int) then ((ring_Closed.f k ((l0.take (a2 : Int).toNat).drop (a1 : Int).toNat)).bind fun t397 => (cartouchelaw11_RingShort.j0 k l0 a1 a2 t387 t389 t392 (!t397))) else (none)) else (none)) else (none))))) else (cartouchelaw11_RingShort.j0 k l0 a1 a2 t387 t389 t392 true)) = some r := H
  have A6 := Aside0.mk A60
  clear A60
  have HC7 := Aside0.mk H
  clear H
  go_enter Try.func12, Try.ntmps12
  go_upto_region 4 with (first | (go_at_call 43; (with_reducible refine (cartouchelaw11_shown.calls  t387 _ A4.out).mono ?_); rintro e w8 ⟨rfl, hb⟩; have n0_ := Aside0.mk (below_step (by repeat (first | (with_reducible first | exact HB.out | apply below_alloc | apply pw_below_drewN | apply below_drew1) | exact HB.out)) hb); clear HB; have HB := n0_; clear n0_; (try clear hb); (try clear hb2); (try clear hk); (try clear hi)) | (go_at_call 44; (with_reducible refine (cartouchelaw11_few.calls _ _ l0 t388 _ ?side1 ?side2 A5.out).mono ?_); (case side1 => repeat (first | exact (Kd.C_below HR0.out HB.out) | (with_reducible refine Kd.C_alloc ?_ _) | (with_reducible refine Kd.C_drewN ?_ _) | (with_reducible refine Kd.C_drew ?_))); (case side2 => exact HC0.out); rintro e w' ⟨rfl, ⟨nd, rfl⟩⟩; (try first | exact ⟨rfl, _, World.drewN_drewN _ _ _⟩ | exact ⟨rfl, _, Eq.trans (World.drewN_drewN _ _ _) (congrArg (World.drewN _) (Nat.add_assoc _ _ _))⟩)) | (go_at_call 45; (with_reducible refine (ring_Ring.calls (fun k_ => k_ < w.heap.size) _ _ l0 t389 t392 _ ?side1 A6.out).mono ?_); (case side1 => exact Kd.V_mk HC0.out (Kd.F_below (Kd.C_F k50_heap HR0.out) (by repeat (first | (with_reducible first | exact HB.out | apply below_alloc | apply pw_below_drewN | apply below_drew1) | exact HB.out)))); rintro e w9 ⟨v390, rfl, ho0, hb⟩; have n0_ := Aside0.mk (Kd.N_lower (Kd.N_mono (ok' := fun k_ => True) ho0 (fun k_ hk_ => trivial)) (below_size (by repeat (first | (with_reducible first | exact HB.out | apply below_alloc | apply pw_below_drewN | apply below_drew1) | exact HB.out)))); have n1_ := Aside0.mk (below_step (by repeat (first | (with_reducible first | exact HB.out | apply below_alloc | apply pw_below_drewN | apply below_drew1) | exact HB.out)) hb); clear HB; have HO391 := n0_; have HB := n1_; clear n0_ n1_; (try clear hb); (try clear hb2); (try clear hk); (try clear hi); (try clear ho0)))
  repeat (go_quiet (first | (go_at_call 43; (with_reducible refine (cartouchelaw11_shown.calls  t387 _ A4.out).mono ?_); rintro e w8 ⟨rfl, hb⟩; have n0_ := Aside0.mk (below_step (by repeat (first | (with_reducible first | exact HB.out | apply below_alloc | apply pw_below_drewN | apply below_drew1) | exact HB.out)) hb); clear HB; have HB := n0_; clear n0_; (try clear hb); (try clear hb2); (try clear hk); (try clear hi)) | (go_at_call 44; (with_reducible refine (cartouchelaw11_few.calls _ _ l0 t388 _ ?side1 ?side2 A5.out).mono ?_); (case side1 => repeat (first | exact (Kd.C_below HR0.out HB.out) | (with_reducible refine Kd.C_alloc ?_ _) | (with_reducible refine Kd.C_drewN ?_ _) | (with_reducible refine Kd.C_drew ?_))); (case side2 => exact HC0.out); rintro e w' ⟨rfl, ⟨nd, rfl⟩⟩; (try first | exact ⟨rfl, _, World.drewN_drewN _ _ _⟩ | exact ⟨rfl, _, Eq.trans (World.drewN_drewN _ _ _) (congrArg (World.drewN _) (Nat.add_assoc _ _ _))⟩)) | (go_at_call 45; (with_reducible refine (ring_Ring.calls (fun k_ => k_ < w.heap.size) _ _ l0 t389 t392 _ ?side1 A6.out).mono ?_); (case side1 => exact Kd.V_mk HC0.out (Kd.F_below (Kd.C_F k50_heap HR0.out) (by repeat (first | (with_reducible first | exact HB.out | apply below_alloc | apply pw_below_drewN | apply below_drew1) | exact HB.out)))); rintro e w9 ⟨v390, rfl, ho0, hb⟩; have n0_ := Aside0.mk (Kd.N_lower (Kd.N_mono (ok' := fun k_ => True) ho0 (fun k_ hk_ => trivial)) (below_size (by repeat (first | (with_reducible first | exact HB.out | apply below_alloc | apply pw_below_drewN | apply below_drew1) | exact HB.out)))); have n1_ := Aside0.mk (below_step (by repeat (first | (with_reducible first | exact HB.out | apply below_alloc | apply pw_below_drewN | apply below_drew1) | exact HB.out)) hb); clear HB; have HO391 := n0_; have HB := n1_; clear n0_ n1_; (try clear hb); (try clear hb2); (try clear hk); (try clear hi); (try clear ho0))); go_upto_region 4 with (first | (go_at_call 43; (with_reducible refine (cartouchelaw11_shown.calls  t387 _ A4.out).mono ?_); rintro e w8 ⟨rfl, hb⟩; have n0_ := Aside0.mk (below_step (by repeat (first | (with_reducible first | exact HB.out | apply below_alloc | apply pw_below_drewN | apply below_drew1) | exact HB.out)) hb); clear HB; have HB := n0_; clear n0_; (try clear hb); (try clear hb2); (try clear hk); (try clear hi)) | (go_at_call 44; (with_reducible refine (cartouchelaw11_few.calls _ _ l0 t388 _ ?side1 ?side2 A5.out).mono ?_); (case side1 => repeat (first | exact (Kd.C_below HR0.out HB.out) | (with_reducible refine Kd.C_alloc ?_ _) | (with_reducible refine Kd.C_drewN ?_ _) | (with_reducible refine Kd.C_drew ?_))); (case side2 => exact HC0.out); rintro e w' ⟨rfl, ⟨nd, rfl⟩⟩; (try first | exact ⟨rfl, _, World.drewN_drewN _ _ _⟩ | exact ⟨rfl, _, Eq.trans (World.drewN_drewN _ _ _) (congrArg (World.drewN _) (Nat.add_assoc _ _ _))⟩)) | (go_at_call 45; (with_reducible refine (ring_Ring.calls (fun k_ => k_ < w.heap.size) _ _ l0 t389 t392 _ ?side1 A6.out).mono ?_); (case side1 => exact Kd.V_mk HC0.out (Kd.F_below (Kd.C_F k50_heap HR0.out) (by repeat (first | (with_reducible first | exact HB.out | apply below_alloc | apply pw_below_drewN | apply below_drew1) | exact HB.out)))); rintro e w9 ⟨v390, rfl, ho0, hb⟩; have n0_ := Aside0.mk (Kd.N_lower (Kd.N_mono (ok' := fun k_ => True) ho0 (fun k_ hk_ => trivial)) (below_size (by repeat (first | (with_reducible first | exact HB.out | apply below_alloc | apply pw_below_drewN | apply below_drew1) | exact HB.out)))); have n1_ := Aside0.mk (below_step (by repeat (first | (with_reducible first | exact HB.out | apply below_alloc | apply pw_below_drewN | apply below_drew1) | exact HB.out)) hb); clear HB; have HO391 := n0_; have HB := n1_; clear n0_ n1_; (try clear hb); (try clear hb2); (try clear hk); (try clear hi); (try clear ho0))))
  (try simp only [Act.put, List.setIfInBounds_toArray, List.set_cons_zero, List.set_cons_succ])
  go_cut [48] (fun v48 wc => ∃ (kq : Nat) (x48_6 : Bool), v48 = .bool x48_6 ∧ Aside0 (cartouchelaw11_RingShort.j0 kq l0 a1 a2 t387 t389 t392 x48_6 = some r) ∧ Aside0 (kq ≤ k) ∧ Aside0 (Kd.N k50 50 wc w.heap.size (fun _ => True) v390 t389) ∧ Aside0 (Below w.heap.size w wc))
  case first =>
    have H := HC7.out
    clear HC7
    by_cases c10 : t388 = true
    · subst c10
      have H1 : (if a1 < 0 then (cartouchelaw11_RingShort.j0 k l0 a1 a2 t387 t389 t392 true) else (if a2 > (l0.length : Int) then (cartouchelaw11_RingShort.j0 k l0 a1 a2 t387 t389 t392 true) else (if a1 ≥ a2 then (cartouchelaw11_RingShort.j0 k l0 a1 a2 t387 t389 t392 true) else (if 0 ≤ a1 then (if a1 ≤ a2 then (if a2 ≤ (l0.length : Int) then ((ring_Closed.f k ((l0.take (a2 : Int).toNat).drop (a1 : Int).toNat)).bind fun t397 => (cartouchelaw11_RingShort.j0 k l0 a1 a2 t387 t389 t392 (!t397))) else (none)) else (none)) else (none))))) = some r := by rw [if_pos rfl] at H; exact H
      clear H
      have H := H1
      clear H1
      by_cases c11 : a1 < 0
      · rw [if_pos c11] at H
        have c11b0 : decide (a1 < 0) = true := decide_eq_true c11
        clear c11
        (first | rw [c11b0] | (simp only [i64_w, i32_w]; rw [c11b0]) | skip)
        have H' := Aside0.mk H
        clear H
        go_wp2
        repeat (go_quiet (fail); try go_wp2)
        go_meet
        case rel => exact ⟨_, (true), (by first | rfl | (simp; done) | (simp [*]; done)), H', ⟨by first | omega | exact Nat.le_refl _⟩, ⟨by (with_reducible repeat (first | apply Kd.N_alloc | apply Kd.N_drewN | apply Kd.N_drew)); exact HO391.out⟩, ⟨by repeat (first | (with_reducible first | exact HB.out | apply below_alloc | apply pw_below_drewN | apply below_drew1) | exact HB.out)⟩⟩
      · rw [if_neg c11] at H
        have c11b0 : decide (a1 < 0) = false := decide_eq_false c11
        clear c11
        (first | rw [c11b0] | (simp only [i64_w, i32_w]; rw [c11b0]) | skip)
        by_cases c12 : a2 > (l0.length : Int)
        · rw [if_pos c12] at H
          have c12b0 : decide ((l0.length : Int) < a2) = true := decide_eq_true c12
          clear c12
          have H' := Aside0.mk H
          clear H
          go_wp2
          repeat (go_quiet (fail); try go_wp2)
          go_meet
          case rel => exact ⟨_, (true), (by first | rfl | (simp; done) | (simp [*]; done)), H', ⟨by first | omega | exact Nat.le_refl _⟩, ⟨by (with_reducible repeat (first | apply Kd.N_alloc | apply Kd.N_drewN | apply Kd.N_drew)); exact HO391.out⟩, ⟨by repeat (first | (with_reducible first | exact HB.out | apply below_alloc | apply pw_below_drewN | apply below_drew1) | exact HB.out)⟩⟩
        · rw [if_neg c12] at H
          have c12b0 : decide ((l0.length : Int) < a2) = false := decide_eq_false c12
          clear c12
          by_cases c13 : a1 ≥ a2
          · rw [if_pos c13] at H
            have c13b0 : decide (a2 ≤ a1) = true := decide_eq_true c13
            clear c13
            have H' := Aside0.mk H
            clear H
            go_wp2
            repeat (go_quiet (fail); try go_wp2)
            go_meet
            case rel => exact ⟨_, (true), (by first | rfl | (simp; done) | (simp [*]; done)), H', ⟨by first | omega | exact Nat.le_refl _⟩, ⟨by (with_reducible repeat (first | apply Kd.N_alloc | apply Kd.N_drewN | apply Kd.N_drew)); exact HO391.out⟩, ⟨by repeat (first | (with_reducible first | exact HB.out | apply below_alloc | apply pw_below_drewN | apply below_drew1) | exact HB.out)⟩⟩
          · rw [if_neg c13] at H
            have c13b0 : decide (a2 ≤ a1) = false := decide_eq_false c13
            clear c13
            by_cases c14 : 0 ≤ a1
            · rw [if_pos c14] at H
              have c14b0 := eq_true c14
              have c14b1 : decide (0 ≤ a1) = true := decide_eq_true c14
              clear c14
              by_cases c15 : a1 ≤ a2
              · rw [if_pos c15] at H
                have c15b0 := eq_true c15
                have c15b1 : decide (a1 ≤ a2) = true := decide_eq_true c15
                clear c15
                by_cases c16 : a2 ≤ (l0.length : Int)
                · rw [if_pos c16] at H
                  have c16b0 := eq_true c16
                  have c16b1 : decide (a2 ≤ (l0.length : Int)) = true := decide_eq_true c16
                  clear c16
                  obtain ⟨y393, hy393⟩ : ∃ y_ : List (S50), y_ = ((l0.take (a2 : Int).toNat).drop (a1 : Int).toNat) := ⟨_, rfl⟩
                  replace H : ((ring_Closed.f k y393).bind fun t397 => (cartouchelaw11_RingShort.j0 k l0 a1 a2 t387 t389 t392 (!t397))) = some r := by first | (rw [hy393]; with_reducible exact H) | (have H2_ := (Option.bind_some _ _).symm.trans H; rw [hy393]; with_reducible exact H2_) | (have H2_ := (Option.bind_some _ _).symm.trans H; with_reducible exact H2_) | with_reducible exact H | (rw [hy393]; exact H) | exact H
                  have Ny393 := Aside0.mk hy393
                  clear hy393
                  replace H := Option.bind_eq_some_iff.mp H
                  obtain ⟨t397, A170, H⟩ := H
                  replace H : (cartouchelaw11_RingShort.j0 k l0 a1 a2 t387 t389 t392 (!t397)) = some r := H
                  have A17 := Aside0.mk A170
                  clear A170
                  have H' := Aside0.mk H
                  clear H
                  have q18 : (a2 : Int) ≤ ((l0.length : Int) : Int) := of_decide_eq_true (by first | (with_reducible assumption) | assumption)
                  obtain ⟨i018, hi018, _, hsz18, _⟩ := info_parts info50
                  have hroom18 : l0.length ≤ c0 := HC0.out
                  have hC18 : Kd.C k50 _ A0 l0.length l0 := HR0.out
                  have ql18 : (a1 : Int) ≤ (a2 : Int) := of_decide_eq_true (by first | (with_reducible assumption) | assumption)
                  have q018 : (0 : Int) ≤ (a1 : Int) := of_decide_eq_true (by first | (with_reducible assumption) | assumption)
                  have hcut18 := cut_mid (P := Try.prog) 43 50 .i64 .i64 Try.underlying43 hi018 3 hsz18 A0 l0.length c0 a1 a2 q018 ql18 q18 hroom18
                  have hr18 := Kd.C_mid (lo := (a1 : Int).toNat) (hi := (a2 : Int).toNat) (c := c0) hC18 (by omega) (by omega) hroom18
                  obtain ⟨A18, hA18⟩ : ∃ A1, A1 = (if c0 = (a1 : Int).toNat then A0 else (A0 : Option Addr).map (·.add ((a1 : Int).toNat * 3))) := ⟨_, rfl⟩
                  obtain ⟨c18, hc18⟩ : ∃ c1, c1 = c0 - (a1 : Int).toNat := ⟨_, rfl⟩
                  have hy18 : y393.length = (a2 : Int).toNat - (a1 : Int).toNat := (by rw [Ny393.out, List.length_drop, List.length_take] <;> omega)
                  rw [show ((l0).take (a2 : Int).toNat).drop (a1 : Int).toNat = y393 from Ny393.out.symm] at hr18
                  replace hr18 : Kd.C k50 _ A18 y393.length y393 := (by rw [hA18]; exact hr18)
                  rw [← hy18, ← hA18, ← hc18] at hcut18
                  have HR396 := Aside0.mk hr18
                  have HC396 := Aside0.mk (show y393.length ≤ c18 from by rw [hy18, hc18]; exact Nat.sub_le_sub_right (Nat.le_trans (by omega) hroom18) _)
                  clear hr18 hC18 hroom18 hi018 hsz18 hc18
                  have KY18 := Aside0.mk hy18
                  have KA18 := Aside0.mk hA18
                  clear hy18 hA18
                  replace q18 := eq_true q18
                  go_wp2_with (first | (go_at_call 48; (with_reducible refine (ring_Closed.calls k _ _ y393 t397 _ ?side1 ?side2 A17.out).mono ?_); (case side1 => repeat (first | exact (Kd.C_below HR396.out HB.out) | (with_reducible refine Kd.C_alloc ?_ _) | (with_reducible refine Kd.C_drewN ?_ _) | (with_reducible refine Kd.C_drew ?_))); (case side2 => exact HC396.out); rintro e w19 ⟨rfl, hb⟩; have n0_ := Aside0.mk (Kd.N_below (by (with_reducible repeat (first | apply Kd.N_alloc | apply Kd.N_drewN | apply Kd.N_drew)); exact HO391.out) hb); have n1_ := Aside0.mk (below_step (by repeat (first | (with_reducible first | exact HB.out | apply below_alloc | apply pw_below_drewN | apply below_drew1) | exact HB.out)) hb); clear HO391; clear HB; have HO391 := n0_; have HB := n1_; clear n0_ n1_; (try clear hb); (try clear hb2); (try clear hk); (try clear hi)))
                  repeat (go_quiet (first | (go_at_call 48; (with_reducible refine (ring_Closed.calls k _ _ y393 t397 _ ?side1 ?side2 A17.out).mono ?_); (case side1 => repeat (first | exact (Kd.C_below HR396.out HB.out) | (with_reducible refine Kd.C_alloc ?_ _) | (with_reducible refine Kd.C_drewN ?_ _) | (with_reducible refine Kd.C_drew ?_))); (case side2 => exact HC396.out); rintro e w19 ⟨rfl, hb⟩; have n0_ := Aside0.mk (Kd.N_below (by (with_reducible repeat (first | apply Kd.N_alloc | apply Kd.N_drewN | apply Kd.N_drew)); exact HO391.out) hb); have n1_ := Aside0.mk (below_step (by repeat (first | (with_reducible first | exact HB.out | apply below_alloc | apply pw_below_drewN | apply below_drew1) | exact HB.out)) hb); clear HO391; clear HB; have HO391 := n0_; have HB := n1_; clear n0_ n1_; (try clear hb); (try clear hb2); (try clear hk); (try clear hi))); try go_wp2_with (first | (go_at_call 48; (with_reducible refine (ring_Closed.calls k _ _ y393 t397 _ ?side1 ?side2 A17.out).mono ?_); (case side1 => repeat (first | exact (Kd.C_below HR396.out HB.out) | (with_reducible refine Kd.C_alloc ?_ _) | (with_reducible refine Kd.C_drewN ?_ _) | (with_reducible refine Kd.C_drew ?_))); (case side2 => exact HC396.out); rintro e w19 ⟨rfl, hb⟩; have n0_ := Aside0.mk (Kd.N_below (by (with_reducible repeat (first | apply Kd.N_alloc | apply Kd.N_drewN | apply Kd.N_drew)); exact HO391.out) hb); have n1_ := Aside0.mk (below_step (by repeat (first | (with_reducible first | exact HB.out | apply below_alloc | apply pw_below_drewN | apply below_drew1) | exact HB.out)) hb); clear HO391; clear HB; have HO391 := n0_; have HB := n1_; clear n0_ n1_; (try clear hb); (try clear hb2); (try clear hk); (try clear hi))))
                  go_meet
                  case rel => exact ⟨_, (!t397), (by first | rfl | (simp; done) | (simp [*]; done)), H', ⟨by first | omega | exact Nat.le_refl _⟩, ⟨by (with_reducible repeat (first | apply Kd.N_alloc | apply Kd.N_drewN | apply Kd.N_drew)); exact HO391.out⟩, ⟨by repeat (first | (with_reducible first | exact HB.out | apply below_alloc | apply pw_below_drewN | apply below_drew1) | exact HB.out)⟩⟩
                · rw [if_neg c16] at H
                  exact absurd H (by simp)
              · rw [if_neg c15] at H
                exact absurd H (by simp)
            · rw [if_neg c14] at H
              exact absurd H (by simp)
    · replace c10 := Bool.eq_false_iff.mpr c10
      subst c10
      have H1 : (cartouchelaw11_RingShort.j0 k l0 a1 a2 t387 t389 t392 true) = some r := by rw [if_neg (show ¬ (false = true) by decide)] at H; exact H
      clear H
      have H := H1
      clear H1
      have H' := Aside0.mk H
      clear H
      go_wp2
      repeat (go_quiet (fail); try go_wp2)
      go_meet
      case rel => exact ⟨_, (true), (by first | rfl | (simp; done) | (simp [*]; done)), H', ⟨by first | omega | exact Nat.le_refl _⟩, ⟨by (with_reducible repeat (first | apply Kd.N_alloc | apply Kd.N_drewN | apply Kd.N_drew)); exact HO391.out⟩, ⟨by repeat (first | (with_reducible first | exact HB.out | apply below_alloc | apply pw_below_drewN | apply below_drew1) | exact HB.out)⟩⟩
  case rest =>
    clear HC7
    try clear c1
    try clear q1
    try clear p2
    try clear c10
    try clear c11
    try clear c11b0
    try clear c12
    try clear c12b0
    try clear c13
    try clear c13b0
    try clear c14
    try clear c14b0
    try clear c14b1
    try clear c15
    try clear c15b0
    try clear c15b1
    try clear c16
    try clear c16b0
    try clear c16b1
    try clear c18
    try clear q18
    try clear q018
    try clear q18
    obtain ⟨kq, x48_6, rfl, HA, HJ6, HO_9, HB⟩ := hcut
    cases kq with
    | zero => exact absurd HA.out (by simp [cartouchelaw11_RingShort.j0])
    | succ kj6 =>
      have H := HA.out
      clear HA
      simp only [cartouchelaw11_RingShort.j0] at H
      by_cases c20 : x48_6 = true
      · subst c20
        have H1 : (some t387) = some r := by rw [if_pos rfl] at H; exact H
        clear H
        have H := H1
        clear H1
        obtain rfl := Option.some.inj H
        go_wp2
        repeat (go_quiet (fail); try go_wp2)
        go_ret
        exact ⟨by first | rfl | (simp [errW_none, errW_some] <;> rfl) | (simp [*, errW_none, errW_some] <;> rfl), by repeat (first | (with_reducible first | exact HB.out | apply below_alloc | apply pw_below_drewN | apply below_drew1) | exact HB.out)⟩
      · replace c20 := Bool.eq_false_iff.mpr c20
        subst c20
        have H1 : (cartouchelaw11_RingShort.l0 kj6 l0 a1 a2 t387 t389 t392 true 0) = some r := by rw [if_neg (show ¬ (false = true) by decide)] at H; exact H
        clear H
        have H := H1
        clear H1
        have H' := Aside0.mk H
        clear H
        go_wp2
        repeat (go_quiet (fail); try go_wp2)
        go_loopg [11, 12] kj6 (fun kq v11 v12 w' => ∃ (x11_2 : Bool) (x12_2 : Int), v11 = .bool x11_2 ∧ v12 = .int .i64 x12_2 ∧ Aside0 (cartouchelaw11_RingShort.l0 kq l0 a1 a2 t387 t389 t392 x11_2 x12_2 = some r) ∧ Aside0 (kq ≤ kj6) ∧ Aside0 (Kd.N k50 50 w' w.heap.size (fun _ => True) v390 t389) ∧ Aside0 (Below w.heap.size w w'))
        case atStart => exact ⟨(true), (0), (by first | rfl | (simp; done) | (simp [*]; done)), (by first | rfl | (simp; done) | (simp [*]; done)), H', ⟨Nat.le_refl _⟩, ⟨by (with_reducible repeat (first | apply Kd.N_alloc | apply Kd.N_drewN | apply Kd.N_drew)); exact HO_9.out⟩, ⟨by repeat (first | (with_reducible first | exact HB.out | apply below_alloc | apply pw_below_drewN | apply below_drew1) | exact HB.out)⟩⟩
        case round =>
          clear H'
          try clear c1
          try clear q1
          try clear c2
          try clear p2
          try clear c10
          try clear c11
          try clear c11b0
          try clear c12
          try clear c12b0
          try clear c13
          try clear c13b0
          try clear c14
          try clear c14b0
          try clear c14b1
          try clear c15
          try clear c15b0
          try clear c15b1
          try clear c16
          try clear c16b0
          try clear c16b1
          try clear c18
          try clear q18
          try clear c20
          try clear p2
          try clear q018
          try clear q1
          try clear q18
          obtain ⟨x11_2, x12_2, rfl, rfl, HA, HK2, HO_9, HB⟩ := hrel
          cases gk with
          | zero => exact absurd HA.out (by simp [cartouchelaw11_RingShort.l0])
          | succ k2 =>
            have H := HA.out
            clear HA
            simp only [cartouchelaw11_RingShort.l0] at H
            by_cases c21 : x12_2 < (t389.length : Int)
            · rw [if_pos c21] at H
              have c21b0 : decide (x12_2 < (t389.length : Int)) = true := decide_eq_true c21
              clear c21
              have H' := Aside0.mk H
              clear H
              obtain ⟨Ao22, co22, eo22⟩ := Kd.N_slice HO_9.out
              subst eo22
              go_wp2
              repeat (go_quiet (fail); try go_wp2)
              go_loopg [13, 14] k2 (fun kq v13 v14 w' => ∃ (x13_3 : Bool) (x14_3 : Int), v13 = .bool x13_3 ∧ v14 = .int .i64 x14_3 ∧ Aside0 (cartouchelaw11_RingShort.l1 kq l0 a1 a2 t387 t389 t392 x11_2 x12_2 x13_3 x14_3 = some r) ∧ Aside0 (kq ≤ k2) ∧ Aside0 (Kd.N k50 50 w' w.heap.size (fun _ => True) (.slice Ao22 t389.length co22) t389) ∧ Aside0 (Below w.heap.size w w'))
              case atStart => exact ⟨(false), (0), (by first | rfl | (simp; done) | (simp [*]; done)), (by first | rfl | (simp; done) | (simp [*]; done)), H', ⟨Nat.le_refl _⟩, ⟨by (with_reducible repeat (first | apply Kd.N_alloc | apply Kd.N_drewN | apply Kd.N_drew)); exact HO_9.out⟩, ⟨by repeat (first | (with_reducible first | exact HB.out | apply below_alloc | apply pw_below_drewN | apply below_drew1) | exact HB.out)⟩⟩
              case round =>
                clear H'
                try clear c1
                try clear q1
                try clear c2
                try clear p2
                try clear c10
                try clear c11
                try clear c11b0
                try clear c12
                try clear c12b0
                try clear c13
                try clear c13b0
                try clear c14
                try clear c14b0
                try clear c14b1
                try clear c15
                try clear c15b0
                try clear c15b1
                try clear c16
                try clear c16b0
                try clear c16b1
                try clear c18
                try clear q18
                try clear c20
                try clear c21
                try clear c21b0
                try clear p2
                try clear q018
                try clear q1
                try clear q18
                obtain ⟨x13_3, x14_3, rfl, rfl, HA, HK3, HO_9, HB⟩ := hrel
                cases gk with
                | zero => exact absurd HA.out (by simp [cartouchelaw11_RingShort.l1])
                | succ k3 =>
                  have H := HA.out
                  clear HA
                  simp only [cartouchelaw11_RingShort.l1] at H
                  by_cases c23 : x14_3 < (l0.length : Int)
                  · rw [if_pos c23] at H
                    have c23b0 : decide (x14_3 < (l0.length : Int)) = true := decide_eq_true c23
                    clear c23
                    by_cases c24 : 0 ≤ x14_3
                    · rw [if_pos c24] at H
                      have c24b0 := eq_true c24
                      have c24b1 : decide (0 ≤ x14_3) = true := decide_eq_true c24
                      clear c24
                      by_cases c25 : x14_3 ≤ (wrap64 (x14_3 + 1))
                      · rw [if_pos c25] at H
                        have c25b0 := eq_true c25
                        have c25b1 : decide (x14_3 ≤ (wrap64 (x14_3 + 1))) = true := decide_eq_true c25
                        by_cases c26 : (wrap64 (x14_3 + 1)) ≤ (l0.length : Int)
                        · rw [if_pos c26] at H
                          have c26b0 := eq_true c26
                          have c26b1 : decide ((wrap64 (x14_3 + 1)) ≤ (l0.length : Int)) = true := decide_eq_true c26
                          obtain ⟨y398, hy398⟩ : ∃ y_ : List (S50), y_ = ((l0.take ((wrap64 (x14_3 + 1)) : Int).toNat).drop (x14_3 : Int).toNat) := ⟨_, rfl⟩
                          replace H : (if 0 ≤ x12_2 then (if x12_2 ≤ (wrap64 (x12_2 + 1)) then (if (wrap64 (x12_2 + 1)) ≤ (t389.length : Int) then ((cartoucheref10_SameSteps.f k3 y398 ((t389.take ((wrap64 (x12_2 + 1)) : Int).toNat).drop (x12_2 : Int).toNat)).bind fun t407 => (if x13_3 = true then (cartouchelaw11_RingShort.l1 k3 l0 a1 a2 t387 t389 t392 x11_2 x12_2 true (wrap64 (x14_3 + 1))) else (cartouchelaw11_RingShort.l1 k3 l0 a1 a2 t387 t389 t392 x11_2 x12_2 t407 (wrap64 (x14_3 + 1))))) else (none)) else (none)) else (none)) = some r := by first | (rw [hy398]; with_reducible exact H) | (have H2_ := (Option.bind_some _ _).symm.trans H; rw [hy398]; with_reducible exact H2_) | (have H2_ := (Option.bind_some _ _).symm.trans H; with_reducible exact H2_) | with_reducible exact H | (rw [hy398]; exact H) | exact H
                          have Ny398 := Aside0.mk hy398
                          clear hy398
                          by_cases c27 : 0 ≤ x12_2
                          · rw [if_pos c27] at H
                            have c27b0 := eq_true c27
                            have c27b1 : decide (0 ≤ x12_2) = true := decide_eq_true c27
                            clear c27
                            by_cases c28 : x12_2 ≤ (wrap64 (x12_2 + 1))
                            · rw [if_pos c28] at H
                              have c28b0 := eq_true c28
                              have c28b1 : decide (x12_2 ≤ (wrap64 (x12_2 + 1))) = true := decide_eq_true c28
                              by_cases c29 : (wrap64 (x12_2 + 1)) ≤ (t389.length : Int)
                              · rw [if_pos c29] at H
                                have c29b0 := eq_true c29
                                have c29b1 : decide ((wrap64 (x12_2 + 1)) ≤ (t389.length : Int)) = true := decide_eq_true c29
                                obtain ⟨y402, hy402⟩ : ∃ y_ : List (S50), y_ = ((t389.take ((wrap64 (x12_2 + 1)) : Int).toNat).drop (x12_2 : Int).toNat) := ⟨_, rfl⟩
                                replace H : ((cartoucheref10_SameSteps.f k3 y398 y402).bind fun t407 => (if x13_3 = true then (cartouchelaw11_RingShort.l1 k3 l0 a1 a2 t387 t389 t392 x11_2 x12_2 true (wrap64 (x14_3 + 1))) else (cartouchelaw11_RingShort.l1 k3 l0 a1 a2 t387 t389 t392 x11_2 x12_2 t407 (wrap64 (x14_3 + 1))))) = some r := by first | (rw [hy402]; with_reducible exact H) | (have H2_ := (Option.bind_some _ _).symm.trans H; rw [hy402]; with_reducible exact H2_) | (have H2_ := (Option.bind_some _ _).symm.trans H; with_reducible exact H2_) | with_reducible exact H | (rw [hy402]; exact H) | exact H
                                have Ny402 := Aside0.mk hy402
                                clear hy402
                                replace H := Option.bind_eq_some_iff.mp H
                                obtain ⟨t407, A300, H⟩ := H
                                replace H : (if x13_3 = true then (cartouchelaw11_RingShort.l1 k3 l0 a1 a2 t387 t389 t392 x11_2 x12_2 true (wrap64 (x14_3 + 1))) else (cartouchelaw11_RingShort.l1 k3 l0 a1 a2 t387 t389 t392 x11_2 x12_2 t407 (wrap64 (x14_3 + 1)))) = some r := H
                                have A30 := Aside0.mk A300
                                clear A300
                                by_cases c31 : x13_3 = true
                                · subst c31
                                  have H1 : (cartouchelaw11_RingShort.l1 k3 l0 a1 a2 t387 t389 t392 x11_2 x12_2 true (wrap64 (x14_3 + 1))) = some r := by rw [if_pos rfl] at H; exact H
                                  clear H
                                  have H := H1
                                  clear H1
                                  have H' := Aside0.mk H
                                  clear H
                                  have q32 : ((wrap64 (x14_3 + 1)) : Int) ≤ ((l0.length : Int) : Int) := of_decide_eq_true (by first | (with_reducible assumption) | assumption)
                                  obtain ⟨i032, hi032, _, hsz32, _⟩ := info_parts info50
                                  have hroom32 : l0.length ≤ c0 := HC0.out
                                  have hC32 : Kd.C k50 _ A0 l0.length l0 := HR0.out
                                  have ql32 : (x14_3 : Int) ≤ ((wrap64 (x14_3 + 1)) : Int) := of_decide_eq_true (by first | (with_reducible assumption) | assumption)
                                  have q032 : (0 : Int) ≤ (x14_3 : Int) := of_decide_eq_true (by first | (with_reducible assumption) | assumption)
                                  have hcut32 := cut_mid (P := Try.prog) 43 50 .i64 .i64 Try.underlying43 hi032 3 hsz32 A0 l0.length c0 x14_3 (wrap64 (x14_3 + 1)) q032 ql32 q32 hroom32
                                  have hr32 := Kd.C_mid (lo := (x14_3 : Int).toNat) (hi := ((wrap64 (x14_3 + 1)) : Int).toNat) (c := c0) hC32 (by omega) (by omega) hroom32
                                  obtain ⟨A32, hA32⟩ : ∃ A1, A1 = (if c0 = (x14_3 : Int).toNat then A0 else (A0 : Option Addr).map (·.add ((x14_3 : Int).toNat * 3))) := ⟨_, rfl⟩
                                  obtain ⟨c32, hc32⟩ : ∃ c1, c1 = c0 - (x14_3 : Int).toNat := ⟨_, rfl⟩
                                  have hy32 : y398.length = ((wrap64 (x14_3 + 1)) : Int).toNat - (x14_3 : Int).toNat := (by rw [Ny398.out, List.length_drop, List.length_take] <;> omega)
                                  rw [show ((l0).take ((wrap64 (x14_3 + 1)) : Int).toNat).drop (x14_3 : Int).toNat = y398 from Ny398.out.symm] at hr32
                                  replace hr32 : Kd.C k50 _ A32 y398.length y398 := (by rw [hA32]; exact hr32)
                                  rw [← hy32, ← hA32, ← hc32] at hcut32
                                  have HR401 := Aside0.mk hr32
                                  have HC401 := Aside0.mk (show y398.length ≤ c32 from by rw [hy32, hc32]; exact Nat.sub_le_sub_right (Nat.le_trans (by omega) hroom32) _)
                                  clear hr32 hC32 hroom32 hi032 hsz32 hc32
                                  have KY32 := Aside0.mk hy32
                                  have KA32 := Aside0.mk hA32
                                  clear hy32 hA32
                                  replace q32 := eq_true q32
                                  have q33 : ((wrap64 (x12_2 + 1)) : Int) ≤ ((t389.length : Int) : Int) := of_decide_eq_true (by first | (with_reducible assumption) | assumption)
                                  obtain ⟨i033, hi033, _, hsz33, _⟩ := info_parts info50
                                  have hroom33 : t389.length ≤ co22 := (Kd.N_reads' HO_9.out).2.1
                                  have hC33 : Kd.F k50 _ _ Ao22 t389.length t389 := (Kd.V_at (base := w.heap.size) (Kd.N_V HO_9.out)).2.2
                                  have ql33 : (x12_2 : Int) ≤ ((wrap64 (x12_2 + 1)) : Int) := of_decide_eq_true (by first | (with_reducible assumption) | assumption)
                                  have q033 : (0 : Int) ≤ (x12_2 : Int) := of_decide_eq_true (by first | (with_reducible assumption) | assumption)
                                  have hcut33 := cut_mid (P := Try.prog) 43 50 .i64 .i64 Try.underlying43 hi033 3 hsz33 Ao22 t389.length co22 x12_2 (wrap64 (x12_2 + 1)) q033 ql33 q33 hroom33
                                  have hr33 := Kd.F_mid (lo := (x12_2 : Int).toNat) (hi := ((wrap64 (x12_2 + 1)) : Int).toNat) (c := co22) hC33 (by omega) (by omega) hroom33
                                  obtain ⟨A33, hA33⟩ : ∃ A1, A1 = (if co22 = (x12_2 : Int).toNat then Ao22 else (Ao22 : Option Addr).map (·.add ((x12_2 : Int).toNat * 3))) := ⟨_, rfl⟩
                                  obtain ⟨c33, hc33⟩ : ∃ c1, c1 = co22 - (x12_2 : Int).toNat := ⟨_, rfl⟩
                                  have hy33 : y402.length = ((wrap64 (x12_2 + 1)) : Int).toNat - (x12_2 : Int).toNat := (by rw [Ny402.out, List.length_drop, List.length_take] <;> omega)
                                  rw [show ((t389).take ((wrap64 (x12_2 + 1)) : Int).toNat).drop (x12_2 : Int).toNat = y402 from Ny402.out.symm] at hr33
                                  replace hr33 : Kd.F k50 _ _ A33 y402.length y402 := (by rw [hA33]; exact hr33)
                                  rw [← hy33, ← hA33, ← hc33] at hcut33
                                  have HO406 := Aside0.mk (show Kd.V k50 50 _ w.heap.size _ (.slice A33 y402.length c33) y402 from Kd.V_mk (by rw [hy33, hc33]; exact Nat.sub_le_sub_right (Nat.le_trans (by omega) hroom33) _) hr33)
                                  have HC406 := Aside0.mk (show y402.length ≤ c33 from by rw [hy33, hc33]; exact Nat.sub_le_sub_right (Nat.le_trans (by omega) hroom33) _)
                                  clear hr33 hC33 hroom33 hi033 hsz33 hc33
                                  have KY33 := Aside0.mk hy33
                                  have KA33 := Aside0.mk hA33
                                  clear hy33 hA33
                                  replace q33 := eq_true q33
                                  go_wp2_with (first | (go_at_call 46; (with_reducible refine (cartoucheref10_SameSteps.calls k3 _ _ y398 _ _ y402 t407 _ ?side1 ?side2 ?side3 ?side4 A30.out).mono ?_); (case side1 => repeat (first | exact (Kd.C_below HR401.out HB.out) | (with_reducible refine Kd.C_alloc ?_ _) | (with_reducible refine Kd.C_drewN ?_ _) | (with_reducible refine Kd.C_drew ?_))); (case side2 => exact HC401.out); (case side3 => repeat (first | exact (Kd.V_reads' HO406.out).2.2 | (with_reducible refine Kd.C_alloc ?_ _) | (with_reducible refine Kd.C_drewN ?_ _) | (with_reducible refine Kd.C_drew ?_))); (case side4 => exact (Kd.V_reads' HO406.out).2.1); rintro e w' ⟨rfl, ⟨nd, rfl⟩⟩; (try first | exact ⟨rfl, _, World.drewN_drewN _ _ _⟩ | exact ⟨rfl, _, Eq.trans (World.drewN_drewN _ _ _) (congrArg (World.drewN _) (Nat.add_assoc _ _ _))⟩)))
                                  repeat (go_quiet (first | (go_at_call 46; (with_reducible refine (cartoucheref10_SameSteps.calls k3 _ _ y398 _ _ y402 t407 _ ?side1 ?side2 ?side3 ?side4 A30.out).mono ?_); (case side1 => repeat (first | exact (Kd.C_below HR401.out HB.out) | (with_reducible refine Kd.C_alloc ?_ _) | (with_reducible refine Kd.C_drewN ?_ _) | (with_reducible refine Kd.C_drew ?_))); (case side2 => exact HC401.out); (case side3 => repeat (first | exact (Kd.V_reads' HO406.out).2.2 | (with_reducible refine Kd.C_alloc ?_ _) | (with_reducible refine Kd.C_drewN ?_ _) | (with_reducible refine Kd.C_drew ?_))); (case side4 => exact (Kd.V_reads' HO406.out).2.1); rintro e w' ⟨rfl, ⟨nd, rfl⟩⟩; (try first | exact ⟨rfl, _, World.drewN_drewN _ _ _⟩ | exact ⟨rfl, _, Eq.trans (World.drewN_drewN _ _ _) (congrArg (World.drewN _) (Nat.add_assoc _ _ _))⟩))); try go_wp2_with (first | (go_at_call 46; (with_reducible refine (cartoucheref10_SameSteps.calls k3 _ _ y398 _ _ y402 t407 _ ?side1 ?side2 ?side3 ?side4 A30.out).mono ?_); (case side1 => repeat (first | exact (Kd.C_below HR401.out HB.out) | (with_reducible refine Kd.C_alloc ?_ _) | (with_reducible refine Kd.C_drewN ?_ _) | (with_reducible refine Kd.C_drew ?_))); (case side2 => exact HC401.out); (case side3 => repeat (first | exact (Kd.V_reads' HO406.out).2.2 | (with_reducible refine Kd.C_alloc ?_ _) | (with_reducible refine Kd.C_drewN ?_ _) | (with_reducible refine Kd.C_drew ?_))); (case side4 => exact (Kd.V_reads' HO406.out).2.1); rintro e w' ⟨rfl, ⟨nd, rfl⟩⟩; (try first | exact ⟨rfl, _, World.drewN_drewN _ _ _⟩ | exact ⟨rfl, _, Eq.trans (World.drewN_drewN _ _ _) (congrArg (World.drewN _) (Nat.add_assoc _ _ _))⟩))))
                                  go_roundg k3
                                  case measure => have := HJ6.out; have := HK2.out; have := HK3.out; omega
                                  case rel => exact ⟨(true), (wrap64 (x14_3 + 1)), (by first | rfl | (simp; done) | (simp [*]; done)), (by first | rfl | (simp; done) | (simp [*]; done)), H', ⟨by have := HJ6.out; have := HK2.out; have := HK3.out; omega⟩, ⟨by (with_reducible repeat (first | apply Kd.N_alloc | apply Kd.N_drewN | apply Kd.N_drew)); exact HO_9.out⟩, ⟨by repeat (first | (with_reducible first | exact HB.out | apply below_alloc | apply pw_below_drewN | apply below_drew1) | exact HB.out)⟩⟩
                                · replace c31 := Bool.eq_false_iff.mpr c31
                                  subst c31
                                  have H1 : (cartouchelaw11_RingShort.l1 k3 l0 a1 a2 t387 t389 t392 x11_2 x12_2 t407 (wrap64 (x14_3 + 1))) = some r := by rw [if_neg (show ¬ (false = true) by decide)] at H; exact H
                                  clear H
                                  have H := H1
                                  clear H1
                                  have H' := Aside0.mk H
                                  clear H
                                  have q34 : ((wrap64 (x14_3 + 1)) : Int) ≤ ((l0.length : Int) : Int) := of_decide_eq_true (by first | (with_reducible assumption) | assumption)
                                  obtain ⟨i034, hi034, _, hsz34, _⟩ := info_parts info50
                                  have hroom34 : l0.length ≤ c0 := HC0.out
                                  have hC34 : Kd.C k50 _ A0 l0.length l0 := HR0.out
                                  have ql34 : (x14_3 : Int) ≤ ((wrap64 (x14_3 + 1)) : Int) := of_decide_eq_true (by first | (with_reducible assumption) | assumption)
                                  have q034 : (0 : Int) ≤ (x14_3 : Int) := of_decide_eq_true (by first | (with_reducible assumption) | assumption)
                                  have hcut34 := cut_mid (P := Try.prog) 43 50 .i64 .i64 Try.underlying43 hi034 3 hsz34 A0 l0.length c0 x14_3 (wrap64 (x14_3 + 1)) q034 ql34 q34 hroom34
                                  have hr34 := Kd.C_mid (lo := (x14_3 : Int).toNat) (hi := ((wrap64 (x14_3 + 1)) : Int).toNat) (c := c0) hC34 (by omega) (by omega) hroom34
                                  obtain ⟨A34, hA34⟩ : ∃ A1, A1 = (if c0 = (x14_3 : Int).toNat then A0 else (A0 : Option Addr).map (·.add ((x14_3 : Int).toNat * 3))) := ⟨_, rfl⟩
                                  obtain ⟨c34, hc34⟩ : ∃ c1, c1 = c0 - (x14_3 : Int).toNat := ⟨_, rfl⟩
                                  have hy34 : y398.length = ((wrap64 (x14_3 + 1)) : Int).toNat - (x14_3 : Int).toNat := (by rw [Ny398.out, List.length_drop, List.length_take] <;> omega)
                                  rw [show ((l0).take ((wrap64 (x14_3 + 1)) : Int).toNat).drop (x14_3 : Int).toNat = y398 from Ny398.out.symm] at hr34
                                  replace hr34 : Kd.C k50 _ A34 y398.length y398 := (by rw [hA34]; exact hr34)
                                  rw [← hy34, ← hA34, ← hc34] at hcut34
                                  have HR401 := Aside0.mk hr34
                                  have HC401 := Aside0.mk (show y398.length ≤ c34 from by rw [hy34, hc34]; exact Nat.sub_le_sub_right (Nat.le_trans (by omega) hroom34) _)
                                  clear hr34 hC34 hroom34 hi034 hsz34 hc34
                                  have KY34 := Aside0.mk hy34
                                  have KA34 := Aside0.mk hA34
                                  clear hy34 hA34
                                  replace q34 := eq_true q34
                                  have q35 : ((wrap64 (x12_2 + 1)) : Int) ≤ ((t389.length : Int) : Int) := of_decide_eq_true (by first | (with_reducible assumption) | assumption)
                                  obtain ⟨i035, hi035, _, hsz35, _⟩ := info_parts info50
                                  have hroom35 : t389.length ≤ co22 := (Kd.N_reads' HO_9.out).2.1
                                  have hC35 : Kd.F k50 _ _ Ao22 t389.length t389 := (Kd.V_at (base := w.heap.size) (Kd.N_V HO_9.out)).2.2
                                  have ql35 : (x12_2 : Int) ≤ ((wrap64 (x12_2 + 1)) : Int) := of_decide_eq_true (by first | (with_reducible assumption) | assumption)
                                  have q035 : (0 : Int) ≤ (x12_2 : Int) := of_decide_eq_true (by first | (with_reducible assumption) | assumption)
                                  have hcut35 := cut_mid (P := Try.prog) 43 50 .i64 .i64 Try.underlying43 hi035 3 hsz35 Ao22 t389.length co22 x12_2 (wrap64 (x12_2 + 1)) q035 ql35 q35 hroom35
                                  have hr35 := Kd.F_mid (lo := (x12_2 : Int).toNat) (hi := ((wrap64 (x12_2 + 1)) : Int).toNat) (c := co22) hC35 (by omega) (by omega) hroom35
                                  obtain ⟨A35, hA35⟩ : ∃ A1, A1 = (if co22 = (x12_2 : Int).toNat then Ao22 else (Ao22 : Option Addr).map (·.add ((x12_2 : Int).toNat * 3))) := ⟨_, rfl⟩
                                  obtain ⟨c35, hc35⟩ : ∃ c1, c1 = co22 - (x12_2 : Int).toNat := ⟨_, rfl⟩
                                  have hy35 : y402.length = ((wrap64 (x12_2 + 1)) : Int).toNat - (x12_2 : Int).toNat := (by rw [Ny402.out, List.length_drop, List.length_take] <;> omega)
                                  rw [show ((t389).take ((wrap64 (x12_2 + 1)) : Int).toNat).drop (x12_2 : Int).toNat = y402 from Ny402.out.symm] at hr35
                                  replace hr35 : Kd.F k50 _ _ A35 y402.length y402 := (by rw [hA35]; exact hr35)
                                  rw [← hy35, ← hA35, ← hc35] at hcut35
                                  have HO406 := Aside0.mk (show Kd.V k50 50 _ w.heap.size _ (.slice A35 y402.length c35) y402 from Kd.V_mk (by rw [hy35, hc35]; exact Nat.sub_le_sub_right (Nat.le_trans (by omega) hroom35) _) hr35)
                                  have HC406 := Aside0.mk (show y402.length ≤ c35 from by rw [hy35, hc35]; exact Nat.sub_le_sub_right (Nat.le_trans (by omega) hroom35) _)
                                  clear hr35 hC35 hroom35 hi035 hsz35 hc35
                                  have KY35 := Aside0.mk hy35
                                  have KA35 := Aside0.mk hA35
                                  clear hy35 hA35
                                  replace q35 := eq_true q35
                                  go_wp2_with (first | (go_at_call 46; (with_reducible refine (cartoucheref10_SameSteps.calls k3 _ _ y398 _ _ y402 t407 _ ?side1 ?side2 ?side3 ?side4 A30.out).mono ?_); (case side1 => repeat (first | exact (Kd.C_below HR401.out HB.out) | (with_reducible refine Kd.C_alloc ?_ _) | (with_reducible refine Kd.C_drewN ?_ _) | (with_reducible refine Kd.C_drew ?_))); (case side2 => exact HC401.out); (case side3 => repeat (first | exact (Kd.V_reads' HO406.out).2.2 | (with_reducible refine Kd.C_alloc ?_ _) | (with_reducible refine Kd.C_drewN ?_ _) | (with_reducible refine Kd.C_drew ?_))); (case side4 => exact (Kd.V_reads' HO406.out).2.1); rintro e w' ⟨rfl, ⟨nd, rfl⟩⟩; (try first | exact ⟨rfl, _, World.drewN_drewN _ _ _⟩ | exact ⟨rfl, _, Eq.trans (World.drewN_drewN _ _ _) (congrArg (World.drewN _) (Nat.add_assoc _ _ _))⟩)))
                                  repeat (go_quiet (first | (go_at_call 46; (with_reducible refine (cartoucheref10_SameSteps.calls k3 _ _ y398 _ _ y402 t407 _ ?side1 ?side2 ?side3 ?side4 A30.out).mono ?_); (case side1 => repeat (first | exact (Kd.C_below HR401.out HB.out) | (with_reducible refine Kd.C_alloc ?_ _) | (with_reducible refine Kd.C_drewN ?_ _) | (with_reducible refine Kd.C_drew ?_))); (case side2 => exact HC401.out); (case side3 => repeat (first | exact (Kd.V_reads' HO406.out).2.2 | (with_reducible refine Kd.C_alloc ?_ _) | (with_reducible refine Kd.C_drewN ?_ _) | (with_reducible refine Kd.C_drew ?_))); (case side4 => exact (Kd.V_reads' HO406.out).2.1); rintro e w' ⟨rfl, ⟨nd, rfl⟩⟩; (try first | exact ⟨rfl, _, World.drewN_drewN _ _ _⟩ | exact ⟨rfl, _, Eq.trans (World.drewN_drewN _ _ _) (congrArg (World.drewN _) (Nat.add_assoc _ _ _))⟩))); try go_wp2_with (first | (go_at_call 46; (with_reducible refine (cartoucheref10_SameSteps.calls k3 _ _ y398 _ _ y402 t407 _ ?side1 ?side2 ?side3 ?side4 A30.out).mono ?_); (case side1 => repeat (first | exact (Kd.C_below HR401.out HB.out) | (with_reducible refine Kd.C_alloc ?_ _) | (with_reducible refine Kd.C_drewN ?_ _) | (with_reducible refine Kd.C_drew ?_))); (case side2 => exact HC401.out); (case side3 => repeat (first | exact (Kd.V_reads' HO406.out).2.2 | (with_reducible refine Kd.C_alloc ?_ _) | (with_reducible refine Kd.C_drewN ?_ _) | (with_reducible refine Kd.C_drew ?_))); (case side4 => exact (Kd.V_reads' HO406.out).2.1); rintro e w' ⟨rfl, ⟨nd, rfl⟩⟩; (try first | exact ⟨rfl, _, World.drewN_drewN _ _ _⟩ | exact ⟨rfl, _, Eq.trans (World.drewN_drewN _ _ _) (congrArg (World.drewN _) (Nat.add_assoc _ _ _))⟩))))
                                  go_roundg k3
                                  case measure => have := HJ6.out; have := HK2.out; have := HK3.out; omega
                                  case rel => exact ⟨(t407), (wrap64 (x14_3 + 1)), (by first | rfl | (simp; done) | (simp [*]; done)), (by first | rfl | (simp; done) | (simp [*]; done)), H', ⟨by have := HJ6.out; have := HK2.out; have := HK3.out; omega⟩, ⟨by (with_reducible repeat (first | apply Kd.N_alloc | apply Kd.N_drewN | apply Kd.N_drew)); exact HO_9.out⟩, ⟨by repeat (first | (with_reducible first | exact HB.out | apply below_alloc | apply pw_below_drewN | apply below_drew1) | exact HB.out)⟩⟩
                              · rw [if_neg c29] at H
                                exact absurd H (by simp)
                            · rw [if_neg c28] at H
                              exact absurd H (by simp)
                          · rw [if_neg c27] at H
                            exact absurd H (by simp)
                        · rw [if_neg c26] at H
                          exact absurd H (by simp)
                      · rw [if_neg c25] at H
                        exact absurd H (by simp)
                    · rw [if_neg c24] at H
                      exact absurd H (by simp)
                  · rw [if_neg c23] at H
                    have c23b0 : decide (x14_3 < (l0.length : Int)) = false := decide_eq_false c23
                    clear c23
                    by_cases c36 : x11_2 = true
                    · subst c36
                      have H1 : (cartouchelaw11_RingShort.l0 k3 l0 a1 a2 t387 t389 t392 x13_3 (wrap64 (x12_2 + 1))) = some r := by rw [if_pos rfl] at H; exact H
                      clear H
                      have H := H1
                      clear H1
                      have H' := Aside0.mk H
                      clear H
                      go_wp2
                      repeat (go_quiet (fail); try go_wp2)
                      go_roundg k3
                      case measure => have := HJ6.out; have := HK2.out; have := HK3.out; omega
                      case rel => exact ⟨(x13_3), (wrap64 (x12_2 + 1)), (by first | rfl | (simp; done) | (simp [*]; done)), (by first | rfl | (simp; done) | (simp [*]; done)), H', ⟨by have := HJ6.out; have := HK2.out; have := HK3.out; omega⟩, ⟨by (with_reducible repeat (first | apply Kd.N_alloc | apply Kd.N_drewN | apply Kd.N_drew)); exact HO_9.out⟩, ⟨by repeat (first | (with_reducible first | exact HB.out | apply below_alloc | apply pw_below_drewN | apply below_drew1) | exact HB.out)⟩⟩
                    · replace c36 := Bool.eq_false_iff.mpr c36
                      subst c36
                      have H1 : (cartouchelaw11_RingShort.l0 k3 l0 a1 a2 t387 t389 t392 false (wrap64 (x12_2 + 1))) = some r := by rw [if_neg (show ¬ (false = true) by decide)] at H; exact H
                      clear H
                      have H := H1
                      clear H1
                      have H' := Aside0.mk H
                      clear H
                      go_wp2
                      repeat (go_quiet (fail); try go_wp2)
                      go_roundg k3
                      case measure => have := HJ6.out; have := HK2.out; have := HK3.out; omega
                      case rel => exact ⟨(false), (wrap64 (x12_2 + 1)), (by first | rfl | (simp; done) | (simp [*]; done)), (by first | rfl | (simp; done) | (simp [*]; done)), H', ⟨by have := HJ6.out; have := HK2.out; have := HK3.out; omega⟩, ⟨by (with_reducible repeat (first | apply Kd.N_alloc | apply Kd.N_drewN | apply Kd.N_drew)); exact HO_9.out⟩, ⟨by repeat (first | (with_reducible first | exact HB.out | apply below_alloc | apply pw_below_drewN | apply below_drew1) | exact HB.out)⟩⟩
            · rw [if_neg c21] at H
              have c21b0 : decide (x12_2 < (t389.length : Int)) = false := decide_eq_false c21
              clear c21
              by_cases c37 : t387 = true
              · subst c37
                have H1 : (if t392 = true then (if x11_2 = true then (some (decide ((t389.length : Int) ≤ (wrap64 (a2 - a1))))) else (some false)) else (some false)) = some r := by rw [if_pos rfl] at H; exact H
                clear H
                have H := H1
                clear H1
                by_cases c38 : t392 = true
                · subst c38
                  have H1 : (if x11_2 = true then (some (decide ((t389.length : Int) ≤ (wrap64 (a2 - a1))))) else (some false)) = some r := by rw [if_pos rfl] at H; exact H
                  clear H
                  have H := H1
                  clear H1
                  by_cases c39 : x11_2 = true
                  · subst c39
                    have H1 : (some (decide ((t389.length : Int) ≤ (wrap64 (a2 - a1))))) = some r := by rw [if_pos rfl] at H; exact H
                    clear H
                    have H := H1
                    clear H1
                    obtain rfl := Option.some.inj H
                    obtain ⟨Ao40, co40, eo40⟩ := Kd.N_slice HO_9.out
                    subst eo40
                    go_wp2
                    repeat (go_quiet (fail); try go_wp2)
                    go_ret
                    exact ⟨by first | rfl | (simp [errW_none, errW_some] <;> rfl) | (simp [*, errW_none, errW_some] <;> rfl), by repeat (first | (with_reducible first | exact HB.out | apply below_alloc | apply pw_below_drewN | apply below_drew1) | exact HB.out)⟩
                  · replace c39 := Bool.eq_false_iff.mpr c39
                    subst c39
                    have H1 : (some false) = some r := by rw [if_neg (show ¬ (false = true) by decide)] at H; exact H
                    clear H
                    have H := H1
                    clear H1
                    obtain rfl := Option.some.inj H
                    obtain ⟨Ao41, co41, eo41⟩ := Kd.N_slice HO_9.out
                    subst eo41
                    go_wp2
                    repeat (go_quiet (fail); try go_wp2)
                    go_ret
                    exact ⟨by first | rfl | (simp [errW_none, errW_some] <;> rfl) | (simp [*, errW_none, errW_some] <;> rfl), by repeat (first | (with_reducible first | exact HB.out | apply below_alloc | apply pw_below_drewN | apply below_drew1) | exact HB.out)⟩
                · replace c38 := Bool.eq_false_iff.mpr c38
                  subst c38
                  have H1 : (some false) = some r := by rw [if_neg (show ¬ (false = true) by decide)] at H; exact H
                  clear H
                  have H := H1
                  clear H1
                  obtain rfl := Option.some.inj H
                  obtain ⟨Ao42, co42, eo42⟩ := Kd.N_slice HO_9.out
                  subst eo42
                  go_wp2
                  repeat (go_quiet (fail); try go_wp2)
                  go_ret
                  exact ⟨by first | rfl | (simp [errW_none, errW_some] <;> rfl) | (simp [*, errW_none, errW_some] <;> rfl), by repeat (first | (with_reducible first | exact HB.out | apply below_alloc | apply pw_below_drewN | apply below_drew1) | exact HB.out)⟩
              · replace c37 := Bool.eq_false_iff.mpr c37
                subst c37
                have H1 : (some false) = some r := by rw [if_neg (show ¬ (false = true) by decide)] at H; exact H
                clear H
                have H := H1
                clear H1
                obtain rfl := Option.some.inj H
                obtain ⟨Ao43, co43, eo43⟩ := Kd.N_slice HO_9.out
                subst eo43
                go_wp2
                repeat (go_quiet (fail); try go_wp2)
                go_ret
                exact ⟨by first | rfl | (simp [errW_none, errW_some] <;> rfl) | (simp [*, errW_none, errW_some] <;> rfl), by repeat (first | (with_reducible first | exact HB.out | apply below_alloc | apply pw_below_drewN | apply below_drew1) | exact HB.out)⟩

end Go.Proofs.YthjgmccpbcelgaaPr
