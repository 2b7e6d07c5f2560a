/- Contracts of Go functions, printed by a program of this session over the translation: each call answers what its Lean function says. -/
import Derived.Test.YthjgmccpbcelgaaPr0
import Derived.Test.YthjgmccpbcelgaaPr21
import Derived.Test.YthjgmccpbcelgaaPr22
import Derived.Test.YthjgmccpbcelgaaPr23
namespace Go.Proofs.YthjgmccpbcelgaaPr
open Go.RowKit Go.Proofs.YthjgmccpbcelgaaW.PrintWords Go.Proofs.YthjgmccpbcelgaaW.PrintLast Go.Proofs.YthjgmccpbcelgaaW.PrintMore
attribute [local go_sem] max2_int min2_int max_two min_two max_three min_three max_four min_four   -- for this text's walks alone
set_option linter.unusedVariables false
set_option linter.unusedSimpArgs false

/-! ### cartoucheref11_Ring: function 47 -/
mutual
def cartoucheref11_Ring.l0 : Nat → List (S50) → List Int → Int → Option ((List (S50)) × Bool)
  | 0, _, _, _ => none
  | k + 1, x0, x4, x5 => if x5 ≤ (x4.length : Int) then (cartoucheref11_Ring.l1 k x0 x4 x5 0) else (some (([] : List (S50)), false))
def cartoucheref11_Ring.l1 : Nat → List (S50) → List Int → Int → Int → Option ((List (S50)) × Bool)
  | 0, _, _, _, _ => none
  | k + 1, x0, x4, x5, x6 => if x6 < (x4.length : Int) then (if 0 ≤ x6 then ((cartoucheref11_ways.f k x0 (rd x4 x6) x5).bind fun t342 => (if 0 ≤ x5 then (if x5 < (t342.length : Int) then ((cartoucheref11_has.f k (rd_L9 t342 x5) (rd x4 x6)).bind fun t347 => (if t347 = true then (cartoucheref11_Ring.l2 k x0 t342 ([] : List (S50)) (rd x4 x6) (wrap64 (x5 - 1))) else (cartoucheref11_Ring.l1 k x0 x4 x5 (wrap64 (x6 + 1))))) else (none)) else (none))) else (none)) else (cartoucheref11_Ring.l0 k x0 x4 (wrap64 (x5 + 1)))
def cartoucheref11_Ring.l2 : Nat → List (S50) → List (List Int) → List (S50) → Int → Int → Option ((List (S50)) × Bool)
  | 0, _, _, _, _, _ => none
  | k + 1, x0, x7, x9, x10, x11 => if x11 ≥ 0 then (cartoucheref11_Ring.l3 k x0 x7 x9 x10 x11 false 0) else (some (x9, true))
def cartoucheref11_Ring.l3 : Nat → List (S50) → List (List Int) → List (S50) → Int → Int → Bool → Int → Option ((List (S50)) × Bool)
  | 0, _, _, _, _, _, _, _ => none
  | k + 1, x0, x7, x9, x10, x11, x12, x13 => if x13 < (x0.length : Int) then (cartoucheref11_Ring.j4 k x0 x7 x9 x10 x11 x12 x13 (!x12)) else (cartoucheref11_Ring.j4 k x0 x7 x9 x10 x11 x12 x13 false)
def cartoucheref11_Ring.j4 : Nat → List (S50) → List (List Int) → List (S50) → Int → Int → Bool → Int → Bool → Option ((List (S50)) × Bool)
  | 0, _, _, _, _, _, _, _, _ => none
  | k + 1, x0, x7, x9, x10, x11, x12, x13, x64 => if x64 = true then (if 0 ≤ x11 then (if x11 < (x7.length : Int) then (if 0 ≤ x13 then (if x13 < (x0.length : Int) then ((cartoucheref11_has.f k (rd_L9 x7 x11) ((rd_T50 x0 x13).f1)).bind fun t351 => (if ((rd_T50 x0 x13).f0) = x10 then (cartoucheref11_Ring.j5 k x0 x7 x9 x10 x11 x12 x13 t351) else (cartoucheref11_Ring.j5 k x0 x7 x9 x10 x11 x12 x13 false))) else (none)) else (none)) else (none)) else (none)) else (cartoucheref11_Ring.l2 k x0 x7 x9 x10 (wrap64 (x11 - 1)))
def cartoucheref11_Ring.j5 : Nat → List (S50) → List (List Int) → List (S50) → Int → Int → Bool → Int → Bool → Option ((List (S50)) × Bool)
  | 0, _, _, _, _, _, _, _, _ => none
  | k + 1, x0, x7, x9, x10, x11, x12, x13, x86 => if x86 = true then (if 0 ≤ x13 then (if x13 < (x0.length : Int) then (if x9.length < 3518437208883 then (cartoucheref11_Ring.l3 k x0 x7 (x9 ++ [(⟨(rd_T50 x0 x13).f0, (rd_T50 x0 x13).f1, (rd_T50 x0 x13).f2⟩ : S50)]) ((rd_T50 x0 x13).f1) x11 true (wrap64 (x13 + 1))) else (none)) else (none)) else (none)) else (cartoucheref11_Ring.l3 k x0 x7 x9 x10 x11 x12 (wrap64 (x13 + 1)))
end
def cartoucheref11_Ring.f (k : Nat) (l0 : List (S50)) : Option ((List (S50)) × Bool) := (cartoucheref11_starts.f k l0).bind fun t338 => (cartoucheref11_Ring.l0 k l0 t338 1)
theorem cartoucheref11_Ring.mono_l : ∀ k, (∀ y0 y1 y2, LeO (cartoucheref11_Ring.l0 k y0 y1 y2) (cartoucheref11_Ring.l0 (k + 1) y0 y1 y2)) ∧ (∀ y0 y1 y2 y3, LeO (cartoucheref11_Ring.l1 k y0 y1 y2 y3) (cartoucheref11_Ring.l1 (k + 1) y0 y1 y2 y3)) ∧ (∀ y0 y1 y2 y3 y4, LeO (cartoucheref11_Ring.l2 k y0 y1 y2 y3 y4) (cartoucheref11_Ring.l2 (k + 1) y0 y1 y2 y3 y4)) ∧ (∀ y0 y1 y2 y3 y4 y5 y6, LeO (cartoucheref11_Ring.l3 k y0 y1 y2 y3 y4 y5 y6) (cartoucheref11_Ring.l3 (k + 1) y0 y1 y2 y3 y4 y5 y6)) ∧ (∀ y0 y1 y2 y3 y4 y5 y6 y7, LeO (cartoucheref11_Ring.j4 k y0 y1 y2 y3 y4 y5 y6 y7) (cartoucheref11_Ring.j4 (k + 1) y0 y1 y2 y3 y4 y5 y6 y7)) ∧ (∀ y0 y1 y2 y3 y4 y5 y6 y7, LeO (cartoucheref11_Ring.j5 k y0 y1 y2 y3 y4 y5 y6 y7) (cartoucheref11_Ring.j5 (k + 1) y0 y1 y2 y3 y4 y5 y6 y7))
  | 0 => ⟨fun _ _ _ r h => by simp [cartoucheref11_Ring.l0] at h, fun _ _ _ _ r h => by simp [cartoucheref11_Ring.l1] at h, fun _ _ _ _ _ r h => by simp [cartoucheref11_Ring.l2] at h, fun _ _ _ _ _ _ _ r h => by simp [cartoucheref11_Ring.l3] at h, fun _ _ _ _ _ _ _ _ r h => by simp [cartoucheref11_Ring.j4] at h, fun _ _ _ _ _ _ _ _ r h => by simp [cartoucheref11_Ring.j5] at h⟩
  | k + 1 => by
    obtain ⟨ih0, ih1, ih2, ih3, ih4, ih5⟩ := cartoucheref11_Ring.mono_l k
    refine ⟨?_, ?_, ?_, ?_, ?_, ?_⟩
    · intro y0 y1 y2
      unfold cartoucheref11_Ring.l0
      repeat' first
      | (with_reducible exact ih0 _ _ _)
      | (with_reducible exact ih1 _ _ _ _)
      | (with_reducible exact ih2 _ _ _ _ _)
      | (with_reducible exact ih3 _ _ _ _ _ _ _)
      | (with_reducible exact ih4 _ _ _ _ _ _ _ _)
      | (with_reducible exact ih5 _ _ _ _ _ _ _ _)
      | (with_reducible exact cartoucheref11_has.mono _ _ _)
      | (with_reducible exact cartoucheref11_starts.mono _ _)
      | (with_reducible exact cartoucheref11_ways.mono _ _ _ _)
      | (with_reducible exact LeO.refl _)
      | (with_reducible exact LeO.none _)
      | (with_reducible refine LeO.ite ?_ ?_)
      | (with_reducible refine LeO.bind ?_ (fun _ => ?_))
      | exact ih0 _ _ _
      | exact ih1 _ _ _ _
      | exact ih2 _ _ _ _ _
      | exact ih3 _ _ _ _ _ _ _
      | exact ih4 _ _ _ _ _ _ _ _
      | exact ih5 _ _ _ _ _ _ _ _
      | exact cartoucheref11_has.mono _ _ _
      | exact cartoucheref11_starts.mono _ _
      | exact cartoucheref11_ways.mono _ _ _ _
      | exact LeO.none _
      | refine LeO.ite ?_ ?_
      | refine LeO.bind ?_ (fun _ => ?_)
    · intro y0 y1 y2 y3
      unfold cartoucheref11_Ring.l1
      repeat' first
      | (with_reducible exact ih0 _ _ _)
      | (with_reducible exact ih1 _ _ _ _)
      | (with_reducible exact ih2 _ _ _ _ _)
      | (with_reducible exact ih3 _ _ _ _ _ _ _)
      | (with_reducible exact ih4 _ _ _ _ _ _ _ _)
      | (with_reducible exact ih5 _ _ _ _ _ _ _ _)
      | (with_reducible exact cartoucheref11_has.mono _ _ _)
      | (with_reducible exact cartoucheref11_starts.mono _ _)
      | (with_reducible exact cartoucheref11_ways.mono _ _ _ _)
      | (with_reducible exact LeO.refl _)
      | (with_reducible exact LeO.none _)
      | (with_reducible refine LeO.ite ?_ ?_)
      | (with_reducible refine LeO.bind ?_ (fun _ => ?_))
      | exact ih0 _ _ _
      | exact ih1 _ _ _ _
      | exact ih2 _ _ _ _ _
      | exact ih3 _ _ _ _ _ _ _
      | exact ih4 _ _ _ _ _ _ _ _
      | exact ih5 _ _ _ _ _ _ _ _
      | exact cartoucheref11_has.mono _ _ _
      | exact cartoucheref11_starts.mono _ _
      | exact cartoucheref11_ways.mono _ _ _ _
      | exact LeO.none _
      | refine LeO.ite ?_ ?_
      | refine LeO.bind ?_ (fun _ => ?_)
    · intro y0 y1 y2 y3 y4
      unfold cartoucheref11_Ring.l2
      repeat' first
      | (with_reducible exact ih0 _ _ _)
      | (with_reducible exact ih1 _ _ _ _)
      | (with_reducible exact ih2 _ _ _ _ _)
      | (with_reducible exact ih3 _ _ _ _ _ _ _)
      | (with_reducible exact ih4 _ _ _ _ _ _ _ _)
      | (with_reducible exact ih5 _ _ _ _ _ _ _ _)
      | (with_reducible exact cartoucheref11_has.mono _ _ _)
      | (with_reducible exact cartoucheref11_starts.mono _ _)
      | (with_reducible exact cartoucheref11_ways.mono _ _ _ _)
      | (with_reducible exact LeO.refl _)
      | (with_reducible exact LeO.none _)
      | (with_reducible refine LeO.ite ?_ ?_)
      | (with_reducible refine LeO.bind ?_ (fun _ => ?_))
      | exact ih0 _ _ _
      | exact ih1 _ _ _ _
      | exact ih2 _ _ _ _ _
      | exact ih3 _ _ _ _ _ _ _
      | exact ih4 _ _ _ _ _ _ _ _
      | exact ih5 _ _ _ _ _ _ _ _
      | exact cartoucheref11_has.mono _ _ _
      | exact cartoucheref11_starts.mono _ _
      | exact cartoucheref11_ways.mono _ _ _ _
      | exact LeO.none _
      | refine LeO.ite ?_ ?_
      | refine LeO.bind ?_ (fun _ => ?_)
    · intro y0 y1 y2 y3 y4 y5 y6
      unfold cartoucheref11_Ring.l3
      repeat' first
      | (with_reducible exact ih0 _ _ _)
      | (with_reducible exact ih1 _ _ _ _)
      | (with_reducible exact ih2 _ _ _ _ _)
      | (with_reducible exact ih3 _ _ _ _ _ _ _)
      | (with_reducible exact ih4 _ _ _ _ _ _ _ _)
      | (with_reducible exact ih5 _ _ _ _ _ _ _ _)
      | (with_reducible exact cartoucheref11_has.mono _ _ _)
      | (with_reducible exact cartoucheref11_starts.mono _ _)
      | (with_reducible exact cartoucheref11_ways.mono _ _ _ _)
      | (with_reducible exact LeO.refl _)
      | (with_reducible exact LeO.none _)
      | (with_reducible refine LeO.ite ?_ ?_)
      | (with_reducible refine LeO.bind ?_ (fun _ => ?_))
      | exact ih0 _ _ _
      | exact ih1 _ _ _ _
      | exact ih2 _ _ _ _ _
      | exact ih3 _ _ _ _ _ _ _
      | exact ih4 _ _ _ _ _ _ _ _
      | exact ih5 _ _ _ _ _ _ _ _
      | exact cartoucheref11_has.mono _ _ _
      | exact cartoucheref11_starts.mono _ _
      | exact cartoucheref11_ways.mono _ _ _ _
      | exact LeO.none _
      | refine LeO.ite ?_ ?_
      | refine LeO.bind ?_ (fun _ => ?_)
    · intro y0 y1 y2 y3 y4 y5 y6 y7
      unfold cartoucheref11_Ring.j4
      repeat' first
      | (with_reducible exact ih0 _ _ _)
      | (with_reducible exact ih1 _ _ _ _)
      | (with_reducible exact ih2 _ _ _ _ _)
      | (with_reducible exact ih3 _ _ _ _ _ _ _)
      | (with_reducible exact ih4 _ _ _ _ _ _ _ _)
      | (with_reducible exact ih5 _ _ _ _ _ _ _ _)
      | (with_reducible exact cartoucheref11_has.mono _ _ _)
      | (with_reducible exact cartoucheref11_starts.mono _ _)
      | (with_reducible exact cartoucheref11_ways.mono _ _ _ _)
      | (with_reducible exact LeO.refl _)
      | (with_reducible exact LeO.none _)
      | (with_reducible refine LeO.ite ?_ ?_)
      | (with_reducible refine LeO.bind ?_ (fun _ => ?_))
      | exact ih0 _ _ _
      | exact ih1 _ _ _ _
      | exact ih2 _ _ _ _ _
      | exact ih3 _ _ _ _ _ _ _
      | exact ih4 _ _ _ _ _ _ _ _
      | exact ih5 _ _ _ _ _ _ _ _
      | exact cartoucheref11_has.mono _ _ _
      | exact cartoucheref11_starts.mono _ _
      | exact cartoucheref11_ways.mono _ _ _ _
      | exact LeO.none _
      | refine LeO.ite ?_ ?_
      | refine LeO.bind ?_ (fun _ => ?_)
    · intro y0 y1 y2 y3 y4 y5 y6 y7
      unfold cartoucheref11_Ring.j5
      repeat' first
      | (with_reducible exact ih0 _ _ _)
      | (with_reducible exact ih1 _ _ _ _)
      | (with_reducible exact ih2 _ _ _ _ _)
      | (with_reducible exact ih3 _ _ _ _ _ _ _)
      | (with_reducible exact ih4 _ _ _ _ _ _ _ _)
      | (with_reducible exact ih5 _ _ _ _ _ _ _ _)
      | (with_reducible exact cartoucheref11_has.mono _ _ _)
      | (with_reducible exact cartoucheref11_starts.mono _ _)
      | (with_reducible exact cartoucheref11_ways.mono _ _ _ _)
      | (with_reducible exact LeO.refl _)
      | (with_reducible exact LeO.none _)
      | (with_reducible refine LeO.ite ?_ ?_)
      | (with_reducible refine LeO.bind ?_ (fun _ => ?_))
      | exact ih0 _ _ _
      | exact ih1 _ _ _ _
      | exact ih2 _ _ _ _ _
      | exact ih3 _ _ _ _ _ _ _
      | exact ih4 _ _ _ _ _ _ _ _
      | exact ih5 _ _ _ _ _ _ _ _
      | exact cartoucheref11_has.mono _ _ _
      | exact cartoucheref11_starts.mono _ _
      | exact cartoucheref11_ways.mono _ _ _ _
      | exact LeO.none _
      | refine LeO.ite ?_ ?_
      | refine LeO.bind ?_ (fun _ => ?_)
theorem cartoucheref11_Ring.mono : ∀ a0 k, LeO (cartoucheref11_Ring.f k a0) (cartoucheref11_Ring.f (k + 1) a0) := by
  intro a0 k
  obtain ⟨ih0, ih1, ih2, ih3, ih4, ih5⟩ := cartoucheref11_Ring.mono_l k
  unfold cartoucheref11_Ring.f
  repeat' first
      | (with_reducible exact ih0 _ _ _)
      | (with_reducible exact ih1 _ _ _ _)
      | (with_reducible exact ih2 _ _ _ _ _)
      | (with_reducible exact ih3 _ _ _ _ _ _ _)
      | (with_reducible exact ih4 _ _ _ _ _ _ _ _)
      | (with_reducible exact ih5 _ _ _ _ _ _ _ _)
      | (with_reducible exact cartoucheref11_has.mono _ _ _)
      | (with_reducible exact cartoucheref11_starts.mono _ _)
      | (with_reducible exact cartoucheref11_ways.mono _ _ _ _)
      | (with_reducible exact LeO.refl _)
      | (with_reducible exact LeO.none _)
      | (with_reducible refine LeO.ite ?_ ?_)
      | (with_reducible refine LeO.bind ?_ (fun _ => ?_))
      | exact ih0 _ _ _
      | exact ih1 _ _ _ _
      | exact ih2 _ _ _ _ _
      | exact ih3 _ _ _ _ _ _ _
      | exact ih4 _ _ _ _ _ _ _ _
      | exact ih5 _ _ _ _ _ _ _ _
      | exact cartoucheref11_has.mono _ _ _
      | exact cartoucheref11_starts.mono _ _
      | exact cartoucheref11_ways.mono _ _ _ _
      | exact LeO.none _
      | refine LeO.ite ?_ ?_
      | refine LeO.bind ?_ (fun _ => ?_)
set_option maxHeartbeats 8000000 in
set_option maxRecDepth 100000 in
theorem cartoucheref11_Ring.calls (k : Nat) (P0_ : Nat → Prop) (A0 : Option Addr) (c0 : Nat) (l0 : List (S50)) (r1 : List (S50)) (r2 : Bool) (w : World) (hs0 : Kd.V k50 50 w w.heap.size (fun k_ => P0_ k_) (.slice A0 l0.length c0) l0) (h : cartoucheref11_Ring.f k l0 = some (r1, r2)) :
    Calls Try.prog 47 #[.slice A0 l0.length c0] w fun e w' => ∃ v0_ : Value, e = .returned (.tuple #[v0_, .bool r2]) ∧ Kd.N k50 50 w' w.heap.size (fun k_ => (P0_ k_ ∨ w.heap.size ≤ k_)) v0_ r1 ∧ Below w.heap.size w w' := by
  have hu50 := Try.underlying50
  have HO0 := Aside0.mk (show Kd.V k50 50 w w.heap.size (fun k_ => (P0_ k_ ∨ w.heap.size ≤ k_)) (.slice A0 l0.length c0) l0 from Kd.V_mono hs0 (fun k_ hk => .inl hk))
  have HB := Aside0.mk (Below.refl w.heap.size w)
  have H : ((cartoucheref11_starts.f k l0).bind fun t338 => (cartoucheref11_Ring.l0 k l0 t338 1)) = some (r1, r2) := h
  clear h
  replace H := Option.bind_eq_some_iff.mp H
  obtain ⟨t338, A20, H⟩ := H
  replace H : (cartoucheref11_Ring.l0 k l0 t338 1) = some (r1, r2) := H
  have A2 := Aside0.mk A20
  clear A20
  have H' := Aside0.mk H
  clear H
  go_enter Try.func47, Try.ntmps47
  go_wp2_with (first | (go_at_call 88; (with_reducible refine (cartoucheref11_starts.calls k _ _ l0 t338 _ ?side1 ?side2 A2.out).mono ?_); (case side1 => repeat (first | exact (Kd.V_reads' HO0.out).2.2 | (with_reducible refine Kd.C_alloc ?_ _) | (with_reducible refine Kd.C_drewN ?_ _) | (with_reducible refine Kd.C_drew ?_))); (case side2 => exact (Kd.V_reads' HO0.out).2.1); rintro e w3 ⟨v339, rfl, ho0, hb⟩; have n0_ := Aside0.mk (Kd.V_elder' (by (with_reducible repeat (first | apply Kd.V_alloc | apply Kd.V_drewN | apply Kd.V_drew)); exact HO0.out) (Kd.R_base ho0) hb); have n1_ := Aside0.mk (Kd.R_lower (Kd.R_newM (M := fun k_ => (w.heap.size ≤ k_)) ho0 (below_size (by repeat (first | (with_reducible first | exact HB.out | apply below_alloc | apply pw_below_drewN | apply below_drew1) | exact HB.out))) (fun k_ h_ => h_)) (below_size (by repeat (first | (with_reducible first | exact HB.out | apply below_alloc | apply pw_below_drewN | apply below_drew1) | exact HB.out)))); have n2_ := Aside0.mk (below_step (by repeat (first | (with_reducible first | exact HB.out | apply below_alloc | apply pw_below_drewN | apply below_drew1) | exact HB.out)) hb); clear HO0; clear HB; have HO0 := n0_; have HO340 := n1_; have HB := n2_; clear n0_ n1_ n2_; (try clear hb); (try clear hb2); (try clear hk); (try clear hi); (try clear ho0)))
  repeat (go_quiet (first | (go_at_call 88; (with_reducible refine (cartoucheref11_starts.calls k _ _ l0 t338 _ ?side1 ?side2 A2.out).mono ?_); (case side1 => repeat (first | exact (Kd.V_reads' HO0.out).2.2 | (with_reducible refine Kd.C_alloc ?_ _) | (with_reducible refine Kd.C_drewN ?_ _) | (with_reducible refine Kd.C_drew ?_))); (case side2 => exact (Kd.V_reads' HO0.out).2.1); rintro e w3 ⟨v339, rfl, ho0, hb⟩; have n0_ := Aside0.mk (Kd.V_elder' (by (with_reducible repeat (first | apply Kd.V_alloc | apply Kd.V_drewN | apply Kd.V_drew)); exact HO0.out) (Kd.R_base ho0) hb); have n1_ := Aside0.mk (Kd.R_lower (Kd.R_newM (M := fun k_ => (w.heap.size ≤ k_)) ho0 (below_size (by repeat (first | (with_reducible first | exact HB.out | apply below_alloc | apply pw_below_drewN | apply below_drew1) | exact HB.out))) (fun k_ h_ => h_)) (below_size (by repeat (first | (with_reducible first | exact HB.out | apply below_alloc | apply pw_below_drewN | apply below_drew1) | exact HB.out)))); have n2_ := Aside0.mk (below_step (by repeat (first | (with_reducible first | exact HB.out | apply below_alloc | apply pw_below_drewN | apply below_drew1) | exact HB.out)) hb); clear HO0; clear HB; have HO0 := n0_; have HO340 := n1_; have HB := n2_; clear n0_ n1_ n2_; (try clear hb); (try clear hb2); (try clear hk); (try clear hi); (try clear ho0))); try go_wp2_with (first | (go_at_call 88; (with_reducible refine (cartoucheref11_starts.calls k _ _ l0 t338 _ ?side1 ?side2 A2.out).mono ?_); (case side1 => repeat (first | exact (Kd.V_reads' HO0.out).2.2 | (with_reducible refine Kd.C_alloc ?_ _) | (with_reducible refine Kd.C_drewN ?_ _) | (with_reducible refine Kd.C_drew ?_))); (case side2 => exact (Kd.V_reads' HO0.out).2.1); rintro e w3 ⟨v339, rfl, ho0, hb⟩; have n0_ := Aside0.mk (Kd.V_elder' (by (with_reducible repeat (first | apply Kd.V_alloc | apply Kd.V_drewN | apply Kd.V_drew)); exact HO0.out) (Kd.R_base ho0) hb); have n1_ := Aside0.mk (Kd.R_lower (Kd.R_newM (M := fun k_ => (w.heap.size ≤ k_)) ho0 (below_size (by repeat (first | (with_reducible first | exact HB.out | apply below_alloc | apply pw_below_drewN | apply below_drew1) | exact HB.out))) (fun k_ h_ => h_)) (below_size (by repeat (first | (with_reducible first | exact HB.out | apply below_alloc | apply pw_below_drewN | apply below_drew1) | exact HB.out)))); have n2_ := Aside0.mk (below_step (by repeat (first | (with_reducible first | exact HB.out | apply below_alloc | apply pw_below_drewN | apply below_drew1) | exact HB.out)) hb); clear HO0; clear HB; have HO0 := n0_; have HO340 := n1_; have HB := n2_; clear n0_ n1_ n2_; (try clear hb); (try clear hb2); (try clear hk); (try clear hi); (try clear ho0))))
  go_loopg [5] k (fun kq v5 w' => ∃ (x5_1 : Int), v5 = .int .i64 x5_1 ∧ Aside0 (cartoucheref11_Ring.l0 kq l0 t338 x5_1 = some (r1, r2)) ∧ Aside0 (kq ≤ k) ∧ Aside0 (Kd.V k50 50 w' w.heap.size (fun k_ => (P0_ k_ ∨ w.heap.size ≤ k_) ∧ some k_ ≠ (v339 : Value).ownBlock) (.slice A0 l0.length c0) l0) ∧ Aside0 (Kd.R (Kd.int .i64) 3 w' w.heap.size (fun k_ => (w.heap.size ≤ k_)) v339 t338) ∧ Aside0 (Below w.heap.size w w'))
  case atStart => exact ⟨(1), (by first | rfl | (simp; done) | (simp [*]; done)), H', ⟨Nat.le_refl _⟩, ⟨by (with_reducible repeat (first | apply Kd.V_alloc | apply Kd.V_drewN | apply Kd.V_drew)); exact HO0.out⟩, ⟨by (with_reducible repeat (first | apply Kd.R_alloc | apply Kd.R_drewN | apply Kd.R_drew)); exact Kd.R_mono HO340.out (fun _ hk => hk.1)⟩, ⟨by repeat (first | (with_reducible first | exact HB.out | apply below_alloc | apply pw_below_drewN | apply below_drew1) | exact HB.out)⟩⟩
  case round =>
    clear H'
    try clear p2
    obtain ⟨x5_1, rfl, HA, HK1, HO_0, HO_4, HB⟩ := hrel
    cases gk with
    | zero => exact absurd HA.out (by simp [cartoucheref11_Ring.l0])
    | succ k1 =>
      have H := HA.out
      clear HA
      simp only [cartoucheref11_Ring.l0] at H
      by_cases c4 : x5_1 ≤ (t338.length : Int)
      · rw [if_pos c4] at H
        have c4b0 : decide (x5_1 ≤ (t338.length : Int)) = true := decide_eq_true c4
        clear c4
        have H' := Aside0.mk H
        clear H
        obtain ⟨Ao5, co5, eo5⟩ := Kd.R_slice HO_4.out
        subst eo5
        go_wp2
        repeat (go_quiet (fail); try go_wp2)
        go_loopg [6] k1 (fun kq v6 w' => ∃ (x6_2 : Int), v6 = .int .i64 x6_2 ∧ Aside0 (cartoucheref11_Ring.l1 kq l0 t338 x5_1 x6_2 = some (r1, r2)) ∧ Aside0 (kq ≤ k1) ∧ Aside0 (Kd.V k50 50 w' w.heap.size (fun k_ => (P0_ k_ ∨ w.heap.size ≤ k_) ∧ some k_ ≠ ((.slice Ao5 t338.length co5) : Value).ownBlock) (.slice A0 l0.length c0) l0) ∧ Aside0 (Kd.R (Kd.int .i64) 3 w' w.heap.size (fun k_ => (w.heap.size ≤ k_)) (.slice Ao5 t338.length co5) t338) ∧ Aside0 (Below w.heap.size w w'))
        case atStart => exact ⟨(0), (by first | rfl | (simp; done) | (simp [*]; done)), H', ⟨Nat.le_refl _⟩, ⟨by (with_reducible repeat (first | apply Kd.V_alloc | apply Kd.V_drewN | apply Kd.V_drew)); exact HO_0.out⟩, ⟨by (with_reducible repeat (first | apply Kd.R_alloc | apply Kd.R_drewN | apply Kd.R_drew)); exact HO_4.out⟩, ⟨by repeat (first | (with_reducible first | exact HB.out | apply below_alloc | apply pw_below_drewN | apply below_drew1) | exact HB.out)⟩⟩
        case round =>
          clear H'
          try clear p2
          try clear c4
          try clear c4b0
          try clear p2
          obtain ⟨x6_2, rfl, HA, HK2, HO_0, HO_4, HB⟩ := hrel
          cases gk with
          | zero => exact absurd HA.out (by simp [cartoucheref11_Ring.l1])
          | succ k2 =>
            have H := HA.out
            clear HA
            simp only [cartoucheref11_Ring.l1] at H
            by_cases c6 : x6_2 < (t338.length : Int)
            · rw [if_pos c6] at H
              have c6b0 : decide (x6_2 < (t338.length : Int)) = true := decide_eq_true c6
              clear c6
              by_cases c7 : 0 ≤ x6_2
              · rw [if_pos c7] at H
                have c7b0 : decide (0 ≤ x6_2) = true := decide_eq_true c7
                clear c7
                replace H := Option.bind_eq_some_iff.mp H
                obtain ⟨t342, A80, H⟩ := H
                replace H : (if 0 ≤ x5_1 then (if x5_1 < (t342.length : Int) then ((cartoucheref11_has.f k2 (rd_L9 t342 x5_1) (rd t338 x6_2)).bind fun t347 => (if t347 = true then (cartoucheref11_Ring.l2 k2 l0 t342 ([] : List (S50)) (rd t338 x6_2) (wrap64 (x5_1 - 1))) else (cartoucheref11_Ring.l1 k2 l0 t338 x5_1 (wrap64 (x6_2 + 1))))) else (none)) else (none)) = some (r1, r2) := H
                have A8 := Aside0.mk A80
                clear A80
                by_cases c9 : 0 ≤ x5_1
                · rw [if_pos c9] at H
                  have c9b0 : decide (0 ≤ x5_1) = true := decide_eq_true c9
                  clear c9
                  by_cases c10 : x5_1 < (t342.length : Int)
                  · rw [if_pos c10] at H
                    have c10b0 : decide (x5_1 < (t342.length : Int)) = true := decide_eq_true c10
                    clear c10
                    replace H := Option.bind_eq_some_iff.mp H
                    obtain ⟨t347, A110, H⟩ := H
                    replace H : (if t347 = true then (cartoucheref11_Ring.l2 k2 l0 t342 ([] : List (S50)) (rd t338 x6_2) (wrap64 (x5_1 - 1))) else (cartoucheref11_Ring.l1 k2 l0 t338 x5_1 (wrap64 (x6_2 + 1)))) = some (r1, r2) := H
                    have A11 := Aside0.mk A110
                    clear A110
                    by_cases c12 : t347 = true
                    · subst c12
                      have H1 : (cartoucheref11_Ring.l2 k2 l0 t342 ([] : List (S50)) (rd t338 x6_2) (wrap64 (x5_1 - 1))) = some (r1, r2) := by rw [if_pos rfl] at H; exact H
                      clear H
                      have H := H1
                      clear H1
                      have H' := Aside0.mk H
                      clear H
                      have p341 : 0 ≤ (x6_2 : Int) := of_decide_eq_true (by first | (with_reducible assumption) | assumption)
                      have q341 : x6_2 < (t338.length : Int) := of_decide_eq_true (by first | (with_reducible assumption) | assumption)
                      obtain ⟨ad341, e341, hx341_0⟩ := Kd.at_int (Kd.R_reads' HO_4.out).2.2 x6_2 p341 q341
                      cases e341
                      replace p341 := eq_true p341
                      replace q341 := eq_true q341
                      go_wp2_with (first | (go_at_call 89; (with_reducible refine (cartoucheref11_ways.calls k2 _ _ l0 (rd t338 x6_2) x5_1 t342 _ ?side1 ?side2 A8.out).mono ?_); (case side1 => repeat (first | exact (Kd.V_reads' HO_0.out).2.2 | (with_reducible refine Kd.C_alloc ?_ _) | (with_reducible refine Kd.C_drewN ?_ _) | (with_reducible refine Kd.C_drew ?_))); (case side2 => exact (Kd.V_reads' HO_0.out).2.1); rintro e w13 ⟨v343, rfl, ho0, hb⟩; have n0_ := Aside0.mk (Kd.V_elder' (by (with_reducible repeat (first | apply Kd.V_alloc | apply Kd.V_drewN | apply Kd.V_drew)); exact HO_0.out) (Kd.N_base ho0) hb); have n1_ := Aside0.mk (Kd.R_below (by (with_reducible repeat (first | apply Kd.R_alloc | apply Kd.R_drewN | apply Kd.R_drew)); exact HO_4.out) hb); have n2_ := Aside0.mk (Kd.N_lower (Kd.N_mono (ok' := fun k_ => (P0_ k_ ∨ w.heap.size ≤ k_) ∧ some k_ ≠ (.slice (some ad341) t338.length co5 : Value).ownBlock) ho0 (fun k_ hk_ => ⟨(.inr (Nat.le_trans (below_size (by repeat (first | (with_reducible first | exact HB.out | apply below_alloc | apply pw_below_drewN | apply below_drew1) | exact HB.out))) hk_)), (Kd.fresh' (Kd.R_lt (by (with_reducible repeat (first | apply Kd.R_alloc | apply Kd.R_drewN | apply Kd.R_drew)); exact HO_4.out)) k_ hk_)⟩)) (below_size (by repeat (first | (with_reducible first | exact HB.out | apply below_alloc | apply pw_below_drewN | apply below_drew1) | exact HB.out)))); have n3_ := Aside0.mk (below_step (by repeat (first | (with_reducible first | exact HB.out | apply below_alloc | apply pw_below_drewN | apply below_drew1) | exact HB.out)) hb); clear HO_0; clear HO_4; clear HB; have HO_0 := n0_; have HO_4 := n1_; have HO344 := n2_; have HB := n3_; clear n0_ n1_ n2_ n3_; (try clear hb); (try clear hb2); (try clear hk); (try clear hi); (try clear ho0); obtain ⟨Ao14, co14, eo14⟩ := Kd.N_slice HO344.out; subst eo14; have p345 : 0 ≤ (x5_1 : Int) := of_decide_eq_true (by first | (with_reducible assumption) | assumption); have q345 : x5_1 < (t342.length : Int) := of_decide_eq_true (by first | (with_reducible assumption) | assumption); obtain ⟨ad345, A345_0, c345_0, e345, hx345_0, hl345_0, hi345_0⟩ := at_L9 (Kd.N_reads' HO344.out).2.2 x5_1 p345 q345; cases e345; obtain ⟨ce345, hce345, hMe345, hcc345⟩ := Kd.N_get HO344.out [] x5_1 p345 (by first | exact q345 | exact of_decide_eq_true (by first | (with_reducible assumption) | assumption) | (have e_ := (Kd.N_reads' HO344.out).1; omega)); obtain ⟨ua345_0, uc345_0, rfl, ul345_0, ge345_0⟩ := Kd.FK_slice_open hMe345; have hv345_0 := hcc345 0 _ rfl; rw [Nat.add_zero, show ((Kd.slice 3 (Kd.int .i64))).sz = 1 from rfl, Nat.mul_one] at hv345_0; replace hv345_0 := Option.some.inj (hv345_0.symm.trans hx345_0); injection hv345_0 with hva_ hvn_ hvc_; rw [hva_] at ge345_0; rw [hvc_] at ul345_0; have HL345_0 := Aside0.mk (show Kd.V (Kd.int .i64) 3 _ w.heap.size _ _ (rd_L9 t342 x5_1) from Kd.V_mk ul345_0 ge345_0); clear hva_ hvn_ hvc_ ge345_0 ul345_0; clear hcc345 hce345; have HR345_0 := Aside0.mk hi345_0; have HC345_0 := Aside0.mk hl345_0; clear hi345_0 hl345_0; replace p345 := eq_true p345; replace q345 := eq_true q345; have p346 : 0 ≤ (x6_2 : Int) := of_decide_eq_true (by first | (with_reducible assumption) | assumption); have q346 : x6_2 < (t338.length : Int) := of_decide_eq_true (by first | (with_reducible assumption) | assumption); obtain ⟨ad346, e346, hx346_0⟩ := Kd.at_int (Kd.R_reads' HO_4.out).2.2 x6_2 p346 q346; obtain rfl : ad341 = ad346 := (by injection e346); replace p346 := eq_true p346; replace q346 := eq_true q346) | (go_at_call 90; (with_reducible refine (cartoucheref11_has.calls k2 _ _ (rd_L9 t342 x5_1) (rd t338 x6_2) true _ ?side1 ?side2 A11.out).mono ?_); (case side1 => repeat (first | exact (by repeat (first | (with_reducible exact HR345_0.out) | (with_reducible refine Kd.C_alloc ?_ _) | (with_reducible refine Kd.C_drewN ?_ _) | (with_reducible refine Kd.C_drew ?_) | exact HR345_0.out)) | (with_reducible refine Kd.C_alloc ?_ _) | (with_reducible refine Kd.C_drewN ?_ _) | (with_reducible refine Kd.C_drew ?_))); (case side2 => exact HC345_0.out); rintro e w' ⟨rfl, ⟨nd, rfl⟩⟩; (try first | exact ⟨rfl, _, World.drewN_drewN _ _ _⟩ | exact ⟨rfl, _, Eq.trans (World.drewN_drewN _ _ _) (congrArg (World.drewN _) (Nat.add_assoc _ _ _))⟩); have p348 : 0 ≤ (x6_2 : Int) := of_decide_eq_true (by first | (with_reducible assumption) | assumption); have q348 : x6_2 < (t338.length : Int) := of_decide_eq_true (by first | (with_reducible assumption) | assumption); obtain ⟨ad348, e348, hx348_0⟩ := Kd.at_int (Kd.R_reads' HO_4.out).2.2 x6_2 p348 q348; obtain rfl : ad341 = ad348 := (by injection e348); replace p348 := eq_true p348; replace q348 := eq_true q348))
                      repeat (go_quiet (first | (go_at_call 89; (with_reducible refine (cartoucheref11_ways.calls k2 _ _ l0 (rd t338 x6_2) x5_1 t342 _ ?side1 ?side2 A8.out).mono ?_); (case side1 => repeat (first | exact (Kd.V_reads' HO_0.out).2.2 | (with_reducible refine Kd.C_alloc ?_ _) | (with_reducible refine Kd.C_drewN ?_ _) | (with_reducible refine Kd.C_drew ?_))); (case side2 => exact (Kd.V_reads' HO_0.out).2.1); rintro e w13 ⟨v343, rfl, ho0, hb⟩; have n0_ := Aside0.mk (Kd.V_elder' (by (with_reducible repeat (first | apply Kd.V_alloc | apply Kd.V_drewN | apply Kd.V_drew)); exact HO_0.out) (Kd.N_base ho0) hb); have n1_ := Aside0.mk (Kd.R_below (by (with_reducible repeat (first | apply Kd.R_alloc | apply Kd.R_drewN | apply Kd.R_drew)); exact HO_4.out) hb); have n2_ := Aside0.mk (Kd.N_lower (Kd.N_mono (ok' := fun k_ => (P0_ k_ ∨ w.heap.size ≤ k_) ∧ some k_ ≠ (.slice (some ad341) t338.length co5 : Value).ownBlock) ho0 (fun k_ hk_ => ⟨(.inr (Nat.le_trans (below_size (by repeat (first | (with_reducible first | exact HB.out | apply below_alloc | apply pw_below_drewN | apply below_drew1) | exact HB.out))) hk_)), (Kd.fresh' (Kd.R_lt (by (with_reducible repeat (first | apply Kd.R_alloc | apply Kd.R_drewN | apply Kd.R_drew)); exact HO_4.out)) k_ hk_)⟩)) (below_size (by repeat (first | (with_reducible first | exact HB.out | apply below_alloc | apply pw_below_drewN | apply below_drew1) | exact HB.out)))); have n3_ := Aside0.mk (below_step (by repeat (first | (with_reducible first | exact HB.out | apply below_alloc | apply pw_below_drewN | apply below_drew1) | exact HB.out)) hb); clear HO_0; clear HO_4; clear HB; have HO_0 := n0_; have HO_4 := n1_; have HO344 := n2_; have HB := n3_; clear n0_ n1_ n2_ n3_; (try clear hb); (try clear hb2); (try clear hk); (try clear hi); (try clear ho0); obtain ⟨Ao14, co14, eo14⟩ := Kd.N_slice HO344.out; subst eo14; have p345 : 0 ≤ (x5_1 : Int) := of_decide_eq_true (by first | (with_reducible assumption) | assumption); have q345 : x5_1 < (t342.length : Int) := of_decide_eq_true (by first | (with_reducible assumption) | assumption); obtain ⟨ad345, A345_0, c345_0, e345, hx345_0, hl345_0, hi345_0⟩ := at_L9 (Kd.N_reads' HO344.out).2.2 x5_1 p345 q345; cases e345; obtain ⟨ce345, hce345, hMe345, hcc345⟩ := Kd.N_get HO344.out [] x5_1 p345 (by first | exact q345 | exact of_decide_eq_true (by first | (with_reducible assumption) | assumption) | (have e_ := (Kd.N_reads' HO344.out).1; omega)); obtain ⟨ua345_0, uc345_0, rfl, ul345_0, ge345_0⟩ := Kd.FK_slice_open hMe345; have hv345_0 := hcc345 0 _ rfl; rw [Nat.add_zero, show ((Kd.slice 3 (Kd.int .i64))).sz = 1 from rfl, Nat.mul_one] at hv345_0; replace hv345_0 := Option.some.inj (hv345_0.symm.trans hx345_0); injection hv345_0 with hva_ hvn_ hvc_; rw [hva_] at ge345_0; rw [hvc_] at ul345_0; have HL345_0 := Aside0.mk (show Kd.V (Kd.int .i64) 3 _ w.heap.size _ _ (rd_L9 t342 x5_1) from Kd.V_mk ul345_0 ge345_0); clear hva_ hvn_ hvc_ ge345_0 ul345_0; clear hcc345 hce345; have HR345_0 := Aside0.mk hi345_0; have HC345_0 := Aside0.mk hl345_0; clear hi345_0 hl345_0; replace p345 := eq_true p345; replace q345 := eq_true q345; have p346 : 0 ≤ (x6_2 : Int) := of_decide_eq_true (by first | (with_reducible assumption) | assumption); have q346 : x6_2 < (t338.length : Int) := of_decide_eq_true (by first | (with_reducible assumption) | assumption); obtain ⟨ad346, e346, hx346_0⟩ := Kd.at_int (Kd.R_reads' HO_4.out).2.2 x6_2 p346 q346; obtain rfl : ad341 = ad346 := (by injection e346); replace p346 := eq_true p346; replace q346 := eq_true q346) | (go_at_call 90; (with_reducible refine (cartoucheref11_has.calls k2 _ _ (rd_L9 t342 x5_1) (rd t338 x6_2) true _ ?side1 ?side2 A11.out).mono ?_); (case side1 => repeat (first | exact (by repeat (first | (with_reducible exact HR345_0.out) | (with_reducible refine Kd.C_alloc ?_ _) | (with_reducible refine Kd.C_drewN ?_ _) | (with_reducible refine Kd.C_drew ?_) | exact HR345_0.out)) | (with_reducible refine Kd.C_alloc ?_ _) | (with_reducible refine Kd.C_drewN ?_ _) | (with_reducible refine Kd.C_drew ?_))); (case side2 => exact HC345_0.out); rintro e w' ⟨rfl, ⟨nd, rfl⟩⟩; (try first | exact ⟨rfl, _, World.drewN_drewN _ _ _⟩ | exact ⟨rfl, _, Eq.trans (World.drewN_drewN _ _ _) (congrArg (World.drewN _) (Nat.add_assoc _ _ _))⟩); have p348 : 0 ≤ (x6_2 : Int) := of_decide_eq_true (by first | (with_reducible assumption) | assumption); have q348 : x6_2 < (t338.length : Int) := of_decide_eq_true (by first | (with_reducible assumption) | assumption); obtain ⟨ad348, e348, hx348_0⟩ := Kd.at_int (Kd.R_reads' HO_4.out).2.2 x6_2 p348 q348; obtain rfl : ad341 = ad348 := (by injection e348); replace p348 := eq_true p348; replace q348 := eq_true q348)); try go_wp2_with (first | (go_at_call 89; (with_reducible refine (cartoucheref11_ways.calls k2 _ _ l0 (rd t338 x6_2) x5_1 t342 _ ?side1 ?side2 A8.out).mono ?_); (case side1 => repeat (first | exact (Kd.V_reads' HO_0.out).2.2 | (with_reducible refine Kd.C_alloc ?_ _) | (with_reducible refine Kd.C_drewN ?_ _) | (with_reducible refine Kd.C_drew ?_))); (case side2 => exact (Kd.V_reads' HO_0.out).2.1); rintro e w13 ⟨v343, rfl, ho0, hb⟩; have n0_ := Aside0.mk (Kd.V_elder' (by (with_reducible repeat (first | apply Kd.V_alloc | apply Kd.V_drewN | apply Kd.V_drew)); exact HO_0.out) (Kd.N_base ho0) hb); have n1_ := Aside0.mk (Kd.R_below (by (with_reducible repeat (first | apply Kd.R_alloc | apply Kd.R_drewN | apply Kd.R_drew)); exact HO_4.out) hb); have n2_ := Aside0.mk (Kd.N_lower (Kd.N_mono (ok' := fun k_ => (P0_ k_ ∨ w.heap.size ≤ k_) ∧ some k_ ≠ (.slice (some ad341) t338.length co5 : Value).ownBlock) ho0 (fun k_ hk_ => ⟨(.inr (Nat.le_trans (below_size (by repeat (first | (with_reducible first | exact HB.out | apply below_alloc | apply pw_below_drewN | apply below_drew1) | exact HB.out))) hk_)), (Kd.fresh' (Kd.R_lt (by (with_reducible repeat (first | apply Kd.R_alloc | apply Kd.R_drewN | apply Kd.R_drew)); exact HO_4.out)) k_ hk_)⟩)) (below_size (by repeat (first | (with_reducible first | exact HB.out | apply below_alloc | apply pw_below_drewN | apply below_drew1) | exact HB.out)))); have n3_ := Aside0.mk (below_step (by repeat (first | (with_reducible first | exact HB.out | apply below_alloc | apply pw_below_drewN | apply below_drew1) | exact HB.out)) hb); clear HO_0; clear HO_4; clear HB; have HO_0 := n0_; have HO_4 := n1_; have HO344 := n2_; have HB := n3_; clear n0_ n1_ n2_ n3_; (try clear hb); (try clear hb2); (try clear hk); (try clear hi); (try clear ho0); obtain ⟨Ao14, co14, eo14⟩ := Kd.N_slice HO344.out; subst eo14; have p345 : 0 ≤ (x5_1 : Int) := of_decide_eq_true (by first | (with_reducible assumption) | assumption); have q345 : x5_1 < (t342.length : Int) := of_decide_eq_true (by first | (with_reducible assumption) | assumption); obtain ⟨ad345, A345_0, c345_0, e345, hx345_0, hl345_0, hi345_0⟩ := at_L9 (Kd.N_reads' HO344.out).2.2 x5_1 p345 q345; cases e345; obtain ⟨ce345, hce345, hMe345, hcc345⟩ := Kd.N_get HO344.out [] x5_1 p345 (by first | exact q345 | exact of_decide_eq_true (by first | (with_reducible assumption) | assumption) | (have e_ := (Kd.N_reads' HO344.out).1; omega)); obtain ⟨ua345_0, uc345_0, rfl, ul345_0, ge345_0⟩ := Kd.FK_slice_open hMe345; have hv345_0 := hcc345 0 _ rfl; rw [Nat.add_zero, show ((Kd.slice 3 (Kd.int .i64))).sz = 1 from rfl, Nat.mul_one] at hv345_0; replace hv345_0 := Option.some.inj (hv345_0.symm.trans hx345_0); injection hv345_0 with hva_ hvn_ hvc_; rw [hva_] at ge345_0; rw [hvc_] at ul345_0; have HL345_0 := Aside0.mk (show Kd.V (Kd.int .i64) 3 _ w.heap.size _ _ (rd_L9 t342 x5_1) from Kd.V_mk ul345_0 ge345_0); clear hva_ hvn_ hvc_ ge345_0 ul345_0; clear hcc345 hce345; have HR345_0 := Aside0.mk hi345_0; have HC345_0 := Aside0.mk hl345_0; clear hi345_0 hl345_0; replace p345 := eq_true p345; replace q345 := eq_true q345; have p346 : 0 ≤ (x6_2 : Int) := of_decide_eq_true (by first | (with_reducible assumption) | assumption); have q346 : x6_2 < (t338.length : Int) := of_decide_eq_true (by first | (with_reducible assumption) | assumption); obtain ⟨ad346, e346, hx346_0⟩ := Kd.at_int (Kd.R_reads' HO_4.out).2.2 x6_2 p346 q346; obtain rfl : ad341 = ad346 := (by injection e346); replace p346 := eq_true p346; replace q346 := eq_true q346) | (go_at_call 90; (with_reducible refine (cartoucheref11_has.calls k2 _ _ (rd_L9 t342 x5_1) (rd t338 x6_2) true _ ?side1 ?side2 A11.out).mono ?_); (case side1 => repeat (first | exact (by repeat (first | (with_reducible exact HR345_0.out) | (with_reducible refine Kd.C_alloc ?_ _) | (with_reducible refine Kd.C_drewN ?_ _) | (with_reducible refine Kd.C_drew ?_) | exact HR345_0.out)) | (with_reducible refine Kd.C_alloc ?_ _) | (with_reducible refine Kd.C_drewN ?_ _) | (with_reducible refine Kd.C_drew ?_))); (case side2 => exact HC345_0.out); rintro e w' ⟨rfl, ⟨nd, rfl⟩⟩; (try first | exact ⟨rfl, _, World.drewN_drewN _ _ _⟩ | exact ⟨rfl, _, Eq.trans (World.drewN_drewN _ _ _) (congrArg (World.drewN _) (Nat.add_assoc _ _ _))⟩); have p348 : 0 ≤ (x6_2 : Int) := of_decide_eq_true (by first | (with_reducible assumption) | assumption); have q348 : x6_2 < (t338.length : Int) := of_decide_eq_true (by first | (with_reducible assumption) | assumption); obtain ⟨ad348, e348, hx348_0⟩ := Kd.at_int (Kd.R_reads' HO_4.out).2.2 x6_2 p348 q348; obtain rfl : ad341 = ad348 := (by injection e348); replace p348 := eq_true p348; replace q348 := eq_true q348)))
                      go_loopg [9, 10, 11] k2 (fun kq v9 v10 v11 w' => ∃ (x9_3 : List (S50)) (x10_3 : Int) (x11_3 : Int), v10 = .int .i64 x10_3 ∧ v11 = .int .i64 x11_3 ∧ Aside0 (cartoucheref11_Ring.l2 kq l0 t342 x9_3 x10_3 x11_3 = some (r1, r2)) ∧ Aside0 (kq ≤ k2) ∧ Aside0 (Kd.V k50 50 w' w.heap.size (fun k_ => (P0_ k_ ∨ w.heap.size ≤ k_) ∧ some k_ ≠ ((.slice (some ad345) t342.length co14) : Value).ownBlock ∧ some k_ ≠ (v9 : Value).ownBlock) (.slice A0 l0.length c0) l0) ∧ Aside0 (Kd.N (Kd.slice 3 (Kd.int .i64)) 53 w' w.heap.size (fun k_ => (P0_ k_ ∨ w.heap.size ≤ k_) ∧ some k_ ≠ (v9 : Value).ownBlock) (.slice (some ad345) t342.length co14) t342) ∧ Aside0 (Kd.N k50 50 w' w.heap.size (fun k_ => (P0_ k_ ∨ w.heap.size ≤ k_) ∧ some k_ ≠ ((.slice (some ad345) t342.length co14) : Value).ownBlock) v9 x9_3) ∧ Aside0 (Below w.heap.size w w'))
                      case atStart => exact ⟨(([] : List (S50))), (rd t338 x6_2), (wrap64 (x5_1 - 1)), (by first | rfl | (simp; done) | (simp [*]; done)), (by first | rfl | (simp; done) | (simp [*]; done)), H', ⟨Nat.le_refl _⟩, ⟨by (with_reducible repeat (first | apply Kd.V_alloc | apply Kd.V_drewN | apply Kd.V_drew)); exact Kd.V_mono HO_0.out (fun _ hk => ⟨hk.1.1, ⟨hk.2, (by simp [Value.ownBlock])⟩⟩)⟩, ⟨by (with_reducible repeat (first | apply Kd.N_alloc | apply Kd.N_drewN | apply Kd.N_drew)); exact Kd.N_mono HO344.out (fun _ hk => ⟨hk.1, (by simp [Value.ownBlock])⟩)⟩, ⟨by first | exact Kd.S_nil _ _ _ _ _ | exact Kd.N_nil _ _ _ _ _ | exact Kd.V_nil _ _ _ _ _ | exact Kd.Q_nil _ _ _ _ _ | exact Kd.R_nil _ _ _ _ _⟩, ⟨by repeat (first | (with_reducible first | exact HB.out | apply below_alloc | apply pw_below_drewN | apply below_drew1) | exact HB.out)⟩⟩
                      case round =>
                        clear H'
                        try clear c1
                        try clear p2
                        try clear c3
                        try clear p3
                        try clear q3
                        try clear hx3
                        try clear c4
                        try clear c4b0
                        try clear c6
                        try clear c6b0
                        try clear p6
                        try clear c7
                        try clear c7b0
                        try clear c9
                        try clear c9b0
                        try clear c10
                        try clear c10b0
                        try clear c12
                        try clear hx341_0
                        try clear hx345_0
                        try clear hx346_0
                        try clear hx348_0
                        try clear p2
                        try clear p341
                        try clear p345
                        try clear p346
                        try clear p348
                        try clear q341
                        try clear q345
                        try clear q346
                        try clear q348
                        obtain ⟨x9_3, x10_3, x11_3, rfl, rfl, HA, HK3, HO_0, HO_7, HO_9, HB⟩ := hrel
                        cases gk with
                        | zero => exact absurd HA.out (by simp [cartoucheref11_Ring.l2])
                        | succ k3 =>
                          have H := HA.out
                          clear HA
                          simp only [cartoucheref11_Ring.l2] at H
                          by_cases c15 : x11_3 ≥ 0
                          · rw [if_pos c15] at H
                            have c15b0 : decide (0 ≤ x11_3) = true := decide_eq_true c15
                            clear c15
                            have H' := Aside0.mk H
                            clear H
                            go_wp2
                            repeat (go_quiet (fail); try go_wp2)
                            go_loopg [9, 10, 12, 13] k3 (fun kq v9 v10 v12 v13 w' => ∃ (x9_4 : List (S50)) (x10_4 : Int) (x12_4 : Bool) (x13_4 : Int), v10 = .int .i64 x10_4 ∧ v12 = .bool x12_4 ∧ v13 = .int .i64 x13_4 ∧ Aside0 (cartoucheref11_Ring.l3 kq l0 t342 x9_4 x10_4 x11_3 x12_4 x13_4 = some (r1, r2)) ∧ Aside0 (kq ≤ k3) ∧ Aside0 (Kd.V k50 50 w' w.heap.size (fun k_ => (P0_ k_ ∨ w.heap.size ≤ k_) ∧ some k_ ≠ ((.slice (some ad345) t342.length co14) : Value).ownBlock ∧ some k_ ≠ (v9 : Value).ownBlock) (.slice A0 l0.length c0) l0) ∧ Aside0 (Kd.N (Kd.slice 3 (Kd.int .i64)) 53 w' w.heap.size (fun k_ => (P0_ k_ ∨ w.heap.size ≤ k_) ∧ some k_ ≠ (v9 : Value).ownBlock) (.slice (some ad345) t342.length co14) t342) ∧ Aside0 (Kd.N k50 50 w' w.heap.size (fun k_ => (P0_ k_ ∨ w.heap.size ≤ k_) ∧ some k_ ≠ ((.slice (some ad345) t342.length co14) : Value).ownBlock) v9 x9_4) ∧ Aside0 (Below w.heap.size w w'))
                            case atStart => exact ⟨(x9_3), (x10_3), (false), (0), (by first | rfl | (simp; done) | (simp [*]; done)), (by first | rfl | (simp; done) | (simp [*]; done)), (by first | rfl | (simp; done) | (simp [*]; done)), H', ⟨Nat.le_refl _⟩, ⟨by (with_reducible repeat (first | apply Kd.V_alloc | apply Kd.V_drewN | apply Kd.V_drew)); exact HO_0.out⟩, ⟨by (with_reducible repeat (first | apply Kd.N_alloc | apply Kd.N_drewN | apply Kd.N_drew)); exact HO_7.out⟩, ⟨by (with_reducible repeat (first | apply Kd.N_alloc | apply Kd.N_drewN | apply Kd.N_drew)); exact HO_9.out⟩, ⟨by repeat (first | (with_reducible first | exact HB.out | apply below_alloc | apply pw_below_drewN | apply below_drew1) | exact HB.out)⟩⟩
                            case round =>
                              clear H'
                              try clear c1
                              try clear p2
                              try clear c3
                              try clear p3
                              try clear q3
                              try clear hx3
                              try clear c4
                              try clear c4b0
                              try clear c6
                              try clear c6b0
                              try clear p6
                              try clear c7
                              try clear c7b0
                              try clear c9
                              try clear c9b0
                              try clear c10
                              try clear c10b0
                              try clear c12
                              try clear c15
                              try clear c15b0
                              try clear hx341_0
                              try clear hx345_0
                              try clear hx346_0
                              try clear hx348_0
                              try clear p2
                              try clear p3
                              try clear p341
                              try clear p345
                              try clear p346
                              try clear p348
                              try clear p6
                              try clear q3
                              try clear q341
                              try clear q345
                              try clear q346
                              try clear q348
                              obtain ⟨x9_4, x10_4, x12_4, x13_4, rfl, rfl, rfl, HA, HK4, HO_0, HO_7, HO_9, HB⟩ := hrel
                              cases gk with
                              | zero => exact absurd HA.out (by simp [cartoucheref11_Ring.l3])
                              | succ k4 =>
                                have H := HA.out
                                clear HA
                                simp only [cartoucheref11_Ring.l3] at H
                                have HC16 := Aside0.mk H
                                clear H
                                go_upto_region 18 with (fail)
                                repeat (go_quiet (fail); go_upto_region 18 with (fail))
                                go_cut [64] (fun v64 wc => ∃ (kq : Nat) (x64_15 : Bool), v64 = .bool x64_15 ∧ Aside0 (cartoucheref11_Ring.j4 kq l0 t342 x9_4 x10_4 x11_3 x12_4 x13_4 x64_15 = some (r1, r2)) ∧ Aside0 (kq ≤ k4) ∧ Aside0 (Kd.V k50 50 wc w.heap.size (fun k_ => (P0_ k_ ∨ w.heap.size ≤ k_) ∧ some k_ ≠ ((.slice (some ad345) t342.length co14) : Value).ownBlock ∧ some k_ ≠ (u9 : Value).ownBlock) (.slice A0 l0.length c0) l0) ∧ Aside0 (Kd.N (Kd.slice 3 (Kd.int .i64)) 53 wc w.heap.size (fun k_ => (P0_ k_ ∨ w.heap.size ≤ k_) ∧ some k_ ≠ (u9 : Value).ownBlock) (.slice (some ad345) t342.length co14) t342) ∧ Aside0 (Kd.N k50 50 wc w.heap.size (fun k_ => (P0_ k_ ∨ w.heap.size ≤ k_) ∧ some k_ ≠ ((.slice (some ad345) t342.length co14) : Value).ownBlock) u9 x9_4) ∧ Aside0 (Below w.heap.size w wc))
                                case first =>
                                  have H := HC16.out
                                  clear HC16
                                  by_cases c17 : x13_4 < (l0.length : Int)
                                  · rw [if_pos c17] at H
                                    have c17b0 : decide (x13_4 < (l0.length : Int)) = true := decide_eq_true c17
                                    clear c17
                                    (first | rw [c17b0] | (simp only [i64_w, i32_w]; rw [c17b0]) | skip)
                                    have H' := Aside0.mk H
                                    clear H
                                    go_wp2
                                    repeat (go_quiet (fail); try go_wp2)
                                    go_meet
                                    case rel => exact ⟨_, (!x12_4), (by first | rfl | (simp; done) | (simp [*]; done)), H', ⟨by have := HK1.out; have := HK2.out; have := HK3.out; have := HK4.out; first | omega | exact Nat.le_refl _⟩, ⟨by (with_reducible repeat (first | apply Kd.V_alloc | apply Kd.V_drewN | apply Kd.V_drew)); exact HO_0.out⟩, ⟨by (with_reducible repeat (first | apply Kd.N_alloc | apply Kd.N_drewN | apply Kd.N_drew)); exact HO_7.out⟩, ⟨by (with_reducible repeat (first | apply Kd.N_alloc | apply Kd.N_drewN | apply Kd.N_drew)); exact HO_9.out⟩, ⟨by repeat (first | (with_reducible first | exact HB.out | apply below_alloc | apply pw_below_drewN | apply below_drew1) | exact HB.out)⟩⟩
                                  · rw [if_neg c17] at H
                                    have c17b0 : decide (x13_4 < (l0.length : Int)) = false := decide_eq_false c17
                                    clear c17
                                    (first | rw [c17b0] | (simp only [i64_w, i32_w]; rw [c17b0]) | skip)
                                    have H' := Aside0.mk H
                                    clear H
                                    go_wp2
                                    repeat (go_quiet (fail); try go_wp2)
                                    go_meet
                                    case rel => exact ⟨_, (false), (by first | rfl | (simp; done) | (simp [*]; done)), H', ⟨by have := HK1.out; have := HK2.out; have := HK3.out; have := HK4.out; first | omega | exact Nat.le_refl _⟩, ⟨by (with_reducible repeat (first | apply Kd.V_alloc | apply Kd.V_drewN | apply Kd.V_drew)); exact HO_0.out⟩, ⟨by (with_reducible repeat (first | apply Kd.N_alloc | apply Kd.N_drewN | apply Kd.N_drew)); exact HO_7.out⟩, ⟨by (with_reducible repeat (first | apply Kd.N_alloc | apply Kd.N_drewN | apply Kd.N_drew)); exact HO_9.out⟩, ⟨by repeat (first | (with_reducible first | exact HB.out | apply below_alloc | apply pw_below_drewN | apply below_drew1) | exact HB.out)⟩⟩
                                case rest =>
                                  clear HC16
                                  try clear c1
                                  try clear p2
                                  try clear c3
                                  try clear p3
                                  try clear q3
                                  try clear hx3
                                  try clear c4
                                  try clear c4b0
                                  try clear c6
                                  try clear c6b0
                                  try clear p6
                                  try clear c7
                                  try clear c7b0
                                  try clear c9
                                  try clear c9b0
                                  try clear c10
                                  try clear c10b0
                                  try clear c12
                                  try clear c15
                                  try clear c15b0
                                  try clear c17
                                  try clear c17b0
                                  try clear hx341_0
                                  try clear hx345_0
                                  try clear hx346_0
                                  try clear hx348_0
                                  try clear p2
                                  try clear p3
                                  try clear p341
                                  try clear p345
                                  try clear p346
                                  try clear p348
                                  try clear p6
                                  try clear q3
                                  try clear q341
                                  try clear q345
                                  try clear q346
                                  try clear q348
                                  obtain ⟨kq, x64_15, rfl, HA, HJ15, HO_0, HO_7, HO_9, HB⟩ := hcut
                                  cases kq with
                                  | zero => exact absurd HA.out (by simp [cartoucheref11_Ring.j4])
                                  | succ kj15 =>
                                    have H := HA.out
                                    clear HA
                                    simp only [cartoucheref11_Ring.j4] at H
                                    by_cases c18 : x64_15 = true
                                    · subst c18
                                      have H1 : (if 0 ≤ x11_3 then (if x11_3 < (t342.length : Int) then (if 0 ≤ x13_4 then (if x13_4 < (l0.length : Int) then ((cartoucheref11_has.f kj15 (rd_L9 t342 x11_3) ((rd_T50 l0 x13_4).f1)).bind fun t351 => (if ((rd_T50 l0 x13_4).f0) = x10_4 then (cartoucheref11_Ring.j5 kj15 l0 t342 x9_4 x10_4 x11_3 x12_4 x13_4 t351) else (cartoucheref11_Ring.j5 kj15 l0 t342 x9_4 x10_4 x11_3 x12_4 x13_4 false))) else (none)) else (none)) else (none)) else (none)) = some (r1, r2) := by rw [if_pos rfl] at H; exact H
                                      clear H
                                      have H := H1
                                      clear H1
                                      by_cases c19 : 0 ≤ x11_3
                                      · rw [if_pos c19] at H
                                        have c19b0 : decide (0 ≤ x11_3) = true := decide_eq_true c19
                                        clear c19
                                        by_cases c20 : x11_3 < (t342.length : Int)
                                        · rw [if_pos c20] at H
                                          have c20b0 : decide (x11_3 < (t342.length : Int)) = true := decide_eq_true c20
                                          clear c20
                                          by_cases c21 : 0 ≤ x13_4
                                          · rw [if_pos c21] at H
                                            have c21b0 : decide (0 ≤ x13_4) = true := decide_eq_true c21
                                            clear c21
                                            by_cases c22 : x13_4 < (l0.length : Int)
                                            · rw [if_pos c22] at H
                                              have c22b0 : decide (x13_4 < (l0.length : Int)) = true := decide_eq_true c22
                                              clear c22
                                              replace H := Option.bind_eq_some_iff.mp H
                                              obtain ⟨t351, A230, H⟩ := H
                                              replace H : (if ((rd_T50 l0 x13_4).f0) = x10_4 then (cartoucheref11_Ring.j5 kj15 l0 t342 x9_4 x10_4 x11_3 x12_4 x13_4 t351) else (cartoucheref11_Ring.j5 kj15 l0 t342 x9_4 x10_4 x11_3 x12_4 x13_4 false)) = some (r1, r2) := H
                                              have A23 := Aside0.mk A230
                                              clear A230
                                              have HC24 := Aside0.mk H
                                              clear H
                                              have p349 : 0 ≤ (x11_3 : Int) := of_decide_eq_true (by first | (with_reducible assumption) | assumption)
                                              have q349 : x11_3 < (t342.length : Int) := of_decide_eq_true (by first | (with_reducible assumption) | assumption)
                                              obtain ⟨ad349, A349_0, c349_0, e349, hx349_0, hl349_0, hi349_0⟩ := at_L9 (Kd.N_reads' HO_7.out).2.2 x11_3 p349 q349
                                              obtain rfl : ad345 = ad349 := (by injection e349)
                                              obtain ⟨ce349, hce349, hMe349, hcc349⟩ := Kd.N_get HO_7.out [] x11_3 p349 (by first | exact q349 | exact of_decide_eq_true (by first | (with_reducible assumption) | assumption) | (have e_ := (Kd.N_reads' HO_7.out).1; omega))
                                              obtain ⟨ua349_0, uc349_0, rfl, ul349_0, ge349_0⟩ := Kd.FK_slice_open hMe349
                                              have hv349_0 := hcc349 0 _ rfl
                                              rw [Nat.add_zero, show ((Kd.slice 3 (Kd.int .i64))).sz = 1 from rfl, Nat.mul_one] at hv349_0
                                              replace hv349_0 := Option.some.inj (hv349_0.symm.trans hx349_0)
                                              injection hv349_0 with hva_ hvn_ hvc_
                                              rw [hva_] at ge349_0
                                              rw [hvc_] at ul349_0
                                              have HL349_0 := Aside0.mk (show Kd.V (Kd.int .i64) 3 _ w.heap.size _ _ (rd_L9 t342 x11_3) from Kd.V_mk ul349_0 ge349_0)
                                              clear hva_ hvn_ hvc_ ge349_0 ul349_0
                                              clear hcc349 hce349
                                              have HR349_0 := Aside0.mk hi349_0
                                              have HC349_0 := Aside0.mk hl349_0
                                              clear hi349_0 hl349_0
                                              replace p349 := eq_true p349
                                              replace q349 := eq_true q349
                                              have p350 : 0 ≤ (x13_4 : Int) := of_decide_eq_true (by first | (with_reducible assumption) | assumption)
                                              have q350 : x13_4 < (l0.length : Int) := of_decide_eq_true (by first | (with_reducible assumption) | assumption)
                                              obtain ⟨ad350, A350_2, c350_2, e350, hx350_0, hx350_1, hx350_2, hl350_2, hi350_2⟩ := at_T50 (Kd.V_reads' HO_0.out).2.2 x13_4 p350 q350
                                              cases e350
                                              obtain ⟨ce350, hce350, hMe350, hcc350⟩ := Kd.V_get HO_0.out z50 x13_4 p350 (by first | exact q350 | exact of_decide_eq_true (by first | (with_reducible assumption) | assumption) | (have e_ := (Kd.V_reads' HO_0.out).1; omega))
                                              obtain ⟨ua350_2, uc350_2, rfl, ul350_2, ge350_2⟩ := k50_openF hMe350
                                              have hv350_2 := hcc350 2 _ rfl
                                              rw [add_field _ _ 2 (by omega)] at hv350_2
                                              replace hv350_2 := Option.some.inj (hv350_2.symm.trans hx350_2)
                                              injection hv350_2 with hva_ hvn_ hvc_
                                              rw [hva_] at ge350_2
                                              rw [hvc_] at ul350_2
                                              have HL350_2 := Aside0.mk (show Kd.V k76 76 _ w.heap.size _ _ ((rd_T50 l0 x13_4).f2) from Kd.V_mk ul350_2 ge350_2)
                                              clear hva_ hvn_ hvc_ ge350_2 ul350_2
                                              clear hcc350 hce350
                                              have HR350_2 := Aside0.mk hi350_2
                                              have HC350_2 := Aside0.mk hl350_2
                                              clear hi350_2 hl350_2
                                              replace p350 := eq_true p350
                                              replace q350 := eq_true q350
                                              go_upto_region 21 with (first | (go_at_call 90; (with_reducible refine (cartoucheref11_has.calls kj15 _ _ (rd_L9 t342 x11_3) ((rd_T50 l0 x13_4).f1) t351 _ ?side1 ?side2 A23.out).mono ?_); (case side1 => repeat (first | exact (by repeat (first | (with_reducible exact HR349_0.out) | (with_reducible refine Kd.C_alloc ?_ _) | (with_reducible refine Kd.C_drewN ?_ _) | (with_reducible refine Kd.C_drew ?_) | exact HR349_0.out)) | (with_reducible refine Kd.C_alloc ?_ _) | (with_reducible refine Kd.C_drewN ?_ _) | (with_reducible refine Kd.C_drew ?_))); (case side2 => exact HC349_0.out); rintro e w' ⟨rfl, ⟨nd, rfl⟩⟩; (try first | exact ⟨rfl, _, World.drewN_drewN _ _ _⟩ | exact ⟨rfl, _, Eq.trans (World.drewN_drewN _ _ _) (congrArg (World.drewN _) (Nat.add_assoc _ _ _))⟩)))
                                              repeat (go_quiet (first | (go_at_call 90; (with_reducible refine (cartoucheref11_has.calls kj15 _ _ (rd_L9 t342 x11_3) ((rd_T50 l0 x13_4).f1) t351 _ ?side1 ?side2 A23.out).mono ?_); (case side1 => repeat (first | exact (by repeat (first | (with_reducible exact HR349_0.out) | (with_reducible refine Kd.C_alloc ?_ _) | (with_reducible refine Kd.C_drewN ?_ _) | (with_reducible refine Kd.C_drew ?_) | exact HR349_0.out)) | (with_reducible refine Kd.C_alloc ?_ _) | (with_reducible refine Kd.C_drewN ?_ _) | (with_reducible refine Kd.C_drew ?_))); (case side2 => exact HC349_0.out); rintro e w' ⟨rfl, ⟨nd, rfl⟩⟩; (try first | exact ⟨rfl, _, World.drewN_drewN _ _ _⟩ | exact ⟨rfl, _, Eq.trans (World.drewN_drewN _ _ _) (congrArg (World.drewN _) (Nat.add_assoc _ _ _))⟩))); go_upto_region 21 with (first | (go_at_call 90; (with_reducible refine (cartoucheref11_has.calls kj15 _ _ (rd_L9 t342 x11_3) ((rd_T50 l0 x13_4).f1) t351 _ ?side1 ?side2 A23.out).mono ?_); (case side1 => repeat (first | exact (by repeat (first | (with_reducible exact HR349_0.out) | (with_reducible refine Kd.C_alloc ?_ _) | (with_reducible refine Kd.C_drewN ?_ _) | (with_reducible refine Kd.C_drew ?_) | exact HR349_0.out)) | (with_reducible refine Kd.C_alloc ?_ _) | (with_reducible refine Kd.C_drewN ?_ _) | (with_reducible refine Kd.C_drew ?_))); (case side2 => exact HC349_0.out); rintro e w' ⟨rfl, ⟨nd, rfl⟩⟩; (try first | exact ⟨rfl, _, World.drewN_drewN _ _ _⟩ | exact ⟨rfl, _, Eq.trans (World.drewN_drewN _ _ _) (congrArg (World.drewN _) (Nat.add_assoc _ _ _))⟩))))
                                              (try simp only [Act.put, List.setIfInBounds_toArray, List.set_cons_zero, List.set_cons_succ])
                                              go_cut [86] (fun v86 wc => ∃ (kq : Nat) (x86_23 : Bool), v86 = .bool x86_23 ∧ Aside0 (cartoucheref11_Ring.j5 kq l0 t342 x9_4 x10_4 x11_3 x12_4 x13_4 x86_23 = some (r1, r2)) ∧ Aside0 (kq ≤ kj15) ∧ Aside0 (Kd.V k50 50 wc w.heap.size (fun k_ => (P0_ k_ ∨ w.heap.size ≤ k_) ∧ some k_ ≠ ((.slice (some ad345) t342.length co14) : Value).ownBlock ∧ some k_ ≠ (u9 : Value).ownBlock) (.slice (some ad350) l0.length c0) l0) ∧ Aside0 (Kd.N (Kd.slice 3 (Kd.int .i64)) 53 wc w.heap.size (fun k_ => (P0_ k_ ∨ w.heap.size ≤ k_) ∧ some k_ ≠ (u9 : Value).ownBlock) (.slice (some ad345) t342.length co14) t342) ∧ Aside0 (Kd.N k50 50 wc w.heap.size (fun k_ => (P0_ k_ ∨ w.heap.size ≤ k_) ∧ some k_ ≠ ((.slice (some ad345) t342.length co14) : Value).ownBlock) u9 x9_4) ∧ Aside0 (Kd.C (Kd.int .i64) wc A349_0 (rd_L9 t342 x11_3).length (rd_L9 t342 x11_3)) ∧ Aside0 (Kd.C k76 wc A350_2 ((rd_T50 l0 x13_4).f2).length ((rd_T50 l0 x13_4).f2)) ∧ Aside0 (Below w.heap.size w wc))
                                              case first =>
                                                have H := HC24.out
                                                clear HC24
                                                by_cases c25 : ((rd_T50 l0 x13_4).f0) = x10_4
                                                · rw [if_pos c25] at H
                                                  have c25b0 : (((rd_T50 l0 x13_4).f0) == x10_4) = true := beq_iff_eq.mpr c25
                                                  have c25b1 : (((rd_T50 l0 x13_4).f0) != x10_4) = false := bne_eq_false_iff_eq.mpr c25
                                                  clear c25
                                                  (first | rw [c25b0] | (simp only [i64_w, i32_w]; rw [c25b0]) | skip)
                                                  have H' := Aside0.mk H
                                                  clear H
                                                  have p352 : 0 ≤ (x13_4 : Int) := of_decide_eq_true (by first | (with_reducible assumption) | assumption)
                                                  have q352 : x13_4 < (l0.length : Int) := of_decide_eq_true (by first | (with_reducible assumption) | assumption)
                                                  obtain ⟨ad352, A352_2, c352_2, e352, hx352_0, hx352_1, hx352_2, hl352_2, hi352_2⟩ := at_T50 (Kd.V_reads' HO_0.out).2.2 x13_4 p352 q352
                                                  obtain rfl : ad350 = ad352 := (by injection e352)
                                                  obtain ⟨ce352, hce352, hMe352, hcc352⟩ := Kd.V_get HO_0.out z50 x13_4 p352 (by first | exact q352 | exact of_decide_eq_true (by first | (with_reducible assumption) | assumption) | (have e_ := (Kd.V_reads' HO_0.out).1; omega))
                                                  obtain ⟨ua352_2, uc352_2, rfl, ul352_2, ge352_2⟩ := k50_openF hMe352
                                                  have hv352_2 := hcc352 2 _ rfl
                                                  rw [add_field _ _ 2 (by omega)] at hv352_2
                                                  replace hv352_2 := Option.some.inj (hv352_2.symm.trans hx352_2)
                                                  injection hv352_2 with hva_ hvn_ hvc_
                                                  rw [hva_] at ge352_2
                                                  rw [hvc_] at ul352_2
                                                  have HL352_2 := Aside0.mk (show Kd.V k76 76 _ w.heap.size _ _ ((rd_T50 l0 x13_4).f2) from Kd.V_mk ul352_2 ge352_2)
                                                  clear hva_ hvn_ hvc_ ge352_2 ul352_2
                                                  clear hcc352 hce352
                                                  have HR352_2 := Aside0.mk hi352_2
                                                  have HC352_2 := Aside0.mk hl352_2
                                                  clear hi352_2 hl352_2
                                                  replace p352 := eq_true p352
                                                  replace q352 := eq_true q352
                                                  go_wp2
                                                  repeat (go_quiet (fail); try go_wp2)
                                                  go_meet
                                                  case rel => exact ⟨_, (t351), (by first | rfl | (simp; done) | (simp [*]; done)), H', ⟨by have := HK1.out; have := HK2.out; have := HK3.out; have := HK4.out; have := HJ15.out; first | omega | exact Nat.le_refl _⟩, ⟨by (with_reducible repeat (first | apply Kd.V_alloc | apply Kd.V_drewN | apply Kd.V_drew)); exact HO_0.out⟩, ⟨by (with_reducible repeat (first | apply Kd.N_alloc | apply Kd.N_drewN | apply Kd.N_drew)); exact HO_7.out⟩, ⟨by (with_reducible repeat (first | apply Kd.N_alloc | apply Kd.N_drewN | apply Kd.N_drew)); exact HO_9.out⟩, ⟨by repeat (first | (with_reducible exact HR349_0.out) | (with_reducible refine Kd.C_alloc ?_ _) | (with_reducible refine Kd.C_drewN ?_ _) | (with_reducible refine Kd.C_drew ?_) | exact HR349_0.out)⟩, ⟨by repeat (first | (with_reducible exact HR350_2.out) | (with_reducible refine Kd.C_alloc ?_ _) | (with_reducible refine Kd.C_drewN ?_ _) | (with_reducible refine Kd.C_drew ?_) | exact HR350_2.out)⟩, ⟨by repeat (first | (with_reducible first | exact HB.out | apply below_alloc | apply pw_below_drewN | apply below_drew1) | exact HB.out)⟩⟩
                                                · rw [if_neg c25] at H
                                                  have c25b0 : (((rd_T50 l0 x13_4).f0) == x10_4) = false := beq_eq_false_iff_ne.mpr c25
                                                  have c25b1 : (((rd_T50 l0 x13_4).f0) != x10_4) = true := bne_iff_ne.mpr c25
                                                  (first | rw [c25b0] | (simp only [i64_w, i32_w]; rw [c25b0]) | skip)
                                                  have H' := Aside0.mk H
                                                  clear H
                                                  have p352 : 0 ≤ (x13_4 : Int) := of_decide_eq_true (by first | (with_reducible assumption) | assumption)
                                                  have q352 : x13_4 < (l0.length : Int) := of_decide_eq_true (by first | (with_reducible assumption) | assumption)
                                                  obtain ⟨ad352, A352_2, c352_2, e352, hx352_0, hx352_1, hx352_2, hl352_2, hi352_2⟩ := at_T50 (Kd.V_reads' HO_0.out).2.2 x13_4 p352 q352
                                                  obtain rfl : ad350 = ad352 := (by injection e352)
                                                  obtain ⟨ce352, hce352, hMe352, hcc352⟩ := Kd.V_get HO_0.out z50 x13_4 p352 (by first | exact q352 | exact of_decide_eq_true (by first | (with_reducible assumption) | assumption) | (have e_ := (Kd.V_reads' HO_0.out).1; omega))
                                                  obtain ⟨ua352_2, uc352_2, rfl, ul352_2, ge352_2⟩ := k50_openF hMe352
                                                  have hv352_2 := hcc352 2 _ rfl
                                                  rw [add_field _ _ 2 (by omega)] at hv352_2
                                                  replace hv352_2 := Option.some.inj (hv352_2.symm.trans hx352_2)
                                                  injection hv352_2 with hva_ hvn_ hvc_
                                                  rw [hva_] at ge352_2
                                                  rw [hvc_] at ul352_2
                                                  have HL352_2 := Aside0.mk (show Kd.V k76 76 _ w.heap.size _ _ ((rd_T50 l0 x13_4).f2) from Kd.V_mk ul352_2 ge352_2)
                                                  clear hva_ hvn_ hvc_ ge352_2 ul352_2
                                                  clear hcc352 hce352
                                                  have HR352_2 := Aside0.mk hi352_2
                                                  have HC352_2 := Aside0.mk hl352_2
                                                  clear hi352_2 hl352_2
                                                  replace p352 := eq_true p352
                                                  replace q352 := eq_true q352
                                                  go_wp2
                                                  repeat (go_quiet (fail); try go_wp2)
                                                  go_meet
                                                  case rel => exact ⟨_, (false), (by first | rfl | (simp; done) | (simp [*]; done)), H', ⟨by have := HK1.out; have := HK2.out; have := HK3.out; have := HK4.out; have := HJ15.out; first | omega | exact Nat.le_refl _⟩, ⟨by (with_reducible repeat (first | apply Kd.V_alloc | apply Kd.V_drewN | apply Kd.V_drew)); exact HO_0.out⟩, ⟨by (with_reducible repeat (first | apply Kd.N_alloc | apply Kd.N_drewN | apply Kd.N_drew)); exact HO_7.out⟩, ⟨by (with_reducible repeat (first | apply Kd.N_alloc | apply Kd.N_drewN | apply Kd.N_drew)); exact HO_9.out⟩, ⟨by repeat (first | (with_reducible exact HR349_0.out) | (with_reducible refine Kd.C_alloc ?_ _) | (with_reducible refine Kd.C_drewN ?_ _) | (with_reducible refine Kd.C_drew ?_) | exact HR349_0.out)⟩, ⟨by repeat (first | (with_reducible exact HR350_2.out) | (with_reducible refine Kd.C_alloc ?_ _) | (with_reducible refine Kd.C_drewN ?_ _) | (with_reducible refine Kd.C_drew ?_) | exact HR350_2.out)⟩, ⟨by repeat (first | (with_reducible first | exact HB.out | apply below_alloc | apply pw_below_drewN | apply below_drew1) | exact HB.out)⟩⟩
                                              case rest =>
                                                clear HC24
                                                try clear c1
                                                try clear c2
                                                try clear p2
                                                try clear c3
                                                try clear p3
                                                try clear q3
                                                try clear hx3
                                                try clear c4
                                                try clear c4b0
                                                try clear c6
                                                try clear c6b0
                                                try clear p6
                                                try clear c7
                                                try clear c7b0
                                                try clear c9
                                                try clear c9b0
                                                try clear c10
                                                try clear c10b0
                                                try clear c12
                                                try clear c15
                                                try clear c15b0
                                                try clear c17
                                                try clear c17b0
                                                try clear c18
                                                try clear c19
                                                try clear c19b0
                                                try clear c20
                                                try clear c20b0
                                                try clear c21
                                                try clear c21b0
                                                try clear c22
                                                try clear c22b0
                                                try clear c25
                                                try clear c25b0
                                                try clear c25b1
                                                try clear hx341_0
                                                try clear hx345_0
                                                try clear hx346_0
                                                try clear hx348_0
                                                try clear hx349_0
                                                try clear hx350_0
                                                try clear hx350_1
                                                try clear hx350_2
                                                try clear hx352_0
                                                try clear hx352_1
                                                try clear hx352_2
                                                try clear p2
                                                try clear p3
                                                try clear p341
                                                try clear p345
                                                try clear p346
                                                try clear p348
                                                try clear p349
                                                try clear p350
                                                try clear p352
                                                try clear p6
                                                try clear q3
                                                try clear q341
                                                try clear q345
                                                try clear q346
                                                try clear q348
                                                try clear q349
                                                try clear q350
                                                try clear q352
                                                obtain ⟨kq, x86_23, rfl, HA, HJ23, HO_0, HO_7, HO_9, HR349_0, HR350_2, HB⟩ := hcut
                                                cases kq with
                                                | zero => exact absurd HA.out (by simp [cartoucheref11_Ring.j5])
                                                | succ kj23 =>
                                                  have H := HA.out
                                                  clear HA
                                                  simp only [cartoucheref11_Ring.j5] at H
                                                  by_cases c26 : x86_23 = true
                                                  · subst c26
                                                    have H1 : (if 0 ≤ x13_4 then (if x13_4 < (l0.length : Int) then (if x9_4.length < 3518437208883 then (cartoucheref11_Ring.l3 kj23 l0 t342 (x9_4 ++ [(⟨(rd_T50 l0 x13_4).f0, (rd_T50 l0 x13_4).f1, (rd_T50 l0 x13_4).f2⟩ : S50)]) ((rd_T50 l0 x13_4).f1) x11_3 true (wrap64 (x13_4 + 1))) else (none)) else (none)) else (none)) = some (r1, r2) := by rw [if_pos rfl] at H; exact H
                                                    clear H
                                                    have H := H1
                                                    clear H1
                                                    by_cases c27 : 0 ≤ x13_4
                                                    · rw [if_pos c27] at H
                                                      have c27b0 : decide (0 ≤ x13_4) = true := decide_eq_true c27
                                                      clear c27
                                                      by_cases c28 : x13_4 < (l0.length : Int)
                                                      · rw [if_pos c28] at H
                                                        have c28b0 : decide (x13_4 < (l0.length : Int)) = true := decide_eq_true c28
                                                        clear c28
                                                        by_cases c29 : x9_4.length < 3518437208883
                                                        · rw [if_pos c29] at H
                                                          have LMc29 := Aside0.mk c29
                                                          clear c29
                                                          obtain ⟨y354, hy354⟩ : ∃ y_ : List (S50), y_ = (x9_4 ++ [(⟨(rd_T50 l0 x13_4).f0, (rd_T50 l0 x13_4).f1, (rd_T50 l0 x13_4).f2⟩ : S50)]) := ⟨_, rfl⟩
                                                          replace H : (cartoucheref11_Ring.l3 kj23 l0 t342 y354 ((rd_T50 l0 x13_4).f1) x11_3 true (wrap64 (x13_4 + 1))) = some (r1, r2) := by first | (rw [hy354]; with_reducible exact H) | (have H2_ := (Option.bind_some _ _).symm.trans H; rw [hy354]; with_reducible exact H2_) | (have H2_ := (Option.bind_some _ _).symm.trans H; with_reducible exact H2_) | with_reducible exact H | (rw [hy354]; exact H) | exact H
                                                          have Ny354 := Aside0.mk hy354
                                                          clear hy354
                                                          have H' := Aside0.mk H
                                                          clear H
                                                          have p353 : 0 ≤ (x13_4 : Int) := of_decide_eq_true (by first | (with_reducible assumption) | assumption)
                                                          have q353 : x13_4 < (l0.length : Int) := of_decide_eq_true (by first | (with_reducible assumption) | assumption)
                                                          obtain ⟨ad353, A353_2, c353_2, e353, hx353_0, hx353_1, hx353_2, hl353_2, hi353_2⟩ := at_T50 (Kd.V_reads' HO_0.out).2.2 x13_4 p353 q353
                                                          obtain rfl : ad350 = ad353 := (by injection e353)
                                                          obtain ⟨ce353, hce353, hMe353, hcc353⟩ := Kd.V_get HO_0.out z50 x13_4 p353 (by first | exact q353 | exact of_decide_eq_true (by first | (with_reducible assumption) | assumption) | (have e_ := (Kd.V_reads' HO_0.out).1; omega))
                                                          obtain ⟨ua353_2, uc353_2, rfl, ul353_2, ge353_2⟩ := k50_openF hMe353
                                                          have hv353_2 := hcc353 2 _ rfl
                                                          rw [add_field _ _ 2 (by omega)] at hv353_2
                                                          replace hv353_2 := Option.some.inj (hv353_2.symm.trans hx353_2)
                                                          injection hv353_2 with hva_ hvn_ hvc_
                                                          rw [hva_] at ge353_2
                                                          rw [hvc_] at ul353_2
                                                          have HL353_2 := Aside0.mk (show Kd.V k76 76 _ w.heap.size _ _ ((rd_T50 l0 x13_4).f2) from Kd.V_mk ul353_2 ge353_2)
                                                          clear hva_ hvn_ hvc_ ge353_2 ul353_2
                                                          clear hcc353 hce353
                                                          have HR353_2 := Aside0.mk hi353_2
                                                          have HC353_2 := Aside0.mk hl353_2
                                                          clear hi353_2 hl353_2
                                                          replace p353 := eq_true p353
                                                          replace q353 := eq_true q353
                                                          go_wp2_with (first | ((with_reducible refine gate_builtin (b := .append) (xs := #[.tmp 87, .tmp 92]) rfl ?_); at_builtin; refine Kd.N_append k50 (w0 := w) w.heap.size rfl (.tmp 87) (.tmp 92) 43 50 (.agg #[(.int .i64 0), (.int .i64 0), (.slice none 0 0)]) 40 rfl Try.underlying43 info50 rfl (by decide) (by omega) u9 x9_4 (⟨(rd_T50 l0 x13_4).f0, (rd_T50 l0 x13_4).f1, (rd_T50 l0 x13_4).f2⟩ : S50) [.int .i64 ((rd_T50 l0 x13_4).f0), .int .i64 ((rd_T50 l0 x13_4).f1), .slice A353_2 ((rd_T50 l0 x13_4).f2).length c353_2] (fun k_ => (P0_ k_ ∨ w.heap.size ≤ k_) ∧ some k_ ≠ (.slice (some ad345) t342.length co14 : Value).ownBlock) (fun k_ => ((fun k_ => (P0_ k_ ∨ w.heap.size ≤ k_) ∧ some k_ ≠ (.slice (some ad345) t342.length co14 : Value).ownBlock)) k_ ∧ some k_ ≠ (u9 : Value).ownBlock) rfl rfl ?aP (fun _ hk => hk) ?aF ?aO ?aB ?aS ?aL ?_; (case aP => exact (k50_mkF _ _ (⟨(rd_T50 l0 x13_4).f0, (rd_T50 l0 x13_4).f1, (rd_T50 l0 x13_4).f2⟩ : S50) (Kd.V_reads' (Kd.V_mono (ok' := (fun k_ => ((fun k_ => (P0_ k_ ∨ w.heap.size ≤ k_) ∧ some k_ ≠ (.slice (some ad345) t342.length co14 : Value).ownBlock)) k_ ∧ some k_ ≠ (u9 : Value).ownBlock)) (HL353_2.out) (fun k_ hk => ⟨⟨hk.1, hk.2.1⟩, hk.2.2⟩))).2.1 (Kd.V_F (Kd.V_mono (ok' := (fun k_ => ((fun k_ => (P0_ k_ ∨ w.heap.size ≤ k_) ∧ some k_ ≠ (.slice (some ad345) t342.length co14 : Value).ownBlock)) k_ ∧ some k_ ≠ (u9 : Value).ownBlock)) (HL353_2.out) (fun k_ hk => ⟨⟨hk.1, hk.2.1⟩, hk.2.2⟩))))); (case aB => exact (by repeat (first | (with_reducible first | exact HB.out | apply below_alloc | apply pw_below_drewN | apply below_drew1) | exact HB.out))); (case aF => exact (fun k_ hk => ⟨(.inr (Nat.le_trans (below_size (by repeat (first | (with_reducible first | exact HB.out | apply below_alloc | apply pw_below_drewN | apply below_drew1) | exact HB.out))) hk)), Kd.fresh' (Kd.N_lt (by (with_reducible repeat (first | apply Kd.N_alloc | apply Kd.N_drewN | apply Kd.N_drew)); exact HO_7.out)) k_ hk⟩)); (case aO => exact (by (with_reducible repeat (first | apply Kd.N_alloc | apply Kd.N_drewN | apply Kd.N_drew)); exact HO_9.out)); (case aS => exact (below_size (by repeat (first | (with_reducible first | exact HB.out | apply below_alloc | apply pw_below_drewN | apply below_drew1) | exact HB.out)))); (case aL => have := LMc29.out; omega); intro v355 w30 ho hb hg hat; rw [← Ny354.out] at ho; have n0_ := Aside0.mk (Kd.V_afterv (ok := (fun k_ => (P0_ k_ ∨ w.heap.size ≤ k_) ∧ some k_ ≠ (.slice (some ad345) t342.length co14 : Value).ownBlock)) (by (with_reducible repeat (first | apply Kd.V_alloc | apply Kd.V_drewN | apply Kd.V_drew)); exact Kd.V_mono HO_0.out (fun _ hk => ⟨⟨hk.1, hk.2.1⟩, hk.2.2⟩)) hg hat); have n1_ := Aside0.mk (Kd.N_afterv (ok := (fun k_ => (P0_ k_ ∨ w.heap.size ≤ k_))) (by (with_reducible repeat (first | apply Kd.N_alloc | apply Kd.N_drewN | apply Kd.N_drew)); exact HO_7.out) hg hat); have n2_ := Aside0.mk (Kd.V_afterv (ok := (fun k_ => (P0_ k_ ∨ w.heap.size ≤ k_) ∧ some k_ ≠ (.slice (some ad345) t342.length co14 : Value).ownBlock)) (by (with_reducible repeat (first | apply Kd.V_alloc | apply Kd.V_drewN | apply Kd.V_drew)); exact Kd.V_mono HL353_2.out (fun _ hk => ⟨⟨hk.1, hk.2.1⟩, hk.2.2⟩)) hg hat); have n3_ := Aside0.mk (hb); have n4_ := Aside0.mk (ho); clear HO_0; clear HO_7; clear HL353_2; clear HB; clear HO_9; have HO_0 := n0_; have HO_7 := n1_; have HL353_2 := n2_; have HB := n3_; have HO356 := n4_; clear n0_ n1_ n2_ n3_ n4_; clear ho hb hg hat; have p357 : 0 ≤ (x13_4 : Int) := of_decide_eq_true (by first | (with_reducible assumption) | assumption); have q357 : x13_4 < (l0.length : Int) := of_decide_eq_true (by first | (with_reducible assumption) | assumption); obtain ⟨ad357, A357_2, c357_2, e357, hx357_0, hx357_1, hx357_2, hl357_2, hi357_2⟩ := at_T50 (Kd.V_reads' HO_0.out).2.2 x13_4 p357 q357; obtain rfl : ad350 = ad357 := (by injection e357); obtain ⟨ce357, hce357, hMe357, hcc357⟩ := Kd.V_get HO_0.out z50 x13_4 p357 (by first | exact q357 | exact of_decide_eq_true (by first | (with_reducible assumption) | assumption) | (have e_ := (Kd.V_reads' HO_0.out).1; omega)); obtain ⟨ua357_2, uc357_2, rfl, ul357_2, ge357_2⟩ := k50_openF hMe357; have hv357_2 := hcc357 2 _ rfl; rw [add_field _ _ 2 (by omega)] at hv357_2; replace hv357_2 := Option.some.inj (hv357_2.symm.trans hx357_2); injection hv357_2 with hva_ hvn_ hvc_; rw [hva_] at ge357_2; rw [hvc_] at ul357_2; have HL357_2 := Aside0.mk (show Kd.V k76 76 _ w.heap.size _ _ ((rd_T50 l0 x13_4).f2) from Kd.V_mk ul357_2 ge357_2); clear hva_ hvn_ hvc_ ge357_2 ul357_2; clear hcc357 hce357; have HR357_2 := Aside0.mk hi357_2; have HC357_2 := Aside0.mk hl357_2; clear hi357_2 hl357_2; replace p357 := eq_true p357; replace q357 := eq_true q357))
                                                          repeat (go_quiet (first | ((with_reducible refine gate_builtin (b := .append) (xs := #[.tmp 87, .tmp 92]) rfl ?_); at_builtin; refine Kd.N_append k50 (w0 := w) w.heap.size rfl (.tmp 87) (.tmp 92) 43 50 (.agg #[(.int .i64 0), (.int .i64 0), (.slice none 0 0)]) 40 rfl Try.underlying43 info50 rfl (by decide) (by omega) u9 x9_4 (⟨(rd_T50 l0 x13_4).f0, (rd_T50 l0 x13_4).f1, (rd_T50 l0 x13_4).f2⟩ : S50) [.int .i64 ((rd_T50 l0 x13_4).f0), .int .i64 ((rd_T50 l0 x13_4).f1), .slice A353_2 ((rd_T50 l0 x13_4).f2).length c353_2] (fun k_ => (P0_ k_ ∨ w.heap.size ≤ k_) ∧ some k_ ≠ (.slice (some ad345) t342.length co14 : Value).ownBlock) (fun k_ => ((fun k_ => (P0_ k_ ∨ w.heap.size ≤ k_) ∧ some k_ ≠ (.slice (some ad345) t342.length co14 : Value).ownBlock)) k_ ∧ some k_ ≠ (u9 : Value).ownBlock) rfl rfl ?aP (fun _ hk => hk) ?aF ?aO ?aB ?aS ?aL ?_; (case aP => exact (k50_mkF _ _ (⟨(rd_T50 l0 x13_4).f0, (rd_T50 l0 x13_4).f1, (rd_T50 l0 x13_4).f2⟩ : S50) (Kd.V_reads' (Kd.V_mono (ok' := (fun k_ => ((fun k_ => (P0_ k_ ∨ w.heap.size ≤ k_) ∧ some k_ ≠ (.slice (some ad345) t342.length co14 : Value).ownBlock)) k_ ∧ some k_ ≠ (u9 : Value).ownBlock)) (HL353_2.out) (fun k_ hk => ⟨⟨hk.1, hk.2.1⟩, hk.2.2⟩))).2.1 (Kd.V_F (Kd.V_mono (ok' := (fun k_ => ((fun k_ => (P0_ k_ ∨ w.heap.size ≤ k_) ∧ some k_ ≠ (.slice (some ad345) t342.length co14 : Value).ownBlock)) k_ ∧ some k_ ≠ (u9 : Value).ownBlock)) (HL353_2.out) (fun k_ hk => ⟨⟨hk.1, hk.2.1⟩, hk.2.2⟩))))); (case aB => exact (by repeat (first | (with_reducible first | exact HB.out | apply below_alloc | apply pw_below_drewN | apply below_drew1) | exact HB.out))); (case aF => exact (fun k_ hk => ⟨(.inr (Nat.le_trans (below_size (by repeat (first | (with_reducible first | exact HB.out | apply below_alloc | apply pw_below_drewN | apply below_drew1) | exact HB.out))) hk)), Kd.fresh' (Kd.N_lt (by (with_reducible repeat (first | apply Kd.N_alloc | apply Kd.N_drewN | apply Kd.N_drew)); exact HO_7.out)) k_ hk⟩)); (case aO => exact (by (with_reducible repeat (first | apply Kd.N_alloc | apply Kd.N_drewN | apply Kd.N_drew)); exact HO_9.out)); (case aS => exact (below_size (by repeat (first | (with_reducible first | exact HB.out | apply below_alloc | apply pw_below_drewN | apply below_drew1) | exact HB.out)))); (case aL => have := LMc29.out; omega); intro v355 w30 ho hb hg hat; rw [← Ny354.out] at ho; have n0_ := Aside0.mk (Kd.V_afterv (ok := (fun k_ => (P0_ k_ ∨ w.heap.size ≤ k_) ∧ some k_ ≠ (.slice (some ad345) t342.length co14 : Value).ownBlock)) (by (with_reducible repeat (first | apply Kd.V_alloc | apply Kd.V_drewN | apply Kd.V_drew)); exact Kd.V_mono HO_0.out (fun _ hk => ⟨⟨hk.1, hk.2.1⟩, hk.2.2⟩)) hg hat); have n1_ := Aside0.mk (Kd.N_afterv (ok := (fun k_ => (P0_ k_ ∨ w.heap.size ≤ k_))) (by (with_reducible repeat (first | apply Kd.N_alloc | apply Kd.N_drewN | apply Kd.N_drew)); exact HO_7.out) hg hat); have n2_ := Aside0.mk (Kd.V_afterv (ok := (fun k_ => (P0_ k_ ∨ w.heap.size ≤ k_) ∧ some k_ ≠ (.slice (some ad345) t342.length co14 : Value).ownBlock)) (by (with_reducible repeat (first | apply Kd.V_alloc | apply Kd.V_drewN | apply Kd.V_drew)); exact Kd.V_mono HL353_2.out (fun _ hk => ⟨⟨hk.1, hk.2.1⟩, hk.2.2⟩)) hg hat); have n3_ := Aside0.mk (hb); have n4_ := Aside0.mk (ho); clear HO_0; clear HO_7; clear HL353_2; clear HB; clear HO_9; have HO_0 := n0_; have HO_7 := n1_; have HL353_2 := n2_; have HB := n3_; have HO356 := n4_; clear n0_ n1_ n2_ n3_ n4_; clear ho hb hg hat; have p357 : 0 ≤ (x13_4 : Int) := of_decide_eq_true (by first | (with_reducible assumption) | assumption); have q357 : x13_4 < (l0.length : Int) := of_decide_eq_true (by first | (with_reducible assumption) | assumption); obtain ⟨ad357, A357_2, c357_2, e357, hx357_0, hx357_1, hx357_2, hl357_2, hi357_2⟩ := at_T50 (Kd.V_reads' HO_0.out).2.2 x13_4 p357 q357; obtain rfl : ad350 = ad357 := (by injection e357); obtain ⟨ce357, hce357, hMe357, hcc357⟩ := Kd.V_get HO_0.out z50 x13_4 p357 (by first | exact q357 | exact of_decide_eq_true (by first | (with_reducible assumption) | assumption) | (have e_ := (Kd.V_reads' HO_0.out).1; omega)); obtain ⟨ua357_2, uc357_2, rfl, ul357_2, ge357_2⟩ := k50_openF hMe357; have hv357_2 := hcc357 2 _ rfl; rw [add_field _ _ 2 (by omega)] at hv357_2; replace hv357_2 := Option.some.inj (hv357_2.symm.trans hx357_2); injection hv357_2 with hva_ hvn_ hvc_; rw [hva_] at ge357_2; rw [hvc_] at ul357_2; have HL357_2 := Aside0.mk (show Kd.V k76 76 _ w.heap.size _ _ ((rd_T50 l0 x13_4).f2) from Kd.V_mk ul357_2 ge357_2); clear hva_ hvn_ hvc_ ge357_2 ul357_2; clear hcc357 hce357; have HR357_2 := Aside0.mk hi357_2; have HC357_2 := Aside0.mk hl357_2; clear hi357_2 hl357_2; replace p357 := eq_true p357; replace q357 := eq_true q357)); try go_wp2_with (first | ((with_reducible refine gate_builtin (b := .append) (xs := #[.tmp 87, .tmp 92]) rfl ?_); at_builtin; refine Kd.N_append k50 (w0 := w) w.heap.size rfl (.tmp 87) (.tmp 92) 43 50 (.agg #[(.int .i64 0), (.int .i64 0), (.slice none 0 0)]) 40 rfl Try.underlying43 info50 rfl (by decide) (by omega) u9 x9_4 (⟨(rd_T50 l0 x13_4).f0, (rd_T50 l0 x13_4).f1, (rd_T50 l0 x13_4).f2⟩ : S50) [.int .i64 ((rd_T50 l0 x13_4).f0), .int .i64 ((rd_T50 l0 x13_4).f1), .slice A353_2 ((rd_T50 l0 x13_4).f2).length c353_2] (fun k_ => (P0_ k_ ∨ w.heap.size ≤ k_) ∧ some k_ ≠ (.slice (some ad345) t342.length co14 : Value).ownBlock) (fun k_ => ((fun k_ => (P0_ k_ ∨ w.heap.size ≤ k_) ∧ some k_ ≠ (.slice (some ad345) t342.length co14 : Value).ownBlock)) k_ ∧ some k_ ≠ (u9 : Value).ownBlock) rfl rfl ?aP (fun _ hk => hk) ?aF ?aO ?aB ?aS ?aL ?_; (case aP => exact (k50_mkF _ _ (⟨(rd_T50 l0 x13_4).f0, (rd_T50 l0 x13_4).f1, (rd_T50 l0 x13_4).f2⟩ : S50) (Kd.V_reads' (Kd.V_mono (ok' := (fun k_ => ((fun k_ => (P0_ k_ ∨ w.heap.size ≤ k_) ∧ some k_ ≠ (.slice (some ad345) t342.length co14 : Value).ownBlock)) k_ ∧ some k_ ≠ (u9 : Value).ownBlock)) (HL353_2.out) (fun k_ hk => ⟨⟨hk.1, hk.2.1⟩, hk.2.2⟩))).2.1 (Kd.V_F (Kd.V_mono (ok' := (fun k_ => ((fun k_ => (P0_ k_ ∨ w.heap.size ≤ k_) ∧ some k_ ≠ (.slice (some ad345) t342.length co14 : Value).ownBlock)) k_ ∧ some k_ ≠ (u9 : Value).ownBlock)) (HL353_2.out) (fun k_ hk => ⟨⟨hk.1, hk.2.1⟩, hk.2.2⟩))))); (case aB => exact (by repeat (first | (with_reducible first | exact HB.out | apply below_alloc | apply pw_below_drewN | apply below_drew1) | exact HB.out))); (case aF => exact (fun k_ hk => ⟨(.inr (Nat.le_trans (below_size (by repeat (first | (with_reducible first | exact HB.out | apply below_alloc | apply pw_below_drewN | apply below_drew1) | exact HB.out))) hk)), Kd.fresh' (Kd.N_lt (by (with_reducible repeat (first | apply Kd.N_alloc | apply Kd.N_drewN | apply Kd.N_drew)); exact HO_7.out)) k_ hk⟩)); (case aO => exact (by (with_reducible repeat (first | apply Kd.N_alloc | apply Kd.N_drewN | apply Kd.N_drew)); exact HO_9.out)); (case aS => exact (below_size (by repeat (first | (with_reducible first | exact HB.out | apply below_alloc | apply pw_below_drewN | apply below_drew1) | exact HB.out)))); (case aL => have := LMc29.out; omega); intro v355 w30 ho hb hg hat; rw [← Ny354.out] at ho; have n0_ := Aside0.mk (Kd.V_afterv (ok := (fun k_ => (P0_ k_ ∨ w.heap.size ≤ k_) ∧ some k_ ≠ (.slice (some ad345) t342.length co14 : Value).ownBlock)) (by (with_reducible repeat (first | apply Kd.V_alloc | apply Kd.V_drewN | apply Kd.V_drew)); exact Kd.V_mono HO_0.out (fun _ hk => ⟨⟨hk.1, hk.2.1⟩, hk.2.2⟩)) hg hat); have n1_ := Aside0.mk (Kd.N_afterv (ok := (fun k_ => (P0_ k_ ∨ w.heap.size ≤ k_))) (by (with_reducible repeat (first | apply Kd.N_alloc | apply Kd.N_drewN | apply Kd.N_drew)); exact HO_7.out) hg hat); have n2_ := Aside0.mk (Kd.V_afterv (ok := (fun k_ => (P0_ k_ ∨ w.heap.size ≤ k_) ∧ some k_ ≠ (.slice (some ad345) t342.length co14 : Value).ownBlock)) (by (with_reducible repeat (first | apply Kd.V_alloc | apply Kd.V_drewN | apply Kd.V_drew)); exact Kd.V_mono HL353_2.out (fun _ hk => ⟨⟨hk.1, hk.2.1⟩, hk.2.2⟩)) hg hat); have n3_ := Aside0.mk (hb); have n4_ := Aside0.mk (ho); clear HO_0; clear HO_7; clear HL353_2; clear HB; clear HO_9; have HO_0 := n0_; have HO_7 := n1_; have HL353_2 := n2_; have HB := n3_; have HO356 := n4_; clear n0_ n1_ n2_ n3_ n4_; clear ho hb hg hat; have p357 : 0 ≤ (x13_4 : Int) := of_decide_eq_true (by first | (with_reducible assumption) | assumption); have q357 : x13_4 < (l0.length : Int) := of_decide_eq_true (by first | (with_reducible assumption) | assumption); obtain ⟨ad357, A357_2, c357_2, e357, hx357_0, hx357_1, hx357_2, hl357_2, hi357_2⟩ := at_T50 (Kd.V_reads' HO_0.out).2.2 x13_4 p357 q357; obtain rfl : ad350 = ad357 := (by injection e357); obtain ⟨ce357, hce357, hMe357, hcc357⟩ := Kd.V_get HO_0.out z50 x13_4 p357 (by first | exact q357 | exact of_decide_eq_true (by first | (with_reducible assumption) | assumption) | (have e_ := (Kd.V_reads' HO_0.out).1; omega)); obtain ⟨ua357_2, uc357_2, rfl, ul357_2, ge357_2⟩ := k50_openF hMe357; have hv357_2 := hcc357 2 _ rfl; rw [add_field _ _ 2 (by omega)] at hv357_2; replace hv357_2 := Option.some.inj (hv357_2.symm.trans hx357_2); injection hv357_2 with hva_ hvn_ hvc_; rw [hva_] at ge357_2; rw [hvc_] at ul357_2; have HL357_2 := Aside0.mk (show Kd.V k76 76 _ w.heap.size _ _ ((rd_T50 l0 x13_4).f2) from Kd.V_mk ul357_2 ge357_2); clear hva_ hvn_ hvc_ ge357_2 ul357_2; clear hcc357 hce357; have HR357_2 := Aside0.mk hi357_2; have HC357_2 := Aside0.mk hl357_2; clear hi357_2 hl357_2; replace p357 := eq_true p357; replace q357 := eq_true q357)))
                                                          go_roundg kj23
                                                          case measure => have := HK1.out; have := HK2.out; have := HK3.out; have := HK4.out; have := HJ15.out; have := HJ23.out; omega
                                                          case rel => exact ⟨(y354), ((rd_T50 l0 x13_4).f1), (true), (wrap64 (x13_4 + 1)), (by first | rfl | (simp; done) | (simp [*]; done)), (by first | rfl | (simp; done) | (simp [*]; done)), (by first | rfl | (simp; done) | (simp [*]; done)), H', ⟨by have := HK1.out; have := HK2.out; have := HK3.out; have := HK4.out; have := HJ15.out; have := HJ23.out; omega⟩, ⟨by (with_reducible repeat (first | apply Kd.V_alloc | apply Kd.V_drewN | apply Kd.V_drew)); exact Kd.V_mono HO_0.out (fun _ hk => ⟨hk.1.1, ⟨hk.1.2, hk.2⟩⟩)⟩, ⟨by (with_reducible repeat (first | apply Kd.N_alloc | apply Kd.N_drewN | apply Kd.N_drew)); exact HO_7.out⟩, ⟨by (with_reducible repeat (first | apply Kd.N_alloc | apply Kd.N_drewN | apply Kd.N_drew)); exact HO356.out⟩, ⟨by repeat (first | (with_reducible first | exact HB.out | apply below_alloc | apply pw_below_drewN | apply below_drew1) | exact HB.out)⟩⟩
                                                        · rw [if_neg c29] at H
                                                          exact absurd H (by simp)
                                                      · rw [if_neg c28] at H
                                                        exact absurd H (by simp)
                                                    · rw [if_neg c27] at H
                                                      exact absurd H (by simp)
                                                  · replace c26 := Bool.eq_false_iff.mpr c26
                                                    subst c26
                                                    have H1 : (cartoucheref11_Ring.l3 kj23 l0 t342 x9_4 x10_4 x11_3 x12_4 (wrap64 (x13_4 + 1))) = some (r1, r2) := by rw [if_neg (show ¬ (false = true) by decide)] at H; exact H
                                                    clear H
                                                    have H := H1
                                                    clear H1
                                                    have H' := Aside0.mk H
                                                    clear H
                                                    go_wp2
                                                    repeat (go_quiet (fail); try go_wp2)
                                                    go_roundg kj23
                                                    case measure => have := HK1.out; have := HK2.out; have := HK3.out; have := HK4.out; have := HJ15.out; have := HJ23.out; omega
                                                    case rel => exact ⟨(x9_4), (x10_4), (x12_4), (wrap64 (x13_4 + 1)), (by first | rfl | (simp; done) | (simp [*]; done)), (by first | rfl | (simp; done) | (simp [*]; done)), (by first | rfl | (simp; done) | (simp [*]; done)), H', ⟨by have := HK1.out; have := HK2.out; have := HK3.out; have := HK4.out; have := HJ15.out; have := HJ23.out; omega⟩, ⟨by (with_reducible repeat (first | apply Kd.V_alloc | apply Kd.V_drewN | apply Kd.V_drew)); exact HO_0.out⟩, ⟨by (with_reducible repeat (first | apply Kd.N_alloc | apply Kd.N_drewN | apply Kd.N_drew)); exact HO_7.out⟩, ⟨by (with_reducible repeat (first | apply Kd.N_alloc | apply Kd.N_drewN | apply Kd.N_drew)); exact HO_9.out⟩, ⟨by repeat (first | (with_reducible first | exact HB.out | apply below_alloc | apply pw_below_drewN | apply below_drew1) | exact HB.out)⟩⟩
                                            · rw [if_neg c22] at H
                                              exact absurd H (by simp)
                                          · rw [if_neg c21] at H
                                            exact absurd H (by simp)
                                        · rw [if_neg c20] at H
                                          exact absurd H (by simp)
                                      · rw [if_neg c19] at H
                                        exact absurd H (by simp)
                                    · replace c18 := Bool.eq_false_iff.mpr c18
                                      subst c18
                                      have H1 : (cartoucheref11_Ring.l2 kj15 l0 t342 x9_4 x10_4 (wrap64 (x11_3 - 1))) = some (r1, r2) := by rw [if_neg (show ¬ (false = true) by decide)] at H; exact H
                                      clear H
                                      have H := H1
                                      clear H1
                                      have H' := Aside0.mk H
                                      clear H
                                      go_wp2
                                      repeat (go_quiet (fail); try go_wp2)
                                      go_roundg kj15
                                      case measure => have := HK1.out; have := HK2.out; have := HK3.out; have := HK4.out; have := HJ15.out; omega
                                      case rel => exact ⟨(x9_4), (x10_4), (wrap64 (x11_3 - 1)), (by first | rfl | (simp; done) | (simp [*]; done)), (by first | rfl | (simp; done) | (simp [*]; done)), H', ⟨by have := HK1.out; have := HK2.out; have := HK3.out; have := HK4.out; have := HJ15.out; omega⟩, ⟨by (with_reducible repeat (first | apply Kd.V_alloc | apply Kd.V_drewN | apply Kd.V_drew)); exact HO_0.out⟩, ⟨by (with_reducible repeat (first | apply Kd.N_alloc | apply Kd.N_drewN | apply Kd.N_drew)); exact HO_7.out⟩, ⟨by (with_reducible repeat (first | apply Kd.N_alloc | apply Kd.N_drewN | apply Kd.N_drew)); exact HO_9.out⟩, ⟨by repeat (first | (with_reducible first | exact HB.out | apply below_alloc | apply pw_below_drewN | apply below_drew1) | exact HB.out)⟩⟩
                          · rw [if_neg c15] at H
                            have c15b0 : decide (0 ≤ x11_3) = false := decide_eq_false c15
                            clear c15
                            simp only [Option.some.injEq, Prod.mk.injEq] at H
                            obtain ⟨rfl, rfl⟩ := H
                            go_wp2
                            repeat (go_quiet (fail); try go_wp2)
                            go_ret2
                            exact ⟨_, by first | rfl | (simp [errW_none, errW_some] <;> rfl) | (simp [*, errW_none, errW_some] <;> rfl), by (with_reducible repeat (first | apply Kd.N_alloc | apply Kd.N_drewN | apply Kd.N_drew)); exact Kd.N_mono HO_9.out (fun _ hk => hk.1), by repeat (first | (with_reducible first | exact HB.out | apply below_alloc | apply pw_below_drewN | apply below_drew1) | exact HB.out)⟩
                    · replace c12 := Bool.eq_false_iff.mpr c12
                      subst c12
                      have H1 : (cartoucheref11_Ring.l1 k2 l0 t338 x5_1 (wrap64 (x6_2 + 1))) = some (r1, r2) := by rw [if_neg (show ¬ (false = true) by decide)] at H; exact H
                      clear H
                      have H := H1
                      clear H1
                      have H' := Aside0.mk H
                      clear H
                      have p341 : 0 ≤ (x6_2 : Int) := of_decide_eq_true (by first | (with_reducible assumption) | assumption)
                      have q341 : x6_2 < (t338.length : Int) := of_decide_eq_true (by first | (with_reducible assumption) | assumption)
                      obtain ⟨ad341, e341, hx341_0⟩ := Kd.at_int (Kd.R_reads' HO_4.out).2.2 x6_2 p341 q341
                      cases e341
                      replace p341 := eq_true p341
                      replace q341 := eq_true q341
                      go_wp2_with (first | (go_at_call 89; (with_reducible refine (cartoucheref11_ways.calls k2 _ _ l0 (rd t338 x6_2) x5_1 t342 _ ?side1 ?side2 A8.out).mono ?_); (case side1 => repeat (first | exact (Kd.V_reads' HO_0.out).2.2 | (with_reducible refine Kd.C_alloc ?_ _) | (with_reducible refine Kd.C_drewN ?_ _) | (with_reducible refine Kd.C_drew ?_))); (case side2 => exact (Kd.V_reads' HO_0.out).2.1); rintro e w31 ⟨v343, rfl, ho0, hb⟩; have n0_ := Aside0.mk (Kd.V_elder' (by (with_reducible repeat (first | apply Kd.V_alloc | apply Kd.V_drewN | apply Kd.V_drew)); exact HO_0.out) (Kd.N_base ho0) hb); have n1_ := Aside0.mk (Kd.R_below (by (with_reducible repeat (first | apply Kd.R_alloc | apply Kd.R_drewN | apply Kd.R_drew)); exact HO_4.out) hb); have n2_ := Aside0.mk (Kd.N_lower (Kd.N_mono (ok' := fun k_ => (P0_ k_ ∨ w.heap.size ≤ k_) ∧ some k_ ≠ (.slice (some ad341) t338.length co5 : Value).ownBlock) ho0 (fun k_ hk_ => ⟨(.inr (Nat.le_trans (below_size (by repeat (first | (with_reducible first | exact HB.out | apply below_alloc | apply pw_below_drewN | apply below_drew1) | exact HB.out))) hk_)), (Kd.fresh' (Kd.R_lt (by (with_reducible repeat (first | apply Kd.R_alloc | apply Kd.R_drewN | apply Kd.R_drew)); exact HO_4.out)) k_ hk_)⟩)) (below_size (by repeat (first | (with_reducible first | exact HB.out | apply below_alloc | apply pw_below_drewN | apply below_drew1) | exact HB.out)))); have n3_ := Aside0.mk (below_step (by repeat (first | (with_reducible first | exact HB.out | apply below_alloc | apply pw_below_drewN | apply below_drew1) | exact HB.out)) hb); clear HO_0; clear HO_4; clear HB; have HO_0 := n0_; have HO_4 := n1_; have HO344 := n2_; have HB := n3_; clear n0_ n1_ n2_ n3_; (try clear hb); (try clear hb2); (try clear hk); (try clear hi); (try clear ho0); obtain ⟨Ao32, co32, eo32⟩ := Kd.N_slice HO344.out; subst eo32; have p345 : 0 ≤ (x5_1 : Int) := of_decide_eq_true (by first | (with_reducible assumption) | assumption); have q345 : x5_1 < (t342.length : Int) := of_decide_eq_true (by first | (with_reducible assumption) | assumption); obtain ⟨ad345, A345_0, c345_0, e345, hx345_0, hl345_0, hi345_0⟩ := at_L9 (Kd.N_reads' HO344.out).2.2 x5_1 p345 q345; cases e345; obtain ⟨ce345, hce345, hMe345, hcc345⟩ := Kd.N_get HO344.out [] x5_1 p345 (by first | exact q345 | exact of_decide_eq_true (by first | (with_reducible assumption) | assumption) | (have e_ := (Kd.N_reads' HO344.out).1; omega)); obtain ⟨ua345_0, uc345_0, rfl, ul345_0, ge345_0⟩ := Kd.FK_slice_open hMe345; have hv345_0 := hcc345 0 _ rfl; rw [Nat.add_zero, show ((Kd.slice 3 (Kd.int .i64))).sz = 1 from rfl, Nat.mul_one] at hv345_0; replace hv345_0 := Option.some.inj (hv345_0.symm.trans hx345_0); injection hv345_0 with hva_ hvn_ hvc_; rw [hva_] at ge345_0; rw [hvc_] at ul345_0; have HL345_0 := Aside0.mk (show Kd.V (Kd.int .i64) 3 _ w.heap.size _ _ (rd_L9 t342 x5_1) from Kd.V_mk ul345_0 ge345_0); clear hva_ hvn_ hvc_ ge345_0 ul345_0; clear hcc345 hce345; have HR345_0 := Aside0.mk hi345_0; have HC345_0 := Aside0.mk hl345_0; clear hi345_0 hl345_0; replace p345 := eq_true p345; replace q345 := eq_true q345; have p346 : 0 ≤ (x6_2 : Int) := of_decide_eq_true (by first | (with_reducible assumption) | assumption); have q346 : x6_2 < (t338.length : Int) := of_decide_eq_true (by first | (with_reducible assumption) | assumption); obtain ⟨ad346, e346, hx346_0⟩ := Kd.at_int (Kd.R_reads' HO_4.out).2.2 x6_2 p346 q346; obtain rfl : ad341 = ad346 := (by injection e346); replace p346 := eq_true p346; replace q346 := eq_true q346) | (go_at_call 90; (with_reducible refine (cartoucheref11_has.calls k2 _ _ (rd_L9 t342 x5_1) (rd t338 x6_2) false _ ?side1 ?side2 A11.out).mono ?_); (case side1 => repeat (first | exact (by repeat (first | (with_reducible exact HR345_0.out) | (with_reducible refine Kd.C_alloc ?_ _) | (with_reducible refine Kd.C_drewN ?_ _) | (with_reducible refine Kd.C_drew ?_) | exact HR345_0.out)) | (with_reducible refine Kd.C_alloc ?_ _) | (with_reducible refine Kd.C_drewN ?_ _) | (with_reducible refine Kd.C_drew ?_))); (case side2 => exact HC345_0.out); rintro e w' ⟨rfl, ⟨nd, rfl⟩⟩; (try first | exact ⟨rfl, _, World.drewN_drewN _ _ _⟩ | exact ⟨rfl, _, Eq.trans (World.drewN_drewN _ _ _) (congrArg (World.drewN _) (Nat.add_assoc _ _ _))⟩)))
                      repeat (go_quiet (first | (go_at_call 89; (with_reducible refine (cartoucheref11_ways.calls k2 _ _ l0 (rd t338 x6_2) x5_1 t342 _ ?side1 ?side2 A8.out).mono ?_); (case side1 => repeat (first | exact (Kd.V_reads' HO_0.out).2.2 | (with_reducible refine Kd.C_alloc ?_ _) | (with_reducible refine Kd.C_drewN ?_ _) | (with_reducible refine Kd.C_drew ?_))); (case side2 => exact (Kd.V_reads' HO_0.out).2.1); rintro e w31 ⟨v343, rfl, ho0, hb⟩; have n0_ := Aside0.mk (Kd.V_elder' (by (with_reducible repeat (first | apply Kd.V_alloc | apply Kd.V_drewN | apply Kd.V_drew)); exact HO_0.out) (Kd.N_base ho0) hb); have n1_ := Aside0.mk (Kd.R_below (by (with_reducible repeat (first | apply Kd.R_alloc | apply Kd.R_drewN | apply Kd.R_drew)); exact HO_4.out) hb); have n2_ := Aside0.mk (Kd.N_lower (Kd.N_mono (ok' := fun k_ => (P0_ k_ ∨ w.heap.size ≤ k_) ∧ some k_ ≠ (.slice (some ad341) t338.length co5 : Value).ownBlock) ho0 (fun k_ hk_ => ⟨(.inr (Nat.le_trans (below_size (by repeat (first | (with_reducible first | exact HB.out | apply below_alloc | apply pw_below_drewN | apply below_drew1) | exact HB.out))) hk_)), (Kd.fresh' (Kd.R_lt (by (with_reducible repeat (first | apply Kd.R_alloc | apply Kd.R_drewN | apply Kd.R_drew)); exact HO_4.out)) k_ hk_)⟩)) (below_size (by repeat (first | (with_reducible first | exact HB.out | apply below_alloc | apply pw_below_drewN | apply below_drew1) | exact HB.out)))); have n3_ := Aside0.mk (below_step (by repeat (first | (with_reducible first | exact HB.out | apply below_alloc | apply pw_below_drewN | apply below_drew1) | exact HB.out)) hb); clear HO_0; clear HO_4; clear HB; have HO_0 := n0_; have HO_4 := n1_; have HO344 := n2_; have HB := n3_; clear n0_ n1_ n2_ n3_; (try clear hb); (try clear hb2); (try clear hk); (try clear hi); (try clear ho0); obtain ⟨Ao32, co32, eo32⟩ := Kd.N_slice HO344.out; subst eo32; have p345 : 0 ≤ (x5_1 : Int) := of_decide_eq_true (by first | (with_reducible assumption) | assumption); have q345 : x5_1 < (t342.length : Int) := of_decide_eq_true (by first | (with_reducible assumption) | assumption); obtain ⟨ad345, A345_0, c345_0, e345, hx345_0, hl345_0, hi345_0⟩ := at_L9 (Kd.N_reads' HO344.out).2.2 x5_1 p345 q345; cases e345; obtain ⟨ce345, hce345, hMe345, hcc345⟩ := Kd.N_get HO344.out [] x5_1 p345 (by first | exact q345 | exact of_decide_eq_true (by first | (with_reducible assumption) | assumption) | (have e_ := (Kd.N_reads' HO344.out).1; omega)); obtain ⟨ua345_0, uc345_0, rfl, ul345_0, ge345_0⟩ := Kd.FK_slice_open hMe345; have hv345_0 := hcc345 0 _ rfl; rw [Nat.add_zero, show ((Kd.slice 3 (Kd.int .i64))).sz = 1 from rfl, Nat.mul_one] at hv345_0; replace hv345_0 := Option.some.inj (hv345_0.symm.trans hx345_0); injection hv345_0 with hva_ hvn_ hvc_; rw [hva_] at ge345_0; rw [hvc_] at ul345_0; have HL345_0 := Aside0.mk (show Kd.V (Kd.int .i64) 3 _ w.heap.size _ _ (rd_L9 t342 x5_1) from Kd.V_mk ul345_0 ge345_0); clear hva_ hvn_ hvc_ ge345_0 ul345_0; clear hcc345 hce345; have HR345_0 := Aside0.mk hi345_0; have HC345_0 := Aside0.mk hl345_0; clear hi345_0 hl345_0; replace p345 := eq_true p345; replace q345 := eq_true q345; have p346 : 0 ≤ (x6_2 : Int) := of_decide_eq_true (by first | (with_reducible assumption) | assumption); have q346 : x6_2 < (t338.length : Int) := of_decide_eq_true (by first | (with_reducible assumption) | assumption); obtain ⟨ad346, e346, hx346_0⟩ := Kd.at_int (Kd.R_reads' HO_4.out).2.2 x6_2 p346 q346; obtain rfl : ad341 = ad346 := (by injection e346); replace p346 := eq_true p346; replace q346 := eq_true q346) | (go_at_call 90; (with_reducible refine (cartoucheref11_has.calls k2 _ _ (rd_L9 t342 x5_1) (rd t338 x6_2) false _ ?side1 ?side2 A11.out).mono ?_); (case side1 => repeat (first | exact (by repeat (first | (with_reducible exact HR345_0.out) | (with_reducible refine Kd.C_alloc ?_ _) | (with_reducible refine Kd.C_drewN ?_ _) | (with_reducible refine Kd.C_drew ?_) | exact HR345_0.out)) | (with_reducible refine Kd.C_alloc ?_ _) | (with_reducible refine Kd.C_drewN ?_ _) | (with_reducible refine Kd.C_drew ?_))); (case side2 => exact HC345_0.out); rintro e w' ⟨rfl, ⟨nd, rfl⟩⟩; (try first | exact ⟨rfl, _, World.drewN_drewN _ _ _⟩ | exact ⟨rfl, _, Eq.trans (World.drewN_drewN _ _ _) (congrArg (World.drewN _) (Nat.add_assoc _ _ _))⟩))); try go_wp2_with (first | (go_at_call 89; (with_reducible refine (cartoucheref11_ways.calls k2 _ _ l0 (rd t338 x6_2) x5_1 t342 _ ?side1 ?side2 A8.out).mono ?_); (case side1 => repeat (first | exact (Kd.V_reads' HO_0.out).2.2 | (with_reducible refine Kd.C_alloc ?_ _) | (with_reducible refine Kd.C_drewN ?_ _) | (with_reducible refine Kd.C_drew ?_))); (case side2 => exact (Kd.V_reads' HO_0.out).2.1); rintro e w31 ⟨v343, rfl, ho0, hb⟩; have n0_ := Aside0.mk (Kd.V_elder' (by (with_reducible repeat (first | apply Kd.V_alloc | apply Kd.V_drewN | apply Kd.V_drew)); exact HO_0.out) (Kd.N_base ho0) hb); have n1_ := Aside0.mk (Kd.R_below (by (with_reducible repeat (first | apply Kd.R_alloc | apply Kd.R_drewN | apply Kd.R_drew)); exact HO_4.out) hb); have n2_ := Aside0.mk (Kd.N_lower (Kd.N_mono (ok' := fun k_ => (P0_ k_ ∨ w.heap.size ≤ k_) ∧ some k_ ≠ (.slice (some ad341) t338.length co5 : Value).ownBlock) ho0 (fun k_ hk_ => ⟨(.inr (Nat.le_trans (below_size (by repeat (first | (with_reducible first | exact HB.out | apply below_alloc | apply pw_below_drewN | apply below_drew1) | exact HB.out))) hk_)), (Kd.fresh' (Kd.R_lt (by (with_reducible repeat (first | apply Kd.R_alloc | apply Kd.R_drewN | apply Kd.R_drew)); exact HO_4.out)) k_ hk_)⟩)) (below_size (by repeat (first | (with_reducible first | exact HB.out | apply below_alloc | apply pw_below_drewN | apply below_drew1) | exact HB.out)))); have n3_ := Aside0.mk (below_step (by repeat (first | (with_reducible first | exact HB.out | apply below_alloc | apply pw_below_drewN | apply below_drew1) | exact HB.out)) hb); clear HO_0; clear HO_4; clear HB; have HO_0 := n0_; have HO_4 := n1_; have HO344 := n2_; have HB := n3_; clear n0_ n1_ n2_ n3_; (try clear hb); (try clear hb2); (try clear hk); (try clear hi); (try clear ho0); obtain ⟨Ao32, co32, eo32⟩ := Kd.N_slice HO344.out; subst eo32; have p345 : 0 ≤ (x5_1 : Int) := of_decide_eq_true (by first | (with_reducible assumption) | assumption); have q345 : x5_1 < (t342.length : Int) := of_decide_eq_true (by first | (with_reducible assumption) | assumption); obtain ⟨ad345, A345_0, c345_0, e345, hx345_0, hl345_0, hi345_0⟩ := at_L9 (Kd.N_reads' HO344.out).2.2 x5_1 p345 q345; cases e345; obtain ⟨ce345, hce345, hMe345, hcc345⟩ := Kd.N_get HO344.out [] x5_1 p345 (by first | exact q345 | exact of_decide_eq_true (by first | (with_reducible assumption) | assumption) | (have e_ := (Kd.N_reads' HO344.out).1; omega)); obtain ⟨ua345_0, uc345_0, rfl, ul345_0, ge345_0⟩ := Kd.FK_slice_open hMe345; have hv345_0 := hcc345 0 _ rfl; rw [Nat.add_zero, show ((Kd.slice 3 (Kd.int .i64))).sz = 1 from rfl, Nat.mul_one] at hv345_0; replace hv345_0 := Option.some.inj (hv345_0.symm.trans hx345_0); injection hv345_0 with hva_ hvn_ hvc_; rw [hva_] at ge345_0; rw [hvc_] at ul345_0; have HL345_0 := Aside0.mk (show Kd.V (Kd.int .i64) 3 _ w.heap.size _ _ (rd_L9 t342 x5_1) from Kd.V_mk ul345_0 ge345_0); clear hva_ hvn_ hvc_ ge345_0 ul345_0; clear hcc345 hce345; have HR345_0 := Aside0.mk hi345_0; have HC345_0 := Aside0.mk hl345_0; clear hi345_0 hl345_0; replace p345 := eq_true p345; replace q345 := eq_true q345; have p346 : 0 ≤ (x6_2 : Int) := of_decide_eq_true (by first | (with_reducible assumption) | assumption); have q346 : x6_2 < (t338.length : Int) := of_decide_eq_true (by first | (with_reducible assumption) | assumption); obtain ⟨ad346, e346, hx346_0⟩ := Kd.at_int (Kd.R_reads' HO_4.out).2.2 x6_2 p346 q346; obtain rfl : ad341 = ad346 := (by injection e346); replace p346 := eq_true p346; replace q346 := eq_true q346) | (go_at_call 90; (with_reducible refine (cartoucheref11_has.calls k2 _ _ (rd_L9 t342 x5_1) (rd t338 x6_2) false _ ?side1 ?side2 A11.out).mono ?_); (case side1 => repeat (first | exact (by repeat (first | (with_reducible exact HR345_0.out) | (with_reducible refine Kd.C_alloc ?_ _) | (with_reducible refine Kd.C_drewN ?_ _) | (with_reducible refine Kd.C_drew ?_) | exact HR345_0.out)) | (with_reducible refine Kd.C_alloc ?_ _) | (with_reducible refine Kd.C_drewN ?_ _) | (with_reducible refine Kd.C_drew ?_))); (case side2 => exact HC345_0.out); rintro e w' ⟨rfl, ⟨nd, rfl⟩⟩; (try first | exact ⟨rfl, _, World.drewN_drewN _ _ _⟩ | exact ⟨rfl, _, Eq.trans (World.drewN_drewN _ _ _) (congrArg (World.drewN _) (Nat.add_assoc _ _ _))⟩))))
                      go_roundg k2
                      case measure => have := HK1.out; have := HK2.out; omega
                      case rel => exact ⟨(wrap64 (x6_2 + 1)), (by first | rfl | (simp; done) | (simp [*]; done)), H', ⟨by have := HK1.out; have := HK2.out; omega⟩, ⟨by (with_reducible repeat (first | apply Kd.V_alloc | apply Kd.V_drewN | apply Kd.V_drew)); exact Kd.V_mono HO_0.out (fun _ hk => ⟨hk.1.1, hk.1.2⟩)⟩, ⟨by (with_reducible repeat (first | apply Kd.R_alloc | apply Kd.R_drewN | apply Kd.R_drew)); exact HO_4.out⟩, ⟨by repeat (first | (with_reducible first | exact HB.out | apply below_alloc | apply pw_below_drewN | apply below_drew1) | exact HB.out)⟩⟩
                  · rw [if_neg c10] at H
                    exact absurd H (by simp)
                · rw [if_neg c9] at H
                  exact absurd H (by simp)
              · rw [if_neg c7] at H
                exact absurd H (by simp)
            · rw [if_neg c6] at H
              have c6b0 : decide (x6_2 < (t338.length : Int)) = false := decide_eq_false c6
              clear c6
              have H' := Aside0.mk H
              clear H
              go_wp2
              repeat (go_quiet (fail); try go_wp2)
              go_roundg k2
              case measure => have := HK1.out; have := HK2.out; omega
              case rel => exact ⟨(wrap64 (x5_1 + 1)), (by first | rfl | (simp; done) | (simp [*]; done)), H', ⟨by have := HK1.out; have := HK2.out; omega⟩, ⟨by (with_reducible repeat (first | apply Kd.V_alloc | apply Kd.V_drewN | apply Kd.V_drew)); exact HO_0.out⟩, ⟨by (with_reducible repeat (first | apply Kd.R_alloc | apply Kd.R_drewN | apply Kd.R_drew)); exact HO_4.out⟩, ⟨by repeat (first | (with_reducible first | exact HB.out | apply below_alloc | apply pw_below_drewN | apply below_drew1) | exact HB.out)⟩⟩
      · rw [if_neg c4] at H
        have c4b0 : decide (x5_1 ≤ (t338.length : Int)) = false := decide_eq_false c4
        clear c4
        simp only [Option.some.injEq, Prod.mk.injEq] at H
        obtain ⟨rfl, rfl⟩ := H
        obtain ⟨Ao33, co33, eo33⟩ := Kd.R_slice HO_4.out
        subst eo33
        go_wp2
        repeat (go_quiet (fail); try go_wp2)
        go_ret2
        exact ⟨_, by first | rfl | (simp [errW_none, errW_some] <;> rfl) | (simp [*, errW_none, errW_some] <;> rfl), by first | exact Kd.S_nil _ _ _ _ _ | exact Kd.N_nil _ _ _ _ _ | exact Kd.V_nil _ _ _ _ _ | exact Kd.Q_nil _ _ _ _ _ | exact Kd.R_nil _ _ _ _ _, by repeat (first | (with_reducible first | exact HB.out | apply below_alloc | apply pw_below_drewN | apply below_drew1) | exact HB.out)⟩

end Go.Proofs.YthjgmccpbcelgaaPr
