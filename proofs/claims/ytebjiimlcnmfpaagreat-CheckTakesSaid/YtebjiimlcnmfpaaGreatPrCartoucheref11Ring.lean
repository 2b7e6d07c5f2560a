/- Contracts of Go functions, printed by a program of this session over the translation: each call answers what its Lean function says. -/
import Derived.Test.YtebjiimlcnmfpaaGreatPr0
import Derived.Test.YtebjiimlcnmfpaaGreatPrCartoucheref11Has
import Derived.Test.YtebjiimlcnmfpaaGreatB32
import Derived.Test.YtebjiimlcnmfpaaGreatPrCartoucheref11Ways
namespace Go.Proofs.YtebjiimlcnmfpaaGreatPr
open Go.RowKit Go.Proofs.YtebjiimlcnmfpaaGreatW.PrintWords Go.Proofs.YtebjiimlcnmfpaaGreatW.PrintLast Go.Proofs.YtebjiimlcnmfpaaGreatW.PrintMore
attribute [local go_sem] max2_int min2_int max_two min_two max_three min_three max_four min_four   -- for this text's walks alone
set_option linter.unusedVariables false
set_option linter.unusedSimpArgs false
/-! ### cartoucheref11_Ring: function 81 -/
mutual
def cartoucheref11_Ring.l0 : Nat → List (S80) → List Int → Int → Option ((List (S80)) × Bool)
 | 0, _, _, _ => none
 | k + 1, x0, x4, x5 => if x5 ≤ (x4.length : Int) then (cartoucheref11_Ring.l1 k x0 x4 x5 0) else (some (([] : List (S80)), false))
def cartoucheref11_Ring.l1 : Nat → List (S80) → List Int → Int → Int → Option ((List (S80)) × Bool)
 | 0, _, _, _, _ => none
 | k + 1, x0, x4, x5, x6 => if x6 < (x4.length : Int) then (if 0 ≤ x6 then ((cartoucheref11_ways.f k x0 (rd x4 x6) x5).bind fun t435 => (if 0 ≤ x5 then (if x5 < (t435.length : Int) then ((cartoucheref11_has.f k (rd_L8 t435 x5) (rd x4 x6)).bind fun t440 => (if t440 = true then (cartoucheref11_Ring.l2 k x0 t435 ([] : List (S80)) (rd x4 x6) (wrap64 (x5 - 1))) else (cartoucheref11_Ring.l1 k x0 x4 x5 (wrap64 (x6 + 1))))) else (none)) else (none))) else (none)) else (cartoucheref11_Ring.l0 k x0 x4 (wrap64 (x5 + 1)))
def cartoucheref11_Ring.l2 : Nat → List (S80) → List (List Int) → List (S80) → Int → Int → Option ((List (S80)) × Bool)
 | 0, _, _, _, _, _ => none
 | k + 1, x0, x7, x9, x10, x11 => if x11 ≥ 0 then (cartoucheref11_Ring.l3 k x0 x7 x9 x10 x11 false 0) else (some (x9, true))
def cartoucheref11_Ring.l3 : Nat → List (S80) → List (List Int) → List (S80) → Int → Int → Bool → Int → Option ((List (S80)) × Bool)
 | 0, _, _, _, _, _, _, _ => none
 | k + 1, x0, x7, x9, x10, x11, x12, x13 => if x13 < (x0.length : Int) then (cartoucheref11_Ring.j4 k x0 x7 x9 x10 x11 x12 x13 (!x12)) else (cartoucheref11_Ring.j4 k x0 x7 x9 x10 x11 x12 x13 false)
def cartoucheref11_Ring.j4 : Nat → List (S80) → List (List Int) → List (S80) → Int → Int → Bool → Int → Bool → Option ((List (S80)) × Bool)
 | 0, _, _, _, _, _, _, _, _ => none
 | k + 1, x0, x7, x9, x10, x11, x12, x13, x64 => if x64 = true then (if 0 ≤ x11 then (if x11 < (x7.length : Int) then (if 0 ≤ x13 then (if x13 < (x0.length : Int) then ((cartoucheref11_has.f k (rd_L8 x7 x11) ((rd_T80 x0 x13).f1)).bind fun t444 => (if ((rd_T80 x0 x13).f0) = x10 then (cartoucheref11_Ring.j5 k x0 x7 x9 x10 x11 x12 x13 t444) else (cartoucheref11_Ring.j5 k x0 x7 x9 x10 x11 x12 x13 false))) else (none)) else (none)) else (none)) else (none)) else (cartoucheref11_Ring.l2 k x0 x7 x9 x10 (wrap64 (x11 - 1)))
def cartoucheref11_Ring.j5 : Nat → List (S80) → List (List Int) → List (S80) → Int → Int → Bool → Int → Bool → Option ((List (S80)) × Bool)
 | 0, _, _, _, _, _, _, _, _ => none
 | k + 1, x0, x7, x9, x10, x11, x12, x13, x86 => if x86 = true then (if 0 ≤ x13 then (if x13 < (x0.length : Int) then (if x9.length < 3518437208883 then (cartoucheref11_Ring.l3 k x0 x7 (x9 ++ [(⟨(rd_T80 x0 x13).f0, (rd_T80 x0 x13).f1, (rd_T80 x0 x13).f2⟩ : S80)]) ((rd_T80 x0 x13).f1) x11 true (wrap64 (x13 + 1))) else (none)) else (none)) else (none)) else (cartoucheref11_Ring.l3 k x0 x7 x9 x10 x11 x12 (wrap64 (x13 + 1)))
end
def cartoucheref11_Ring.f (k : Nat) (l0 : List (S80)) : Option ((List (S80)) × Bool) := (cartoucheref11_starts.f l0).bind fun t431 => (cartoucheref11_Ring.l0 k l0 t431 1)
theorem cartoucheref11_Ring.mono_l : ∀ k, (∀ y0 y1 y2, LeO (cartoucheref11_Ring.l0 k y0 y1 y2) (cartoucheref11_Ring.l0 (k + 1) y0 y1 y2)) ∧ (∀ y0 y1 y2 y3, LeO (cartoucheref11_Ring.l1 k y0 y1 y2 y3) (cartoucheref11_Ring.l1 (k + 1) y0 y1 y2 y3)) ∧ (∀ y0 y1 y2 y3 y4, LeO (cartoucheref11_Ring.l2 k y0 y1 y2 y3 y4) (cartoucheref11_Ring.l2 (k + 1) y0 y1 y2 y3 y4)) ∧ (∀ y0 y1 y2 y3 y4 y5 y6, LeO (cartoucheref11_Ring.l3 k y0 y1 y2 y3 y4 y5 y6) (cartoucheref11_Ring.l3 (k + 1) y0 y1 y2 y3 y4 y5 y6)) ∧ (∀ y0 y1 y2 y3 y4 y5 y6 y7, LeO (cartoucheref11_Ring.j4 k y0 y1 y2 y3 y4 y5 y6 y7) (cartoucheref11_Ring.j4 (k + 1) y0 y1 y2 y3 y4 y5 y6 y7)) ∧ (∀ y0 y1 y2 y3 y4 y5 y6 y7, LeO (cartoucheref11_Ring.j5 k y0 y1 y2 y3 y4 y5 y6 y7) (cartoucheref11_Ring.j5 (k + 1) y0 y1 y2 y3 y4 y5 y6 y7))
 | 0 => ⟨fun _ _ _ r h => by simp [cartoucheref11_Ring.l0] at h, fun _ _ _ _ r h => by simp [cartoucheref11_Ring.l1] at h, fun _ _ _ _ _ r h => by simp [cartoucheref11_Ring.l2] at h, fun _ _ _ _ _ _ _ r h => by simp [cartoucheref11_Ring.l3] at h, fun _ _ _ _ _ _ _ _ r h => by simp [cartoucheref11_Ring.j4] at h, fun _ _ _ _ _ _ _ _ r h => by simp [cartoucheref11_Ring.j5] at h⟩
 | k + 1 => by
  obtain ⟨ih0, ih1, ih2, ih3, ih4, ih5⟩ := cartoucheref11_Ring.mono_l k
  refine ⟨?_, ?_, ?_, ?_, ?_, ?_⟩
  · intro y0 y1 y2
    unfold cartoucheref11_Ring.l0
    repeat' first
    | (with_reducible exact ih0 _ _ _)
    | (with_reducible exact ih1 _ _ _ _)
    | (with_reducible exact ih2 _ _ _ _ _)
    | (with_reducible exact ih3 _ _ _ _ _ _ _)
    | (with_reducible exact ih4 _ _ _ _ _ _ _ _)
    | (with_reducible exact ih5 _ _ _ _ _ _ _ _)
    | (with_reducible exact cartoucheref11_has.mono _ _ _)
    | (with_reducible exact cartoucheref11_ways.mono _ _ _ _)
    | (with_reducible exact LeO.refl _)
    | (with_reducible exact LeO.none _)
    | (with_reducible refine LeO.ite ?_ ?_)
    | (with_reducible refine LeO.bind ?_ (fun _ => ?_))
    | exact ih0 _ _ _
    | exact ih1 _ _ _ _
    | exact ih2 _ _ _ _ _
    | exact ih3 _ _ _ _ _ _ _
    | exact ih4 _ _ _ _ _ _ _ _
    | exact ih5 _ _ _ _ _ _ _ _
    | exact cartoucheref11_has.mono _ _ _
    | exact cartoucheref11_ways.mono _ _ _ _
    | exact LeO.none _
    | refine LeO.ite ?_ ?_
    | refine LeO.bind ?_ (fun _ => ?_)
  · intro y0 y1 y2 y3
    unfold cartoucheref11_Ring.l1
    repeat' first
    | (with_reducible exact ih0 _ _ _)
    | (with_reducible exact ih1 _ _ _ _)
    | (with_reducible exact ih2 _ _ _ _ _)
    | (with_reducible exact ih3 _ _ _ _ _ _ _)
    | (with_reducible exact ih4 _ _ _ _ _ _ _ _)
    | (with_reducible exact ih5 _ _ _ _ _ _ _ _)
    | (with_reducible exact cartoucheref11_has.mono _ _ _)
    | (with_reducible exact cartoucheref11_ways.mono _ _ _ _)
    | (with_reducible exact LeO.refl _)
    | (with_reducible exact LeO.none _)
    | (with_reducible refine LeO.ite ?_ ?_)
    | (with_reducible refine LeO.bind ?_ (fun _ => ?_))
    | exact ih0 _ _ _
    | exact ih1 _ _ _ _
    | exact ih2 _ _ _ _ _
    | exact ih3 _ _ _ _ _ _ _
    | exact ih4 _ _ _ _ _ _ _ _
    | exact ih5 _ _ _ _ _ _ _ _
    | exact cartoucheref11_has.mono _ _ _
    | exact cartoucheref11_ways.mono _ _ _ _
    | exact LeO.none _
    | refine LeO.ite ?_ ?_
    | refine LeO.bind ?_ (fun _ => ?_)
  · intro y0 y1 y2 y3 y4
    unfold cartoucheref11_Ring.l2
    repeat' first
    | (with_reducible exact ih0 _ _ _)
    | (with_reducible exact ih1 _ _ _ _)
    | (with_reducible exact ih2 _ _ _ _ _)
    | (with_reducible exact ih3 _ _ _ _ _ _ _)
    | (with_reducible exact ih4 _ _ _ _ _ _ _ _)
    | (with_reducible exact ih5 _ _ _ _ _ _ _ _)
    | (with_reducible exact cartoucheref11_has.mono _ _ _)
    | (with_reducible exact cartoucheref11_ways.mono _ _ _ _)
    | (with_reducible exact LeO.refl _)
    | (with_reducible exact LeO.none _)
    | (with_reducible refine LeO.ite ?_ ?_)
    | (with_reducible refine LeO.bind ?_ (fun _ => ?_))
    | exact ih0 _ _ _
    | exact ih1 _ _ _ _
    | exact ih2 _ _ _ _ _
    | exact ih3 _ _ _ _ _ _ _
    | exact ih4 _ _ _ _ _ _ _ _
    | exact ih5 _ _ _ _ _ _ _ _
    | exact cartoucheref11_has.mono _ _ _
    | exact cartoucheref11_ways.mono _ _ _ _
    | exact LeO.none _
    | refine LeO.ite ?_ ?_
    | refine LeO.bind ?_ (fun _ => ?_)
  · intro y0 y1 y2 y3 y4 y5 y6
    unfold cartoucheref11_Ring.l3
    repeat' first
    | (with_reducible exact ih0 _ _ _)
    | (with_reducible exact ih1 _ _ _ _)
    | (with_reducible exact ih2 _ _ _ _ _)
    | (with_reducible exact ih3 _ _ _ _ _ _ _)
    | (with_reducible exact ih4 _ _ _ _ _ _ _ _)
    | (with_reducible exact ih5 _ _ _ _ _ _ _ _)
    | (with_reducible exact cartoucheref11_has.mono _ _ _)
    | (with_reducible exact cartoucheref11_ways.mono _ _ _ _)
    | (with_reducible exact LeO.refl _)
    | (with_reducible exact LeO.none _)
    | (with_reducible refine LeO.ite ?_ ?_)
    | (with_reducible refine LeO.bind ?_ (fun _ => ?_))
    | exact ih0 _ _ _
    | exact ih1 _ _ _ _
    | exact ih2 _ _ _ _ _
    | exact ih3 _ _ _ _ _ _ _
    | exact ih4 _ _ _ _ _ _ _ _
    | exact ih5 _ _ _ _ _ _ _ _
    | exact cartoucheref11_has.mono _ _ _
    | exact cartoucheref11_ways.mono _ _ _ _
    | exact LeO.none _
    | refine LeO.ite ?_ ?_
    | refine LeO.bind ?_ (fun _ => ?_)
  · intro y0 y1 y2 y3 y4 y5 y6 y7
    unfold cartoucheref11_Ring.j4
    repeat' first
    | (with_reducible exact ih0 _ _ _)
    | (with_reducible exact ih1 _ _ _ _)
    | (with_reducible exact ih2 _ _ _ _ _)
    | (with_reducible exact ih3 _ _ _ _ _ _ _)
    | (with_reducible exact ih4 _ _ _ _ _ _ _ _)
    | (with_reducible exact ih5 _ _ _ _ _ _ _ _)
    | (with_reducible exact cartoucheref11_has.mono _ _ _)
    | (with_reducible exact cartoucheref11_ways.mono _ _ _ _)
    | (with_reducible exact LeO.refl _)
    | (with_reducible exact LeO.none _)
    | (with_reducible refine LeO.ite ?_ ?_)
    | (with_reducible refine LeO.bind ?_ (fun _ => ?_))
    | exact ih0 _ _ _
    | exact ih1 _ _ _ _
    | exact ih2 _ _ _ _ _
    | exact ih3 _ _ _ _ _ _ _
    | exact ih4 _ _ _ _ _ _ _ _
    | exact ih5 _ _ _ _ _ _ _ _
    | exact cartoucheref11_has.mono _ _ _
    | exact cartoucheref11_ways.mono _ _ _ _
    | exact LeO.none _
    | refine LeO.ite ?_ ?_
    | refine LeO.bind ?_ (fun _ => ?_)
  intro y0 y1 y2 y3 y4 y5 y6 y7
  unfold cartoucheref11_Ring.j5
  repeat' first
  | (with_reducible exact ih0 _ _ _)
  | (with_reducible exact ih1 _ _ _ _)
  | (with_reducible exact ih2 _ _ _ _ _)
  | (with_reducible exact ih3 _ _ _ _ _ _ _)
  | (with_reducible exact ih4 _ _ _ _ _ _ _ _)
  | (with_reducible exact ih5 _ _ _ _ _ _ _ _)
  | (with_reducible exact cartoucheref11_has.mono _ _ _)
  | (with_reducible exact cartoucheref11_ways.mono _ _ _ _)
  | (with_reducible exact LeO.refl _)
  | (with_reducible exact LeO.none _)
  | (with_reducible refine LeO.ite ?_ ?_)
  | (with_reducible refine LeO.bind ?_ (fun _ => ?_))
  | exact ih0 _ _ _
  | exact ih1 _ _ _ _
  | exact ih2 _ _ _ _ _
  | exact ih3 _ _ _ _ _ _ _
  | exact ih4 _ _ _ _ _ _ _ _
  | exact ih5 _ _ _ _ _ _ _ _
  | exact cartoucheref11_has.mono _ _ _
  | exact cartoucheref11_ways.mono _ _ _ _
  | exact LeO.none _
  | refine LeO.ite ?_ ?_
  | refine LeO.bind ?_ (fun _ => ?_)
theorem cartoucheref11_Ring.mono : ∀ a0 k, LeO (cartoucheref11_Ring.f k a0) (cartoucheref11_Ring.f (k + 1) a0) := by
 intro a0 k
 obtain ⟨ih0, ih1, ih2, ih3, ih4, ih5⟩ := cartoucheref11_Ring.mono_l k
 unfold cartoucheref11_Ring.f
 repeat' first
  | (with_reducible exact ih0 _ _ _)
  | (with_reducible exact ih1 _ _ _ _)
  | (with_reducible exact ih2 _ _ _ _ _)
  | (with_reducible exact ih3 _ _ _ _ _ _ _)
  | (with_reducible exact ih4 _ _ _ _ _ _ _ _)
  | (with_reducible exact ih5 _ _ _ _ _ _ _ _)
  | (with_reducible exact cartoucheref11_has.mono _ _ _)
  | (with_reducible exact cartoucheref11_ways.mono _ _ _ _)
  | (with_reducible exact LeO.refl _)
  | (with_reducible exact LeO.none _)
  | (with_reducible refine LeO.ite ?_ ?_)
  | (with_reducible refine LeO.bind ?_ (fun _ => ?_))
  | exact ih0 _ _ _
  | exact ih1 _ _ _ _
  | exact ih2 _ _ _ _ _
  | exact ih3 _ _ _ _ _ _ _
  | exact ih4 _ _ _ _ _ _ _ _
  | exact ih5 _ _ _ _ _ _ _ _
  | exact cartoucheref11_has.mono _ _ _
  | exact cartoucheref11_ways.mono _ _ _ _
  | exact LeO.none _
  | refine LeO.ite ?_ ?_
  | refine LeO.bind ?_ (fun _ => ?_)
set_option maxHeartbeats 8000000 in
set_option maxRecDepth 100000 in
theorem cartoucheref11_Ring.calls (k : Nat) (P0_ : Nat → Prop) (A0 : Option Addr) (c0 : Nat) (l0 : List (S80)) (r1 : List (S80)) (r2 : Bool) (w : World) (hs0 : Kd.V k80 80 w w.heap.size (fun k_ => P0_ k_) (.slice A0 l0.length c0) l0) (h : cartoucheref11_Ring.f k l0 = some (r1, r2)) :
 Calls Tryz.prog 81 #[.slice A0 l0.length c0] w fun e w' => ∃ v0_ : Value, e = .returned (.tuple #[v0_, .bool r2]) ∧ Kd.N k80 80 w' w.heap.size (fun k_ => (P0_ k_ ∨ w.heap.size ≤ k_)) v0_ r1 ∧ Below w.heap.size w w' := by
 have hu80 := Tryz.underlying80
 have HO0 := Aside0.mk (show Kd.V k80 80 w w.heap.size (fun k_ => (P0_ k_ ∨ w.heap.size ≤ k_)) (.slice A0 l0.length c0) l0 from Kd.V_mono hs0 (fun k_ hk => .inl hk))
 have HB := Aside0.mk (Below.refl w.heap.size w)
 have H : ((cartoucheref11_starts.f l0).bind fun t431 => (cartoucheref11_Ring.l0 k l0 t431 1)) = some (r1, r2) := h
 clear h
 replace H := Option.bind_eq_some_iff.mp H
 obtain ⟨t431, A20, H⟩ := H
 replace H : (cartoucheref11_Ring.l0 k l0 t431 1) = some (r1, r2) := H
 have A2 := Aside0.mk A20
 clear A20
 have H' := Aside0.mk H
 clear H
 go_enter Tryz.func81, Tryz.ntmps81
 go_wp2_with (first | (go_at_call 114; (with_reducible refine (cartoucheref11_starts.calls _ _ l0 t431 _ ?side1 ?side2 A2.out).mono ?_); (case side1 => repeat (first | exact (Kd.V_reads' HO0.out).2.2 | (with_reducible refine Kd.C_alloc ?_ _) | (with_reducible refine Kd.C_drewN ?_ _) | (with_reducible refine Kd.C_drew ?_))); (case side2 => exact (Kd.V_reads' HO0.out).2.1); rintro e w3 ⟨v432, rfl, ho0, hb⟩; have n0_ := Aside0.mk (Kd.V_elder' (by (with_reducible repeat (first | apply Kd.V_alloc | apply Kd.V_drewN | apply Kd.V_drew)); exact HO0.out) (Kd.R_base ho0) hb); have n1_ := Aside0.mk (Kd.R_lower (Kd.R_newM (M := fun k_ => (w.heap.size ≤ k_)) ho0 (below_size (by repeat (first | (with_reducible first | exact HB.out | apply below_alloc | apply pw_below_drewN | apply below_drew1) | exact HB.out))) (fun k_ h_ => h_)) (below_size (by repeat (first | (with_reducible first | exact HB.out | apply below_alloc | apply pw_below_drewN | apply below_drew1) | exact HB.out)))); have n2_ := Aside0.mk (below_step (by repeat (first | (with_reducible first | exact HB.out | apply below_alloc | apply pw_below_drewN | apply below_drew1) | exact HB.out)) hb); clear HO0; clear HB; have HO0 := n0_; have HO433 := n1_; have HB := n2_; clear n0_ n1_ n2_; (try clear hb); (try clear hb2); (try clear hk); (try clear hi); (try clear ho0)))
 go_loopg [5] k (fun kq v5 w' => ∃ (x5_1 : Int), v5 = .int .i64 x5_1 ∧ Aside0 (cartoucheref11_Ring.l0 kq l0 t431 x5_1 = some (r1, r2)) ∧ Aside0 (kq ≤ k) ∧ Aside0 (Kd.V k80 80 w' w.heap.size (fun k_ => (P0_ k_ ∨ w.heap.size ≤ k_) ∧ some k_ ≠ (v432 : Value).ownBlock) (.slice A0 l0.length c0) l0) ∧ Aside0 (Kd.R (Kd.int .i64) 3 w' w.heap.size (fun k_ => (w.heap.size ≤ k_)) v432 t431) ∧ Aside0 (Below w.heap.size w w'))
 case atStart => exact ⟨(1), (by first | rfl | (simp; done) | (simp [*]; done)), H', ⟨Nat.le_refl _⟩, ⟨by (with_reducible repeat (first | apply Kd.V_alloc | apply Kd.V_drewN | apply Kd.V_drew)); exact HO0.out⟩, ⟨by (with_reducible repeat (first | apply Kd.R_alloc | apply Kd.R_drewN | apply Kd.R_drew)); exact Kd.R_mono HO433.out (fun _ hk => hk.1)⟩, ⟨by repeat (first | (with_reducible first | exact HB.out | apply below_alloc | apply pw_below_drewN | apply below_drew1) | exact HB.out)⟩⟩
 case round =>
  clear H'
  (try clear p2)
  obtain ⟨x5_1, rfl, HA, HK1, HO_0, HO_4, HB⟩ := hrel
  cases gk with
  | zero => exact absurd HA.out (by simp [cartoucheref11_Ring.l0])
  | succ k1 =>
   have H := HA.out
   clear HA
   simp only [cartoucheref11_Ring.l0] at H
   by_cases c4 : x5_1 ≤ (t431.length : Int)
   · rw [if_pos c4] at H
     have c4b0 : decide (x5_1 ≤ (t431.length : Int)) = true := decide_eq_true c4
     clear c4
     have H' := Aside0.mk H
     clear H
     obtain ⟨Ao5, co5, eo5⟩ := Kd.R_slice HO_4.out
     subst eo5
     go_wp2
     repeat (go_quiet (fail); try go_wp2)
     go_loopg [6] k1 (fun kq v6 w' => ∃ (x6_2 : Int), v6 = .int .i64 x6_2 ∧ Aside0 (cartoucheref11_Ring.l1 kq l0 t431 x5_1 x6_2 = some (r1, r2)) ∧ Aside0 (kq ≤ k1) ∧ Aside0 (Kd.V k80 80 w' w.heap.size (fun k_ => (P0_ k_ ∨ w.heap.size ≤ k_) ∧ some k_ ≠ ((.slice Ao5 t431.length co5) : Value).ownBlock) (.slice A0 l0.length c0) l0) ∧ Aside0 (Kd.R (Kd.int .i64) 3 w' w.heap.size (fun k_ => (w.heap.size ≤ k_)) (.slice Ao5 t431.length co5) t431) ∧ Aside0 (Below w.heap.size w w'))
     case atStart => exact ⟨(0), (by first | rfl | (simp; done) | (simp [*]; done)), H', ⟨Nat.le_refl _⟩, ⟨by (with_reducible repeat (first | apply Kd.V_alloc | apply Kd.V_drewN | apply Kd.V_drew)); exact HO_0.out⟩, ⟨by (with_reducible repeat (first | apply Kd.R_alloc | apply Kd.R_drewN | apply Kd.R_drew)); exact HO_4.out⟩, ⟨by repeat (first | (with_reducible first | exact HB.out | apply below_alloc | apply pw_below_drewN | apply below_drew1) | exact HB.out)⟩⟩
     case round =>
      clear H'
      (try clear p2);(try clear c4);(try clear c4b0);(try clear p2)
      obtain ⟨x6_2, rfl, HA, HK2, HO_0, HO_4, HB⟩ := hrel
      cases gk with
      | zero => exact absurd HA.out (by simp [cartoucheref11_Ring.l1])
      | succ k2 =>
       have H := HA.out
       clear HA
       simp only [cartoucheref11_Ring.l1] at H
       by_cases c6 : x6_2 < (t431.length : Int)
       · rw [if_pos c6] at H
         have c6b0 : decide (x6_2 < (t431.length : Int)) = true := decide_eq_true c6
         clear c6
         by_cases c7 : 0 ≤ x6_2
         · rw [if_pos c7] at H
           have c7b0 : decide (0 ≤ x6_2) = true := decide_eq_true c7
           clear c7
           replace H := Option.bind_eq_some_iff.mp H
           obtain ⟨t435, A80, H⟩ := H
           replace H : (if 0 ≤ x5_1 then (if x5_1 < (t435.length : Int) then ((cartoucheref11_has.f k2 (rd_L8 t435 x5_1) (rd t431 x6_2)).bind fun t440 => (if t440 = true then (cartoucheref11_Ring.l2 k2 l0 t435 ([] : List (S80)) (rd t431 x6_2) (wrap64 (x5_1 - 1))) else (cartoucheref11_Ring.l1 k2 l0 t431 x5_1 (wrap64 (x6_2 + 1))))) else (none)) else (none)) = some (r1, r2) := H
           have A8 := Aside0.mk A80
           clear A80
           by_cases c9 : 0 ≤ x5_1
           · rw [if_pos c9] at H
             have c9b0 : decide (0 ≤ x5_1) = true := decide_eq_true c9
             clear c9
             by_cases c10 : x5_1 < (t435.length : Int)
             · rw [if_pos c10] at H
               have c10b0 : decide (x5_1 < (t435.length : Int)) = true := decide_eq_true c10
               clear c10
               replace H := Option.bind_eq_some_iff.mp H
               obtain ⟨t440, A110, H⟩ := H
               replace H : (if t440 = true then (cartoucheref11_Ring.l2 k2 l0 t435 ([] : List (S80)) (rd t431 x6_2) (wrap64 (x5_1 - 1))) else (cartoucheref11_Ring.l1 k2 l0 t431 x5_1 (wrap64 (x6_2 + 1)))) = some (r1, r2) := H
               have A11 := Aside0.mk A110
               clear A110
               by_cases c12 : t440 = true
               · subst c12
                 have H1 : (cartoucheref11_Ring.l2 k2 l0 t435 ([] : List (S80)) (rd t431 x6_2) (wrap64 (x5_1 - 1))) = some (r1, r2) := by rw [if_pos rfl] at H; exact H
                 clear H
                 have H := H1
                 clear H1
                 have H' := Aside0.mk H
                 clear H
                 have p434 : 0 ≤ (x6_2 : Int) := of_decide_eq_true (by first | (with_reducible assumption) | assumption)
                 have q434 : x6_2 < (t431.length : Int) := of_decide_eq_true (by first | (with_reducible assumption) | assumption)
                 obtain ⟨ad434, e434, hx434_0⟩ := Kd.at_int (Kd.R_reads' HO_4.out).2.2 x6_2 p434 q434
                 cases e434
                 replace p434 := eq_true p434
                 replace q434 := eq_true q434
                 go_wp2_with (first | (go_at_call 115; (with_reducible refine (cartoucheref11_ways.calls k2 _ _ l0 (rd t431 x6_2) x5_1 t435 _ ?side1 ?side2 A8.out).mono ?_); (case side1 => repeat (first | exact (Kd.V_reads' HO_0.out).2.2 | (with_reducible refine Kd.C_alloc ?_ _) | (with_reducible refine Kd.C_drewN ?_ _) | (with_reducible refine Kd.C_drew ?_))); (case side2 => exact (Kd.V_reads' HO_0.out).2.1); rintro e w13 ⟨v436, rfl, ho0, hb⟩; have n0_ := Aside0.mk (Kd.V_elder' (by (with_reducible repeat (first | apply Kd.V_alloc | apply Kd.V_drewN | apply Kd.V_drew)); exact HO_0.out) (Kd.N_base ho0) hb); have n1_ := Aside0.mk (Kd.R_below (by (with_reducible repeat (first | apply Kd.R_alloc | apply Kd.R_drewN | apply Kd.R_drew)); exact HO_4.out) hb); have n2_ := Aside0.mk (Kd.N_lower (Kd.N_mono (ok' := fun k_ => (P0_ k_ ∨ w.heap.size ≤ k_) ∧ some k_ ≠ (.slice (some ad434) t431.length co5 : Value).ownBlock) ho0 (fun k_ hk_ => ⟨(.inr (Nat.le_trans (below_size (by repeat (first | (with_reducible first | exact HB.out | apply below_alloc | apply pw_below_drewN | apply below_drew1) | exact HB.out))) hk_)), (Kd.fresh' (Kd.R_lt (by (with_reducible repeat (first | apply Kd.R_alloc | apply Kd.R_drewN | apply Kd.R_drew)); exact HO_4.out)) k_ hk_)⟩)) (below_size (by repeat (first | (with_reducible first | exact HB.out | apply below_alloc | apply pw_below_drewN | apply below_drew1) | exact HB.out)))); have n3_ := Aside0.mk (below_step (by repeat (first | (with_reducible first | exact HB.out | apply below_alloc | apply pw_below_drewN | apply below_drew1) | exact HB.out)) hb); clear HO_0; clear HO_4; clear HB; have HO_0 := n0_; have HO_4 := n1_; have HO437 := n2_; have HB := n3_; clear n0_ n1_ n2_ n3_; (try clear hb); (try clear hb2); (try clear hk); (try clear hi); (try clear ho0); obtain ⟨Ao14, co14, eo14⟩ := Kd.N_slice HO437.out; subst eo14; have p438 : 0 ≤ (x5_1 : Int) := of_decide_eq_true (by first | (with_reducible assumption) | assumption); have q438 : x5_1 < (t435.length : Int) := of_decide_eq_true (by first | (with_reducible assumption) | assumption); obtain ⟨ad438, A438_0, c438_0, e438, hx438_0, hl438_0, hi438_0⟩ := at_L8 (Kd.N_reads' HO437.out).2.2 x5_1 p438 q438; cases e438; obtain ⟨ce438, hce438, hMe438, hcc438⟩ := Kd.N_get HO437.out [] x5_1 p438 (by first | exact q438 | exact of_decide_eq_true (by first | (with_reducible assumption) | assumption) | (have e_ := (Kd.N_reads' HO437.out).1; omega)); obtain ⟨ua438_0, uc438_0, rfl, ul438_0, ge438_0⟩ := Kd.FK_slice_open hMe438; have hv438_0 := hcc438 0 _ rfl; rw [Nat.add_zero, show ((Kd.slice 3 (Kd.int .i64))).sz = 1 from rfl, Nat.mul_one] at hv438_0; replace hv438_0 := Option.some.inj (hv438_0.symm.trans hx438_0); injection hv438_0 with hva_ hvn_ hvc_; rw [hva_] at ge438_0; rw [hvc_] at ul438_0; have HL438_0 := Aside0.mk (show Kd.V (Kd.int .i64) 3 _ w.heap.size _ _ (rd_L8 t435 x5_1) from Kd.V_mk ul438_0 ge438_0); clear hva_ hvn_ hvc_ ge438_0 ul438_0; clear hcc438 hce438; have HR438_0 := Aside0.mk hi438_0; have HC438_0 := Aside0.mk hl438_0; clear hi438_0 hl438_0; replace p438 := eq_true p438; replace q438 := eq_true q438; have p439 : 0 ≤ (x6_2 : Int) := of_decide_eq_true (by first | (with_reducible assumption) | assumption); have q439 : x6_2 < (t431.length : Int) := of_decide_eq_true (by first | (with_reducible assumption) | assumption); obtain ⟨ad439, e439, hx439_0⟩ := Kd.at_int (Kd.R_reads' HO_4.out).2.2 x6_2 p439 q439; obtain rfl : ad434 = ad439 := (by injection e439); replace p439 := eq_true p439; replace q439 := eq_true q439))
                 repeat (go_quiet (first | (go_at_call 112; (with_reducible refine (cartoucheref11_has.calls k2 _ _ (rd_L8 t435 x5_1) (rd t431 x6_2) true _ ?side1 ?side2 A11.out).mono ?_); (case side1 => repeat (first | exact (by repeat (first | (with_reducible exact HR438_0.out) | (with_reducible refine Kd.C_alloc ?_ _) | (with_reducible refine Kd.C_drewN ?_ _) | (with_reducible refine Kd.C_drew ?_) | exact HR438_0.out)) | (with_reducible refine Kd.C_alloc ?_ _) | (with_reducible refine Kd.C_drewN ?_ _) | (with_reducible refine Kd.C_drew ?_))); (case side2 => exact HC438_0.out); rintro e w' ⟨rfl, ⟨nd, rfl⟩⟩; (try first | exact ⟨rfl, _, World.drewN_drewN _ _ _⟩ | exact ⟨rfl, _, Eq.trans (World.drewN_drewN _ _ _) (congrArg (World.drewN _) (Nat.add_assoc _ _ _))⟩); have p441 : 0 ≤ (x6_2 : Int) := of_decide_eq_true (by first | (with_reducible assumption) | assumption); have q441 : x6_2 < (t431.length : Int) := of_decide_eq_true (by first | (with_reducible assumption) | assumption); obtain ⟨ad441, e441, hx441_0⟩ := Kd.at_int (Kd.R_reads' HO_4.out).2.2 x6_2 p441 q441; obtain rfl : ad434 = ad441 := (by injection e441); replace p441 := eq_true p441; replace q441 := eq_true q441)); try go_wp2_with (first | (go_at_call 112; (with_reducible refine (cartoucheref11_has.calls k2 _ _ (rd_L8 t435 x5_1) (rd t431 x6_2) true _ ?side1 ?side2 A11.out).mono ?_); (case side1 => repeat (first | exact (by repeat (first | (with_reducible exact HR438_0.out) | (with_reducible refine Kd.C_alloc ?_ _) | (with_reducible refine Kd.C_drewN ?_ _) | (with_reducible refine Kd.C_drew ?_) | exact HR438_0.out)) | (with_reducible refine Kd.C_alloc ?_ _) | (with_reducible refine Kd.C_drewN ?_ _) | (with_reducible refine Kd.C_drew ?_))); (case side2 => exact HC438_0.out); rintro e w' ⟨rfl, ⟨nd, rfl⟩⟩; (try first | exact ⟨rfl, _, World.drewN_drewN _ _ _⟩ | exact ⟨rfl, _, Eq.trans (World.drewN_drewN _ _ _) (congrArg (World.drewN _) (Nat.add_assoc _ _ _))⟩); have p441 : 0 ≤ (x6_2 : Int) := of_decide_eq_true (by first | (with_reducible assumption) | assumption); have q441 : x6_2 < (t431.length : Int) := of_decide_eq_true (by first | (with_reducible assumption) | assumption); obtain ⟨ad441, e441, hx441_0⟩ := Kd.at_int (Kd.R_reads' HO_4.out).2.2 x6_2 p441 q441; obtain rfl : ad434 = ad441 := (by injection e441); replace p441 := eq_true p441; replace q441 := eq_true q441)))
                 go_loopg [9, 10, 11] k2 (fun kq v9 v10 v11 w' => ∃ (x9_3 : List (S80)) (x10_3 : Int) (x11_3 : Int), v10 = .int .i64 x10_3 ∧ v11 = .int .i64 x11_3 ∧ Aside0 (cartoucheref11_Ring.l2 kq l0 t435 x9_3 x10_3 x11_3 = some (r1, r2)) ∧ Aside0 (kq ≤ k2) ∧ Aside0 (Kd.V k80 80 w' w.heap.size (fun k_ => (P0_ k_ ∨ w.heap.size ≤ k_) ∧ some k_ ≠ ((.slice (some ad438) t435.length co14) : Value).ownBlock ∧ some k_ ≠ (v9 : Value).ownBlock) (.slice A0 l0.length c0) l0) ∧ Aside0 (Kd.N (Kd.slice 3 (Kd.int .i64)) 31 w' w.heap.size (fun k_ => (P0_ k_ ∨ w.heap.size ≤ k_) ∧ some k_ ≠ (v9 : Value).ownBlock) (.slice (some ad438) t435.length co14) t435) ∧ Aside0 (Kd.N k80 80 w' w.heap.size (fun k_ => (P0_ k_ ∨ w.heap.size ≤ k_) ∧ some k_ ≠ ((.slice (some ad438) t435.length co14) : Value).ownBlock) v9 x9_3) ∧ Aside0 (Below w.heap.size w w'))
                 case atStart => exact ⟨(([] : List (S80))), (rd t431 x6_2), (wrap64 (x5_1 - 1)), (by first | rfl | (simp; done) | (simp [*]; done)), (by first | rfl | (simp; done) | (simp [*]; done)), H', ⟨Nat.le_refl _⟩, ⟨by (with_reducible repeat (first | apply Kd.V_alloc | apply Kd.V_drewN | apply Kd.V_drew)); exact Kd.V_mono HO_0.out (fun _ hk => ⟨hk.1.1, ⟨hk.2, (by simp [Value.ownBlock])⟩⟩)⟩, ⟨by (with_reducible repeat (first | apply Kd.N_alloc | apply Kd.N_drewN | apply Kd.N_drew)); exact Kd.N_mono HO437.out (fun _ hk => ⟨hk.1, (by simp [Value.ownBlock])⟩)⟩, ⟨by first | exact Kd.S_nil _ _ _ _ _ | exact Kd.N_nil _ _ _ _ _ | exact Kd.V_nil _ _ _ _ _ | exact Kd.Q_nil _ _ _ _ _ | exact Kd.R_nil _ _ _ _ _⟩, ⟨by repeat (first | (with_reducible first | exact HB.out | apply below_alloc | apply pw_below_drewN | apply below_drew1) | exact HB.out)⟩⟩
                 case round =>
                  clear H'
                  (try clear c1);(try clear p2);(try clear c4);(try clear c4b0);(try clear p4);(try clear q4);(try clear hx4);(try clear c6);(try clear c6b0);(try clear p6);(try clear c7);(try clear c7b0);(try clear c8);(try clear c9);(try clear c9b0);(try clear c10);(try clear c10b0);(try clear c12);(try clear hx434_0);(try clear hx438_0);(try clear hx439_0);(try clear hx441_0);(try clear p2);(try clear p434);(try clear p438);(try clear p439);(try clear p441);(try clear q434);(try clear q438);(try clear q439);(try clear q441)
                  obtain ⟨x9_3, x10_3, x11_3, rfl, rfl, HA, HK3, HO_0, HO_7, HO_9, HB⟩ := hrel
                  cases gk with
                  | zero => exact absurd HA.out (by simp [cartoucheref11_Ring.l2])
                  | succ k3 =>
                   have H := HA.out
                   clear HA
                   simp only [cartoucheref11_Ring.l2] at H
                   by_cases c15 : x11_3 ≥ 0
                   · rw [if_pos c15] at H
                     have c15b0 : decide (0 ≤ x11_3) = true := decide_eq_true c15
                     clear c15
                     have H' := Aside0.mk H
                     clear H
                     go_wp2
                     repeat (go_quiet (fail); try go_wp2)
                     go_loopg [9, 10, 12, 13] k3 (fun kq v9 v10 v12 v13 w' => ∃ (x9_4 : List (S80)) (x10_4 : Int) (x12_4 : Bool) (x13_4 : Int), v10 = .int .i64 x10_4 ∧ v12 = .bool x12_4 ∧ v13 = .int .i64 x13_4 ∧ Aside0 (cartoucheref11_Ring.l3 kq l0 t435 x9_4 x10_4 x11_3 x12_4 x13_4 = some (r1, r2)) ∧ Aside0 (kq ≤ k3) ∧ Aside0 (Kd.V k80 80 w' w.heap.size (fun k_ => (P0_ k_ ∨ w.heap.size ≤ k_) ∧ some k_ ≠ ((.slice (some ad438) t435.length co14) : Value).ownBlock ∧ some k_ ≠ (v9 : Value).ownBlock) (.slice A0 l0.length c0) l0) ∧ Aside0 (Kd.N (Kd.slice 3 (Kd.int .i64)) 31 w' w.heap.size (fun k_ => (P0_ k_ ∨ w.heap.size ≤ k_) ∧ some k_ ≠ (v9 : Value).ownBlock) (.slice (some ad438) t435.length co14) t435) ∧ Aside0 (Kd.N k80 80 w' w.heap.size (fun k_ => (P0_ k_ ∨ w.heap.size ≤ k_) ∧ some k_ ≠ ((.slice (some ad438) t435.length co14) : Value).ownBlock) v9 x9_4) ∧ Aside0 (Below w.heap.size w w'))
                     case atStart => exact ⟨(x9_3), (x10_3), (false), (0), (by first | rfl | (simp; done) | (simp [*]; done)), (by first | rfl | (simp; done) | (simp [*]; done)), (by first | rfl | (simp; done) | (simp [*]; done)), H', ⟨Nat.le_refl _⟩, ⟨by (with_reducible repeat (first | apply Kd.V_alloc | apply Kd.V_drewN | apply Kd.V_drew)); exact HO_0.out⟩, ⟨by (with_reducible repeat (first | apply Kd.N_alloc | apply Kd.N_drewN | apply Kd.N_drew)); exact HO_7.out⟩, ⟨by (with_reducible repeat (first | apply Kd.N_alloc | apply Kd.N_drewN | apply Kd.N_drew)); exact HO_9.out⟩, ⟨by repeat (first | (with_reducible first | exact HB.out | apply below_alloc | apply pw_below_drewN | apply below_drew1) | exact HB.out)⟩⟩
                     case round =>
                      clear H'
                      (try clear c1);(try clear p2);(try clear c4);(try clear c4b0);(try clear p4);(try clear q4);(try clear hx4);(try clear c6);(try clear c6b0);(try clear p6);(try clear c7);(try clear c7b0);(try clear c8);(try clear c9);(try clear c9b0);(try clear c10);(try clear c10b0);(try clear c12);(try clear c15);(try clear c15b0);(try clear hx434_0);(try clear hx438_0);(try clear hx439_0);(try clear hx441_0);(try clear p2);(try clear p4);(try clear p434);(try clear p438);(try clear p439);(try clear p441);(try clear p6);(try clear q4);(try clear q434);(try clear q438);(try clear q439);(try clear q441)
                      obtain ⟨x9_4, x10_4, x12_4, x13_4, rfl, rfl, rfl, HA, HK4, HO_0, HO_7, HO_9, HB⟩ := hrel
                      cases gk with
                      | zero => exact absurd HA.out (by simp [cartoucheref11_Ring.l3])
                      | succ k4 =>
                       have H := HA.out
                       clear HA
                       simp only [cartoucheref11_Ring.l3] at H
                       have HC16 := Aside0.mk H
                       clear H
                       go_upto_region 18 with (fail)
                       repeat (go_quiet (fail); go_upto_region 18 with (fail))
                       go_cut [64] (fun v64 wc => ∃ (kq : Nat) (x64_15 : Bool), v64 = .bool x64_15 ∧ Aside0 (cartoucheref11_Ring.j4 kq l0 t435 x9_4 x10_4 x11_3 x12_4 x13_4 x64_15 = some (r1, r2)) ∧ Aside0 (kq ≤ k4) ∧ Aside0 (Kd.V k80 80 wc w.heap.size (fun k_ => (P0_ k_ ∨ w.heap.size ≤ k_) ∧ some k_ ≠ ((.slice (some ad438) t435.length co14) : Value).ownBlock ∧ some k_ ≠ (u9 : Value).ownBlock) (.slice A0 l0.length c0) l0) ∧ Aside0 (Kd.N (Kd.slice 3 (Kd.int .i64)) 31 wc w.heap.size (fun k_ => (P0_ k_ ∨ w.heap.size ≤ k_) ∧ some k_ ≠ (u9 : Value).ownBlock) (.slice (some ad438) t435.length co14) t435) ∧ Aside0 (Kd.N k80 80 wc w.heap.size (fun k_ => (P0_ k_ ∨ w.heap.size ≤ k_) ∧ some k_ ≠ ((.slice (some ad438) t435.length co14) : Value).ownBlock) u9 x9_4) ∧ Aside0 (Below w.heap.size w wc))
                       case first =>
                        have H := HC16.out
                        clear HC16
                        by_cases c17 : x13_4 < (l0.length : Int)
                        · rw [if_pos c17] at H
                          have c17b0 : decide (x13_4 < (l0.length : Int)) = true := decide_eq_true c17
                          clear c17
                          (first | rw [c17b0] | (simp only [i64_w, i32_w]; rw [c17b0]) | skip)
                          have H' := Aside0.mk H
                          clear H
                          go_wp2
                          repeat (go_quiet (fail); try go_wp2)
                          go_meet
                          case rel => exact ⟨_, (!x12_4), (by first | rfl | (simp; done) | (simp [*]; done)), H', ⟨by have := HK1.out; have := HK2.out; have := HK3.out; have := HK4.out; first | omega | exact Nat.le_refl _⟩, ⟨by (with_reducible repeat (first | apply Kd.V_alloc | apply Kd.V_drewN | apply Kd.V_drew)); exact HO_0.out⟩, ⟨by (with_reducible repeat (first | apply Kd.N_alloc | apply Kd.N_drewN | apply Kd.N_drew)); exact HO_7.out⟩, ⟨by (with_reducible repeat (first | apply Kd.N_alloc | apply Kd.N_drewN | apply Kd.N_drew)); exact HO_9.out⟩, ⟨by repeat (first | (with_reducible first | exact HB.out | apply below_alloc | apply pw_below_drewN | apply below_drew1) | exact HB.out)⟩⟩
                        rw [if_neg c17] at H
                        have c17b0 : decide (x13_4 < (l0.length : Int)) = false := decide_eq_false c17
                        clear c17
                        (first | rw [c17b0] | (simp only [i64_w, i32_w]; rw [c17b0]) | skip)
                        have H' := Aside0.mk H
                        clear H
                        go_wp2
                        repeat (go_quiet (fail); try go_wp2)
                        go_meet
                        case rel => exact ⟨_, (false), (by first | rfl | (simp; done) | (simp [*]; done)), H', ⟨by have := HK1.out; have := HK2.out; have := HK3.out; have := HK4.out; first | omega | exact Nat.le_refl _⟩, ⟨by (with_reducible repeat (first | apply Kd.V_alloc | apply Kd.V_drewN | apply Kd.V_drew)); exact HO_0.out⟩, ⟨by (with_reducible repeat (first | apply Kd.N_alloc | apply Kd.N_drewN | apply Kd.N_drew)); exact HO_7.out⟩, ⟨by (with_reducible repeat (first | apply Kd.N_alloc | apply Kd.N_drewN | apply Kd.N_drew)); exact HO_9.out⟩, ⟨by repeat (first | (with_reducible first | exact HB.out | apply below_alloc | apply pw_below_drewN | apply below_drew1) | exact HB.out)⟩⟩
                       case rest =>
                        clear HC16
                        (try clear c1);(try clear p2);(try clear c4);(try clear c4b0);(try clear p4);(try clear q4);(try clear hx4);(try clear c6);(try clear c6b0);(try clear p6);(try clear c7);(try clear c7b0);(try clear c8);(try clear c9);(try clear c9b0);(try clear c10);(try clear c10b0);(try clear c12);(try clear c15);(try clear c15b0);(try clear c17);(try clear c17b0);(try clear hx434_0);(try clear hx438_0);(try clear hx439_0);(try clear hx441_0);(try clear p2);(try clear p4);(try clear p434);(try clear p438);(try clear p439);(try clear p441);(try clear p6);(try clear q4);(try clear q434);(try clear q438);(try clear q439);(try clear q441)
                        obtain ⟨kq, x64_15, rfl, HA, HJ15, HO_0, HO_7, HO_9, HB⟩ := hcut
                        cases kq with
                        | zero => exact absurd HA.out (by simp [cartoucheref11_Ring.j4])
                        | succ kj15 =>
                         have H := HA.out
                         clear HA
                         simp only [cartoucheref11_Ring.j4] at H
                         by_cases c18 : x64_15 = true
                         · subst c18
                           have H1 : (if 0 ≤ x11_3 then (if x11_3 < (t435.length : Int) then (if 0 ≤ x13_4 then (if x13_4 < (l0.length : Int) then ((cartoucheref11_has.f kj15 (rd_L8 t435 x11_3) ((rd_T80 l0 x13_4).f1)).bind fun t444 => (if ((rd_T80 l0 x13_4).f0) = x10_4 then (cartoucheref11_Ring.j5 kj15 l0 t435 x9_4 x10_4 x11_3 x12_4 x13_4 t444) else (cartoucheref11_Ring.j5 kj15 l0 t435 x9_4 x10_4 x11_3 x12_4 x13_4 false))) else (none)) else (none)) else (none)) else (none)) = some (r1, r2) := by rw [if_pos rfl] at H; exact H
                           clear H
                           have H := H1
                           clear H1
                           by_cases c19 : 0 ≤ x11_3
                           · rw [if_pos c19] at H
                             have c19b0 : decide (0 ≤ x11_3) = true := decide_eq_true c19
                             clear c19
                             by_cases c20 : x11_3 < (t435.length : Int)
                             · rw [if_pos c20] at H
                               have c20b0 : decide (x11_3 < (t435.length : Int)) = true := decide_eq_true c20
                               clear c20
                               by_cases c21 : 0 ≤ x13_4
                               · rw [if_pos c21] at H
                                 have c21b0 : decide (0 ≤ x13_4) = true := decide_eq_true c21
                                 clear c21
                                 by_cases c22 : x13_4 < (l0.length : Int)
                                 · rw [if_pos c22] at H
                                   have c22b0 : decide (x13_4 < (l0.length : Int)) = true := decide_eq_true c22
                                   clear c22
                                   replace H := Option.bind_eq_some_iff.mp H
                                   obtain ⟨t444, A230, H⟩ := H
                                   replace H : (if ((rd_T80 l0 x13_4).f0) = x10_4 then (cartoucheref11_Ring.j5 kj15 l0 t435 x9_4 x10_4 x11_3 x12_4 x13_4 t444) else (cartoucheref11_Ring.j5 kj15 l0 t435 x9_4 x10_4 x11_3 x12_4 x13_4 false)) = some (r1, r2) := H
                                   have A23 := Aside0.mk A230
                                   clear A230
                                   have HC24 := Aside0.mk H
                                   clear H
                                   have p442 : 0 ≤ (x11_3 : Int) := of_decide_eq_true (by first | (with_reducible assumption) | assumption)
                                   have q442 : x11_3 < (t435.length : Int) := of_decide_eq_true (by first | (with_reducible assumption) | assumption)
                                   obtain ⟨ad442, A442_0, c442_0, e442, hx442_0, hl442_0, hi442_0⟩ := at_L8 (Kd.N_reads' HO_7.out).2.2 x11_3 p442 q442
                                   obtain rfl : ad438 = ad442 := (by injection e442)
                                   obtain ⟨ce442, hce442, hMe442, hcc442⟩ := Kd.N_get HO_7.out [] x11_3 p442 (by first | exact q442 | exact of_decide_eq_true (by first | (with_reducible assumption) | assumption) | (have e_ := (Kd.N_reads' HO_7.out).1; omega))
                                   obtain ⟨ua442_0, uc442_0, rfl, ul442_0, ge442_0⟩ := Kd.FK_slice_open hMe442
                                   have hv442_0 := hcc442 0 _ rfl
                                   rw [Nat.add_zero, show ((Kd.slice 3 (Kd.int .i64))).sz = 1 from rfl, Nat.mul_one] at hv442_0
                                   replace hv442_0 := Option.some.inj (hv442_0.symm.trans hx442_0)
                                   injection hv442_0 with hva_ hvn_ hvc_
                                   rw [hva_] at ge442_0
                                   rw [hvc_] at ul442_0
                                   have HL442_0 := Aside0.mk (show Kd.V (Kd.int .i64) 3 _ w.heap.size _ _ (rd_L8 t435 x11_3) from Kd.V_mk ul442_0 ge442_0)
                                   clear hva_ hvn_ hvc_ ge442_0 ul442_0
                                   clear hcc442 hce442
                                   have HR442_0 := Aside0.mk hi442_0
                                   have HC442_0 := Aside0.mk hl442_0
                                   clear hi442_0 hl442_0
                                   replace p442 := eq_true p442
                                   replace q442 := eq_true q442
                                   have p443 : 0 ≤ (x13_4 : Int) := of_decide_eq_true (by first | (with_reducible assumption) | assumption)
                                   have q443 : x13_4 < (l0.length : Int) := of_decide_eq_true (by first | (with_reducible assumption) | assumption)
                                   obtain ⟨ad443, A443_2, c443_2, e443, hx443_0, hx443_1, hx443_2, hl443_2, hi443_2⟩ := at_T80 (Kd.V_reads' HO_0.out).2.2 x13_4 p443 q443
                                   cases e443
                                   obtain ⟨ce443, hce443, hMe443, hcc443⟩ := Kd.V_get HO_0.out z80 x13_4 p443 (by first | exact q443 | exact of_decide_eq_true (by first | (with_reducible assumption) | assumption) | (have e_ := (Kd.V_reads' HO_0.out).1; omega))
                                   obtain ⟨ua443_2, uc443_2, rfl, ul443_2, ge443_2⟩ := k80_openF hMe443
                                   have hv443_2 := hcc443 2 _ rfl
                                   rw [add_field _ _ 2 (by omega)] at hv443_2
                                   replace hv443_2 := Option.some.inj (hv443_2.symm.trans hx443_2)
                                   injection hv443_2 with hva_ hvn_ hvc_
                                   rw [hva_] at ge443_2
                                   rw [hvc_] at ul443_2
                                   have HL443_2 := Aside0.mk (show Kd.V k24 24 _ w.heap.size _ _ ((rd_T80 l0 x13_4).f2) from Kd.V_mk ul443_2 ge443_2)
                                   clear hva_ hvn_ hvc_ ge443_2 ul443_2
                                   clear hcc443 hce443
                                   have HR443_2 := Aside0.mk hi443_2
                                   have HC443_2 := Aside0.mk hl443_2
                                   clear hi443_2 hl443_2
                                   replace p443 := eq_true p443
                                   replace q443 := eq_true q443
                                   go_upto_region 21 with (first | (go_at_call 112; (with_reducible refine (cartoucheref11_has.calls kj15 _ _ (rd_L8 t435 x11_3) ((rd_T80 l0 x13_4).f1) t444 _ ?side1 ?side2 A23.out).mono ?_); (case side1 => repeat (first | exact (by repeat (first | (with_reducible exact HR442_0.out) | (with_reducible refine Kd.C_alloc ?_ _) | (with_reducible refine Kd.C_drewN ?_ _) | (with_reducible refine Kd.C_drew ?_) | exact HR442_0.out)) | (with_reducible refine Kd.C_alloc ?_ _) | (with_reducible refine Kd.C_drewN ?_ _) | (with_reducible refine Kd.C_drew ?_))); (case side2 => exact HC442_0.out); rintro e w' ⟨rfl, ⟨nd, rfl⟩⟩; (try first | exact ⟨rfl, _, World.drewN_drewN _ _ _⟩ | exact ⟨rfl, _, Eq.trans (World.drewN_drewN _ _ _) (congrArg (World.drewN _) (Nat.add_assoc _ _ _))⟩)))
                                   repeat (go_quiet (first | (go_at_call 112; (with_reducible refine (cartoucheref11_has.calls kj15 _ _ (rd_L8 t435 x11_3) ((rd_T80 l0 x13_4).f1) t444 _ ?side1 ?side2 A23.out).mono ?_); (case side1 => repeat (first | exact (by repeat (first | (with_reducible exact HR442_0.out) | (with_reducible refine Kd.C_alloc ?_ _) | (with_reducible refine Kd.C_drewN ?_ _) | (with_reducible refine Kd.C_drew ?_) | exact HR442_0.out)) | (with_reducible refine Kd.C_alloc ?_ _) | (with_reducible refine Kd.C_drewN ?_ _) | (with_reducible refine Kd.C_drew ?_))); (case side2 => exact HC442_0.out); rintro e w' ⟨rfl, ⟨nd, rfl⟩⟩; (try first | exact ⟨rfl, _, World.drewN_drewN _ _ _⟩ | exact ⟨rfl, _, Eq.trans (World.drewN_drewN _ _ _) (congrArg (World.drewN _) (Nat.add_assoc _ _ _))⟩))); go_upto_region 21 with (first | (go_at_call 112; (with_reducible refine (cartoucheref11_has.calls kj15 _ _ (rd_L8 t435 x11_3) ((rd_T80 l0 x13_4).f1) t444 _ ?side1 ?side2 A23.out).mono ?_); (case side1 => repeat (first | exact (by repeat (first | (with_reducible exact HR442_0.out) | (with_reducible refine Kd.C_alloc ?_ _) | (with_reducible refine Kd.C_drewN ?_ _) | (with_reducible refine Kd.C_drew ?_) | exact HR442_0.out)) | (with_reducible refine Kd.C_alloc ?_ _) | (with_reducible refine Kd.C_drewN ?_ _) | (with_reducible refine Kd.C_drew ?_))); (case side2 => exact HC442_0.out); rintro e w' ⟨rfl, ⟨nd, rfl⟩⟩; (try first | exact ⟨rfl, _, World.drewN_drewN _ _ _⟩ | exact ⟨rfl, _, Eq.trans (World.drewN_drewN _ _ _) (congrArg (World.drewN _) (Nat.add_assoc _ _ _))⟩))))
                                   (try simp only [Act.put, List.setIfInBounds_toArray, List.set_cons_zero, List.set_cons_succ])
                                   go_cut [86] (fun v86 wc => ∃ (kq : Nat) (x86_23 : Bool), v86 = .bool x86_23 ∧ Aside0 (cartoucheref11_Ring.j5 kq l0 t435 x9_4 x10_4 x11_3 x12_4 x13_4 x86_23 = some (r1, r2)) ∧ Aside0 (kq ≤ kj15) ∧ Aside0 (Kd.V k80 80 wc w.heap.size (fun k_ => (P0_ k_ ∨ w.heap.size ≤ k_) ∧ some k_ ≠ ((.slice (some ad438) t435.length co14) : Value).ownBlock ∧ some k_ ≠ (u9 : Value).ownBlock) (.slice (some ad443) l0.length c0) l0) ∧ Aside0 (Kd.N (Kd.slice 3 (Kd.int .i64)) 31 wc w.heap.size (fun k_ => (P0_ k_ ∨ w.heap.size ≤ k_) ∧ some k_ ≠ (u9 : Value).ownBlock) (.slice (some ad438) t435.length co14) t435) ∧ Aside0 (Kd.N k80 80 wc w.heap.size (fun k_ => (P0_ k_ ∨ w.heap.size ≤ k_) ∧ some k_ ≠ ((.slice (some ad438) t435.length co14) : Value).ownBlock) u9 x9_4) ∧ Aside0 (Kd.C (Kd.int .i64) wc A442_0 (rd_L8 t435 x11_3).length (rd_L8 t435 x11_3)) ∧ Aside0 (Kd.C k24 wc A443_2 ((rd_T80 l0 x13_4).f2).length ((rd_T80 l0 x13_4).f2)) ∧ Aside0 (Below w.heap.size w wc))
                                   case first =>
                                    have H := HC24.out
                                    clear HC24
                                    by_cases c25 : ((rd_T80 l0 x13_4).f0) = x10_4
                                    · rw [if_pos c25] at H
                                      have c25b0 : (((rd_T80 l0 x13_4).f0) == x10_4) = true := beq_iff_eq.mpr c25
                                      have c25b1 : (((rd_T80 l0 x13_4).f0) != x10_4) = false := bne_eq_false_iff_eq.mpr c25
                                      clear c25
                                      (first | rw [c25b0] | (simp only [i64_w, i32_w]; rw [c25b0]) | skip)
                                      have H' := Aside0.mk H
                                      clear H
                                      have p445 : 0 ≤ (x13_4 : Int) := of_decide_eq_true (by first | (with_reducible assumption) | assumption)
                                      have q445 : x13_4 < (l0.length : Int) := of_decide_eq_true (by first | (with_reducible assumption) | assumption)
                                      obtain ⟨ad445, A445_2, c445_2, e445, hx445_0, hx445_1, hx445_2, hl445_2, hi445_2⟩ := at_T80 (Kd.V_reads' HO_0.out).2.2 x13_4 p445 q445
                                      obtain rfl : ad443 = ad445 := (by injection e445)
                                      obtain ⟨ce445, hce445, hMe445, hcc445⟩ := Kd.V_get HO_0.out z80 x13_4 p445 (by first | exact q445 | exact of_decide_eq_true (by first | (with_reducible assumption) | assumption) | (have e_ := (Kd.V_reads' HO_0.out).1; omega))
                                      obtain ⟨ua445_2, uc445_2, rfl, ul445_2, ge445_2⟩ := k80_openF hMe445
                                      have hv445_2 := hcc445 2 _ rfl
                                      rw [add_field _ _ 2 (by omega)] at hv445_2
                                      replace hv445_2 := Option.some.inj (hv445_2.symm.trans hx445_2)
                                      injection hv445_2 with hva_ hvn_ hvc_
                                      rw [hva_] at ge445_2
                                      rw [hvc_] at ul445_2
                                      have HL445_2 := Aside0.mk (show Kd.V k24 24 _ w.heap.size _ _ ((rd_T80 l0 x13_4).f2) from Kd.V_mk ul445_2 ge445_2)
                                      clear hva_ hvn_ hvc_ ge445_2 ul445_2
                                      clear hcc445 hce445
                                      have HR445_2 := Aside0.mk hi445_2
                                      have HC445_2 := Aside0.mk hl445_2
                                      clear hi445_2 hl445_2
                                      replace p445 := eq_true p445
                                      replace q445 := eq_true q445
                                      go_wp2
                                      repeat (go_quiet (fail); try go_wp2)
                                      go_meet
                                      case rel => exact ⟨_, (t444), (by first | rfl | (simp; done) | (simp [*]; done)), H', ⟨by have := HK1.out; have := HK2.out; have := HK3.out; have := HK4.out; have := HJ15.out; first | omega | exact Nat.le_refl _⟩, ⟨by (with_reducible repeat (first | apply Kd.V_alloc | apply Kd.V_drewN | apply Kd.V_drew)); exact HO_0.out⟩, ⟨by (with_reducible repeat (first | apply Kd.N_alloc | apply Kd.N_drewN | apply Kd.N_drew)); exact HO_7.out⟩, ⟨by (with_reducible repeat (first | apply Kd.N_alloc | apply Kd.N_drewN | apply Kd.N_drew)); exact HO_9.out⟩, ⟨by repeat (first | (with_reducible exact HR442_0.out) | (with_reducible refine Kd.C_alloc ?_ _) | (with_reducible refine Kd.C_drewN ?_ _) | (with_reducible refine Kd.C_drew ?_) | exact HR442_0.out)⟩, ⟨by repeat (first | (with_reducible exact HR443_2.out) | (with_reducible refine Kd.C_alloc ?_ _) | (with_reducible refine Kd.C_drewN ?_ _) | (with_reducible refine Kd.C_drew ?_) | exact HR443_2.out)⟩, ⟨by repeat (first | (with_reducible first | exact HB.out | apply below_alloc | apply pw_below_drewN | apply below_drew1) | exact HB.out)⟩⟩
                                    rw [if_neg c25] at H
                                    have c25b0 : (((rd_T80 l0 x13_4).f0) == x10_4) = false := beq_eq_false_iff_ne.mpr c25
                                    have c25b1 : (((rd_T80 l0 x13_4).f0) != x10_4) = true := bne_iff_ne.mpr c25
                                    (first | rw [c25b0] | (simp only [i64_w, i32_w]; rw [c25b0]) | skip)
                                    have H' := Aside0.mk H
                                    clear H
                                    have p445 : 0 ≤ (x13_4 : Int) := of_decide_eq_true (by first | (with_reducible assumption) | assumption)
                                    have q445 : x13_4 < (l0.length : Int) := of_decide_eq_true (by first | (with_reducible assumption) | assumption)
                                    obtain ⟨ad445, A445_2, c445_2, e445, hx445_0, hx445_1, hx445_2, hl445_2, hi445_2⟩ := at_T80 (Kd.V_reads' HO_0.out).2.2 x13_4 p445 q445
                                    obtain rfl : ad443 = ad445 := (by injection e445)
                                    obtain ⟨ce445, hce445, hMe445, hcc445⟩ := Kd.V_get HO_0.out z80 x13_4 p445 (by first | exact q445 | exact of_decide_eq_true (by first | (with_reducible assumption) | assumption) | (have e_ := (Kd.V_reads' HO_0.out).1; omega))
                                    obtain ⟨ua445_2, uc445_2, rfl, ul445_2, ge445_2⟩ := k80_openF hMe445
                                    have hv445_2 := hcc445 2 _ rfl
                                    rw [add_field _ _ 2 (by omega)] at hv445_2
                                    replace hv445_2 := Option.some.inj (hv445_2.symm.trans hx445_2)
                                    injection hv445_2 with hva_ hvn_ hvc_
                                    rw [hva_] at ge445_2
                                    rw [hvc_] at ul445_2
                                    have HL445_2 := Aside0.mk (show Kd.V k24 24 _ w.heap.size _ _ ((rd_T80 l0 x13_4).f2) from Kd.V_mk ul445_2 ge445_2)
                                    clear hva_ hvn_ hvc_ ge445_2 ul445_2
                                    clear hcc445 hce445
                                    have HR445_2 := Aside0.mk hi445_2
                                    have HC445_2 := Aside0.mk hl445_2
                                    clear hi445_2 hl445_2
                                    replace p445 := eq_true p445
                                    replace q445 := eq_true q445
                                    go_wp2
                                    repeat (go_quiet (fail); try go_wp2)
                                    go_meet
                                    case rel => exact ⟨_, (false), (by first | rfl | (simp; done) | (simp [*]; done)), H', ⟨by have := HK1.out; have := HK2.out; have := HK3.out; have := HK4.out; have := HJ15.out; first | omega | exact Nat.le_refl _⟩, ⟨by (with_reducible repeat (first | apply Kd.V_alloc | apply Kd.V_drewN | apply Kd.V_drew)); exact HO_0.out⟩, ⟨by (with_reducible repeat (first | apply Kd.N_alloc | apply Kd.N_drewN | apply Kd.N_drew)); exact HO_7.out⟩, ⟨by (with_reducible repeat (first | apply Kd.N_alloc | apply Kd.N_drewN | apply Kd.N_drew)); exact HO_9.out⟩, ⟨by repeat (first | (with_reducible exact HR442_0.out) | (with_reducible refine Kd.C_alloc ?_ _) | (with_reducible refine Kd.C_drewN ?_ _) | (with_reducible refine Kd.C_drew ?_) | exact HR442_0.out)⟩, ⟨by repeat (first | (with_reducible exact HR443_2.out) | (with_reducible refine Kd.C_alloc ?_ _) | (with_reducible refine Kd.C_drewN ?_ _) | (with_reducible refine Kd.C_drew ?_) | exact HR443_2.out)⟩, ⟨by repeat (first | (with_reducible first | exact HB.out | apply below_alloc | apply pw_below_drewN | apply below_drew1) | exact HB.out)⟩⟩
                                   case rest =>
                                    clear HC24
                                    (try clear c1);(try clear c2);(try clear p2);(try clear c4);(try clear c4b0);(try clear p4);(try clear q4);(try clear hx4);(try clear c6);(try clear c6b0);(try clear p6);(try clear c7);(try clear c7b0);(try clear c8);(try clear c9);(try clear c9b0);(try clear c10);(try clear c10b0);(try clear c12);(try clear c15);(try clear c15b0);(try clear c17);(try clear c17b0);(try clear c18);(try clear c19);(try clear c19b0);(try clear c20);(try clear c20b0);(try clear c21);(try clear c21b0);(try clear c22);(try clear c22b0);(try clear c25);(try clear c25b0);(try clear c25b1);(try clear hx434_0);(try clear hx438_0);(try clear hx439_0);(try clear hx441_0);(try clear hx442_0);(try clear hx443_0);(try clear hx443_1);(try clear hx443_2);(try clear hx445_0);(try clear hx445_1);(try clear hx445_2);(try clear p2);(try clear p4);(try clear p434);(try clear p438);(try clear p439);(try clear p441);(try clear p442);(try clear p443);(try clear p445);(try clear p6);(try clear q4);(try clear q434);(try clear q438);(try clear q439);(try clear q441);(try clear q442);(try clear q443);(try clear q445)
                                    obtain ⟨kq, x86_23, rfl, HA, HJ23, HO_0, HO_7, HO_9, HR442_0, HR443_2, HB⟩ := hcut
                                    cases kq with
                                    | zero => exact absurd HA.out (by simp [cartoucheref11_Ring.j5])
                                    | succ kj23 =>
                                     have H := HA.out
                                     clear HA
                                     simp only [cartoucheref11_Ring.j5] at H
                                     by_cases c26 : x86_23 = true
                                     · subst c26
                                       have H1 : (if 0 ≤ x13_4 then (if x13_4 < (l0.length : Int) then (if x9_4.length < 3518437208883 then (cartoucheref11_Ring.l3 kj23 l0 t435 (x9_4 ++ [(⟨(rd_T80 l0 x13_4).f0, (rd_T80 l0 x13_4).f1, (rd_T80 l0 x13_4).f2⟩ : S80)]) ((rd_T80 l0 x13_4).f1) x11_3 true (wrap64 (x13_4 + 1))) else (none)) else (none)) else (none)) = some (r1, r2) := by rw [if_pos rfl] at H; exact H
                                       clear H
                                       have H := H1
                                       clear H1
                                       by_cases c27 : 0 ≤ x13_4
                                       · rw [if_pos c27] at H
                                         have c27b0 : decide (0 ≤ x13_4) = true := decide_eq_true c27
                                         clear c27
                                         by_cases c28 : x13_4 < (l0.length : Int)
                                         · rw [if_pos c28] at H
                                           have c28b0 : decide (x13_4 < (l0.length : Int)) = true := decide_eq_true c28
                                           clear c28
                                           by_cases c29 : x9_4.length < 3518437208883
                                           · rw [if_pos c29] at H
                                             have LMc29 := Aside0.mk c29
                                             clear c29
                                             obtain ⟨y447, hy447⟩ : ∃ y_ : List (S80), y_ = (x9_4 ++ [(⟨(rd_T80 l0 x13_4).f0, (rd_T80 l0 x13_4).f1, (rd_T80 l0 x13_4).f2⟩ : S80)]) := ⟨_, rfl⟩
                                             replace H : (cartoucheref11_Ring.l3 kj23 l0 t435 y447 ((rd_T80 l0 x13_4).f1) x11_3 true (wrap64 (x13_4 + 1))) = some (r1, r2) := by first | (rw [hy447]; with_reducible exact H) | (have H2_ := (Option.bind_some _ _).symm.trans H; rw [hy447]; with_reducible exact H2_) | (have H2_ := (Option.bind_some _ _).symm.trans H; with_reducible exact H2_) | with_reducible exact H | (rw [hy447]; exact H) | exact H
                                             have Ny447 := Aside0.mk hy447
                                             clear hy447
                                             have H' := Aside0.mk H
                                             clear H
                                             have p446 : 0 ≤ (x13_4 : Int) := of_decide_eq_true (by first | (with_reducible assumption) | assumption)
                                             have q446 : x13_4 < (l0.length : Int) := of_decide_eq_true (by first | (with_reducible assumption) | assumption)
                                             obtain ⟨ad446, A446_2, c446_2, e446, hx446_0, hx446_1, hx446_2, hl446_2, hi446_2⟩ := at_T80 (Kd.V_reads' HO_0.out).2.2 x13_4 p446 q446
                                             obtain rfl : ad443 = ad446 := (by injection e446)
                                             obtain ⟨ce446, hce446, hMe446, hcc446⟩ := Kd.V_get HO_0.out z80 x13_4 p446 (by first | exact q446 | exact of_decide_eq_true (by first | (with_reducible assumption) | assumption) | (have e_ := (Kd.V_reads' HO_0.out).1; omega))
                                             obtain ⟨ua446_2, uc446_2, rfl, ul446_2, ge446_2⟩ := k80_openF hMe446
                                             have hv446_2 := hcc446 2 _ rfl
                                             rw [add_field _ _ 2 (by omega)] at hv446_2
                                             replace hv446_2 := Option.some.inj (hv446_2.symm.trans hx446_2)
                                             injection hv446_2 with hva_ hvn_ hvc_
                                             rw [hva_] at ge446_2
                                             rw [hvc_] at ul446_2
                                             have HL446_2 := Aside0.mk (show Kd.V k24 24 _ w.heap.size _ _ ((rd_T80 l0 x13_4).f2) from Kd.V_mk ul446_2 ge446_2)
                                             clear hva_ hvn_ hvc_ ge446_2 ul446_2
                                             clear hcc446 hce446
                                             have HR446_2 := Aside0.mk hi446_2
                                             have HC446_2 := Aside0.mk hl446_2
                                             clear hi446_2 hl446_2
                                             replace p446 := eq_true p446
                                             replace q446 := eq_true q446
                                             go_wp2_with (first | ((with_reducible refine gate_builtin (b := .append) (xs := #[.tmp 87, .tmp 92]) rfl ?_); at_builtin; refine Kd.N_append k80 (w0 := w) w.heap.size rfl (.tmp 87) (.tmp 92) 34 80 (.agg #[(.int .i64 0), (.int .i64 0), (.slice none 0 0)]) 40 rfl Tryz.underlying34 info80 rfl (by decide) (by omega) u9 x9_4 (⟨(rd_T80 l0 x13_4).f0, (rd_T80 l0 x13_4).f1, (rd_T80 l0 x13_4).f2⟩ : S80) [.int .i64 ((rd_T80 l0 x13_4).f0), .int .i64 ((rd_T80 l0 x13_4).f1), .slice A446_2 ((rd_T80 l0 x13_4).f2).length c446_2] (fun k_ => (P0_ k_ ∨ w.heap.size ≤ k_) ∧ some k_ ≠ (.slice (some ad438) t435.length co14 : Value).ownBlock) (fun k_ => ((fun k_ => (P0_ k_ ∨ w.heap.size ≤ k_) ∧ some k_ ≠ (.slice (some ad438) t435.length co14 : Value).ownBlock)) k_ ∧ some k_ ≠ (u9 : Value).ownBlock) rfl rfl ?aP (fun _ hk => hk) ?aF ?aO ?aB ?aS ?aL ?_; (case aP => exact (k80_mkF _ _ (⟨(rd_T80 l0 x13_4).f0, (rd_T80 l0 x13_4).f1, (rd_T80 l0 x13_4).f2⟩ : S80) (Kd.V_reads' (Kd.V_mono (ok' := (fun k_ => ((fun k_ => (P0_ k_ ∨ w.heap.size ≤ k_) ∧ some k_ ≠ (.slice (some ad438) t435.length co14 : Value).ownBlock)) k_ ∧ some k_ ≠ (u9 : Value).ownBlock)) (HL446_2.out) (fun k_ hk => ⟨⟨hk.1, hk.2.1⟩, hk.2.2⟩))).2.1 (Kd.V_F (Kd.V_mono (ok' := (fun k_ => ((fun k_ => (P0_ k_ ∨ w.heap.size ≤ k_) ∧ some k_ ≠ (.slice (some ad438) t435.length co14 : Value).ownBlock)) k_ ∧ some k_ ≠ (u9 : Value).ownBlock)) (HL446_2.out) (fun k_ hk => ⟨⟨hk.1, hk.2.1⟩, hk.2.2⟩))))); (case aB => exact (by repeat (first | (with_reducible first | exact HB.out | apply below_alloc | apply pw_below_drewN | apply below_drew1) | exact HB.out))); (case aF => exact (fun k_ hk => ⟨(.inr (Nat.le_trans (below_size (by repeat (first | (with_reducible first | exact HB.out | apply below_alloc | apply pw_below_drewN | apply below_drew1) | exact HB.out))) hk)), Kd.fresh' (Kd.N_lt (by (with_reducible repeat (first | apply Kd.N_alloc | apply Kd.N_drewN | apply Kd.N_drew)); exact HO_7.out)) k_ hk⟩)); (case aO => exact (by (with_reducible repeat (first | apply Kd.N_alloc | apply Kd.N_drewN | apply Kd.N_drew)); exact HO_9.out)); (case aS => exact (below_size (by repeat (first | (with_reducible first | exact HB.out | apply below_alloc | apply pw_below_drewN | apply below_drew1) | exact HB.out)))); (case aL => have := LMc29.out; omega); intro v448 w30 ho hb hg hat; rw [← Ny447.out] at ho; have n0_ := Aside0.mk (Kd.V_afterv (ok := (fun k_ => (P0_ k_ ∨ w.heap.size ≤ k_) ∧ some k_ ≠ (.slice (some ad438) t435.length co14 : Value).ownBlock)) (by (with_reducible repeat (first | apply Kd.V_alloc | apply Kd.V_drewN | apply Kd.V_drew)); exact Kd.V_mono HO_0.out (fun _ hk => ⟨⟨hk.1, hk.2.1⟩, hk.2.2⟩)) hg hat); have n1_ := Aside0.mk (Kd.N_afterv (ok := (fun k_ => (P0_ k_ ∨ w.heap.size ≤ k_))) (by (with_reducible repeat (first | apply Kd.N_alloc | apply Kd.N_drewN | apply Kd.N_drew)); exact HO_7.out) hg hat); have n2_ := Aside0.mk (Kd.V_afterv (ok := (fun k_ => (P0_ k_ ∨ w.heap.size ≤ k_) ∧ some k_ ≠ (.slice (some ad438) t435.length co14 : Value).ownBlock)) (by (with_reducible repeat (first | apply Kd.V_alloc | apply Kd.V_drewN | apply Kd.V_drew)); exact Kd.V_mono HL446_2.out (fun _ hk => ⟨⟨hk.1, hk.2.1⟩, hk.2.2⟩)) hg hat); have n3_ := Aside0.mk (hb); have n4_ := Aside0.mk (ho); clear HO_0; clear HO_7; clear HL446_2; clear HB; clear HO_9; have HO_0 := n0_; have HO_7 := n1_; have HL446_2 := n2_; have HB := n3_; have HO449 := n4_; clear n0_ n1_ n2_ n3_ n4_; clear ho hb hg hat; have p450 : 0 ≤ (x13_4 : Int) := of_decide_eq_true (by first | (with_reducible assumption) | assumption); have q450 : x13_4 < (l0.length : Int) := of_decide_eq_true (by first | (with_reducible assumption) | assumption); obtain ⟨ad450, A450_2, c450_2, e450, hx450_0, hx450_1, hx450_2, hl450_2, hi450_2⟩ := at_T80 (Kd.V_reads' HO_0.out).2.2 x13_4 p450 q450; obtain rfl : ad443 = ad450 := (by injection e450); obtain ⟨ce450, hce450, hMe450, hcc450⟩ := Kd.V_get HO_0.out z80 x13_4 p450 (by first | exact q450 | exact of_decide_eq_true (by first | (with_reducible assumption) | assumption) | (have e_ := (Kd.V_reads' HO_0.out).1; omega)); obtain ⟨ua450_2, uc450_2, rfl, ul450_2, ge450_2⟩ := k80_openF hMe450; have hv450_2 := hcc450 2 _ rfl; rw [add_field _ _ 2 (by omega)] at hv450_2; replace hv450_2 := Option.some.inj (hv450_2.symm.trans hx450_2); injection hv450_2 with hva_ hvn_ hvc_; rw [hva_] at ge450_2; rw [hvc_] at ul450_2; have HL450_2 := Aside0.mk (show Kd.V k24 24 _ w.heap.size _ _ ((rd_T80 l0 x13_4).f2) from Kd.V_mk ul450_2 ge450_2); clear hva_ hvn_ hvc_ ge450_2 ul450_2; clear hcc450 hce450; have HR450_2 := Aside0.mk hi450_2; have HC450_2 := Aside0.mk hl450_2; clear hi450_2 hl450_2; replace p450 := eq_true p450; replace q450 := eq_true q450))
                                             go_roundg kj23
                                             case measure => have := HK1.out; have := HK2.out; have := HK3.out; have := HK4.out; have := HJ15.out; have := HJ23.out; omega
                                             case rel => exact ⟨(y447), ((rd_T80 l0 x13_4).f1), (true), (wrap64 (x13_4 + 1)), (by first | rfl | (simp; done) | (simp [*]; done)), (by first | rfl | (simp; done) | (simp [*]; done)), (by first | rfl | (simp; done) | (simp [*]; done)), H', ⟨by have := HK1.out; have := HK2.out; have := HK3.out; have := HK4.out; have := HJ15.out; have := HJ23.out; omega⟩, ⟨by (with_reducible repeat (first | apply Kd.V_alloc | apply Kd.V_drewN | apply Kd.V_drew)); exact Kd.V_mono HO_0.out (fun _ hk => ⟨hk.1.1, ⟨hk.1.2, hk.2⟩⟩)⟩, ⟨by (with_reducible repeat (first | apply Kd.N_alloc | apply Kd.N_drewN | apply Kd.N_drew)); exact HO_7.out⟩, ⟨by (with_reducible repeat (first | apply Kd.N_alloc | apply Kd.N_drewN | apply Kd.N_drew)); exact HO449.out⟩, ⟨by repeat (first | (with_reducible first | exact HB.out | apply below_alloc | apply pw_below_drewN | apply below_drew1) | exact HB.out)⟩⟩
                                           rw [if_neg c29] at H
                                           exact absurd H (by simp)
                                         rw [if_neg c28] at H
                                         exact absurd H (by simp)
                                       rw [if_neg c27] at H
                                       exact absurd H (by simp)
                                     replace c26 := Bool.eq_false_iff.mpr c26
                                     subst c26
                                     have H1 : (cartoucheref11_Ring.l3 kj23 l0 t435 x9_4 x10_4 x11_3 x12_4 (wrap64 (x13_4 + 1))) = some (r1, r2) := by rw [if_neg (show ¬ (false = true) by decide)] at H; exact H
                                     clear H
                                     have H := H1
                                     clear H1
                                     have H' := Aside0.mk H
                                     clear H
                                     go_wp2
                                     repeat (go_quiet (fail); try go_wp2)
                                     go_roundg kj23
                                     case measure => have := HK1.out; have := HK2.out; have := HK3.out; have := HK4.out; have := HJ15.out; have := HJ23.out; omega
                                     case rel => exact ⟨(x9_4), (x10_4), (x12_4), (wrap64 (x13_4 + 1)), (by first | rfl | (simp; done) | (simp [*]; done)), (by first | rfl | (simp; done) | (simp [*]; done)), (by first | rfl | (simp; done) | (simp [*]; done)), H', ⟨by have := HK1.out; have := HK2.out; have := HK3.out; have := HK4.out; have := HJ15.out; have := HJ23.out; omega⟩, ⟨by (with_reducible repeat (first | apply Kd.V_alloc | apply Kd.V_drewN | apply Kd.V_drew)); exact HO_0.out⟩, ⟨by (with_reducible repeat (first | apply Kd.N_alloc | apply Kd.N_drewN | apply Kd.N_drew)); exact HO_7.out⟩, ⟨by (with_reducible repeat (first | apply Kd.N_alloc | apply Kd.N_drewN | apply Kd.N_drew)); exact HO_9.out⟩, ⟨by repeat (first | (with_reducible first | exact HB.out | apply below_alloc | apply pw_below_drewN | apply below_drew1) | exact HB.out)⟩⟩
                                 rw [if_neg c22] at H
                                 exact absurd H (by simp)
                               rw [if_neg c21] at H
                               exact absurd H (by simp)
                             rw [if_neg c20] at H
                             exact absurd H (by simp)
                           rw [if_neg c19] at H
                           exact absurd H (by simp)
                         replace c18 := Bool.eq_false_iff.mpr c18
                         subst c18
                         have H1 : (cartoucheref11_Ring.l2 kj15 l0 t435 x9_4 x10_4 (wrap64 (x11_3 - 1))) = some (r1, r2) := by rw [if_neg (show ¬ (false = true) by decide)] at H; exact H
                         clear H
                         have H := H1
                         clear H1
                         have H' := Aside0.mk H
                         clear H
                         go_wp2
                         repeat (go_quiet (fail); try go_wp2)
                         go_roundg kj15
                         case measure => have := HK1.out; have := HK2.out; have := HK3.out; have := HK4.out; have := HJ15.out; omega
                         case rel => exact ⟨(x9_4), (x10_4), (wrap64 (x11_3 - 1)), (by first | rfl | (simp; done) | (simp [*]; done)), (by first | rfl | (simp; done) | (simp [*]; done)), H', ⟨by have := HK1.out; have := HK2.out; have := HK3.out; have := HK4.out; have := HJ15.out; omega⟩, ⟨by (with_reducible repeat (first | apply Kd.V_alloc | apply Kd.V_drewN | apply Kd.V_drew)); exact HO_0.out⟩, ⟨by (with_reducible repeat (first | apply Kd.N_alloc | apply Kd.N_drewN | apply Kd.N_drew)); exact HO_7.out⟩, ⟨by (with_reducible repeat (first | apply Kd.N_alloc | apply Kd.N_drewN | apply Kd.N_drew)); exact HO_9.out⟩, ⟨by repeat (first | (with_reducible first | exact HB.out | apply below_alloc | apply pw_below_drewN | apply below_drew1) | exact HB.out)⟩⟩
                   rw [if_neg c15] at H
                   have c15b0 : decide (0 ≤ x11_3) = false := decide_eq_false c15
                   clear c15
                   simp only [Option.some.injEq, Prod.mk.injEq] at H
                   obtain ⟨rfl, rfl⟩ := H
                   go_wp2
                   repeat (go_quiet (fail); try go_wp2)
                   go_ret2
                   exact ⟨_, by first | rfl | (simp [errW_none, errW_some] <;> rfl) | (simp [*, errW_none, errW_some] <;> rfl), by (with_reducible repeat (first | apply Kd.N_alloc | apply Kd.N_drewN | apply Kd.N_drew)); exact Kd.N_mono HO_9.out (fun _ hk => hk.1), by repeat (first | (with_reducible first | exact HB.out | apply below_alloc | apply pw_below_drewN | apply below_drew1) | exact HB.out)⟩
               replace c12 := Bool.eq_false_iff.mpr c12
               subst c12
               have H1 : (cartoucheref11_Ring.l1 k2 l0 t431 x5_1 (wrap64 (x6_2 + 1))) = some (r1, r2) := by rw [if_neg (show ¬ (false = true) by decide)] at H; exact H
               clear H
               have H := H1
               clear H1
               have H' := Aside0.mk H
               clear H
               have p434 : 0 ≤ (x6_2 : Int) := of_decide_eq_true (by first | (with_reducible assumption) | assumption)
               have q434 : x6_2 < (t431.length : Int) := of_decide_eq_true (by first | (with_reducible assumption) | assumption)
               obtain ⟨ad434, e434, hx434_0⟩ := Kd.at_int (Kd.R_reads' HO_4.out).2.2 x6_2 p434 q434
               cases e434
               replace p434 := eq_true p434
               replace q434 := eq_true q434
               go_wp2_with (first | (go_at_call 115; (with_reducible refine (cartoucheref11_ways.calls k2 _ _ l0 (rd t431 x6_2) x5_1 t435 _ ?side1 ?side2 A8.out).mono ?_); (case side1 => repeat (first | exact (Kd.V_reads' HO_0.out).2.2 | (with_reducible refine Kd.C_alloc ?_ _) | (with_reducible refine Kd.C_drewN ?_ _) | (with_reducible refine Kd.C_drew ?_))); (case side2 => exact (Kd.V_reads' HO_0.out).2.1); rintro e w31 ⟨v436, rfl, ho0, hb⟩; have n0_ := Aside0.mk (Kd.V_elder' (by (with_reducible repeat (first | apply Kd.V_alloc | apply Kd.V_drewN | apply Kd.V_drew)); exact HO_0.out) (Kd.N_base ho0) hb); have n1_ := Aside0.mk (Kd.R_below (by (with_reducible repeat (first | apply Kd.R_alloc | apply Kd.R_drewN | apply Kd.R_drew)); exact HO_4.out) hb); have n2_ := Aside0.mk (Kd.N_lower (Kd.N_mono (ok' := fun k_ => (P0_ k_ ∨ w.heap.size ≤ k_) ∧ some k_ ≠ (.slice (some ad434) t431.length co5 : Value).ownBlock) ho0 (fun k_ hk_ => ⟨(.inr (Nat.le_trans (below_size (by repeat (first | (with_reducible first | exact HB.out | apply below_alloc | apply pw_below_drewN | apply below_drew1) | exact HB.out))) hk_)), (Kd.fresh' (Kd.R_lt (by (with_reducible repeat (first | apply Kd.R_alloc | apply Kd.R_drewN | apply Kd.R_drew)); exact HO_4.out)) k_ hk_)⟩)) (below_size (by repeat (first | (with_reducible first | exact HB.out | apply below_alloc | apply pw_below_drewN | apply below_drew1) | exact HB.out)))); have n3_ := Aside0.mk (below_step (by repeat (first | (with_reducible first | exact HB.out | apply below_alloc | apply pw_below_drewN | apply below_drew1) | exact HB.out)) hb); clear HO_0; clear HO_4; clear HB; have HO_0 := n0_; have HO_4 := n1_; have HO437 := n2_; have HB := n3_; clear n0_ n1_ n2_ n3_; (try clear hb); (try clear hb2); (try clear hk); (try clear hi); (try clear ho0); obtain ⟨Ao32, co32, eo32⟩ := Kd.N_slice HO437.out; subst eo32; have p438 : 0 ≤ (x5_1 : Int) := of_decide_eq_true (by first | (with_reducible assumption) | assumption); have q438 : x5_1 < (t435.length : Int) := of_decide_eq_true (by first | (with_reducible assumption) | assumption); obtain ⟨ad438, A438_0, c438_0, e438, hx438_0, hl438_0, hi438_0⟩ := at_L8 (Kd.N_reads' HO437.out).2.2 x5_1 p438 q438; cases e438; obtain ⟨ce438, hce438, hMe438, hcc438⟩ := Kd.N_get HO437.out [] x5_1 p438 (by first | exact q438 | exact of_decide_eq_true (by first | (with_reducible assumption) | assumption) | (have e_ := (Kd.N_reads' HO437.out).1; omega)); obtain ⟨ua438_0, uc438_0, rfl, ul438_0, ge438_0⟩ := Kd.FK_slice_open hMe438; have hv438_0 := hcc438 0 _ rfl; rw [Nat.add_zero, show ((Kd.slice 3 (Kd.int .i64))).sz = 1 from rfl, Nat.mul_one] at hv438_0; replace hv438_0 := Option.some.inj (hv438_0.symm.trans hx438_0); injection hv438_0 with hva_ hvn_ hvc_; rw [hva_] at ge438_0; rw [hvc_] at ul438_0; have HL438_0 := Aside0.mk (show Kd.V (Kd.int .i64) 3 _ w.heap.size _ _ (rd_L8 t435 x5_1) from Kd.V_mk ul438_0 ge438_0); clear hva_ hvn_ hvc_ ge438_0 ul438_0; clear hcc438 hce438; have HR438_0 := Aside0.mk hi438_0; have HC438_0 := Aside0.mk hl438_0; clear hi438_0 hl438_0; replace p438 := eq_true p438; replace q438 := eq_true q438; have p439 : 0 ≤ (x6_2 : Int) := of_decide_eq_true (by first | (with_reducible assumption) | assumption); have q439 : x6_2 < (t431.length : Int) := of_decide_eq_true (by first | (with_reducible assumption) | assumption); obtain ⟨ad439, e439, hx439_0⟩ := Kd.at_int (Kd.R_reads' HO_4.out).2.2 x6_2 p439 q439; obtain rfl : ad434 = ad439 := (by injection e439); replace p439 := eq_true p439; replace q439 := eq_true q439))
               repeat (go_quiet (first | (go_at_call 112; (with_reducible refine (cartoucheref11_has.calls k2 _ _ (rd_L8 t435 x5_1) (rd t431 x6_2) false _ ?side1 ?side2 A11.out).mono ?_); (case side1 => repeat (first | exact (by repeat (first | (with_reducible exact HR438_0.out) | (with_reducible refine Kd.C_alloc ?_ _) | (with_reducible refine Kd.C_drewN ?_ _) | (with_reducible refine Kd.C_drew ?_) | exact HR438_0.out)) | (with_reducible refine Kd.C_alloc ?_ _) | (with_reducible refine Kd.C_drewN ?_ _) | (with_reducible refine Kd.C_drew ?_))); (case side2 => exact HC438_0.out); rintro e w' ⟨rfl, ⟨nd, rfl⟩⟩; (try first | exact ⟨rfl, _, World.drewN_drewN _ _ _⟩ | exact ⟨rfl, _, Eq.trans (World.drewN_drewN _ _ _) (congrArg (World.drewN _) (Nat.add_assoc _ _ _))⟩))); try go_wp2_with (first | (go_at_call 112; (with_reducible refine (cartoucheref11_has.calls k2 _ _ (rd_L8 t435 x5_1) (rd t431 x6_2) false _ ?side1 ?side2 A11.out).mono ?_); (case side1 => repeat (first | exact (by repeat (first | (with_reducible exact HR438_0.out) | (with_reducible refine Kd.C_alloc ?_ _) | (with_reducible refine Kd.C_drewN ?_ _) | (with_reducible refine Kd.C_drew ?_) | exact HR438_0.out)) | (with_reducible refine Kd.C_alloc ?_ _) | (with_reducible refine Kd.C_drewN ?_ _) | (with_reducible refine Kd.C_drew ?_))); (case side2 => exact HC438_0.out); rintro e w' ⟨rfl, ⟨nd, rfl⟩⟩; (try first | exact ⟨rfl, _, World.drewN_drewN _ _ _⟩ | exact ⟨rfl, _, Eq.trans (World.drewN_drewN _ _ _) (congrArg (World.drewN _) (Nat.add_assoc _ _ _))⟩))))
               go_roundg k2
               case measure => have := HK1.out; have := HK2.out; omega
               case rel => exact ⟨(wrap64 (x6_2 + 1)), (by first | rfl | (simp; done) | (simp [*]; done)), H', ⟨by have := HK1.out; have := HK2.out; omega⟩, ⟨by (with_reducible repeat (first | apply Kd.V_alloc | apply Kd.V_drewN | apply Kd.V_drew)); exact Kd.V_mono HO_0.out (fun _ hk => ⟨hk.1.1, hk.1.2⟩)⟩, ⟨by (with_reducible repeat (first | apply Kd.R_alloc | apply Kd.R_drewN | apply Kd.R_drew)); exact HO_4.out⟩, ⟨by repeat (first | (with_reducible first | exact HB.out | apply below_alloc | apply pw_below_drewN | apply below_drew1) | exact HB.out)⟩⟩
             rw [if_neg c10] at H
             exact absurd H (by simp)
           rw [if_neg c9] at H
           exact absurd H (by simp)
         rw [if_neg c7] at H
         exact absurd H (by simp)
       rw [if_neg c6] at H
       have c6b0 : decide (x6_2 < (t431.length : Int)) = false := decide_eq_false c6
       clear c6
       have H' := Aside0.mk H
       clear H
       go_wp2
       repeat (go_quiet (fail); try go_wp2)
       go_roundg k2
       case measure => have := HK1.out; have := HK2.out; omega
       case rel => exact ⟨(wrap64 (x5_1 + 1)), (by first | rfl | (simp; done) | (simp [*]; done)), H', ⟨by have := HK1.out; have := HK2.out; omega⟩, ⟨by (with_reducible repeat (first | apply Kd.V_alloc | apply Kd.V_drewN | apply Kd.V_drew)); exact HO_0.out⟩, ⟨by (with_reducible repeat (first | apply Kd.R_alloc | apply Kd.R_drewN | apply Kd.R_drew)); exact HO_4.out⟩, ⟨by repeat (first | (with_reducible first | exact HB.out | apply below_alloc | apply pw_below_drewN | apply below_drew1) | exact HB.out)⟩⟩
   rw [if_neg c4] at H
   have c4b0 : decide (x5_1 ≤ (t431.length : Int)) = false := decide_eq_false c4
   clear c4
   simp only [Option.some.injEq, Prod.mk.injEq] at H
   obtain ⟨rfl, rfl⟩ := H
   obtain ⟨Ao33, co33, eo33⟩ := Kd.R_slice HO_4.out
   subst eo33
   go_wp2
   repeat (go_quiet (fail); try go_wp2)
   go_ret2
   exact ⟨_, by first | rfl | (simp [errW_none, errW_some] <;> rfl) | (simp [*, errW_none, errW_some] <;> rfl), by first | exact Kd.S_nil _ _ _ _ _ | exact Kd.N_nil _ _ _ _ _ | exact Kd.V_nil _ _ _ _ _ | exact Kd.Q_nil _ _ _ _ _ | exact Kd.R_nil _ _ _ _ _, by repeat (first | (with_reducible first | exact HB.out | apply below_alloc | apply pw_below_drewN | apply below_drew1) | exact HB.out)⟩
end Go.Proofs.YtebjiimlcnmfpaaGreatPr
