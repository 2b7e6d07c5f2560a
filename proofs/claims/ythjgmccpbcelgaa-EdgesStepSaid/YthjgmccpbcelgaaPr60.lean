/- Contracts of Go functions, printed by a program of this session over the translation: each call answers what its Lean function says. -/
import Derived.Test.YthjgmccpbcelgaaPr0
namespace Go.Proofs.YthjgmccpbcelgaaPr
open Go.RowKit Go.Proofs.YthjgmccpbcelgaaW.PrintWords Go.Proofs.YthjgmccpbcelgaaW.PrintLast Go.Proofs.YthjgmccpbcelgaaW.PrintMore
attribute [local go_sem] max2_int min2_int max_two min_two max_three min_three max_four min_four   -- for this text's walks alone
set_option linter.unusedVariables false
set_option linter.unusedSimpArgs false

/-! ### cartoucheref10_Steps: function 75 -/
mutual
def cartoucheref10_Steps.l0 : Nat → Int → List (S76) → List (S50) → Int → Option ((List (S50)))
  | 0, _, _, _, _ => none
  | k + 1, x0, x1, x5, x6 => if x6 < (x1.length : Int) then (if x0 = 1 then (cartoucheref10_Steps.j1 k x0 x1 x5 x6 true) else (if x0 = 2 then (if 0 ≤ x6 then (cartoucheref10_Steps.j1 k x0 x1 x5 x6 (((rd_T76 x1 x6).f0) != 3)) else (none)) else (cartoucheref10_Steps.j1 k x0 x1 x5 x6 false))) else (some x5)
def cartoucheref10_Steps.j1 : Nat → Int → List (S76) → List (S50) → Int → Bool → Option ((List (S50)))
  | 0, _, _, _, _, _ => none
  | k + 1, x0, x1, x5, x6, x27 => if x27 = true then (if 0 ≤ x6 then (if x6 < (x1.length : Int) then (if x5.length < 3518437208883 then (cartoucheref10_Steps.j2 k x0 x1 (x5 ++ [(⟨(rd_T76 x1 x6).f1, (rd_T76 x1 x6).f2, (([(⟨(rd_T76 x1 x6).f0, (rd_T76 x1 x6).f1, (rd_T76 x1 x6).f2, (rd_T76 x1 x6).f3, (rd_T76 x1 x6).f4⟩ : S76)] : List (S76)))⟩ : S50)]) x6) else (none)) else (none)) else (none)) else (cartoucheref10_Steps.j2 k x0 x1 x5 x6)
def cartoucheref10_Steps.j2 : Nat → Int → List (S76) → List (S50) → Int → Option ((List (S50)))
  | 0, _, _, _, _ => none
  | k + 1, x0, x1, x5, x6 => cartoucheref10_Steps.l1 k x0 x1 x5 x6 0
def cartoucheref10_Steps.l1 : Nat → Int → List (S76) → List (S50) → Int → Int → Option ((List (S50)))
  | 0, _, _, _, _, _ => none
  | k + 1, x0, x1, x5, x6, x7 => if x7 < (x1.length : Int) then (if x0 = 2 then (if 0 ≤ x6 then (if x6 < (x1.length : Int) then (cartoucheref10_Steps.j4 k x0 x1 x5 x6 x7 (((rd_T76 x1 x6).f0) != 3)) else (none)) else (none)) else (cartoucheref10_Steps.j4 k x0 x1 x5 x6 x7 false)) else (cartoucheref10_Steps.j4 k x0 x1 x5 x6 x7 false)
def cartoucheref10_Steps.j4 : Nat → Int → List (S76) → List (S50) → Int → Int → Bool → Option ((List (S50)))
  | 0, _, _, _, _, _, _ => none
  | k + 1, x0, x1, x5, x6, x7, x62 => if x62 = true then (if 0 ≤ x7 then (if x7 < (x1.length : Int) then (if ((rd_T76 x1 x7).f0) = 3 then (if 0 ≤ x6 then (if x6 < (x1.length : Int) then (cartoucheref10_Steps.j5 k x0 x1 x5 x6 x7 (((rd_T76 x1 x7).f1) == ((rd_T76 x1 x6).f2))) else (none)) else (none)) else (cartoucheref10_Steps.j5 k x0 x1 x5 x6 x7 false)) else (none)) else (none)) else (cartoucheref10_Steps.l0 k x0 x1 x5 (wrap64 (x6 + 1)))
def cartoucheref10_Steps.j5 : Nat → Int → List (S76) → List (S50) → Int → Int → Bool → Option ((List (S50)))
  | 0, _, _, _, _, _, _ => none
  | k + 1, x0, x1, x5, x6, x7, x83 => if x83 = true then (if 0 ≤ x6 then (if x6 < (x1.length : Int) then (if 0 ≤ x7 then (if x7 < (x1.length : Int) then (if x5.length < 3518437208883 then (cartoucheref10_Steps.l1 k x0 x1 (x5 ++ [(⟨(rd_T76 x1 x6).f1, (rd_T76 x1 x7).f2, (([(⟨(rd_T76 x1 x6).f0, (rd_T76 x1 x6).f1, (rd_T76 x1 x6).f2, (rd_T76 x1 x6).f3, (rd_T76 x1 x6).f4⟩ : S76), (⟨(rd_T76 x1 x7).f0, (rd_T76 x1 x7).f1, (rd_T76 x1 x7).f2, (rd_T76 x1 x7).f3, (rd_T76 x1 x7).f4⟩ : S76)] : List (S76)))⟩ : S50)]) x6 (wrap64 (x7 + 1))) else (none)) else (none)) else (none)) else (none)) else (none)) else (cartoucheref10_Steps.l1 k x0 x1 x5 x6 (wrap64 (x7 + 1)))
end
def cartoucheref10_Steps.f (k : Nat) (a0 : Int) (l1 : List (S76)) : Option ((List (S50))) := cartoucheref10_Steps.l0 k a0 l1 ([] : List (S50)) 0
theorem cartoucheref10_Steps.mono_l : ∀ k, (∀ y0 y1 y2 y3, LeO (cartoucheref10_Steps.l0 k y0 y1 y2 y3) (cartoucheref10_Steps.l0 (k + 1) y0 y1 y2 y3)) ∧ (∀ y0 y1 y2 y3 y4, LeO (cartoucheref10_Steps.j1 k y0 y1 y2 y3 y4) (cartoucheref10_Steps.j1 (k + 1) y0 y1 y2 y3 y4)) ∧ (∀ y0 y1 y2 y3, LeO (cartoucheref10_Steps.j2 k y0 y1 y2 y3) (cartoucheref10_Steps.j2 (k + 1) y0 y1 y2 y3)) ∧ (∀ y0 y1 y2 y3 y4, LeO (cartoucheref10_Steps.l1 k y0 y1 y2 y3 y4) (cartoucheref10_Steps.l1 (k + 1) y0 y1 y2 y3 y4)) ∧ (∀ y0 y1 y2 y3 y4 y5, LeO (cartoucheref10_Steps.j4 k y0 y1 y2 y3 y4 y5) (cartoucheref10_Steps.j4 (k + 1) y0 y1 y2 y3 y4 y5)) ∧ (∀ y0 y1 y2 y3 y4 y5, LeO (cartoucheref10_Steps.j5 k y0 y1 y2 y3 y4 y5) (cartoucheref10_Steps.j5 (k + 1) y0 y1 y2 y3 y4 y5))
  | 0 => ⟨fun _ _ _ _ r h => by simp [cartoucheref10_Steps.l0] at h, fun _ _ _ _ _ r h => by simp [cartoucheref10_Steps.j1] at h, fun _ _ _ _ r h => by simp [cartoucheref10_Steps.j2] at h, fun _ _ _ _ _ r h => by simp [cartoucheref10_Steps.l1] at h, fun _ _ _ _ _ _ r h => by simp [cartoucheref10_Steps.j4] at h, fun _ _ _ _ _ _ r h => by simp [cartoucheref10_Steps.j5] at h⟩
  | k + 1 => by
    obtain ⟨ih0, ih1, ih2, ih3, ih4, ih5⟩ := cartoucheref10_Steps.mono_l k
    refine ⟨?_, ?_, ?_, ?_, ?_, ?_⟩
    · intro y0 y1 y2 y3
      unfold cartoucheref10_Steps.l0
      repeat' first
      | (with_reducible exact ih0 _ _ _ _)
      | (with_reducible exact ih1 _ _ _ _ _)
      | (with_reducible exact ih2 _ _ _ _)
      | (with_reducible exact ih3 _ _ _ _ _)
      | (with_reducible exact ih4 _ _ _ _ _ _)
      | (with_reducible exact ih5 _ _ _ _ _ _)
      | (with_reducible exact LeO.refl _)
      | (with_reducible exact LeO.none _)
      | (with_reducible refine LeO.ite ?_ ?_)
      | (with_reducible refine LeO.bind ?_ (fun _ => ?_))
      | exact ih0 _ _ _ _
      | exact ih1 _ _ _ _ _
      | exact ih2 _ _ _ _
      | exact ih3 _ _ _ _ _
      | exact ih4 _ _ _ _ _ _
      | exact ih5 _ _ _ _ _ _
      | exact LeO.none _
      | refine LeO.ite ?_ ?_
      | refine LeO.bind ?_ (fun _ => ?_)
    · intro y0 y1 y2 y3 y4
      unfold cartoucheref10_Steps.j1
      repeat' first
      | (with_reducible exact ih0 _ _ _ _)
      | (with_reducible exact ih1 _ _ _ _ _)
      | (with_reducible exact ih2 _ _ _ _)
      | (with_reducible exact ih3 _ _ _ _ _)
      | (with_reducible exact ih4 _ _ _ _ _ _)
      | (with_reducible exact ih5 _ _ _ _ _ _)
      | (with_reducible exact LeO.refl _)
      | (with_reducible exact LeO.none _)
      | (with_reducible refine LeO.ite ?_ ?_)
      | (with_reducible refine LeO.bind ?_ (fun _ => ?_))
      | exact ih0 _ _ _ _
      | exact ih1 _ _ _ _ _
      | exact ih2 _ _ _ _
      | exact ih3 _ _ _ _ _
      | exact ih4 _ _ _ _ _ _
      | exact ih5 _ _ _ _ _ _
      | exact LeO.none _
      | refine LeO.ite ?_ ?_
      | refine LeO.bind ?_ (fun _ => ?_)
    · intro y0 y1 y2 y3
      unfold cartoucheref10_Steps.j2
      repeat' first
      | (with_reducible exact ih0 _ _ _ _)
      | (with_reducible exact ih1 _ _ _ _ _)
      | (with_reducible exact ih2 _ _ _ _)
      | (with_reducible exact ih3 _ _ _ _ _)
      | (with_reducible exact ih4 _ _ _ _ _ _)
      | (with_reducible exact ih5 _ _ _ _ _ _)
      | (with_reducible exact LeO.refl _)
      | (with_reducible exact LeO.none _)
      | (with_reducible refine LeO.ite ?_ ?_)
      | (with_reducible refine LeO.bind ?_ (fun _ => ?_))
      | exact ih0 _ _ _ _
      | exact ih1 _ _ _ _ _
      | exact ih2 _ _ _ _
      | exact ih3 _ _ _ _ _
      | exact ih4 _ _ _ _ _ _
      | exact ih5 _ _ _ _ _ _
      | exact LeO.none _
      | refine LeO.ite ?_ ?_
      | refine LeO.bind ?_ (fun _ => ?_)
    · intro y0 y1 y2 y3 y4
      unfold cartoucheref10_Steps.l1
      repeat' first
      | (with_reducible exact ih0 _ _ _ _)
      | (with_reducible exact ih1 _ _ _ _ _)
      | (with_reducible exact ih2 _ _ _ _)
      | (with_reducible exact ih3 _ _ _ _ _)
      | (with_reducible exact ih4 _ _ _ _ _ _)
      | (with_reducible exact ih5 _ _ _ _ _ _)
      | (with_reducible exact LeO.refl _)
      | (with_reducible exact LeO.none _)
      | (with_reducible refine LeO.ite ?_ ?_)
      | (with_reducible refine LeO.bind ?_ (fun _ => ?_))
      | exact ih0 _ _ _ _
      | exact ih1 _ _ _ _ _
      | exact ih2 _ _ _ _
      | exact ih3 _ _ _ _ _
      | exact ih4 _ _ _ _ _ _
      | exact ih5 _ _ _ _ _ _
      | exact LeO.none _
      | refine LeO.ite ?_ ?_
      | refine LeO.bind ?_ (fun _ => ?_)
    · intro y0 y1 y2 y3 y4 y5
      unfold cartoucheref10_Steps.j4
      repeat' first
      | (with_reducible exact ih0 _ _ _ _)
      | (with_reducible exact ih1 _ _ _ _ _)
      | (with_reducible exact ih2 _ _ _ _)
      | (with_reducible exact ih3 _ _ _ _ _)
      | (with_reducible exact ih4 _ _ _ _ _ _)
      | (with_reducible exact ih5 _ _ _ _ _ _)
      | (with_reducible exact LeO.refl _)
      | (with_reducible exact LeO.none _)
      | (with_reducible refine LeO.ite ?_ ?_)
      | (with_reducible refine LeO.bind ?_ (fun _ => ?_))
      | exact ih0 _ _ _ _
      | exact ih1 _ _ _ _ _
      | exact ih2 _ _ _ _
      | exact ih3 _ _ _ _ _
      | exact ih4 _ _ _ _ _ _
      | exact ih5 _ _ _ _ _ _
      | exact LeO.none _
      | refine LeO.ite ?_ ?_
      | refine LeO.bind ?_ (fun _ => ?_)
    · intro y0 y1 y2 y3 y4 y5
      unfold cartoucheref10_Steps.j5
      repeat' first
      | (with_reducible exact ih0 _ _ _ _)
      | (with_reducible exact ih1 _ _ _ _ _)
      | (with_reducible exact ih2 _ _ _ _)
      | (with_reducible exact ih3 _ _ _ _ _)
      | (with_reducible exact ih4 _ _ _ _ _ _)
      | (with_reducible exact ih5 _ _ _ _ _ _)
      | (with_reducible exact LeO.refl _)
      | (with_reducible exact LeO.none _)
      | (with_reducible refine LeO.ite ?_ ?_)
      | (with_reducible refine LeO.bind ?_ (fun _ => ?_))
      | exact ih0 _ _ _ _
      | exact ih1 _ _ _ _ _
      | exact ih2 _ _ _ _
      | exact ih3 _ _ _ _ _
      | exact ih4 _ _ _ _ _ _
      | exact ih5 _ _ _ _ _ _
      | exact LeO.none _
      | refine LeO.ite ?_ ?_
      | refine LeO.bind ?_ (fun _ => ?_)
theorem cartoucheref10_Steps.mono : ∀ a0 a1 k, LeO (cartoucheref10_Steps.f k a0 a1) (cartoucheref10_Steps.f (k + 1) a0 a1) := by
  intro a0 a1 k
  obtain ⟨ih0, ih1, ih2, ih3, ih4, ih5⟩ := cartoucheref10_Steps.mono_l k
  unfold cartoucheref10_Steps.f
  repeat' first
      | (with_reducible exact ih0 _ _ _ _)
      | (with_reducible exact ih1 _ _ _ _ _)
      | (with_reducible exact ih2 _ _ _ _)
      | (with_reducible exact ih3 _ _ _ _ _)
      | (with_reducible exact ih4 _ _ _ _ _ _)
      | (with_reducible exact ih5 _ _ _ _ _ _)
      | (with_reducible exact LeO.refl _)
      | (with_reducible exact LeO.none _)
      | (with_reducible refine LeO.ite ?_ ?_)
      | (with_reducible refine LeO.bind ?_ (fun _ => ?_))
      | exact ih0 _ _ _ _
      | exact ih1 _ _ _ _ _
      | exact ih2 _ _ _ _
      | exact ih3 _ _ _ _ _
      | exact ih4 _ _ _ _ _ _
      | exact ih5 _ _ _ _ _ _
      | exact LeO.none _
      | refine LeO.ite ?_ ?_
      | refine LeO.bind ?_ (fun _ => ?_)
def cartoucheref10_Steps.T6 : Bool × List (List Nat × List Nat) := (true, [([], []), ([], []), ([], []), ([1, 2], [1, 2]), ([3], [3]), ([4], [4]), ([], []), ([], []), ([6, 7], [6, 7]), ([8], [8]), ([9], [9]), ([], []), ([], []), ([11, 12], [11, 12]), ([13], [13]), ([14], [14]), ([5, 10, 15], [5, 10, 15]), ([16], [16]), ([0, 17], [0, 17]), ([18, 18, 0, 1, 2, 3, 4, 5, 6, 7, 8, 9, 10, 11, 12, 13, 14, 15, 16, 17, 18], [0, 18])])
def cartoucheref10_Steps.B6 : List Nat := [0, 0, 0, 6, 14, 30, 0, 0, 192, 448, 960, 0, 0, 6144, 14336, 30720, 65534, 131070, 262143, 524287]
theorem cartoucheref10_Steps.tab6 : rtab .any (opsOf Try.f75 6) = cartoucheref10_Steps.T6 := by kernel_rfl
theorem cartoucheref10_Steps.bits6 : waitsOk cartoucheref10_Steps.T6.2 cartoucheref10_Steps.B6 = true := by kernel_rfl
def cartoucheref10_Steps.T10 : Bool × List (List Nat × List Nat) := (true, [([], []), ([], []), ([0, 1], [0, 1]), ([2], [2]), ([3], [3]), ([4], [4]), ([5], [5]), ([6], [6]), ([6], [6]), ([7, 8, 6], [6, 7, 8]), ([9, 6], [6, 9]), ([10, 6], [6, 10]), ([6], [6]), ([6], [6]), ([12, 13, 6], [6, 12, 13]), ([14, 6], [6, 14]), ([15, 6], [6, 15]), ([11, 16, 6], [6, 11, 16]), ([6, 17], [6, 17])])
def cartoucheref10_Steps.B10 : List Nat := [0, 0, 3, 7, 15, 31, 63, 127, 127, 511, 1023, 2047, 127, 127, 12415, 28799, 61567, 131071, 262143]
theorem cartoucheref10_Steps.tab10 : rtab .any (opsOf Try.f75 10) = cartoucheref10_Steps.T10 := by kernel_rfl
theorem cartoucheref10_Steps.bits10 : waitsOk cartoucheref10_Steps.T10.2 cartoucheref10_Steps.B10 = true := by kernel_rfl
def cartoucheref10_Steps.T11 : Bool × List (List Nat × List Nat) := (true, [([], []), ([], []), ([], []), ([1, 2], [1, 2]), ([3], [3]), ([4], [4]), ([], []), ([], []), ([6, 7], [6, 7]), ([8], [8]), ([9], [9]), ([], []), ([], []), ([11, 12], [11, 12]), ([13], [13]), ([], []), ([], []), ([15, 16], [15, 16]), ([17], [17]), ([14, 18], [14, 18]), ([5, 10, 19], [5, 10, 19]), ([20], [20]), ([0, 21], [0, 21]), ([22, 22, 0, 1, 2, 3, 4, 5, 6, 7, 8, 9, 10, 11, 12, 13, 14, 15, 16, 17, 18, 19, 20, 21, 22], [0, 22])])
def cartoucheref10_Steps.B11 : List Nat := [0, 0, 0, 6, 14, 30, 0, 0, 192, 448, 960, 0, 0, 6144, 14336, 0, 0, 98304, 229376, 522240, 1048574, 2097150, 4194303, 8388607]
theorem cartoucheref10_Steps.tab11 : rtab .any (opsOf Try.f75 11) = cartoucheref10_Steps.T11 := by kernel_rfl
theorem cartoucheref10_Steps.bits11 : waitsOk cartoucheref10_Steps.T11.2 cartoucheref10_Steps.B11 = true := by kernel_rfl
set_option maxHeartbeats 8000000 in
set_option maxRecDepth 100000 in
theorem cartoucheref10_Steps.calls (k : Nat) (a0 : Int) (A1 : Option Addr) (c1 : Nat) (l1 : List (S76)) (r : List (S50)) (w : World) (hr1 : Kd.C k76 w A1 l1.length l1) (hc1 : l1.length ≤ c1) (h : cartoucheref10_Steps.f k a0 l1 = some r) :
    Calls Try.prog 75 #[.int .i64 a0, .slice A1 l1.length c1] w fun e w' => ∃ v0_ : Value, e = .returned (v0_) ∧ Kd.S k50 50 w' w.heap.size (fun _ => True) v0_ r ∧ Below w.heap.size w w' := by
  have hu76 := Try.underlying76
  have hu50 := Try.underlying50
  have HR1 := Aside0.mk hr1
  have HC1 := Aside0.mk hc1
  clear hr1 hc1
  have HB := Aside0.mk (Below.refl w.heap.size w)
  have H : (cartoucheref10_Steps.l0 k a0 l1 ([] : List (S50)) 0) = some r := h
  clear h
  have H' := Aside0.mk H
  clear H
  go_enter Try.func75, Try.ntmps75
  go_wp2
  go_loopg [5, 6] k (fun kq v5 v6 w' => ∃ (x5_1 : List (S50)) (x6_1 : Int), v6 = .int .i64 x6_1 ∧ Aside0 (cartoucheref10_Steps.l0 kq a0 l1 x5_1 x6_1 = some r) ∧ Aside0 (kq ≤ k) ∧ Aside0 (Kd.S k50 50 w' w.heap.size (fun _ => True) v5 x5_1) ∧ Aside0 (Below w.heap.size w w'))
  case atStart => exact ⟨(([] : List (S50))), (0), (by first | rfl | (simp; done) | (simp [*]; done)), H', ⟨Nat.le_refl _⟩, ⟨by first | exact Kd.S_nil _ _ _ _ _ | exact Kd.N_nil _ _ _ _ _ | exact Kd.V_nil _ _ _ _ _ | exact Kd.Q_nil _ _ _ _ _ | exact Kd.R_nil _ _ _ _ _⟩, ⟨by repeat (first | (with_reducible first | exact HB.out | apply below_alloc | apply pw_below_drewN | apply below_drew1) | exact HB.out)⟩⟩
  case round =>
    clear H'
    try clear c1
    try clear p2
    obtain ⟨x5_1, x6_1, rfl, HA, HK1, HO_5, HB⟩ := hrel
    cases gk with
    | zero => exact absurd HA.out (by simp [cartoucheref10_Steps.l0])
    | succ k1 =>
      have H := HA.out
      clear HA
      simp only [cartoucheref10_Steps.l0] at H
      by_cases c3 : x6_1 < (l1.length : Int)
      · rw [if_pos c3] at H
        have c3b0 : decide (x6_1 < (l1.length : Int)) = true := decide_eq_true c3
        clear c3
        have HC4 := Aside0.mk H
        clear H
        go_upto_region 5 with (fail)
        go_cut [27] (fun v27 wc => ∃ (kq : Nat) (x27_3 : Bool), v27 = .bool x27_3 ∧ Aside0 (cartoucheref10_Steps.j1 kq a0 l1 x5_1 x6_1 x27_3 = some r) ∧ Aside0 (kq ≤ k1) ∧ Aside0 (Kd.S k50 50 wc w.heap.size (fun _ => True) u5 x5_1) ∧ Aside0 (Below w.heap.size w wc))
        case first =>
          have H := HC4.out
          clear HC4
          by_cases c5 : a0 = 1
          · rw [if_pos c5] at H
            have c5b0 : (a0 == 1) = true := beq_iff_eq.mpr c5
            have c5b1 : (a0 != 1) = false := bne_eq_false_iff_eq.mpr c5
            clear c5
            (first | rw [c5b0] | (simp only [i64_w, i32_w]; rw [c5b0]) | skip)
            have H' := Aside0.mk H
            clear H
            go_wp2
            go_meet
            case rel => exact ⟨_, (true), (by first | rfl | (simp; done) | (simp [*]; done)), H', ⟨by have := HK1.out; first | omega | exact Nat.le_refl _⟩, ⟨by (with_reducible repeat (first | apply Kd.S_alloc | apply Kd.S_drewN | apply Kd.S_drew)); exact HO_5.out⟩, ⟨by repeat (first | (with_reducible first | exact HB.out | apply below_alloc | apply pw_below_drewN | apply below_drew1) | exact HB.out)⟩⟩
          · rw [if_neg c5] at H
            have c5b0 : (a0 == 1) = false := beq_eq_false_iff_ne.mpr c5
            have c5b1 : (a0 != 1) = true := bne_iff_ne.mpr c5
            (first | rw [c5b0] | (simp only [i64_w, i32_w]; rw [c5b0]) | skip)
            by_cases c6 : a0 = 2
            · rw [if_pos c6] at H
              have c6b0 : (a0 == 2) = true := beq_iff_eq.mpr c6
              have c6b1 : (a0 != 2) = false := bne_eq_false_iff_eq.mpr c6
              clear c6
              by_cases c7 : 0 ≤ x6_1
              · rw [if_pos c7] at H
                have c7b0 : decide (0 ≤ x6_1) = true := decide_eq_true c7
                clear c7
                have H' := Aside0.mk H
                clear H
                have p783 : 0 ≤ (x6_1 : Int) := of_decide_eq_true (by first | (with_reducible assumption) | assumption)
                have q783 : x6_1 < (l1.length : Int) := of_decide_eq_true (by first | (with_reducible assumption) | assumption)
                obtain ⟨ad783, e783, hx783_0, hx783_1, hx783_2, hx783_3, hx783_4⟩ := at_T76 HR1.out x6_1 p783 q783
                cases e783
                replace hx783_0 := (HB.out.cell (World.block_lt_of_cell? w _ hx783_0)).trans hx783_0
                replace hx783_1 := (HB.out.cell (World.block_lt_of_cell? w _ hx783_1)).trans hx783_1
                replace hx783_2 := (HB.out.cell (World.block_lt_of_cell? w _ hx783_2)).trans hx783_2
                replace hx783_3 := (HB.out.cell (World.block_lt_of_cell? w _ hx783_3)).trans hx783_3
                replace hx783_4 := (HB.out.cell (World.block_lt_of_cell? w _ hx783_4)).trans hx783_4
                replace p783 := eq_true p783
                replace q783 := eq_true q783
                go_wp2
                go_meet
                case rel => exact ⟨_, ((((rd_T76 l1 x6_1).f0) != 3)), (by first | rfl | (simp; done) | (simp [*]; done)), H', ⟨by have := HK1.out; first | omega | exact Nat.le_refl _⟩, ⟨by (with_reducible repeat (first | apply Kd.S_alloc | apply Kd.S_drewN | apply Kd.S_drew)); exact HO_5.out⟩, ⟨by repeat (first | (with_reducible first | exact HB.out | apply below_alloc | apply pw_below_drewN | apply below_drew1) | exact HB.out)⟩⟩
              · rw [if_neg c7] at H
                exact absurd H (by simp)
            · rw [if_neg c6] at H
              have c6b0 : (a0 == 2) = false := beq_eq_false_iff_ne.mpr c6
              have c6b1 : (a0 != 2) = true := bne_iff_ne.mpr c6
              have H' := Aside0.mk H
              clear H
              go_wp2
              go_meet
              case rel => exact ⟨_, (false), (by first | rfl | (simp; done) | (simp [*]; done)), H', ⟨by have := HK1.out; first | omega | exact Nat.le_refl _⟩, ⟨by (with_reducible repeat (first | apply Kd.S_alloc | apply Kd.S_drewN | apply Kd.S_drew)); exact HO_5.out⟩, ⟨by repeat (first | (with_reducible first | exact HB.out | apply below_alloc | apply pw_below_drewN | apply below_drew1) | exact HB.out)⟩⟩
        case rest =>
          clear HC4
          try clear c1
          try clear p2
          try clear c3
          try clear c3b0
          try clear c5
          try clear c5b0
          try clear c5b1
          try clear c6
          try clear c6b0
          try clear c6b1
          try clear c7
          try clear c7b0
          try clear p7
          try clear q7
          try clear hx7
          try clear hx783_0
          try clear hx783_1
          try clear hx783_2
          try clear hx783_3
          try clear hx783_4
          try clear p2
          try clear p783
          try clear q783
          obtain ⟨kq, x27_3, rfl, HA, HJ3, HO_5, HB⟩ := hcut
          cases kq with
          | zero => exact absurd HA.out (by simp [cartoucheref10_Steps.j1])
          | succ kj3 =>
            have H := HA.out
            clear HA
            simp only [cartoucheref10_Steps.j1] at H
            have HC8 := Aside0.mk H
            clear H
            go_upto_if 27 with (fail)
            go_cut [5] (fun v5 wc => ∃ (kq : Nat) (x5_7 : List (S50)), Aside0 (cartoucheref10_Steps.j2 kq a0 l1 x5_7 x6_1 = some r) ∧ Aside0 (kq ≤ kj3) ∧ Aside0 (Kd.S k50 50 wc w.heap.size (fun _ => True) v5 x5_7) ∧ Aside0 (Below w.heap.size w wc))
            case first =>
              have H := HC8.out
              clear HC8
              by_cases c9 : x27_3 = true
              · subst c9
                have H1 : (if 0 ≤ x6_1 then (if x6_1 < (l1.length : Int) then (if x5_1.length < 3518437208883 then (cartoucheref10_Steps.j2 kj3 a0 l1 (x5_1 ++ [(⟨(rd_T76 l1 x6_1).f1, (rd_T76 l1 x6_1).f2, (([(⟨(rd_T76 l1 x6_1).f0, (rd_T76 l1 x6_1).f1, (rd_T76 l1 x6_1).f2, (rd_T76 l1 x6_1).f3, (rd_T76 l1 x6_1).f4⟩ : S76)] : List (S76)))⟩ : S50)]) x6_1) else (none)) else (none)) else (none)) = some r := by rw [if_pos rfl] at H; exact H
                clear H
                have H := H1
                clear H1
                by_cases c10 : 0 ≤ x6_1
                · rw [if_pos c10] at H
                  have c10b0 : decide (0 ≤ x6_1) = true := decide_eq_true c10
                  clear c10
                  (first | rw [c10b0] | (simp only [i64_w, i32_w]; rw [c10b0]) | skip)
                  by_cases c11 : x6_1 < (l1.length : Int)
                  · rw [if_pos c11] at H
                    have c11b0 : decide (x6_1 < (l1.length : Int)) = true := decide_eq_true c11
                    clear c11
                    obtain ⟨y787, hy787⟩ : ∃ y_ : List (S76), y_ = (([(⟨(rd_T76 l1 x6_1).f0, (rd_T76 l1 x6_1).f1, (rd_T76 l1 x6_1).f2, (rd_T76 l1 x6_1).f3, (rd_T76 l1 x6_1).f4⟩ : S76)] : List (S76))) := ⟨_, rfl⟩
                    replace H : (if x5_1.length < 3518437208883 then (cartoucheref10_Steps.j2 kj3 a0 l1 (x5_1 ++ [(⟨(rd_T76 l1 x6_1).f1, (rd_T76 l1 x6_1).f2, y787⟩ : S50)]) x6_1) else (none)) = some r := by first | (rw [hy787]; with_reducible exact H) | (have H2_ := (Option.bind_some _ _).symm.trans H; rw [hy787]; with_reducible exact H2_) | (have H2_ := (Option.bind_some _ _).symm.trans H; with_reducible exact H2_) | with_reducible exact H | (rw [hy787]; exact H) | exact H
                    have Ny787 := Aside0.mk hy787
                    clear hy787
                    by_cases c12 : x5_1.length < 3518437208883
                    · rw [if_pos c12] at H
                      have LMc12 := Aside0.mk c12
                      clear c12
                      obtain ⟨y790, hy790⟩ : ∃ y_ : List (S50), y_ = (x5_1 ++ [(⟨(rd_T76 l1 x6_1).f1, (rd_T76 l1 x6_1).f2, y787⟩ : S50)]) := ⟨_, rfl⟩
                      replace H : (cartoucheref10_Steps.j2 kj3 a0 l1 y790 x6_1) = some r := by first | (rw [hy790]; with_reducible exact H) | (have H2_ := (Option.bind_some _ _).symm.trans H; rw [hy790]; with_reducible exact H2_) | (have H2_ := (Option.bind_some _ _).symm.trans H; with_reducible exact H2_) | with_reducible exact H | (rw [hy790]; exact H) | exact H
                      have Ny790 := Aside0.mk hy790
                      clear hy790
                      have H' := Aside0.mk H
                      clear H
                      try go_wp2
                      have n0_ := Aside0.mk (Kd.S_drew HO_5.out)
                      have n1_ := Aside0.mk (below_drew1 HB.out)
                      clear HO_5
                      clear HB
                      have HO_5 := n0_
                      have HB := n1_
                      clear n0_ n1_
                      have p784 : 0 ≤ (x6_1 : Int) := of_decide_eq_true (by first | (with_reducible assumption) | assumption)
                      have q784 : x6_1 < (l1.length : Int) := of_decide_eq_true (by first | (with_reducible assumption) | assumption)
                      obtain ⟨ad784, e784, hx784_0, hx784_1, hx784_2, hx784_3, hx784_4⟩ := at_T76 HR1.out x6_1 p784 q784
                      have hw784_4 := hx784_4
                      have hw784_3 := hx784_3
                      have hw784_2 := hx784_2
                      have hw784_1 := hx784_1
                      have hw784_0 := hx784_0
                      cases e784
                      replace hx784_0 := (HB.out.cell (World.block_lt_of_cell? w _ hx784_0)).trans hx784_0
                      replace hx784_1 := (HB.out.cell (World.block_lt_of_cell? w _ hx784_1)).trans hx784_1
                      replace hx784_2 := (HB.out.cell (World.block_lt_of_cell? w _ hx784_2)).trans hx784_2
                      replace hx784_3 := (HB.out.cell (World.block_lt_of_cell? w _ hx784_3)).trans hx784_3
                      replace hx784_4 := (HB.out.cell (World.block_lt_of_cell? w _ hx784_4)).trans hx784_4
                      replace p784 := eq_true p784
                      replace q784 := eq_true q784
                      have p785 : 0 ≤ (x6_1 : Int) := of_decide_eq_true (by first | (with_reducible assumption) | assumption)
                      have q785 : x6_1 < (l1.length : Int) := of_decide_eq_true (by first | (with_reducible assumption) | assumption)
                      obtain ⟨ad785, e785, hx785_0, hx785_1, hx785_2, hx785_3, hx785_4⟩ := at_T76 HR1.out x6_1 p785 q785
                      have hw785_4 := hx785_4
                      have hw785_3 := hx785_3
                      have hw785_2 := hx785_2
                      have hw785_1 := hx785_1
                      have hw785_0 := hx785_0
                      obtain rfl : ad784 = ad785 := (by injection e785)
                      replace hx785_0 := (HB.out.cell (World.block_lt_of_cell? w _ hx785_0)).trans hx785_0
                      replace hx785_1 := (HB.out.cell (World.block_lt_of_cell? w _ hx785_1)).trans hx785_1
                      replace hx785_2 := (HB.out.cell (World.block_lt_of_cell? w _ hx785_2)).trans hx785_2
                      replace hx785_3 := (HB.out.cell (World.block_lt_of_cell? w _ hx785_3)).trans hx785_3
                      replace hx785_4 := (HB.out.cell (World.block_lt_of_cell? w _ hx785_4)).trans hx785_4
                      replace p785 := eq_true p785
                      replace q785 := eq_true q785
                      have p786 : 0 ≤ (x6_1 : Int) := of_decide_eq_true (by first | (with_reducible assumption) | assumption)
                      have q786 : x6_1 < (l1.length : Int) := of_decide_eq_true (by first | (with_reducible assumption) | assumption)
                      obtain ⟨ad786, e786, hx786_0, hx786_1, hx786_2, hx786_3, hx786_4⟩ := at_T76 HR1.out x6_1 p786 q786
                      have hw786_4 := hx786_4
                      have hw786_3 := hx786_3
                      have hw786_2 := hx786_2
                      have hw786_1 := hx786_1
                      have hw786_0 := hx786_0
                      obtain rfl : ad784 = ad786 := (by injection e786)
                      replace hx786_0 := (HB.out.cell (World.block_lt_of_cell? w _ hx786_0)).trans hx786_0
                      replace hx786_1 := (HB.out.cell (World.block_lt_of_cell? w _ hx786_1)).trans hx786_1
                      replace hx786_2 := (HB.out.cell (World.block_lt_of_cell? w _ hx786_2)).trans hx786_2
                      replace hx786_3 := (HB.out.cell (World.block_lt_of_cell? w _ hx786_3)).trans hx786_3
                      replace hx786_4 := (HB.out.cell (World.block_lt_of_cell? w _ hx786_4)).trans hx786_4
                      replace p786 := eq_true p786
                      replace q786 := eq_true q786
                      refine start_ (n := 20) (S := fun w' => w'.cell? (ad784.add ((x6_1).toNat * 5)) = some (.int .i64 ((rd_T76 l1 x6_1).f0)) ∧ w'.cell? ⟨(ad784.add ((x6_1).toNat * 5)).block, (ad784.add ((x6_1).toNat * 5)).off + 1, none⟩ = some (.int .i64 ((rd_T76 l1 x6_1).f1)) ∧ w'.cell? ⟨(ad784.add ((x6_1).toNat * 5)).block, (ad784.add ((x6_1).toNat * 5)).off + 2, none⟩ = some (.int .i64 ((rd_T76 l1 x6_1).f2)) ∧ w'.cell? ⟨(ad784.add ((x6_1).toNat * 5)).block, (ad784.add ((x6_1).toNat * 5)).off + 3, none⟩ = some (.int .i64 ((rd_T76 l1 x6_1).f3)) ∧ w'.cell? ⟨(ad784.add ((x6_1).toNat * 5)).block, (ad784.add ((x6_1).toNat * 5)).off + 4, none⟩ = some (.int .i64 ((rd_T76 l1 x6_1).f4)) ∧ w'.cell? (ad784.add ((x6_1).toNat * 5)) = some (.int .i64 ((rd_T76 l1 x6_1).f0)) ∧ w'.cell? ⟨(ad784.add ((x6_1).toNat * 5)).block, (ad784.add ((x6_1).toNat * 5)).off + 1, none⟩ = some (.int .i64 ((rd_T76 l1 x6_1).f1)) ∧ w'.cell? ⟨(ad784.add ((x6_1).toNat * 5)).block, (ad784.add ((x6_1).toNat * 5)).off + 2, none⟩ = some (.int .i64 ((rd_T76 l1 x6_1).f2)) ∧ w'.cell? ⟨(ad784.add ((x6_1).toNat * 5)).block, (ad784.add ((x6_1).toNat * 5)).off + 3, none⟩ = some (.int .i64 ((rd_T76 l1 x6_1).f3)) ∧ w'.cell? ⟨(ad784.add ((x6_1).toNat * 5)).block, (ad784.add ((x6_1).toNat * 5)).off + 4, none⟩ = some (.int .i64 ((rd_T76 l1 x6_1).f4)) ∧ w'.cell? (ad784.add ((x6_1).toNat * 5)) = some (.int .i64 ((rd_T76 l1 x6_1).f0)) ∧ w'.cell? ⟨(ad784.add ((x6_1).toNat * 5)).block, (ad784.add ((x6_1).toNat * 5)).off + 1, none⟩ = some (.int .i64 ((rd_T76 l1 x6_1).f1)) ∧ w'.cell? ⟨(ad784.add ((x6_1).toNat * 5)).block, (ad784.add ((x6_1).toNat * 5)).off + 2, none⟩ = some (.int .i64 ((rd_T76 l1 x6_1).f2)) ∧ w'.cell? ⟨(ad784.add ((x6_1).toNat * 5)).block, (ad784.add ((x6_1).toNat * 5)).off + 3, none⟩ = some (.int .i64 ((rd_T76 l1 x6_1).f3)) ∧ w'.cell? ⟨(ad784.add ((x6_1).toNat * 5)).block, (ad784.add ((x6_1).toNat * 5)).off + 4, none⟩ = some (.int .i64 ((rd_T76 l1 x6_1).f4))) (ds := []) #[false, false, false, false, false, false, false, false, false, false, false, false, false, false, false, false, false, false, false, false] (by kernel_rfl) rfl rfl ⟨((HB.out.cell (World.block_lt_of_cell? w _ hw784_0)).trans hw784_0), ((HB.out.cell (World.block_lt_of_cell? w _ hw784_1)).trans hw784_1), ((HB.out.cell (World.block_lt_of_cell? w _ hw784_2)).trans hw784_2), ((HB.out.cell (World.block_lt_of_cell? w _ hw784_3)).trans hw784_3), ((HB.out.cell (World.block_lt_of_cell? w _ hw784_4)).trans hw784_4), ((HB.out.cell (World.block_lt_of_cell? w _ hw785_0)).trans hw785_0), ((HB.out.cell (World.block_lt_of_cell? w _ hw785_1)).trans hw785_1), ((HB.out.cell (World.block_lt_of_cell? w _ hw785_2)).trans hw785_2), ((HB.out.cell (World.block_lt_of_cell? w _ hw785_3)).trans hw785_3), ((HB.out.cell (World.block_lt_of_cell? w _ hw785_4)).trans hw785_4), ((HB.out.cell (World.block_lt_of_cell? w _ hw786_0)).trans hw786_0), ((HB.out.cell (World.block_lt_of_cell? w _ hw786_1)).trans hw786_1), ((HB.out.cell (World.block_lt_of_cell? w _ hw786_2)).trans hw786_2), ((HB.out.cell (World.block_lt_of_cell? w _ hw786_3)).trans hw786_3), ((HB.out.cell (World.block_lt_of_cell? w _ hw786_4)).trans hw786_4)⟩ (fun hHeld => ?_); refine with_tabW cartoucheref10_Steps.tab6 cartoucheref10_Steps.bits6 (fun HT_ HW_ => ?_)
                      generalize wc.drew = w13 at HO_5 HB hx784_0 hx784_1 hx784_2 hx784_3 hx784_4 hx785_0 hx785_1 hx785_2 hx785_3 hx785_4 hx786_0 hx786_1 hx786_2 hx786_3 hx786_4 hHeld ⊢
                      refine pure_ (i := 0) (N := some 28) (v := ?_) (a' := ?_) #[true, false, false, false, false, false, false, false, false, false, false, false, false, false, false, false, false, false, false, false] rfl rfl (any_of HT_.out (by kernel_rfl)) (fun _ _ _ h => h) (Or.inl ⟨by rfl, ?_⟩) ?_ ?_
                      rotate_left
                      · intro w'
                        go_simp
                        with_reducible rfl
                      rotate_left
                      · simp only [Act.put, List.setIfInBounds_toArray, List.set_cons_zero, List.set_cons_succ, i64_w, i32_w]
                        rfl
                      refine pure_ (i := 1) (N := some 29) (v := ?_) (a' := ?_) #[true, true, false, false, false, false, false, false, false, false, false, false, false, false, false, false, false, false, false, false] rfl rfl (any_of HT_.out (by kernel_rfl)) (fun _ _ _ h => h) (Or.inl ⟨by rfl, ?_⟩) ?_ ?_
                      rotate_left
                      · intro w'
                        go_simp
                        with_reducible rfl
                      rotate_left
                      · simp only [Act.put, List.setIfInBounds_toArray, List.set_cons_zero, List.set_cons_succ, i64_w, i32_w]
                        rfl
                      refine pure_ (i := 2) (N := some 30) (v := ?_) (a' := ?_) #[true, true, true, false, false, false, false, false, false, false, false, false, false, false, false, false, false, false, false, false] rfl rfl (any_of HT_.out (by kernel_rfl)) (fun _ _ _ h => h) (Or.inl ⟨by rfl, ?_⟩) ?_ ?_
                      rotate_left
                      · intro w'
                        go_simp
                        with_reducible rfl
                      rotate_left
                      · simp only [Act.put, List.setIfInBounds_toArray, List.set_cons_zero, List.set_cons_succ, i64_w, i32_w]
                        rfl
                      refine pure_ (i := 3) (N := some 31) (v := ?_) (a' := ?_) #[true, true, true, true, false, false, false, false, false, false, false, false, false, false, false, false, false, false, false, false] rfl rfl (any_of HT_.out (by kernel_rfl)) (fun _ _ _ h => h) (Or.inl ⟨by rfl, ?_⟩) ?_ ?_
                      rotate_left
                      · intro w'
                        go_simp
                        with_reducible rfl
                      rotate_left
                      · simp only [Act.put, List.setIfInBounds_toArray, List.set_cons_zero, List.set_cons_succ, i64_w, i32_w]
                        rfl
                      refine pure_ (i := 4) (N := some 32) (v := ?_) (a' := ?_) #[true, true, true, true, true, false, false, false, false, false, false, false, false, false, false, false, false, false, false, false] rfl rfl (any_of HT_.out (by kernel_rfl)) (fun _ _ _ h => h) (Or.inl ⟨by rfl, ?_⟩) ?_ ?_
                      rotate_left
                      · intro w'
                        go_simp
                        with_reducible rfl
                      rotate_left
                      · simp only [Act.put, List.setIfInBounds_toArray, List.set_cons_zero, List.set_cons_succ, i64_w, i32_w]
                        rfl
                      refine pure_ (i := 6) (N := some 34) (v := ?_) (a' := ?_) #[true, true, true, true, true, false, true, false, false, false, false, false, false, false, false, false, false, false, false, false] rfl rfl (any_of HT_.out (by kernel_rfl)) (fun _ _ _ h => h) (Or.inl ⟨by rfl, ?_⟩) ?_ ?_
                      rotate_left
                      · intro w'
                        go_simp
                        with_reducible rfl
                      rotate_left
                      · simp only [Act.put, List.setIfInBounds_toArray, List.set_cons_zero, List.set_cons_succ, i64_w, i32_w]
                        rfl
                      refine pure_ (i := 7) (N := some 35) (v := ?_) (a' := ?_) #[true, true, true, true, true, false, true, true, false, false, false, false, false, false, false, false, false, false, false, false] rfl rfl (any_of HT_.out (by kernel_rfl)) (fun _ _ _ h => h) (Or.inl ⟨by rfl, ?_⟩) ?_ ?_
                      rotate_left
                      · intro w'
                        go_simp
                        with_reducible rfl
                      rotate_left
                      · simp only [Act.put, List.setIfInBounds_toArray, List.set_cons_zero, List.set_cons_succ, i64_w, i32_w]
                        rfl
                      refine pure_ (i := 8) (N := some 36) (v := ?_) (a' := ?_) #[true, true, true, true, true, false, true, true, true, false, false, false, false, false, false, false, false, false, false, false] rfl rfl (any_of HT_.out (by kernel_rfl)) (fun _ _ _ h => h) (Or.inl ⟨by rfl, ?_⟩) ?_ ?_
                      rotate_left
                      · intro w'
                        go_simp
                        with_reducible rfl
                      rotate_left
                      · simp only [Act.put, List.setIfInBounds_toArray, List.set_cons_zero, List.set_cons_succ, i64_w, i32_w]
                        rfl
                      refine pure_ (i := 9) (N := some 37) (v := ?_) (a' := ?_) #[true, true, true, true, true, false, true, true, true, true, false, false, false, false, false, false, false, false, false, false] rfl rfl (any_of HT_.out (by kernel_rfl)) (fun _ _ _ h => h) (Or.inl ⟨by rfl, ?_⟩) ?_ ?_
                      rotate_left
                      · intro w'
                        go_simp
                        with_reducible rfl
                      rotate_left
                      · simp only [Act.put, List.setIfInBounds_toArray, List.set_cons_zero, List.set_cons_succ, i64_w, i32_w]
                        rfl
                      refine pure_ (i := 11) (N := some 39) (v := ?_) (a' := ?_) #[true, true, true, true, true, false, true, true, true, true, false, true, false, false, false, false, false, false, false, false] rfl rfl (any_of HT_.out (by kernel_rfl)) (fun _ _ _ h => h) (Or.inl ⟨by rfl, ?_⟩) ?_ ?_
                      rotate_left
                      · intro w'
                        go_simp
                        with_reducible rfl
                      rotate_left
                      · simp only [Act.put, List.setIfInBounds_toArray, List.set_cons_zero, List.set_cons_succ, i64_w, i32_w]
                        rfl
                      refine pure_ (i := 12) (N := some 40) (v := ?_) (a' := ?_) #[true, true, true, true, true, false, true, true, true, true, false, true, true, false, false, false, false, false, false, false] rfl rfl (any_of HT_.out (by kernel_rfl)) (fun _ _ _ h => h) (Or.inl ⟨by rfl, ?_⟩) ?_ ?_
                      rotate_left
                      · intro w'
                        go_simp
                        with_reducible rfl
                      rotate_left
                      · simp only [Act.put, List.setIfInBounds_toArray, List.set_cons_zero, List.set_cons_succ, i64_w, i32_w]
                        rfl
                      refine pure_ (i := 13) (N := some 41) (v := ?_) (a' := ?_) #[true, true, true, true, true, false, true, true, true, true, false, true, true, true, false, false, false, false, false, false] rfl rfl (any_of HT_.out (by kernel_rfl)) (fun _ _ _ h => h) (Or.inl ⟨by rfl, ?_⟩) ?_ ?_
                      rotate_left
                      · intro w'
                        go_simp
                        with_reducible rfl
                      rotate_left
                      · simp only [Act.put, List.setIfInBounds_toArray, List.set_cons_zero, List.set_cons_succ, i64_w, i32_w]
                        rfl
                      refine take_ (i := 5) (N := some 33) (v := ?_) (a' := ?_) #[true, true, true, true, true, true, true, true, true, true, false, true, true, true, false, false, false, false, false, false] rfl rfl (take_ofW HT_.out HW_.out (by kernel_rfl)) (fun _ _ _ h => h) (Or.inl ⟨by rfl, ?_⟩) hHeld ?_ ?_
                      rotate_left
                      · rintro w' ⟨s0, s1, s2, s3, s4, s5, s6, s7, s8, s9, s10, s11, s12, s13, s14⟩
                        go_simp
                        with_reducible rfl
                      rotate_left
                      · simp only [Act.put, List.setIfInBounds_toArray, List.set_cons_zero, List.set_cons_succ, i64_w, i32_w]
                        rfl
                      refine take_ (i := 10) (N := some 38) (v := ?_) (a' := ?_) #[true, true, true, true, true, true, true, true, true, true, true, true, true, true, false, false, false, false, false, false] rfl rfl (take_ofW HT_.out HW_.out (by kernel_rfl)) (fun _ _ _ h => h) (Or.inl ⟨by rfl, ?_⟩) hHeld ?_ ?_
                      rotate_left
                      · rintro w' ⟨s0, s1, s2, s3, s4, s5, s6, s7, s8, s9, s10, s11, s12, s13, s14⟩
                        go_simp
                        with_reducible rfl
                      rotate_left
                      · simp only [Act.put, List.setIfInBounds_toArray, List.set_cons_zero, List.set_cons_succ, i64_w, i32_w]
                        rfl
                      refine take_ (i := 14) (N := some 42) (v := ?_) (a' := ?_) #[true, true, true, true, true, true, true, true, true, true, true, true, true, true, true, false, false, false, false, false] rfl rfl (take_ofW HT_.out HW_.out (by kernel_rfl)) (fun _ _ _ h => h) (Or.inl ⟨by rfl, ?_⟩) hHeld ?_ ?_
                      rotate_left
                      · rintro w' ⟨s0, s1, s2, s3, s4, s5, s6, s7, s8, s9, s10, s11, s12, s13, s14⟩
                        go_simp
                        with_reducible rfl
                      rotate_left
                      · simp only [Act.put, List.setIfInBounds_toArray, List.set_cons_zero, List.set_cons_succ, i64_w, i32_w]
                        rfl
                      refine one_ (i := 15) (N := some 43) #[true, true, true, true, true, true, true, true, true, true, true, true, true, true, true, true, false, false, false, false] rfl rfl (one_of HT_.out (by kernel_rfl)) (by decide) (fun K hK => ?_)
                      refine Kd.R_lit_step k76 _ 76 ?hg (N := 43) ?hd (xs := ([(⟨(rd_T76 l1 x6_1).f0, (rd_T76 l1 x6_1).f1, (rd_T76 l1 x6_1).f2, (rd_T76 l1 x6_1).f3, (rd_T76 l1 x6_1).f4⟩ : S76)] : List (S76))) (inner := [.int .i64 ((rd_T76 l1 x6_1).f0), .int .i64 ((rd_T76 l1 x6_1).f1), .int .i64 ((rd_T76 l1 x6_1).f2), .int .i64 ((rd_T76 l1 x6_1).f3), .int .i64 ((rd_T76 l1 x6_1).f4)]) (ok := fun _ => True) (okp := fun _ => True) ?hr ?hp (fun _ hk => hk) trivial (Below.refl _ _) (Nat.le_refl _) (by simp) ?_; (case hd => rfl); (case hg => rfl); (case hr => first | (go_simp; done) | (go_simp; rfl)); (case hp => exact (Reps.c5 (show Kd.M k76 _ _ _ (⟨(rd_T76 l1 x6_1).f0, (rd_T76 l1 x6_1).f1, (rd_T76 l1 x6_1).f2, (rd_T76 l1 x6_1).f3, (rd_T76 l1 x6_1).f4⟩ : S76) [.int .i64 ((rd_T76 l1 x6_1).f0), .int .i64 ((rd_T76 l1 x6_1).f1), .int .i64 ((rd_T76 l1 x6_1).f2), .int .i64 ((rd_T76 l1 x6_1).f3), .int .i64 ((rd_T76 l1 x6_1).f4)] from (k76_mkM _ _ _ (⟨(rd_T76 l1 x6_1).f0, (rd_T76 l1 x6_1).f1, (rd_T76 l1 x6_1).f2, (rd_T76 l1 x6_1).f3, (rd_T76 l1 x6_1).f4⟩ : S76) )) (Reps.none _ _)))
                      intro v788 w14 ho15 hb hg_ hnew_
                      clear hg_ hnew_
                      (first | rw [← Ny787.out] at ho15 | (simp only [Int.reduceToNat] at ho15; rw [← Ny787.out] at ho15))
                      have n0_ := Aside0.mk (Kd.S_elder' (by (with_reducible repeat (first | apply Kd.S_alloc | apply Kd.S_drewN | apply Kd.S_drew)); exact HO_5.out) (Kd.R_base ho15) hb)
                      have n1_ := Aside0.mk (Kd.R_lower ho15 (below_size (by repeat (first | (with_reducible first | exact HB.out | apply below_alloc | apply pw_below_drewN | apply below_drew1) | exact HB.out))))
                      have n2_ := Aside0.mk (below_step (by repeat (first | (with_reducible first | exact HB.out | apply below_alloc | apply pw_below_drewN | apply below_drew1) | exact HB.out)) hb)
                      clear HO_5
                      clear HB
                      have HO_5 := n0_
                      have HO789 := n1_
                      have HB := n2_
                      clear n0_ n1_ n2_
                      clear hb ho15
                      obtain ⟨Ao16, co16, eo16⟩ := Kd.R_slice HO789.out
                      (first | subst eo16 | (injection eo16 with f1_ f2_ f3_; have f4_ := f1_.symm; have f5_ := f3_.symm; clear f1_ f2_ f3_; subst f4_; subst f5_))
                      refine hK.out _ _ ⟨((HB.out.cell (World.block_lt_of_cell? w _ hw784_0)).trans hw784_0), ((HB.out.cell (World.block_lt_of_cell? w _ hw784_1)).trans hw784_1), ((HB.out.cell (World.block_lt_of_cell? w _ hw784_2)).trans hw784_2), ((HB.out.cell (World.block_lt_of_cell? w _ hw784_3)).trans hw784_3), ((HB.out.cell (World.block_lt_of_cell? w _ hw784_4)).trans hw784_4), ((HB.out.cell (World.block_lt_of_cell? w _ hw785_0)).trans hw785_0), ((HB.out.cell (World.block_lt_of_cell? w _ hw785_1)).trans hw785_1), ((HB.out.cell (World.block_lt_of_cell? w _ hw785_2)).trans hw785_2), ((HB.out.cell (World.block_lt_of_cell? w _ hw785_3)).trans hw785_3), ((HB.out.cell (World.block_lt_of_cell? w _ hw785_4)).trans hw785_4), ((HB.out.cell (World.block_lt_of_cell? w _ hw786_0)).trans hw786_0), ((HB.out.cell (World.block_lt_of_cell? w _ hw786_1)).trans hw786_1), ((HB.out.cell (World.block_lt_of_cell? w _ hw786_2)).trans hw786_2), ((HB.out.cell (World.block_lt_of_cell? w _ hw786_3)).trans hw786_3), ((HB.out.cell (World.block_lt_of_cell? w _ hw786_4)).trans hw786_4)⟩ (fun hHeld => ?_)
                      clear hK K
                      refine norm_ (a' := ?_) ?_ ?_
                      rotate_left
                      · show Act.put _ (some 43) _ = _
                        simp only [Act.put, List.setIfInBounds_toArray, List.set_cons_zero, List.set_cons_succ, i64_w, i32_w]
                        rfl
                      refine pure_ (i := 16) (N := some 44) (v := ?_) (a' := ?_) #[true, true, true, true, true, true, true, true, true, true, true, true, true, true, true, true, true, false, false, false] rfl rfl (any_of HT_.out (by kernel_rfl)) (fun _ _ _ h => h) (Or.inl ⟨by rfl, ?_⟩) ?_ ?_
                      rotate_left
                      · intro w'
                        go_simp
                        with_reducible rfl
                      rotate_left
                      · simp only [Act.put, List.setIfInBounds_toArray, List.set_cons_zero, List.set_cons_succ, i64_w, i32_w]
                        rfl
                      refine one_ (i := 17) (N := some 45) #[true, true, true, true, true, true, true, true, true, true, true, true, true, true, true, true, true, true, false, false] rfl rfl (one_of HT_.out (by kernel_rfl)) (by decide) (fun K hK => ?_)
                      refine value_ (w1 := ?_) (v := ?_) (by rfl) rfl ?_ ?_
                      rotate_left 2
                      · go_simp
                        constructor
                        · rfl
                        · rfl
                      refine hK.out _ _ ⟨(World.cell?_alloc_lt _ _ _ (World.block_lt_of_cell? _ _ (((HB.out.cell (World.block_lt_of_cell? w _ hw784_0)).trans hw784_0)))).trans (((HB.out.cell (World.block_lt_of_cell? w _ hw784_0)).trans hw784_0)), (World.cell?_alloc_lt _ _ _ (World.block_lt_of_cell? _ _ (((HB.out.cell (World.block_lt_of_cell? w _ hw784_1)).trans hw784_1)))).trans (((HB.out.cell (World.block_lt_of_cell? w _ hw784_1)).trans hw784_1)), (World.cell?_alloc_lt _ _ _ (World.block_lt_of_cell? _ _ (((HB.out.cell (World.block_lt_of_cell? w _ hw784_2)).trans hw784_2)))).trans (((HB.out.cell (World.block_lt_of_cell? w _ hw784_2)).trans hw784_2)), (World.cell?_alloc_lt _ _ _ (World.block_lt_of_cell? _ _ (((HB.out.cell (World.block_lt_of_cell? w _ hw784_3)).trans hw784_3)))).trans (((HB.out.cell (World.block_lt_of_cell? w _ hw784_3)).trans hw784_3)), (World.cell?_alloc_lt _ _ _ (World.block_lt_of_cell? _ _ (((HB.out.cell (World.block_lt_of_cell? w _ hw784_4)).trans hw784_4)))).trans (((HB.out.cell (World.block_lt_of_cell? w _ hw784_4)).trans hw784_4)), (World.cell?_alloc_lt _ _ _ (World.block_lt_of_cell? _ _ (((HB.out.cell (World.block_lt_of_cell? w _ hw785_0)).trans hw785_0)))).trans (((HB.out.cell (World.block_lt_of_cell? w _ hw785_0)).trans hw785_0)), (World.cell?_alloc_lt _ _ _ (World.block_lt_of_cell? _ _ (((HB.out.cell (World.block_lt_of_cell? w _ hw785_1)).trans hw785_1)))).trans (((HB.out.cell (World.block_lt_of_cell? w _ hw785_1)).trans hw785_1)), (World.cell?_alloc_lt _ _ _ (World.block_lt_of_cell? _ _ (((HB.out.cell (World.block_lt_of_cell? w _ hw785_2)).trans hw785_2)))).trans (((HB.out.cell (World.block_lt_of_cell? w _ hw785_2)).trans hw785_2)), (World.cell?_alloc_lt _ _ _ (World.block_lt_of_cell? _ _ (((HB.out.cell (World.block_lt_of_cell? w _ hw785_3)).trans hw785_3)))).trans (((HB.out.cell (World.block_lt_of_cell? w _ hw785_3)).trans hw785_3)), (World.cell?_alloc_lt _ _ _ (World.block_lt_of_cell? _ _ (((HB.out.cell (World.block_lt_of_cell? w _ hw785_4)).trans hw785_4)))).trans (((HB.out.cell (World.block_lt_of_cell? w _ hw785_4)).trans hw785_4)), (World.cell?_alloc_lt _ _ _ (World.block_lt_of_cell? _ _ (((HB.out.cell (World.block_lt_of_cell? w _ hw786_0)).trans hw786_0)))).trans (((HB.out.cell (World.block_lt_of_cell? w _ hw786_0)).trans hw786_0)), (World.cell?_alloc_lt _ _ _ (World.block_lt_of_cell? _ _ (((HB.out.cell (World.block_lt_of_cell? w _ hw786_1)).trans hw786_1)))).trans (((HB.out.cell (World.block_lt_of_cell? w _ hw786_1)).trans hw786_1)), (World.cell?_alloc_lt _ _ _ (World.block_lt_of_cell? _ _ (((HB.out.cell (World.block_lt_of_cell? w _ hw786_2)).trans hw786_2)))).trans (((HB.out.cell (World.block_lt_of_cell? w _ hw786_2)).trans hw786_2)), (World.cell?_alloc_lt _ _ _ (World.block_lt_of_cell? _ _ (((HB.out.cell (World.block_lt_of_cell? w _ hw786_3)).trans hw786_3)))).trans (((HB.out.cell (World.block_lt_of_cell? w _ hw786_3)).trans hw786_3)), (World.cell?_alloc_lt _ _ _ (World.block_lt_of_cell? _ _ (((HB.out.cell (World.block_lt_of_cell? w _ hw786_4)).trans hw786_4)))).trans (((HB.out.cell (World.block_lt_of_cell? w _ hw786_4)).trans hw786_4))⟩ (fun hHeld => ?_)
                      clear hK K
                      refine norm_ (a' := ?_) ?_ ?_
                      rotate_left
                      · show Act.put _ (some 45) _ = _
                        simp only [Act.put, List.setIfInBounds_toArray, List.set_cons_zero, List.set_cons_succ, i64_w, i32_w]
                        rfl
                      refine one_ (i := 18) (N := some 46) #[true, true, true, true, true, true, true, true, true, true, true, true, true, true, true, true, true, true, true, false] rfl rfl (one_of HT_.out (by kernel_rfl)) (by decide) (fun K hK => ?_)
                      refine Kd.S_append_step k50 (w0 := w) w.heap.size (by rfl) (.tmp 28) (.tmp 45) 43 50 (.agg #[(.int .i64 0), (.int .i64 0), (.slice none 0 0)]) 40 rfl Try.underlying43 info50 rfl (by decide) (by omega) u5 x5_1 (⟨(rd_T76 l1 x6_1).f1, (rd_T76 l1 x6_1).f2, y787⟩ : S50) [.int .i64 ((rd_T76 l1 x6_1).f1), .int .i64 ((rd_T76 l1 x6_1).f2), .slice Ao16 y787.length co16] (fun _ => True) (fun k_ => some k_ = (.slice Ao16 y787.length co16 : Value).ownBlock) rfl rfl ?aP (fun k_ hk_ => ((Kd.R_mono (ok' := fun k_ => ((fun _ => True)) k_ ∧ some k_ ≠ (u5 : Value).ownBlock) (Kd.R_apart' (HO789.out) (Kd.S_typed HO_5.out) (by decide)) (fun k_ hk => ⟨trivial, hk.2⟩))).1 k_ hk_.symm) ?aF ?aO ?aB ?aS ?aL ?_
                      (case aP => exact k50_mkM _ _ _ (⟨(rd_T76 l1 x6_1).f1, (rd_T76 l1 x6_1).f2, y787⟩ : S50) (Kd.R_mono (Kd.R_tight rfl (Kd.R_mono (ok' := fun k_ => ((fun _ => True)) k_ ∧ some k_ ≠ (u5 : Value).ownBlock) (Kd.R_apart' (HO789.out) (Kd.S_typed HO_5.out) (by decide)) (fun k_ hk => ⟨trivial, hk.2⟩))) (fun _ h_ => h_)))
                      (case aB => exact (by repeat (first | (with_reducible first | exact HB.out | apply below_alloc | apply pw_below_drewN | apply below_drew1) | exact HB.out)))
                      (case aF => exact (fun _ _ => trivial))
                      (case aO => exact (by (with_reducible repeat (first | apply Kd.S_alloc | apply Kd.S_drewN | apply Kd.S_drew)); exact Kd.S_mono HO_5.out (fun k_ hk => ⟨trivial, fun e_ => hk.2 e_⟩)))
                      (case aS => exact (below_size (by repeat (first | (with_reducible first | exact HB.out | apply below_alloc | apply pw_below_drewN | apply below_drew1) | exact HB.out))))
                      (case aL => have := LMc12.out; omega)
                      intro v791 w17 ho hb hg hat
                      rw [← Ny790.out] at ho
                      have n0_ := Aside0.mk (hb)
                      have n1_ := Aside0.mk (ho)
                      clear HB
                      clear HO_5
                      clear HO789
                      have HB := n0_
                      have HO792 := n1_
                      clear n0_ n1_
                      clear ho hb hg hat
                      refine hK.out _ _ ⟨((HB.out.cell (World.block_lt_of_cell? w _ hw784_0)).trans hw784_0), ((HB.out.cell (World.block_lt_of_cell? w _ hw784_1)).trans hw784_1), ((HB.out.cell (World.block_lt_of_cell? w _ hw784_2)).trans hw784_2), ((HB.out.cell (World.block_lt_of_cell? w _ hw784_3)).trans hw784_3), ((HB.out.cell (World.block_lt_of_cell? w _ hw784_4)).trans hw784_4), ((HB.out.cell (World.block_lt_of_cell? w _ hw785_0)).trans hw785_0), ((HB.out.cell (World.block_lt_of_cell? w _ hw785_1)).trans hw785_1), ((HB.out.cell (World.block_lt_of_cell? w _ hw785_2)).trans hw785_2), ((HB.out.cell (World.block_lt_of_cell? w _ hw785_3)).trans hw785_3), ((HB.out.cell (World.block_lt_of_cell? w _ hw785_4)).trans hw785_4), ((HB.out.cell (World.block_lt_of_cell? w _ hw786_0)).trans hw786_0), ((HB.out.cell (World.block_lt_of_cell? w _ hw786_1)).trans hw786_1), ((HB.out.cell (World.block_lt_of_cell? w _ hw786_2)).trans hw786_2), ((HB.out.cell (World.block_lt_of_cell? w _ hw786_3)).trans hw786_3), ((HB.out.cell (World.block_lt_of_cell? w _ hw786_4)).trans hw786_4)⟩ (fun hHeld => ?_)
                      clear hK K
                      refine norm_ (a' := ?_) ?_ ?_
                      rotate_left
                      · show Act.put _ (some 46) _ = _
                        simp only [Act.put, List.setIfInBounds_toArray, List.set_cons_zero, List.set_cons_succ, i64_w, i32_w]
                        rfl
                      refine pure_ (i := 19) (N := some 5) (v := ?_) (a' := ?_) #[true, true, true, true, true, true, true, true, true, true, true, true, true, true, true, true, true, true, true, true] rfl rfl (any_of HT_.out (by kernel_rfl)) (fun _ _ _ h => h) (Or.inl ⟨by rfl, ?_⟩) ?_ ?_
                      rotate_left
                      · intro w'
                        go_simp
                        with_reducible rfl
                      rotate_left
                      · simp only [Act.put, List.setIfInBounds_toArray, List.set_cons_zero, List.set_cons_succ, i64_w, i32_w]
                        rfl
                      refine done_ (done_of HT_.out (by kernel_rfl)) ?_
                      try go_wp2
                      go_meet
                      case rel => exact ⟨_, (y790), H', ⟨by have := HK1.out; have := HJ3.out; first | omega | exact Nat.le_refl _⟩, ⟨by (with_reducible repeat (first | apply Kd.S_alloc | apply Kd.S_drewN | apply Kd.S_drew)); exact HO792.out⟩, ⟨by repeat (first | (with_reducible first | exact HB.out | apply below_alloc | apply pw_below_drewN | apply below_drew1) | exact HB.out)⟩⟩
                    · rw [if_neg c12] at H
                      exact absurd H (by simp)
                  · rw [if_neg c11] at H
                    exact absurd H (by simp)
                · rw [if_neg c10] at H
                  exact absurd H (by simp)
              · replace c9 := Bool.eq_false_iff.mpr c9
                subst c9
                have H1 : (cartoucheref10_Steps.j2 kj3 a0 l1 x5_1 x6_1) = some r := by rw [if_neg (show ¬ (false = true) by decide)] at H; exact H
                clear H
                have H := H1
                clear H1
                have H' := Aside0.mk H
                clear H
                go_wp2
                go_meet
                case rel => exact ⟨_, (x5_1), H', ⟨by have := HK1.out; have := HJ3.out; first | omega | exact Nat.le_refl _⟩, ⟨by (with_reducible repeat (first | apply Kd.S_alloc | apply Kd.S_drewN | apply Kd.S_drew)); exact HO_5.out⟩, ⟨by repeat (first | (with_reducible first | exact HB.out | apply below_alloc | apply pw_below_drewN | apply below_drew1) | exact HB.out)⟩⟩
            case rest =>
              clear HC8
              try clear c1
              try clear p2
              try clear c3
              try clear c3b0
              try clear c5
              try clear c5b0
              try clear c5b1
              try clear c6
              try clear c6b0
              try clear c6b1
              try clear c7
              try clear c7b0
              try clear p7
              try clear q7
              try clear hx7
              try clear c9
              try clear c10
              try clear c10b0
              try clear c11
              try clear c11b0
              try clear c12
              try clear hx783_0
              try clear hx783_1
              try clear hx783_2
              try clear hx783_3
              try clear hx783_4
              try clear hx784_0
              try clear hx784_1
              try clear hx784_2
              try clear hx784_3
              try clear hx784_4
              try clear hx785_0
              try clear hx785_1
              try clear hx785_2
              try clear hx785_3
              try clear hx785_4
              try clear hx786_0
              try clear hx786_1
              try clear hx786_2
              try clear hx786_3
              try clear hx786_4
              try clear p2
              try clear p7
              try clear p783
              try clear p784
              try clear p785
              try clear p786
              try clear q7
              try clear q783
              try clear q784
              try clear q785
              try clear q786
              obtain ⟨kq, x5_7, HA, HJ7, HO_5, HB⟩ := hcut
              cases kq with
              | zero => exact absurd HA.out (by simp [cartoucheref10_Steps.j2])
              | succ kj7 =>
                have H := HA.out
                clear HA
                simp only [cartoucheref10_Steps.j2] at H
                have H' := Aside0.mk H
                clear H
                go_wp2
                go_loopg [5, 7] kj7 (fun kq v5 v7 w' => ∃ (x5_4 : List (S50)) (x7_4 : Int), v7 = .int .i64 x7_4 ∧ Aside0 (cartoucheref10_Steps.l1 kq a0 l1 x5_4 x6_1 x7_4 = some r) ∧ Aside0 (kq ≤ kj7) ∧ Aside0 (Kd.S k50 50 w' w.heap.size (fun _ => True) v5 x5_4) ∧ Aside0 (Below w.heap.size w w'))
                case atStart => exact ⟨(x5_7), (0), (by first | rfl | (simp; done) | (simp [*]; done)), H', ⟨Nat.le_refl _⟩, ⟨by (with_reducible repeat (first | apply Kd.S_alloc | apply Kd.S_drewN | apply Kd.S_drew)); exact HO_5.out⟩, ⟨by repeat (first | (with_reducible first | exact HB.out | apply below_alloc | apply pw_below_drewN | apply below_drew1) | exact HB.out)⟩⟩
                case round =>
                  clear H'
                  try clear c1
                  try clear p2
                  try clear c3
                  try clear c3b0
                  try clear c5
                  try clear c5b0
                  try clear c5b1
                  try clear c6
                  try clear c6b0
                  try clear c6b1
                  try clear c7
                  try clear c7b0
                  try clear p7
                  try clear q7
                  try clear hx7
                  try clear c9
                  try clear c10
                  try clear c10b0
                  try clear c11
                  try clear c11b0
                  try clear c12
                  try clear hx783_0
                  try clear hx783_1
                  try clear hx783_2
                  try clear hx783_3
                  try clear hx783_4
                  try clear hx784_0
                  try clear hx784_1
                  try clear hx784_2
                  try clear hx784_3
                  try clear hx784_4
                  try clear hx785_0
                  try clear hx785_1
                  try clear hx785_2
                  try clear hx785_3
                  try clear hx785_4
                  try clear hx786_0
                  try clear hx786_1
                  try clear hx786_2
                  try clear hx786_3
                  try clear hx786_4
                  try clear p2
                  try clear p7
                  try clear p783
                  try clear p784
                  try clear p785
                  try clear p786
                  try clear q7
                  try clear q783
                  try clear q784
                  try clear q785
                  try clear q786
                  obtain ⟨x5_4, x7_4, rfl, HA, HK4, HO_5, HB⟩ := hrel
                  cases gk with
                  | zero => exact absurd HA.out (by simp [cartoucheref10_Steps.l1])
                  | succ k4 =>
                    have H := HA.out
                    clear HA
                    simp only [cartoucheref10_Steps.l1] at H
                    have HC18 := Aside0.mk H
                    clear H
                    go_upto_region 8 with (fail)
                    go_cut [62] (fun v62 wc => ∃ (kq : Nat) (x62_17 : Bool), v62 = .bool x62_17 ∧ Aside0 (cartoucheref10_Steps.j4 kq a0 l1 x5_4 x6_1 x7_4 x62_17 = some r) ∧ Aside0 (kq ≤ k4) ∧ Aside0 (Kd.S k50 50 wc w.heap.size (fun _ => True) u5 x5_4) ∧ Aside0 (Below w.heap.size w wc))
                    case first =>
                      have H := HC18.out
                      clear HC18
                      by_cases c19 : x7_4 < (l1.length : Int)
                      · rw [if_pos c19] at H
                        have c19b0 : decide (x7_4 < (l1.length : Int)) = true := decide_eq_true c19
                        clear c19
                        (first | rw [c19b0] | (simp only [i64_w, i32_w]; rw [c19b0]) | skip)
                        by_cases c20 : a0 = 2
                        · rw [if_pos c20] at H
                          have c20b0 : (a0 == 2) = true := beq_iff_eq.mpr c20
                          have c20b1 : (a0 != 2) = false := bne_eq_false_iff_eq.mpr c20
                          clear c20
                          by_cases c21 : 0 ≤ x6_1
                          · rw [if_pos c21] at H
                            have c21b0 : decide (0 ≤ x6_1) = true := decide_eq_true c21
                            clear c21
                            by_cases c22 : x6_1 < (l1.length : Int)
                            · rw [if_pos c22] at H
                              have c22b0 : decide (x6_1 < (l1.length : Int)) = true := decide_eq_true c22
                              clear c22
                              have H' := Aside0.mk H
                              clear H
                              have p793 : 0 ≤ (x6_1 : Int) := of_decide_eq_true (by first | (with_reducible assumption) | assumption)
                              have q793 : x6_1 < (l1.length : Int) := of_decide_eq_true (by first | (with_reducible assumption) | assumption)
                              obtain ⟨ad793, e793, hx793_0, hx793_1, hx793_2, hx793_3, hx793_4⟩ := at_T76 HR1.out x6_1 p793 q793
                              cases e793
                              replace hx793_0 := (HB.out.cell (World.block_lt_of_cell? w _ hx793_0)).trans hx793_0
                              replace hx793_1 := (HB.out.cell (World.block_lt_of_cell? w _ hx793_1)).trans hx793_1
                              replace hx793_2 := (HB.out.cell (World.block_lt_of_cell? w _ hx793_2)).trans hx793_2
                              replace hx793_3 := (HB.out.cell (World.block_lt_of_cell? w _ hx793_3)).trans hx793_3
                              replace hx793_4 := (HB.out.cell (World.block_lt_of_cell? w _ hx793_4)).trans hx793_4
                              replace p793 := eq_true p793
                              replace q793 := eq_true q793
                              go_wp2
                              go_meet
                              case rel => exact ⟨_, ((((rd_T76 l1 x6_1).f0) != 3)), (by first | rfl | (simp; done) | (simp [*]; done)), H', ⟨by have := HK1.out; have := HJ3.out; have := HJ7.out; have := HK4.out; first | omega | exact Nat.le_refl _⟩, ⟨by (with_reducible repeat (first | apply Kd.S_alloc | apply Kd.S_drewN | apply Kd.S_drew)); exact HO_5.out⟩, ⟨by repeat (first | (with_reducible first | exact HB.out | apply below_alloc | apply pw_below_drewN | apply below_drew1) | exact HB.out)⟩⟩
                            · rw [if_neg c22] at H
                              exact absurd H (by simp)
                          · rw [if_neg c21] at H
                            exact absurd H (by simp)
                        · rw [if_neg c20] at H
                          have c20b0 : (a0 == 2) = false := beq_eq_false_iff_ne.mpr c20
                          have c20b1 : (a0 != 2) = true := bne_iff_ne.mpr c20
                          have H' := Aside0.mk H
                          clear H
                          go_wp2
                          go_meet
                          case rel => exact ⟨_, (false), (by first | rfl | (simp; done) | (simp [*]; done)), H', ⟨by have := HK1.out; have := HJ3.out; have := HJ7.out; have := HK4.out; first | omega | exact Nat.le_refl _⟩, ⟨by (with_reducible repeat (first | apply Kd.S_alloc | apply Kd.S_drewN | apply Kd.S_drew)); exact HO_5.out⟩, ⟨by repeat (first | (with_reducible first | exact HB.out | apply below_alloc | apply pw_below_drewN | apply below_drew1) | exact HB.out)⟩⟩
                      · rw [if_neg c19] at H
                        have c19b0 : decide (x7_4 < (l1.length : Int)) = false := decide_eq_false c19
                        clear c19
                        (first | rw [c19b0] | (simp only [i64_w, i32_w]; rw [c19b0]) | skip)
                        have H' := Aside0.mk H
                        clear H
                        go_wp2
                        go_meet
                        case rel => exact ⟨_, (false), (by first | rfl | (simp; done) | (simp [*]; done)), H', ⟨by have := HK1.out; have := HJ3.out; have := HJ7.out; have := HK4.out; first | omega | exact Nat.le_refl _⟩, ⟨by (with_reducible repeat (first | apply Kd.S_alloc | apply Kd.S_drewN | apply Kd.S_drew)); exact HO_5.out⟩, ⟨by repeat (first | (with_reducible first | exact HB.out | apply below_alloc | apply pw_below_drewN | apply below_drew1) | exact HB.out)⟩⟩
                    case rest =>
                      clear HC18
                      try clear c1
                      try clear c2
                      try clear p2
                      try clear c3
                      try clear c3b0
                      try clear c5
                      try clear c5b0
                      try clear c5b1
                      try clear c6
                      try clear c6b0
                      try clear c6b1
                      try clear c7
                      try clear c7b0
                      try clear p7
                      try clear q7
                      try clear hx7
                      try clear c9
                      try clear c10
                      try clear c10b0
                      try clear c11
                      try clear c11b0
                      try clear c12
                      try clear c19
                      try clear c19b0
                      try clear c20
                      try clear c20b0
                      try clear c20b1
                      try clear c21
                      try clear c21b0
                      try clear c22
                      try clear c22b0
                      try clear hx783_0
                      try clear hx783_1
                      try clear hx783_2
                      try clear hx783_3
                      try clear hx783_4
                      try clear hx784_0
                      try clear hx784_1
                      try clear hx784_2
                      try clear hx784_3
                      try clear hx784_4
                      try clear hx785_0
                      try clear hx785_1
                      try clear hx785_2
                      try clear hx785_3
                      try clear hx785_4
                      try clear hx786_0
                      try clear hx786_1
                      try clear hx786_2
                      try clear hx786_3
                      try clear hx786_4
                      try clear hx793_0
                      try clear hx793_1
                      try clear hx793_2
                      try clear hx793_3
                      try clear hx793_4
                      try clear p2
                      try clear p7
                      try clear p783
                      try clear p784
                      try clear p785
                      try clear p786
                      try clear p793
                      try clear q7
                      try clear q783
                      try clear q784
                      try clear q785
                      try clear q786
                      try clear q793
                      obtain ⟨kq, x62_17, rfl, HA, HJ17, HO_5, HB⟩ := hcut
                      cases kq with
                      | zero => exact absurd HA.out (by simp [cartoucheref10_Steps.j4])
                      | succ kj17 =>
                        have H := HA.out
                        clear HA
                        simp only [cartoucheref10_Steps.j4] at H
                        by_cases c23 : x62_17 = true
                        · subst c23
                          have H1 : (if 0 ≤ x7_4 then (if x7_4 < (l1.length : Int) then (if ((rd_T76 l1 x7_4).f0) = 3 then (if 0 ≤ x6_1 then (if x6_1 < (l1.length : Int) then (cartoucheref10_Steps.j5 kj17 a0 l1 x5_4 x6_1 x7_4 (((rd_T76 l1 x7_4).f1) == ((rd_T76 l1 x6_1).f2))) else (none)) else (none)) else (cartoucheref10_Steps.j5 kj17 a0 l1 x5_4 x6_1 x7_4 false)) else (none)) else (none)) = some r := by rw [if_pos rfl] at H; exact H
                          clear H
                          have H := H1
                          clear H1
                          have HC24 := Aside0.mk H
                          clear H
                          go_upto_region 10 with (fail)
                          go_cut [83] (fun v83 wc => ∃ (kq : Nat) (x83_23 : Bool), v83 = .bool x83_23 ∧ Aside0 (cartoucheref10_Steps.j5 kq a0 l1 x5_4 x6_1 x7_4 x83_23 = some r) ∧ Aside0 (kq ≤ kj17) ∧ Aside0 (Kd.S k50 50 wc w.heap.size (fun _ => True) u5 x5_4) ∧ Aside0 (Below w.heap.size w wc))
                          case first =>
                            have H := HC24.out
                            clear HC24
                            by_cases c25 : 0 ≤ x7_4
                            · rw [if_pos c25] at H
                              have c25b0 : decide (0 ≤ x7_4) = true := decide_eq_true c25
                              clear c25
                              (first | rw [c25b0] | (simp only [i64_w, i32_w]; rw [c25b0]) | skip)
                              by_cases c26 : x7_4 < (l1.length : Int)
                              · rw [if_pos c26] at H
                                have c26b0 : decide (x7_4 < (l1.length : Int)) = true := decide_eq_true c26
                                clear c26
                                by_cases c27 : ((rd_T76 l1 x7_4).f0) = 3
                                · rw [if_pos c27] at H
                                  have c27b0 : (((rd_T76 l1 x7_4).f0) == 3) = true := beq_iff_eq.mpr c27
                                  have c27b1 : (((rd_T76 l1 x7_4).f0) != 3) = false := bne_eq_false_iff_eq.mpr c27
                                  clear c27
                                  by_cases c28 : 0 ≤ x6_1
                                  · rw [if_pos c28] at H
                                    have c28b0 : decide (0 ≤ x6_1) = true := decide_eq_true c28
                                    clear c28
                                    by_cases c29 : x6_1 < (l1.length : Int)
                                    · rw [if_pos c29] at H
                                      have c29b0 : decide (x6_1 < (l1.length : Int)) = true := decide_eq_true c29
                                      clear c29
                                      have H' := Aside0.mk H
                                      clear H
                                      try go_wp2
                                      have n0_ := Aside0.mk (Kd.S_drew HO_5.out)
                                      have n1_ := Aside0.mk (below_drew1 HB.out)
                                      clear HO_5
                                      clear HB
                                      have HO_5 := n0_
                                      have HB := n1_
                                      clear n0_ n1_
                                      have p794 : 0 ≤ (x7_4 : Int) := of_decide_eq_true (by first | (with_reducible assumption) | assumption)
                                      have q794 : x7_4 < (l1.length : Int) := of_decide_eq_true (by first | (with_reducible assumption) | assumption)
                                      obtain ⟨ad794, e794, hx794_0, hx794_1, hx794_2, hx794_3, hx794_4⟩ := at_T76 HR1.out x7_4 p794 q794
                                      have hw794_4 := hx794_4
                                      have hw794_3 := hx794_3
                                      have hw794_2 := hx794_2
                                      have hw794_1 := hx794_1
                                      have hw794_0 := hx794_0
                                      cases e794
                                      replace hx794_0 := (HB.out.cell (World.block_lt_of_cell? w _ hx794_0)).trans hx794_0
                                      replace hx794_1 := (HB.out.cell (World.block_lt_of_cell? w _ hx794_1)).trans hx794_1
                                      replace hx794_2 := (HB.out.cell (World.block_lt_of_cell? w _ hx794_2)).trans hx794_2
                                      replace hx794_3 := (HB.out.cell (World.block_lt_of_cell? w _ hx794_3)).trans hx794_3
                                      replace hx794_4 := (HB.out.cell (World.block_lt_of_cell? w _ hx794_4)).trans hx794_4
                                      replace p794 := eq_true p794
                                      replace q794 := eq_true q794
                                      have p795 : 0 ≤ (x7_4 : Int) := of_decide_eq_true (by first | (with_reducible assumption) | assumption)
                                      have q795 : x7_4 < (l1.length : Int) := of_decide_eq_true (by first | (with_reducible assumption) | assumption)
                                      obtain ⟨ad795, e795, hx795_0, hx795_1, hx795_2, hx795_3, hx795_4⟩ := at_T76 HR1.out x7_4 p795 q795
                                      have hw795_4 := hx795_4
                                      have hw795_3 := hx795_3
                                      have hw795_2 := hx795_2
                                      have hw795_1 := hx795_1
                                      have hw795_0 := hx795_0
                                      obtain rfl : ad794 = ad795 := (by injection e795)
                                      replace hx795_0 := (HB.out.cell (World.block_lt_of_cell? w _ hx795_0)).trans hx795_0
                                      replace hx795_1 := (HB.out.cell (World.block_lt_of_cell? w _ hx795_1)).trans hx795_1
                                      replace hx795_2 := (HB.out.cell (World.block_lt_of_cell? w _ hx795_2)).trans hx795_2
                                      replace hx795_3 := (HB.out.cell (World.block_lt_of_cell? w _ hx795_3)).trans hx795_3
                                      replace hx795_4 := (HB.out.cell (World.block_lt_of_cell? w _ hx795_4)).trans hx795_4
                                      replace p795 := eq_true p795
                                      replace q795 := eq_true q795
                                      have p796 : 0 ≤ (x6_1 : Int) := of_decide_eq_true (by first | (with_reducible assumption) | assumption)
                                      have q796 : x6_1 < (l1.length : Int) := of_decide_eq_true (by first | (with_reducible assumption) | assumption)
                                      obtain ⟨ad796, e796, hx796_0, hx796_1, hx796_2, hx796_3, hx796_4⟩ := at_T76 HR1.out x6_1 p796 q796
                                      have hw796_4 := hx796_4
                                      have hw796_3 := hx796_3
                                      have hw796_2 := hx796_2
                                      have hw796_1 := hx796_1
                                      have hw796_0 := hx796_0
                                      obtain rfl : ad794 = ad796 := (by injection e796)
                                      replace hx796_0 := (HB.out.cell (World.block_lt_of_cell? w _ hx796_0)).trans hx796_0
                                      replace hx796_1 := (HB.out.cell (World.block_lt_of_cell? w _ hx796_1)).trans hx796_1
                                      replace hx796_2 := (HB.out.cell (World.block_lt_of_cell? w _ hx796_2)).trans hx796_2
                                      replace hx796_3 := (HB.out.cell (World.block_lt_of_cell? w _ hx796_3)).trans hx796_3
                                      replace hx796_4 := (HB.out.cell (World.block_lt_of_cell? w _ hx796_4)).trans hx796_4
                                      replace p796 := eq_true p796
                                      replace q796 := eq_true q796
                                      refine start_ (n := 19) (S := fun w' => w'.cell? (ad794.add ((x7_4).toNat * 5)) = some (.int .i64 ((rd_T76 l1 x7_4).f0)) ∧ w'.cell? ⟨(ad794.add ((x7_4).toNat * 5)).block, (ad794.add ((x7_4).toNat * 5)).off + 1, none⟩ = some (.int .i64 ((rd_T76 l1 x7_4).f1)) ∧ w'.cell? ⟨(ad794.add ((x7_4).toNat * 5)).block, (ad794.add ((x7_4).toNat * 5)).off + 2, none⟩ = some (.int .i64 ((rd_T76 l1 x7_4).f2)) ∧ w'.cell? ⟨(ad794.add ((x7_4).toNat * 5)).block, (ad794.add ((x7_4).toNat * 5)).off + 3, none⟩ = some (.int .i64 ((rd_T76 l1 x7_4).f3)) ∧ w'.cell? ⟨(ad794.add ((x7_4).toNat * 5)).block, (ad794.add ((x7_4).toNat * 5)).off + 4, none⟩ = some (.int .i64 ((rd_T76 l1 x7_4).f4)) ∧ w'.cell? (ad794.add ((x7_4).toNat * 5)) = some (.int .i64 ((rd_T76 l1 x7_4).f0)) ∧ w'.cell? ⟨(ad794.add ((x7_4).toNat * 5)).block, (ad794.add ((x7_4).toNat * 5)).off + 1, none⟩ = some (.int .i64 ((rd_T76 l1 x7_4).f1)) ∧ w'.cell? ⟨(ad794.add ((x7_4).toNat * 5)).block, (ad794.add ((x7_4).toNat * 5)).off + 2, none⟩ = some (.int .i64 ((rd_T76 l1 x7_4).f2)) ∧ w'.cell? ⟨(ad794.add ((x7_4).toNat * 5)).block, (ad794.add ((x7_4).toNat * 5)).off + 3, none⟩ = some (.int .i64 ((rd_T76 l1 x7_4).f3)) ∧ w'.cell? ⟨(ad794.add ((x7_4).toNat * 5)).block, (ad794.add ((x7_4).toNat * 5)).off + 4, none⟩ = some (.int .i64 ((rd_T76 l1 x7_4).f4)) ∧ w'.cell? (ad794.add ((x6_1).toNat * 5)) = some (.int .i64 ((rd_T76 l1 x6_1).f0)) ∧ w'.cell? ⟨(ad794.add ((x6_1).toNat * 5)).block, (ad794.add ((x6_1).toNat * 5)).off + 1, none⟩ = some (.int .i64 ((rd_T76 l1 x6_1).f1)) ∧ w'.cell? ⟨(ad794.add ((x6_1).toNat * 5)).block, (ad794.add ((x6_1).toNat * 5)).off + 2, none⟩ = some (.int .i64 ((rd_T76 l1 x6_1).f2)) ∧ w'.cell? ⟨(ad794.add ((x6_1).toNat * 5)).block, (ad794.add ((x6_1).toNat * 5)).off + 3, none⟩ = some (.int .i64 ((rd_T76 l1 x6_1).f3)) ∧ w'.cell? ⟨(ad794.add ((x6_1).toNat * 5)).block, (ad794.add ((x6_1).toNat * 5)).off + 4, none⟩ = some (.int .i64 ((rd_T76 l1 x6_1).f4))) (ds := []) #[false, false, false, false, false, false, false, false, false, false, false, false, false, false, false, false, false, false, false] (by kernel_rfl) rfl rfl ⟨((HB.out.cell (World.block_lt_of_cell? w _ hw794_0)).trans hw794_0), ((HB.out.cell (World.block_lt_of_cell? w _ hw794_1)).trans hw794_1), ((HB.out.cell (World.block_lt_of_cell? w _ hw794_2)).trans hw794_2), ((HB.out.cell (World.block_lt_of_cell? w _ hw794_3)).trans hw794_3), ((HB.out.cell (World.block_lt_of_cell? w _ hw794_4)).trans hw794_4), ((HB.out.cell (World.block_lt_of_cell? w _ hw795_0)).trans hw795_0), ((HB.out.cell (World.block_lt_of_cell? w _ hw795_1)).trans hw795_1), ((HB.out.cell (World.block_lt_of_cell? w _ hw795_2)).trans hw795_2), ((HB.out.cell (World.block_lt_of_cell? w _ hw795_3)).trans hw795_3), ((HB.out.cell (World.block_lt_of_cell? w _ hw795_4)).trans hw795_4), ((HB.out.cell (World.block_lt_of_cell? w _ hw796_0)).trans hw796_0), ((HB.out.cell (World.block_lt_of_cell? w _ hw796_1)).trans hw796_1), ((HB.out.cell (World.block_lt_of_cell? w _ hw796_2)).trans hw796_2), ((HB.out.cell (World.block_lt_of_cell? w _ hw796_3)).trans hw796_3), ((HB.out.cell (World.block_lt_of_cell? w _ hw796_4)).trans hw796_4)⟩ (fun hHeld => ?_); refine with_tabW cartoucheref10_Steps.tab10 cartoucheref10_Steps.bits10 (fun HT_ HW_ => ?_)
                                      generalize wc.drew = w30 at HO_5 HB hx794_0 hx794_1 hx794_2 hx794_3 hx794_4 hx795_0 hx795_1 hx795_2 hx795_3 hx795_4 hx796_0 hx796_1 hx796_2 hx796_3 hx796_4 hHeld ⊢
                                      refine pure_ (i := 0) (N := some 65) (v := ?_) (a' := ?_) #[true, false, false, false, false, false, false, false, false, false, false, false, false, false, false, false, false, false, false] rfl rfl (any_of HT_.out (by kernel_rfl)) (fun _ _ _ h => h) (Or.inl ⟨by rfl, ?_⟩) ?_ ?_
                                      rotate_left
                                      · intro w'
                                        go_simp
                                        with_reducible rfl
                                      rotate_left
                                      · simp only [Act.put, List.setIfInBounds_toArray, List.set_cons_zero, List.set_cons_succ, i64_w, i32_w]
                                        rfl
                                      refine pure_ (i := 1) (N := some 66) (v := ?_) (a' := ?_) #[true, true, false, false, false, false, false, false, false, false, false, false, false, false, false, false, false, false, false] rfl rfl (any_of HT_.out (by kernel_rfl)) (fun _ _ _ h => h) (Or.inl ⟨by rfl, ?_⟩) ?_ ?_
                                      rotate_left
                                      · intro w'
                                        go_simp
                                        with_reducible rfl
                                      rotate_left
                                      · simp only [Act.put, List.setIfInBounds_toArray, List.set_cons_zero, List.set_cons_succ, i64_w, i32_w]
                                        rfl
                                      refine pure_ (i := 2) (N := some 67) (v := ?_) (a' := ?_) #[true, true, true, false, false, false, false, false, false, false, false, false, false, false, false, false, false, false, false] rfl rfl (any_of HT_.out (by kernel_rfl)) (fun _ _ _ h => h) (Or.inl ⟨by rfl, ?_⟩) ?_ ?_
                                      rotate_left
                                      · intro w'
                                        go_simp
                                        with_reducible rfl
                                      rotate_left
                                      · simp only [Act.put, List.setIfInBounds_toArray, List.set_cons_zero, List.set_cons_succ, i64_w, i32_w]
                                        rfl
                                      refine pure_ (i := 3) (N := some 68) (v := ?_) (a' := ?_) #[true, true, true, true, false, false, false, false, false, false, false, false, false, false, false, false, false, false, false] rfl rfl (any_of HT_.out (by kernel_rfl)) (fun _ _ _ h => h) (Or.inl ⟨by rfl, ?_⟩) ?_ ?_
                                      rotate_left
                                      · intro w'
                                        go_simp
                                        with_reducible rfl
                                      rotate_left
                                      · simp only [Act.put, List.setIfInBounds_toArray, List.set_cons_zero, List.set_cons_succ, i64_w, i32_w]
                                        rfl
                                      refine take_ (i := 4) (N := some 69) (v := ?_) (a' := ?_) #[true, true, true, true, true, false, false, false, false, false, false, false, false, false, false, false, false, false, false] rfl rfl (take_ofW HT_.out HW_.out (by kernel_rfl)) (fun _ _ _ h => h) (Or.inl ⟨by rfl, ?_⟩) hHeld ?_ ?_
                                      rotate_left
                                      · rintro w' ⟨s0, s1, s2, s3, s4, s5, s6, s7, s8, s9, s10, s11, s12, s13, s14⟩
                                        go_simp
                                        with_reducible rfl
                                      rotate_left
                                      · simp only [Act.put, List.setIfInBounds_toArray, List.set_cons_zero, List.set_cons_succ, i64_w, i32_w]
                                        rfl
                                      refine pure_ (i := 5) (N := some 70) (v := ?_) (a' := ?_) #[true, true, true, true, true, true, false, false, false, false, false, false, false, false, false, false, false, false, false] rfl rfl (any_of HT_.out (by kernel_rfl)) (fun _ _ _ h => h) (Or.inl ⟨by rfl, ?_⟩) ?_ ?_
                                      rotate_left
                                      · intro w'
                                        go_simp
                                        with_reducible rfl
                                      rotate_left
                                      · simp only [Act.put, List.setIfInBounds_toArray, List.set_cons_zero, List.set_cons_succ, i64_w, i32_w]
                                        rfl
                                      refine pure_ (i := 6) (N := some 71) (v := ?_) (a' := ?_) #[true, true, true, true, true, true, true, false, false, false, false, false, false, false, false, false, false, false, false] rfl rfl (any_of HT_.out (by kernel_rfl)) (fun _ _ _ h => h) (Or.inl ⟨by rfl, ?_⟩) ?_ ?_
                                      rotate_left
                                      · intro w'
                                        go_simp
                                        with_reducible rfl
                                      rotate_left
                                      · simp only [Act.put, List.setIfInBounds_toArray, List.set_cons_zero, List.set_cons_succ, i64_w, i32_w]
                                        rfl
                                      refine pure_ (i := 7) (N := some 72) (v := ?_) (a' := ?_) #[true, true, true, true, true, true, true, true, false, false, false, false, false, false, false, false, false, false, false] rfl rfl (any_of HT_.out (by kernel_rfl)) (fun _ _ _ h => h) (Or.inl ⟨by rfl, ?_⟩) ?_ ?_
                                      rotate_left
                                      · intro w'
                                        go_simp
                                        with_reducible rfl
                                      rotate_left
                                      · simp only [Act.put, List.setIfInBounds_toArray, List.set_cons_zero, List.set_cons_succ, i64_w, i32_w]
                                        rfl
                                      refine pure_ (i := 8) (N := some 73) (v := ?_) (a' := ?_) #[true, true, true, true, true, true, true, true, true, false, false, false, false, false, false, false, false, false, false] rfl rfl (any_of HT_.out (by kernel_rfl)) (fun _ _ _ h => h) (Or.inl ⟨by rfl, ?_⟩) ?_ ?_
                                      rotate_left
                                      · intro w'
                                        go_simp
                                        with_reducible rfl
                                      rotate_left
                                      · simp only [Act.put, List.setIfInBounds_toArray, List.set_cons_zero, List.set_cons_succ, i64_w, i32_w]
                                        rfl
                                      refine pure_ (i := 9) (N := some 74) (v := ?_) (a' := ?_) #[true, true, true, true, true, true, true, true, true, true, false, false, false, false, false, false, false, false, false] rfl rfl (any_of HT_.out (by kernel_rfl)) (fun _ _ _ h => h) (Or.inl ⟨by rfl, ?_⟩) ?_ ?_
                                      rotate_left
                                      · intro w'
                                        go_simp
                                        with_reducible rfl
                                      rotate_left
                                      · simp only [Act.put, List.setIfInBounds_toArray, List.set_cons_zero, List.set_cons_succ, i64_w, i32_w]
                                        rfl
                                      refine pure_ (i := 10) (N := some 75) (v := ?_) (a' := ?_) #[true, true, true, true, true, true, true, true, true, true, true, false, false, false, false, false, false, false, false] rfl rfl (any_of HT_.out (by kernel_rfl)) (fun _ _ _ h => h) (Or.inl ⟨by rfl, ?_⟩) ?_ ?_
                                      rotate_left
                                      · intro w'
                                        go_simp
                                        with_reducible rfl
                                      rotate_left
                                      · simp only [Act.put, List.setIfInBounds_toArray, List.set_cons_zero, List.set_cons_succ, i64_w, i32_w]
                                        rfl
                                      refine pure_ (i := 12) (N := some 77) (v := ?_) (a' := ?_) #[true, true, true, true, true, true, true, true, true, true, true, false, true, false, false, false, false, false, false] rfl rfl (any_of HT_.out (by kernel_rfl)) (fun _ _ _ h => h) (Or.inl ⟨by rfl, ?_⟩) ?_ ?_
                                      rotate_left
                                      · intro w'
                                        go_simp
                                        with_reducible rfl
                                      rotate_left
                                      · simp only [Act.put, List.setIfInBounds_toArray, List.set_cons_zero, List.set_cons_succ, i64_w, i32_w]
                                        rfl
                                      refine pure_ (i := 13) (N := some 78) (v := ?_) (a' := ?_) #[true, true, true, true, true, true, true, true, true, true, true, false, true, true, false, false, false, false, false] rfl rfl (any_of HT_.out (by kernel_rfl)) (fun _ _ _ h => h) (Or.inl ⟨by rfl, ?_⟩) ?_ ?_
                                      rotate_left
                                      · intro w'
                                        go_simp
                                        with_reducible rfl
                                      rotate_left
                                      · simp only [Act.put, List.setIfInBounds_toArray, List.set_cons_zero, List.set_cons_succ, i64_w, i32_w]
                                        rfl
                                      refine pure_ (i := 14) (N := some 79) (v := ?_) (a' := ?_) #[true, true, true, true, true, true, true, true, true, true, true, false, true, true, true, false, false, false, false] rfl rfl (any_of HT_.out (by kernel_rfl)) (fun _ _ _ h => h) (Or.inl ⟨by rfl, ?_⟩) ?_ ?_
                                      rotate_left
                                      · intro w'
                                        go_simp
                                        with_reducible rfl
                                      rotate_left
                                      · simp only [Act.put, List.setIfInBounds_toArray, List.set_cons_zero, List.set_cons_succ, i64_w, i32_w]
                                        rfl
                                      refine pure_ (i := 15) (N := some 80) (v := ?_) (a' := ?_) #[true, true, true, true, true, true, true, true, true, true, true, false, true, true, true, true, false, false, false] rfl rfl (any_of HT_.out (by kernel_rfl)) (fun _ _ _ h => h) (Or.inl ⟨by rfl, ?_⟩) ?_ ?_
                                      rotate_left
                                      · intro w'
                                        go_simp
                                        with_reducible rfl
                                      rotate_left
                                      · simp only [Act.put, List.setIfInBounds_toArray, List.set_cons_zero, List.set_cons_succ, i64_w, i32_w]
                                        rfl
                                      refine take_ (i := 11) (N := some 76) (v := ?_) (a' := ?_) #[true, true, true, true, true, true, true, true, true, true, true, true, true, true, true, true, false, false, false] rfl rfl (take_ofW HT_.out HW_.out (by kernel_rfl)) (fun _ _ _ h => h) (Or.inl ⟨by rfl, ?_⟩) hHeld ?_ ?_
                                      rotate_left
                                      · rintro w' ⟨s0, s1, s2, s3, s4, s5, s6, s7, s8, s9, s10, s11, s12, s13, s14⟩
                                        go_simp
                                        with_reducible rfl
                                      rotate_left
                                      · simp only [Act.put, List.setIfInBounds_toArray, List.set_cons_zero, List.set_cons_succ, i64_w, i32_w]
                                        rfl
                                      refine take_ (i := 16) (N := some 81) (v := ?_) (a' := ?_) #[true, true, true, true, true, true, true, true, true, true, true, true, true, true, true, true, true, false, false] rfl rfl (take_ofW HT_.out HW_.out (by kernel_rfl)) (fun _ _ _ h => h) (Or.inl ⟨by rfl, ?_⟩) hHeld ?_ ?_
                                      rotate_left
                                      · rintro w' ⟨s0, s1, s2, s3, s4, s5, s6, s7, s8, s9, s10, s11, s12, s13, s14⟩
                                        go_simp
                                        with_reducible rfl
                                      rotate_left
                                      · simp only [Act.put, List.setIfInBounds_toArray, List.set_cons_zero, List.set_cons_succ, i64_w, i32_w]
                                        rfl
                                      refine pure_ (i := 17) (N := some 82) (v := ?_) (a' := ?_) #[true, true, true, true, true, true, true, true, true, true, true, true, true, true, true, true, true, true, false] rfl rfl (any_of HT_.out (by kernel_rfl)) (fun _ _ _ h => h) (Or.inl ⟨by rfl, ?_⟩) ?_ ?_
                                      rotate_left
                                      · intro w'
                                        go_simp
                                        with_reducible rfl
                                      rotate_left
                                      · simp only [Act.put, List.setIfInBounds_toArray, List.set_cons_zero, List.set_cons_succ, i64_w, i32_w]
                                        rfl
                                      refine pure_ (i := 18) (N := some 83) (v := ?_) (a' := ?_) #[true, true, true, true, true, true, true, true, true, true, true, true, true, true, true, true, true, true, true] rfl rfl (any_of HT_.out (by kernel_rfl)) (fun _ _ _ h => h) (Or.inl ⟨by rfl, ?_⟩) ?_ ?_
                                      rotate_left
                                      · intro w'
                                        go_simp
                                        with_reducible rfl
                                      rotate_left
                                      · simp only [Act.put, List.setIfInBounds_toArray, List.set_cons_zero, List.set_cons_succ, i64_w, i32_w]
                                        rfl
                                      refine done_ (done_of HT_.out (by kernel_rfl)) ?_
                                      try go_wp2
                                      go_meet
                                      case rel => exact ⟨_, ((((rd_T76 l1 x7_4).f1) == ((rd_T76 l1 x6_1).f2))), (by first | rfl | (simp; done) | (simp [*]; done)), H', ⟨by have := HK1.out; have := HJ3.out; have := HJ7.out; have := HK4.out; have := HJ17.out; first | omega | exact Nat.le_refl _⟩, ⟨by (with_reducible repeat (first | apply Kd.S_alloc | apply Kd.S_drewN | apply Kd.S_drew)); exact HO_5.out⟩, ⟨by repeat (first | (with_reducible first | exact HB.out | apply below_alloc | apply pw_below_drewN | apply below_drew1) | exact HB.out)⟩⟩
                                    · rw [if_neg c29] at H
                                      exact absurd H (by simp)
                                  · rw [if_neg c28] at H
                                    exact absurd H (by simp)
                                · rw [if_neg c27] at H
                                  have c27b0 : (((rd_T76 l1 x7_4).f0) == 3) = false := beq_eq_false_iff_ne.mpr c27
                                  have c27b1 : (((rd_T76 l1 x7_4).f0) != 3) = true := bne_iff_ne.mpr c27
                                  have H' := Aside0.mk H
                                  clear H
                                  try go_wp2
                                  have n0_ := Aside0.mk (Kd.S_drew HO_5.out)
                                  have n1_ := Aside0.mk (below_drew1 HB.out)
                                  clear HO_5
                                  clear HB
                                  have HO_5 := n0_
                                  have HB := n1_
                                  clear n0_ n1_
                                  have p794 : 0 ≤ (x7_4 : Int) := of_decide_eq_true (by first | (with_reducible assumption) | assumption)
                                  have q794 : x7_4 < (l1.length : Int) := of_decide_eq_true (by first | (with_reducible assumption) | assumption)
                                  obtain ⟨ad794, e794, hx794_0, hx794_1, hx794_2, hx794_3, hx794_4⟩ := at_T76 HR1.out x7_4 p794 q794
                                  have hw794_4 := hx794_4
                                  have hw794_3 := hx794_3
                                  have hw794_2 := hx794_2
                                  have hw794_1 := hx794_1
                                  have hw794_0 := hx794_0
                                  cases e794
                                  replace hx794_0 := (HB.out.cell (World.block_lt_of_cell? w _ hx794_0)).trans hx794_0
                                  replace hx794_1 := (HB.out.cell (World.block_lt_of_cell? w _ hx794_1)).trans hx794_1
                                  replace hx794_2 := (HB.out.cell (World.block_lt_of_cell? w _ hx794_2)).trans hx794_2
                                  replace hx794_3 := (HB.out.cell (World.block_lt_of_cell? w _ hx794_3)).trans hx794_3
                                  replace hx794_4 := (HB.out.cell (World.block_lt_of_cell? w _ hx794_4)).trans hx794_4
                                  replace p794 := eq_true p794
                                  replace q794 := eq_true q794
                                  refine start_ (n := 19) (S := fun w' => w'.cell? (ad794.add ((x7_4).toNat * 5)) = some (.int .i64 ((rd_T76 l1 x7_4).f0)) ∧ w'.cell? ⟨(ad794.add ((x7_4).toNat * 5)).block, (ad794.add ((x7_4).toNat * 5)).off + 1, none⟩ = some (.int .i64 ((rd_T76 l1 x7_4).f1)) ∧ w'.cell? ⟨(ad794.add ((x7_4).toNat * 5)).block, (ad794.add ((x7_4).toNat * 5)).off + 2, none⟩ = some (.int .i64 ((rd_T76 l1 x7_4).f2)) ∧ w'.cell? ⟨(ad794.add ((x7_4).toNat * 5)).block, (ad794.add ((x7_4).toNat * 5)).off + 3, none⟩ = some (.int .i64 ((rd_T76 l1 x7_4).f3)) ∧ w'.cell? ⟨(ad794.add ((x7_4).toNat * 5)).block, (ad794.add ((x7_4).toNat * 5)).off + 4, none⟩ = some (.int .i64 ((rd_T76 l1 x7_4).f4))) (ds := []) #[false, false, false, false, false, false, false, false, false, false, false, false, false, false, false, false, false, false, false] (by kernel_rfl) rfl rfl ⟨((HB.out.cell (World.block_lt_of_cell? w _ hw794_0)).trans hw794_0), ((HB.out.cell (World.block_lt_of_cell? w _ hw794_1)).trans hw794_1), ((HB.out.cell (World.block_lt_of_cell? w _ hw794_2)).trans hw794_2), ((HB.out.cell (World.block_lt_of_cell? w _ hw794_3)).trans hw794_3), ((HB.out.cell (World.block_lt_of_cell? w _ hw794_4)).trans hw794_4)⟩ (fun hHeld => ?_); refine with_tabW cartoucheref10_Steps.tab10 cartoucheref10_Steps.bits10 (fun HT_ HW_ => ?_)
                                  generalize wc.drew = w31 at HO_5 HB hx794_0 hx794_1 hx794_2 hx794_3 hx794_4 hHeld ⊢
                                  refine pure_ (i := 0) (N := some 65) (v := ?_) (a' := ?_) #[true, false, false, false, false, false, false, false, false, false, false, false, false, false, false, false, false, false, false] rfl rfl (any_of HT_.out (by kernel_rfl)) (fun _ _ _ h => h) (Or.inl ⟨by rfl, ?_⟩) ?_ ?_
                                  rotate_left
                                  · intro w'
                                    go_simp
                                    with_reducible rfl
                                  rotate_left
                                  · simp only [Act.put, List.setIfInBounds_toArray, List.set_cons_zero, List.set_cons_succ, i64_w, i32_w]
                                    rfl
                                  refine pure_ (i := 1) (N := some 66) (v := ?_) (a' := ?_) #[true, true, false, false, false, false, false, false, false, false, false, false, false, false, false, false, false, false, false] rfl rfl (any_of HT_.out (by kernel_rfl)) (fun _ _ _ h => h) (Or.inl ⟨by rfl, ?_⟩) ?_ ?_
                                  rotate_left
                                  · intro w'
                                    go_simp
                                    with_reducible rfl
                                  rotate_left
                                  · simp only [Act.put, List.setIfInBounds_toArray, List.set_cons_zero, List.set_cons_succ, i64_w, i32_w]
                                    rfl
                                  refine pure_ (i := 2) (N := some 67) (v := ?_) (a' := ?_) #[true, true, true, false, false, false, false, false, false, false, false, false, false, false, false, false, false, false, false] rfl rfl (any_of HT_.out (by kernel_rfl)) (fun _ _ _ h => h) (Or.inl ⟨by rfl, ?_⟩) ?_ ?_
                                  rotate_left
                                  · intro w'
                                    go_simp
                                    with_reducible rfl
                                  rotate_left
                                  · simp only [Act.put, List.setIfInBounds_toArray, List.set_cons_zero, List.set_cons_succ, i64_w, i32_w]
                                    rfl
                                  refine pure_ (i := 3) (N := some 68) (v := ?_) (a' := ?_) #[true, true, true, true, false, false, false, false, false, false, false, false, false, false, false, false, false, false, false] rfl rfl (any_of HT_.out (by kernel_rfl)) (fun _ _ _ h => h) (Or.inl ⟨by rfl, ?_⟩) ?_ ?_
                                  rotate_left
                                  · intro w'
                                    go_simp
                                    with_reducible rfl
                                  rotate_left
                                  · simp only [Act.put, List.setIfInBounds_toArray, List.set_cons_zero, List.set_cons_succ, i64_w, i32_w]
                                    rfl
                                  refine take_ (i := 4) (N := some 69) (v := ?_) (a' := ?_) #[true, true, true, true, true, false, false, false, false, false, false, false, false, false, false, false, false, false, false] rfl rfl (take_ofW HT_.out HW_.out (by kernel_rfl)) (fun _ _ _ h => h) (Or.inl ⟨by rfl, ?_⟩) hHeld ?_ ?_
                                  rotate_left
                                  · rintro w' ⟨s0, s1, s2, s3, s4⟩
                                    go_simp
                                    with_reducible rfl
                                  rotate_left
                                  · simp only [Act.put, List.setIfInBounds_toArray, List.set_cons_zero, List.set_cons_succ, i64_w, i32_w]
                                    rfl
                                  refine pure_ (i := 5) (N := some 70) (v := ?_) (a' := ?_) #[true, true, true, true, true, true, false, false, false, false, false, false, false, false, false, false, false, false, false] rfl rfl (any_of HT_.out (by kernel_rfl)) (fun _ _ _ h => h) (Or.inl ⟨by rfl, ?_⟩) ?_ ?_
                                  rotate_left
                                  · intro w'
                                    go_simp
                                    with_reducible rfl
                                  rotate_left
                                  · simp only [Act.put, List.setIfInBounds_toArray, List.set_cons_zero, List.set_cons_succ, i64_w, i32_w]
                                    rfl
                                  refine pure_ (i := 6) (N := some 71) (v := ?_) (a' := ?_) #[true, true, true, true, true, true, true, false, false, false, false, false, false, false, false, false, false, false, false] rfl rfl (any_of HT_.out (by kernel_rfl)) (fun _ _ _ h => h) (Or.inl ⟨by rfl, ?_⟩) ?_ ?_
                                  rotate_left
                                  · intro w'
                                    go_simp
                                    with_reducible rfl
                                  rotate_left
                                  · simp only [Act.put, List.setIfInBounds_toArray, List.set_cons_zero, List.set_cons_succ, i64_w, i32_w]
                                    rfl
                                  refine pure_ (i := 7) (N := some 72) (v := undef) (a' := ?_) #[true, true, true, true, true, true, true, true, false, false, false, false, false, false, false, false, false, false, false] rfl rfl (any_of HT_.out (by kernel_rfl)) (fun _ _ _ h => h) (Or.inr ⟨by rfl, rfl⟩) ?_ ?_
                                  rotate_left
                                  · simp only [Act.put, List.setIfInBounds_toArray, List.set_cons_zero, List.set_cons_succ, i64_w, i32_w]
                                    rfl
                                  refine pure_ (i := 8) (N := some 73) (v := undef) (a' := ?_) #[true, true, true, true, true, true, true, true, true, false, false, false, false, false, false, false, false, false, false] rfl rfl (any_of HT_.out (by kernel_rfl)) (fun _ _ _ h => h) (Or.inr ⟨by rfl, rfl⟩) ?_ ?_
                                  rotate_left
                                  · simp only [Act.put, List.setIfInBounds_toArray, List.set_cons_zero, List.set_cons_succ, i64_w, i32_w]
                                    rfl
                                  refine pure_ (i := 9) (N := some 74) (v := undef) (a' := ?_) #[true, true, true, true, true, true, true, true, true, true, false, false, false, false, false, false, false, false, false] rfl rfl (any_of HT_.out (by kernel_rfl)) (fun _ _ _ h => h) (Or.inr ⟨by rfl, rfl⟩) ?_ ?_
                                  rotate_left
                                  · simp only [Act.put, List.setIfInBounds_toArray, List.set_cons_zero, List.set_cons_succ, i64_w, i32_w]
                                    rfl
                                  refine pure_ (i := 10) (N := some 75) (v := undef) (a' := ?_) #[true, true, true, true, true, true, true, true, true, true, true, false, false, false, false, false, false, false, false] rfl rfl (any_of HT_.out (by kernel_rfl)) (fun _ _ _ h => h) (Or.inr ⟨by rfl, rfl⟩) ?_ ?_
                                  rotate_left
                                  · simp only [Act.put, List.setIfInBounds_toArray, List.set_cons_zero, List.set_cons_succ, i64_w, i32_w]
                                    rfl
                                  refine pure_ (i := 11) (N := some 76) (v := undef) (a' := ?_) #[true, true, true, true, true, true, true, true, true, true, true, true, false, false, false, false, false, false, false] rfl rfl (any_of HT_.out (by kernel_rfl)) (fun _ _ _ h => h) (Or.inr ⟨by rfl, rfl⟩) ?_ ?_
                                  rotate_left
                                  · simp only [Act.put, List.setIfInBounds_toArray, List.set_cons_zero, List.set_cons_succ, i64_w, i32_w]
                                    rfl
                                  refine pure_ (i := 12) (N := some 77) (v := undef) (a' := ?_) #[true, true, true, true, true, true, true, true, true, true, true, true, true, false, false, false, false, false, false] rfl rfl (any_of HT_.out (by kernel_rfl)) (fun _ _ _ h => h) (Or.inr ⟨by rfl, rfl⟩) ?_ ?_
                                  rotate_left
                                  · simp only [Act.put, List.setIfInBounds_toArray, List.set_cons_zero, List.set_cons_succ, i64_w, i32_w]
                                    rfl
                                  refine pure_ (i := 13) (N := some 78) (v := undef) (a' := ?_) #[true, true, true, true, true, true, true, true, true, true, true, true, true, true, false, false, false, false, false] rfl rfl (any_of HT_.out (by kernel_rfl)) (fun _ _ _ h => h) (Or.inr ⟨by rfl, rfl⟩) ?_ ?_
                                  rotate_left
                                  · simp only [Act.put, List.setIfInBounds_toArray, List.set_cons_zero, List.set_cons_succ, i64_w, i32_w]
                                    rfl
                                  refine pure_ (i := 14) (N := some 79) (v := undef) (a' := ?_) #[true, true, true, true, true, true, true, true, true, true, true, true, true, true, true, false, false, false, false] rfl rfl (any_of HT_.out (by kernel_rfl)) (fun _ _ _ h => h) (Or.inr ⟨by rfl, rfl⟩) ?_ ?_
                                  rotate_left
                                  · simp only [Act.put, List.setIfInBounds_toArray, List.set_cons_zero, List.set_cons_succ, i64_w, i32_w]
                                    rfl
                                  refine pure_ (i := 15) (N := some 80) (v := undef) (a' := ?_) #[true, true, true, true, true, true, true, true, true, true, true, true, true, true, true, true, false, false, false] rfl rfl (any_of HT_.out (by kernel_rfl)) (fun _ _ _ h => h) (Or.inr ⟨by rfl, rfl⟩) ?_ ?_
                                  rotate_left
                                  · simp only [Act.put, List.setIfInBounds_toArray, List.set_cons_zero, List.set_cons_succ, i64_w, i32_w]
                                    rfl
                                  refine pure_ (i := 16) (N := some 81) (v := undef) (a' := ?_) #[true, true, true, true, true, true, true, true, true, true, true, true, true, true, true, true, true, false, false] rfl rfl (any_of HT_.out (by kernel_rfl)) (fun _ _ _ h => h) (Or.inr ⟨by rfl, rfl⟩) ?_ ?_
                                  rotate_left
                                  · simp only [Act.put, List.setIfInBounds_toArray, List.set_cons_zero, List.set_cons_succ, i64_w, i32_w]
                                    rfl
                                  refine pure_ (i := 17) (N := some 82) (v := undef) (a' := ?_) #[true, true, true, true, true, true, true, true, true, true, true, true, true, true, true, true, true, true, false] rfl rfl (any_of HT_.out (by kernel_rfl)) (fun _ _ _ h => h) (Or.inr ⟨by rfl, rfl⟩) ?_ ?_
                                  rotate_left
                                  · simp only [Act.put, List.setIfInBounds_toArray, List.set_cons_zero, List.set_cons_succ, i64_w, i32_w]
                                    rfl
                                  refine pure_ (i := 18) (N := some 83) (v := ?_) (a' := ?_) #[true, true, true, true, true, true, true, true, true, true, true, true, true, true, true, true, true, true, true] rfl rfl (any_of HT_.out (by kernel_rfl)) (fun _ _ _ h => h) (Or.inl ⟨by rfl, ?_⟩) ?_ ?_
                                  rotate_left
                                  · intro w'
                                    go_simp
                                    with_reducible rfl
                                  rotate_left
                                  · simp only [Act.put, List.setIfInBounds_toArray, List.set_cons_zero, List.set_cons_succ, i64_w, i32_w]
                                    rfl
                                  refine done_ (done_of HT_.out (by kernel_rfl)) ?_
                                  try go_wp2
                                  go_meet
                                  case rel => exact ⟨_, (false), (by first | rfl | (simp; done) | (simp [*]; done)), H', ⟨by have := HK1.out; have := HJ3.out; have := HJ7.out; have := HK4.out; have := HJ17.out; first | omega | exact Nat.le_refl _⟩, ⟨by (with_reducible repeat (first | apply Kd.S_alloc | apply Kd.S_drewN | apply Kd.S_drew)); exact HO_5.out⟩, ⟨by repeat (first | (with_reducible first | exact HB.out | apply below_alloc | apply pw_below_drewN | apply below_drew1) | exact HB.out)⟩⟩
                              · rw [if_neg c26] at H
                                exact absurd H (by simp)
                            · rw [if_neg c25] at H
                              exact absurd H (by simp)
                          case rest =>
                            clear HC24
                            try clear c1
                            try clear c2
                            try clear p2
                            try clear c3
                            try clear c3b0
                            try clear c5
                            try clear c5b0
                            try clear c5b1
                            try clear c6
                            try clear c6b0
                            try clear c6b1
                            try clear c7
                            try clear c7b0
                            try clear p7
                            try clear q7
                            try clear hx7
                            try clear c9
                            try clear c10
                            try clear c10b0
                            try clear c11
                            try clear c11b0
                            try clear c12
                            try clear c19
                            try clear c19b0
                            try clear c20
                            try clear c20b0
                            try clear c20b1
                            try clear c21
                            try clear c21b0
                            try clear c22
                            try clear c22b0
                            try clear c23
                            try clear c25
                            try clear c25b0
                            try clear c26
                            try clear c26b0
                            try clear c27
                            try clear c27b0
                            try clear c27b1
                            try clear c28
                            try clear c28b0
                            try clear c29
                            try clear c29b0
                            try clear hx783_0
                            try clear hx783_1
                            try clear hx783_2
                            try clear hx783_3
                            try clear hx783_4
                            try clear hx784_0
                            try clear hx784_1
                            try clear hx784_2
                            try clear hx784_3
                            try clear hx784_4
                            try clear hx785_0
                            try clear hx785_1
                            try clear hx785_2
                            try clear hx785_3
                            try clear hx785_4
                            try clear hx786_0
                            try clear hx786_1
                            try clear hx786_2
                            try clear hx786_3
                            try clear hx786_4
                            try clear hx793_0
                            try clear hx793_1
                            try clear hx793_2
                            try clear hx793_3
                            try clear hx793_4
                            try clear hx794_0
                            try clear hx794_1
                            try clear hx794_2
                            try clear hx794_3
                            try clear hx794_4
                            try clear hx795_0
                            try clear hx795_1
                            try clear hx795_2
                            try clear hx795_3
                            try clear hx795_4
                            try clear hx796_0
                            try clear hx796_1
                            try clear hx796_2
                            try clear hx796_3
                            try clear hx796_4
                            try clear p2
                            try clear p7
                            try clear p783
                            try clear p784
                            try clear p785
                            try clear p786
                            try clear p793
                            try clear p794
                            try clear p795
                            try clear p796
                            try clear q7
                            try clear q783
                            try clear q784
                            try clear q785
                            try clear q786
                            try clear q793
                            try clear q794
                            try clear q795
                            try clear q796
                            obtain ⟨kq, x83_23, rfl, HA, HJ23, HO_5, HB⟩ := hcut
                            cases kq with
                            | zero => exact absurd HA.out (by simp [cartoucheref10_Steps.j5])
                            | succ kj23 =>
                              have H := HA.out
                              clear HA
                              simp only [cartoucheref10_Steps.j5] at H
                              by_cases c32 : x83_23 = true
                              · subst c32
                                have H1 : (if 0 ≤ x6_1 then (if x6_1 < (l1.length : Int) then (if 0 ≤ x7_4 then (if x7_4 < (l1.length : Int) then (if x5_4.length < 3518437208883 then (cartoucheref10_Steps.l1 kj23 a0 l1 (x5_4 ++ [(⟨(rd_T76 l1 x6_1).f1, (rd_T76 l1 x7_4).f2, (([(⟨(rd_T76 l1 x6_1).f0, (rd_T76 l1 x6_1).f1, (rd_T76 l1 x6_1).f2, (rd_T76 l1 x6_1).f3, (rd_T76 l1 x6_1).f4⟩ : S76), (⟨(rd_T76 l1 x7_4).f0, (rd_T76 l1 x7_4).f1, (rd_T76 l1 x7_4).f2, (rd_T76 l1 x7_4).f3, (rd_T76 l1 x7_4).f4⟩ : S76)] : List (S76)))⟩ : S50)]) x6_1 (wrap64 (x7_4 + 1))) else (none)) else (none)) else (none)) else (none)) else (none)) = some r := by rw [if_pos rfl] at H; exact H
                                clear H
                                have H := H1
                                clear H1
                                by_cases c33 : 0 ≤ x6_1
                                · rw [if_pos c33] at H
                                  have c33b0 : decide (0 ≤ x6_1) = true := decide_eq_true c33
                                  clear c33
                                  by_cases c34 : x6_1 < (l1.length : Int)
                                  · rw [if_pos c34] at H
                                    have c34b0 : decide (x6_1 < (l1.length : Int)) = true := decide_eq_true c34
                                    clear c34
                                    by_cases c35 : 0 ≤ x7_4
                                    · rw [if_pos c35] at H
                                      have c35b0 : decide (0 ≤ x7_4) = true := decide_eq_true c35
                                      clear c35
                                      by_cases c36 : x7_4 < (l1.length : Int)
                                      · rw [if_pos c36] at H
                                        have c36b0 : decide (x7_4 < (l1.length : Int)) = true := decide_eq_true c36
                                        clear c36
                                        obtain ⟨y801, hy801⟩ : ∃ y_ : List (S76), y_ = (([(⟨(rd_T76 l1 x6_1).f0, (rd_T76 l1 x6_1).f1, (rd_T76 l1 x6_1).f2, (rd_T76 l1 x6_1).f3, (rd_T76 l1 x6_1).f4⟩ : S76), (⟨(rd_T76 l1 x7_4).f0, (rd_T76 l1 x7_4).f1, (rd_T76 l1 x7_4).f2, (rd_T76 l1 x7_4).f3, (rd_T76 l1 x7_4).f4⟩ : S76)] : List (S76))) := ⟨_, rfl⟩
                                        replace H : (if x5_4.length < 3518437208883 then (cartoucheref10_Steps.l1 kj23 a0 l1 (x5_4 ++ [(⟨(rd_T76 l1 x6_1).f1, (rd_T76 l1 x7_4).f2, y801⟩ : S50)]) x6_1 (wrap64 (x7_4 + 1))) else (none)) = some r := by first | (rw [hy801]; with_reducible exact H) | (have H2_ := (Option.bind_some _ _).symm.trans H; rw [hy801]; with_reducible exact H2_) | (have H2_ := (Option.bind_some _ _).symm.trans H; with_reducible exact H2_) | with_reducible exact H | (rw [hy801]; exact H) | exact H
                                        have Ny801 := Aside0.mk hy801
                                        clear hy801
                                        by_cases c37 : x5_4.length < 3518437208883
                                        · rw [if_pos c37] at H
                                          have LMc37 := Aside0.mk c37
                                          clear c37
                                          obtain ⟨y804, hy804⟩ : ∃ y_ : List (S50), y_ = (x5_4 ++ [(⟨(rd_T76 l1 x6_1).f1, (rd_T76 l1 x7_4).f2, y801⟩ : S50)]) := ⟨_, rfl⟩
                                          replace H : (cartoucheref10_Steps.l1 kj23 a0 l1 y804 x6_1 (wrap64 (x7_4 + 1))) = some r := by first | (rw [hy804]; with_reducible exact H) | (have H2_ := (Option.bind_some _ _).symm.trans H; rw [hy804]; with_reducible exact H2_) | (have H2_ := (Option.bind_some _ _).symm.trans H; with_reducible exact H2_) | with_reducible exact H | (rw [hy804]; exact H) | exact H
                                          have Ny804 := Aside0.mk hy804
                                          clear hy804
                                          have H' := Aside0.mk H
                                          clear H
                                          try go_wp2
                                          have n0_ := Aside0.mk (Kd.S_drew HO_5.out)
                                          have n1_ := Aside0.mk (below_drew1 HB.out)
                                          clear HO_5
                                          clear HB
                                          have HO_5 := n0_
                                          have HB := n1_
                                          clear n0_ n1_
                                          have p797 : 0 ≤ (x6_1 : Int) := of_decide_eq_true (by first | (with_reducible assumption) | assumption)
                                          have q797 : x6_1 < (l1.length : Int) := of_decide_eq_true (by first | (with_reducible assumption) | assumption)
                                          obtain ⟨ad797, e797, hx797_0, hx797_1, hx797_2, hx797_3, hx797_4⟩ := at_T76 HR1.out x6_1 p797 q797
                                          have hw797_4 := hx797_4
                                          have hw797_3 := hx797_3
                                          have hw797_2 := hx797_2
                                          have hw797_1 := hx797_1
                                          have hw797_0 := hx797_0
                                          cases e797
                                          replace hx797_0 := (HB.out.cell (World.block_lt_of_cell? w _ hx797_0)).trans hx797_0
                                          replace hx797_1 := (HB.out.cell (World.block_lt_of_cell? w _ hx797_1)).trans hx797_1
                                          replace hx797_2 := (HB.out.cell (World.block_lt_of_cell? w _ hx797_2)).trans hx797_2
                                          replace hx797_3 := (HB.out.cell (World.block_lt_of_cell? w _ hx797_3)).trans hx797_3
                                          replace hx797_4 := (HB.out.cell (World.block_lt_of_cell? w _ hx797_4)).trans hx797_4
                                          replace p797 := eq_true p797
                                          replace q797 := eq_true q797
                                          have p798 : 0 ≤ (x7_4 : Int) := of_decide_eq_true (by first | (with_reducible assumption) | assumption)
                                          have q798 : x7_4 < (l1.length : Int) := of_decide_eq_true (by first | (with_reducible assumption) | assumption)
                                          obtain ⟨ad798, e798, hx798_0, hx798_1, hx798_2, hx798_3, hx798_4⟩ := at_T76 HR1.out x7_4 p798 q798
                                          have hw798_4 := hx798_4
                                          have hw798_3 := hx798_3
                                          have hw798_2 := hx798_2
                                          have hw798_1 := hx798_1
                                          have hw798_0 := hx798_0
                                          obtain rfl : ad797 = ad798 := (by injection e798)
                                          replace hx798_0 := (HB.out.cell (World.block_lt_of_cell? w _ hx798_0)).trans hx798_0
                                          replace hx798_1 := (HB.out.cell (World.block_lt_of_cell? w _ hx798_1)).trans hx798_1
                                          replace hx798_2 := (HB.out.cell (World.block_lt_of_cell? w _ hx798_2)).trans hx798_2
                                          replace hx798_3 := (HB.out.cell (World.block_lt_of_cell? w _ hx798_3)).trans hx798_3
                                          replace hx798_4 := (HB.out.cell (World.block_lt_of_cell? w _ hx798_4)).trans hx798_4
                                          replace p798 := eq_true p798
                                          replace q798 := eq_true q798
                                          have p799 : 0 ≤ (x6_1 : Int) := of_decide_eq_true (by first | (with_reducible assumption) | assumption)
                                          have q799 : x6_1 < (l1.length : Int) := of_decide_eq_true (by first | (with_reducible assumption) | assumption)
                                          obtain ⟨ad799, e799, hx799_0, hx799_1, hx799_2, hx799_3, hx799_4⟩ := at_T76 HR1.out x6_1 p799 q799
                                          have hw799_4 := hx799_4
                                          have hw799_3 := hx799_3
                                          have hw799_2 := hx799_2
                                          have hw799_1 := hx799_1
                                          have hw799_0 := hx799_0
                                          obtain rfl : ad797 = ad799 := (by injection e799)
                                          replace hx799_0 := (HB.out.cell (World.block_lt_of_cell? w _ hx799_0)).trans hx799_0
                                          replace hx799_1 := (HB.out.cell (World.block_lt_of_cell? w _ hx799_1)).trans hx799_1
                                          replace hx799_2 := (HB.out.cell (World.block_lt_of_cell? w _ hx799_2)).trans hx799_2
                                          replace hx799_3 := (HB.out.cell (World.block_lt_of_cell? w _ hx799_3)).trans hx799_3
                                          replace hx799_4 := (HB.out.cell (World.block_lt_of_cell? w _ hx799_4)).trans hx799_4
                                          replace p799 := eq_true p799
                                          replace q799 := eq_true q799
                                          have p800 : 0 ≤ (x7_4 : Int) := of_decide_eq_true (by first | (with_reducible assumption) | assumption)
                                          have q800 : x7_4 < (l1.length : Int) := of_decide_eq_true (by first | (with_reducible assumption) | assumption)
                                          obtain ⟨ad800, e800, hx800_0, hx800_1, hx800_2, hx800_3, hx800_4⟩ := at_T76 HR1.out x7_4 p800 q800
                                          have hw800_4 := hx800_4
                                          have hw800_3 := hx800_3
                                          have hw800_2 := hx800_2
                                          have hw800_1 := hx800_1
                                          have hw800_0 := hx800_0
                                          obtain rfl : ad797 = ad800 := (by injection e800)
                                          replace hx800_0 := (HB.out.cell (World.block_lt_of_cell? w _ hx800_0)).trans hx800_0
                                          replace hx800_1 := (HB.out.cell (World.block_lt_of_cell? w _ hx800_1)).trans hx800_1
                                          replace hx800_2 := (HB.out.cell (World.block_lt_of_cell? w _ hx800_2)).trans hx800_2
                                          replace hx800_3 := (HB.out.cell (World.block_lt_of_cell? w _ hx800_3)).trans hx800_3
                                          replace hx800_4 := (HB.out.cell (World.block_lt_of_cell? w _ hx800_4)).trans hx800_4
                                          replace p800 := eq_true p800
                                          replace q800 := eq_true q800
                                          refine start_ (n := 24) (S := fun w' => w'.cell? (ad797.add ((x6_1).toNat * 5)) = some (.int .i64 ((rd_T76 l1 x6_1).f0)) ∧ w'.cell? ⟨(ad797.add ((x6_1).toNat * 5)).block, (ad797.add ((x6_1).toNat * 5)).off + 1, none⟩ = some (.int .i64 ((rd_T76 l1 x6_1).f1)) ∧ w'.cell? ⟨(ad797.add ((x6_1).toNat * 5)).block, (ad797.add ((x6_1).toNat * 5)).off + 2, none⟩ = some (.int .i64 ((rd_T76 l1 x6_1).f2)) ∧ w'.cell? ⟨(ad797.add ((x6_1).toNat * 5)).block, (ad797.add ((x6_1).toNat * 5)).off + 3, none⟩ = some (.int .i64 ((rd_T76 l1 x6_1).f3)) ∧ w'.cell? ⟨(ad797.add ((x6_1).toNat * 5)).block, (ad797.add ((x6_1).toNat * 5)).off + 4, none⟩ = some (.int .i64 ((rd_T76 l1 x6_1).f4)) ∧ w'.cell? (ad797.add ((x7_4).toNat * 5)) = some (.int .i64 ((rd_T76 l1 x7_4).f0)) ∧ w'.cell? ⟨(ad797.add ((x7_4).toNat * 5)).block, (ad797.add ((x7_4).toNat * 5)).off + 1, none⟩ = some (.int .i64 ((rd_T76 l1 x7_4).f1)) ∧ w'.cell? ⟨(ad797.add ((x7_4).toNat * 5)).block, (ad797.add ((x7_4).toNat * 5)).off + 2, none⟩ = some (.int .i64 ((rd_T76 l1 x7_4).f2)) ∧ w'.cell? ⟨(ad797.add ((x7_4).toNat * 5)).block, (ad797.add ((x7_4).toNat * 5)).off + 3, none⟩ = some (.int .i64 ((rd_T76 l1 x7_4).f3)) ∧ w'.cell? ⟨(ad797.add ((x7_4).toNat * 5)).block, (ad797.add ((x7_4).toNat * 5)).off + 4, none⟩ = some (.int .i64 ((rd_T76 l1 x7_4).f4)) ∧ w'.cell? (ad797.add ((x6_1).toNat * 5)) = some (.int .i64 ((rd_T76 l1 x6_1).f0)) ∧ w'.cell? ⟨(ad797.add ((x6_1).toNat * 5)).block, (ad797.add ((x6_1).toNat * 5)).off + 1, none⟩ = some (.int .i64 ((rd_T76 l1 x6_1).f1)) ∧ w'.cell? ⟨(ad797.add ((x6_1).toNat * 5)).block, (ad797.add ((x6_1).toNat * 5)).off + 2, none⟩ = some (.int .i64 ((rd_T76 l1 x6_1).f2)) ∧ w'.cell? ⟨(ad797.add ((x6_1).toNat * 5)).block, (ad797.add ((x6_1).toNat * 5)).off + 3, none⟩ = some (.int .i64 ((rd_T76 l1 x6_1).f3)) ∧ w'.cell? ⟨(ad797.add ((x6_1).toNat * 5)).block, (ad797.add ((x6_1).toNat * 5)).off + 4, none⟩ = some (.int .i64 ((rd_T76 l1 x6_1).f4)) ∧ w'.cell? (ad797.add ((x7_4).toNat * 5)) = some (.int .i64 ((rd_T76 l1 x7_4).f0)) ∧ w'.cell? ⟨(ad797.add ((x7_4).toNat * 5)).block, (ad797.add ((x7_4).toNat * 5)).off + 1, none⟩ = some (.int .i64 ((rd_T76 l1 x7_4).f1)) ∧ w'.cell? ⟨(ad797.add ((x7_4).toNat * 5)).block, (ad797.add ((x7_4).toNat * 5)).off + 2, none⟩ = some (.int .i64 ((rd_T76 l1 x7_4).f2)) ∧ w'.cell? ⟨(ad797.add ((x7_4).toNat * 5)).block, (ad797.add ((x7_4).toNat * 5)).off + 3, none⟩ = some (.int .i64 ((rd_T76 l1 x7_4).f3)) ∧ w'.cell? ⟨(ad797.add ((x7_4).toNat * 5)).block, (ad797.add ((x7_4).toNat * 5)).off + 4, none⟩ = some (.int .i64 ((rd_T76 l1 x7_4).f4))) (ds := []) #[false, false, false, false, false, false, false, false, false, false, false, false, false, false, false, false, false, false, false, false, false, false, false, false] (by kernel_rfl) rfl rfl ⟨((HB.out.cell (World.block_lt_of_cell? w _ hw797_0)).trans hw797_0), ((HB.out.cell (World.block_lt_of_cell? w _ hw797_1)).trans hw797_1), ((HB.out.cell (World.block_lt_of_cell? w _ hw797_2)).trans hw797_2), ((HB.out.cell (World.block_lt_of_cell? w _ hw797_3)).trans hw797_3), ((HB.out.cell (World.block_lt_of_cell? w _ hw797_4)).trans hw797_4), ((HB.out.cell (World.block_lt_of_cell? w _ hw798_0)).trans hw798_0), ((HB.out.cell (World.block_lt_of_cell? w _ hw798_1)).trans hw798_1), ((HB.out.cell (World.block_lt_of_cell? w _ hw798_2)).trans hw798_2), ((HB.out.cell (World.block_lt_of_cell? w _ hw798_3)).trans hw798_3), ((HB.out.cell (World.block_lt_of_cell? w _ hw798_4)).trans hw798_4), ((HB.out.cell (World.block_lt_of_cell? w _ hw799_0)).trans hw799_0), ((HB.out.cell (World.block_lt_of_cell? w _ hw799_1)).trans hw799_1), ((HB.out.cell (World.block_lt_of_cell? w _ hw799_2)).trans hw799_2), ((HB.out.cell (World.block_lt_of_cell? w _ hw799_3)).trans hw799_3), ((HB.out.cell (World.block_lt_of_cell? w _ hw799_4)).trans hw799_4), ((HB.out.cell (World.block_lt_of_cell? w _ hw800_0)).trans hw800_0), ((HB.out.cell (World.block_lt_of_cell? w _ hw800_1)).trans hw800_1), ((HB.out.cell (World.block_lt_of_cell? w _ hw800_2)).trans hw800_2), ((HB.out.cell (World.block_lt_of_cell? w _ hw800_3)).trans hw800_3), ((HB.out.cell (World.block_lt_of_cell? w _ hw800_4)).trans hw800_4)⟩ (fun hHeld => ?_); refine with_tabW cartoucheref10_Steps.tab11 cartoucheref10_Steps.bits11 (fun HT_ HW_ => ?_)
                                          generalize wc.drew = w38 at HO_5 HB hx797_0 hx797_1 hx797_2 hx797_3 hx797_4 hx798_0 hx798_1 hx798_2 hx798_3 hx798_4 hx799_0 hx799_1 hx799_2 hx799_3 hx799_4 hx800_0 hx800_1 hx800_2 hx800_3 hx800_4 hHeld ⊢
                                          refine pure_ (i := 0) (N := some 84) (v := ?_) (a' := ?_) #[true, false, false, false, false, false, false, false, false, false, false, false, false, false, false, false, false, false, false, false, false, false, false, false] rfl rfl (any_of HT_.out (by kernel_rfl)) (fun _ _ _ h => h) (Or.inl ⟨by rfl, ?_⟩) ?_ ?_
                                          rotate_left
                                          · intro w'
                                            go_simp
                                            with_reducible rfl
                                          rotate_left
                                          · simp only [Act.put, List.setIfInBounds_toArray, List.set_cons_zero, List.set_cons_succ, i64_w, i32_w]
                                            rfl
                                          refine pure_ (i := 1) (N := some 85) (v := ?_) (a' := ?_) #[true, true, false, false, false, false, false, false, false, false, false, false, false, false, false, false, false, false, false, false, false, false, false, false] rfl rfl (any_of HT_.out (by kernel_rfl)) (fun _ _ _ h => h) (Or.inl ⟨by rfl, ?_⟩) ?_ ?_
                                          rotate_left
                                          · intro w'
                                            go_simp
                                            with_reducible rfl
                                          rotate_left
                                          · simp only [Act.put, List.setIfInBounds_toArray, List.set_cons_zero, List.set_cons_succ, i64_w, i32_w]
                                            rfl
                                          refine pure_ (i := 2) (N := some 86) (v := ?_) (a' := ?_) #[true, true, true, false, false, false, false, false, false, false, false, false, false, false, false, false, false, false, false, false, false, false, false, false] rfl rfl (any_of HT_.out (by kernel_rfl)) (fun _ _ _ h => h) (Or.inl ⟨by rfl, ?_⟩) ?_ ?_
                                          rotate_left
                                          · intro w'
                                            go_simp
                                            with_reducible rfl
                                          rotate_left
                                          · simp only [Act.put, List.setIfInBounds_toArray, List.set_cons_zero, List.set_cons_succ, i64_w, i32_w]
                                            rfl
                                          refine pure_ (i := 3) (N := some 87) (v := ?_) (a' := ?_) #[true, true, true, true, false, false, false, false, false, false, false, false, false, false, false, false, false, false, false, false, false, false, false, false] rfl rfl (any_of HT_.out (by kernel_rfl)) (fun _ _ _ h => h) (Or.inl ⟨by rfl, ?_⟩) ?_ ?_
                                          rotate_left
                                          · intro w'
                                            go_simp
                                            with_reducible rfl
                                          rotate_left
                                          · simp only [Act.put, List.setIfInBounds_toArray, List.set_cons_zero, List.set_cons_succ, i64_w, i32_w]
                                            rfl
                                          refine pure_ (i := 4) (N := some 88) (v := ?_) (a' := ?_) #[true, true, true, true, true, false, false, false, false, false, false, false, false, false, false, false, false, false, false, false, false, false, false, false] rfl rfl (any_of HT_.out (by kernel_rfl)) (fun _ _ _ h => h) (Or.inl ⟨by rfl, ?_⟩) ?_ ?_
                                          rotate_left
                                          · intro w'
                                            go_simp
                                            with_reducible rfl
                                          rotate_left
                                          · simp only [Act.put, List.setIfInBounds_toArray, List.set_cons_zero, List.set_cons_succ, i64_w, i32_w]
                                            rfl
                                          refine pure_ (i := 6) (N := some 90) (v := ?_) (a' := ?_) #[true, true, true, true, true, false, true, false, false, false, false, false, false, false, false, false, false, false, false, false, false, false, false, false] rfl rfl (any_of HT_.out (by kernel_rfl)) (fun _ _ _ h => h) (Or.inl ⟨by rfl, ?_⟩) ?_ ?_
                                          rotate_left
                                          · intro w'
                                            go_simp
                                            with_reducible rfl
                                          rotate_left
                                          · simp only [Act.put, List.setIfInBounds_toArray, List.set_cons_zero, List.set_cons_succ, i64_w, i32_w]
                                            rfl
                                          refine pure_ (i := 7) (N := some 91) (v := ?_) (a' := ?_) #[true, true, true, true, true, false, true, true, false, false, false, false, false, false, false, false, false, false, false, false, false, false, false, false] rfl rfl (any_of HT_.out (by kernel_rfl)) (fun _ _ _ h => h) (Or.inl ⟨by rfl, ?_⟩) ?_ ?_
                                          rotate_left
                                          · intro w'
                                            go_simp
                                            with_reducible rfl
                                          rotate_left
                                          · simp only [Act.put, List.setIfInBounds_toArray, List.set_cons_zero, List.set_cons_succ, i64_w, i32_w]
                                            rfl
                                          refine pure_ (i := 8) (N := some 92) (v := ?_) (a' := ?_) #[true, true, true, true, true, false, true, true, true, false, false, false, false, false, false, false, false, false, false, false, false, false, false, false] rfl rfl (any_of HT_.out (by kernel_rfl)) (fun _ _ _ h => h) (Or.inl ⟨by rfl, ?_⟩) ?_ ?_
                                          rotate_left
                                          · intro w'
                                            go_simp
                                            with_reducible rfl
                                          rotate_left
                                          · simp only [Act.put, List.setIfInBounds_toArray, List.set_cons_zero, List.set_cons_succ, i64_w, i32_w]
                                            rfl
                                          refine pure_ (i := 9) (N := some 93) (v := ?_) (a' := ?_) #[true, true, true, true, true, false, true, true, true, true, false, false, false, false, false, false, false, false, false, false, false, false, false, false] rfl rfl (any_of HT_.out (by kernel_rfl)) (fun _ _ _ h => h) (Or.inl ⟨by rfl, ?_⟩) ?_ ?_
                                          rotate_left
                                          · intro w'
                                            go_simp
                                            with_reducible rfl
                                          rotate_left
                                          · simp only [Act.put, List.setIfInBounds_toArray, List.set_cons_zero, List.set_cons_succ, i64_w, i32_w]
                                            rfl
                                          refine pure_ (i := 11) (N := some 95) (v := ?_) (a' := ?_) #[true, true, true, true, true, false, true, true, true, true, false, true, false, false, false, false, false, false, false, false, false, false, false, false] rfl rfl (any_of HT_.out (by kernel_rfl)) (fun _ _ _ h => h) (Or.inl ⟨by rfl, ?_⟩) ?_ ?_
                                          rotate_left
                                          · intro w'
                                            go_simp
                                            with_reducible rfl
                                          rotate_left
                                          · simp only [Act.put, List.setIfInBounds_toArray, List.set_cons_zero, List.set_cons_succ, i64_w, i32_w]
                                            rfl
                                          refine pure_ (i := 12) (N := some 96) (v := ?_) (a' := ?_) #[true, true, true, true, true, false, true, true, true, true, false, true, true, false, false, false, false, false, false, false, false, false, false, false] rfl rfl (any_of HT_.out (by kernel_rfl)) (fun _ _ _ h => h) (Or.inl ⟨by rfl, ?_⟩) ?_ ?_
                                          rotate_left
                                          · intro w'
                                            go_simp
                                            with_reducible rfl
                                          rotate_left
                                          · simp only [Act.put, List.setIfInBounds_toArray, List.set_cons_zero, List.set_cons_succ, i64_w, i32_w]
                                            rfl
                                          refine pure_ (i := 13) (N := some 97) (v := ?_) (a' := ?_) #[true, true, true, true, true, false, true, true, true, true, false, true, true, true, false, false, false, false, false, false, false, false, false, false] rfl rfl (any_of HT_.out (by kernel_rfl)) (fun _ _ _ h => h) (Or.inl ⟨by rfl, ?_⟩) ?_ ?_
                                          rotate_left
                                          · intro w'
                                            go_simp
                                            with_reducible rfl
                                          rotate_left
                                          · simp only [Act.put, List.setIfInBounds_toArray, List.set_cons_zero, List.set_cons_succ, i64_w, i32_w]
                                            rfl
                                          refine pure_ (i := 15) (N := some 99) (v := ?_) (a' := ?_) #[true, true, true, true, true, false, true, true, true, true, false, true, true, true, false, true, false, false, false, false, false, false, false, false] rfl rfl (any_of HT_.out (by kernel_rfl)) (fun _ _ _ h => h) (Or.inl ⟨by rfl, ?_⟩) ?_ ?_
                                          rotate_left
                                          · intro w'
                                            go_simp
                                            with_reducible rfl
                                          rotate_left
                                          · simp only [Act.put, List.setIfInBounds_toArray, List.set_cons_zero, List.set_cons_succ, i64_w, i32_w]
                                            rfl
                                          refine pure_ (i := 16) (N := some 100) (v := ?_) (a' := ?_) #[true, true, true, true, true, false, true, true, true, true, false, true, true, true, false, true, true, false, false, false, false, false, false, false] rfl rfl (any_of HT_.out (by kernel_rfl)) (fun _ _ _ h => h) (Or.inl ⟨by rfl, ?_⟩) ?_ ?_
                                          rotate_left
                                          · intro w'
                                            go_simp
                                            with_reducible rfl
                                          rotate_left
                                          · simp only [Act.put, List.setIfInBounds_toArray, List.set_cons_zero, List.set_cons_succ, i64_w, i32_w]
                                            rfl
                                          refine pure_ (i := 17) (N := some 101) (v := ?_) (a' := ?_) #[true, true, true, true, true, false, true, true, true, true, false, true, true, true, false, true, true, true, false, false, false, false, false, false] rfl rfl (any_of HT_.out (by kernel_rfl)) (fun _ _ _ h => h) (Or.inl ⟨by rfl, ?_⟩) ?_ ?_
                                          rotate_left
                                          · intro w'
                                            go_simp
                                            with_reducible rfl
                                          rotate_left
                                          · simp only [Act.put, List.setIfInBounds_toArray, List.set_cons_zero, List.set_cons_succ, i64_w, i32_w]
                                            rfl
                                          refine take_ (i := 5) (N := some 89) (v := ?_) (a' := ?_) #[true, true, true, true, true, true, true, true, true, true, false, true, true, true, false, true, true, true, false, false, false, false, false, false] rfl rfl (take_ofW HT_.out HW_.out (by kernel_rfl)) (fun _ _ _ h => h) (Or.inl ⟨by rfl, ?_⟩) hHeld ?_ ?_
                                          rotate_left
                                          · rintro w' ⟨s0, s1, s2, s3, s4, s5, s6, s7, s8, s9, s10, s11, s12, s13, s14, s15, s16, s17, s18, s19⟩
                                            go_simp
                                            with_reducible rfl
                                          rotate_left
                                          · simp only [Act.put, List.setIfInBounds_toArray, List.set_cons_zero, List.set_cons_succ, i64_w, i32_w]
                                            rfl
                                          refine take_ (i := 10) (N := some 94) (v := ?_) (a' := ?_) #[true, true, true, true, true, true, true, true, true, true, true, true, true, true, false, true, true, true, false, false, false, false, false, false] rfl rfl (take_ofW HT_.out HW_.out (by kernel_rfl)) (fun _ _ _ h => h) (Or.inl ⟨by rfl, ?_⟩) hHeld ?_ ?_
                                          rotate_left
                                          · rintro w' ⟨s0, s1, s2, s3, s4, s5, s6, s7, s8, s9, s10, s11, s12, s13, s14, s15, s16, s17, s18, s19⟩
                                            go_simp
                                            with_reducible rfl
                                          rotate_left
                                          · simp only [Act.put, List.setIfInBounds_toArray, List.set_cons_zero, List.set_cons_succ, i64_w, i32_w]
                                            rfl
                                          refine take_ (i := 14) (N := some 98) (v := ?_) (a' := ?_) #[true, true, true, true, true, true, true, true, true, true, true, true, true, true, true, true, true, true, false, false, false, false, false, false] rfl rfl (take_ofW HT_.out HW_.out (by kernel_rfl)) (fun _ _ _ h => h) (Or.inl ⟨by rfl, ?_⟩) hHeld ?_ ?_
                                          rotate_left
                                          · rintro w' ⟨s0, s1, s2, s3, s4, s5, s6, s7, s8, s9, s10, s11, s12, s13, s14, s15, s16, s17, s18, s19⟩
                                            go_simp
                                            with_reducible rfl
                                          rotate_left
                                          · simp only [Act.put, List.setIfInBounds_toArray, List.set_cons_zero, List.set_cons_succ, i64_w, i32_w]
                                            rfl
                                          refine take_ (i := 18) (N := some 102) (v := ?_) (a' := ?_) #[true, true, true, true, true, true, true, true, true, true, true, true, true, true, true, true, true, true, true, false, false, false, false, false] rfl rfl (take_ofW HT_.out HW_.out (by kernel_rfl)) (fun _ _ _ h => h) (Or.inl ⟨by rfl, ?_⟩) hHeld ?_ ?_
                                          rotate_left
                                          · rintro w' ⟨s0, s1, s2, s3, s4, s5, s6, s7, s8, s9, s10, s11, s12, s13, s14, s15, s16, s17, s18, s19⟩
                                            go_simp
                                            with_reducible rfl
                                          rotate_left
                                          · simp only [Act.put, List.setIfInBounds_toArray, List.set_cons_zero, List.set_cons_succ, i64_w, i32_w]
                                            rfl
                                          refine one_ (i := 19) (N := some 103) #[true, true, true, true, true, true, true, true, true, true, true, true, true, true, true, true, true, true, true, true, false, false, false, false] rfl rfl (one_of HT_.out (by kernel_rfl)) (by decide) (fun K hK => ?_)
                                          refine Kd.R_lit_step k76 _ 76 ?hg (N := 103) ?hd (xs := ([(⟨(rd_T76 l1 x6_1).f0, (rd_T76 l1 x6_1).f1, (rd_T76 l1 x6_1).f2, (rd_T76 l1 x6_1).f3, (rd_T76 l1 x6_1).f4⟩ : S76), (⟨(rd_T76 l1 x7_4).f0, (rd_T76 l1 x7_4).f1, (rd_T76 l1 x7_4).f2, (rd_T76 l1 x7_4).f3, (rd_T76 l1 x7_4).f4⟩ : S76)] : List (S76))) (inner := [.int .i64 ((rd_T76 l1 x6_1).f0), .int .i64 ((rd_T76 l1 x6_1).f1), .int .i64 ((rd_T76 l1 x6_1).f2), .int .i64 ((rd_T76 l1 x6_1).f3), .int .i64 ((rd_T76 l1 x6_1).f4), .int .i64 ((rd_T76 l1 x7_4).f0), .int .i64 ((rd_T76 l1 x7_4).f1), .int .i64 ((rd_T76 l1 x7_4).f2), .int .i64 ((rd_T76 l1 x7_4).f3), .int .i64 ((rd_T76 l1 x7_4).f4)]) (ok := fun _ => True) (okp := fun _ => True) ?hr ?hp (fun _ hk => hk) trivial (Below.refl _ _) (Nat.le_refl _) (by simp) ?_; (case hd => rfl); (case hg => rfl); (case hr => first | (go_simp; done) | (go_simp; rfl)); (case hp => exact (Reps.c5 (show Kd.M k76 _ _ _ (⟨(rd_T76 l1 x6_1).f0, (rd_T76 l1 x6_1).f1, (rd_T76 l1 x6_1).f2, (rd_T76 l1 x6_1).f3, (rd_T76 l1 x6_1).f4⟩ : S76) [.int .i64 ((rd_T76 l1 x6_1).f0), .int .i64 ((rd_T76 l1 x6_1).f1), .int .i64 ((rd_T76 l1 x6_1).f2), .int .i64 ((rd_T76 l1 x6_1).f3), .int .i64 ((rd_T76 l1 x6_1).f4)] from (k76_mkM _ _ _ (⟨(rd_T76 l1 x6_1).f0, (rd_T76 l1 x6_1).f1, (rd_T76 l1 x6_1).f2, (rd_T76 l1 x6_1).f3, (rd_T76 l1 x6_1).f4⟩ : S76) )) (Reps.c5 (show Kd.M k76 _ _ _ (⟨(rd_T76 l1 x7_4).f0, (rd_T76 l1 x7_4).f1, (rd_T76 l1 x7_4).f2, (rd_T76 l1 x7_4).f3, (rd_T76 l1 x7_4).f4⟩ : S76) [.int .i64 ((rd_T76 l1 x7_4).f0), .int .i64 ((rd_T76 l1 x7_4).f1), .int .i64 ((rd_T76 l1 x7_4).f2), .int .i64 ((rd_T76 l1 x7_4).f3), .int .i64 ((rd_T76 l1 x7_4).f4)] from (k76_mkM _ _ _ (⟨(rd_T76 l1 x7_4).f0, (rd_T76 l1 x7_4).f1, (rd_T76 l1 x7_4).f2, (rd_T76 l1 x7_4).f3, (rd_T76 l1 x7_4).f4⟩ : S76) )) (Reps.none _ _))))
                                          intro v802 w39 ho40 hb hg_ hnew_
                                          clear hg_ hnew_
                                          (first | rw [← Ny801.out] at ho40 | (simp only [Int.reduceToNat] at ho40; rw [← Ny801.out] at ho40))
                                          have n0_ := Aside0.mk (Kd.S_elder' (by (with_reducible repeat (first | apply Kd.S_alloc | apply Kd.S_drewN | apply Kd.S_drew)); exact HO_5.out) (Kd.R_base ho40) hb)
                                          have n1_ := Aside0.mk (Kd.R_lower ho40 (below_size (by repeat (first | (with_reducible first | exact HB.out | apply below_alloc | apply pw_below_drewN | apply below_drew1) | exact HB.out))))
                                          have n2_ := Aside0.mk (below_step (by repeat (first | (with_reducible first | exact HB.out | apply below_alloc | apply pw_below_drewN | apply below_drew1) | exact HB.out)) hb)
                                          clear HO_5
                                          clear HB
                                          have HO_5 := n0_
                                          have HO803 := n1_
                                          have HB := n2_
                                          clear n0_ n1_ n2_
                                          clear hb ho40
                                          obtain ⟨Ao41, co41, eo41⟩ := Kd.R_slice HO803.out
                                          (first | subst eo41 | (injection eo41 with f1_ f2_ f3_; have f4_ := f1_.symm; have f5_ := f3_.symm; clear f1_ f2_ f3_; subst f4_; subst f5_))
                                          refine hK.out _ _ ⟨((HB.out.cell (World.block_lt_of_cell? w _ hw797_0)).trans hw797_0), ((HB.out.cell (World.block_lt_of_cell? w _ hw797_1)).trans hw797_1), ((HB.out.cell (World.block_lt_of_cell? w _ hw797_2)).trans hw797_2), ((HB.out.cell (World.block_lt_of_cell? w _ hw797_3)).trans hw797_3), ((HB.out.cell (World.block_lt_of_cell? w _ hw797_4)).trans hw797_4), ((HB.out.cell (World.block_lt_of_cell? w _ hw798_0)).trans hw798_0), ((HB.out.cell (World.block_lt_of_cell? w _ hw798_1)).trans hw798_1), ((HB.out.cell (World.block_lt_of_cell? w _ hw798_2)).trans hw798_2), ((HB.out.cell (World.block_lt_of_cell? w _ hw798_3)).trans hw798_3), ((HB.out.cell (World.block_lt_of_cell? w _ hw798_4)).trans hw798_4), ((HB.out.cell (World.block_lt_of_cell? w _ hw799_0)).trans hw799_0), ((HB.out.cell (World.block_lt_of_cell? w _ hw799_1)).trans hw799_1), ((HB.out.cell (World.block_lt_of_cell? w _ hw799_2)).trans hw799_2), ((HB.out.cell (World.block_lt_of_cell? w _ hw799_3)).trans hw799_3), ((HB.out.cell (World.block_lt_of_cell? w _ hw799_4)).trans hw799_4), ((HB.out.cell (World.block_lt_of_cell? w _ hw800_0)).trans hw800_0), ((HB.out.cell (World.block_lt_of_cell? w _ hw800_1)).trans hw800_1), ((HB.out.cell (World.block_lt_of_cell? w _ hw800_2)).trans hw800_2), ((HB.out.cell (World.block_lt_of_cell? w _ hw800_3)).trans hw800_3), ((HB.out.cell (World.block_lt_of_cell? w _ hw800_4)).trans hw800_4)⟩ (fun hHeld => ?_)
                                          clear hK K
                                          refine norm_ (a' := ?_) ?_ ?_
                                          rotate_left
                                          · show Act.put _ (some 103) _ = _
                                            simp only [Act.put, List.setIfInBounds_toArray, List.set_cons_zero, List.set_cons_succ, i64_w, i32_w]
                                            rfl
                                          refine pure_ (i := 20) (N := some 104) (v := ?_) (a' := ?_) #[true, true, true, true, true, true, true, true, true, true, true, true, true, true, true, true, true, true, true, true, true, false, false, false] rfl rfl (any_of HT_.out (by kernel_rfl)) (fun _ _ _ h => h) (Or.inl ⟨by rfl, ?_⟩) ?_ ?_
                                          rotate_left
                                          · intro w'
                                            go_simp
                                            with_reducible rfl
                                          rotate_left
                                          · simp only [Act.put, List.setIfInBounds_toArray, List.set_cons_zero, List.set_cons_succ, i64_w, i32_w]
                                            rfl
                                          refine one_ (i := 21) (N := some 105) #[true, true, true, true, true, true, true, true, true, true, true, true, true, true, true, true, true, true, true, true, true, true, false, false] rfl rfl (one_of HT_.out (by kernel_rfl)) (by decide) (fun K hK => ?_)
                                          refine value_ (w1 := ?_) (v := ?_) (by rfl) rfl ?_ ?_
                                          rotate_left 2
                                          · go_simp
                                            constructor
                                            · rfl
                                            · rfl
                                          refine hK.out _ _ ⟨(World.cell?_alloc_lt _ _ _ (World.block_lt_of_cell? _ _ (((HB.out.cell (World.block_lt_of_cell? w _ hw797_0)).trans hw797_0)))).trans (((HB.out.cell (World.block_lt_of_cell? w _ hw797_0)).trans hw797_0)), (World.cell?_alloc_lt _ _ _ (World.block_lt_of_cell? _ _ (((HB.out.cell (World.block_lt_of_cell? w _ hw797_1)).trans hw797_1)))).trans (((HB.out.cell (World.block_lt_of_cell? w _ hw797_1)).trans hw797_1)), (World.cell?_alloc_lt _ _ _ (World.block_lt_of_cell? _ _ (((HB.out.cell (World.block_lt_of_cell? w _ hw797_2)).trans hw797_2)))).trans (((HB.out.cell (World.block_lt_of_cell? w _ hw797_2)).trans hw797_2)), (World.cell?_alloc_lt _ _ _ (World.block_lt_of_cell? _ _ (((HB.out.cell (World.block_lt_of_cell? w _ hw797_3)).trans hw797_3)))).trans (((HB.out.cell (World.block_lt_of_cell? w _ hw797_3)).trans hw797_3)), (World.cell?_alloc_lt _ _ _ (World.block_lt_of_cell? _ _ (((HB.out.cell (World.block_lt_of_cell? w _ hw797_4)).trans hw797_4)))).trans (((HB.out.cell (World.block_lt_of_cell? w _ hw797_4)).trans hw797_4)), (World.cell?_alloc_lt _ _ _ (World.block_lt_of_cell? _ _ (((HB.out.cell (World.block_lt_of_cell? w _ hw798_0)).trans hw798_0)))).trans (((HB.out.cell (World.block_lt_of_cell? w _ hw798_0)).trans hw798_0)), (World.cell?_alloc_lt _ _ _ (World.block_lt_of_cell? _ _ (((HB.out.cell (World.block_lt_of_cell? w _ hw798_1)).trans hw798_1)))).trans (((HB.out.cell (World.block_lt_of_cell? w _ hw798_1)).trans hw798_1)), (World.cell?_alloc_lt _ _ _ (World.block_lt_of_cell? _ _ (((HB.out.cell (World.block_lt_of_cell? w _ hw798_2)).trans hw798_2)))).trans (((HB.out.cell (World.block_lt_of_cell? w _ hw798_2)).trans hw798_2)), (World.cell?_alloc_lt _ _ _ (World.block_lt_of_cell? _ _ (((HB.out.cell (World.block_lt_of_cell? w _ hw798_3)).trans hw798_3)))).trans (((HB.out.cell (World.block_lt_of_cell? w _ hw798_3)).trans hw798_3)), (World.cell?_alloc_lt _ _ _ (World.block_lt_of_cell? _ _ (((HB.out.cell (World.block_lt_of_cell? w _ hw798_4)).trans hw798_4)))).trans (((HB.out.cell (World.block_lt_of_cell? w _ hw798_4)).trans hw798_4)), (World.cell?_alloc_lt _ _ _ (World.block_lt_of_cell? _ _ (((HB.out.cell (World.block_lt_of_cell? w _ hw799_0)).trans hw799_0)))).trans (((HB.out.cell (World.block_lt_of_cell? w _ hw799_0)).trans hw799_0)), (World.cell?_alloc_lt _ _ _ (World.block_lt_of_cell? _ _ (((HB.out.cell (World.block_lt_of_cell? w _ hw799_1)).trans hw799_1)))).trans (((HB.out.cell (World.block_lt_of_cell? w _ hw799_1)).trans hw799_1)), (World.cell?_alloc_lt _ _ _ (World.block_lt_of_cell? _ _ (((HB.out.cell (World.block_lt_of_cell? w _ hw799_2)).trans hw799_2)))).trans (((HB.out.cell (World.block_lt_of_cell? w _ hw799_2)).trans hw799_2)), (World.cell?_alloc_lt _ _ _ (World.block_lt_of_cell? _ _ (((HB.out.cell (World.block_lt_of_cell? w _ hw799_3)).trans hw799_3)))).trans (((HB.out.cell (World.block_lt_of_cell? w _ hw799_3)).trans hw799_3)), (World.cell?_alloc_lt _ _ _ (World.block_lt_of_cell? _ _ (((HB.out.cell (World.block_lt_of_cell? w _ hw799_4)).trans hw799_4)))).trans (((HB.out.cell (World.block_lt_of_cell? w _ hw799_4)).trans hw799_4)), (World.cell?_alloc_lt _ _ _ (World.block_lt_of_cell? _ _ (((HB.out.cell (World.block_lt_of_cell? w _ hw800_0)).trans hw800_0)))).trans (((HB.out.cell (World.block_lt_of_cell? w _ hw800_0)).trans hw800_0)), (World.cell?_alloc_lt _ _ _ (World.block_lt_of_cell? _ _ (((HB.out.cell (World.block_lt_of_cell? w _ hw800_1)).trans hw800_1)))).trans (((HB.out.cell (World.block_lt_of_cell? w _ hw800_1)).trans hw800_1)), (World.cell?_alloc_lt _ _ _ (World.block_lt_of_cell? _ _ (((HB.out.cell (World.block_lt_of_cell? w _ hw800_2)).trans hw800_2)))).trans (((HB.out.cell (World.block_lt_of_cell? w _ hw800_2)).trans hw800_2)), (World.cell?_alloc_lt _ _ _ (World.block_lt_of_cell? _ _ (((HB.out.cell (World.block_lt_of_cell? w _ hw800_3)).trans hw800_3)))).trans (((HB.out.cell (World.block_lt_of_cell? w _ hw800_3)).trans hw800_3)), (World.cell?_alloc_lt _ _ _ (World.block_lt_of_cell? _ _ (((HB.out.cell (World.block_lt_of_cell? w _ hw800_4)).trans hw800_4)))).trans (((HB.out.cell (World.block_lt_of_cell? w _ hw800_4)).trans hw800_4))⟩ (fun hHeld => ?_)
                                          clear hK K
                                          refine norm_ (a' := ?_) ?_ ?_
                                          rotate_left
                                          · show Act.put _ (some 105) _ = _
                                            simp only [Act.put, List.setIfInBounds_toArray, List.set_cons_zero, List.set_cons_succ, i64_w, i32_w]
                                            rfl
                                          refine one_ (i := 22) (N := some 106) #[true, true, true, true, true, true, true, true, true, true, true, true, true, true, true, true, true, true, true, true, true, true, true, false] rfl rfl (one_of HT_.out (by kernel_rfl)) (by decide) (fun K hK => ?_)
                                          refine Kd.S_append_step k50 (w0 := w) w.heap.size (by rfl) (.tmp 84) (.tmp 105) 43 50 (.agg #[(.int .i64 0), (.int .i64 0), (.slice none 0 0)]) 40 rfl Try.underlying43 info50 rfl (by decide) (by omega) u5 x5_4 (⟨(rd_T76 l1 x6_1).f1, (rd_T76 l1 x7_4).f2, y801⟩ : S50) [.int .i64 ((rd_T76 l1 x6_1).f1), .int .i64 ((rd_T76 l1 x7_4).f2), .slice Ao41 y801.length co41] (fun _ => True) (fun k_ => some k_ = (.slice Ao41 y801.length co41 : Value).ownBlock) rfl rfl ?aP (fun k_ hk_ => ((Kd.R_mono (ok' := fun k_ => ((fun _ => True)) k_ ∧ some k_ ≠ (u5 : Value).ownBlock) (Kd.R_apart' (HO803.out) (Kd.S_typed HO_5.out) (by decide)) (fun k_ hk => ⟨trivial, hk.2⟩))).1 k_ hk_.symm) ?aF ?aO ?aB ?aS ?aL ?_
                                          (case aP => exact k50_mkM _ _ _ (⟨(rd_T76 l1 x6_1).f1, (rd_T76 l1 x7_4).f2, y801⟩ : S50) (Kd.R_mono (Kd.R_tight rfl (Kd.R_mono (ok' := fun k_ => ((fun _ => True)) k_ ∧ some k_ ≠ (u5 : Value).ownBlock) (Kd.R_apart' (HO803.out) (Kd.S_typed HO_5.out) (by decide)) (fun k_ hk => ⟨trivial, hk.2⟩))) (fun _ h_ => h_)))
                                          (case aB => exact (by repeat (first | (with_reducible first | exact HB.out | apply below_alloc | apply pw_below_drewN | apply below_drew1) | exact HB.out)))
                                          (case aF => exact (fun _ _ => trivial))
                                          (case aO => exact (by (with_reducible repeat (first | apply Kd.S_alloc | apply Kd.S_drewN | apply Kd.S_drew)); exact Kd.S_mono HO_5.out (fun k_ hk => ⟨trivial, fun e_ => hk.2 e_⟩)))
                                          (case aS => exact (below_size (by repeat (first | (with_reducible first | exact HB.out | apply below_alloc | apply pw_below_drewN | apply below_drew1) | exact HB.out))))
                                          (case aL => have := LMc37.out; omega)
                                          intro v805 w42 ho hb hg hat
                                          rw [← Ny804.out] at ho
                                          have n0_ := Aside0.mk (hb)
                                          have n1_ := Aside0.mk (ho)
                                          clear HB
                                          clear HO_5
                                          clear HO803
                                          have HB := n0_
                                          have HO806 := n1_
                                          clear n0_ n1_
                                          clear ho hb hg hat
                                          refine hK.out _ _ ⟨((HB.out.cell (World.block_lt_of_cell? w _ hw797_0)).trans hw797_0), ((HB.out.cell (World.block_lt_of_cell? w _ hw797_1)).trans hw797_1), ((HB.out.cell (World.block_lt_of_cell? w _ hw797_2)).trans hw797_2), ((HB.out.cell (World.block_lt_of_cell? w _ hw797_3)).trans hw797_3), ((HB.out.cell (World.block_lt_of_cell? w _ hw797_4)).trans hw797_4), ((HB.out.cell (World.block_lt_of_cell? w _ hw798_0)).trans hw798_0), ((HB.out.cell (World.block_lt_of_cell? w _ hw798_1)).trans hw798_1), ((HB.out.cell (World.block_lt_of_cell? w _ hw798_2)).trans hw798_2), ((HB.out.cell (World.block_lt_of_cell? w _ hw798_3)).trans hw798_3), ((HB.out.cell (World.block_lt_of_cell? w _ hw798_4)).trans hw798_4), ((HB.out.cell (World.block_lt_of_cell? w _ hw799_0)).trans hw799_0), ((HB.out.cell (World.block_lt_of_cell? w _ hw799_1)).trans hw799_1), ((HB.out.cell (World.block_lt_of_cell? w _ hw799_2)).trans hw799_2), ((HB.out.cell (World.block_lt_of_cell? w _ hw799_3)).trans hw799_3), ((HB.out.cell (World.block_lt_of_cell? w _ hw799_4)).trans hw799_4), ((HB.out.cell (World.block_lt_of_cell? w _ hw800_0)).trans hw800_0), ((HB.out.cell (World.block_lt_of_cell? w _ hw800_1)).trans hw800_1), ((HB.out.cell (World.block_lt_of_cell? w _ hw800_2)).trans hw800_2), ((HB.out.cell (World.block_lt_of_cell? w _ hw800_3)).trans hw800_3), ((HB.out.cell (World.block_lt_of_cell? w _ hw800_4)).trans hw800_4)⟩ (fun hHeld => ?_)
                                          clear hK K
                                          refine norm_ (a' := ?_) ?_ ?_
                                          rotate_left
                                          · show Act.put _ (some 106) _ = _
                                            simp only [Act.put, List.setIfInBounds_toArray, List.set_cons_zero, List.set_cons_succ, i64_w, i32_w]
                                            rfl
                                          refine pure_ (i := 23) (N := some 5) (v := ?_) (a' := ?_) #[true, true, true, true, true, true, true, true, true, true, true, true, true, true, true, true, true, true, true, true, true, true, true, true] rfl rfl (any_of HT_.out (by kernel_rfl)) (fun _ _ _ h => h) (Or.inl ⟨by rfl, ?_⟩) ?_ ?_
                                          rotate_left
                                          · intro w'
                                            go_simp
                                            with_reducible rfl
                                          rotate_left
                                          · simp only [Act.put, List.setIfInBounds_toArray, List.set_cons_zero, List.set_cons_succ, i64_w, i32_w]
                                            rfl
                                          refine done_ (done_of HT_.out (by kernel_rfl)) ?_
                                          try go_wp2
                                          go_roundg kj23
                                          case measure => have := HK1.out; have := HJ3.out; have := HJ7.out; have := HK4.out; have := HJ17.out; have := HJ23.out; omega
                                          case rel => exact ⟨(y804), (wrap64 (x7_4 + 1)), (by first | rfl | (simp; done) | (simp [*]; done)), H', ⟨by have := HK1.out; have := HJ3.out; have := HJ7.out; have := HK4.out; have := HJ17.out; have := HJ23.out; omega⟩, ⟨by (with_reducible repeat (first | apply Kd.S_alloc | apply Kd.S_drewN | apply Kd.S_drew)); exact HO806.out⟩, ⟨by repeat (first | (with_reducible first | exact HB.out | apply below_alloc | apply pw_below_drewN | apply below_drew1) | exact HB.out)⟩⟩
                                        · rw [if_neg c37] at H
                                          exact absurd H (by simp)
                                      · rw [if_neg c36] at H
                                        exact absurd H (by simp)
                                    · rw [if_neg c35] at H
                                      exact absurd H (by simp)
                                  · rw [if_neg c34] at H
                                    exact absurd H (by simp)
                                · rw [if_neg c33] at H
                                  exact absurd H (by simp)
                              · replace c32 := Bool.eq_false_iff.mpr c32
                                subst c32
                                have H1 : (cartoucheref10_Steps.l1 kj23 a0 l1 x5_4 x6_1 (wrap64 (x7_4 + 1))) = some r := by rw [if_neg (show ¬ (false = true) by decide)] at H; exact H
                                clear H
                                have H := H1
                                clear H1
                                have H' := Aside0.mk H
                                clear H
                                go_wp2
                                go_roundg kj23
                                case measure => have := HK1.out; have := HJ3.out; have := HJ7.out; have := HK4.out; have := HJ17.out; have := HJ23.out; omega
                                case rel => exact ⟨(x5_4), (wrap64 (x7_4 + 1)), (by first | rfl | (simp; done) | (simp [*]; done)), H', ⟨by have := HK1.out; have := HJ3.out; have := HJ7.out; have := HK4.out; have := HJ17.out; have := HJ23.out; omega⟩, ⟨by (with_reducible repeat (first | apply Kd.S_alloc | apply Kd.S_drewN | apply Kd.S_drew)); exact HO_5.out⟩, ⟨by repeat (first | (with_reducible first | exact HB.out | apply below_alloc | apply pw_below_drewN | apply below_drew1) | exact HB.out)⟩⟩
                        · replace c23 := Bool.eq_false_iff.mpr c23
                          subst c23
                          have H1 : (cartoucheref10_Steps.l0 kj17 a0 l1 x5_4 (wrap64 (x6_1 + 1))) = some r := by rw [if_neg (show ¬ (false = true) by decide)] at H; exact H
                          clear H
                          have H := H1
                          clear H1
                          have H' := Aside0.mk H
                          clear H
                          go_wp2
                          go_roundg kj17
                          case measure => have := HK1.out; have := HJ3.out; have := HJ7.out; have := HK4.out; have := HJ17.out; omega
                          case rel => exact ⟨(x5_4), (wrap64 (x6_1 + 1)), (by first | rfl | (simp; done) | (simp [*]; done)), H', ⟨by have := HK1.out; have := HJ3.out; have := HJ7.out; have := HK4.out; have := HJ17.out; omega⟩, ⟨by (with_reducible repeat (first | apply Kd.S_alloc | apply Kd.S_drewN | apply Kd.S_drew)); exact HO_5.out⟩, ⟨by repeat (first | (with_reducible first | exact HB.out | apply below_alloc | apply pw_below_drewN | apply below_drew1) | exact HB.out)⟩⟩
      · rw [if_neg c3] at H
        have c3b0 : decide (x6_1 < (l1.length : Int)) = false := decide_eq_false c3
        clear c3
        obtain rfl := Option.some.inj H
        go_wp2
        go_ret
        exact ⟨_, by first | rfl | (simp [errW_none, errW_some] <;> rfl) | (simp [*, errW_none, errW_some] <;> rfl), by (with_reducible repeat (first | apply Kd.S_alloc | apply Kd.S_drewN | apply Kd.S_drew)); exact HO_5.out, by repeat (first | (with_reducible first | exact HB.out | apply below_alloc | apply pw_below_drewN | apply below_drew1) | exact HB.out)⟩

end Go.Proofs.YthjgmccpbcelgaaPr
