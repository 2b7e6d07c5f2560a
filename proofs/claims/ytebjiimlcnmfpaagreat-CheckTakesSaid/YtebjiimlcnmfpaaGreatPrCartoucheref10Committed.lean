/- Contracts of Go functions, printed by a program of this session over the translation: each call answers what its Lean function says. -/
import Derived.Test.YtebjiimlcnmfpaaGreatPr0
import Derived.Test.YtebjiimlcnmfpaaGreatB1
namespace Go.Proofs.YtebjiimlcnmfpaaGreatPr
open Go.RowKit Go.Proofs.YtebjiimlcnmfpaaGreatW.PrintWords Go.Proofs.YtebjiimlcnmfpaaGreatW.PrintLast Go.Proofs.YtebjiimlcnmfpaaGreatW.PrintMore
attribute [local go_sem] max2_int min2_int max_two min_two max_three min_three max_four min_four   -- for this text's walks alone
set_option linter.unusedVariables false
set_option linter.unusedSimpArgs false
/-! ### cartoucheref10_committed: function 54 -/
def cartoucheref10_committed.j0 : Nat → Int → Bool → Option (Int)
 | 0, _, _ => none
 | k + 1, x5, x20 => if x20 = true then (some (-1)) else (some x5)
def cartoucheref10_committed.f (k : Nat) (l0 : List (S50)) (a1 : Int) : Option (Int) := (cartoucheref08_End.f l0 a1 (l0.length : Int)).bind fun t155 => (if t155 < 0 then (cartoucheref10_committed.j0 k t155 true) else (if 0 ≤ t155 then (if t155 < (l0.length : Int) then (cartoucheref10_committed.j0 k t155 (((rd_T50 l0 t155).f0) != 4)) else (none)) else (none)))
theorem cartoucheref10_committed.mono_l : ∀ k, (∀ y0 y1, LeO (cartoucheref10_committed.j0 k y0 y1) (cartoucheref10_committed.j0 (k + 1) y0 y1))
 | 0 => fun _ _ r h => by simp [cartoucheref10_committed.j0] at h
 | k + 1 => by
  have ih0 := cartoucheref10_committed.mono_l k
  · intro y0 y1
    unfold cartoucheref10_committed.j0
    repeat' first
    | (with_reducible exact ih0 _ _)
    | (with_reducible exact LeO.refl _)
    | (with_reducible exact LeO.none _)
    | (with_reducible refine LeO.ite ?_ ?_)
    | (with_reducible refine LeO.bind ?_ (fun _ => ?_))
    | exact ih0 _ _
    | exact LeO.none _
    | refine LeO.ite ?_ ?_
    | refine LeO.bind ?_ (fun _ => ?_)
theorem cartoucheref10_committed.mono : ∀ a0 a1 k, LeO (cartoucheref10_committed.f k a0 a1) (cartoucheref10_committed.f (k + 1) a0 a1) := by
 intro a0 a1 k
 have ih0 := cartoucheref10_committed.mono_l k
 unfold cartoucheref10_committed.f
 repeat' first
  | (with_reducible exact ih0 _ _)
  | (with_reducible exact LeO.refl _)
  | (with_reducible exact LeO.none _)
  | (with_reducible refine LeO.ite ?_ ?_)
  | (with_reducible refine LeO.bind ?_ (fun _ => ?_))
  | exact ih0 _ _
  | exact LeO.none _
  | refine LeO.ite ?_ ?_
  | refine LeO.bind ?_ (fun _ => ?_)
set_option maxHeartbeats 8000000 in
set_option maxRecDepth 100000 in
theorem cartoucheref10_committed.calls (k : Nat) (A0 : Option Addr) (c0 : Nat) (l0 : List (S50)) (a1 : Int) (r : Int) (w : World) (hr0 : Kd.C k50 w A0 l0.length l0) (hc0 : l0.length ≤ c0) (h : cartoucheref10_committed.f k l0 a1 = some r) :
 Calls Tryz.prog 54 #[.slice A0 l0.length c0, .int .i64 a1] w fun e w' => e = .returned (.int .i64 r) ∧ Drawn0 w w' := by
 have HR0 := Aside0.mk hr0
 have HC0 := Aside0.mk hc0
 clear hr0 hc0
 have H : ((cartoucheref08_End.f l0 a1 (l0.length : Int)).bind fun t155 => (if t155 < 0 then (cartoucheref10_committed.j0 k t155 true) else (if 0 ≤ t155 then (if t155 < (l0.length : Int) then (cartoucheref10_committed.j0 k t155 (((rd_T50 l0 t155).f0) != 4)) else (none)) else (none)))) = some r := h
 clear h
 replace H := Option.bind_eq_some_iff.mp H
 obtain ⟨t155, A30, H⟩ := H
 replace H : (if t155 < 0 then (cartoucheref10_committed.j0 k t155 true) else (if 0 ≤ t155 then (if t155 < (l0.length : Int) then (cartoucheref10_committed.j0 k t155 (((rd_T50 l0 t155).f0) != 4)) else (none)) else (none))) = some r := H
 have A3 := Aside0.mk A30
 clear A30
 have HC4 := Aside0.mk H
 clear H
 go_enter Tryz.func54, Tryz.ntmps54
 go_upto_region 2 with (first | ((with_reducible refine gate_callee (f := 62) rfl ?_); refine goesL_ (some 10) rfl rfl Tryz.func62 (by kernel_rfl) rfl #[.slice A0 l0.length c0, .int .i64 a1, .int .i64 (l0.length : Int)] rfl (by (try simp only [List.map_toArray, List.map_cons, List.map_nil]); first | done | rfl | (simp only [List.length_drop, List.length_take]; rfl)) ?_; (with_reducible refine (cartoucheref08_End.calls _ _ l0 a1 (l0.length : Int) t155 _ ?side1 ?side2 A3.out).mono ?_); (case side1 => repeat (first | exact HR0.out | (with_reducible refine Kd.C_alloc ?_ _) | (with_reducible refine Kd.C_drewN ?_ _) | (with_reducible refine Kd.C_drew ?_))); (case side2 => exact HC0.out); rintro e w' ⟨rfl, ⟨nd, rfl⟩⟩; refine ⟨_, rfl, ?_⟩))
 (try simp only [Act.put, List.setIfInBounds_toArray, List.set_cons_zero, List.set_cons_succ])
 go_cut [20] (fun v20 wc => ∃ (kq : Nat) (x20_3 : Bool), v20 = .bool x20_3 ∧ Aside0 (cartoucheref10_committed.j0 kq t155 x20_3 = some r) ∧ Aside0 (kq ≤ k) ∧ Drawn0 w wc)
 case first =>
  have H := HC4.out
  clear HC4
  by_cases c5 : t155 < 0
  · rw [if_pos c5] at H
    have c5b0 : decide (t155 < 0) = true := decide_eq_true c5
    clear c5
    (first | rw [c5b0] | (simp only [i64_w, i32_w]; rw [c5b0]) | skip)
    have H' := Aside0.mk H
    clear H
    go_wp2
    go_meet
    case rel => exact ⟨_, (true), (by first | rfl | (simp; done) | (simp [*]; done)), H', ⟨by first | omega | exact Nat.le_refl _⟩, by repeat (first | exact Drawn0.refl _ | apply Drawn0.step)⟩
  · rw [if_neg c5] at H
    have c5b0 : decide (t155 < 0) = false := decide_eq_false c5
    clear c5
    (first | rw [c5b0] | (simp only [i64_w, i32_w]; rw [c5b0]) | skip)
    by_cases c6 : 0 ≤ t155
    · rw [if_pos c6] at H
      have c6b0 : decide (0 ≤ t155) = true := decide_eq_true c6
      clear c6
      by_cases c7 : t155 < (l0.length : Int)
      · rw [if_pos c7] at H
        have c7b0 : decide (t155 < (l0.length : Int)) = true := decide_eq_true c7
        clear c7
        have H' := Aside0.mk H
        clear H
        have p156 : 0 ≤ (t155 : Int) := of_decide_eq_true (by first | (with_reducible assumption) | assumption)
        have q156 : t155 < (l0.length : Int) := of_decide_eq_true (by first | (with_reducible assumption) | assumption)
        obtain ⟨ad156, e156, hx156_0, hx156_1, hx156_2, hx156_3⟩ := at_T50 HR0.out t155 p156 q156
        cases e156
        replace p156 := eq_true p156
        replace q156 := eq_true q156
        go_wp2
        go_meet
        case rel => exact ⟨_, ((((rd_T50 l0 t155).f0) != 4)), (by first | rfl | (simp; done) | (simp [*]; done)), H', ⟨by first | omega | exact Nat.le_refl _⟩, by repeat (first | exact Drawn0.refl _ | apply Drawn0.step)⟩
      · rw [if_neg c7] at H
        exact absurd H (by simp)
    · rw [if_neg c6] at H
      exact absurd H (by simp)
 case rest =>
  clear HC4
  try clear p1
  try clear q1
  try clear hx1
  try clear p2
  try clear c5
  try clear c5b0
  try clear c6
  try clear c6b0
  try clear c7
  try clear c7b0
  try clear hx156_0
  try clear hx156_1
  try clear hx156_2
  try clear hx156_3
  try clear p156
  try clear q156
  obtain ⟨kq, x20_3, rfl, HA, HJ3, ⟨mc3, rfl⟩⟩ := hcut
  cases kq with
  | zero => exact absurd HA.out (by simp [cartoucheref10_committed.j0])
  | succ kj3 =>
   have H := HA.out
   clear HA
   simp only [cartoucheref10_committed.j0] at H
   by_cases c8 : x20_3 = true
   · subst c8
     have H1 : (some (-1)) = some r := by rw [if_pos rfl] at H; exact H
     clear H
     have H := H1
     clear H1
     obtain rfl := Option.some.inj H
     go_wp2
     go_ret
     exact ⟨by first | rfl | (simp; done) | (simp [*]; done), by repeat (first | exact Drawn0.refl _ | apply Drawn0.step)⟩
   · replace c8 := Bool.eq_false_iff.mpr c8
     subst c8
     have H1 : (some t155) = some r := by rw [if_neg (show ¬ (false = true) by decide)] at H; exact H
     clear H
     have H := H1
     clear H1
     obtain rfl := Option.some.inj H
     go_wp2
     go_ret
     exact ⟨by first | rfl | (simp; done) | (simp [*]; done), by repeat (first | exact Drawn0.refl _ | apply Drawn0.step)⟩
end Go.Proofs.YtebjiimlcnmfpaaGreatPr
