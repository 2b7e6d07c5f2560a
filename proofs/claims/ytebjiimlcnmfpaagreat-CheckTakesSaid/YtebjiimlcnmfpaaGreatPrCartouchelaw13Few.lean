/- Contracts of Go functions, printed by a program of this session over the translation: each call answers what its Lean function says. -/
import Derived.Test.YtebjiimlcnmfpaaGreatPr0
namespace Go.Proofs.YtebjiimlcnmfpaaGreatPr
open Go.RowKit Go.Proofs.YtebjiimlcnmfpaaGreatW.PrintWords Go.Proofs.YtebjiimlcnmfpaaGreatW.PrintLast Go.Proofs.YtebjiimlcnmfpaaGreatW.PrintMore
attribute [local go_sem] max2_int min2_int max_two min_two max_three min_three max_four min_four   -- for this text's walks alone
set_option linter.unusedVariables false
set_option linter.unusedSimpArgs false
/-! ### cartouchelaw13_few: function 37 -/
mutual
def cartouchelaw13_few.l0 : Nat → List (S50) → Int → Option (Bool)
 | 0, _, _ => none
 | k + 1, x0, x3 => if x3 < (x0.length : Int) then (if 0 ≤ x3 then (if ((rd_T50 x0 x3).f1) < 0 then (cartouchelaw13_few.j1 k x0 x3 true) else (cartouchelaw13_few.j1 k x0 x3 (decide (((rd_T50 x0 x3).f1) > 60)))) else (none)) else (some (decide ((x0.length : Int) ≤ 80)))
def cartouchelaw13_few.j1 : Nat → List (S50) → Int → Bool → Option (Bool)
 | 0, _, _, _ => none
 | k + 1, x0, x3, x23 => if x23 = true then (some false) else (cartouchelaw13_few.l0 k x0 (wrap64 (x3 + 1)))
end
def cartouchelaw13_few.f (k : Nat) (l0 : List (S50)) : Option (Bool) := cartouchelaw13_few.l0 k l0 0
theorem cartouchelaw13_few.mono_l : ∀ k, (∀ y0 y1, LeO (cartouchelaw13_few.l0 k y0 y1) (cartouchelaw13_few.l0 (k + 1) y0 y1)) ∧ (∀ y0 y1 y2, LeO (cartouchelaw13_few.j1 k y0 y1 y2) (cartouchelaw13_few.j1 (k + 1) y0 y1 y2))
 | 0 => ⟨fun _ _ r h => by simp [cartouchelaw13_few.l0] at h, fun _ _ _ r h => by simp [cartouchelaw13_few.j1] at h⟩
 | k + 1 => by
  obtain ⟨ih0, ih1⟩ := cartouchelaw13_few.mono_l k
  refine ⟨?_, ?_⟩
  · intro y0 y1
    unfold cartouchelaw13_few.l0
    repeat' first
    | (with_reducible exact ih0 _ _)
    | (with_reducible exact ih1 _ _ _)
    | (with_reducible exact LeO.refl _)
    | (with_reducible exact LeO.none _)
    | (with_reducible refine LeO.ite ?_ ?_)
    | (with_reducible refine LeO.bind ?_ (fun _ => ?_))
    | exact ih0 _ _
    | exact ih1 _ _ _
    | exact LeO.none _
    | refine LeO.ite ?_ ?_
    | refine LeO.bind ?_ (fun _ => ?_)
  · intro y0 y1 y2
    unfold cartouchelaw13_few.j1
    repeat' first
    | (with_reducible exact ih0 _ _)
    | (with_reducible exact ih1 _ _ _)
    | (with_reducible exact LeO.refl _)
    | (with_reducible exact LeO.none _)
    | (with_reducible refine LeO.ite ?_ ?_)
    | (with_reducible refine LeO.bind ?_ (fun _ => ?_))
    | exact ih0 _ _
    | exact ih1 _ _ _
    | exact LeO.none _
    | refine LeO.ite ?_ ?_
    | refine LeO.bind ?_ (fun _ => ?_)
theorem cartouchelaw13_few.mono : ∀ a0 k, LeO (cartouchelaw13_few.f k a0) (cartouchelaw13_few.f (k + 1) a0) := by
 intro a0 k
 obtain ⟨ih0, ih1⟩ := cartouchelaw13_few.mono_l k
 unfold cartouchelaw13_few.f
 repeat' first
  | (with_reducible exact ih0 _ _)
  | (with_reducible exact ih1 _ _ _)
  | (with_reducible exact LeO.refl _)
  | (with_reducible exact LeO.none _)
  | (with_reducible refine LeO.ite ?_ ?_)
  | (with_reducible refine LeO.bind ?_ (fun _ => ?_))
  | exact ih0 _ _
  | exact ih1 _ _ _
  | exact LeO.none _
  | refine LeO.ite ?_ ?_
  | refine LeO.bind ?_ (fun _ => ?_)
set_option maxHeartbeats 8000000 in
set_option maxRecDepth 100000 in
theorem cartouchelaw13_few.calls (k : Nat) (A0 : Option Addr) (c0 : Nat) (l0 : List (S50)) (r : Bool) (w : World) (hr0 : Kd.C k50 w A0 l0.length l0) (hc0 : l0.length ≤ c0) (h : cartouchelaw13_few.f k l0 = some r) :
 Calls Tryz.prog 37 #[.slice A0 l0.length c0] w fun e w' => e = .returned (.bool r) ∧ Drawn0 w w' := by
 have HR0 := Aside0.mk hr0
 have HC0 := Aside0.mk hc0
 clear hr0 hc0
 have H : (cartouchelaw13_few.l0 k l0 0) = some r := h
 clear h
 have H' := Aside0.mk H
 clear H
 go_enter Tryz.func37, Tryz.ntmps37
 go_wp2
 go_loopg [3] k (fun kq v3 w' => ∃ (x3_1 : Int), v3 = .int .i64 x3_1 ∧ Aside0 (cartouchelaw13_few.l0 kq l0 x3_1 = some r) ∧ Aside0 (kq ≤ k) ∧ Drawn0 w w')
 case atStart => exact ⟨(0), (by first | rfl | (simp; done) | (simp [*]; done)), H', ⟨Nat.le_refl _⟩, by repeat (first | exact Drawn0.refl _ | apply Drawn0.step)⟩
 case round =>
  clear H'
  obtain ⟨x3_1, rfl, HA, HK1, ⟨m1, rfl⟩⟩ := hrel
  cases gk with
  | zero => exact absurd HA.out (by simp [cartouchelaw13_few.l0])
  | succ k1 =>
   have H := HA.out
   clear HA
   simp only [cartouchelaw13_few.l0] at H
   by_cases c2 : x3_1 < (l0.length : Int)
   · rw [if_pos c2] at H
     have c2b0 : decide (x3_1 < (l0.length : Int)) = true := decide_eq_true c2
     clear c2
     have HC3 := Aside0.mk H
     clear H
     go_upto_region 4 with (fail)
     go_cut [23] (fun v23 wc => ∃ (kq : Nat) (x23_2 : Bool), v23 = .bool x23_2 ∧ Aside0 (cartouchelaw13_few.j1 kq l0 x3_1 x23_2 = some r) ∧ Aside0 (kq ≤ k1) ∧ Drawn0 w wc)
     case first =>
      have H := HC3.out
      clear HC3
      by_cases c4 : 0 ≤ x3_1
      · rw [if_pos c4] at H
        have c4b0 : decide (0 ≤ x3_1) = true := decide_eq_true c4
        clear c4
        (first | rw [c4b0] | (simp only [i64_w, i32_w]; rw [c4b0]) | skip)
        by_cases c5 : ((rd_T50 l0 x3_1).f1) < 0
        · rw [if_pos c5] at H
          have c5b0 : decide (((rd_T50 l0 x3_1).f1) < 0) = true := decide_eq_true c5
          clear c5
          have H' := Aside0.mk H
          clear H
          have p334 : 0 ≤ (x3_1 : Int) := of_decide_eq_true (by first | (with_reducible assumption) | assumption)
          have q334 : x3_1 < (l0.length : Int) := of_decide_eq_true (by first | (with_reducible assumption) | assumption)
          obtain ⟨ad334, e334, hx334_0, hx334_1, hx334_2, hx334_3⟩ := at_T50 HR0.out x3_1 p334 q334
          cases e334
          replace p334 := eq_true p334
          replace q334 := eq_true q334
          go_wp2
          go_meet
          case rel => exact ⟨_, (true), (by first | rfl | (simp; done) | (simp [*]; done)), H', ⟨by have := HK1.out; first | omega | exact Nat.le_refl _⟩, by repeat (first | exact Drawn0.refl _ | apply Drawn0.step)⟩
        · rw [if_neg c5] at H
          have c5b0 : decide (((rd_T50 l0 x3_1).f1) < 0) = false := decide_eq_false c5
          clear c5
          have H' := Aside0.mk H
          clear H
          have p334 : 0 ≤ (x3_1 : Int) := of_decide_eq_true (by first | (with_reducible assumption) | assumption)
          have q334 : x3_1 < (l0.length : Int) := of_decide_eq_true (by first | (with_reducible assumption) | assumption)
          obtain ⟨ad334, e334, hx334_0, hx334_1, hx334_2, hx334_3⟩ := at_T50 HR0.out x3_1 p334 q334
          cases e334
          replace p334 := eq_true p334
          replace q334 := eq_true q334
          have p335 : 0 ≤ (x3_1 : Int) := of_decide_eq_true (by first | (with_reducible assumption) | assumption)
          have q335 : x3_1 < (l0.length : Int) := of_decide_eq_true (by first | (with_reducible assumption) | assumption)
          obtain ⟨ad335, e335, hx335_0, hx335_1, hx335_2, hx335_3⟩ := at_T50 HR0.out x3_1 p335 q335
          obtain rfl : ad334 = ad335 := (by injection e335)
          replace p335 := eq_true p335
          replace q335 := eq_true q335
          go_wp2
          go_meet
          case rel => exact ⟨_, (decide (((rd_T50 l0 x3_1).f1) > 60)), (by first | rfl | (simp; done) | (simp [*]; done)), H', ⟨by have := HK1.out; first | omega | exact Nat.le_refl _⟩, by repeat (first | exact Drawn0.refl _ | apply Drawn0.step)⟩
      · rw [if_neg c4] at H
        exact absurd H (by simp)
     case rest =>
      clear HC3
      try clear c2
      try clear c2b0
      try clear p2
      try clear c3
      try clear p3
      try clear q3
      try clear hx3
      try clear c4
      try clear c4b0
      try clear c5
      try clear c5b0
      try clear hx334_0
      try clear hx334_1
      try clear hx334_2
      try clear hx334_3
      try clear hx335_0
      try clear hx335_1
      try clear hx335_2
      try clear hx335_3
      try clear p334
      try clear p335
      try clear q334
      try clear q335
      obtain ⟨kq, x23_2, rfl, HA, HJ2, ⟨mc2, rfl⟩⟩ := hcut
      cases kq with
      | zero => exact absurd HA.out (by simp [cartouchelaw13_few.j1])
      | succ kj2 =>
       have H := HA.out
       clear HA
       simp only [cartouchelaw13_few.j1] at H
       by_cases c6 : x23_2 = true
       · subst c6
         have H1 : (some false) = some r := by rw [if_pos rfl] at H; exact H
         clear H
         have H := H1
         clear H1
         obtain rfl := Option.some.inj H
         go_wp2
         go_ret
         exact ⟨by first | rfl | (simp; done) | (simp [*]; done), by repeat (first | exact Drawn0.refl _ | apply Drawn0.step)⟩
       · replace c6 := Bool.eq_false_iff.mpr c6
         subst c6
         have H1 : (cartouchelaw13_few.l0 kj2 l0 (wrap64 (x3_1 + 1))) = some r := by rw [if_neg (show ¬ (false = true) by decide)] at H; exact H
         clear H
         have H := H1
         clear H1
         have H' := Aside0.mk H
         clear H
         go_wp2
         go_roundg kj2
         case measure => have := HK1.out; have := HJ2.out; omega
         case rel => exact ⟨(wrap64 (x3_1 + 1)), (by first | rfl | (simp; done) | (simp [*]; done)), H', ⟨by have := HK1.out; have := HJ2.out; omega⟩, by repeat (first | exact Drawn0.refl _ | apply Drawn0.step)⟩
   · rw [if_neg c2] at H
     have c2b0 : decide (x3_1 < (l0.length : Int)) = false := decide_eq_false c2
     clear c2
     obtain rfl := Option.some.inj H
     go_wp2
     go_ret
     exact ⟨by first | rfl | (simp; done) | (simp [*]; done), by repeat (first | exact Drawn0.refl _ | apply Drawn0.step)⟩
end Go.Proofs.YtebjiimlcnmfpaaGreatPr
