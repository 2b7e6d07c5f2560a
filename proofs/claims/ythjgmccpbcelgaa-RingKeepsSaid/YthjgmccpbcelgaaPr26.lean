/- Contracts of Go functions, printed by a program of this session over the translation: each call answers what its Lean function says. -/
import Derived.Test.YthjgmccpbcelgaaPr0
namespace Go.Proofs.YthjgmccpbcelgaaPr
open Go.RowKit Go.Proofs.YthjgmccpbcelgaaW.PrintWords Go.Proofs.YthjgmccpbcelgaaW.PrintLast Go.Proofs.YthjgmccpbcelgaaW.PrintMore
attribute [local go_sem] max2_int min2_int max_two min_two max_three min_three max_four min_four   -- for this text's walks alone
set_option linter.unusedVariables false
set_option linter.unusedSimpArgs false

/-! ### cartoucheref11_Closed: function 49 -/
mutual
def cartoucheref11_Closed.l0 : Nat → List (S50) → Int → Option (Bool)
  | 0, _, _ => none
  | k + 1, x0, x3 => if x3 < (x0.length : Int) then (if (wrap64 (x3 + 1)) = (x0.length : Int) then (cartoucheref11_Closed.j1 k x0 x3 0) else (cartoucheref11_Closed.j1 k x0 x3 (wrap64 (x3 + 1)))) else (some (decide ((x0.length : Int) > 0)))
def cartoucheref11_Closed.j1 : Nat → List (S50) → Int → Int → Option (Bool)
  | 0, _, _, _ => none
  | k + 1, x0, x3, x4 => if 0 ≤ x3 then (if x3 < (x0.length : Int) then (if 0 ≤ x4 then (if x4 < (x0.length : Int) then (if ((rd_T50 x0 x3).f1) = ((rd_T50 x0 x4).f0) then (cartoucheref11_Closed.l0 k x0 (wrap64 (x3 + 1))) else (some false)) else (none)) else (none)) else (none)) else (none)
end
def cartoucheref11_Closed.f (k : Nat) (l0 : List (S50)) : Option (Bool) := cartoucheref11_Closed.l0 k l0 0
theorem cartoucheref11_Closed.mono_l : ∀ k, (∀ y0 y1, LeO (cartoucheref11_Closed.l0 k y0 y1) (cartoucheref11_Closed.l0 (k + 1) y0 y1)) ∧ (∀ y0 y1 y2, LeO (cartoucheref11_Closed.j1 k y0 y1 y2) (cartoucheref11_Closed.j1 (k + 1) y0 y1 y2))
  | 0 => ⟨fun _ _ r h => by simp [cartoucheref11_Closed.l0] at h, fun _ _ _ r h => by simp [cartoucheref11_Closed.j1] at h⟩
  | k + 1 => by
    obtain ⟨ih0, ih1⟩ := cartoucheref11_Closed.mono_l k
    refine ⟨?_, ?_⟩
    · intro y0 y1
      unfold cartoucheref11_Closed.l0
      repeat' first
      | (with_reducible exact ih0 _ _)
      | (with_reducible exact ih1 _ _ _)
      | (with_reducible exact LeO.refl _)
      | (with_reducible exact LeO.none _)
      | (with_reducible refine LeO.ite ?_ ?_)
      | (with_reducible refine LeO.bind ?_ (fun _ => ?_))
      | exact ih0 _ _
      | exact ih1 _ _ _
      | exact LeO.none _
      | refine LeO.ite ?_ ?_
      | refine LeO.bind ?_ (fun _ => ?_)
    · intro y0 y1 y2
      unfold cartoucheref11_Closed.j1
      repeat' first
      | (with_reducible exact ih0 _ _)
      | (with_reducible exact ih1 _ _ _)
      | (with_reducible exact LeO.refl _)
      | (with_reducible exact LeO.none _)
      | (with_reducible refine LeO.ite ?_ ?_)
      | (with_reducible refine LeO.bind ?_ (fun _ => ?_))
      | exact ih0 _ _
      | exact ih1 _ _ _
      | exact LeO.none _
      | refine LeO.ite ?_ ?_
      | refine LeO.bind ?_ (fun _ => ?_)
theorem cartoucheref11_Closed.mono : ∀ a0 k, LeO (cartoucheref11_Closed.f k a0) (cartoucheref11_Closed.f (k + 1) a0) := by
  intro a0 k
  obtain ⟨ih0, ih1⟩ := cartoucheref11_Closed.mono_l k
  unfold cartoucheref11_Closed.f
  repeat' first
      | (with_reducible exact ih0 _ _)
      | (with_reducible exact ih1 _ _ _)
      | (with_reducible exact LeO.refl _)
      | (with_reducible exact LeO.none _)
      | (with_reducible refine LeO.ite ?_ ?_)
      | (with_reducible refine LeO.bind ?_ (fun _ => ?_))
      | exact ih0 _ _
      | exact ih1 _ _ _
      | exact LeO.none _
      | refine LeO.ite ?_ ?_
      | refine LeO.bind ?_ (fun _ => ?_)
set_option maxHeartbeats 8000000 in
set_option maxRecDepth 100000 in
theorem cartoucheref11_Closed.calls (k : Nat) (A0 : Option Addr) (c0 : Nat) (l0 : List (S50)) (r : Bool) (w : World) (hr0 : Kd.C k50 w A0 l0.length l0) (hc0 : l0.length ≤ c0) (h : cartoucheref11_Closed.f k l0 = some r) :
    Calls Try.prog 49 #[.slice A0 l0.length c0] w fun e w' => e = .returned (.bool r) ∧ Drawn0 w w' := by
  have HR0 := Aside0.mk hr0
  have HC0 := Aside0.mk hc0
  clear hr0 hc0
  have H : (cartoucheref11_Closed.l0 k l0 0) = some r := h
  clear h
  have H' := Aside0.mk H
  clear H
  go_enter Try.func49, Try.ntmps49
  go_wp2
  repeat (go_quiet (fail); try go_wp2)
  go_loopg [3] k (fun kq v3 w' => ∃ (x3_1 : Int), v3 = .int .i64 x3_1 ∧ Aside0 (cartoucheref11_Closed.l0 kq l0 x3_1 = some r) ∧ Aside0 (kq ≤ k) ∧ Drawn0 w w')
  case atStart => exact ⟨(0), (by first | rfl | (simp; done) | (simp [*]; done)), H', ⟨Nat.le_refl _⟩, by repeat (first | exact Drawn0.refl _ | apply Drawn0.step)⟩
  case round =>
    clear H'
    obtain ⟨x3_1, rfl, HA, HK1, ⟨m1, rfl⟩⟩ := hrel
    cases gk with
    | zero => exact absurd HA.out (by simp [cartoucheref11_Closed.l0])
    | succ k1 =>
      have H := HA.out
      clear HA
      simp only [cartoucheref11_Closed.l0] at H
      by_cases c2 : x3_1 < (l0.length : Int)
      · rw [if_pos c2] at H
        have c2b0 : decide (x3_1 < (l0.length : Int)) = true := decide_eq_true c2
        clear c2
        have HC3 := Aside0.mk H
        clear H
        go_upto_if 16 with (fail)
        repeat (go_quiet (fail); go_upto_if 16 with (fail))
        go_cut [4] (fun v4 wc => ∃ (kq : Nat) (x4_2 : Int), v4 = .int .i64 x4_2 ∧ Aside0 (cartoucheref11_Closed.j1 kq l0 x3_1 x4_2 = some r) ∧ Aside0 (kq ≤ k1) ∧ Drawn0 w wc)
        case first =>
          have H := HC3.out
          clear HC3
          by_cases c4 : (wrap64 (x3_1 + 1)) = (l0.length : Int)
          · rw [if_pos c4] at H
            have c4b0 : ((wrap64 (x3_1 + 1)) == (l0.length : Int)) = true := beq_iff_eq.mpr c4
            have c4b1 : ((wrap64 (x3_1 + 1)) != (l0.length : Int)) = false := bne_eq_false_iff_eq.mpr c4
            clear c4
            (first | rw [c4b0] | (simp only [i64_w, i32_w]; rw [c4b0]) | skip)
            have H' := Aside0.mk H
            clear H
            go_wp2
            repeat (go_quiet (fail); try go_wp2)
            go_meet
            case rel => exact ⟨_, (0), (by first | rfl | (simp; done) | (simp [*]; done)), H', ⟨by have := HK1.out; first | omega | exact Nat.le_refl _⟩, by repeat (first | exact Drawn0.refl _ | apply Drawn0.step)⟩
          · rw [if_neg c4] at H
            have c4b0 : ((wrap64 (x3_1 + 1)) == (l0.length : Int)) = false := beq_eq_false_iff_ne.mpr c4
            have c4b1 : ((wrap64 (x3_1 + 1)) != (l0.length : Int)) = true := bne_iff_ne.mpr c4
            (first | rw [c4b0] | (simp only [i64_w, i32_w]; rw [c4b0]) | skip)
            have H' := Aside0.mk H
            clear H
            go_wp2
            repeat (go_quiet (fail); try go_wp2)
            go_meet
            case rel => exact ⟨_, (wrap64 (x3_1 + 1)), (by first | rfl | (simp; done) | (simp [*]; done)), H', ⟨by have := HK1.out; first | omega | exact Nat.le_refl _⟩, by repeat (first | exact Drawn0.refl _ | apply Drawn0.step)⟩
        case rest =>
          clear HC3
          try clear c2
          try clear c2b0
          try clear p2
          try clear c4
          try clear c4b0
          try clear c4b1
          obtain ⟨kq, x4_2, rfl, HA, HJ2, ⟨mc2, rfl⟩⟩ := hcut
          cases kq with
          | zero => exact absurd HA.out (by simp [cartoucheref11_Closed.j1])
          | succ kj2 =>
            have H := HA.out
            clear HA
            simp only [cartoucheref11_Closed.j1] at H
            by_cases c5 : 0 ≤ x3_1
            · rw [if_pos c5] at H
              have c5b0 : decide (0 ≤ x3_1) = true := decide_eq_true c5
              clear c5
              by_cases c6 : x3_1 < (l0.length : Int)
              · rw [if_pos c6] at H
                have c6b0 : decide (x3_1 < (l0.length : Int)) = true := decide_eq_true c6
                clear c6
                by_cases c7 : 0 ≤ x4_2
                · rw [if_pos c7] at H
                  have c7b0 : decide (0 ≤ x4_2) = true := decide_eq_true c7
                  clear c7
                  by_cases c8 : x4_2 < (l0.length : Int)
                  · rw [if_pos c8] at H
                    have c8b0 : decide (x4_2 < (l0.length : Int)) = true := decide_eq_true c8
                    clear c8
                    by_cases c9 : ((rd_T50 l0 x3_1).f1) = ((rd_T50 l0 x4_2).f0)
                    · rw [if_pos c9] at H
                      have c9b0 : (((rd_T50 l0 x3_1).f1) == ((rd_T50 l0 x4_2).f0)) = true := beq_iff_eq.mpr c9
                      have c9b1 : (((rd_T50 l0 x3_1).f1) != ((rd_T50 l0 x4_2).f0)) = false := bne_eq_false_iff_eq.mpr c9
                      clear c9
                      have H' := Aside0.mk H
                      clear H
                      have p361 : 0 ≤ (x3_1 : Int) := of_decide_eq_true (by first | (with_reducible assumption) | assumption)
                      have q361 : x3_1 < (l0.length : Int) := of_decide_eq_true (by first | (with_reducible assumption) | assumption)
                      obtain ⟨ad361, A361_2, c361_2, e361, hx361_0, hx361_1, hx361_2, hl361_2, hi361_2⟩ := at_T50 HR0.out x3_1 p361 q361
                      cases e361
                      have HR361_2 := Aside0.mk hi361_2
                      have HC361_2 := Aside0.mk hl361_2
                      clear hi361_2 hl361_2
                      replace p361 := eq_true p361
                      replace q361 := eq_true q361
                      have p362 : 0 ≤ (x4_2 : Int) := of_decide_eq_true (by first | (with_reducible assumption) | assumption)
                      have q362 : x4_2 < (l0.length : Int) := of_decide_eq_true (by first | (with_reducible assumption) | assumption)
                      obtain ⟨ad362, A362_2, c362_2, e362, hx362_0, hx362_1, hx362_2, hl362_2, hi362_2⟩ := at_T50 HR0.out x4_2 p362 q362
                      obtain rfl : ad361 = ad362 := (by injection e362)
                      have HR362_2 := Aside0.mk hi362_2
                      have HC362_2 := Aside0.mk hl362_2
                      clear hi362_2 hl362_2
                      replace p362 := eq_true p362
                      replace q362 := eq_true q362
                      go_wp2
                      repeat (go_quiet (fail); try go_wp2)
                      go_roundg kj2
                      case measure => have := HK1.out; have := HJ2.out; omega
                      case rel => exact ⟨(wrap64 (x3_1 + 1)), (by first | rfl | (simp; done) | (simp [*]; done)), H', ⟨by have := HK1.out; have := HJ2.out; omega⟩, by repeat (first | exact Drawn0.refl _ | apply Drawn0.step)⟩
                    · rw [if_neg c9] at H
                      have c9b0 : (((rd_T50 l0 x3_1).f1) == ((rd_T50 l0 x4_2).f0)) = false := beq_eq_false_iff_ne.mpr c9
                      have c9b1 : (((rd_T50 l0 x3_1).f1) != ((rd_T50 l0 x4_2).f0)) = true := bne_iff_ne.mpr c9
                      obtain rfl := Option.some.inj H
                      have p361 : 0 ≤ (x3_1 : Int) := of_decide_eq_true (by first | (with_reducible assumption) | assumption)
                      have q361 : x3_1 < (l0.length : Int) := of_decide_eq_true (by first | (with_reducible assumption) | assumption)
                      obtain ⟨ad361, A361_2, c361_2, e361, hx361_0, hx361_1, hx361_2, hl361_2, hi361_2⟩ := at_T50 HR0.out x3_1 p361 q361
                      cases e361
                      have HR361_2 := Aside0.mk hi361_2
                      have HC361_2 := Aside0.mk hl361_2
                      clear hi361_2 hl361_2
                      replace p361 := eq_true p361
                      replace q361 := eq_true q361
                      have p362 : 0 ≤ (x4_2 : Int) := of_decide_eq_true (by first | (with_reducible assumption) | assumption)
                      have q362 : x4_2 < (l0.length : Int) := of_decide_eq_true (by first | (with_reducible assumption) | assumption)
                      obtain ⟨ad362, A362_2, c362_2, e362, hx362_0, hx362_1, hx362_2, hl362_2, hi362_2⟩ := at_T50 HR0.out x4_2 p362 q362
                      obtain rfl : ad361 = ad362 := (by injection e362)
                      have HR362_2 := Aside0.mk hi362_2
                      have HC362_2 := Aside0.mk hl362_2
                      clear hi362_2 hl362_2
                      replace p362 := eq_true p362
                      replace q362 := eq_true q362
                      go_wp2
                      repeat (go_quiet (fail); try go_wp2)
                      go_ret
                      exact ⟨by first | rfl | (simp; done) | (simp [*]; done), by repeat (first | exact Drawn0.refl _ | apply Drawn0.step)⟩
                  · rw [if_neg c8] at H
                    exact absurd H (by simp)
                · rw [if_neg c7] at H
                  exact absurd H (by simp)
              · rw [if_neg c6] at H
                exact absurd H (by simp)
            · rw [if_neg c5] at H
              exact absurd H (by simp)
      · rw [if_neg c2] at H
        have c2b0 : decide (x3_1 < (l0.length : Int)) = false := decide_eq_false c2
        clear c2
        obtain rfl := Option.some.inj H
        go_wp2
        repeat (go_quiet (fail); try go_wp2)
        go_ret
        exact ⟨by first | rfl | (simp; done) | (simp [*]; done), by repeat (first | exact Drawn0.refl _ | apply Drawn0.step)⟩

end Go.Proofs.YthjgmccpbcelgaaPr
