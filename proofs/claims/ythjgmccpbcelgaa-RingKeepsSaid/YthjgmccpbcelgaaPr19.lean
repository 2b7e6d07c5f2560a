/- Contracts of Go functions, printed by a program of this session over the translation: each call answers what its Lean function says. -/
import Derived.Test.YthjgmccpbcelgaaPr0
import Derived.Test.YthjgmccpbcelgaaPr18
namespace Go.Proofs.YthjgmccpbcelgaaPr
open Go.RowKit Go.Proofs.YthjgmccpbcelgaaW.PrintWords Go.Proofs.YthjgmccpbcelgaaW.PrintLast Go.Proofs.YthjgmccpbcelgaaW.PrintMore
attribute [local go_sem] max2_int min2_int max_two min_two max_three min_three max_four min_four   -- for this text's walks alone
set_option linter.unusedVariables false
set_option linter.unusedSimpArgs false

/-! ### cartoucheref10_SameSteps: function 46 -/
mutual
def cartoucheref10_SameSteps.l0 : Nat → List (S50) → List (S50) → Int → Option (Bool)
  | 0, _, _, _ => none
  | k + 1, x0, x1, x5 => if x5 < (x0.length : Int) then (if 0 ≤ x5 then (if x5 < (x1.length : Int) then ((cartoucheref10_Same.f k ((rd_T50 x0 x5).f2) ((rd_T50 x1 x5).f2)).bind fun t271 => (if t271 = true then (if ((rd_T50 x0 x5).f0) = ((rd_T50 x1 x5).f0) then (cartoucheref10_SameSteps.j1 k x0 x1 x5 (((rd_T50 x0 x5).f1) != ((rd_T50 x1 x5).f1))) else (cartoucheref10_SameSteps.j1 k x0 x1 x5 true)) else (cartoucheref10_SameSteps.j1 k x0 x1 x5 true))) else (none)) else (none)) else (some true)
def cartoucheref10_SameSteps.j1 : Nat → List (S50) → List (S50) → Int → Bool → Option (Bool)
  | 0, _, _, _, _ => none
  | k + 1, x0, x1, x5, x56 => if x56 = true then (some false) else (cartoucheref10_SameSteps.l0 k x0 x1 (wrap64 (x5 + 1)))
end
def cartoucheref10_SameSteps.f (k : Nat) (l0 : List (S50)) (l1 : List (S50)) : Option (Bool) := if (l0.length : Int) = (l1.length : Int) then (cartoucheref10_SameSteps.l0 k l0 l1 0) else (some false)
theorem cartoucheref10_SameSteps.mono_l : ∀ k, (∀ y0 y1 y2, LeO (cartoucheref10_SameSteps.l0 k y0 y1 y2) (cartoucheref10_SameSteps.l0 (k + 1) y0 y1 y2)) ∧ (∀ y0 y1 y2 y3, LeO (cartoucheref10_SameSteps.j1 k y0 y1 y2 y3) (cartoucheref10_SameSteps.j1 (k + 1) y0 y1 y2 y3))
  | 0 => ⟨fun _ _ _ r h => by simp [cartoucheref10_SameSteps.l0] at h, fun _ _ _ _ r h => by simp [cartoucheref10_SameSteps.j1] at h⟩
  | k + 1 => by
    obtain ⟨ih0, ih1⟩ := cartoucheref10_SameSteps.mono_l k
    refine ⟨?_, ?_⟩
    · intro y0 y1 y2
      unfold cartoucheref10_SameSteps.l0
      repeat' first
      | (with_reducible exact ih0 _ _ _)
      | (with_reducible exact ih1 _ _ _ _)
      | (with_reducible exact cartoucheref10_Same.mono _ _ _)
      | (with_reducible exact LeO.refl _)
      | (with_reducible exact LeO.none _)
      | (with_reducible refine LeO.ite ?_ ?_)
      | (with_reducible refine LeO.bind ?_ (fun _ => ?_))
      | exact ih0 _ _ _
      | exact ih1 _ _ _ _
      | exact cartoucheref10_Same.mono _ _ _
      | exact LeO.none _
      | refine LeO.ite ?_ ?_
      | refine LeO.bind ?_ (fun _ => ?_)
    · intro y0 y1 y2 y3
      unfold cartoucheref10_SameSteps.j1
      repeat' first
      | (with_reducible exact ih0 _ _ _)
      | (with_reducible exact ih1 _ _ _ _)
      | (with_reducible exact cartoucheref10_Same.mono _ _ _)
      | (with_reducible exact LeO.refl _)
      | (with_reducible exact LeO.none _)
      | (with_reducible refine LeO.ite ?_ ?_)
      | (with_reducible refine LeO.bind ?_ (fun _ => ?_))
      | exact ih0 _ _ _
      | exact ih1 _ _ _ _
      | exact cartoucheref10_Same.mono _ _ _
      | exact LeO.none _
      | refine LeO.ite ?_ ?_
      | refine LeO.bind ?_ (fun _ => ?_)
theorem cartoucheref10_SameSteps.mono : ∀ a0 a1 k, LeO (cartoucheref10_SameSteps.f k a0 a1) (cartoucheref10_SameSteps.f (k + 1) a0 a1) := by
  intro a0 a1 k
  obtain ⟨ih0, ih1⟩ := cartoucheref10_SameSteps.mono_l k
  unfold cartoucheref10_SameSteps.f
  repeat' first
      | (with_reducible exact ih0 _ _ _)
      | (with_reducible exact ih1 _ _ _ _)
      | (with_reducible exact cartoucheref10_Same.mono _ _ _)
      | (with_reducible exact LeO.refl _)
      | (with_reducible exact LeO.none _)
      | (with_reducible refine LeO.ite ?_ ?_)
      | (with_reducible refine LeO.bind ?_ (fun _ => ?_))
      | exact ih0 _ _ _
      | exact ih1 _ _ _ _
      | exact cartoucheref10_Same.mono _ _ _
      | exact LeO.none _
      | refine LeO.ite ?_ ?_
      | refine LeO.bind ?_ (fun _ => ?_)
set_option maxHeartbeats 8000000 in
set_option maxRecDepth 100000 in
theorem cartoucheref10_SameSteps.calls (k : Nat) (A0 : Option Addr) (c0 : Nat) (l0 : List (S50)) (A1 : Option Addr) (c1 : Nat) (l1 : List (S50)) (r : Bool) (w : World) (hr0 : Kd.C k50 w A0 l0.length l0) (hc0 : l0.length ≤ c0) (hr1 : Kd.C k50 w A1 l1.length l1) (hc1 : l1.length ≤ c1) (h : cartoucheref10_SameSteps.f k l0 l1 = some r) :
    Calls Try.prog 46 #[.slice A0 l0.length c0, .slice A1 l1.length c1] w fun e w' => e = .returned (.bool r) ∧ Drawn0 w w' := by
  have HR0 := Aside0.mk hr0
  have HC0 := Aside0.mk hc0
  clear hr0 hc0
  have HR1 := Aside0.mk hr1
  have HC1 := Aside0.mk hc1
  clear hr1 hc1
  have H : (if (l0.length : Int) = (l1.length : Int) then (cartoucheref10_SameSteps.l0 k l0 l1 0) else (some false)) = some r := h
  clear h
  by_cases c3 : (l0.length : Int) = (l1.length : Int)
  · rw [if_pos c3] at H
    have c3b0 : ((l0.length : Int) == (l1.length : Int)) = true := beq_iff_eq.mpr c3
    have c3b1 : ((l0.length : Int) != (l1.length : Int)) = false := bne_eq_false_iff_eq.mpr c3
    have c3b2 : (l0.length == l1.length) = true := by first | simpa using c3 | (simp at c3 ⊢; omega)
    clear c3
    have H' := Aside0.mk H
    clear H
    go_enter Try.func46, Try.ntmps46
    go_wp2
    repeat (go_quiet (fail); try go_wp2)
    go_loopg [5] k (fun kq v5 w' => ∃ (x5_1 : Int), v5 = .int .i64 x5_1 ∧ Aside0 (cartoucheref10_SameSteps.l0 kq l0 l1 x5_1 = some r) ∧ Aside0 (kq ≤ k) ∧ Drawn0 w w')
    case atStart => exact ⟨(0), (by first | rfl | (simp; done) | (simp [*]; done)), H', ⟨Nat.le_refl _⟩, by repeat (first | exact Drawn0.refl _ | apply Drawn0.step)⟩
    case round =>
      clear H'
      try clear c1
      try clear p2
      try clear c3
      try clear c3b0
      try clear c3b1
      try clear c3b2
      obtain ⟨x5_1, rfl, HA, HK1, ⟨m1, rfl⟩⟩ := hrel
      cases gk with
      | zero => exact absurd HA.out (by simp [cartoucheref10_SameSteps.l0])
      | succ k1 =>
        have H := HA.out
        clear HA
        simp only [cartoucheref10_SameSteps.l0] at H
        by_cases c4 : x5_1 < (l0.length : Int)
        · rw [if_pos c4] at H
          have c4b0 : decide (x5_1 < (l0.length : Int)) = true := decide_eq_true c4
          clear c4
          by_cases c5 : 0 ≤ x5_1
          · rw [if_pos c5] at H
            have c5b0 : decide (0 ≤ x5_1) = true := decide_eq_true c5
            clear c5
            by_cases c6 : x5_1 < (l1.length : Int)
            · rw [if_pos c6] at H
              have c6b0 : decide (x5_1 < (l1.length : Int)) = true := decide_eq_true c6
              clear c6
              replace H := Option.bind_eq_some_iff.mp H
              obtain ⟨t271, A70, H⟩ := H
              replace H : (if t271 = true then (if ((rd_T50 l0 x5_1).f0) = ((rd_T50 l1 x5_1).f0) then (cartoucheref10_SameSteps.j1 k1 l0 l1 x5_1 (((rd_T50 l0 x5_1).f1) != ((rd_T50 l1 x5_1).f1))) else (cartoucheref10_SameSteps.j1 k1 l0 l1 x5_1 true)) else (cartoucheref10_SameSteps.j1 k1 l0 l1 x5_1 true)) = some r := H
              have A7 := Aside0.mk A70
              clear A70
              have HC8 := Aside0.mk H
              clear H
              have p269 : 0 ≤ (x5_1 : Int) := of_decide_eq_true (by first | (with_reducible assumption) | assumption)
              have q269 : x5_1 < (l0.length : Int) := of_decide_eq_true (by first | (with_reducible assumption) | assumption)
              obtain ⟨ad269, A269_2, c269_2, e269, hx269_0, hx269_1, hx269_2, hl269_2, hi269_2⟩ := at_T50 HR0.out x5_1 p269 q269
              cases e269
              have HR269_2 := Aside0.mk hi269_2
              have HC269_2 := Aside0.mk hl269_2
              clear hi269_2 hl269_2
              replace p269 := eq_true p269
              replace q269 := eq_true q269
              have p270 : 0 ≤ (x5_1 : Int) := of_decide_eq_true (by first | (with_reducible assumption) | assumption)
              have q270 : x5_1 < (l1.length : Int) := of_decide_eq_true (by first | (with_reducible assumption) | assumption)
              obtain ⟨ad270, A270_2, c270_2, e270, hx270_0, hx270_1, hx270_2, hl270_2, hi270_2⟩ := at_T50 HR1.out x5_1 p270 q270
              cases e270
              have HR270_2 := Aside0.mk hi270_2
              have HC270_2 := Aside0.mk hl270_2
              clear hi270_2 hl270_2
              replace p270 := eq_true p270
              replace q270 := eq_true q270
              go_upto_region 7 with (first | (go_at_call 87; (with_reducible refine (cartoucheref10_Same.calls k1 _ _ ((rd_T50 l0 x5_1).f2) _ _ ((rd_T50 l1 x5_1).f2) t271 _ ?side1 ?side2 ?side3 ?side4 A7.out).mono ?_); (case side1 => repeat (first | exact HR269_2.out | (with_reducible refine Kd.C_alloc ?_ _) | (with_reducible refine Kd.C_drewN ?_ _) | (with_reducible refine Kd.C_drew ?_))); (case side2 => exact HC269_2.out); (case side3 => repeat (first | exact HR270_2.out | (with_reducible refine Kd.C_alloc ?_ _) | (with_reducible refine Kd.C_drewN ?_ _) | (with_reducible refine Kd.C_drew ?_))); (case side4 => exact HC270_2.out); rintro e w' ⟨rfl, ⟨nd, rfl⟩⟩; (try first | exact ⟨rfl, _, World.drewN_drewN _ _ _⟩ | exact ⟨rfl, _, Eq.trans (World.drewN_drewN _ _ _) (congrArg (World.drewN _) (Nat.add_assoc _ _ _))⟩)))
              repeat (go_quiet (first | (go_at_call 87; (with_reducible refine (cartoucheref10_Same.calls k1 _ _ ((rd_T50 l0 x5_1).f2) _ _ ((rd_T50 l1 x5_1).f2) t271 _ ?side1 ?side2 ?side3 ?side4 A7.out).mono ?_); (case side1 => repeat (first | exact HR269_2.out | (with_reducible refine Kd.C_alloc ?_ _) | (with_reducible refine Kd.C_drewN ?_ _) | (with_reducible refine Kd.C_drew ?_))); (case side2 => exact HC269_2.out); (case side3 => repeat (first | exact HR270_2.out | (with_reducible refine Kd.C_alloc ?_ _) | (with_reducible refine Kd.C_drewN ?_ _) | (with_reducible refine Kd.C_drew ?_))); (case side4 => exact HC270_2.out); rintro e w' ⟨rfl, ⟨nd, rfl⟩⟩; (try first | exact ⟨rfl, _, World.drewN_drewN _ _ _⟩ | exact ⟨rfl, _, Eq.trans (World.drewN_drewN _ _ _) (congrArg (World.drewN _) (Nat.add_assoc _ _ _))⟩))); go_upto_region 7 with (first | (go_at_call 87; (with_reducible refine (cartoucheref10_Same.calls k1 _ _ ((rd_T50 l0 x5_1).f2) _ _ ((rd_T50 l1 x5_1).f2) t271 _ ?side1 ?side2 ?side3 ?side4 A7.out).mono ?_); (case side1 => repeat (first | exact HR269_2.out | (with_reducible refine Kd.C_alloc ?_ _) | (with_reducible refine Kd.C_drewN ?_ _) | (with_reducible refine Kd.C_drew ?_))); (case side2 => exact HC269_2.out); (case side3 => repeat (first | exact HR270_2.out | (with_reducible refine Kd.C_alloc ?_ _) | (with_reducible refine Kd.C_drewN ?_ _) | (with_reducible refine Kd.C_drew ?_))); (case side4 => exact HC270_2.out); rintro e w' ⟨rfl, ⟨nd, rfl⟩⟩; (try first | exact ⟨rfl, _, World.drewN_drewN _ _ _⟩ | exact ⟨rfl, _, Eq.trans (World.drewN_drewN _ _ _) (congrArg (World.drewN _) (Nat.add_assoc _ _ _))⟩))))
              (try simp only [Act.put, List.setIfInBounds_toArray, List.set_cons_zero, List.set_cons_succ])
              go_cut [56] (fun v56 wc => ∃ (kq : Nat) (x56_7 : Bool), v56 = .bool x56_7 ∧ Aside0 (cartoucheref10_SameSteps.j1 kq l0 l1 x5_1 x56_7 = some r) ∧ Aside0 (kq ≤ k1) ∧ Drawn0 w wc)
              case first =>
                have H := HC8.out
                clear HC8
                by_cases c9 : t271 = true
                · subst c9
                  have H1 : (if ((rd_T50 l0 x5_1).f0) = ((rd_T50 l1 x5_1).f0) then (cartoucheref10_SameSteps.j1 k1 l0 l1 x5_1 (((rd_T50 l0 x5_1).f1) != ((rd_T50 l1 x5_1).f1))) else (cartoucheref10_SameSteps.j1 k1 l0 l1 x5_1 true)) = some r := by rw [if_pos rfl] at H; exact H
                  clear H
                  have H := H1
                  clear H1
                  by_cases c10 : ((rd_T50 l0 x5_1).f0) = ((rd_T50 l1 x5_1).f0)
                  · rw [if_pos c10] at H
                    have c10b0 : (((rd_T50 l0 x5_1).f0) == ((rd_T50 l1 x5_1).f0)) = true := beq_iff_eq.mpr c10
                    have c10b1 : (((rd_T50 l0 x5_1).f0) != ((rd_T50 l1 x5_1).f0)) = false := bne_eq_false_iff_eq.mpr c10
                    clear c10
                    (first | rw [c10b0] | (simp only [i64_w, i32_w]; rw [c10b0]) | skip)
                    have H' := Aside0.mk H
                    clear H
                    have p272 : 0 ≤ (x5_1 : Int) := of_decide_eq_true (by first | (with_reducible assumption) | assumption)
                    have q272 : x5_1 < (l0.length : Int) := of_decide_eq_true (by first | (with_reducible assumption) | assumption)
                    obtain ⟨ad272, A272_2, c272_2, e272, hx272_0, hx272_1, hx272_2, hl272_2, hi272_2⟩ := at_T50 HR0.out x5_1 p272 q272
                    obtain rfl : ad269 = ad272 := (by injection e272)
                    have HR272_2 := Aside0.mk hi272_2
                    have HC272_2 := Aside0.mk hl272_2
                    clear hi272_2 hl272_2
                    replace p272 := eq_true p272
                    replace q272 := eq_true q272
                    have p273 : 0 ≤ (x5_1 : Int) := of_decide_eq_true (by first | (with_reducible assumption) | assumption)
                    have q273 : x5_1 < (l1.length : Int) := of_decide_eq_true (by first | (with_reducible assumption) | assumption)
                    obtain ⟨ad273, A273_2, c273_2, e273, hx273_0, hx273_1, hx273_2, hl273_2, hi273_2⟩ := at_T50 HR1.out x5_1 p273 q273
                    obtain rfl : ad270 = ad273 := (by injection e273)
                    have HR273_2 := Aside0.mk hi273_2
                    have HC273_2 := Aside0.mk hl273_2
                    clear hi273_2 hl273_2
                    replace p273 := eq_true p273
                    replace q273 := eq_true q273
                    have p274 : 0 ≤ (x5_1 : Int) := of_decide_eq_true (by first | (with_reducible assumption) | assumption)
                    have q274 : x5_1 < (l0.length : Int) := of_decide_eq_true (by first | (with_reducible assumption) | assumption)
                    obtain ⟨ad274, A274_2, c274_2, e274, hx274_0, hx274_1, hx274_2, hl274_2, hi274_2⟩ := at_T50 HR0.out x5_1 p274 q274
                    obtain rfl : ad269 = ad274 := (by injection e274)
                    have HR274_2 := Aside0.mk hi274_2
                    have HC274_2 := Aside0.mk hl274_2
                    clear hi274_2 hl274_2
                    replace p274 := eq_true p274
                    replace q274 := eq_true q274
                    have ea_ := Option.some.inj (hx272_2.symm.trans hx274_2)
                    injection ea_ with ea_ en_ ec_
                    subst ea_
                    subst ec_
                    clear en_
                    have p275 : 0 ≤ (x5_1 : Int) := of_decide_eq_true (by first | (with_reducible assumption) | assumption)
                    have q275 : x5_1 < (l1.length : Int) := of_decide_eq_true (by first | (with_reducible assumption) | assumption)
                    obtain ⟨ad275, A275_2, c275_2, e275, hx275_0, hx275_1, hx275_2, hl275_2, hi275_2⟩ := at_T50 HR1.out x5_1 p275 q275
                    obtain rfl : ad270 = ad275 := (by injection e275)
                    have HR275_2 := Aside0.mk hi275_2
                    have HC275_2 := Aside0.mk hl275_2
                    clear hi275_2 hl275_2
                    replace p275 := eq_true p275
                    replace q275 := eq_true q275
                    have ea_ := Option.some.inj (hx273_2.symm.trans hx275_2)
                    injection ea_ with ea_ en_ ec_
                    subst ea_
                    subst ec_
                    clear en_
                    go_wp2
                    repeat (go_quiet (fail); try go_wp2)
                    go_meet
                    case rel => exact ⟨_, ((((rd_T50 l0 x5_1).f1) != ((rd_T50 l1 x5_1).f1))), (by first | rfl | (simp; done) | (simp [*]; done)), H', ⟨by have := HK1.out; first | omega | exact Nat.le_refl _⟩, by repeat (first | exact Drawn0.refl _ | apply Drawn0.step)⟩
                  · rw [if_neg c10] at H
                    have c10b0 : (((rd_T50 l0 x5_1).f0) == ((rd_T50 l1 x5_1).f0)) = false := beq_eq_false_iff_ne.mpr c10
                    have c10b1 : (((rd_T50 l0 x5_1).f0) != ((rd_T50 l1 x5_1).f0)) = true := bne_iff_ne.mpr c10
                    (first | rw [c10b0] | (simp only [i64_w, i32_w]; rw [c10b0]) | skip)
                    have H' := Aside0.mk H
                    clear H
                    have p272 : 0 ≤ (x5_1 : Int) := of_decide_eq_true (by first | (with_reducible assumption) | assumption)
                    have q272 : x5_1 < (l0.length : Int) := of_decide_eq_true (by first | (with_reducible assumption) | assumption)
                    obtain ⟨ad272, A272_2, c272_2, e272, hx272_0, hx272_1, hx272_2, hl272_2, hi272_2⟩ := at_T50 HR0.out x5_1 p272 q272
                    obtain rfl : ad269 = ad272 := (by injection e272)
                    have HR272_2 := Aside0.mk hi272_2
                    have HC272_2 := Aside0.mk hl272_2
                    clear hi272_2 hl272_2
                    replace p272 := eq_true p272
                    replace q272 := eq_true q272
                    have p273 : 0 ≤ (x5_1 : Int) := of_decide_eq_true (by first | (with_reducible assumption) | assumption)
                    have q273 : x5_1 < (l1.length : Int) := of_decide_eq_true (by first | (with_reducible assumption) | assumption)
                    obtain ⟨ad273, A273_2, c273_2, e273, hx273_0, hx273_1, hx273_2, hl273_2, hi273_2⟩ := at_T50 HR1.out x5_1 p273 q273
                    obtain rfl : ad270 = ad273 := (by injection e273)
                    have HR273_2 := Aside0.mk hi273_2
                    have HC273_2 := Aside0.mk hl273_2
                    clear hi273_2 hl273_2
                    replace p273 := eq_true p273
                    replace q273 := eq_true q273
                    go_wp2
                    repeat (go_quiet (fail); try go_wp2)
                    go_meet
                    case rel => exact ⟨_, (true), (by first | rfl | (simp; done) | (simp [*]; done)), H', ⟨by have := HK1.out; first | omega | exact Nat.le_refl _⟩, by repeat (first | exact Drawn0.refl _ | apply Drawn0.step)⟩
                · replace c9 := Bool.eq_false_iff.mpr c9
                  subst c9
                  have H1 : (cartoucheref10_SameSteps.j1 k1 l0 l1 x5_1 true) = some r := by rw [if_neg (show ¬ (false = true) by decide)] at H; exact H
                  clear H
                  have H := H1
                  clear H1
                  have H' := Aside0.mk H
                  clear H
                  go_wp2
                  repeat (go_quiet (fail); try go_wp2)
                  go_meet
                  case rel => exact ⟨_, (true), (by first | rfl | (simp; done) | (simp [*]; done)), H', ⟨by have := HK1.out; first | omega | exact Nat.le_refl _⟩, by repeat (first | exact Drawn0.refl _ | apply Drawn0.step)⟩
              case rest =>
                clear HC8
                try clear c1
                try clear c2
                try clear p2
                try clear q2
                try clear hx2
                try clear c3
                try clear c3b0
                try clear c3b1
                try clear c3b2
                try clear c4
                try clear c4b0
                try clear c5
                try clear c5b0
                try clear c6
                try clear c6b0
                try clear c9
                try clear c10
                try clear c10b0
                try clear c10b1
                try clear hx269_0
                try clear hx269_1
                try clear hx269_2
                try clear hx270_0
                try clear hx270_1
                try clear hx270_2
                try clear hx272_0
                try clear hx272_1
                try clear hx272_2
                try clear hx273_0
                try clear hx273_1
                try clear hx273_2
                try clear hx274_0
                try clear hx274_1
                try clear hx274_2
                try clear hx275_0
                try clear hx275_1
                try clear hx275_2
                try clear p2
                try clear p269
                try clear p270
                try clear p272
                try clear p273
                try clear p274
                try clear p275
                try clear q269
                try clear q270
                try clear q272
                try clear q273
                try clear q274
                try clear q275
                obtain ⟨kq, x56_7, rfl, HA, HJ7, ⟨mc7, rfl⟩⟩ := hcut
                cases kq with
                | zero => exact absurd HA.out (by simp [cartoucheref10_SameSteps.j1])
                | succ kj7 =>
                  have H := HA.out
                  clear HA
                  simp only [cartoucheref10_SameSteps.j1] at H
                  by_cases c11 : x56_7 = true
                  · subst c11
                    have H1 : (some false) = some r := by rw [if_pos rfl] at H; exact H
                    clear H
                    have H := H1
                    clear H1
                    obtain rfl := Option.some.inj H
                    go_wp2
                    repeat (go_quiet (fail); try go_wp2)
                    go_ret
                    exact ⟨by first | rfl | (simp; done) | (simp [*]; done), by repeat (first | exact Drawn0.refl _ | apply Drawn0.step)⟩
                  · replace c11 := Bool.eq_false_iff.mpr c11
                    subst c11
                    have H1 : (cartoucheref10_SameSteps.l0 kj7 l0 l1 (wrap64 (x5_1 + 1))) = some r := by rw [if_neg (show ¬ (false = true) by decide)] at H; exact H
                    clear H
                    have H := H1
                    clear H1
                    have H' := Aside0.mk H
                    clear H
                    go_wp2
                    repeat (go_quiet (fail); try go_wp2)
                    go_roundg kj7
                    case measure => have := HK1.out; have := HJ7.out; omega
                    case rel => exact ⟨(wrap64 (x5_1 + 1)), (by first | rfl | (simp; done) | (simp [*]; done)), H', ⟨by have := HK1.out; have := HJ7.out; omega⟩, by repeat (first | exact Drawn0.refl _ | apply Drawn0.step)⟩
            · rw [if_neg c6] at H
              exact absurd H (by simp)
          · rw [if_neg c5] at H
            exact absurd H (by simp)
        · rw [if_neg c4] at H
          have c4b0 : decide (x5_1 < (l0.length : Int)) = false := decide_eq_false c4
          clear c4
          obtain rfl := Option.some.inj H
          go_wp2
          repeat (go_quiet (fail); try go_wp2)
          go_ret
          exact ⟨by first | rfl | (simp; done) | (simp [*]; done), by repeat (first | exact Drawn0.refl _ | apply Drawn0.step)⟩
  · rw [if_neg c3] at H
    have c3b0 : ((l0.length : Int) == (l1.length : Int)) = false := beq_eq_false_iff_ne.mpr c3
    have c3b1 : ((l0.length : Int) != (l1.length : Int)) = true := bne_iff_ne.mpr c3
    have c3b2 : (l0.length == l1.length) = false := by first | simpa using c3 | (simp at c3 ⊢; omega)
    obtain rfl := Option.some.inj H
    go_enter Try.func46, Try.ntmps46
    go_wp2
    repeat (go_quiet (fail); try go_wp2)
    go_ret
    exact ⟨by first | rfl | (simp; done) | (simp [*]; done), by repeat (first | exact Drawn0.refl _ | apply Drawn0.step)⟩

end Go.Proofs.YthjgmccpbcelgaaPr
