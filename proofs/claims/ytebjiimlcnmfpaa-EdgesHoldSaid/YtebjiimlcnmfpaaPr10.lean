/- Contracts of Go functions, printed by a program of this session over the translation: each call answers what its Lean function says. -/
import Derived.Test.YtebjiimlcnmfpaaPr0
import Derived.Test.YtebjiimlcnmfpaaPr6
import Derived.Test.YtebjiimlcnmfpaaPr7
import Derived.Test.YtebjiimlcnmfpaaPr8
import Derived.Test.YtebjiimlcnmfpaaPr9
import Derived.Test.YtebjiimlcnmfpaaA16
import Derived.Test.YtebjiimlcnmfpaaB1
namespace Go.Proofs.YtebjiimlcnmfpaaPr
open Go.RowKit Go.Proofs.YtebjiimlcnmfpaaW.PrintWords Go.Proofs.YtebjiimlcnmfpaaW.PrintLast Go.Proofs.YtebjiimlcnmfpaaW.PrintMore
attribute [local go_sem] max2_int min2_int max_two min_two max_three min_three max_four min_four   -- for this text's walks alone
set_option linter.unusedVariables false
set_option linter.unusedSimpArgs false

/-! ### cartouchelaw10_EdgesHold: function 4 -/
mutual
def cartouchelaw10_EdgesHold.j0 : Nat → List (S46) → Bool → Bool → Option (Bool)
  | 0, _, _, _ => none
  | k + 1, x0, x3, x30 => if x30 = true then (some x3) else ((edges_All.f k x0).bind fun t170 => (cartouchelaw10_EdgesHold.l0 k x0 x3 t170 0))
def cartouchelaw10_EdgesHold.l0 : Nat → List (S46) → Bool → List (S38) → Int → Option (Bool)
  | 0, _, _, _, _ => none
  | k + 1, x0, x3, x8, x9 => if x9 < (x8.length : Int) then (if 0 ≤ x9 then ((edges_Holds.f x0 ((rd_T38 x8 x9).f0) ((rd_T38 x8 x9).f1) ((rd_T38 x8 x9).f2) ((rd_T38 x8 x9).f3) ((rd_T38 x8 x9).f4)).bind fun t174 => (if t174 = true then (cartouchelaw10_EdgesHold.l0 k x0 x3 x8 (wrap64 (x9 + 1))) else (some false))) else (none)) else (some x3)
end
def cartouchelaw10_EdgesHold.f (k : Nat) (l0 : List (S46)) : Option (Bool) := (cartouchelaw10_shown.f k).bind fun t163 => ((cartouchelaw10_few.f k l0).bind fun t164 => ((cartoucheref08_Formed.f l0).bind fun bt165 => ((cartoucheref09_All.f k l0).bind fun t167 => (if t164 = true then (if bt165.2 = 0 then (cartouchelaw10_EdgesHold.j0 k l0 t163 (decide ((t167.length : Int) > 0))) else (cartouchelaw10_EdgesHold.j0 k l0 t163 true)) else (cartouchelaw10_EdgesHold.j0 k l0 t163 true)))))
theorem cartouchelaw10_EdgesHold.mono_l : ∀ k, (∀ y0 y1 y2, LeO (cartouchelaw10_EdgesHold.j0 k y0 y1 y2) (cartouchelaw10_EdgesHold.j0 (k + 1) y0 y1 y2)) ∧ (∀ y0 y1 y2 y3, LeO (cartouchelaw10_EdgesHold.l0 k y0 y1 y2 y3) (cartouchelaw10_EdgesHold.l0 (k + 1) y0 y1 y2 y3))
  | 0 => ⟨fun _ _ _ r h => by simp [cartouchelaw10_EdgesHold.j0] at h, fun _ _ _ _ r h => by simp [cartouchelaw10_EdgesHold.l0] at h⟩
  | k + 1 => by
    obtain ⟨ih0, ih1⟩ := cartouchelaw10_EdgesHold.mono_l k
    refine ⟨?_, ?_⟩
    · intro y0 y1 y2
      unfold cartouchelaw10_EdgesHold.j0
      repeat' first
      | (with_reducible exact ih0 _ _ _)
      | (with_reducible exact ih1 _ _ _ _)
      | (with_reducible exact cartouchelaw10_few.mono _ _)
      | (with_reducible exact cartouchelaw10_shown.mono _)
      | (with_reducible exact cartoucheref09_All.mono _ _)
      | (with_reducible exact edges_All.mono _ _)
      | (with_reducible exact LeO.refl _)
      | (with_reducible exact LeO.none _)
      | (with_reducible refine LeO.ite ?_ ?_)
      | (with_reducible refine LeO.bind ?_ (fun _ => ?_))
      | exact ih0 _ _ _
      | exact ih1 _ _ _ _
      | exact cartouchelaw10_few.mono _ _
      | exact cartouchelaw10_shown.mono _
      | exact cartoucheref09_All.mono _ _
      | exact edges_All.mono _ _
      | exact LeO.none _
      | refine LeO.ite ?_ ?_
      | refine LeO.bind ?_ (fun _ => ?_)
    · intro y0 y1 y2 y3
      unfold cartouchelaw10_EdgesHold.l0
      repeat' first
      | (with_reducible exact ih0 _ _ _)
      | (with_reducible exact ih1 _ _ _ _)
      | (with_reducible exact cartouchelaw10_few.mono _ _)
      | (with_reducible exact cartouchelaw10_shown.mono _)
      | (with_reducible exact cartoucheref09_All.mono _ _)
      | (with_reducible exact edges_All.mono _ _)
      | (with_reducible exact LeO.refl _)
      | (with_reducible exact LeO.none _)
      | (with_reducible refine LeO.ite ?_ ?_)
      | (with_reducible refine LeO.bind ?_ (fun _ => ?_))
      | exact ih0 _ _ _
      | exact ih1 _ _ _ _
      | exact cartouchelaw10_few.mono _ _
      | exact cartouchelaw10_shown.mono _
      | exact cartoucheref09_All.mono _ _
      | exact edges_All.mono _ _
      | exact LeO.none _
      | refine LeO.ite ?_ ?_
      | refine LeO.bind ?_ (fun _ => ?_)
theorem cartouchelaw10_EdgesHold.mono : ∀ a0 k, LeO (cartouchelaw10_EdgesHold.f k a0) (cartouchelaw10_EdgesHold.f (k + 1) a0) := by
  intro a0 k
  obtain ⟨ih0, ih1⟩ := cartouchelaw10_EdgesHold.mono_l k
  unfold cartouchelaw10_EdgesHold.f
  repeat' first
      | (with_reducible exact ih0 _ _ _)
      | (with_reducible exact ih1 _ _ _ _)
      | (with_reducible exact cartouchelaw10_few.mono _ _)
      | (with_reducible exact cartouchelaw10_shown.mono _)
      | (with_reducible exact cartoucheref09_All.mono _ _)
      | (with_reducible exact edges_All.mono _ _)
      | (with_reducible exact LeO.refl _)
      | (with_reducible exact LeO.none _)
      | (with_reducible refine LeO.ite ?_ ?_)
      | (with_reducible refine LeO.bind ?_ (fun _ => ?_))
      | exact ih0 _ _ _
      | exact ih1 _ _ _ _
      | exact cartouchelaw10_few.mono _ _
      | exact cartouchelaw10_shown.mono _
      | exact cartoucheref09_All.mono _ _
      | exact edges_All.mono _ _
      | exact LeO.none _
      | refine LeO.ite ?_ ?_
      | refine LeO.bind ?_ (fun _ => ?_)
set_option maxHeartbeats 8000000 in
set_option maxRecDepth 100000 in
theorem cartouchelaw10_EdgesHold.calls (k : Nat) (A0 : Option Addr) (c0 : Nat) (l0 : List (S46)) (r : Bool) (w : World) (hr0 : Kd.C k46 w A0 l0.length l0) (hc0 : l0.length ≤ c0) (h : cartouchelaw10_EdgesHold.f k l0 = some r) :
    Calls Try.prog 4 #[.slice A0 l0.length c0] w fun e w' => e = .returned (.bool r) ∧ Below w.heap.size w w' := by
  have hu38 := Try.underlying38
  have HR0 := Aside0.mk hr0
  have HC0 := Aside0.mk hc0
  clear hr0 hc0
  have HB := Aside0.mk (Below.refl w.heap.size w)
  have H : ((cartouchelaw10_shown.f k).bind fun t163 => ((cartouchelaw10_few.f k l0).bind fun t164 => ((cartoucheref08_Formed.f l0).bind fun bt165 => ((cartoucheref09_All.f k l0).bind fun t167 => (if t164 = true then (if bt165.2 = 0 then (cartouchelaw10_EdgesHold.j0 k l0 t163 (decide ((t167.length : Int) > 0))) else (cartouchelaw10_EdgesHold.j0 k l0 t163 true)) else (cartouchelaw10_EdgesHold.j0 k l0 t163 true)))))) = some r := h
  clear h
  replace H := Option.bind_eq_some_iff.mp H
  obtain ⟨t163, A20, H⟩ := H
  replace H : ((cartouchelaw10_few.f k l0).bind fun t164 => ((cartoucheref08_Formed.f l0).bind fun bt165 => ((cartoucheref09_All.f k l0).bind fun t167 => (if t164 = true then (if bt165.2 = 0 then (cartouchelaw10_EdgesHold.j0 k l0 t163 (decide ((t167.length : Int) > 0))) else (cartouchelaw10_EdgesHold.j0 k l0 t163 true)) else (cartouchelaw10_EdgesHold.j0 k l0 t163 true))))) = some r := H
  have A2 := Aside0.mk A20
  clear A20
  replace H := Option.bind_eq_some_iff.mp H
  obtain ⟨t164, A30, H⟩ := H
  replace H : ((cartoucheref08_Formed.f l0).bind fun bt165 => ((cartoucheref09_All.f k l0).bind fun t167 => (if t164 = true then (if bt165.2 = 0 then (cartouchelaw10_EdgesHold.j0 k l0 t163 (decide ((t167.length : Int) > 0))) else (cartouchelaw10_EdgesHold.j0 k l0 t163 true)) else (cartouchelaw10_EdgesHold.j0 k l0 t163 true)))) = some r := H
  have A3 := Aside0.mk A30
  clear A30
  replace H := Option.bind_eq_some_iff.mp H
  obtain ⟨⟨t165, t166⟩, A40, H⟩ := H
  replace H : ((cartoucheref09_All.f k l0).bind fun t167 => (if t164 = true then (if t166 = 0 then (cartouchelaw10_EdgesHold.j0 k l0 t163 (decide ((t167.length : Int) > 0))) else (cartouchelaw10_EdgesHold.j0 k l0 t163 true)) else (cartouchelaw10_EdgesHold.j0 k l0 t163 true))) = some r := H
  have A4 := Aside0.mk A40
  clear A40
  replace H := Option.bind_eq_some_iff.mp H
  obtain ⟨t167, A50, H⟩ := H
  replace H : (if t164 = true then (if t166 = 0 then (cartouchelaw10_EdgesHold.j0 k l0 t163 (decide ((t167.length : Int) > 0))) else (cartouchelaw10_EdgesHold.j0 k l0 t163 true)) else (cartouchelaw10_EdgesHold.j0 k l0 t163 true)) = some r := H
  have A5 := Aside0.mk A50
  clear A50
  have HC6 := Aside0.mk H
  clear H
  go_enter Try.func4, Try.ntmps4
  go_upto_region 5 with (first | ((with_reducible refine gate_callee (f := 9) rfl ?_); refine goesL_ (some 10) rfl rfl Try.func9 (by kernel_rfl) rfl #[] rfl (by (try simp only [List.map_toArray, List.map_cons, List.map_nil]); first | done | rfl | (simp only [List.length_drop, List.length_take]; rfl)) ?_; (with_reducible refine (cartouchelaw10_shown.calls k  t163 _ A2.out).mono ?_); rintro e w7 ⟨rfl, hb⟩; refine ⟨_, rfl, ?_⟩; have n0_ := Aside0.mk (below_step (by repeat (first | (with_reducible first | exact HB.out | apply below_alloc | apply pw_below_drewN | apply below_drew1) | exact HB.out)) hb); clear HB; have HB := n0_; clear n0_; (try clear hb); (try clear hb2); (try clear hk); (try clear hi)) | ((with_reducible refine gate_callee (f := 10) rfl ?_); refine goesL_ (some 12) rfl rfl Try.func10 (by kernel_rfl) rfl #[.slice A0 l0.length c0] rfl (by (try simp only [List.map_toArray, List.map_cons, List.map_nil]); first | done | rfl | (simp only [List.length_drop, List.length_take]; rfl)) ?_; (with_reducible refine (cartouchelaw10_few.calls k _ _ l0 t164 _ ?side1 ?side2 A3.out).mono ?_); (case side1 => repeat (first | exact (Kd.C_below HR0.out HB.out) | (with_reducible refine Kd.C_alloc ?_ _) | (with_reducible refine Kd.C_drewN ?_ _) | (with_reducible refine Kd.C_drew ?_))); (case side2 => exact HC0.out); rintro e w' ⟨rfl, ⟨nd, rfl⟩⟩; refine ⟨_, rfl, ?_⟩) | ((with_reducible refine gate_callee (f := 11) rfl ?_); refine goesL_ (some 15) rfl rfl Try.func11 (by kernel_rfl) rfl #[.slice A0 l0.length c0] rfl (by (try simp only [List.map_toArray, List.map_cons, List.map_nil]); first | done | rfl | (simp only [List.length_drop, List.length_take]; rfl)) ?_; (with_reducible refine (cartoucheref08_Formed.calls _ _ l0 t165 t166 _ ?side1 ?side2 A4.out).mono ?_); (case side1 => repeat (first | exact (Kd.C_below HR0.out (by repeat (first | (with_reducible first | exact HB.out | apply below_alloc | apply pw_below_drewN | apply below_drew1) | exact HB.out))) | (with_reducible refine Kd.C_alloc ?_ _) | (with_reducible refine Kd.C_drewN ?_ _) | (with_reducible refine Kd.C_drew ?_))); (case side2 => exact HC0.out); rintro e w8 ⟨rfl, hb⟩; refine ⟨_, rfl, ?_⟩; have n0_ := Aside0.mk (below_step (by repeat (first | (with_reducible first | exact HB.out | apply below_alloc | apply pw_below_drewN | apply below_drew1) | exact HB.out)) hb); clear HB; have HB := n0_; clear n0_; (try clear hb); (try clear hb2); (try clear hk); (try clear hi)) | ((with_reducible refine gate_callee (f := 12) rfl ?_); refine goesL_ (some 19) rfl rfl Try.func12 (by kernel_rfl) rfl #[.slice A0 l0.length c0] rfl (by (try simp only [List.map_toArray, List.map_cons, List.map_nil]); first | done | rfl | (simp only [List.length_drop, List.length_take]; rfl)) ?_; (with_reducible refine (cartoucheref09_All.calls k _ _ l0 t167 _ ?side1 ?side2 A5.out).mono ?_); (case side1 => repeat (first | exact (Kd.C_below HR0.out HB.out) | (with_reducible refine Kd.C_alloc ?_ _) | (with_reducible refine Kd.C_drewN ?_ _) | (with_reducible refine Kd.C_drew ?_))); (case side2 => exact HC0.out); rintro e w9 ⟨v168, rfl, ho0, hb⟩; refine ⟨_, rfl, ?_⟩; have n0_ := Aside0.mk (Kd.R_lower ho0 (below_size (by repeat (first | (with_reducible first | exact HB.out | apply below_alloc | apply pw_below_drewN | apply below_drew1) | exact HB.out)))); have n1_ := Aside0.mk (below_step (by repeat (first | (with_reducible first | exact HB.out | apply below_alloc | apply pw_below_drewN | apply below_drew1) | exact HB.out)) hb); clear HB; have HO169 := n0_; have HB := n1_; clear n0_ n1_; (try clear hb); (try clear hb2); (try clear hk); (try clear hi); (try clear ho0)))
  (try simp only [Act.put, List.setIfInBounds_toArray, List.set_cons_zero, List.set_cons_succ])
  go_cut [30] (fun v30 wc => ∃ (kq : Nat) (x30_5 : Bool), v30 = .bool x30_5 ∧ Aside0 (cartouchelaw10_EdgesHold.j0 kq l0 t163 x30_5 = some r) ∧ Aside0 (kq ≤ k) ∧ Aside0 (Below w.heap.size w wc))
  case first =>
    have H := HC6.out
    clear HC6
    by_cases c10 : t164 = true
    · subst c10
      have H1 : (if t166 = 0 then (cartouchelaw10_EdgesHold.j0 k l0 t163 (decide ((t167.length : Int) > 0))) else (cartouchelaw10_EdgesHold.j0 k l0 t163 true)) = some r := by rw [if_pos rfl] at H; exact H
      clear H
      have H := H1
      clear H1
      by_cases c11 : t166 = 0
      · rw [if_pos c11] at H
        have c11b0 : (t166 == 0) = true := beq_iff_eq.mpr c11
        have c11b1 : (t166 != 0) = false := bne_eq_false_iff_eq.mpr c11
        clear c11
        (first | rw [c11b0] | (simp only [i64_w, i32_w]; rw [c11b0]) | skip)
        have H' := Aside0.mk H
        clear H
        obtain ⟨Ao12, co12, eo12⟩ := Kd.R_slice HO169.out
        subst eo12
        go_wp2
        go_meet
        case rel => exact ⟨_, (decide ((t167.length : Int) > 0)), (by first | rfl | (simp; done) | (simp [*]; done)), H', ⟨by first | omega | exact Nat.le_refl _⟩, ⟨by repeat (first | (with_reducible first | exact HB.out | apply below_alloc | apply pw_below_drewN | apply below_drew1) | exact HB.out)⟩⟩
      · rw [if_neg c11] at H
        have c11b0 : (t166 == 0) = false := beq_eq_false_iff_ne.mpr c11
        have c11b1 : (t166 != 0) = true := bne_iff_ne.mpr c11
        (first | rw [c11b0] | (simp only [i64_w, i32_w]; rw [c11b0]) | skip)
        have H' := Aside0.mk H
        clear H
        go_wp2
        go_meet
        case rel => exact ⟨_, (true), (by first | rfl | (simp; done) | (simp [*]; done)), H', ⟨by first | omega | exact Nat.le_refl _⟩, ⟨by repeat (first | (with_reducible first | exact HB.out | apply below_alloc | apply pw_below_drewN | apply below_drew1) | exact HB.out)⟩⟩
    · replace c10 := Bool.eq_false_iff.mpr c10
      subst c10
      have H1 : (cartouchelaw10_EdgesHold.j0 k l0 t163 true) = some r := by rw [if_neg (show ¬ (false = true) by decide)] at H; exact H
      clear H
      have H := H1
      clear H1
      have H' := Aside0.mk H
      clear H
      go_wp2
      go_meet
      case rel => exact ⟨_, (true), (by first | rfl | (simp; done) | (simp [*]; done)), H', ⟨by first | omega | exact Nat.le_refl _⟩, ⟨by repeat (first | (with_reducible first | exact HB.out | apply below_alloc | apply pw_below_drewN | apply below_drew1) | exact HB.out)⟩⟩
  case rest =>
    clear HC6
    try clear c1
    try clear p2
    try clear c4
    try clear c9
    try clear c10
    try clear c11
    try clear c11b0
    try clear c11b1
    try clear c12
    obtain ⟨kq, x30_5, rfl, HA, HJ5, HB⟩ := hcut
    cases kq with
    | zero => exact absurd HA.out (by simp [cartouchelaw10_EdgesHold.j0])
    | succ kj5 =>
      have H := HA.out
      clear HA
      simp only [cartouchelaw10_EdgesHold.j0] at H
      by_cases c13 : x30_5 = true
      · subst c13
        have H1 : (some t163) = some r := by rw [if_pos rfl] at H; exact H
        clear H
        have H := H1
        clear H1
        obtain rfl := Option.some.inj H
        go_wp2
        go_ret
        exact ⟨by first | rfl | (simp [errW_none, errW_some] <;> rfl) | (simp [*, errW_none, errW_some] <;> rfl), by repeat (first | (with_reducible first | exact HB.out | apply below_alloc | apply pw_below_drewN | apply below_drew1) | exact HB.out)⟩
      · replace c13 := Bool.eq_false_iff.mpr c13
        subst c13
        have H1 : ((edges_All.f kj5 l0).bind fun t170 => (cartouchelaw10_EdgesHold.l0 kj5 l0 t163 t170 0)) = some r := by rw [if_neg (show ¬ (false = true) by decide)] at H; exact H
        clear H
        have H := H1
        clear H1
        replace H := Option.bind_eq_some_iff.mp H
        obtain ⟨t170, A140, H⟩ := H
        replace H : (cartouchelaw10_EdgesHold.l0 kj5 l0 t163 t170 0) = some r := H
        have A14 := Aside0.mk A140
        clear A140
        have H' := Aside0.mk H
        clear H
        go_wp2_with (first | ((with_reducible refine gate_callee (f := 13) rfl ?_); refine goesL_ (some 33) rfl rfl Try.func13 (by kernel_rfl) rfl #[.slice A0 l0.length c0] rfl (by (try simp only [List.map_toArray, List.map_cons, List.map_nil]); first | done | rfl | (simp only [List.length_drop, List.length_take]; rfl)) ?_; (with_reducible refine (edges_All.calls kj5 _ _ l0 t170 _ ?side1 ?side2 A14.out).mono ?_); (case side1 => repeat (first | exact (Kd.C_below HR0.out HB.out) | (with_reducible refine Kd.C_alloc ?_ _) | (with_reducible refine Kd.C_drewN ?_ _) | (with_reducible refine Kd.C_drew ?_))); (case side2 => exact HC0.out); rintro e w15 ⟨v171, rfl, ho0, hb⟩; refine ⟨_, rfl, ?_⟩; have n0_ := Aside0.mk (Kd.R_lower ho0 (below_size (by repeat (first | (with_reducible first | exact HB.out | apply below_alloc | apply pw_below_drewN | apply below_drew1) | exact HB.out)))); have n1_ := Aside0.mk (below_step (by repeat (first | (with_reducible first | exact HB.out | apply below_alloc | apply pw_below_drewN | apply below_drew1) | exact HB.out)) hb); clear HB; have HO172 := n0_; have HB := n1_; clear n0_ n1_; (try clear hb); (try clear hb2); (try clear hk); (try clear hi); (try clear ho0)))
        go_loopg [9] kj5 (fun kq v9 w' => ∃ (x9_2 : Int), v9 = .int .i64 x9_2 ∧ Aside0 (cartouchelaw10_EdgesHold.l0 kq l0 t163 t170 x9_2 = some r) ∧ Aside0 (kq ≤ kj5) ∧ Aside0 (Kd.R k38 38 w' w.heap.size (fun _ => True) v171 t170) ∧ Aside0 (Below w.heap.size w w'))
        case atStart => exact ⟨(0), (by first | rfl | (simp; done) | (simp [*]; done)), H', ⟨Nat.le_refl _⟩, ⟨by (with_reducible repeat (first | apply Kd.R_alloc | apply Kd.R_drewN | apply Kd.R_drew)); exact HO172.out⟩, ⟨by repeat (first | (with_reducible first | exact HB.out | apply below_alloc | apply pw_below_drewN | apply below_drew1) | exact HB.out)⟩⟩
        case round =>
          clear H'
          try clear c1
          try clear p2
          try clear c4
          try clear c9
          try clear c10
          try clear c11
          try clear c11b0
          try clear c11b1
          try clear c12
          try clear c13
          try clear p2
          obtain ⟨x9_2, rfl, HA, HK2, HO_8, HB⟩ := hrel
          cases gk with
          | zero => exact absurd HA.out (by simp [cartouchelaw10_EdgesHold.l0])
          | succ k2 =>
            have H := HA.out
            clear HA
            simp only [cartouchelaw10_EdgesHold.l0] at H
            by_cases c16 : x9_2 < (t170.length : Int)
            · rw [if_pos c16] at H
              have c16b0 : decide (x9_2 < (t170.length : Int)) = true := decide_eq_true c16
              clear c16
              by_cases c17 : 0 ≤ x9_2
              · rw [if_pos c17] at H
                have c17b0 : decide (0 ≤ x9_2) = true := decide_eq_true c17
                clear c17
                replace H := Option.bind_eq_some_iff.mp H
                obtain ⟨t174, A180, H⟩ := H
                replace H : (if t174 = true then (cartouchelaw10_EdgesHold.l0 k2 l0 t163 t170 (wrap64 (x9_2 + 1))) else (some false)) = some r := H
                have A18 := Aside0.mk A180
                clear A180
                by_cases c19 : t174 = true
                · subst c19
                  have H1 : (cartouchelaw10_EdgesHold.l0 k2 l0 t163 t170 (wrap64 (x9_2 + 1))) = some r := by rw [if_pos rfl] at H; exact H
                  clear H
                  have H := H1
                  clear H1
                  have H' := Aside0.mk H
                  clear H
                  obtain ⟨Ao20, co20, eo20⟩ := Kd.R_slice HO_8.out
                  subst eo20
                  have p173 : 0 ≤ (x9_2 : Int) := of_decide_eq_true (by first | (with_reducible assumption) | assumption)
                  have q173 : x9_2 < (t170.length : Int) := of_decide_eq_true (by first | (with_reducible assumption) | assumption)
                  obtain ⟨ad173, e173, hx173_0, hx173_1, hx173_2, hx173_3, hx173_4⟩ := at_T38 (Kd.R_reads' HO_8.out).2.2 x9_2 p173 q173
                  cases e173
                  replace p173 := eq_true p173
                  replace q173 := eq_true q173
                  go_wp2_with (first | ((with_reducible refine gate_callee (f := 14) rfl ?_); refine goesL_ (some 45) rfl rfl Try.func14 (by kernel_rfl) rfl #[.slice A0 l0.length c0, .agg #[.int .i64 ((rd_T38 t170 x9_2).f0), .int .i64 ((rd_T38 t170 x9_2).f1), .int .i64 ((rd_T38 t170 x9_2).f2), .int .i64 ((rd_T38 t170 x9_2).f3), .int .i64 ((rd_T38 t170 x9_2).f4)]] rfl (by (try simp only [List.map_toArray, List.map_cons, List.map_nil]); first | done | rfl | (simp only [List.length_drop, List.length_take]; rfl)) ?_; (with_reducible refine (edges_Holds.calls _ _ l0 ((rd_T38 t170 x9_2).f0) ((rd_T38 t170 x9_2).f1) ((rd_T38 t170 x9_2).f2) ((rd_T38 t170 x9_2).f3) ((rd_T38 t170 x9_2).f4) true _ ?side1 ?side2 A18.out).mono ?_); (case side1 => repeat (first | exact (Kd.C_below HR0.out HB.out) | (with_reducible refine Kd.C_alloc ?_ _) | (with_reducible refine Kd.C_drewN ?_ _) | (with_reducible refine Kd.C_drew ?_))); (case side2 => exact HC0.out); rintro e w21 ⟨rfl, hb⟩; refine ⟨_, rfl, ?_⟩; have n0_ := Aside0.mk (Kd.R_below (by (with_reducible repeat (first | apply Kd.R_alloc | apply Kd.R_drewN | apply Kd.R_drew)); exact HO_8.out) hb); have n1_ := Aside0.mk (below_step (by repeat (first | (with_reducible first | exact HB.out | apply below_alloc | apply pw_below_drewN | apply below_drew1) | exact HB.out)) hb); clear HO_8; clear HB; have HO_8 := n0_; have HB := n1_; clear n0_ n1_; (try clear hb); (try clear hb2); (try clear hk); (try clear hi)))
                  go_roundg k2
                  case measure => have := HJ5.out; have := HK2.out; omega
                  case rel => exact ⟨(wrap64 (x9_2 + 1)), (by first | rfl | (simp; done) | (simp [*]; done)), H', ⟨by have := HJ5.out; have := HK2.out; omega⟩, ⟨by (with_reducible repeat (first | apply Kd.R_alloc | apply Kd.R_drewN | apply Kd.R_drew)); exact HO_8.out⟩, ⟨by repeat (first | (with_reducible first | exact HB.out | apply below_alloc | apply pw_below_drewN | apply below_drew1) | exact HB.out)⟩⟩
                · replace c19 := Bool.eq_false_iff.mpr c19
                  subst c19
                  have H1 : (some false) = some r := by rw [if_neg (show ¬ (false = true) by decide)] at H; exact H
                  clear H
                  have H := H1
                  clear H1
                  obtain rfl := Option.some.inj H
                  obtain ⟨Ao22, co22, eo22⟩ := Kd.R_slice HO_8.out
                  subst eo22
                  have p173 : 0 ≤ (x9_2 : Int) := of_decide_eq_true (by first | (with_reducible assumption) | assumption)
                  have q173 : x9_2 < (t170.length : Int) := of_decide_eq_true (by first | (with_reducible assumption) | assumption)
                  obtain ⟨ad173, e173, hx173_0, hx173_1, hx173_2, hx173_3, hx173_4⟩ := at_T38 (Kd.R_reads' HO_8.out).2.2 x9_2 p173 q173
                  cases e173
                  replace p173 := eq_true p173
                  replace q173 := eq_true q173
                  go_wp2_with (first | ((with_reducible refine gate_callee (f := 14) rfl ?_); refine goesL_ (some 45) rfl rfl Try.func14 (by kernel_rfl) rfl #[.slice A0 l0.length c0, .agg #[.int .i64 ((rd_T38 t170 x9_2).f0), .int .i64 ((rd_T38 t170 x9_2).f1), .int .i64 ((rd_T38 t170 x9_2).f2), .int .i64 ((rd_T38 t170 x9_2).f3), .int .i64 ((rd_T38 t170 x9_2).f4)]] rfl (by (try simp only [List.map_toArray, List.map_cons, List.map_nil]); first | done | rfl | (simp only [List.length_drop, List.length_take]; rfl)) ?_; (with_reducible refine (edges_Holds.calls _ _ l0 ((rd_T38 t170 x9_2).f0) ((rd_T38 t170 x9_2).f1) ((rd_T38 t170 x9_2).f2) ((rd_T38 t170 x9_2).f3) ((rd_T38 t170 x9_2).f4) false _ ?side1 ?side2 A18.out).mono ?_); (case side1 => repeat (first | exact (Kd.C_below HR0.out HB.out) | (with_reducible refine Kd.C_alloc ?_ _) | (with_reducible refine Kd.C_drewN ?_ _) | (with_reducible refine Kd.C_drew ?_))); (case side2 => exact HC0.out); rintro e w23 ⟨rfl, hb⟩; refine ⟨_, rfl, ?_⟩; have n0_ := Aside0.mk (Kd.R_below (by (with_reducible repeat (first | apply Kd.R_alloc | apply Kd.R_drewN | apply Kd.R_drew)); exact HO_8.out) hb); have n1_ := Aside0.mk (below_step (by repeat (first | (with_reducible first | exact HB.out | apply below_alloc | apply pw_below_drewN | apply below_drew1) | exact HB.out)) hb); clear HO_8; clear HB; have HO_8 := n0_; have HB := n1_; clear n0_ n1_; (try clear hb); (try clear hb2); (try clear hk); (try clear hi)))
                  go_ret
                  exact ⟨by first | rfl | (simp [errW_none, errW_some] <;> rfl) | (simp [*, errW_none, errW_some] <;> rfl), by repeat (first | (with_reducible first | exact HB.out | apply below_alloc | apply pw_below_drewN | apply below_drew1) | exact HB.out)⟩
              · rw [if_neg c17] at H
                exact absurd H (by simp)
            · rw [if_neg c16] at H
              have c16b0 : decide (x9_2 < (t170.length : Int)) = false := decide_eq_false c16
              clear c16
              obtain rfl := Option.some.inj H
              obtain ⟨Ao24, co24, eo24⟩ := Kd.R_slice HO_8.out
              subst eo24
              go_wp2
              go_ret
              exact ⟨by first | rfl | (simp [errW_none, errW_some] <;> rfl) | (simp [*, errW_none, errW_some] <;> rfl), by repeat (first | (with_reducible first | exact HB.out | apply below_alloc | apply pw_below_drewN | apply below_drew1) | exact HB.out)⟩

end Go.Proofs.YtebjiimlcnmfpaaPr
