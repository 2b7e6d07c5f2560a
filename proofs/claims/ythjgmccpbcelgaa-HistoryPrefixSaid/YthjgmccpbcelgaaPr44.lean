/- Contracts of Go functions, printed by a program of this session over the translation: each call answers what its Lean function says. -/
import Derived.Test.YthjgmccpbcelgaaPr0
import Derived.Test.YthjgmccpbcelgaaPr39
import Derived.Test.YthjgmccpbcelgaaPr40
import Derived.Test.YthjgmccpbcelgaaB1
namespace Go.Proofs.YthjgmccpbcelgaaPr
open Go.RowKit Go.Proofs.YthjgmccpbcelgaaW.PrintWords Go.Proofs.YthjgmccpbcelgaaW.PrintLast Go.Proofs.YthjgmccpbcelgaaW.PrintMore
attribute [local go_sem] max2_int min2_int max_two min_two max_three min_three max_four min_four   -- for this text's walks alone
set_option linter.unusedVariables false
set_option linter.unusedSimpArgs false

/-! ### cartouchelaw08_HistoryPrefix: function 18 -/
mutual
def cartouchelaw08_HistoryPrefix.j0 : Nat → List (S31) → Int → Bool → Bool → Option (Bool)
  | 0, _, _, _, _ => none
  | k + 1, x0, x1, x5, x32 => if x32 = true then (some x5) else (cartouchelaw08_HistoryPrefix.l0 k x0 x1 x5 ([] : List (S31)) 0)
def cartouchelaw08_HistoryPrefix.l0 : Nat → List (S31) → Int → Bool → List (S31) → Int → Option (Bool)
  | 0, _, _, _, _, _ => none
  | k + 1, x0, x1, x5, x7, x8 => if x8 < (x0.length : Int) then (if 0 ≤ x8 then (if ((rd_T31 x0 x8).f0) = 2 then (cartouchelaw08_HistoryPrefix.l0 k x0 x1 x5 x7 (wrap64 (x8 + 1))) else (if x7.length < 2932031007402 then (cartouchelaw08_HistoryPrefix.l0 k x0 x1 x5 (x7 ++ [(⟨(rd_T31 x0 x8).f0, (rd_T31 x0 x8).f1, (rd_T31 x0 x8).f2, (rd_T31 x0 x8).f3⟩ : S31)]) (wrap64 (x8 + 1))) else (none))) else (none)) else (if x1 > (x7.length : Int) then (cartouchelaw08_HistoryPrefix.j2 k (x7.length : Int) x5 x7) else (cartouchelaw08_HistoryPrefix.j2 k x1 x5 x7))
def cartouchelaw08_HistoryPrefix.j2 : Nat → Int → Bool → List (S31) → Option (Bool)
  | 0, _, _, _ => none
  | k + 1, x1, x5, x7 => (history_Formed.f x7).bind fun bt566 => (if 0 ≤ x1 then (if x1 ≤ (x7.length : Int) then ((history_Formed.f (x7.take (x1 : Int).toNat)).bind fun bt572 => (if bt566.1 < x1 then (if bt566.2 = 0 then (if x5 = true then (if bt572.1 = x1 then (if bt572.2 = 0 then (some true) else (some (bt572.2 == 9))) else (some false)) else (some false)) else (if x5 = true then (if bt572.1 = bt566.1 then (some (bt572.2 == bt566.2)) else (some false)) else (some false))) else (if x5 = true then (if bt572.1 = x1 then (if bt572.2 = 0 then (some true) else (some (bt572.2 == 9))) else (some false)) else (some false)))) else (none)) else (none))
end
def cartouchelaw08_HistoryPrefix.f (k : Nat) (l0 : List (S31)) (a1 : Int) : Option (Bool) := (cartouchelaw08_shown.f).bind fun t559 => ((cartouchelaw08_few.f l0).bind fun t560 => (if t560 = true then (if a1 < 0 then (cartouchelaw08_HistoryPrefix.j0 k l0 a1 t559 true) else (if a1 > (l0.length : Int) then (cartouchelaw08_HistoryPrefix.j0 k l0 a1 t559 true) else (cartouchelaw08_HistoryPrefix.j0 k l0 a1 t559 (decide ((l0.length : Int) > 256))))) else (cartouchelaw08_HistoryPrefix.j0 k l0 a1 t559 true)))
theorem cartouchelaw08_HistoryPrefix.mono_l : ∀ k, (∀ y0 y1 y2 y3, LeO (cartouchelaw08_HistoryPrefix.j0 k y0 y1 y2 y3) (cartouchelaw08_HistoryPrefix.j0 (k + 1) y0 y1 y2 y3)) ∧ (∀ y0 y1 y2 y3 y4, LeO (cartouchelaw08_HistoryPrefix.l0 k y0 y1 y2 y3 y4) (cartouchelaw08_HistoryPrefix.l0 (k + 1) y0 y1 y2 y3 y4)) ∧ (∀ y0 y1 y2, LeO (cartouchelaw08_HistoryPrefix.j2 k y0 y1 y2) (cartouchelaw08_HistoryPrefix.j2 (k + 1) y0 y1 y2))
  | 0 => ⟨fun _ _ _ _ r h => by simp [cartouchelaw08_HistoryPrefix.j0] at h, fun _ _ _ _ _ r h => by simp [cartouchelaw08_HistoryPrefix.l0] at h, fun _ _ _ r h => by simp [cartouchelaw08_HistoryPrefix.j2] at h⟩
  | k + 1 => by
    obtain ⟨ih0, ih1, ih2⟩ := cartouchelaw08_HistoryPrefix.mono_l k
    refine ⟨?_, ?_, ?_⟩
    · intro y0 y1 y2 y3
      unfold cartouchelaw08_HistoryPrefix.j0
      repeat' first
      | (with_reducible exact ih0 _ _ _ _)
      | (with_reducible exact ih1 _ _ _ _ _)
      | (with_reducible exact ih2 _ _ _)
      | (with_reducible exact LeO.refl _)
      | (with_reducible exact LeO.none _)
      | (with_reducible refine LeO.ite ?_ ?_)
      | (with_reducible refine LeO.bind ?_ (fun _ => ?_))
      | exact ih0 _ _ _ _
      | exact ih1 _ _ _ _ _
      | exact ih2 _ _ _
      | exact LeO.none _
      | refine LeO.ite ?_ ?_
      | refine LeO.bind ?_ (fun _ => ?_)
    · intro y0 y1 y2 y3 y4
      unfold cartouchelaw08_HistoryPrefix.l0
      repeat' first
      | (with_reducible exact ih0 _ _ _ _)
      | (with_reducible exact ih1 _ _ _ _ _)
      | (with_reducible exact ih2 _ _ _)
      | (with_reducible exact LeO.refl _)
      | (with_reducible exact LeO.none _)
      | (with_reducible refine LeO.ite ?_ ?_)
      | (with_reducible refine LeO.bind ?_ (fun _ => ?_))
      | exact ih0 _ _ _ _
      | exact ih1 _ _ _ _ _
      | exact ih2 _ _ _
      | exact LeO.none _
      | refine LeO.ite ?_ ?_
      | refine LeO.bind ?_ (fun _ => ?_)
    · intro y0 y1 y2
      unfold cartouchelaw08_HistoryPrefix.j2
      repeat' first
      | (with_reducible exact ih0 _ _ _ _)
      | (with_reducible exact ih1 _ _ _ _ _)
      | (with_reducible exact ih2 _ _ _)
      | (with_reducible exact LeO.refl _)
      | (with_reducible exact LeO.none _)
      | (with_reducible refine LeO.ite ?_ ?_)
      | (with_reducible refine LeO.bind ?_ (fun _ => ?_))
      | exact ih0 _ _ _ _
      | exact ih1 _ _ _ _ _
      | exact ih2 _ _ _
      | exact LeO.none _
      | refine LeO.ite ?_ ?_
      | refine LeO.bind ?_ (fun _ => ?_)
theorem cartouchelaw08_HistoryPrefix.mono : ∀ a0 a1 k, LeO (cartouchelaw08_HistoryPrefix.f k a0 a1) (cartouchelaw08_HistoryPrefix.f (k + 1) a0 a1) := by
  intro a0 a1 k
  obtain ⟨ih0, ih1, ih2⟩ := cartouchelaw08_HistoryPrefix.mono_l k
  unfold cartouchelaw08_HistoryPrefix.f
  repeat' first
      | (with_reducible exact ih0 _ _ _ _)
      | (with_reducible exact ih1 _ _ _ _ _)
      | (with_reducible exact ih2 _ _ _)
      | (with_reducible exact LeO.refl _)
      | (with_reducible exact LeO.none _)
      | (with_reducible refine LeO.ite ?_ ?_)
      | (with_reducible refine LeO.bind ?_ (fun _ => ?_))
      | exact ih0 _ _ _ _
      | exact ih1 _ _ _ _ _
      | exact ih2 _ _ _
      | exact LeO.none _
      | refine LeO.ite ?_ ?_
      | refine LeO.bind ?_ (fun _ => ?_)
set_option maxHeartbeats 8000000 in
set_option maxRecDepth 100000 in
theorem cartouchelaw08_HistoryPrefix.calls (k : Nat) (A0 : Option Addr) (c0 : Nat) (l0 : List (S31)) (a1 : Int) (r : Bool) (w : World) (hr0 : Kd.C k31 w A0 l0.length l0) (hc0 : l0.length ≤ c0) (h : cartouchelaw08_HistoryPrefix.f k l0 a1 = some r) :
    Calls Try.prog 18 #[.slice A0 l0.length c0, .int .i64 a1] w fun e w' => e = .returned (.bool r) ∧ Below w.heap.size w w' := by
  have hu31 := Try.underlying31
  have HR0 := Aside0.mk hr0
  have HC0 := Aside0.mk hc0
  clear hr0 hc0
  have HB := Aside0.mk (Below.refl w.heap.size w)
  have H : ((cartouchelaw08_shown.f).bind fun t559 => ((cartouchelaw08_few.f l0).bind fun t560 => (if t560 = true then (if a1 < 0 then (cartouchelaw08_HistoryPrefix.j0 k l0 a1 t559 true) else (if a1 > (l0.length : Int) then (cartouchelaw08_HistoryPrefix.j0 k l0 a1 t559 true) else (cartouchelaw08_HistoryPrefix.j0 k l0 a1 t559 (decide ((l0.length : Int) > 256))))) else (cartouchelaw08_HistoryPrefix.j0 k l0 a1 t559 true)))) = some r := h
  clear h
  replace H := Option.bind_eq_some_iff.mp H
  obtain ⟨t559, A30, H⟩ := H
  replace H : ((cartouchelaw08_few.f l0).bind fun t560 => (if t560 = true then (if a1 < 0 then (cartouchelaw08_HistoryPrefix.j0 k l0 a1 t559 true) else (if a1 > (l0.length : Int) then (cartouchelaw08_HistoryPrefix.j0 k l0 a1 t559 true) else (cartouchelaw08_HistoryPrefix.j0 k l0 a1 t559 (decide ((l0.length : Int) > 256))))) else (cartouchelaw08_HistoryPrefix.j0 k l0 a1 t559 true))) = some r := H
  have A3 := Aside0.mk A30
  clear A30
  replace H := Option.bind_eq_some_iff.mp H
  obtain ⟨t560, A40, H⟩ := H
  replace H : (if t560 = true then (if a1 < 0 then (cartouchelaw08_HistoryPrefix.j0 k l0 a1 t559 true) else (if a1 > (l0.length : Int) then (cartouchelaw08_HistoryPrefix.j0 k l0 a1 t559 true) else (cartouchelaw08_HistoryPrefix.j0 k l0 a1 t559 (decide ((l0.length : Int) > 256))))) else (cartouchelaw08_HistoryPrefix.j0 k l0 a1 t559 true)) = some r := H
  have A4 := Aside0.mk A40
  clear A40
  have HC5 := Aside0.mk H
  clear H
  go_enter Try.func18, Try.ntmps18
  go_upto_region 3 with (first | ((with_reducible refine gate_callee (f := 56) rfl ?_); refine goesL_ (some 13) rfl rfl Try.func56 (by kernel_rfl) rfl #[] rfl (by (try simp only [List.map_toArray, List.map_cons, List.map_nil]); first | done | rfl | (simp only [List.length_drop, List.length_take]; rfl)) ?_; (with_reducible refine (cartouchelaw08_shown.calls  t559 _ A3.out).mono ?_); rintro e w6 ⟨rfl, hb⟩; refine ⟨_, rfl, ?_⟩; have n0_ := Aside0.mk (below_step (by repeat (first | (with_reducible first | exact HB.out | apply below_alloc | apply pw_below_drewN | apply below_drew1) | exact HB.out)) hb); clear HB; have HB := n0_; clear n0_; (try clear hb); (try clear hb2); (try clear hk); (try clear hi)) | ((with_reducible refine gate_callee (f := 57) rfl ?_); refine goesL_ (some 15) rfl rfl Try.func57 (by kernel_rfl) rfl #[.slice A0 l0.length c0] rfl (by (try simp only [List.map_toArray, List.map_cons, List.map_nil]); first | done | rfl | (simp only [List.length_drop, List.length_take]; rfl)) ?_; (with_reducible refine (cartouchelaw08_few.calls _ _ l0 t560 _ ?side1 ?side2 A4.out).mono ?_); (case side1 => repeat (first | exact (Kd.C_below HR0.out HB.out) | (with_reducible refine Kd.C_alloc ?_ _) | (with_reducible refine Kd.C_drewN ?_ _) | (with_reducible refine Kd.C_drew ?_))); (case side2 => exact HC0.out); rintro e w' ⟨rfl, ⟨nd, rfl⟩⟩; refine ⟨_, rfl, ?_⟩))
  (try simp only [Act.put, List.setIfInBounds_toArray, List.set_cons_zero, List.set_cons_succ])
  go_cut [32] (fun v32 wc => ∃ (kq : Nat) (x32_4 : Bool), v32 = .bool x32_4 ∧ Aside0 (cartouchelaw08_HistoryPrefix.j0 kq l0 a1 t559 x32_4 = some r) ∧ Aside0 (kq ≤ k) ∧ Aside0 (Below w.heap.size w wc))
  case first =>
    have H := HC5.out
    clear HC5
    by_cases c7 : t560 = true
    · subst c7
      have H1 : (if a1 < 0 then (cartouchelaw08_HistoryPrefix.j0 k l0 a1 t559 true) else (if a1 > (l0.length : Int) then (cartouchelaw08_HistoryPrefix.j0 k l0 a1 t559 true) else (cartouchelaw08_HistoryPrefix.j0 k l0 a1 t559 (decide ((l0.length : Int) > 256))))) = some r := by rw [if_pos rfl] at H; exact H
      clear H
      have H := H1
      clear H1
      by_cases c8 : a1 < 0
      · rw [if_pos c8] at H
        have c8b0 : decide (a1 < 0) = true := decide_eq_true c8
        clear c8
        (first | rw [c8b0] | (simp only [i64_w, i32_w]; rw [c8b0]) | skip)
        have H' := Aside0.mk H
        clear H
        go_wp2
        go_meet
        case rel => exact ⟨_, (true), (by first | rfl | (simp; done) | (simp [*]; done)), H', ⟨by first | omega | exact Nat.le_refl _⟩, ⟨by repeat (first | (with_reducible first | exact HB.out | apply below_alloc | apply pw_below_drewN | apply below_drew1) | exact HB.out)⟩⟩
      · rw [if_neg c8] at H
        have c8b0 : decide (a1 < 0) = false := decide_eq_false c8
        clear c8
        (first | rw [c8b0] | (simp only [i64_w, i32_w]; rw [c8b0]) | skip)
        by_cases c9 : a1 > (l0.length : Int)
        · rw [if_pos c9] at H
          have c9b0 : decide ((l0.length : Int) < a1) = true := decide_eq_true c9
          clear c9
          have H' := Aside0.mk H
          clear H
          go_wp2
          go_meet
          case rel => exact ⟨_, (true), (by first | rfl | (simp; done) | (simp [*]; done)), H', ⟨by first | omega | exact Nat.le_refl _⟩, ⟨by repeat (first | (with_reducible first | exact HB.out | apply below_alloc | apply pw_below_drewN | apply below_drew1) | exact HB.out)⟩⟩
        · rw [if_neg c9] at H
          have c9b0 : decide ((l0.length : Int) < a1) = false := decide_eq_false c9
          clear c9
          have H' := Aside0.mk H
          clear H
          go_wp2
          go_meet
          case rel => exact ⟨_, (decide ((l0.length : Int) > 256)), (by first | rfl | (simp; done) | (simp [*]; done)), H', ⟨by first | omega | exact Nat.le_refl _⟩, ⟨by repeat (first | (with_reducible first | exact HB.out | apply below_alloc | apply pw_below_drewN | apply below_drew1) | exact HB.out)⟩⟩
    · replace c7 := Bool.eq_false_iff.mpr c7
      subst c7
      have H1 : (cartouchelaw08_HistoryPrefix.j0 k l0 a1 t559 true) = some r := by rw [if_neg (show ¬ (false = true) by decide)] at H; exact H
      clear H
      have H := H1
      clear H1
      have H' := Aside0.mk H
      clear H
      go_wp2
      go_meet
      case rel => exact ⟨_, (true), (by first | rfl | (simp; done) | (simp [*]; done)), H', ⟨by first | omega | exact Nat.le_refl _⟩, ⟨by repeat (first | (with_reducible first | exact HB.out | apply below_alloc | apply pw_below_drewN | apply below_drew1) | exact HB.out)⟩⟩
  case rest =>
    clear HC5
    try clear c1
    try clear p2
    try clear c5
    try clear c7
    try clear c8
    try clear c8b0
    try clear c9
    try clear c9b0
    obtain ⟨kq, x32_4, rfl, HA, HJ4, HB⟩ := hcut
    cases kq with
    | zero => exact absurd HA.out (by simp [cartouchelaw08_HistoryPrefix.j0])
    | succ kj4 =>
      have H := HA.out
      clear HA
      simp only [cartouchelaw08_HistoryPrefix.j0] at H
      by_cases c10 : x32_4 = true
      · subst c10
        have H1 : (some t559) = some r := by rw [if_pos rfl] at H; exact H
        clear H
        have H := H1
        clear H1
        obtain rfl := Option.some.inj H
        go_wp2
        go_ret
        exact ⟨by first | rfl | (simp [errW_none, errW_some] <;> rfl) | (simp [*, errW_none, errW_some] <;> rfl), by repeat (first | (with_reducible first | exact HB.out | apply below_alloc | apply pw_below_drewN | apply below_drew1) | exact HB.out)⟩
      · replace c10 := Bool.eq_false_iff.mpr c10
        subst c10
        have H1 : (cartouchelaw08_HistoryPrefix.l0 kj4 l0 a1 t559 ([] : List (S31)) 0) = some r := by rw [if_neg (show ¬ (false = true) by decide)] at H; exact H
        clear H
        have H := H1
        clear H1
        have H' := Aside0.mk H
        clear H
        go_wp2
        go_loopg [7, 8] kj4 (fun kq v7 v8 w' => ∃ (x7_2 : List (S31)) (x8_2 : Int), v8 = .int .i64 x8_2 ∧ Aside0 (cartouchelaw08_HistoryPrefix.l0 kq l0 a1 t559 x7_2 x8_2 = some r) ∧ Aside0 (kq ≤ kj4) ∧ Aside0 (Kd.R k31 31 w' w.heap.size (fun _ => True) v7 x7_2) ∧ Aside0 (Below w.heap.size w w'))
        case atStart => exact ⟨(([] : List (S31))), (0), (by first | rfl | (simp; done) | (simp [*]; done)), H', ⟨Nat.le_refl _⟩, ⟨by first | exact Kd.R_nil _ _ _ _ _ | exact Kd.N_nil _ _ _ _ _ | exact Kd.V_nil _ _ _ _ _ | exact Kd.Q_nil _ _ _ _ _ | exact Kd.S_nil _ _ _ _ _⟩, ⟨by repeat (first | (with_reducible first | exact HB.out | apply below_alloc | apply pw_below_drewN | apply below_drew1) | exact HB.out)⟩⟩
        case round =>
          clear H'
          try clear c1
          try clear p2
          try clear c5
          try clear c7
          try clear c8
          try clear c8b0
          try clear c9
          try clear c9b0
          try clear c10
          try clear p2
          obtain ⟨x7_2, x8_2, rfl, HA, HK2, HO_7, HB⟩ := hrel
          cases gk with
          | zero => exact absurd HA.out (by simp [cartouchelaw08_HistoryPrefix.l0])
          | succ k2 =>
            have H := HA.out
            clear HA
            simp only [cartouchelaw08_HistoryPrefix.l0] at H
            by_cases c11 : x8_2 < (l0.length : Int)
            · rw [if_pos c11] at H
              have c11b0 : decide (x8_2 < (l0.length : Int)) = true := decide_eq_true c11
              clear c11
              by_cases c12 : 0 ≤ x8_2
              · rw [if_pos c12] at H
                have c12b0 : decide (0 ≤ x8_2) = true := decide_eq_true c12
                clear c12
                by_cases c13 : ((rd_T31 l0 x8_2).f0) = 2
                · rw [if_pos c13] at H
                  have c13b0 : (((rd_T31 l0 x8_2).f0) == 2) = true := beq_iff_eq.mpr c13
                  have c13b1 : (((rd_T31 l0 x8_2).f0) != 2) = false := bne_eq_false_iff_eq.mpr c13
                  clear c13
                  have H' := Aside0.mk H
                  clear H
                  have p561 : 0 ≤ (x8_2 : Int) := of_decide_eq_true (by first | (with_reducible assumption) | assumption)
                  have q561 : x8_2 < (l0.length : Int) := of_decide_eq_true (by first | (with_reducible assumption) | assumption)
                  obtain ⟨ad561, e561, hx561_0, hx561_1, hx561_2, hx561_3⟩ := at_T31 HR0.out x8_2 p561 q561
                  cases e561
                  replace hx561_0 := (HB.out.cell (World.block_lt_of_cell? w _ hx561_0)).trans hx561_0
                  replace hx561_1 := (HB.out.cell (World.block_lt_of_cell? w _ hx561_1)).trans hx561_1
                  replace hx561_2 := (HB.out.cell (World.block_lt_of_cell? w _ hx561_2)).trans hx561_2
                  replace hx561_3 := (HB.out.cell (World.block_lt_of_cell? w _ hx561_3)).trans hx561_3
                  replace p561 := eq_true p561
                  replace q561 := eq_true q561
                  go_wp2
                  go_roundg k2
                  case measure => have := HJ4.out; have := HK2.out; omega
                  case rel => exact ⟨(x7_2), (wrap64 (x8_2 + 1)), (by first | rfl | (simp; done) | (simp [*]; done)), H', ⟨by have := HJ4.out; have := HK2.out; omega⟩, ⟨by (with_reducible repeat (first | apply Kd.R_alloc | apply Kd.R_drewN | apply Kd.R_drew)); exact HO_7.out⟩, ⟨by repeat (first | (with_reducible first | exact HB.out | apply below_alloc | apply pw_below_drewN | apply below_drew1) | exact HB.out)⟩⟩
                · rw [if_neg c13] at H
                  have c13b0 : (((rd_T31 l0 x8_2).f0) == 2) = false := beq_eq_false_iff_ne.mpr c13
                  have c13b1 : (((rd_T31 l0 x8_2).f0) != 2) = true := bne_iff_ne.mpr c13
                  by_cases c14 : x7_2.length < 2932031007402
                  · rw [if_pos c14] at H
                    have LMc14 := Aside0.mk c14
                    clear c14
                    obtain ⟨y563, hy563⟩ : ∃ y_ : List (S31), y_ = (x7_2 ++ [(⟨(rd_T31 l0 x8_2).f0, (rd_T31 l0 x8_2).f1, (rd_T31 l0 x8_2).f2, (rd_T31 l0 x8_2).f3⟩ : S31)]) := ⟨_, rfl⟩
                    replace H : (cartouchelaw08_HistoryPrefix.l0 k2 l0 a1 t559 y563 (wrap64 (x8_2 + 1))) = some r := by first | (rw [hy563]; with_reducible exact H) | (have H2_ := (Option.bind_some _ _).symm.trans H; rw [hy563]; with_reducible exact H2_) | (have H2_ := (Option.bind_some _ _).symm.trans H; with_reducible exact H2_) | with_reducible exact H | (rw [hy563]; exact H) | exact H
                    have Ny563 := Aside0.mk hy563
                    clear hy563
                    have H' := Aside0.mk H
                    clear H
                    have p561 : 0 ≤ (x8_2 : Int) := of_decide_eq_true (by first | (with_reducible assumption) | assumption)
                    have q561 : x8_2 < (l0.length : Int) := of_decide_eq_true (by first | (with_reducible assumption) | assumption)
                    obtain ⟨ad561, e561, hx561_0, hx561_1, hx561_2, hx561_3⟩ := at_T31 HR0.out x8_2 p561 q561
                    cases e561
                    replace hx561_0 := (HB.out.cell (World.block_lt_of_cell? w _ hx561_0)).trans hx561_0
                    replace hx561_1 := (HB.out.cell (World.block_lt_of_cell? w _ hx561_1)).trans hx561_1
                    replace hx561_2 := (HB.out.cell (World.block_lt_of_cell? w _ hx561_2)).trans hx561_2
                    replace hx561_3 := (HB.out.cell (World.block_lt_of_cell? w _ hx561_3)).trans hx561_3
                    replace p561 := eq_true p561
                    replace q561 := eq_true q561
                    have p562 : 0 ≤ (x8_2 : Int) := of_decide_eq_true (by first | (with_reducible assumption) | assumption)
                    have q562 : x8_2 < (l0.length : Int) := of_decide_eq_true (by first | (with_reducible assumption) | assumption)
                    obtain ⟨ad562, e562, hx562_0, hx562_1, hx562_2, hx562_3⟩ := at_T31 HR0.out x8_2 p562 q562
                    obtain rfl : ad561 = ad562 := (by injection e562)
                    replace hx562_0 := (HB.out.cell (World.block_lt_of_cell? w _ hx562_0)).trans hx562_0
                    replace hx562_1 := (HB.out.cell (World.block_lt_of_cell? w _ hx562_1)).trans hx562_1
                    replace hx562_2 := (HB.out.cell (World.block_lt_of_cell? w _ hx562_2)).trans hx562_2
                    replace hx562_3 := (HB.out.cell (World.block_lt_of_cell? w _ hx562_3)).trans hx562_3
                    replace p562 := eq_true p562
                    replace q562 := eq_true q562
                    go_wp2_with (first | ((with_reducible refine gate_builtin (b := .append) (xs := #[.tmp 46, .tmp 51]) rfl ?_); (try (refine gate_guard (by rfl) ?_; dsimp only)); at_builtin; refine Kd.R_append k31 (w0 := w) w.heap.size rfl (.tmp 46) (.tmp 51) 22 31 (.agg #[(.int .i64 0), (.int .i64 0), (.string ⟨#[]⟩), (.string ⟨#[]⟩)]) 48 rfl Try.underlying22 info31 rfl (by decide) (by omega) u7 x7_2 (⟨(rd_T31 l0 x8_2).f0, (rd_T31 l0 x8_2).f1, (rd_T31 l0 x8_2).f2, (rd_T31 l0 x8_2).f3⟩ : S31) [.int .i64 ((rd_T31 l0 x8_2).f0), .int .i64 ((rd_T31 l0 x8_2).f1), .string ((rd_T31 l0 x8_2).f2), .string ((rd_T31 l0 x8_2).f3)] (fun _ => True) (fun _ => False) rfl rfl ?aP (fun _ hk => hk.elim) ?aF ?aO ?aB ?aS ?aL ?_; (case aP => exact k31_mkM _ _ _ (⟨(rd_T31 l0 x8_2).f0, (rd_T31 l0 x8_2).f1, (rd_T31 l0 x8_2).f2, (rd_T31 l0 x8_2).f3⟩ : S31)); (case aB => exact (by repeat (first | (with_reducible first | exact HB.out | apply below_alloc | apply pw_below_drewN | apply below_drew1) | exact HB.out))); (case aF => exact (fun _ _ => trivial)); (case aO => exact (by (with_reducible repeat (first | apply Kd.R_alloc | apply Kd.R_drewN | apply Kd.R_drew)); exact HO_7.out)); (case aS => exact (below_size (by repeat (first | (with_reducible first | exact HB.out | apply below_alloc | apply pw_below_drewN | apply below_drew1) | exact HB.out)))); (case aL => have := LMc14.out; omega); intro v564 w15 ho hb hg hat; rw [← Ny563.out] at ho; have n0_ := Aside0.mk (hb); have n1_ := Aside0.mk (ho); clear HB; clear HO_7; have HB := n0_; have HO565 := n1_; clear n0_ n1_; clear ho hb hg hat))
                    go_roundg k2
                    case measure => have := HJ4.out; have := HK2.out; omega
                    case rel => exact ⟨(y563), (wrap64 (x8_2 + 1)), (by first | rfl | (simp; done) | (simp [*]; done)), H', ⟨by have := HJ4.out; have := HK2.out; omega⟩, ⟨by (with_reducible repeat (first | apply Kd.R_alloc | apply Kd.R_drewN | apply Kd.R_drew)); exact HO565.out⟩, ⟨by repeat (first | (with_reducible first | exact HB.out | apply below_alloc | apply pw_below_drewN | apply below_drew1) | exact HB.out)⟩⟩
                  · rw [if_neg c14] at H
                    exact absurd H (by simp)
              · rw [if_neg c12] at H
                exact absurd H (by simp)
            · rw [if_neg c11] at H
              have c11b0 : decide (x8_2 < (l0.length : Int)) = false := decide_eq_false c11
              clear c11
              have HC16 := Aside0.mk H
              clear H
              obtain ⟨Ao17, co17, eo17⟩ := Kd.R_slice HO_7.out
              subst eo17
              go_upto_if 56 with (fail)
              go_cut [1] (fun v1 wc => ∃ (kq : Nat) (x1_15 : Int), v1 = .int .i64 x1_15 ∧ Aside0 (cartouchelaw08_HistoryPrefix.j2 kq x1_15 t559 x7_2 = some r) ∧ Aside0 (kq ≤ k2) ∧ Aside0 (Kd.R k31 31 wc w.heap.size (fun _ => True) (.slice Ao17 x7_2.length co17) x7_2) ∧ Aside0 (Below w.heap.size w wc))
              case first =>
                have H := HC16.out
                clear HC16
                by_cases c18 : a1 > (x7_2.length : Int)
                · rw [if_pos c18] at H
                  have c18b0 : decide ((x7_2.length : Int) < a1) = true := decide_eq_true c18
                  clear c18
                  (first | rw [c18b0] | (simp only [i64_w, i32_w]; rw [c18b0]) | skip)
                  have H' := Aside0.mk H
                  clear H
                  go_wp2
                  go_meet
                  case rel => exact ⟨_, ((x7_2.length : Int)), (by first | rfl | (simp; done) | (simp [*]; done)), H', ⟨by have := HJ4.out; have := HK2.out; first | omega | exact Nat.le_refl _⟩, ⟨by (with_reducible repeat (first | apply Kd.R_alloc | apply Kd.R_drewN | apply Kd.R_drew)); exact HO_7.out⟩, ⟨by repeat (first | (with_reducible first | exact HB.out | apply below_alloc | apply pw_below_drewN | apply below_drew1) | exact HB.out)⟩⟩
                · rw [if_neg c18] at H
                  have c18b0 : decide ((x7_2.length : Int) < a1) = false := decide_eq_false c18
                  clear c18
                  (first | rw [c18b0] | (simp only [i64_w, i32_w]; rw [c18b0]) | skip)
                  have H' := Aside0.mk H
                  clear H
                  go_wp2
                  go_meet
                  case rel => exact ⟨_, (a1), (by first | rfl | (simp; done) | (simp [*]; done)), H', ⟨by have := HJ4.out; have := HK2.out; first | omega | exact Nat.le_refl _⟩, ⟨by (with_reducible repeat (first | apply Kd.R_alloc | apply Kd.R_drewN | apply Kd.R_drew)); exact HO_7.out⟩, ⟨by repeat (first | (with_reducible first | exact HB.out | apply below_alloc | apply pw_below_drewN | apply below_drew1) | exact HB.out)⟩⟩
              case rest =>
                clear HC16
                try clear c1
                try clear p2
                try clear c5
                try clear p5
                try clear q5
                try clear hx5
                try clear p6
                try clear c7
                try clear c8
                try clear c8b0
                try clear c9
                try clear c9b0
                try clear c10
                try clear c11
                try clear c11b0
                try clear c12
                try clear c12b0
                try clear c13
                try clear c13b0
                try clear c13b1
                try clear c14
                try clear c18
                try clear c18b0
                try clear hx561_0
                try clear hx561_1
                try clear hx561_2
                try clear hx561_3
                try clear hx562_0
                try clear hx562_1
                try clear hx562_2
                try clear hx562_3
                try clear p2
                try clear p561
                try clear p562
                try clear q561
                try clear q562
                obtain ⟨kq, x1_15, rfl, HA, HJ15, HO_7, HB⟩ := hcut
                cases kq with
                | zero => exact absurd HA.out (by simp [cartouchelaw08_HistoryPrefix.j2])
                | succ kj15 =>
                  have H := HA.out
                  clear HA
                  simp only [cartouchelaw08_HistoryPrefix.j2] at H
                  replace H := Option.bind_eq_some_iff.mp H
                  obtain ⟨⟨t566, t567⟩, A190, H⟩ := H
                  replace H : (if 0 ≤ x1_15 then (if x1_15 ≤ (x7_2.length : Int) then ((history_Formed.f (x7_2.take (x1_15 : Int).toNat)).bind fun bt572 => (if t566 < x1_15 then (if t567 = 0 then (if t559 = true then (if bt572.1 = x1_15 then (if bt572.2 = 0 then (some true) else (some (bt572.2 == 9))) else (some false)) else (some false)) else (if t559 = true then (if bt572.1 = t566 then (some (bt572.2 == t567)) else (some false)) else (some false))) else (if t559 = true then (if bt572.1 = x1_15 then (if bt572.2 = 0 then (some true) else (some (bt572.2 == 9))) else (some false)) else (some false)))) else (none)) else (none)) = some r := H
                  have A19 := Aside0.mk A190
                  clear A190
                  by_cases c20 : 0 ≤ x1_15
                  · rw [if_pos c20] at H
                    have c20b0 := eq_true c20
                    have c20b1 : decide (0 ≤ x1_15) = true := decide_eq_true c20
                    clear c20
                    by_cases c21 : x1_15 ≤ (x7_2.length : Int)
                    · rw [if_pos c21] at H
                      have c21b0 := eq_true c21
                      have c21b1 : decide (x1_15 ≤ (x7_2.length : Int)) = true := decide_eq_true c21
                      clear c21
                      obtain ⟨y568, hy568⟩ : ∃ y_ : List (S31), y_ = (x7_2.take (x1_15 : Int).toNat) := ⟨_, rfl⟩
                      replace H : ((history_Formed.f y568).bind fun bt572 => (if t566 < x1_15 then (if t567 = 0 then (if t559 = true then (if bt572.1 = x1_15 then (if bt572.2 = 0 then (some true) else (some (bt572.2 == 9))) else (some false)) else (some false)) else (if t559 = true then (if bt572.1 = t566 then (some (bt572.2 == t567)) else (some false)) else (some false))) else (if t559 = true then (if bt572.1 = x1_15 then (if bt572.2 = 0 then (some true) else (some (bt572.2 == 9))) else (some false)) else (some false)))) = some r := by first | (rw [hy568]; with_reducible exact H) | (have H2_ := (Option.bind_some _ _).symm.trans H; rw [hy568]; with_reducible exact H2_) | (have H2_ := (Option.bind_some _ _).symm.trans H; with_reducible exact H2_) | with_reducible exact H | (rw [hy568]; exact H) | exact H
                      have Ny568 := Aside0.mk hy568
                      clear hy568
                      replace H := Option.bind_eq_some_iff.mp H
                      obtain ⟨⟨t572, t573⟩, A220, H⟩ := H
                      replace H : (if t566 < x1_15 then (if t567 = 0 then (if t559 = true then (if t572 = x1_15 then (if t573 = 0 then (some true) else (some (t573 == 9))) else (some false)) else (some false)) else (if t559 = true then (if t572 = t566 then (some (t573 == t567)) else (some false)) else (some false))) else (if t559 = true then (if t572 = x1_15 then (if t573 = 0 then (some true) else (some (t573 == 9))) else (some false)) else (some false))) = some r := H
                      have A22 := Aside0.mk A220
                      clear A220
                      by_cases c23 : t566 < x1_15
                      · rw [if_pos c23] at H
                        have c23b0 : decide (t566 < x1_15) = true := decide_eq_true c23
                        clear c23
                        by_cases c24 : t567 = 0
                        · rw [if_pos c24] at H
                          have c24b0 : (t567 == 0) = true := beq_iff_eq.mpr c24
                          have c24b1 : (t567 != 0) = false := bne_eq_false_iff_eq.mpr c24
                          clear c24
                          by_cases c25 : t559 = true
                          · subst c25
                            have H1 : (if t572 = x1_15 then (if t573 = 0 then (some true) else (some (t573 == 9))) else (some false)) = some r := by rw [if_pos rfl] at H; exact H
                            clear H
                            have H := H1
                            clear H1
                            by_cases c26 : t572 = x1_15
                            · rw [if_pos c26] at H
                              have c26b0 : (t572 == x1_15) = true := beq_iff_eq.mpr c26
                              have c26b1 : (t572 != x1_15) = false := bne_eq_false_iff_eq.mpr c26
                              clear c26
                              by_cases c27 : t573 = 0
                              · rw [if_pos c27] at H
                                have c27b0 : (t573 == 0) = true := beq_iff_eq.mpr c27
                                have c27b1 : (t573 != 0) = false := bne_eq_false_iff_eq.mpr c27
                                clear c27
                                obtain rfl := Option.some.inj H
                                go_wp2_with (first | ((with_reducible refine gate_callee (f := 58) rfl ?_); refine goesL_ (some 61) rfl rfl Try.func58 (by kernel_rfl) rfl #[.slice Ao17 x7_2.length co17] rfl (by (try simp only [List.map_toArray, List.map_cons, List.map_nil]); first | done | rfl | (simp only [List.length_drop, List.length_take]; rfl)) ?_; (with_reducible refine (history_Formed.calls _ _ x7_2 t566 t567 _ ?side1 ?side2 A19.out).mono ?_); (case side1 => repeat (first | exact (Kd.R_reads' HO_7.out).2.2 | (with_reducible refine Kd.C_alloc ?_ _) | (with_reducible refine Kd.C_drewN ?_ _) | (with_reducible refine Kd.C_drew ?_))); (case side2 => exact (Kd.R_reads' HO_7.out).2.1); rintro e w28 ⟨rfl, hb⟩; refine ⟨_, rfl, ?_⟩; have n0_ := Aside0.mk (Kd.R_below (by (with_reducible repeat (first | apply Kd.R_alloc | apply Kd.R_drewN | apply Kd.R_drew)); exact HO_7.out) hb); have n1_ := Aside0.mk (below_step (by repeat (first | (with_reducible first | exact HB.out | apply below_alloc | apply pw_below_drewN | apply below_drew1) | exact HB.out)) hb); clear HO_7; clear HB; have HO_7 := n0_; have HB := n1_; clear n0_ n1_; (try clear hb); (try clear hb2); (try clear hk); (try clear hi); have q29 : (x1_15 : Int) ≤ ((x7_2.length : Int) : Int) := of_decide_eq_true (by first | (with_reducible assumption) | assumption); obtain ⟨i029, hi029, _, hsz29, _⟩ := info_parts info31; have hroom29 : x7_2.length ≤ co17 := (Kd.R_reads' HO_7.out).2.1; have hC29 : Kd.C k31 _ Ao17 x7_2.length x7_2 := (Kd.R_reads' HO_7.out).2.2; have hcut29 := cut_to (P := Try.prog) 22 31 .i64 Try.underlying22 hi029 Ao17 x7_2.length co17 x1_15 (of_decide_eq_true (by first | (with_reducible assumption) | assumption)) q29 hroom29; have hr29 := Kd.C_take (m := (x1_15 : Int).toNat) hC29 (by omega); have hy29 : y568.length = (x1_15 : Int).toNat := (by rw [Ny568.out, List.length_take]; omega); rw [← Ny568.out] at hr29; rw [← hy29] at hcut29; have HR571 := Aside0.mk hr29; have HC571 := Aside0.mk (show y568.length ≤ co17 from by omega); clear hr29 hC29 hroom29 hi029 hsz29; have KY29 := Aside0.mk hy29; clear hy29; have KL29 := Aside0.mk (show (x1_15 : Int).toNat ≤ x7_2.length from by omega); replace q29 := eq_true q29) | ((with_reducible refine gate_callee (f := 58) rfl ?_); refine goesL_ (some 68) rfl rfl Try.func58 (by kernel_rfl) rfl #[.slice Ao17 y568.length co17] rfl (by (try simp only [List.map_toArray, List.map_cons, List.map_nil]); first | done | rfl | (simp only [List.length_drop, List.length_take]; rfl)) ?_; (with_reducible refine (history_Formed.calls _ _ y568 t572 t573 _ ?side1 ?side2 A22.out).mono ?_); (case side1 => repeat (first | exact (by repeat (first | (with_reducible exact HR571.out) | (with_reducible refine Kd.C_alloc ?_ _) | (with_reducible refine Kd.C_drewN ?_ _) | (with_reducible refine Kd.C_drew ?_) | exact HR571.out)) | (with_reducible refine Kd.C_alloc ?_ _) | (with_reducible refine Kd.C_drewN ?_ _) | (with_reducible refine Kd.C_drew ?_))); (case side2 => exact HC571.out); rintro e w30 ⟨rfl, hb⟩; refine ⟨_, rfl, ?_⟩; have n0_ := Aside0.mk (Kd.R_below (by (with_reducible repeat (first | apply Kd.R_alloc | apply Kd.R_drewN | apply Kd.R_drew)); exact HO_7.out) hb); have n1_ := Aside0.mk (Kd.C_below (by repeat (first | (with_reducible exact HR571.out) | (with_reducible refine Kd.C_alloc ?_ _) | (with_reducible refine Kd.C_drewN ?_ _) | (with_reducible refine Kd.C_drew ?_) | exact HR571.out)) hb); have n2_ := Aside0.mk (below_step (by repeat (first | (with_reducible first | exact HB.out | apply below_alloc | apply pw_below_drewN | apply below_drew1) | exact HB.out)) hb); clear HO_7; clear HR571; clear HB; have HO_7 := n0_; have HR571 := n1_; have HB := n2_; clear n0_ n1_ n2_; (try clear hb); (try clear hb2); (try clear hk); (try clear hi)))
                                go_ret
                                exact ⟨by first | rfl | (simp [errW_none, errW_some] <;> rfl) | (simp [*, errW_none, errW_some] <;> rfl), by repeat (first | (with_reducible first | exact HB.out | apply below_alloc | apply pw_below_drewN | apply below_drew1) | exact HB.out)⟩
                              · rw [if_neg c27] at H
                                have c27b0 : (t573 == 0) = false := beq_eq_false_iff_ne.mpr c27
                                have c27b1 : (t573 != 0) = true := bne_iff_ne.mpr c27
                                obtain rfl := Option.some.inj H
                                go_wp2_with (first | ((with_reducible refine gate_callee (f := 58) rfl ?_); refine goesL_ (some 61) rfl rfl Try.func58 (by kernel_rfl) rfl #[.slice Ao17 x7_2.length co17] rfl (by (try simp only [List.map_toArray, List.map_cons, List.map_nil]); first | done | rfl | (simp only [List.length_drop, List.length_take]; rfl)) ?_; (with_reducible refine (history_Formed.calls _ _ x7_2 t566 t567 _ ?side1 ?side2 A19.out).mono ?_); (case side1 => repeat (first | exact (Kd.R_reads' HO_7.out).2.2 | (with_reducible refine Kd.C_alloc ?_ _) | (with_reducible refine Kd.C_drewN ?_ _) | (with_reducible refine Kd.C_drew ?_))); (case side2 => exact (Kd.R_reads' HO_7.out).2.1); rintro e w31 ⟨rfl, hb⟩; refine ⟨_, rfl, ?_⟩; have n0_ := Aside0.mk (Kd.R_below (by (with_reducible repeat (first | apply Kd.R_alloc | apply Kd.R_drewN | apply Kd.R_drew)); exact HO_7.out) hb); have n1_ := Aside0.mk (below_step (by repeat (first | (with_reducible first | exact HB.out | apply below_alloc | apply pw_below_drewN | apply below_drew1) | exact HB.out)) hb); clear HO_7; clear HB; have HO_7 := n0_; have HB := n1_; clear n0_ n1_; (try clear hb); (try clear hb2); (try clear hk); (try clear hi); have q32 : (x1_15 : Int) ≤ ((x7_2.length : Int) : Int) := of_decide_eq_true (by first | (with_reducible assumption) | assumption); obtain ⟨i032, hi032, _, hsz32, _⟩ := info_parts info31; have hroom32 : x7_2.length ≤ co17 := (Kd.R_reads' HO_7.out).2.1; have hC32 : Kd.C k31 _ Ao17 x7_2.length x7_2 := (Kd.R_reads' HO_7.out).2.2; have hcut32 := cut_to (P := Try.prog) 22 31 .i64 Try.underlying22 hi032 Ao17 x7_2.length co17 x1_15 (of_decide_eq_true (by first | (with_reducible assumption) | assumption)) q32 hroom32; have hr32 := Kd.C_take (m := (x1_15 : Int).toNat) hC32 (by omega); have hy32 : y568.length = (x1_15 : Int).toNat := (by rw [Ny568.out, List.length_take]; omega); rw [← Ny568.out] at hr32; rw [← hy32] at hcut32; have HR571 := Aside0.mk hr32; have HC571 := Aside0.mk (show y568.length ≤ co17 from by omega); clear hr32 hC32 hroom32 hi032 hsz32; have KY32 := Aside0.mk hy32; clear hy32; have KL32 := Aside0.mk (show (x1_15 : Int).toNat ≤ x7_2.length from by omega); replace q32 := eq_true q32) | ((with_reducible refine gate_callee (f := 58) rfl ?_); refine goesL_ (some 68) rfl rfl Try.func58 (by kernel_rfl) rfl #[.slice Ao17 y568.length co17] rfl (by (try simp only [List.map_toArray, List.map_cons, List.map_nil]); first | done | rfl | (simp only [List.length_drop, List.length_take]; rfl)) ?_; (with_reducible refine (history_Formed.calls _ _ y568 t572 t573 _ ?side1 ?side2 A22.out).mono ?_); (case side1 => repeat (first | exact (by repeat (first | (with_reducible exact HR571.out) | (with_reducible refine Kd.C_alloc ?_ _) | (with_reducible refine Kd.C_drewN ?_ _) | (with_reducible refine Kd.C_drew ?_) | exact HR571.out)) | (with_reducible refine Kd.C_alloc ?_ _) | (with_reducible refine Kd.C_drewN ?_ _) | (with_reducible refine Kd.C_drew ?_))); (case side2 => exact HC571.out); rintro e w33 ⟨rfl, hb⟩; refine ⟨_, rfl, ?_⟩; have n0_ := Aside0.mk (Kd.R_below (by (with_reducible repeat (first | apply Kd.R_alloc | apply Kd.R_drewN | apply Kd.R_drew)); exact HO_7.out) hb); have n1_ := Aside0.mk (Kd.C_below (by repeat (first | (with_reducible exact HR571.out) | (with_reducible refine Kd.C_alloc ?_ _) | (with_reducible refine Kd.C_drewN ?_ _) | (with_reducible refine Kd.C_drew ?_) | exact HR571.out)) hb); have n2_ := Aside0.mk (below_step (by repeat (first | (with_reducible first | exact HB.out | apply below_alloc | apply pw_below_drewN | apply below_drew1) | exact HB.out)) hb); clear HO_7; clear HR571; clear HB; have HO_7 := n0_; have HR571 := n1_; have HB := n2_; clear n0_ n1_ n2_; (try clear hb); (try clear hb2); (try clear hk); (try clear hi)))
                                go_ret
                                exact ⟨by first | rfl | (simp [errW_none, errW_some] <;> rfl) | (simp [*, errW_none, errW_some] <;> rfl), by repeat (first | (with_reducible first | exact HB.out | apply below_alloc | apply pw_below_drewN | apply below_drew1) | exact HB.out)⟩
                            · rw [if_neg c26] at H
                              have c26b0 : (t572 == x1_15) = false := beq_eq_false_iff_ne.mpr c26
                              have c26b1 : (t572 != x1_15) = true := bne_iff_ne.mpr c26
                              obtain rfl := Option.some.inj H
                              go_wp2_with (first | ((with_reducible refine gate_callee (f := 58) rfl ?_); refine goesL_ (some 61) rfl rfl Try.func58 (by kernel_rfl) rfl #[.slice Ao17 x7_2.length co17] rfl (by (try simp only [List.map_toArray, List.map_cons, List.map_nil]); first | done | rfl | (simp only [List.length_drop, List.length_take]; rfl)) ?_; (with_reducible refine (history_Formed.calls _ _ x7_2 t566 t567 _ ?side1 ?side2 A19.out).mono ?_); (case side1 => repeat (first | exact (Kd.R_reads' HO_7.out).2.2 | (with_reducible refine Kd.C_alloc ?_ _) | (with_reducible refine Kd.C_drewN ?_ _) | (with_reducible refine Kd.C_drew ?_))); (case side2 => exact (Kd.R_reads' HO_7.out).2.1); rintro e w34 ⟨rfl, hb⟩; refine ⟨_, rfl, ?_⟩; have n0_ := Aside0.mk (Kd.R_below (by (with_reducible repeat (first | apply Kd.R_alloc | apply Kd.R_drewN | apply Kd.R_drew)); exact HO_7.out) hb); have n1_ := Aside0.mk (below_step (by repeat (first | (with_reducible first | exact HB.out | apply below_alloc | apply pw_below_drewN | apply below_drew1) | exact HB.out)) hb); clear HO_7; clear HB; have HO_7 := n0_; have HB := n1_; clear n0_ n1_; (try clear hb); (try clear hb2); (try clear hk); (try clear hi); have q35 : (x1_15 : Int) ≤ ((x7_2.length : Int) : Int) := of_decide_eq_true (by first | (with_reducible assumption) | assumption); obtain ⟨i035, hi035, _, hsz35, _⟩ := info_parts info31; have hroom35 : x7_2.length ≤ co17 := (Kd.R_reads' HO_7.out).2.1; have hC35 : Kd.C k31 _ Ao17 x7_2.length x7_2 := (Kd.R_reads' HO_7.out).2.2; have hcut35 := cut_to (P := Try.prog) 22 31 .i64 Try.underlying22 hi035 Ao17 x7_2.length co17 x1_15 (of_decide_eq_true (by first | (with_reducible assumption) | assumption)) q35 hroom35; have hr35 := Kd.C_take (m := (x1_15 : Int).toNat) hC35 (by omega); have hy35 : y568.length = (x1_15 : Int).toNat := (by rw [Ny568.out, List.length_take]; omega); rw [← Ny568.out] at hr35; rw [← hy35] at hcut35; have HR571 := Aside0.mk hr35; have HC571 := Aside0.mk (show y568.length ≤ co17 from by omega); clear hr35 hC35 hroom35 hi035 hsz35; have KY35 := Aside0.mk hy35; clear hy35; have KL35 := Aside0.mk (show (x1_15 : Int).toNat ≤ x7_2.length from by omega); replace q35 := eq_true q35) | ((with_reducible refine gate_callee (f := 58) rfl ?_); refine goesL_ (some 68) rfl rfl Try.func58 (by kernel_rfl) rfl #[.slice Ao17 y568.length co17] rfl (by (try simp only [List.map_toArray, List.map_cons, List.map_nil]); first | done | rfl | (simp only [List.length_drop, List.length_take]; rfl)) ?_; (with_reducible refine (history_Formed.calls _ _ y568 t572 t573 _ ?side1 ?side2 A22.out).mono ?_); (case side1 => repeat (first | exact (by repeat (first | (with_reducible exact HR571.out) | (with_reducible refine Kd.C_alloc ?_ _) | (with_reducible refine Kd.C_drewN ?_ _) | (with_reducible refine Kd.C_drew ?_) | exact HR571.out)) | (with_reducible refine Kd.C_alloc ?_ _) | (with_reducible refine Kd.C_drewN ?_ _) | (with_reducible refine Kd.C_drew ?_))); (case side2 => exact HC571.out); rintro e w36 ⟨rfl, hb⟩; refine ⟨_, rfl, ?_⟩; have n0_ := Aside0.mk (Kd.R_below (by (with_reducible repeat (first | apply Kd.R_alloc | apply Kd.R_drewN | apply Kd.R_drew)); exact HO_7.out) hb); have n1_ := Aside0.mk (Kd.C_below (by repeat (first | (with_reducible exact HR571.out) | (with_reducible refine Kd.C_alloc ?_ _) | (with_reducible refine Kd.C_drewN ?_ _) | (with_reducible refine Kd.C_drew ?_) | exact HR571.out)) hb); have n2_ := Aside0.mk (below_step (by repeat (first | (with_reducible first | exact HB.out | apply below_alloc | apply pw_below_drewN | apply below_drew1) | exact HB.out)) hb); clear HO_7; clear HR571; clear HB; have HO_7 := n0_; have HR571 := n1_; have HB := n2_; clear n0_ n1_ n2_; (try clear hb); (try clear hb2); (try clear hk); (try clear hi)))
                              go_ret
                              exact ⟨by first | rfl | (simp [errW_none, errW_some] <;> rfl) | (simp [*, errW_none, errW_some] <;> rfl), by repeat (first | (with_reducible first | exact HB.out | apply below_alloc | apply pw_below_drewN | apply below_drew1) | exact HB.out)⟩
                          · replace c25 := Bool.eq_false_iff.mpr c25
                            subst c25
                            have H1 : (some false) = some r := by rw [if_neg (show ¬ (false = true) by decide)] at H; exact H
                            clear H
                            have H := H1
                            clear H1
                            obtain rfl := Option.some.inj H
                            go_wp2_with (first | ((with_reducible refine gate_callee (f := 58) rfl ?_); refine goesL_ (some 61) rfl rfl Try.func58 (by kernel_rfl) rfl #[.slice Ao17 x7_2.length co17] rfl (by (try simp only [List.map_toArray, List.map_cons, List.map_nil]); first | done | rfl | (simp only [List.length_drop, List.length_take]; rfl)) ?_; (with_reducible refine (history_Formed.calls _ _ x7_2 t566 t567 _ ?side1 ?side2 A19.out).mono ?_); (case side1 => repeat (first | exact (Kd.R_reads' HO_7.out).2.2 | (with_reducible refine Kd.C_alloc ?_ _) | (with_reducible refine Kd.C_drewN ?_ _) | (with_reducible refine Kd.C_drew ?_))); (case side2 => exact (Kd.R_reads' HO_7.out).2.1); rintro e w37 ⟨rfl, hb⟩; refine ⟨_, rfl, ?_⟩; have n0_ := Aside0.mk (Kd.R_below (by (with_reducible repeat (first | apply Kd.R_alloc | apply Kd.R_drewN | apply Kd.R_drew)); exact HO_7.out) hb); have n1_ := Aside0.mk (below_step (by repeat (first | (with_reducible first | exact HB.out | apply below_alloc | apply pw_below_drewN | apply below_drew1) | exact HB.out)) hb); clear HO_7; clear HB; have HO_7 := n0_; have HB := n1_; clear n0_ n1_; (try clear hb); (try clear hb2); (try clear hk); (try clear hi); have q38 : (x1_15 : Int) ≤ ((x7_2.length : Int) : Int) := of_decide_eq_true (by first | (with_reducible assumption) | assumption); obtain ⟨i038, hi038, _, hsz38, _⟩ := info_parts info31; have hroom38 : x7_2.length ≤ co17 := (Kd.R_reads' HO_7.out).2.1; have hC38 : Kd.C k31 _ Ao17 x7_2.length x7_2 := (Kd.R_reads' HO_7.out).2.2; have hcut38 := cut_to (P := Try.prog) 22 31 .i64 Try.underlying22 hi038 Ao17 x7_2.length co17 x1_15 (of_decide_eq_true (by first | (with_reducible assumption) | assumption)) q38 hroom38; have hr38 := Kd.C_take (m := (x1_15 : Int).toNat) hC38 (by omega); have hy38 : y568.length = (x1_15 : Int).toNat := (by rw [Ny568.out, List.length_take]; omega); rw [← Ny568.out] at hr38; rw [← hy38] at hcut38; have HR571 := Aside0.mk hr38; have HC571 := Aside0.mk (show y568.length ≤ co17 from by omega); clear hr38 hC38 hroom38 hi038 hsz38; have KY38 := Aside0.mk hy38; clear hy38; have KL38 := Aside0.mk (show (x1_15 : Int).toNat ≤ x7_2.length from by omega); replace q38 := eq_true q38) | ((with_reducible refine gate_callee (f := 58) rfl ?_); refine goesL_ (some 68) rfl rfl Try.func58 (by kernel_rfl) rfl #[.slice Ao17 y568.length co17] rfl (by (try simp only [List.map_toArray, List.map_cons, List.map_nil]); first | done | rfl | (simp only [List.length_drop, List.length_take]; rfl)) ?_; (with_reducible refine (history_Formed.calls _ _ y568 t572 t573 _ ?side1 ?side2 A22.out).mono ?_); (case side1 => repeat (first | exact (by repeat (first | (with_reducible exact HR571.out) | (with_reducible refine Kd.C_alloc ?_ _) | (with_reducible refine Kd.C_drewN ?_ _) | (with_reducible refine Kd.C_drew ?_) | exact HR571.out)) | (with_reducible refine Kd.C_alloc ?_ _) | (with_reducible refine Kd.C_drewN ?_ _) | (with_reducible refine Kd.C_drew ?_))); (case side2 => exact HC571.out); rintro e w39 ⟨rfl, hb⟩; refine ⟨_, rfl, ?_⟩; have n0_ := Aside0.mk (Kd.R_below (by (with_reducible repeat (first | apply Kd.R_alloc | apply Kd.R_drewN | apply Kd.R_drew)); exact HO_7.out) hb); have n1_ := Aside0.mk (Kd.C_below (by repeat (first | (with_reducible exact HR571.out) | (with_reducible refine Kd.C_alloc ?_ _) | (with_reducible refine Kd.C_drewN ?_ _) | (with_reducible refine Kd.C_drew ?_) | exact HR571.out)) hb); have n2_ := Aside0.mk (below_step (by repeat (first | (with_reducible first | exact HB.out | apply below_alloc | apply pw_below_drewN | apply below_drew1) | exact HB.out)) hb); clear HO_7; clear HR571; clear HB; have HO_7 := n0_; have HR571 := n1_; have HB := n2_; clear n0_ n1_ n2_; (try clear hb); (try clear hb2); (try clear hk); (try clear hi)))
                            go_ret
                            exact ⟨by first | rfl | (simp [errW_none, errW_some] <;> rfl) | (simp [*, errW_none, errW_some] <;> rfl), by repeat (first | (with_reducible first | exact HB.out | apply below_alloc | apply pw_below_drewN | apply below_drew1) | exact HB.out)⟩
                        · rw [if_neg c24] at H
                          have c24b0 : (t567 == 0) = false := beq_eq_false_iff_ne.mpr c24
                          have c24b1 : (t567 != 0) = true := bne_iff_ne.mpr c24
                          by_cases c40 : t559 = true
                          · subst c40
                            have H1 : (if t572 = t566 then (some (t573 == t567)) else (some false)) = some r := by rw [if_pos rfl] at H; exact H
                            clear H
                            have H := H1
                            clear H1
                            by_cases c41 : t572 = t566
                            · rw [if_pos c41] at H
                              have c41b0 : (t572 == t566) = true := beq_iff_eq.mpr c41
                              have c41b1 : (t572 != t566) = false := bne_eq_false_iff_eq.mpr c41
                              clear c41
                              obtain rfl := Option.some.inj H
                              go_wp2_with (first | ((with_reducible refine gate_callee (f := 58) rfl ?_); refine goesL_ (some 61) rfl rfl Try.func58 (by kernel_rfl) rfl #[.slice Ao17 x7_2.length co17] rfl (by (try simp only [List.map_toArray, List.map_cons, List.map_nil]); first | done | rfl | (simp only [List.length_drop, List.length_take]; rfl)) ?_; (with_reducible refine (history_Formed.calls _ _ x7_2 t566 t567 _ ?side1 ?side2 A19.out).mono ?_); (case side1 => repeat (first | exact (Kd.R_reads' HO_7.out).2.2 | (with_reducible refine Kd.C_alloc ?_ _) | (with_reducible refine Kd.C_drewN ?_ _) | (with_reducible refine Kd.C_drew ?_))); (case side2 => exact (Kd.R_reads' HO_7.out).2.1); rintro e w42 ⟨rfl, hb⟩; refine ⟨_, rfl, ?_⟩; have n0_ := Aside0.mk (Kd.R_below (by (with_reducible repeat (first | apply Kd.R_alloc | apply Kd.R_drewN | apply Kd.R_drew)); exact HO_7.out) hb); have n1_ := Aside0.mk (below_step (by repeat (first | (with_reducible first | exact HB.out | apply below_alloc | apply pw_below_drewN | apply below_drew1) | exact HB.out)) hb); clear HO_7; clear HB; have HO_7 := n0_; have HB := n1_; clear n0_ n1_; (try clear hb); (try clear hb2); (try clear hk); (try clear hi); have q43 : (x1_15 : Int) ≤ ((x7_2.length : Int) : Int) := of_decide_eq_true (by first | (with_reducible assumption) | assumption); obtain ⟨i043, hi043, _, hsz43, _⟩ := info_parts info31; have hroom43 : x7_2.length ≤ co17 := (Kd.R_reads' HO_7.out).2.1; have hC43 : Kd.C k31 _ Ao17 x7_2.length x7_2 := (Kd.R_reads' HO_7.out).2.2; have hcut43 := cut_to (P := Try.prog) 22 31 .i64 Try.underlying22 hi043 Ao17 x7_2.length co17 x1_15 (of_decide_eq_true (by first | (with_reducible assumption) | assumption)) q43 hroom43; have hr43 := Kd.C_take (m := (x1_15 : Int).toNat) hC43 (by omega); have hy43 : y568.length = (x1_15 : Int).toNat := (by rw [Ny568.out, List.length_take]; omega); rw [← Ny568.out] at hr43; rw [← hy43] at hcut43; have HR571 := Aside0.mk hr43; have HC571 := Aside0.mk (show y568.length ≤ co17 from by omega); clear hr43 hC43 hroom43 hi043 hsz43; have KY43 := Aside0.mk hy43; clear hy43; have KL43 := Aside0.mk (show (x1_15 : Int).toNat ≤ x7_2.length from by omega); replace q43 := eq_true q43) | ((with_reducible refine gate_callee (f := 58) rfl ?_); refine goesL_ (some 68) rfl rfl Try.func58 (by kernel_rfl) rfl #[.slice Ao17 y568.length co17] rfl (by (try simp only [List.map_toArray, List.map_cons, List.map_nil]); first | done | rfl | (simp only [List.length_drop, List.length_take]; rfl)) ?_; (with_reducible refine (history_Formed.calls _ _ y568 t572 t573 _ ?side1 ?side2 A22.out).mono ?_); (case side1 => repeat (first | exact (by repeat (first | (with_reducible exact HR571.out) | (with_reducible refine Kd.C_alloc ?_ _) | (with_reducible refine Kd.C_drewN ?_ _) | (with_reducible refine Kd.C_drew ?_) | exact HR571.out)) | (with_reducible refine Kd.C_alloc ?_ _) | (with_reducible refine Kd.C_drewN ?_ _) | (with_reducible refine Kd.C_drew ?_))); (case side2 => exact HC571.out); rintro e w44 ⟨rfl, hb⟩; refine ⟨_, rfl, ?_⟩; have n0_ := Aside0.mk (Kd.R_below (by (with_reducible repeat (first | apply Kd.R_alloc | apply Kd.R_drewN | apply Kd.R_drew)); exact HO_7.out) hb); have n1_ := Aside0.mk (Kd.C_below (by repeat (first | (with_reducible exact HR571.out) | (with_reducible refine Kd.C_alloc ?_ _) | (with_reducible refine Kd.C_drewN ?_ _) | (with_reducible refine Kd.C_drew ?_) | exact HR571.out)) hb); have n2_ := Aside0.mk (below_step (by repeat (first | (with_reducible first | exact HB.out | apply below_alloc | apply pw_below_drewN | apply below_drew1) | exact HB.out)) hb); clear HO_7; clear HR571; clear HB; have HO_7 := n0_; have HR571 := n1_; have HB := n2_; clear n0_ n1_ n2_; (try clear hb); (try clear hb2); (try clear hk); (try clear hi)))
                              go_ret
                              exact ⟨by first | rfl | (simp [errW_none, errW_some] <;> rfl) | (simp [*, errW_none, errW_some] <;> rfl), by repeat (first | (with_reducible first | exact HB.out | apply below_alloc | apply pw_below_drewN | apply below_drew1) | exact HB.out)⟩
                            · rw [if_neg c41] at H
                              have c41b0 : (t572 == t566) = false := beq_eq_false_iff_ne.mpr c41
                              have c41b1 : (t572 != t566) = true := bne_iff_ne.mpr c41
                              obtain rfl := Option.some.inj H
                              go_wp2_with (first | ((with_reducible refine gate_callee (f := 58) rfl ?_); refine goesL_ (some 61) rfl rfl Try.func58 (by kernel_rfl) rfl #[.slice Ao17 x7_2.length co17] rfl (by (try simp only [List.map_toArray, List.map_cons, List.map_nil]); first | done | rfl | (simp only [List.length_drop, List.length_take]; rfl)) ?_; (with_reducible refine (history_Formed.calls _ _ x7_2 t566 t567 _ ?side1 ?side2 A19.out).mono ?_); (case side1 => repeat (first | exact (Kd.R_reads' HO_7.out).2.2 | (with_reducible refine Kd.C_alloc ?_ _) | (with_reducible refine Kd.C_drewN ?_ _) | (with_reducible refine Kd.C_drew ?_))); (case side2 => exact (Kd.R_reads' HO_7.out).2.1); rintro e w45 ⟨rfl, hb⟩; refine ⟨_, rfl, ?_⟩; have n0_ := Aside0.mk (Kd.R_below (by (with_reducible repeat (first | apply Kd.R_alloc | apply Kd.R_drewN | apply Kd.R_drew)); exact HO_7.out) hb); have n1_ := Aside0.mk (below_step (by repeat (first | (with_reducible first | exact HB.out | apply below_alloc | apply pw_below_drewN | apply below_drew1) | exact HB.out)) hb); clear HO_7; clear HB; have HO_7 := n0_; have HB := n1_; clear n0_ n1_; (try clear hb); (try clear hb2); (try clear hk); (try clear hi); have q46 : (x1_15 : Int) ≤ ((x7_2.length : Int) : Int) := of_decide_eq_true (by first | (with_reducible assumption) | assumption); obtain ⟨i046, hi046, _, hsz46, _⟩ := info_parts info31; have hroom46 : x7_2.length ≤ co17 := (Kd.R_reads' HO_7.out).2.1; have hC46 : Kd.C k31 _ Ao17 x7_2.length x7_2 := (Kd.R_reads' HO_7.out).2.2; have hcut46 := cut_to (P := Try.prog) 22 31 .i64 Try.underlying22 hi046 Ao17 x7_2.length co17 x1_15 (of_decide_eq_true (by first | (with_reducible assumption) | assumption)) q46 hroom46; have hr46 := Kd.C_take (m := (x1_15 : Int).toNat) hC46 (by omega); have hy46 : y568.length = (x1_15 : Int).toNat := (by rw [Ny568.out, List.length_take]; omega); rw [← Ny568.out] at hr46; rw [← hy46] at hcut46; have HR571 := Aside0.mk hr46; have HC571 := Aside0.mk (show y568.length ≤ co17 from by omega); clear hr46 hC46 hroom46 hi046 hsz46; have KY46 := Aside0.mk hy46; clear hy46; have KL46 := Aside0.mk (show (x1_15 : Int).toNat ≤ x7_2.length from by omega); replace q46 := eq_true q46) | ((with_reducible refine gate_callee (f := 58) rfl ?_); refine goesL_ (some 68) rfl rfl Try.func58 (by kernel_rfl) rfl #[.slice Ao17 y568.length co17] rfl (by (try simp only [List.map_toArray, List.map_cons, List.map_nil]); first | done | rfl | (simp only [List.length_drop, List.length_take]; rfl)) ?_; (with_reducible refine (history_Formed.calls _ _ y568 t572 t573 _ ?side1 ?side2 A22.out).mono ?_); (case side1 => repeat (first | exact (by repeat (first | (with_reducible exact HR571.out) | (with_reducible refine Kd.C_alloc ?_ _) | (with_reducible refine Kd.C_drewN ?_ _) | (with_reducible refine Kd.C_drew ?_) | exact HR571.out)) | (with_reducible refine Kd.C_alloc ?_ _) | (with_reducible refine Kd.C_drewN ?_ _) | (with_reducible refine Kd.C_drew ?_))); (case side2 => exact HC571.out); rintro e w47 ⟨rfl, hb⟩; refine ⟨_, rfl, ?_⟩; have n0_ := Aside0.mk (Kd.R_below (by (with_reducible repeat (first | apply Kd.R_alloc | apply Kd.R_drewN | apply Kd.R_drew)); exact HO_7.out) hb); have n1_ := Aside0.mk (Kd.C_below (by repeat (first | (with_reducible exact HR571.out) | (with_reducible refine Kd.C_alloc ?_ _) | (with_reducible refine Kd.C_drewN ?_ _) | (with_reducible refine Kd.C_drew ?_) | exact HR571.out)) hb); have n2_ := Aside0.mk (below_step (by repeat (first | (with_reducible first | exact HB.out | apply below_alloc | apply pw_below_drewN | apply below_drew1) | exact HB.out)) hb); clear HO_7; clear HR571; clear HB; have HO_7 := n0_; have HR571 := n1_; have HB := n2_; clear n0_ n1_ n2_; (try clear hb); (try clear hb2); (try clear hk); (try clear hi)))
                              go_ret
                              exact ⟨by first | rfl | (simp [errW_none, errW_some] <;> rfl) | (simp [*, errW_none, errW_some] <;> rfl), by repeat (first | (with_reducible first | exact HB.out | apply below_alloc | apply pw_below_drewN | apply below_drew1) | exact HB.out)⟩
                          · replace c40 := Bool.eq_false_iff.mpr c40
                            subst c40
                            have H1 : (some false) = some r := by rw [if_neg (show ¬ (false = true) by decide)] at H; exact H
                            clear H
                            have H := H1
                            clear H1
                            obtain rfl := Option.some.inj H
                            go_wp2_with (first | ((with_reducible refine gate_callee (f := 58) rfl ?_); refine goesL_ (some 61) rfl rfl Try.func58 (by kernel_rfl) rfl #[.slice Ao17 x7_2.length co17] rfl (by (try simp only [List.map_toArray, List.map_cons, List.map_nil]); first | done | rfl | (simp only [List.length_drop, List.length_take]; rfl)) ?_; (with_reducible refine (history_Formed.calls _ _ x7_2 t566 t567 _ ?side1 ?side2 A19.out).mono ?_); (case side1 => repeat (first | exact (Kd.R_reads' HO_7.out).2.2 | (with_reducible refine Kd.C_alloc ?_ _) | (with_reducible refine Kd.C_drewN ?_ _) | (with_reducible refine Kd.C_drew ?_))); (case side2 => exact (Kd.R_reads' HO_7.out).2.1); rintro e w48 ⟨rfl, hb⟩; refine ⟨_, rfl, ?_⟩; have n0_ := Aside0.mk (Kd.R_below (by (with_reducible repeat (first | apply Kd.R_alloc | apply Kd.R_drewN | apply Kd.R_drew)); exact HO_7.out) hb); have n1_ := Aside0.mk (below_step (by repeat (first | (with_reducible first | exact HB.out | apply below_alloc | apply pw_below_drewN | apply below_drew1) | exact HB.out)) hb); clear HO_7; clear HB; have HO_7 := n0_; have HB := n1_; clear n0_ n1_; (try clear hb); (try clear hb2); (try clear hk); (try clear hi); have q49 : (x1_15 : Int) ≤ ((x7_2.length : Int) : Int) := of_decide_eq_true (by first | (with_reducible assumption) | assumption); obtain ⟨i049, hi049, _, hsz49, _⟩ := info_parts info31; have hroom49 : x7_2.length ≤ co17 := (Kd.R_reads' HO_7.out).2.1; have hC49 : Kd.C k31 _ Ao17 x7_2.length x7_2 := (Kd.R_reads' HO_7.out).2.2; have hcut49 := cut_to (P := Try.prog) 22 31 .i64 Try.underlying22 hi049 Ao17 x7_2.length co17 x1_15 (of_decide_eq_true (by first | (with_reducible assumption) | assumption)) q49 hroom49; have hr49 := Kd.C_take (m := (x1_15 : Int).toNat) hC49 (by omega); have hy49 : y568.length = (x1_15 : Int).toNat := (by rw [Ny568.out, List.length_take]; omega); rw [← Ny568.out] at hr49; rw [← hy49] at hcut49; have HR571 := Aside0.mk hr49; have HC571 := Aside0.mk (show y568.length ≤ co17 from by omega); clear hr49 hC49 hroom49 hi049 hsz49; have KY49 := Aside0.mk hy49; clear hy49; have KL49 := Aside0.mk (show (x1_15 : Int).toNat ≤ x7_2.length from by omega); replace q49 := eq_true q49) | ((with_reducible refine gate_callee (f := 58) rfl ?_); refine goesL_ (some 68) rfl rfl Try.func58 (by kernel_rfl) rfl #[.slice Ao17 y568.length co17] rfl (by (try simp only [List.map_toArray, List.map_cons, List.map_nil]); first | done | rfl | (simp only [List.length_drop, List.length_take]; rfl)) ?_; (with_reducible refine (history_Formed.calls _ _ y568 t572 t573 _ ?side1 ?side2 A22.out).mono ?_); (case side1 => repeat (first | exact (by repeat (first | (with_reducible exact HR571.out) | (with_reducible refine Kd.C_alloc ?_ _) | (with_reducible refine Kd.C_drewN ?_ _) | (with_reducible refine Kd.C_drew ?_) | exact HR571.out)) | (with_reducible refine Kd.C_alloc ?_ _) | (with_reducible refine Kd.C_drewN ?_ _) | (with_reducible refine Kd.C_drew ?_))); (case side2 => exact HC571.out); rintro e w50 ⟨rfl, hb⟩; refine ⟨_, rfl, ?_⟩; have n0_ := Aside0.mk (Kd.R_below (by (with_reducible repeat (first | apply Kd.R_alloc | apply Kd.R_drewN | apply Kd.R_drew)); exact HO_7.out) hb); have n1_ := Aside0.mk (Kd.C_below (by repeat (first | (with_reducible exact HR571.out) | (with_reducible refine Kd.C_alloc ?_ _) | (with_reducible refine Kd.C_drewN ?_ _) | (with_reducible refine Kd.C_drew ?_) | exact HR571.out)) hb); have n2_ := Aside0.mk (below_step (by repeat (first | (with_reducible first | exact HB.out | apply below_alloc | apply pw_below_drewN | apply below_drew1) | exact HB.out)) hb); clear HO_7; clear HR571; clear HB; have HO_7 := n0_; have HR571 := n1_; have HB := n2_; clear n0_ n1_ n2_; (try clear hb); (try clear hb2); (try clear hk); (try clear hi)))
                            go_ret
                            exact ⟨by first | rfl | (simp [errW_none, errW_some] <;> rfl) | (simp [*, errW_none, errW_some] <;> rfl), by repeat (first | (with_reducible first | exact HB.out | apply below_alloc | apply pw_below_drewN | apply below_drew1) | exact HB.out)⟩
                      · rw [if_neg c23] at H
                        have c23b0 : decide (t566 < x1_15) = false := decide_eq_false c23
                        clear c23
                        by_cases c51 : t559 = true
                        · subst c51
                          have H1 : (if t572 = x1_15 then (if t573 = 0 then (some true) else (some (t573 == 9))) else (some false)) = some r := by rw [if_pos rfl] at H; exact H
                          clear H
                          have H := H1
                          clear H1
                          by_cases c52 : t572 = x1_15
                          · rw [if_pos c52] at H
                            have c52b0 : (t572 == x1_15) = true := beq_iff_eq.mpr c52
                            have c52b1 : (t572 != x1_15) = false := bne_eq_false_iff_eq.mpr c52
                            clear c52
                            by_cases c53 : t573 = 0
                            · rw [if_pos c53] at H
                              have c53b0 : (t573 == 0) = true := beq_iff_eq.mpr c53
                              have c53b1 : (t573 != 0) = false := bne_eq_false_iff_eq.mpr c53
                              clear c53
                              obtain rfl := Option.some.inj H
                              go_wp2_with (first | ((with_reducible refine gate_callee (f := 58) rfl ?_); refine goesL_ (some 61) rfl rfl Try.func58 (by kernel_rfl) rfl #[.slice Ao17 x7_2.length co17] rfl (by (try simp only [List.map_toArray, List.map_cons, List.map_nil]); first | done | rfl | (simp only [List.length_drop, List.length_take]; rfl)) ?_; (with_reducible refine (history_Formed.calls _ _ x7_2 t566 t567 _ ?side1 ?side2 A19.out).mono ?_); (case side1 => repeat (first | exact (Kd.R_reads' HO_7.out).2.2 | (with_reducible refine Kd.C_alloc ?_ _) | (with_reducible refine Kd.C_drewN ?_ _) | (with_reducible refine Kd.C_drew ?_))); (case side2 => exact (Kd.R_reads' HO_7.out).2.1); rintro e w54 ⟨rfl, hb⟩; refine ⟨_, rfl, ?_⟩; have n0_ := Aside0.mk (Kd.R_below (by (with_reducible repeat (first | apply Kd.R_alloc | apply Kd.R_drewN | apply Kd.R_drew)); exact HO_7.out) hb); have n1_ := Aside0.mk (below_step (by repeat (first | (with_reducible first | exact HB.out | apply below_alloc | apply pw_below_drewN | apply below_drew1) | exact HB.out)) hb); clear HO_7; clear HB; have HO_7 := n0_; have HB := n1_; clear n0_ n1_; (try clear hb); (try clear hb2); (try clear hk); (try clear hi); have q55 : (x1_15 : Int) ≤ ((x7_2.length : Int) : Int) := of_decide_eq_true (by first | (with_reducible assumption) | assumption); obtain ⟨i055, hi055, _, hsz55, _⟩ := info_parts info31; have hroom55 : x7_2.length ≤ co17 := (Kd.R_reads' HO_7.out).2.1; have hC55 : Kd.C k31 _ Ao17 x7_2.length x7_2 := (Kd.R_reads' HO_7.out).2.2; have hcut55 := cut_to (P := Try.prog) 22 31 .i64 Try.underlying22 hi055 Ao17 x7_2.length co17 x1_15 (of_decide_eq_true (by first | (with_reducible assumption) | assumption)) q55 hroom55; have hr55 := Kd.C_take (m := (x1_15 : Int).toNat) hC55 (by omega); have hy55 : y568.length = (x1_15 : Int).toNat := (by rw [Ny568.out, List.length_take]; omega); rw [← Ny568.out] at hr55; rw [← hy55] at hcut55; have HR571 := Aside0.mk hr55; have HC571 := Aside0.mk (show y568.length ≤ co17 from by omega); clear hr55 hC55 hroom55 hi055 hsz55; have KY55 := Aside0.mk hy55; clear hy55; have KL55 := Aside0.mk (show (x1_15 : Int).toNat ≤ x7_2.length from by omega); replace q55 := eq_true q55) | ((with_reducible refine gate_callee (f := 58) rfl ?_); refine goesL_ (some 68) rfl rfl Try.func58 (by kernel_rfl) rfl #[.slice Ao17 y568.length co17] rfl (by (try simp only [List.map_toArray, List.map_cons, List.map_nil]); first | done | rfl | (simp only [List.length_drop, List.length_take]; rfl)) ?_; (with_reducible refine (history_Formed.calls _ _ y568 t572 t573 _ ?side1 ?side2 A22.out).mono ?_); (case side1 => repeat (first | exact (by repeat (first | (with_reducible exact HR571.out) | (with_reducible refine Kd.C_alloc ?_ _) | (with_reducible refine Kd.C_drewN ?_ _) | (with_reducible refine Kd.C_drew ?_) | exact HR571.out)) | (with_reducible refine Kd.C_alloc ?_ _) | (with_reducible refine Kd.C_drewN ?_ _) | (with_reducible refine Kd.C_drew ?_))); (case side2 => exact HC571.out); rintro e w56 ⟨rfl, hb⟩; refine ⟨_, rfl, ?_⟩; have n0_ := Aside0.mk (Kd.R_below (by (with_reducible repeat (first | apply Kd.R_alloc | apply Kd.R_drewN | apply Kd.R_drew)); exact HO_7.out) hb); have n1_ := Aside0.mk (Kd.C_below (by repeat (first | (with_reducible exact HR571.out) | (with_reducible refine Kd.C_alloc ?_ _) | (with_reducible refine Kd.C_drewN ?_ _) | (with_reducible refine Kd.C_drew ?_) | exact HR571.out)) hb); have n2_ := Aside0.mk (below_step (by repeat (first | (with_reducible first | exact HB.out | apply below_alloc | apply pw_below_drewN | apply below_drew1) | exact HB.out)) hb); clear HO_7; clear HR571; clear HB; have HO_7 := n0_; have HR571 := n1_; have HB := n2_; clear n0_ n1_ n2_; (try clear hb); (try clear hb2); (try clear hk); (try clear hi)))
                              go_ret
                              exact ⟨by first | rfl | (simp [errW_none, errW_some] <;> rfl) | (simp [*, errW_none, errW_some] <;> rfl), by repeat (first | (with_reducible first | exact HB.out | apply below_alloc | apply pw_below_drewN | apply below_drew1) | exact HB.out)⟩
                            · rw [if_neg c53] at H
                              have c53b0 : (t573 == 0) = false := beq_eq_false_iff_ne.mpr c53
                              have c53b1 : (t573 != 0) = true := bne_iff_ne.mpr c53
                              obtain rfl := Option.some.inj H
                              go_wp2_with (first | ((with_reducible refine gate_callee (f := 58) rfl ?_); refine goesL_ (some 61) rfl rfl Try.func58 (by kernel_rfl) rfl #[.slice Ao17 x7_2.length co17] rfl (by (try simp only [List.map_toArray, List.map_cons, List.map_nil]); first | done | rfl | (simp only [List.length_drop, List.length_take]; rfl)) ?_; (with_reducible refine (history_Formed.calls _ _ x7_2 t566 t567 _ ?side1 ?side2 A19.out).mono ?_); (case side1 => repeat (first | exact (Kd.R_reads' HO_7.out).2.2 | (with_reducible refine Kd.C_alloc ?_ _) | (with_reducible refine Kd.C_drewN ?_ _) | (with_reducible refine Kd.C_drew ?_))); (case side2 => exact (Kd.R_reads' HO_7.out).2.1); rintro e w57 ⟨rfl, hb⟩; refine ⟨_, rfl, ?_⟩; have n0_ := Aside0.mk (Kd.R_below (by (with_reducible repeat (first | apply Kd.R_alloc | apply Kd.R_drewN | apply Kd.R_drew)); exact HO_7.out) hb); have n1_ := Aside0.mk (below_step (by repeat (first | (with_reducible first | exact HB.out | apply below_alloc | apply pw_below_drewN | apply below_drew1) | exact HB.out)) hb); clear HO_7; clear HB; have HO_7 := n0_; have HB := n1_; clear n0_ n1_; (try clear hb); (try clear hb2); (try clear hk); (try clear hi); have q58 : (x1_15 : Int) ≤ ((x7_2.length : Int) : Int) := of_decide_eq_true (by first | (with_reducible assumption) | assumption); obtain ⟨i058, hi058, _, hsz58, _⟩ := info_parts info31; have hroom58 : x7_2.length ≤ co17 := (Kd.R_reads' HO_7.out).2.1; have hC58 : Kd.C k31 _ Ao17 x7_2.length x7_2 := (Kd.R_reads' HO_7.out).2.2; have hcut58 := cut_to (P := Try.prog) 22 31 .i64 Try.underlying22 hi058 Ao17 x7_2.length co17 x1_15 (of_decide_eq_true (by first | (with_reducible assumption) | assumption)) q58 hroom58; have hr58 := Kd.C_take (m := (x1_15 : Int).toNat) hC58 (by omega); have hy58 : y568.length = (x1_15 : Int).toNat := (by rw [Ny568.out, List.length_take]; omega); rw [← Ny568.out] at hr58; rw [← hy58] at hcut58; have HR571 := Aside0.mk hr58; have HC571 := Aside0.mk (show y568.length ≤ co17 from by omega); clear hr58 hC58 hroom58 hi058 hsz58; have KY58 := Aside0.mk hy58; clear hy58; have KL58 := Aside0.mk (show (x1_15 : Int).toNat ≤ x7_2.length from by omega); replace q58 := eq_true q58) | ((with_reducible refine gate_callee (f := 58) rfl ?_); refine goesL_ (some 68) rfl rfl Try.func58 (by kernel_rfl) rfl #[.slice Ao17 y568.length co17] rfl (by (try simp only [List.map_toArray, List.map_cons, List.map_nil]); first | done | rfl | (simp only [List.length_drop, List.length_take]; rfl)) ?_; (with_reducible refine (history_Formed.calls _ _ y568 t572 t573 _ ?side1 ?side2 A22.out).mono ?_); (case side1 => repeat (first | exact (by repeat (first | (with_reducible exact HR571.out) | (with_reducible refine Kd.C_alloc ?_ _) | (with_reducible refine Kd.C_drewN ?_ _) | (with_reducible refine Kd.C_drew ?_) | exact HR571.out)) | (with_reducible refine Kd.C_alloc ?_ _) | (with_reducible refine Kd.C_drewN ?_ _) | (with_reducible refine Kd.C_drew ?_))); (case side2 => exact HC571.out); rintro e w59 ⟨rfl, hb⟩; refine ⟨_, rfl, ?_⟩; have n0_ := Aside0.mk (Kd.R_below (by (with_reducible repeat (first | apply Kd.R_alloc | apply Kd.R_drewN | apply Kd.R_drew)); exact HO_7.out) hb); have n1_ := Aside0.mk (Kd.C_below (by repeat (first | (with_reducible exact HR571.out) | (with_reducible refine Kd.C_alloc ?_ _) | (with_reducible refine Kd.C_drewN ?_ _) | (with_reducible refine Kd.C_drew ?_) | exact HR571.out)) hb); have n2_ := Aside0.mk (below_step (by repeat (first | (with_reducible first | exact HB.out | apply below_alloc | apply pw_below_drewN | apply below_drew1) | exact HB.out)) hb); clear HO_7; clear HR571; clear HB; have HO_7 := n0_; have HR571 := n1_; have HB := n2_; clear n0_ n1_ n2_; (try clear hb); (try clear hb2); (try clear hk); (try clear hi)))
                              go_ret
                              exact ⟨by first | rfl | (simp [errW_none, errW_some] <;> rfl) | (simp [*, errW_none, errW_some] <;> rfl), by repeat (first | (with_reducible first | exact HB.out | apply below_alloc | apply pw_below_drewN | apply below_drew1) | exact HB.out)⟩
                          · rw [if_neg c52] at H
                            have c52b0 : (t572 == x1_15) = false := beq_eq_false_iff_ne.mpr c52
                            have c52b1 : (t572 != x1_15) = true := bne_iff_ne.mpr c52
                            obtain rfl := Option.some.inj H
                            go_wp2_with (first | ((with_reducible refine gate_callee (f := 58) rfl ?_); refine goesL_ (some 61) rfl rfl Try.func58 (by kernel_rfl) rfl #[.slice Ao17 x7_2.length co17] rfl (by (try simp only [List.map_toArray, List.map_cons, List.map_nil]); first | done | rfl | (simp only [List.length_drop, List.length_take]; rfl)) ?_; (with_reducible refine (history_Formed.calls _ _ x7_2 t566 t567 _ ?side1 ?side2 A19.out).mono ?_); (case side1 => repeat (first | exact (Kd.R_reads' HO_7.out).2.2 | (with_reducible refine Kd.C_alloc ?_ _) | (with_reducible refine Kd.C_drewN ?_ _) | (with_reducible refine Kd.C_drew ?_))); (case side2 => exact (Kd.R_reads' HO_7.out).2.1); rintro e w60 ⟨rfl, hb⟩; refine ⟨_, rfl, ?_⟩; have n0_ := Aside0.mk (Kd.R_below (by (with_reducible repeat (first | apply Kd.R_alloc | apply Kd.R_drewN | apply Kd.R_drew)); exact HO_7.out) hb); have n1_ := Aside0.mk (below_step (by repeat (first | (with_reducible first | exact HB.out | apply below_alloc | apply pw_below_drewN | apply below_drew1) | exact HB.out)) hb); clear HO_7; clear HB; have HO_7 := n0_; have HB := n1_; clear n0_ n1_; (try clear hb); (try clear hb2); (try clear hk); (try clear hi); have q61 : (x1_15 : Int) ≤ ((x7_2.length : Int) : Int) := of_decide_eq_true (by first | (with_reducible assumption) | assumption); obtain ⟨i061, hi061, _, hsz61, _⟩ := info_parts info31; have hroom61 : x7_2.length ≤ co17 := (Kd.R_reads' HO_7.out).2.1; have hC61 : Kd.C k31 _ Ao17 x7_2.length x7_2 := (Kd.R_reads' HO_7.out).2.2; have hcut61 := cut_to (P := Try.prog) 22 31 .i64 Try.underlying22 hi061 Ao17 x7_2.length co17 x1_15 (of_decide_eq_true (by first | (with_reducible assumption) | assumption)) q61 hroom61; have hr61 := Kd.C_take (m := (x1_15 : Int).toNat) hC61 (by omega); have hy61 : y568.length = (x1_15 : Int).toNat := (by rw [Ny568.out, List.length_take]; omega); rw [← Ny568.out] at hr61; rw [← hy61] at hcut61; have HR571 := Aside0.mk hr61; have HC571 := Aside0.mk (show y568.length ≤ co17 from by omega); clear hr61 hC61 hroom61 hi061 hsz61; have KY61 := Aside0.mk hy61; clear hy61; have KL61 := Aside0.mk (show (x1_15 : Int).toNat ≤ x7_2.length from by omega); replace q61 := eq_true q61) | ((with_reducible refine gate_callee (f := 58) rfl ?_); refine goesL_ (some 68) rfl rfl Try.func58 (by kernel_rfl) rfl #[.slice Ao17 y568.length co17] rfl (by (try simp only [List.map_toArray, List.map_cons, List.map_nil]); first | done | rfl | (simp only [List.length_drop, List.length_take]; rfl)) ?_; (with_reducible refine (history_Formed.calls _ _ y568 t572 t573 _ ?side1 ?side2 A22.out).mono ?_); (case side1 => repeat (first | exact (by repeat (first | (with_reducible exact HR571.out) | (with_reducible refine Kd.C_alloc ?_ _) | (with_reducible refine Kd.C_drewN ?_ _) | (with_reducible refine Kd.C_drew ?_) | exact HR571.out)) | (with_reducible refine Kd.C_alloc ?_ _) | (with_reducible refine Kd.C_drewN ?_ _) | (with_reducible refine Kd.C_drew ?_))); (case side2 => exact HC571.out); rintro e w62 ⟨rfl, hb⟩; refine ⟨_, rfl, ?_⟩; have n0_ := Aside0.mk (Kd.R_below (by (with_reducible repeat (first | apply Kd.R_alloc | apply Kd.R_drewN | apply Kd.R_drew)); exact HO_7.out) hb); have n1_ := Aside0.mk (Kd.C_below (by repeat (first | (with_reducible exact HR571.out) | (with_reducible refine Kd.C_alloc ?_ _) | (with_reducible refine Kd.C_drewN ?_ _) | (with_reducible refine Kd.C_drew ?_) | exact HR571.out)) hb); have n2_ := Aside0.mk (below_step (by repeat (first | (with_reducible first | exact HB.out | apply below_alloc | apply pw_below_drewN | apply below_drew1) | exact HB.out)) hb); clear HO_7; clear HR571; clear HB; have HO_7 := n0_; have HR571 := n1_; have HB := n2_; clear n0_ n1_ n2_; (try clear hb); (try clear hb2); (try clear hk); (try clear hi)))
                            go_ret
                            exact ⟨by first | rfl | (simp [errW_none, errW_some] <;> rfl) | (simp [*, errW_none, errW_some] <;> rfl), by repeat (first | (with_reducible first | exact HB.out | apply below_alloc | apply pw_below_drewN | apply below_drew1) | exact HB.out)⟩
                        · replace c51 := Bool.eq_false_iff.mpr c51
                          subst c51
                          have H1 : (some false) = some r := by rw [if_neg (show ¬ (false = true) by decide)] at H; exact H
                          clear H
                          have H := H1
                          clear H1
                          obtain rfl := Option.some.inj H
                          go_wp2_with (first | ((with_reducible refine gate_callee (f := 58) rfl ?_); refine goesL_ (some 61) rfl rfl Try.func58 (by kernel_rfl) rfl #[.slice Ao17 x7_2.length co17] rfl (by (try simp only [List.map_toArray, List.map_cons, List.map_nil]); first | done | rfl | (simp only [List.length_drop, List.length_take]; rfl)) ?_; (with_reducible refine (history_Formed.calls _ _ x7_2 t566 t567 _ ?side1 ?side2 A19.out).mono ?_); (case side1 => repeat (first | exact (Kd.R_reads' HO_7.out).2.2 | (with_reducible refine Kd.C_alloc ?_ _) | (with_reducible refine Kd.C_drewN ?_ _) | (with_reducible refine Kd.C_drew ?_))); (case side2 => exact (Kd.R_reads' HO_7.out).2.1); rintro e w63 ⟨rfl, hb⟩; refine ⟨_, rfl, ?_⟩; have n0_ := Aside0.mk (Kd.R_below (by (with_reducible repeat (first | apply Kd.R_alloc | apply Kd.R_drewN | apply Kd.R_drew)); exact HO_7.out) hb); have n1_ := Aside0.mk (below_step (by repeat (first | (with_reducible first | exact HB.out | apply below_alloc | apply pw_below_drewN | apply below_drew1) | exact HB.out)) hb); clear HO_7; clear HB; have HO_7 := n0_; have HB := n1_; clear n0_ n1_; (try clear hb); (try clear hb2); (try clear hk); (try clear hi); have q64 : (x1_15 : Int) ≤ ((x7_2.length : Int) : Int) := of_decide_eq_true (by first | (with_reducible assumption) | assumption); obtain ⟨i064, hi064, _, hsz64, _⟩ := info_parts info31; have hroom64 : x7_2.length ≤ co17 := (Kd.R_reads' HO_7.out).2.1; have hC64 : Kd.C k31 _ Ao17 x7_2.length x7_2 := (Kd.R_reads' HO_7.out).2.2; have hcut64 := cut_to (P := Try.prog) 22 31 .i64 Try.underlying22 hi064 Ao17 x7_2.length co17 x1_15 (of_decide_eq_true (by first | (with_reducible assumption) | assumption)) q64 hroom64; have hr64 := Kd.C_take (m := (x1_15 : Int).toNat) hC64 (by omega); have hy64 : y568.length = (x1_15 : Int).toNat := (by rw [Ny568.out, List.length_take]; omega); rw [← Ny568.out] at hr64; rw [← hy64] at hcut64; have HR571 := Aside0.mk hr64; have HC571 := Aside0.mk (show y568.length ≤ co17 from by omega); clear hr64 hC64 hroom64 hi064 hsz64; have KY64 := Aside0.mk hy64; clear hy64; have KL64 := Aside0.mk (show (x1_15 : Int).toNat ≤ x7_2.length from by omega); replace q64 := eq_true q64) | ((with_reducible refine gate_callee (f := 58) rfl ?_); refine goesL_ (some 68) rfl rfl Try.func58 (by kernel_rfl) rfl #[.slice Ao17 y568.length co17] rfl (by (try simp only [List.map_toArray, List.map_cons, List.map_nil]); first | done | rfl | (simp only [List.length_drop, List.length_take]; rfl)) ?_; (with_reducible refine (history_Formed.calls _ _ y568 t572 t573 _ ?side1 ?side2 A22.out).mono ?_); (case side1 => repeat (first | exact (by repeat (first | (with_reducible exact HR571.out) | (with_reducible refine Kd.C_alloc ?_ _) | (with_reducible refine Kd.C_drewN ?_ _) | (with_reducible refine Kd.C_drew ?_) | exact HR571.out)) | (with_reducible refine Kd.C_alloc ?_ _) | (with_reducible refine Kd.C_drewN ?_ _) | (with_reducible refine Kd.C_drew ?_))); (case side2 => exact HC571.out); rintro e w65 ⟨rfl, hb⟩; refine ⟨_, rfl, ?_⟩; have n0_ := Aside0.mk (Kd.R_below (by (with_reducible repeat (first | apply Kd.R_alloc | apply Kd.R_drewN | apply Kd.R_drew)); exact HO_7.out) hb); have n1_ := Aside0.mk (Kd.C_below (by repeat (first | (with_reducible exact HR571.out) | (with_reducible refine Kd.C_alloc ?_ _) | (with_reducible refine Kd.C_drewN ?_ _) | (with_reducible refine Kd.C_drew ?_) | exact HR571.out)) hb); have n2_ := Aside0.mk (below_step (by repeat (first | (with_reducible first | exact HB.out | apply below_alloc | apply pw_below_drewN | apply below_drew1) | exact HB.out)) hb); clear HO_7; clear HR571; clear HB; have HO_7 := n0_; have HR571 := n1_; have HB := n2_; clear n0_ n1_ n2_; (try clear hb); (try clear hb2); (try clear hk); (try clear hi)))
                          go_ret
                          exact ⟨by first | rfl | (simp [errW_none, errW_some] <;> rfl) | (simp [*, errW_none, errW_some] <;> rfl), by repeat (first | (with_reducible first | exact HB.out | apply below_alloc | apply pw_below_drewN | apply below_drew1) | exact HB.out)⟩
                    · rw [if_neg c21] at H
                      exact absurd H (by simp)
                  · rw [if_neg c20] at H
                    exact absurd H (by simp)

end Go.Proofs.YthjgmccpbcelgaaPr
