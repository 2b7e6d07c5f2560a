/- Contracts of Go functions, printed by a program of this session over the translation: each call answers what its Lean function says. -/
import Derived.Test.YtebjiimlcnmfpaaGreatPr0
import Derived.Test.YtebjiimlcnmfpaaGreatPrCartouchelaw13Shown
import Derived.Test.YtebjiimlcnmfpaaGreatPrCartouchelaw13Few
import Derived.Test.YtebjiimlcnmfpaaGreatB14
namespace Go.Proofs.YtebjiimlcnmfpaaGreatPr
open Go.RowKit Go.Proofs.YtebjiimlcnmfpaaGreatW.PrintWords Go.Proofs.YtebjiimlcnmfpaaGreatW.PrintLast Go.Proofs.YtebjiimlcnmfpaaGreatW.PrintMore
attribute [local go_sem] max2_int min2_int max_two min_two max_three min_three max_four min_four   -- for this text's walks alone
set_option linter.unusedVariables false
set_option linter.unusedSimpArgs false

/-! ### cartouchelaw13_CheckTurns: function 13 -/
def cartouchelaw13_CheckTurns.j0 : Nat → List (S50) → Int → List (S24) → Int → Bool → Bool → Option (Bool)
  | 0, _, _, _, _, _, _ => none
  | k + 1, x3, x4, x5, x6, x7, x37 => if x37 = true then (some x7) else ((some (([] : List (S24)) : List (S24))).bind fun y679 => (if 0 ≤ x6 then (if x6 ≤ (x5.length : Int) then ((some (x5.drop (x6 : Int).toNat : List (S24))).bind fun y682 => (if y679.length + y682.length < 3518437208883 then ((some (y679 ++ y682 : List (S24))).bind fun y686 => ((some (x5.take (x6 : Int).toNat : List (S24))).bind fun y689 => (if y686.length + y689.length < 3518437208883 then (if x7 = true then ((check_Round.f x3 x4 x5).bind fun t696 => ((check_Round.f x3 x4 (y686 ++ y689)).bind fun t697 => (some (t696 == t697)))) else (some false)) else (none)))) else (none))) else (none)) else (none)))
def cartouchelaw13_CheckTurns.f (k : Nat) (l0_0 : List (S50)) (a0_1 : Int) (l0_2 : List (S24)) (a0_3 : Int) : Option (Bool) := (cartouchelaw13_shown.f).bind fun t677 => ((cartouchelaw13_few.f k l0_0).bind fun t678 => (if t678 = true then (if (l0_2.length : Int) > 100 then (cartouchelaw13_CheckTurns.j0 k l0_0 a0_1 l0_2 a0_3 t677 true) else (if a0_3 < 0 then (cartouchelaw13_CheckTurns.j0 k l0_0 a0_1 l0_2 a0_3 t677 true) else (cartouchelaw13_CheckTurns.j0 k l0_0 a0_1 l0_2 a0_3 t677 (decide (a0_3 > (l0_2.length : Int)))))) else (cartouchelaw13_CheckTurns.j0 k l0_0 a0_1 l0_2 a0_3 t677 true)))
theorem cartouchelaw13_CheckTurns.mono_l : ∀ k, (∀ y0 y1 y2 y3 y4 y5, LeO (cartouchelaw13_CheckTurns.j0 k y0 y1 y2 y3 y4 y5) (cartouchelaw13_CheckTurns.j0 (k + 1) y0 y1 y2 y3 y4 y5))
  | 0 => fun _ _ _ _ _ _ r h => by simp [cartouchelaw13_CheckTurns.j0] at h
  | k + 1 => by
    have ih0 := cartouchelaw13_CheckTurns.mono_l k
    · intro y0 y1 y2 y3 y4 y5
      unfold cartouchelaw13_CheckTurns.j0
      repeat' first
      | (with_reducible exact ih0 _ _ _ _ _ _)
      | (with_reducible exact cartouchelaw13_few.mono _ _)
      | (with_reducible exact LeO.refl _)
      | (with_reducible exact LeO.none _)
      | (with_reducible refine LeO.ite ?_ ?_)
      | (with_reducible refine LeO.bind ?_ (fun _ => ?_))
      | exact ih0 _ _ _ _ _ _
      | exact cartouchelaw13_few.mono _ _
      | exact LeO.none _
      | refine LeO.ite ?_ ?_
      | refine LeO.bind ?_ (fun _ => ?_)
theorem cartouchelaw13_CheckTurns.mono : ∀ a0 a1 a2 a3 k, LeO (cartouchelaw13_CheckTurns.f k a0 a1 a2 a3) (cartouchelaw13_CheckTurns.f (k + 1) a0 a1 a2 a3) := by
  intro a0 a1 a2 a3 k
  have ih0 := cartouchelaw13_CheckTurns.mono_l k
  unfold cartouchelaw13_CheckTurns.f
  repeat' first
      | (with_reducible exact ih0 _ _ _ _ _ _)
      | (with_reducible exact cartouchelaw13_few.mono _ _)
      | (with_reducible exact LeO.refl _)
      | (with_reducible exact LeO.none _)
      | (with_reducible refine LeO.ite ?_ ?_)
      | (with_reducible refine LeO.bind ?_ (fun _ => ?_))
      | exact ih0 _ _ _ _ _ _
      | exact cartouchelaw13_few.mono _ _
      | exact LeO.none _
      | refine LeO.ite ?_ ?_
      | refine LeO.bind ?_ (fun _ => ?_)
def cartouchelaw13_CheckTurns.T9 : Bool × List (List Nat × List Nat) := (true, [([], []), ([], []), ([], []), ([1, 2], [1, 2]), ([0, 3], [0, 3]), ([], []), ([], []), ([5, 6], [5, 6]), ([4, 7, 4], [4, 7]), ([8, 8, 0, 1, 2, 3, 4, 5, 6, 7, 8], [8])])
def cartouchelaw13_CheckTurns.B9 : List Nat := [0, 0, 0, 6, 15, 0, 0, 96, 255, 511]
theorem cartouchelaw13_CheckTurns.tab9 : rtab .any (opsOf Tryz.f13 9) = cartouchelaw13_CheckTurns.T9 := by kernel_rfl
theorem cartouchelaw13_CheckTurns.bits9 : waitsOk cartouchelaw13_CheckTurns.T9.2 cartouchelaw13_CheckTurns.B9 = true := by kernel_rfl
set_option maxHeartbeats 8000000 in
set_option maxRecDepth 100000 in
theorem cartouchelaw13_CheckTurns.calls (k : Nat) (A0_0 : Option Addr) (c0_0 : Nat) (l0_0 : List (S50)) (a0_1 : Int) (A0_2 : Option Addr) (c0_2 : Nat) (l0_2 : List (S24)) (a0_3 : Int) (r : Bool) (w : World) (hr0_0 : Kd.C k50 w A0_0 l0_0.length l0_0) (hc0_0 : l0_0.length ≤ c0_0) (hr0_2 : Kd.C k24 w A0_2 l0_2.length l0_2) (hc0_2 : l0_2.length ≤ c0_2) (h : cartouchelaw13_CheckTurns.f k l0_0 a0_1 l0_2 a0_3 = some r) :
    Calls Tryz.prog 13 #[.agg #[.slice A0_0 l0_0.length c0_0, .int .i64 a0_1, .slice A0_2 l0_2.length c0_2, .int .i64 a0_3]] w fun e w' => e = .returned (.bool r) ∧ Below w.heap.size w w' := by
  have hu62 := Tryz.underlying62
  have HR0_0 := Aside0.mk hr0_0
  have HC0_0 := Aside0.mk hc0_0
  clear hr0_0 hc0_0
  have HR0_2 := Aside0.mk hr0_2
  have HC0_2 := Aside0.mk hc0_2
  clear hr0_2 hc0_2
  have HB := Aside0.mk (Below.refl w.heap.size w)
  have H : ((cartouchelaw13_shown.f).bind fun t677 => ((cartouchelaw13_few.f k l0_0).bind fun t678 => (if t678 = true then (if (l0_2.length : Int) > 100 then (cartouchelaw13_CheckTurns.j0 k l0_0 a0_1 l0_2 a0_3 t677 true) else (if a0_3 < 0 then (cartouchelaw13_CheckTurns.j0 k l0_0 a0_1 l0_2 a0_3 t677 true) else (cartouchelaw13_CheckTurns.j0 k l0_0 a0_1 l0_2 a0_3 t677 (decide (a0_3 > (l0_2.length : Int)))))) else (cartouchelaw13_CheckTurns.j0 k l0_0 a0_1 l0_2 a0_3 t677 true)))) = some r := h
  clear h
  replace H := Option.bind_eq_some_iff.mp H
  obtain ⟨t677, A20, H⟩ := H
  replace H : ((cartouchelaw13_few.f k l0_0).bind fun t678 => (if t678 = true then (if (l0_2.length : Int) > 100 then (cartouchelaw13_CheckTurns.j0 k l0_0 a0_1 l0_2 a0_3 t677 true) else (if a0_3 < 0 then (cartouchelaw13_CheckTurns.j0 k l0_0 a0_1 l0_2 a0_3 t677 true) else (cartouchelaw13_CheckTurns.j0 k l0_0 a0_1 l0_2 a0_3 t677 (decide (a0_3 > (l0_2.length : Int)))))) else (cartouchelaw13_CheckTurns.j0 k l0_0 a0_1 l0_2 a0_3 t677 true))) = some r := H
  have A2 := Aside0.mk A20
  clear A20
  replace H := Option.bind_eq_some_iff.mp H
  obtain ⟨t678, A30, H⟩ := H
  replace H : (if t678 = true then (if (l0_2.length : Int) > 100 then (cartouchelaw13_CheckTurns.j0 k l0_0 a0_1 l0_2 a0_3 t677 true) else (if a0_3 < 0 then (cartouchelaw13_CheckTurns.j0 k l0_0 a0_1 l0_2 a0_3 t677 true) else (cartouchelaw13_CheckTurns.j0 k l0_0 a0_1 l0_2 a0_3 t677 (decide (a0_3 > (l0_2.length : Int)))))) else (cartouchelaw13_CheckTurns.j0 k l0_0 a0_1 l0_2 a0_3 t677 true)) = some r := H
  have A3 := Aside0.mk A30
  clear A30
  have HC4 := Aside0.mk H
  clear H
  go_enter Tryz.func13, Tryz.ntmps13
  go_upto_region 7 with (first | ((with_reducible refine gate_dst (N := 1) rfl ?_); (try (refine gate_guard (by rfl) ?_; dsimp only)); refine box_event ?hg (N := 1) ?hd (cs := #[.slice A0_0 l0_0.length c0_0, .int .i64 a0_1, .slice A0_2 l0_2.length c0_2, .int .i64 a0_3]) (t := 62) ?hr ?_; (case hd => rfl); (case hg => rfl); (case hr => first | (go_simp; done) | (go_simp; rfl)); intro gb676 hg w5 hbox hb; have n0_ := Aside0.mk (below_step (by repeat (first | (with_reducible first | exact HB.out | apply below_alloc | apply pw_below_drewN | apply below_drew1) | exact HB.out)) hb); have n1_ := Aside0.mk (hbox); have n2_ := Aside0.mk ((by rw [hg]; exact (below_size (by repeat (first | (with_reducible first | exact HB.out | apply below_alloc | apply pw_below_drewN | apply below_drew1) | exact HB.out))) : w.heap.size ≤ gb676)); have n3_ := Aside0.mk ((by rw [hg]; exact (below_size (by repeat (first | (with_reducible first | exact HB.out | apply below_alloc | apply pw_below_drewN | apply below_drew1) | exact HB.out))) : w.heap.size ≤ gb676)); clear HB; have HB := n0_; have BK676 := n1_; have GW676 := n2_; have GE676 := n3_; clear n0_ n1_ n2_ n3_; clear hb hbox hg; have hcz6_0 : w5.cell? ⟨gb676, 0, none⟩ = some (.slice A0_0 l0_0.length c0_0) := (blk_cell BK676.out 0).trans rfl; have hcz6_1 : w5.cell? ⟨gb676, 1, none⟩ = some (.int .i64 a0_1) := (blk_cell BK676.out 1).trans rfl; have hcz6_2 : w5.cell? ⟨gb676, 2, none⟩ = some (.slice A0_2 l0_2.length c0_2) := (blk_cell BK676.out 2).trans rfl; have hcz6_3 : w5.cell? ⟨gb676, 3, none⟩ = some (.int .i64 a0_3) := (blk_cell BK676.out 3).trans rfl; have hfz6_0 := blk_frozen BK676.out 0; have hfz6_1 := blk_frozen BK676.out 1; have hfz6_2 := blk_frozen BK676.out 2; have hfz6_3 := blk_frozen BK676.out 3) | ((with_reducible refine gate_callee (f := 36) rfl ?_); refine goesL_ (some 18) rfl rfl Tryz.func36 (by kernel_rfl) rfl #[] rfl (by (try simp only [List.map_toArray, List.map_cons, List.map_nil]); first | done | rfl | (simp only [List.length_drop, List.length_take]; rfl)) ?_; (with_reducible refine (cartouchelaw13_shown.calls  t677 _ A2.out).mono ?_); rintro e w7 ⟨rfl, hb⟩; refine ⟨_, rfl, ?_⟩; have n0_ := Aside0.mk (blk_below (g := gb676) (o := .cells #[.slice A0_0 l0_0.length c0_0, .int .i64 a0_1, .slice A0_2 l0_2.length c0_2, .int .i64 a0_3] 62 (0, 0)) (by (with_reducible repeat (first | refine blk_drewN ?_ _ | refine blk_drew ?_ | refine blk_alloc ?_ _)); exact BK676.out) hb); have n1_ := Aside0.mk (below_step (by repeat (first | (with_reducible first | exact HB.out | apply below_alloc | apply pw_below_drewN | apply below_drew1 | refine below_set ?_ GE676.out) | exact HB.out)) hb); clear BK676; clear HB; have BK676 := n0_; have HB := n1_; clear n0_ n1_; (try clear hb); (try clear hb2); (try clear hk); (try clear hi)) | ((with_reducible refine gate_callee (f := 37) rfl ?_); refine goesL_ (some 20) rfl rfl Tryz.func37 (by kernel_rfl) rfl #[.slice A0_0 l0_0.length c0_0] rfl (by (try simp only [List.map_toArray, List.map_cons, List.map_nil]); first | done | rfl | (simp only [List.length_drop, List.length_take]; rfl)) ?_; (with_reducible refine (cartouchelaw13_few.calls k _ _ l0_0 t678 _ ?side1 ?side2 A3.out).mono ?_); (case side1 => repeat (first | exact (Kd.C_below HR0_0.out HB.out) | (with_reducible refine Kd.C_alloc ?_ _) | (with_reducible refine Kd.C_drewN ?_ _) | (with_reducible refine Kd.C_drew ?_))); (case side2 => exact HC0_0.out); rintro e w' ⟨rfl, ⟨nd, rfl⟩⟩; refine ⟨_, rfl, ?_⟩))
  (try simp only [Act.put, List.setIfInBounds_toArray, List.set_cons_zero, List.set_cons_succ])
  go_cut [37] (fun v37 wc => ∃ (kq : Nat) (x37_3 : Bool), v37 = .bool x37_3 ∧ Aside0 (cartouchelaw13_CheckTurns.j0 kq l0_0 a0_1 l0_2 a0_3 t677 x37_3 = some r) ∧ Aside0 (kq ≤ k) ∧ Aside0 (wc.heap[gb676]? = some (.cells #[(.slice A0_0 l0_0.length c0_0), .int .i64 a0_1, (.slice A0_2 l0_2.length c0_2), .int .i64 a0_3] 62 (0, 0))) ∧ Aside0 (Below w.heap.size w wc))
  case first =>
    have H := HC4.out
    clear HC4
    by_cases c8 : t678 = true
    · subst c8
      have H1 : (if (l0_2.length : Int) > 100 then (cartouchelaw13_CheckTurns.j0 k l0_0 a0_1 l0_2 a0_3 t677 true) else (if a0_3 < 0 then (cartouchelaw13_CheckTurns.j0 k l0_0 a0_1 l0_2 a0_3 t677 true) else (cartouchelaw13_CheckTurns.j0 k l0_0 a0_1 l0_2 a0_3 t677 (decide (a0_3 > (l0_2.length : Int)))))) = some r := by rw [if_pos rfl] at H; exact H
      clear H
      have H := H1
      clear H1
      by_cases c9 : (l0_2.length : Int) > 100
      · rw [if_pos c9] at H
        have c9b0 : decide (100 < (l0_2.length : Int)) = true := decide_eq_true c9
        have c9b1 : decide (100 < l0_2.length) = true := decide_eq_true (by omega)
        clear c9
        (first | rw [c9b0] | (simp only [i64_w, i32_w]; rw [c9b0]) | skip)
        have H' := Aside0.mk H
        clear H
        go_wp2
        go_meet
        case rel => exact ⟨_, (true), (by first | rfl | (simp; done) | (simp [*]; done)), H', ⟨by first | omega | exact Nat.le_refl _⟩, ⟨by (with_reducible repeat (first | refine blk_drewN ?_ _ | refine blk_drew ?_ | refine blk_alloc ?_ _)); exact BK676.out⟩, ⟨by repeat (first | (with_reducible first | exact HB.out | apply below_alloc | apply pw_below_drewN | apply below_drew1 | refine below_set ?_ GE676.out) | exact HB.out)⟩⟩
      · rw [if_neg c9] at H
        have c9b0 : decide (100 < (l0_2.length : Int)) = false := decide_eq_false c9
        have c9b1 : decide (100 < l0_2.length) = false := decide_eq_false (by omega)
        clear c9
        (first | rw [c9b0] | (simp only [i64_w, i32_w]; rw [c9b0]) | skip)
        by_cases c10 : a0_3 < 0
        · rw [if_pos c10] at H
          have c10b0 : decide (a0_3 < 0) = true := decide_eq_true c10
          clear c10
          have H' := Aside0.mk H
          clear H
          go_wp2
          go_meet
          case rel => exact ⟨_, (true), (by first | rfl | (simp; done) | (simp [*]; done)), H', ⟨by first | omega | exact Nat.le_refl _⟩, ⟨by (with_reducible repeat (first | refine blk_drewN ?_ _ | refine blk_drew ?_ | refine blk_alloc ?_ _)); exact BK676.out⟩, ⟨by repeat (first | (with_reducible first | exact HB.out | apply below_alloc | apply pw_below_drewN | apply below_drew1 | refine below_set ?_ GE676.out) | exact HB.out)⟩⟩
        · rw [if_neg c10] at H
          have c10b0 : decide (a0_3 < 0) = false := decide_eq_false c10
          clear c10
          have H' := Aside0.mk H
          clear H
          go_wp2
          go_meet
          case rel => exact ⟨_, (decide (a0_3 > (l0_2.length : Int))), (by first | rfl | (simp; done) | (simp [*]; done)), H', ⟨by first | omega | exact Nat.le_refl _⟩, ⟨by (with_reducible repeat (first | refine blk_drewN ?_ _ | refine blk_drew ?_ | refine blk_alloc ?_ _)); exact BK676.out⟩, ⟨by repeat (first | (with_reducible first | exact HB.out | apply below_alloc | apply pw_below_drewN | apply below_drew1 | refine below_set ?_ GE676.out) | exact HB.out)⟩⟩
    · replace c8 := Bool.eq_false_iff.mpr c8
      subst c8
      have H1 : (cartouchelaw13_CheckTurns.j0 k l0_0 a0_1 l0_2 a0_3 t677 true) = some r := by rw [if_neg (show ¬ (false = true) by decide)] at H; exact H
      clear H
      have H := H1
      clear H1
      have H' := Aside0.mk H
      clear H
      go_wp2
      go_meet
      case rel => exact ⟨_, (true), (by first | rfl | (simp; done) | (simp [*]; done)), H', ⟨by first | omega | exact Nat.le_refl _⟩, ⟨by (with_reducible repeat (first | refine blk_drewN ?_ _ | refine blk_drew ?_ | refine blk_alloc ?_ _)); exact BK676.out⟩, ⟨by repeat (first | (with_reducible first | exact HB.out | apply below_alloc | apply pw_below_drewN | apply below_drew1 | refine below_set ?_ GE676.out) | exact HB.out)⟩⟩
  case rest =>
    clear HC4
    try clear c1
    try clear p2
    try clear c3
    try clear c8
    try clear c9
    try clear c9b0
    try clear c9b1
    try clear c10
    try clear c10b0
    try clear hcz6_0
    try clear hcz6_1
    try clear hcz6_2
    try clear hcz6_3
    try clear hfz6_0
    try clear hfz6_1
    try clear hfz6_2
    try clear hfz6_3
    obtain ⟨kq, x37_3, rfl, HA, HJ3, BK676, HB⟩ := hcut
    cases kq with
    | zero => exact absurd HA.out (by simp [cartouchelaw13_CheckTurns.j0])
    | succ kj3 =>
      have H := HA.out
      clear HA
      simp only [cartouchelaw13_CheckTurns.j0] at H
      by_cases c11 : x37_3 = true
      · subst c11
        have H1 : (some t677) = some r := by rw [if_pos rfl] at H; exact H
        clear H
        have H := H1
        clear H1
        obtain rfl := Option.some.inj H
        go_wp2
        go_ret
        exact ⟨by first | rfl | (simp [errW_none, errW_some] <;> rfl) | (simp [*, errW_none, errW_some] <;> rfl), by repeat (first | (with_reducible first | exact HB.out | apply below_alloc | apply pw_below_drewN | apply below_drew1 | refine below_set ?_ GE676.out) | exact HB.out)⟩
      · replace c11 := Bool.eq_false_iff.mpr c11
        subst c11
        have H1 : ((some (([] : List (S24)) : List (S24))).bind fun y679 => (if 0 ≤ a0_3 then (if a0_3 ≤ (l0_2.length : Int) then ((some (l0_2.drop (a0_3 : Int).toNat : List (S24))).bind fun y682 => (if y679.length + y682.length < 3518437208883 then ((some (y679 ++ y682 : List (S24))).bind fun y686 => ((some (l0_2.take (a0_3 : Int).toNat : List (S24))).bind fun y689 => (if y686.length + y689.length < 3518437208883 then (if t677 = true then ((check_Round.f l0_0 a0_1 l0_2).bind fun t696 => ((check_Round.f l0_0 a0_1 (y686 ++ y689)).bind fun t697 => (some (t696 == t697)))) else (some false)) else (none)))) else (none))) else (none)) else (none))) = some r := by rw [if_neg (show ¬ (false = true) by decide)] at H; exact H
        clear H
        have H := H1
        clear H1
        obtain ⟨y679, hy679⟩ : ∃ y_ : List (S24), y_ = (([] : List (S24))) := ⟨_, rfl⟩
        replace H : (if 0 ≤ a0_3 then (if a0_3 ≤ (l0_2.length : Int) then ((some (l0_2.drop (a0_3 : Int).toNat : List (S24))).bind fun y682 => (if y679.length + y682.length < 3518437208883 then ((some (y679 ++ y682 : List (S24))).bind fun y686 => ((some (l0_2.take (a0_3 : Int).toNat : List (S24))).bind fun y689 => (if y686.length + y689.length < 3518437208883 then (if t677 = true then ((check_Round.f l0_0 a0_1 l0_2).bind fun t696 => ((check_Round.f l0_0 a0_1 (y686 ++ y689)).bind fun t697 => (some (t696 == t697)))) else (some false)) else (none)))) else (none))) else (none)) else (none)) = some r := by first | (rw [hy679]; with_reducible exact H) | (have H2_ := (Option.bind_some _ _).symm.trans H; rw [hy679]; with_reducible exact H2_) | (have H2_ := (Option.bind_some _ _).symm.trans H; with_reducible exact H2_) | with_reducible exact H | (rw [hy679]; exact H) | exact H
        have Ny679 := Aside0.mk hy679
        clear hy679
        by_cases c12 : 0 ≤ a0_3
        · rw [if_pos c12] at H
          have c12b0 := eq_true c12
          have c12b1 : decide (0 ≤ a0_3) = true := decide_eq_true c12
          clear c12
          by_cases c13 : a0_3 ≤ (l0_2.length : Int)
          · rw [if_pos c13] at H
            have c13b0 := eq_true c13
            have c13b1 : decide (a0_3 ≤ (l0_2.length : Int)) = true := decide_eq_true c13
            clear c13
            obtain ⟨y682, hy682⟩ : ∃ y_ : List (S24), y_ = (l0_2.drop (a0_3 : Int).toNat) := ⟨_, rfl⟩
            replace H : (if y679.length + y682.length < 3518437208883 then ((some (y679 ++ y682 : List (S24))).bind fun y686 => ((some (l0_2.take (a0_3 : Int).toNat : List (S24))).bind fun y689 => (if y686.length + y689.length < 3518437208883 then (if t677 = true then ((check_Round.f l0_0 a0_1 l0_2).bind fun t696 => ((check_Round.f l0_0 a0_1 (y686 ++ y689)).bind fun t697 => (some (t696 == t697)))) else (some false)) else (none)))) else (none)) = some r := by first | (rw [hy682]; with_reducible exact H) | (have H2_ := (Option.bind_some _ _).symm.trans H; rw [hy682]; with_reducible exact H2_) | (have H2_ := (Option.bind_some _ _).symm.trans H; with_reducible exact H2_) | with_reducible exact H | (rw [hy682]; exact H) | exact H
            have Ny682 := Aside0.mk hy682
            clear hy682
            by_cases c14 : y679.length + y682.length < 3518437208883
            · rw [if_pos c14] at H
              have LMc14 := Aside0.mk c14
              clear c14
              obtain ⟨y686, hy686⟩ : ∃ y_ : List (S24), y_ = (y679 ++ y682) := ⟨_, rfl⟩
              replace H : ((some (l0_2.take (a0_3 : Int).toNat : List (S24))).bind fun y689 => (if y686.length + y689.length < 3518437208883 then (if t677 = true then ((check_Round.f l0_0 a0_1 l0_2).bind fun t696 => ((check_Round.f l0_0 a0_1 (y686 ++ y689)).bind fun t697 => (some (t696 == t697)))) else (some false)) else (none))) = some r := by first | (rw [hy686]; with_reducible exact H) | (have H2_ := (Option.bind_some _ _).symm.trans H; rw [hy686]; with_reducible exact H2_) | (have H2_ := (Option.bind_some _ _).symm.trans H; with_reducible exact H2_) | with_reducible exact H | (rw [hy686]; exact H) | exact H
              have Ny686 := Aside0.mk hy686
              clear hy686
              have c15b0 := eq_true (of_decide_eq_true (by first | (with_reducible assumption) | assumption) : 0 ≤ a0_3)
              have c16b0 := eq_true (of_decide_eq_true (by first | (with_reducible assumption) | assumption) : a0_3 ≤ (l0_2.length : Int))
              obtain ⟨y689, hy689⟩ : ∃ y_ : List (S24), y_ = (l0_2.take (a0_3 : Int).toNat) := ⟨_, rfl⟩
              replace H : (if y686.length + y689.length < 3518437208883 then (if t677 = true then ((check_Round.f l0_0 a0_1 l0_2).bind fun t696 => ((check_Round.f l0_0 a0_1 (y686 ++ y689)).bind fun t697 => (some (t696 == t697)))) else (some false)) else (none)) = some r := by first | (rw [hy689]; with_reducible exact H) | (have H2_ := (Option.bind_some _ _).symm.trans H; rw [hy689]; with_reducible exact H2_) | (have H2_ := (Option.bind_some _ _).symm.trans H; with_reducible exact H2_) | with_reducible exact H | (rw [hy689]; exact H) | exact H
              have Ny689 := Aside0.mk hy689
              clear hy689
              by_cases c17 : y686.length + y689.length < 3518437208883
              · rw [if_pos c17] at H
                have LMc17 := Aside0.mk c17
                clear c17
                obtain ⟨y693, hy693⟩ : ∃ y_ : List (S24), y_ = (y686 ++ y689) := ⟨_, rfl⟩
                replace H : (if t677 = true then ((check_Round.f l0_0 a0_1 l0_2).bind fun t696 => ((check_Round.f l0_0 a0_1 y693).bind fun t697 => (some (t696 == t697)))) else (some false)) = some r := by first | (rw [hy693]; with_reducible exact H) | (have H2_ := (Option.bind_some _ _).symm.trans H; rw [hy693]; with_reducible exact H2_) | (have H2_ := (Option.bind_some _ _).symm.trans H; with_reducible exact H2_) | with_reducible exact H | (rw [hy693]; exact H) | exact H
                have Ny693 := Aside0.mk hy693
                clear hy693
                by_cases c18 : t677 = true
                · subst c18
                  have H1 : ((check_Round.f l0_0 a0_1 l0_2).bind fun t696 => ((check_Round.f l0_0 a0_1 y693).bind fun t697 => (some (t696 == t697)))) = some r := by rw [if_pos rfl] at H; exact H
                  clear H
                  have H := H1
                  clear H1
                  replace H := Option.bind_eq_some_iff.mp H
                  obtain ⟨t696, A190, H⟩ := H
                  replace H : ((check_Round.f l0_0 a0_1 y693).bind fun t697 => (some (t696 == t697))) = some r := H
                  have A19 := Aside0.mk A190
                  clear A190
                  replace H := Option.bind_eq_some_iff.mp H
                  obtain ⟨t697, A200, H⟩ := H
                  replace H : (some (t696 == t697)) = some r := H
                  have A20 := Aside0.mk A200
                  clear A200
                  obtain rfl := Option.some.inj H
                  try go_wp2
                  have n0_ := Aside0.mk (blk_drew BK676.out)
                  have n1_ := Aside0.mk (below_drew1 HB.out)
                  clear BK676
                  clear HB
                  have BK676 := n0_
                  have HB := n1_
                  clear n0_ n1_
                  have q22 : (a0_3 : Int) ≤ ((l0_2.length : Int) : Int) := of_decide_eq_true (by first | (with_reducible assumption) | assumption)
                  obtain ⟨i022, hi022, _, hsz22, _⟩ := info_parts info24
                  have hroom22 : l0_2.length ≤ c0_2 := HC0_2.out
                  have hC22 : Kd.C k24 _ A0_2 l0_2.length l0_2 := HR0_2.out
                  have q022 : (0 : Int) ≤ (a0_3 : Int) := of_decide_eq_true (by first | (with_reducible assumption) | assumption)
                  have hcut22 := cut_from (P := Tryz.prog) 28 24 .i64 Tryz.underlying28 hi022 5 hsz22 A0_2 l0_2.length c0_2 a0_3 q022 q22
                  have hr22 := Kd.C_drop (m := (a0_3 : Int).toNat) (c := c0_2) hC22 (by omega) hroom22
                  obtain ⟨A22, hA22⟩ : ∃ A1, A1 = (if c0_2 = (a0_3 : Int).toNat then A0_2 else (A0_2 : Option Addr).map (·.add ((a0_3 : Int).toNat * 5))) := ⟨_, rfl⟩
                  obtain ⟨c22, hc22⟩ : ∃ c1, c1 = c0_2 - (a0_3 : Int).toNat := ⟨_, rfl⟩
                  have hy22 : y682.length = l0_2.length - (a0_3 : Int).toNat := (by rw [Ny682.out, List.length_drop] <;> omega)
                  rw [show (l0_2).drop (a0_3 : Int).toNat = y682 from Ny682.out.symm] at hr22
                  replace hr22 : Kd.C k24 _ A22 y682.length y682 := (by rw [hA22]; exact hr22)
                  rw [← hy22, ← hA22, ← hc22] at hcut22
                  have HR685 := Aside0.mk hr22
                  have HC685 := Aside0.mk (show y682.length ≤ c22 from by rw [hy22, hc22]; exact Nat.sub_le_sub_right hroom22 _)
                  clear hr22 hC22 hroom22 hi022 hsz22 hc22
                  have KY22 := Aside0.mk hy22
                  have KA22 := Aside0.mk hA22
                  clear hy22 hA22
                  replace q22 := eq_true q22
                  have q23 : (a0_3 : Int) ≤ ((l0_2.length : Int) : Int) := of_decide_eq_true (by first | (with_reducible assumption) | assumption)
                  obtain ⟨i023, hi023, _, hsz23, _⟩ := info_parts info24
                  have hroom23 : l0_2.length ≤ c0_2 := HC0_2.out
                  have hC23 : Kd.C k24 _ A0_2 l0_2.length l0_2 := HR0_2.out
                  have hcut23 := cut_to (P := Tryz.prog) 28 24 .i64 Tryz.underlying28 hi023 A0_2 l0_2.length c0_2 a0_3 (of_decide_eq_true (by first | (with_reducible assumption) | assumption)) q23 hroom23
                  have hr23 := Kd.C_take (m := (a0_3 : Int).toNat) hC23 (by omega)
                  have hy23 : y689.length = (a0_3 : Int).toNat := (by rw [Ny689.out, List.length_take]; omega)
                  rw [← Ny689.out] at hr23
                  rw [← hy23] at hcut23
                  have HR692 := Aside0.mk hr23
                  have HC692 := Aside0.mk (show y689.length ≤ c0_2 from by omega)
                  clear hr23 hC23 hroom23 hi023 hsz23
                  have KY23 := Aside0.mk hy23
                  clear hy23
                  replace q23 := eq_true q23
                  refine start_ (n := 10) (S := fun w' => True) (ds := []) #[false, false, false, false, false, false, false, false, false, false] (by kernel_rfl) rfl rfl trivial (fun hHeld => ?_); refine with_tabW cartouchelaw13_CheckTurns.tab9 cartouchelaw13_CheckTurns.bits9 (fun HT_ HW_ => ?_)
                  generalize wc.drew = w21 at BK676 HB HR685 HR692 hHeld ⊢
                  refine pure_ (i := 1) (N := some 40) (v := ?_) (a' := ?_) #[false, true, false, false, false, false, false, false, false, false] rfl rfl (any_of HT_.out (by kernel_rfl)) (fun _ _ _ h => h) (Or.inl ⟨by rfl, ?_⟩) ?_ ?_
                  rotate_left
                  · intro w'
                    go_simp
                    with_reducible rfl
                  rotate_left
                  · simp only [Act.put, List.setIfInBounds_toArray, List.set_cons_zero, List.set_cons_succ, i64_w, i32_w]
                    rfl
                  refine pure_ (i := 2) (N := some 41) (v := ?_) (a' := ?_) #[false, true, true, false, false, false, false, false, false, false] rfl rfl (any_of HT_.out (by kernel_rfl)) (fun _ _ _ h => h) (Or.inl ⟨by rfl, ?_⟩) ?_ ?_
                  rotate_left
                  · intro w'
                    go_simp
                    with_reducible rfl
                  rotate_left
                  · simp only [Act.put, List.setIfInBounds_toArray, List.set_cons_zero, List.set_cons_succ, i64_w, i32_w]
                    rfl
                  refine pure_ (i := 3) (N := some 42) (v := ?_) (a' := ?_) #[false, true, true, true, false, false, false, false, false, false] rfl rfl (any_of HT_.out (by kernel_rfl)) (fun _ _ _ h => h) (Or.inl ⟨by rfl, ?_⟩) ?_ ?_
                  rotate_left
                  · intro w'
                    go_simp
                    with_reducible rfl
                  rotate_left
                  · simp only [Act.put, List.setIfInBounds_toArray, List.set_cons_zero, List.set_cons_succ, i64_w, i32_w]
                    rfl
                  refine pure_ (i := 5) (N := some 44) (v := ?_) (a' := ?_) #[false, true, true, true, false, true, false, false, false, false] rfl rfl (any_of HT_.out (by kernel_rfl)) (fun _ _ _ h => h) (Or.inl ⟨by rfl, ?_⟩) ?_ ?_
                  rotate_left
                  · intro w'
                    go_simp
                    with_reducible rfl
                  rotate_left
                  · simp only [Act.put, List.setIfInBounds_toArray, List.set_cons_zero, List.set_cons_succ, i64_w, i32_w]
                    rfl
                  refine pure_ (i := 6) (N := some 45) (v := ?_) (a' := ?_) #[false, true, true, true, false, true, true, false, false, false] rfl rfl (any_of HT_.out (by kernel_rfl)) (fun _ _ _ h => h) (Or.inl ⟨by rfl, ?_⟩) ?_ ?_
                  rotate_left
                  · intro w'
                    go_simp
                    with_reducible rfl
                  rotate_left
                  · simp only [Act.put, List.setIfInBounds_toArray, List.set_cons_zero, List.set_cons_succ, i64_w, i32_w]
                    rfl
                  refine pure_ (i := 7) (N := some 46) (v := ?_) (a' := ?_) #[false, true, true, true, false, true, true, true, false, false] rfl rfl (any_of HT_.out (by kernel_rfl)) (fun _ _ _ h => h) (Or.inl ⟨by rfl, ?_⟩) ?_ ?_
                  rotate_left
                  · intro w'
                    go_simp
                    with_reducible rfl
                  rotate_left
                  · simp only [Act.put, List.setIfInBounds_toArray, List.set_cons_zero, List.set_cons_succ, i64_w, i32_w]
                    rfl
                  refine one_ (i := 0) (N := some 39) #[true, true, true, true, false, true, true, true, false, false] rfl rfl (one_of HT_.out (by kernel_rfl)) (by decide) (fun K hK => ?_)
                  refine Kd.R_lit_step k24 _ 24 ?hg (N := 39) ?hd (xs := ([] : List (S24))) (inner := []) (ok := fun _ => True) (okp := fun _ => True) ?hr ?hp (fun _ hk => hk) trivial (Below.refl _ _) (Nat.le_refl _) (by simp) ?_; (case hd => rfl); (case hg => rfl); (case hr => first | (go_simp; done) | (go_simp; rfl)); (case hp => exact (Reps.none _ _))
                  intro v680 w24 ho25 hb hg_ hnew_
                  clear hg_ hnew_
                  (first | rw [← Ny679.out] at ho25 | (simp only [Int.reduceToNat] at ho25; rw [← Ny679.out] at ho25))
                  have n0_ := Aside0.mk (Kd.R_lower ho25 (below_size (by repeat (first | (with_reducible first | exact HB.out | apply below_alloc | apply pw_below_drewN | apply below_drew1 | refine below_set ?_ GE676.out) | exact HB.out))))
                  have n1_ := Aside0.mk (blk_below (g := gb676) (o := .cells #[.slice A0_0 l0_0.length c0_0, .int .i64 a0_1, .slice A0_2 l0_2.length c0_2, .int .i64 a0_3] 62 (0, 0)) (by (with_reducible repeat (first | refine blk_drewN ?_ _ | refine blk_drew ?_ | refine blk_alloc ?_ _)); exact BK676.out) hb)
                  have n2_ := Aside0.mk (below_step (by repeat (first | (with_reducible first | exact HB.out | apply below_alloc | apply pw_below_drewN | apply below_drew1 | refine below_set ?_ GE676.out) | exact HB.out)) hb)
                  clear BK676
                  clear HB
                  have HO681 := n0_
                  have BK676 := n1_
                  have HB := n2_
                  clear n0_ n1_ n2_
                  clear hb ho25
                  refine hK.out _ _ trivial (fun hHeld => ?_)
                  clear hK K
                  refine norm_ (a' := ?_) ?_ ?_
                  rotate_left
                  · show Act.put _ (some 39) _ = _
                    simp only [Act.put, List.setIfInBounds_toArray, List.set_cons_zero, List.set_cons_succ, i64_w, i32_w]
                    rfl
                  refine one_ (i := 4) (N := some 43) #[true, true, true, true, true, true, true, true, false, false] rfl rfl (one_of HT_.out (by kernel_rfl)) (by decide) (fun K hK => ?_)
                  refine Kd.R_append_rows_step k24 (w0 := w) w.heap.size (by rfl) (.tmp 39) (.tmp 42) 28 24 (.agg #[(.int .i64 0), (.int .i64 0), (.int .i64 0), (.int .i64 0), (.int .i64 0)]) 40 rfl Tryz.underlying28 info24 rfl (by decide) (by omega) v680 y679 y682 _ _ _ (fun _ => True) (fun _ => False) rfl rfl ?aO ?aR (fun _ _ h => h) (fun _ h => h.elim) ?aF ?aB ?aS ?aL ?_
                  (case aR => repeat (first | exact (Kd.C_below HR685.out HB.out) | (with_reducible refine Kd.C_alloc ?_ _) | (with_reducible refine Kd.C_drewN ?_ _) | (with_reducible refine Kd.C_drew ?_)))
                  (case aB => exact (by repeat (first | (with_reducible first | exact HB.out | apply below_alloc | apply pw_below_drewN | apply below_drew1 | refine below_set ?_ GE676.out) | exact HB.out)))
                  (case aF => exact (fun _ _ => trivial))
                  (case aO => exact (by (with_reducible repeat (first | apply Kd.R_alloc | apply Kd.R_drewN | apply Kd.R_drew)); exact HO681.out))
                  (case aS => exact (below_size (by repeat (first | (with_reducible first | exact HB.out | apply below_alloc | apply pw_below_drewN | apply below_drew1 | refine below_set ?_ GE676.out) | exact HB.out))))
                  (case aL => have := LMc14.out; omega)
                  intro v687 w26 ho hb hg hat
                  rw [← Ny686.out] at ho
                  have n0_ := Aside0.mk (blk_grown (g := gb676) (o := .cells #[.slice A0_0 l0_0.length c0_0, .int .i64 a0_1, .slice A0_2 l0_2.length c0_2, .int .i64 a0_3] 62 (0, 0)) (by (with_reducible repeat (first | refine blk_drewN ?_ _ | refine blk_drew ?_ | refine blk_alloc ?_ _)); exact BK676.out) hg (Kd.R_ne HO681.out BK676.out (by decide)))
                  have n1_ := Aside0.mk (hb)
                  have n2_ := Aside0.mk (ho)
                  clear BK676
                  clear HB
                  clear HO681
                  have BK676 := n0_
                  have HB := n1_
                  have HO688 := n2_
                  clear n0_ n1_ n2_
                  clear ho hb hg hat
                  refine hK.out _ _ trivial (fun hHeld => ?_)
                  clear hK K
                  refine norm_ (a' := ?_) ?_ ?_
                  rotate_left
                  · show Act.put _ (some 43) _ = _
                    simp only [Act.put, List.setIfInBounds_toArray, List.set_cons_zero, List.set_cons_succ, i64_w, i32_w]
                    rfl
                  refine one_ (i := 8) (N := some 47) #[true, true, true, true, true, true, true, true, true, false] rfl rfl (one_of HT_.out (by kernel_rfl)) (by decide) (fun K hK => ?_)
                  refine Kd.R_append_rows_step k24 (w0 := w) w.heap.size (by rfl) (.tmp 43) (.tmp 46) 28 24 (.agg #[(.int .i64 0), (.int .i64 0), (.int .i64 0), (.int .i64 0), (.int .i64 0)]) 40 rfl Tryz.underlying28 info24 rfl (by decide) (by omega) v687 y686 y689 _ _ _ (fun _ => True) (fun _ => False) rfl rfl ?aO ?aR (fun _ _ h => h) (fun _ h => h.elim) ?aF ?aB ?aS ?aL ?_
                  (case aR => repeat (first | exact (Kd.C_below HR692.out HB.out) | (with_reducible refine Kd.C_alloc ?_ _) | (with_reducible refine Kd.C_drewN ?_ _) | (with_reducible refine Kd.C_drew ?_)))
                  (case aB => exact (by repeat (first | (with_reducible first | exact HB.out | apply below_alloc | apply pw_below_drewN | apply below_drew1 | refine below_set ?_ GE676.out) | exact HB.out)))
                  (case aF => exact (fun _ _ => trivial))
                  (case aO => exact (by (with_reducible repeat (first | apply Kd.R_alloc | apply Kd.R_drewN | apply Kd.R_drew)); exact HO688.out))
                  (case aS => exact (below_size (by repeat (first | (with_reducible first | exact HB.out | apply below_alloc | apply pw_below_drewN | apply below_drew1 | refine below_set ?_ GE676.out) | exact HB.out))))
                  (case aL => have := LMc17.out; omega)
                  intro v694 w27 ho hb hg hat
                  rw [← Ny693.out] at ho
                  have n0_ := Aside0.mk (blk_grown (g := gb676) (o := .cells #[.slice A0_0 l0_0.length c0_0, .int .i64 a0_1, .slice A0_2 l0_2.length c0_2, .int .i64 a0_3] 62 (0, 0)) (by (with_reducible repeat (first | refine blk_drewN ?_ _ | refine blk_drew ?_ | refine blk_alloc ?_ _)); exact BK676.out) hg (Kd.R_ne HO688.out BK676.out (by decide)))
                  have n1_ := Aside0.mk (hb)
                  have n2_ := Aside0.mk (ho)
                  clear BK676
                  clear HB
                  clear HO688
                  have BK676 := n0_
                  have HB := n1_
                  have HO695 := n2_
                  clear n0_ n1_ n2_
                  clear ho hb hg hat
                  refine hK.out _ _ trivial (fun hHeld => ?_)
                  clear hK K
                  refine norm_ (a' := ?_) ?_ ?_
                  rotate_left
                  · show Act.put _ (some 47) _ = _
                    simp only [Act.put, List.setIfInBounds_toArray, List.set_cons_zero, List.set_cons_succ, i64_w, i32_w]
                    rfl
                  refine pure_ (i := 9) (N := some 9) (v := ?_) (a' := ?_) #[true, true, true, true, true, true, true, true, true, true] rfl rfl (any_of HT_.out (by kernel_rfl)) (fun _ _ _ h => h) (Or.inl ⟨by rfl, ?_⟩) ?_ ?_
                  rotate_left
                  · intro w'
                    go_simp
                    with_reducible rfl
                  rotate_left
                  · simp only [Act.put, List.setIfInBounds_toArray, List.set_cons_zero, List.set_cons_succ, i64_w, i32_w]
                    rfl
                  refine done_ (done_of HT_.out (by kernel_rfl)) ?_
                  try go_wp2_with (first | (go_at_call 42; (with_reducible refine (check_Round.calls _ _ l0_0 a0_1 _ _ l0_2 t696 _ ?side1 ?side2 ?side3 ?side4 A19.out).mono ?_); (case side1 => repeat (first | exact (Kd.C_below HR0_0.out HB.out) | (with_reducible refine Kd.C_alloc ?_ _) | (with_reducible refine Kd.C_drewN ?_ _) | (with_reducible refine Kd.C_drew ?_))); (case side2 => exact HC0_0.out); (case side3 => repeat (first | exact (Kd.C_below HR0_2.out HB.out) | (with_reducible refine Kd.C_alloc ?_ _) | (with_reducible refine Kd.C_drewN ?_ _) | (with_reducible refine Kd.C_drew ?_))); (case side4 => exact HC0_2.out); rintro e w28 ⟨rfl, hb⟩; have n0_ := Aside0.mk (Kd.R_below (by (with_reducible repeat (first | apply Kd.R_alloc | apply Kd.R_drewN | apply Kd.R_drew)); exact HO695.out) hb); have n1_ := Aside0.mk (blk_below (g := gb676) (o := .cells #[.slice A0_0 l0_0.length c0_0, .int .i64 a0_1, .slice A0_2 l0_2.length c0_2, .int .i64 a0_3] 62 (0, 0)) (by (with_reducible repeat (first | refine blk_drewN ?_ _ | refine blk_drew ?_ | refine blk_alloc ?_ _)); exact BK676.out) hb); have n2_ := Aside0.mk (below_step (by repeat (first | (with_reducible first | exact HB.out | apply below_alloc | apply pw_below_drewN | apply below_drew1 | refine below_set ?_ GE676.out) | exact HB.out)) hb); clear HO695; clear BK676; clear HB; have HO695 := n0_; have BK676 := n1_; have HB := n2_; clear n0_ n1_ n2_; (try clear hb); (try clear hb2); (try clear hk); (try clear hi); obtain ⟨Ao29, co29, eo29⟩ := Kd.R_slice HO695.out; subst eo29) | (go_at_call 42; (with_reducible refine (check_Round.calls _ _ l0_0 a0_1 _ _ y693 t697 _ ?side1 ?side2 ?side3 ?side4 A20.out).mono ?_); (case side1 => repeat (first | exact (Kd.C_below HR0_0.out HB.out) | (with_reducible refine Kd.C_alloc ?_ _) | (with_reducible refine Kd.C_drewN ?_ _) | (with_reducible refine Kd.C_drew ?_))); (case side2 => exact HC0_0.out); (case side3 => repeat (first | exact (Kd.R_reads' HO695.out).2.2 | (with_reducible refine Kd.C_alloc ?_ _) | (with_reducible refine Kd.C_drewN ?_ _) | (with_reducible refine Kd.C_drew ?_))); (case side4 => exact (Kd.R_reads' HO695.out).2.1); rintro e w30 ⟨rfl, hb⟩; have n0_ := Aside0.mk (Kd.R_below (by (with_reducible repeat (first | apply Kd.R_alloc | apply Kd.R_drewN | apply Kd.R_drew)); exact HO695.out) hb); have n1_ := Aside0.mk (blk_below (g := gb676) (o := .cells #[.slice A0_0 l0_0.length c0_0, .int .i64 a0_1, .slice A0_2 l0_2.length c0_2, .int .i64 a0_3] 62 (0, 0)) (by (with_reducible repeat (first | refine blk_drewN ?_ _ | refine blk_drew ?_ | refine blk_alloc ?_ _)); exact BK676.out) hb); have n2_ := Aside0.mk (below_step (by repeat (first | (with_reducible first | exact HB.out | apply below_alloc | apply pw_below_drewN | apply below_drew1 | refine below_set ?_ GE676.out) | exact HB.out)) hb); clear HO695; clear BK676; clear HB; have HO695 := n0_; have BK676 := n1_; have HB := n2_; clear n0_ n1_ n2_; (try clear hb); (try clear hb2); (try clear hk); (try clear hi)))
                  go_ret
                  exact ⟨by first | rfl | (simp [errW_none, errW_some] <;> rfl) | (simp [*, errW_none, errW_some] <;> rfl), by repeat (first | (with_reducible first | exact HB.out | apply below_alloc | apply pw_below_drewN | apply below_drew1 | refine below_set ?_ GE676.out) | exact HB.out)⟩
                · replace c18 := Bool.eq_false_iff.mpr c18
                  subst c18
                  have H1 : (some false) = some r := by rw [if_neg (show ¬ (false = true) by decide)] at H; exact H
                  clear H
                  have H := H1
                  clear H1
                  obtain rfl := Option.some.inj H
                  try go_wp2
                  have n0_ := Aside0.mk (blk_drew BK676.out)
                  have n1_ := Aside0.mk (below_drew1 HB.out)
                  clear BK676
                  clear HB
                  have BK676 := n0_
                  have HB := n1_
                  clear n0_ n1_
                  have q32 : (a0_3 : Int) ≤ ((l0_2.length : Int) : Int) := of_decide_eq_true (by first | (with_reducible assumption) | assumption)
                  obtain ⟨i032, hi032, _, hsz32, _⟩ := info_parts info24
                  have hroom32 : l0_2.length ≤ c0_2 := HC0_2.out
                  have hC32 : Kd.C k24 _ A0_2 l0_2.length l0_2 := HR0_2.out
                  have q032 : (0 : Int) ≤ (a0_3 : Int) := of_decide_eq_true (by first | (with_reducible assumption) | assumption)
                  have hcut32 := cut_from (P := Tryz.prog) 28 24 .i64 Tryz.underlying28 hi032 5 hsz32 A0_2 l0_2.length c0_2 a0_3 q032 q32
                  have hr32 := Kd.C_drop (m := (a0_3 : Int).toNat) (c := c0_2) hC32 (by omega) hroom32
                  obtain ⟨A32, hA32⟩ : ∃ A1, A1 = (if c0_2 = (a0_3 : Int).toNat then A0_2 else (A0_2 : Option Addr).map (·.add ((a0_3 : Int).toNat * 5))) := ⟨_, rfl⟩
                  obtain ⟨c32, hc32⟩ : ∃ c1, c1 = c0_2 - (a0_3 : Int).toNat := ⟨_, rfl⟩
                  have hy32 : y682.length = l0_2.length - (a0_3 : Int).toNat := (by rw [Ny682.out, List.length_drop] <;> omega)
                  rw [show (l0_2).drop (a0_3 : Int).toNat = y682 from Ny682.out.symm] at hr32
                  replace hr32 : Kd.C k24 _ A32 y682.length y682 := (by rw [hA32]; exact hr32)
                  rw [← hy32, ← hA32, ← hc32] at hcut32
                  have HR685 := Aside0.mk hr32
                  have HC685 := Aside0.mk (show y682.length ≤ c32 from by rw [hy32, hc32]; exact Nat.sub_le_sub_right hroom32 _)
                  clear hr32 hC32 hroom32 hi032 hsz32 hc32
                  have KY32 := Aside0.mk hy32
                  have KA32 := Aside0.mk hA32
                  clear hy32 hA32
                  replace q32 := eq_true q32
                  have q33 : (a0_3 : Int) ≤ ((l0_2.length : Int) : Int) := of_decide_eq_true (by first | (with_reducible assumption) | assumption)
                  obtain ⟨i033, hi033, _, hsz33, _⟩ := info_parts info24
                  have hroom33 : l0_2.length ≤ c0_2 := HC0_2.out
                  have hC33 : Kd.C k24 _ A0_2 l0_2.length l0_2 := HR0_2.out
                  have hcut33 := cut_to (P := Tryz.prog) 28 24 .i64 Tryz.underlying28 hi033 A0_2 l0_2.length c0_2 a0_3 (of_decide_eq_true (by first | (with_reducible assumption) | assumption)) q33 hroom33
                  have hr33 := Kd.C_take (m := (a0_3 : Int).toNat) hC33 (by omega)
                  have hy33 : y689.length = (a0_3 : Int).toNat := (by rw [Ny689.out, List.length_take]; omega)
                  rw [← Ny689.out] at hr33
                  rw [← hy33] at hcut33
                  have HR692 := Aside0.mk hr33
                  have HC692 := Aside0.mk (show y689.length ≤ c0_2 from by omega)
                  clear hr33 hC33 hroom33 hi033 hsz33
                  have KY33 := Aside0.mk hy33
                  clear hy33
                  replace q33 := eq_true q33
                  refine start_ (n := 10) (S := fun w' => True) (ds := []) #[false, false, false, false, false, false, false, false, false, false] (by kernel_rfl) rfl rfl trivial (fun hHeld => ?_); refine with_tabW cartouchelaw13_CheckTurns.tab9 cartouchelaw13_CheckTurns.bits9 (fun HT_ HW_ => ?_)
                  generalize wc.drew = w31 at BK676 HB HR685 HR692 hHeld ⊢
                  refine pure_ (i := 1) (N := some 40) (v := ?_) (a' := ?_) #[false, true, false, false, false, false, false, false, false, false] rfl rfl (any_of HT_.out (by kernel_rfl)) (fun _ _ _ h => h) (Or.inl ⟨by rfl, ?_⟩) ?_ ?_
                  rotate_left
                  · intro w'
                    go_simp
                    with_reducible rfl
                  rotate_left
                  · simp only [Act.put, List.setIfInBounds_toArray, List.set_cons_zero, List.set_cons_succ, i64_w, i32_w]
                    rfl
                  refine pure_ (i := 2) (N := some 41) (v := ?_) (a' := ?_) #[false, true, true, false, false, false, false, false, false, false] rfl rfl (any_of HT_.out (by kernel_rfl)) (fun _ _ _ h => h) (Or.inl ⟨by rfl, ?_⟩) ?_ ?_
                  rotate_left
                  · intro w'
                    go_simp
                    with_reducible rfl
                  rotate_left
                  · simp only [Act.put, List.setIfInBounds_toArray, List.set_cons_zero, List.set_cons_succ, i64_w, i32_w]
                    rfl
                  refine pure_ (i := 3) (N := some 42) (v := ?_) (a' := ?_) #[false, true, true, true, false, false, false, false, false, false] rfl rfl (any_of HT_.out (by kernel_rfl)) (fun _ _ _ h => h) (Or.inl ⟨by rfl, ?_⟩) ?_ ?_
                  rotate_left
                  · intro w'
                    go_simp
                    with_reducible rfl
                  rotate_left
                  · simp only [Act.put, List.setIfInBounds_toArray, List.set_cons_zero, List.set_cons_succ, i64_w, i32_w]
                    rfl
                  refine pure_ (i := 5) (N := some 44) (v := ?_) (a' := ?_) #[false, true, true, true, false, true, false, false, false, false] rfl rfl (any_of HT_.out (by kernel_rfl)) (fun _ _ _ h => h) (Or.inl ⟨by rfl, ?_⟩) ?_ ?_
                  rotate_left
                  · intro w'
                    go_simp
                    with_reducible rfl
                  rotate_left
                  · simp only [Act.put, List.setIfInBounds_toArray, List.set_cons_zero, List.set_cons_succ, i64_w, i32_w]
                    rfl
                  refine pure_ (i := 6) (N := some 45) (v := ?_) (a' := ?_) #[false, true, true, true, false, true, true, false, false, false] rfl rfl (any_of HT_.out (by kernel_rfl)) (fun _ _ _ h => h) (Or.inl ⟨by rfl, ?_⟩) ?_ ?_
                  rotate_left
                  · intro w'
                    go_simp
                    with_reducible rfl
                  rotate_left
                  · simp only [Act.put, List.setIfInBounds_toArray, List.set_cons_zero, List.set_cons_succ, i64_w, i32_w]
                    rfl
                  refine pure_ (i := 7) (N := some 46) (v := ?_) (a' := ?_) #[false, true, true, true, false, true, true, true, false, false] rfl rfl (any_of HT_.out (by kernel_rfl)) (fun _ _ _ h => h) (Or.inl ⟨by rfl, ?_⟩) ?_ ?_
                  rotate_left
                  · intro w'
                    go_simp
                    with_reducible rfl
                  rotate_left
                  · simp only [Act.put, List.setIfInBounds_toArray, List.set_cons_zero, List.set_cons_succ, i64_w, i32_w]
                    rfl
                  refine one_ (i := 0) (N := some 39) #[true, true, true, true, false, true, true, true, false, false] rfl rfl (one_of HT_.out (by kernel_rfl)) (by decide) (fun K hK => ?_)
                  refine Kd.R_lit_step k24 _ 24 ?hg (N := 39) ?hd (xs := ([] : List (S24))) (inner := []) (ok := fun _ => True) (okp := fun _ => True) ?hr ?hp (fun _ hk => hk) trivial (Below.refl _ _) (Nat.le_refl _) (by simp) ?_; (case hd => rfl); (case hg => rfl); (case hr => first | (go_simp; done) | (go_simp; rfl)); (case hp => exact (Reps.none _ _))
                  intro v680 w34 ho35 hb hg_ hnew_
                  clear hg_ hnew_
                  (first | rw [← Ny679.out] at ho35 | (simp only [Int.reduceToNat] at ho35; rw [← Ny679.out] at ho35))
                  have n0_ := Aside0.mk (Kd.R_lower ho35 (below_size (by repeat (first | (with_reducible first | exact HB.out | apply below_alloc | apply pw_below_drewN | apply below_drew1 | refine below_set ?_ GE676.out) | exact HB.out))))
                  have n1_ := Aside0.mk (blk_below (g := gb676) (o := .cells #[.slice A0_0 l0_0.length c0_0, .int .i64 a0_1, .slice A0_2 l0_2.length c0_2, .int .i64 a0_3] 62 (0, 0)) (by (with_reducible repeat (first | refine blk_drewN ?_ _ | refine blk_drew ?_ | refine blk_alloc ?_ _)); exact BK676.out) hb)
                  have n2_ := Aside0.mk (below_step (by repeat (first | (with_reducible first | exact HB.out | apply below_alloc | apply pw_below_drewN | apply below_drew1 | refine below_set ?_ GE676.out) | exact HB.out)) hb)
                  clear BK676
                  clear HB
                  have HO681 := n0_
                  have BK676 := n1_
                  have HB := n2_
                  clear n0_ n1_ n2_
                  clear hb ho35
                  refine hK.out _ _ trivial (fun hHeld => ?_)
                  clear hK K
                  refine norm_ (a' := ?_) ?_ ?_
                  rotate_left
                  · show Act.put _ (some 39) _ = _
                    simp only [Act.put, List.setIfInBounds_toArray, List.set_cons_zero, List.set_cons_succ, i64_w, i32_w]
                    rfl
                  refine one_ (i := 4) (N := some 43) #[true, true, true, true, true, true, true, true, false, false] rfl rfl (one_of HT_.out (by kernel_rfl)) (by decide) (fun K hK => ?_)
                  refine Kd.R_append_rows_step k24 (w0 := w) w.heap.size (by rfl) (.tmp 39) (.tmp 42) 28 24 (.agg #[(.int .i64 0), (.int .i64 0), (.int .i64 0), (.int .i64 0), (.int .i64 0)]) 40 rfl Tryz.underlying28 info24 rfl (by decide) (by omega) v680 y679 y682 _ _ _ (fun _ => True) (fun _ => False) rfl rfl ?aO ?aR (fun _ _ h => h) (fun _ h => h.elim) ?aF ?aB ?aS ?aL ?_
                  (case aR => repeat (first | exact (Kd.C_below HR685.out HB.out) | (with_reducible refine Kd.C_alloc ?_ _) | (with_reducible refine Kd.C_drewN ?_ _) | (with_reducible refine Kd.C_drew ?_)))
                  (case aB => exact (by repeat (first | (with_reducible first | exact HB.out | apply below_alloc | apply pw_below_drewN | apply below_drew1 | refine below_set ?_ GE676.out) | exact HB.out)))
                  (case aF => exact (fun _ _ => trivial))
                  (case aO => exact (by (with_reducible repeat (first | apply Kd.R_alloc | apply Kd.R_drewN | apply Kd.R_drew)); exact HO681.out))
                  (case aS => exact (below_size (by repeat (first | (with_reducible first | exact HB.out | apply below_alloc | apply pw_below_drewN | apply below_drew1 | refine below_set ?_ GE676.out) | exact HB.out))))
                  (case aL => have := LMc14.out; omega)
                  intro v687 w36 ho hb hg hat
                  rw [← Ny686.out] at ho
                  have n0_ := Aside0.mk (blk_grown (g := gb676) (o := .cells #[.slice A0_0 l0_0.length c0_0, .int .i64 a0_1, .slice A0_2 l0_2.length c0_2, .int .i64 a0_3] 62 (0, 0)) (by (with_reducible repeat (first | refine blk_drewN ?_ _ | refine blk_drew ?_ | refine blk_alloc ?_ _)); exact BK676.out) hg (Kd.R_ne HO681.out BK676.out (by decide)))
                  have n1_ := Aside0.mk (hb)
                  have n2_ := Aside0.mk (ho)
                  clear BK676
                  clear HB
                  clear HO681
                  have BK676 := n0_
                  have HB := n1_
                  have HO688 := n2_
                  clear n0_ n1_ n2_
                  clear ho hb hg hat
                  refine hK.out _ _ trivial (fun hHeld => ?_)
                  clear hK K
                  refine norm_ (a' := ?_) ?_ ?_
                  rotate_left
                  · show Act.put _ (some 43) _ = _
                    simp only [Act.put, List.setIfInBounds_toArray, List.set_cons_zero, List.set_cons_succ, i64_w, i32_w]
                    rfl
                  refine one_ (i := 8) (N := some 47) #[true, true, true, true, true, true, true, true, true, false] rfl rfl (one_of HT_.out (by kernel_rfl)) (by decide) (fun K hK => ?_)
                  refine Kd.R_append_rows_step k24 (w0 := w) w.heap.size (by rfl) (.tmp 43) (.tmp 46) 28 24 (.agg #[(.int .i64 0), (.int .i64 0), (.int .i64 0), (.int .i64 0), (.int .i64 0)]) 40 rfl Tryz.underlying28 info24 rfl (by decide) (by omega) v687 y686 y689 _ _ _ (fun _ => True) (fun _ => False) rfl rfl ?aO ?aR (fun _ _ h => h) (fun _ h => h.elim) ?aF ?aB ?aS ?aL ?_
                  (case aR => repeat (first | exact (Kd.C_below HR692.out HB.out) | (with_reducible refine Kd.C_alloc ?_ _) | (with_reducible refine Kd.C_drewN ?_ _) | (with_reducible refine Kd.C_drew ?_)))
                  (case aB => exact (by repeat (first | (with_reducible first | exact HB.out | apply below_alloc | apply pw_below_drewN | apply below_drew1 | refine below_set ?_ GE676.out) | exact HB.out)))
                  (case aF => exact (fun _ _ => trivial))
                  (case aO => exact (by (with_reducible repeat (first | apply Kd.R_alloc | apply Kd.R_drewN | apply Kd.R_drew)); exact HO688.out))
                  (case aS => exact (below_size (by repeat (first | (with_reducible first | exact HB.out | apply below_alloc | apply pw_below_drewN | apply below_drew1 | refine below_set ?_ GE676.out) | exact HB.out))))
                  (case aL => have := LMc17.out; omega)
                  intro v694 w37 ho hb hg hat
                  rw [← Ny693.out] at ho
                  have n0_ := Aside0.mk (blk_grown (g := gb676) (o := .cells #[.slice A0_0 l0_0.length c0_0, .int .i64 a0_1, .slice A0_2 l0_2.length c0_2, .int .i64 a0_3] 62 (0, 0)) (by (with_reducible repeat (first | refine blk_drewN ?_ _ | refine blk_drew ?_ | refine blk_alloc ?_ _)); exact BK676.out) hg (Kd.R_ne HO688.out BK676.out (by decide)))
                  have n1_ := Aside0.mk (hb)
                  have n2_ := Aside0.mk (ho)
                  clear BK676
                  clear HB
                  clear HO688
                  have BK676 := n0_
                  have HB := n1_
                  have HO695 := n2_
                  clear n0_ n1_ n2_
                  clear ho hb hg hat
                  refine hK.out _ _ trivial (fun hHeld => ?_)
                  clear hK K
                  refine norm_ (a' := ?_) ?_ ?_
                  rotate_left
                  · show Act.put _ (some 47) _ = _
                    simp only [Act.put, List.setIfInBounds_toArray, List.set_cons_zero, List.set_cons_succ, i64_w, i32_w]
                    rfl
                  refine pure_ (i := 9) (N := some 9) (v := ?_) (a' := ?_) #[true, true, true, true, true, true, true, true, true, true] rfl rfl (any_of HT_.out (by kernel_rfl)) (fun _ _ _ h => h) (Or.inl ⟨by rfl, ?_⟩) ?_ ?_
                  rotate_left
                  · intro w'
                    go_simp
                    with_reducible rfl
                  rotate_left
                  · simp only [Act.put, List.setIfInBounds_toArray, List.set_cons_zero, List.set_cons_succ, i64_w, i32_w]
                    rfl
                  refine done_ (done_of HT_.out (by kernel_rfl)) ?_
                  try go_wp2
                  go_ret
                  exact ⟨by first | rfl | (simp [errW_none, errW_some] <;> rfl) | (simp [*, errW_none, errW_some] <;> rfl), by repeat (first | (with_reducible first | exact HB.out | apply below_alloc | apply pw_below_drewN | apply below_drew1 | refine below_set ?_ GE676.out) | exact HB.out)⟩
              · rw [if_neg c17] at H
                exact absurd H (by simp)
            · rw [if_neg c14] at H
              exact absurd H (by simp)
          · rw [if_neg c13] at H
            exact absurd H (by simp)
        · rw [if_neg c12] at H
          exact absurd H (by simp)

end Go.Proofs.YtebjiimlcnmfpaaGreatPr
