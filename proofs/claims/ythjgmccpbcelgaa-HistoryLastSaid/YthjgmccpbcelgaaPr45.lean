/- Contracts of Go functions, printed by a program of this session over the translation: each call answers what its Lean function says. -/
import Derived.Test.YthjgmccpbcelgaaPr0
import Derived.Test.YthjgmccpbcelgaaPr39
import Derived.Test.YthjgmccpbcelgaaPr40
import Derived.Test.YthjgmccpbcelgaaB1
namespace Go.Proofs.YthjgmccpbcelgaaPr
open Go.RowKit Go.Proofs.YthjgmccpbcelgaaW.PrintWords Go.Proofs.YthjgmccpbcelgaaW.PrintLast Go.Proofs.YthjgmccpbcelgaaW.PrintMore
attribute [local go_sem] max2_int min2_int max_two min_two max_three min_three max_four min_four   -- for this text's walks alone
set_option linter.unusedVariables false
set_option linter.unusedSimpArgs false

/-! ### cartouchelaw08_HistoryLast: function 19 -/
mutual
def cartouchelaw08_HistoryLast.j0 : Nat → List (S31) → Int → ByteArray → Int → Bool → Int → Bool → Option (Bool)
  | 0, _, _, _, _, _, _, _ => none
  | k + 1, x3, x4, x5, x6, x7, x9, x72 => if x72 = true then (some false) else (cartouchelaw08_HistoryLast.l0 k x3 x4 x5 x6 x7 (wrap64 (x9 + 1)))
def cartouchelaw08_HistoryLast.l0 : Nat → List (S31) → Int → ByteArray → Int → Bool → Int → Option (Bool)
  | 0, _, _, _, _, _, _ => none
  | k + 1, x3, x4, x5, x6, x7, x10 => if x10 < x6 then (cartouchelaw08_HistoryLast.j2 k x3 x4 x5 x6 x7 x10 (decide (x10 < (x3.length : Int)))) else (cartouchelaw08_HistoryLast.j2 k x3 x4 x5 x6 x7 x10 false)
def cartouchelaw08_HistoryLast.j2 : Nat → List (S31) → Int → ByteArray → Int → Bool → Int → Bool → Option (Bool)
  | 0, _, _, _, _, _, _, _ => none
  | k + 1, x3, x4, x5, x6, x7, x10, x83 => if x83 = true then (if 0 ≤ x10 then (if x10 < (x3.length : Int) then (if ((rd_T31 x3 x10).f0) = 3 then (if ((rd_T31 x3 x10).f1) = x4 then (if ((rd_T31 x3 x10).f2).toList = x5.toList then (some false) else (cartouchelaw08_HistoryLast.l0 k x3 x4 x5 x6 x7 (wrap64 (x10 + 1)))) else (cartouchelaw08_HistoryLast.l0 k x3 x4 x5 x6 x7 (wrap64 (x10 + 1)))) else (cartouchelaw08_HistoryLast.l0 k x3 x4 x5 x6 x7 (wrap64 (x10 + 1)))) else (none)) else (none)) else (some x7)
end
def cartouchelaw08_HistoryLast.f (k : Nat) (l0_0 : List (S31)) (a0_1 : Int) (a0_2 : ByteArray) (a0_3 : Int) : Option (Bool) := (cartouchelaw08_shown.f).bind fun t575 => ((cartouchelaw08_few.f l0_0).bind fun t576 => (if t576 = true then ((history_Last.f l0_0 a0_1 a0_2 a0_3).bind fun t577 => (if t577 < (-1) then (cartouchelaw08_HistoryLast.j0 k l0_0 a0_1 a0_2 a0_3 t575 t577 true) else (if t577 ≥ (l0_0.length : Int) then (cartouchelaw08_HistoryLast.j0 k l0_0 a0_1 a0_2 a0_3 t575 t577 true) else (if t577 ≥ 0 then (if t577 ≥ a0_3 then (cartouchelaw08_HistoryLast.j0 k l0_0 a0_1 a0_2 a0_3 t575 t577 true) else (if 0 ≤ t577 then (if t577 < (l0_0.length : Int) then (if ((rd_T31 l0_0 t577).f0) = 3 then (if ((rd_T31 l0_0 t577).f1) = a0_1 then (cartouchelaw08_HistoryLast.j0 k l0_0 a0_1 a0_2 a0_3 t575 t577 (((rd_T31 l0_0 t577).f2).toList != a0_2.toList)) else (cartouchelaw08_HistoryLast.j0 k l0_0 a0_1 a0_2 a0_3 t575 t577 true)) else (cartouchelaw08_HistoryLast.j0 k l0_0 a0_1 a0_2 a0_3 t575 t577 true)) else (none)) else (none))) else (cartouchelaw08_HistoryLast.j0 k l0_0 a0_1 a0_2 a0_3 t575 t577 false))))) else (some t575)))
theorem cartouchelaw08_HistoryLast.mono_l : ∀ k, (∀ y0 y1 y2 y3 y4 y5 y6, LeO (cartouchelaw08_HistoryLast.j0 k y0 y1 y2 y3 y4 y5 y6) (cartouchelaw08_HistoryLast.j0 (k + 1) y0 y1 y2 y3 y4 y5 y6)) ∧ (∀ y0 y1 y2 y3 y4 y5, LeO (cartouchelaw08_HistoryLast.l0 k y0 y1 y2 y3 y4 y5) (cartouchelaw08_HistoryLast.l0 (k + 1) y0 y1 y2 y3 y4 y5)) ∧ (∀ y0 y1 y2 y3 y4 y5 y6, LeO (cartouchelaw08_HistoryLast.j2 k y0 y1 y2 y3 y4 y5 y6) (cartouchelaw08_HistoryLast.j2 (k + 1) y0 y1 y2 y3 y4 y5 y6))
  | 0 => ⟨fun _ _ _ _ _ _ _ r h => by simp [cartouchelaw08_HistoryLast.j0] at h, fun _ _ _ _ _ _ r h => by simp [cartouchelaw08_HistoryLast.l0] at h, fun _ _ _ _ _ _ _ r h => by simp [cartouchelaw08_HistoryLast.j2] at h⟩
  | k + 1 => by
    obtain ⟨ih0, ih1, ih2⟩ := cartouchelaw08_HistoryLast.mono_l k
    refine ⟨?_, ?_, ?_⟩
    · intro y0 y1 y2 y3 y4 y5 y6
      unfold cartouchelaw08_HistoryLast.j0
      repeat' first
      | (with_reducible exact ih0 _ _ _ _ _ _ _)
      | (with_reducible exact ih1 _ _ _ _ _ _)
      | (with_reducible exact ih2 _ _ _ _ _ _ _)
      | (with_reducible exact LeO.refl _)
      | (with_reducible exact LeO.none _)
      | (with_reducible refine LeO.ite ?_ ?_)
      | (with_reducible refine LeO.bind ?_ (fun _ => ?_))
      | exact ih0 _ _ _ _ _ _ _
      | exact ih1 _ _ _ _ _ _
      | exact ih2 _ _ _ _ _ _ _
      | exact LeO.none _
      | refine LeO.ite ?_ ?_
      | refine LeO.bind ?_ (fun _ => ?_)
    · intro y0 y1 y2 y3 y4 y5
      unfold cartouchelaw08_HistoryLast.l0
      repeat' first
      | (with_reducible exact ih0 _ _ _ _ _ _ _)
      | (with_reducible exact ih1 _ _ _ _ _ _)
      | (with_reducible exact ih2 _ _ _ _ _ _ _)
      | (with_reducible exact LeO.refl _)
      | (with_reducible exact LeO.none _)
      | (with_reducible refine LeO.ite ?_ ?_)
      | (with_reducible refine LeO.bind ?_ (fun _ => ?_))
      | exact ih0 _ _ _ _ _ _ _
      | exact ih1 _ _ _ _ _ _
      | exact ih2 _ _ _ _ _ _ _
      | exact LeO.none _
      | refine LeO.ite ?_ ?_
      | refine LeO.bind ?_ (fun _ => ?_)
    · intro y0 y1 y2 y3 y4 y5 y6
      unfold cartouchelaw08_HistoryLast.j2
      repeat' first
      | (with_reducible exact ih0 _ _ _ _ _ _ _)
      | (with_reducible exact ih1 _ _ _ _ _ _)
      | (with_reducible exact ih2 _ _ _ _ _ _ _)
      | (with_reducible exact LeO.refl _)
      | (with_reducible exact LeO.none _)
      | (with_reducible refine LeO.ite ?_ ?_)
      | (with_reducible refine LeO.bind ?_ (fun _ => ?_))
      | exact ih0 _ _ _ _ _ _ _
      | exact ih1 _ _ _ _ _ _
      | exact ih2 _ _ _ _ _ _ _
      | exact LeO.none _
      | refine LeO.ite ?_ ?_
      | refine LeO.bind ?_ (fun _ => ?_)
theorem cartouchelaw08_HistoryLast.mono : ∀ a0 a1 a2 a3 k, LeO (cartouchelaw08_HistoryLast.f k a0 a1 a2 a3) (cartouchelaw08_HistoryLast.f (k + 1) a0 a1 a2 a3) := by
  intro a0 a1 a2 a3 k
  obtain ⟨ih0, ih1, ih2⟩ := cartouchelaw08_HistoryLast.mono_l k
  unfold cartouchelaw08_HistoryLast.f
  repeat' first
      | (with_reducible exact ih0 _ _ _ _ _ _ _)
      | (with_reducible exact ih1 _ _ _ _ _ _)
      | (with_reducible exact ih2 _ _ _ _ _ _ _)
      | (with_reducible exact LeO.refl _)
      | (with_reducible exact LeO.none _)
      | (with_reducible refine LeO.ite ?_ ?_)
      | (with_reducible refine LeO.bind ?_ (fun _ => ?_))
      | exact ih0 _ _ _ _ _ _ _
      | exact ih1 _ _ _ _ _ _
      | exact ih2 _ _ _ _ _ _ _
      | exact LeO.none _
      | refine LeO.ite ?_ ?_
      | refine LeO.bind ?_ (fun _ => ?_)
set_option maxHeartbeats 8000000 in
set_option maxRecDepth 100000 in
theorem cartouchelaw08_HistoryLast.calls (k : Nat) (A0_0 : Option Addr) (c0_0 : Nat) (l0_0 : List (S31)) (a0_1 : Int) (a0_2 : ByteArray) (a0_3 : Int) (r : Bool) (w : World) (hr0_0 : Kd.C k31 w A0_0 l0_0.length l0_0) (hc0_0 : l0_0.length ≤ c0_0) (h : cartouchelaw08_HistoryLast.f k l0_0 a0_1 a0_2 a0_3 = some r) :
    Calls Try.prog 19 #[.agg #[.slice A0_0 l0_0.length c0_0, .int .i64 a0_1, .string a0_2, .int .i64 a0_3]] w fun e w' => e = .returned (.bool r) ∧ Below w.heap.size w w' := by
  have hu70 := Try.underlying70
  have HR0_0 := Aside0.mk hr0_0
  have HC0_0 := Aside0.mk hc0_0
  clear hr0_0 hc0_0
  have HB := Aside0.mk (Below.refl w.heap.size w)
  have H : ((cartouchelaw08_shown.f).bind fun t575 => ((cartouchelaw08_few.f l0_0).bind fun t576 => (if t576 = true then ((history_Last.f l0_0 a0_1 a0_2 a0_3).bind fun t577 => (if t577 < (-1) then (cartouchelaw08_HistoryLast.j0 k l0_0 a0_1 a0_2 a0_3 t575 t577 true) else (if t577 ≥ (l0_0.length : Int) then (cartouchelaw08_HistoryLast.j0 k l0_0 a0_1 a0_2 a0_3 t575 t577 true) else (if t577 ≥ 0 then (if t577 ≥ a0_3 then (cartouchelaw08_HistoryLast.j0 k l0_0 a0_1 a0_2 a0_3 t575 t577 true) else (if 0 ≤ t577 then (if t577 < (l0_0.length : Int) then (if ((rd_T31 l0_0 t577).f0) = 3 then (if ((rd_T31 l0_0 t577).f1) = a0_1 then (cartouchelaw08_HistoryLast.j0 k l0_0 a0_1 a0_2 a0_3 t575 t577 (((rd_T31 l0_0 t577).f2).toList != a0_2.toList)) else (cartouchelaw08_HistoryLast.j0 k l0_0 a0_1 a0_2 a0_3 t575 t577 true)) else (cartouchelaw08_HistoryLast.j0 k l0_0 a0_1 a0_2 a0_3 t575 t577 true)) else (none)) else (none))) else (cartouchelaw08_HistoryLast.j0 k l0_0 a0_1 a0_2 a0_3 t575 t577 false))))) else (some t575)))) = some r := h
  clear h
  replace H := Option.bind_eq_some_iff.mp H
  obtain ⟨t575, A20, H⟩ := H
  replace H : ((cartouchelaw08_few.f l0_0).bind fun t576 => (if t576 = true then ((history_Last.f l0_0 a0_1 a0_2 a0_3).bind fun t577 => (if t577 < (-1) then (cartouchelaw08_HistoryLast.j0 k l0_0 a0_1 a0_2 a0_3 t575 t577 true) else (if t577 ≥ (l0_0.length : Int) then (cartouchelaw08_HistoryLast.j0 k l0_0 a0_1 a0_2 a0_3 t575 t577 true) else (if t577 ≥ 0 then (if t577 ≥ a0_3 then (cartouchelaw08_HistoryLast.j0 k l0_0 a0_1 a0_2 a0_3 t575 t577 true) else (if 0 ≤ t577 then (if t577 < (l0_0.length : Int) then (if ((rd_T31 l0_0 t577).f0) = 3 then (if ((rd_T31 l0_0 t577).f1) = a0_1 then (cartouchelaw08_HistoryLast.j0 k l0_0 a0_1 a0_2 a0_3 t575 t577 (((rd_T31 l0_0 t577).f2).toList != a0_2.toList)) else (cartouchelaw08_HistoryLast.j0 k l0_0 a0_1 a0_2 a0_3 t575 t577 true)) else (cartouchelaw08_HistoryLast.j0 k l0_0 a0_1 a0_2 a0_3 t575 t577 true)) else (none)) else (none))) else (cartouchelaw08_HistoryLast.j0 k l0_0 a0_1 a0_2 a0_3 t575 t577 false))))) else (some t575))) = some r := H
  have A2 := Aside0.mk A20
  clear A20
  replace H := Option.bind_eq_some_iff.mp H
  obtain ⟨t576, A30, H⟩ := H
  replace H : (if t576 = true then ((history_Last.f l0_0 a0_1 a0_2 a0_3).bind fun t577 => (if t577 < (-1) then (cartouchelaw08_HistoryLast.j0 k l0_0 a0_1 a0_2 a0_3 t575 t577 true) else (if t577 ≥ (l0_0.length : Int) then (cartouchelaw08_HistoryLast.j0 k l0_0 a0_1 a0_2 a0_3 t575 t577 true) else (if t577 ≥ 0 then (if t577 ≥ a0_3 then (cartouchelaw08_HistoryLast.j0 k l0_0 a0_1 a0_2 a0_3 t575 t577 true) else (if 0 ≤ t577 then (if t577 < (l0_0.length : Int) then (if ((rd_T31 l0_0 t577).f0) = 3 then (if ((rd_T31 l0_0 t577).f1) = a0_1 then (cartouchelaw08_HistoryLast.j0 k l0_0 a0_1 a0_2 a0_3 t575 t577 (((rd_T31 l0_0 t577).f2).toList != a0_2.toList)) else (cartouchelaw08_HistoryLast.j0 k l0_0 a0_1 a0_2 a0_3 t575 t577 true)) else (cartouchelaw08_HistoryLast.j0 k l0_0 a0_1 a0_2 a0_3 t575 t577 true)) else (none)) else (none))) else (cartouchelaw08_HistoryLast.j0 k l0_0 a0_1 a0_2 a0_3 t575 t577 false))))) else (some t575)) = some r := H
  have A3 := Aside0.mk A30
  clear A30
  by_cases c4 : t576 = true
  · subst c4
    have H1 : ((history_Last.f l0_0 a0_1 a0_2 a0_3).bind fun t577 => (if t577 < (-1) then (cartouchelaw08_HistoryLast.j0 k l0_0 a0_1 a0_2 a0_3 t575 t577 true) else (if t577 ≥ (l0_0.length : Int) then (cartouchelaw08_HistoryLast.j0 k l0_0 a0_1 a0_2 a0_3 t575 t577 true) else (if t577 ≥ 0 then (if t577 ≥ a0_3 then (cartouchelaw08_HistoryLast.j0 k l0_0 a0_1 a0_2 a0_3 t575 t577 true) else (if 0 ≤ t577 then (if t577 < (l0_0.length : Int) then (if ((rd_T31 l0_0 t577).f0) = 3 then (if ((rd_T31 l0_0 t577).f1) = a0_1 then (cartouchelaw08_HistoryLast.j0 k l0_0 a0_1 a0_2 a0_3 t575 t577 (((rd_T31 l0_0 t577).f2).toList != a0_2.toList)) else (cartouchelaw08_HistoryLast.j0 k l0_0 a0_1 a0_2 a0_3 t575 t577 true)) else (cartouchelaw08_HistoryLast.j0 k l0_0 a0_1 a0_2 a0_3 t575 t577 true)) else (none)) else (none))) else (cartouchelaw08_HistoryLast.j0 k l0_0 a0_1 a0_2 a0_3 t575 t577 false))))) = some r := by rw [if_pos rfl] at H; exact H
    clear H
    have H := H1
    clear H1
    replace H := Option.bind_eq_some_iff.mp H
    obtain ⟨t577, A50, H⟩ := H
    replace H : (if t577 < (-1) then (cartouchelaw08_HistoryLast.j0 k l0_0 a0_1 a0_2 a0_3 t575 t577 true) else (if t577 ≥ (l0_0.length : Int) then (cartouchelaw08_HistoryLast.j0 k l0_0 a0_1 a0_2 a0_3 t575 t577 true) else (if t577 ≥ 0 then (if t577 ≥ a0_3 then (cartouchelaw08_HistoryLast.j0 k l0_0 a0_1 a0_2 a0_3 t575 t577 true) else (if 0 ≤ t577 then (if t577 < (l0_0.length : Int) then (if ((rd_T31 l0_0 t577).f0) = 3 then (if ((rd_T31 l0_0 t577).f1) = a0_1 then (cartouchelaw08_HistoryLast.j0 k l0_0 a0_1 a0_2 a0_3 t575 t577 (((rd_T31 l0_0 t577).f2).toList != a0_2.toList)) else (cartouchelaw08_HistoryLast.j0 k l0_0 a0_1 a0_2 a0_3 t575 t577 true)) else (cartouchelaw08_HistoryLast.j0 k l0_0 a0_1 a0_2 a0_3 t575 t577 true)) else (none)) else (none))) else (cartouchelaw08_HistoryLast.j0 k l0_0 a0_1 a0_2 a0_3 t575 t577 false)))) = some r := H
    have A5 := Aside0.mk A50
    clear A50
    have HC6 := Aside0.mk H
    clear H
    go_enter Try.func19, Try.ntmps19
    go_upto_region 10 with (first | ((with_reducible refine gate_dst (N := 1) rfl ?_); (try (refine gate_guard (by rfl) ?_; dsimp only)); refine box_event ?hg (N := 1) ?hd (cs := #[.slice A0_0 l0_0.length c0_0, .int .i64 a0_1, .string a0_2, .int .i64 a0_3]) (t := 70) ?hr ?_; (case hd => rfl); (case hg => rfl); (case hr => first | (go_simp; done) | (go_simp; rfl)); intro gb574 hg w7 hbox hb; have n0_ := Aside0.mk (below_step (by repeat (first | (with_reducible first | exact HB.out | apply below_alloc | apply pw_below_drewN | apply below_drew1) | exact HB.out)) hb); have n1_ := Aside0.mk (hbox); have n2_ := Aside0.mk ((by rw [hg]; exact (below_size (by repeat (first | (with_reducible first | exact HB.out | apply below_alloc | apply pw_below_drewN | apply below_drew1) | exact HB.out))) : w.heap.size ≤ gb574)); have n3_ := Aside0.mk ((by rw [hg]; exact (below_size (by repeat (first | (with_reducible first | exact HB.out | apply below_alloc | apply pw_below_drewN | apply below_drew1) | exact HB.out))) : w.heap.size ≤ gb574)); clear HB; have HB := n0_; have BK574 := n1_; have GW574 := n2_; have GE574 := n3_; clear n0_ n1_ n2_ n3_; clear hb hbox hg; have hcz8_0 : w7.cell? ⟨gb574, 0, none⟩ = some (.slice A0_0 l0_0.length c0_0) := (blk_cell BK574.out 0).trans rfl; have hcz8_1 : w7.cell? ⟨gb574, 1, none⟩ = some (.int .i64 a0_1) := (blk_cell BK574.out 1).trans rfl; have hcz8_2 : w7.cell? ⟨gb574, 2, none⟩ = some (.string a0_2) := (blk_cell BK574.out 2).trans rfl; have hcz8_3 : w7.cell? ⟨gb574, 3, none⟩ = some (.int .i64 a0_3) := (blk_cell BK574.out 3).trans rfl; have hfz8_0 := blk_frozen BK574.out 0; have hfz8_1 := blk_frozen BK574.out 1; have hfz8_2 := blk_frozen BK574.out 2; have hfz8_3 := blk_frozen BK574.out 3) | ((with_reducible refine gate_callee (f := 56) rfl ?_); refine goesL_ (some 19) rfl rfl Try.func56 (by kernel_rfl) rfl #[] rfl (by (try simp only [List.map_toArray, List.map_cons, List.map_nil]); first | done | rfl | (simp only [List.length_drop, List.length_take]; rfl)) ?_; (with_reducible refine (cartouchelaw08_shown.calls  t575 _ A2.out).mono ?_); rintro e w9 ⟨rfl, hb⟩; refine ⟨_, rfl, ?_⟩; have n0_ := Aside0.mk (blk_below (g := gb574) (o := .cells #[.slice A0_0 l0_0.length c0_0, .int .i64 a0_1, .string a0_2, .int .i64 a0_3] 70 (0, 0)) (by (with_reducible repeat (first | refine blk_drewN ?_ _ | refine blk_drew ?_ | refine blk_alloc ?_ _)); exact BK574.out) hb); have n1_ := Aside0.mk (below_step (by repeat (first | (with_reducible first | exact HB.out | apply below_alloc | apply pw_below_drewN | apply below_drew1 | refine below_set ?_ GE574.out) | exact HB.out)) hb); clear BK574; clear HB; have BK574 := n0_; have HB := n1_; clear n0_ n1_; (try clear hb); (try clear hb2); (try clear hk); (try clear hi)) | ((with_reducible refine gate_callee (f := 57) rfl ?_); refine goesL_ (some 21) rfl rfl Try.func57 (by kernel_rfl) rfl #[.slice A0_0 l0_0.length c0_0] rfl (by (try simp only [List.map_toArray, List.map_cons, List.map_nil]); first | done | rfl | (simp only [List.length_drop, List.length_take]; rfl)) ?_; (with_reducible refine (cartouchelaw08_few.calls _ _ l0_0 true _ ?side1 ?side2 A3.out).mono ?_); (case side1 => repeat (first | exact (Kd.C_below HR0_0.out HB.out) | (with_reducible refine Kd.C_alloc ?_ _) | (with_reducible refine Kd.C_drewN ?_ _) | (with_reducible refine Kd.C_drew ?_))); (case side2 => exact HC0_0.out); rintro e w' ⟨rfl, ⟨nd, rfl⟩⟩; refine ⟨_, rfl, ?_⟩) | ((with_reducible refine gate_callee (f := 63) rfl ?_); refine goesL_ (some 29) rfl rfl Try.func63 (by kernel_rfl) rfl #[.slice A0_0 l0_0.length c0_0, .int .i64 a0_1, .string a0_2, .int .i64 a0_3] rfl (by (try simp only [List.map_toArray, List.map_cons, List.map_nil]); first | done | rfl | (simp only [List.length_drop, List.length_take]; rfl)) ?_; (with_reducible refine (history_Last.calls _ _ l0_0 a0_1 a0_2 a0_3 t577 _ ?side1 ?side2 A5.out).mono ?_); (case side1 => repeat (first | exact (Kd.C_below HR0_0.out (by repeat (first | (with_reducible first | exact HB.out | apply below_alloc | apply pw_below_drewN | apply below_drew1 | refine below_set ?_ GE574.out) | exact HB.out))) | (with_reducible refine Kd.C_alloc ?_ _) | (with_reducible refine Kd.C_drewN ?_ _) | (with_reducible refine Kd.C_drew ?_))); (case side2 => exact HC0_0.out); rintro e w10 ⟨rfl, hb⟩; refine ⟨_, rfl, ?_⟩; have n0_ := Aside0.mk (blk_below (g := gb574) (o := .cells #[.slice A0_0 l0_0.length c0_0, .int .i64 a0_1, .string a0_2, .int .i64 a0_3] 70 (0, 0)) (by (with_reducible repeat (first | refine blk_drewN ?_ _ | refine blk_drew ?_ | refine blk_alloc ?_ _)); exact BK574.out) hb); have n1_ := Aside0.mk (below_step (by repeat (first | (with_reducible first | exact HB.out | apply below_alloc | apply pw_below_drewN | apply below_drew1 | refine below_set ?_ GE574.out) | exact HB.out)) hb); clear BK574; clear HB; have BK574 := n0_; have HB := n1_; clear n0_ n1_; (try clear hb); (try clear hb2); (try clear hk); (try clear hi)))
    (try simp only [Act.put, List.setIfInBounds_toArray, List.set_cons_zero, List.set_cons_succ])
    go_cut [72] (fun v72 wc => ∃ (kq : Nat) (x72_5 : Bool), v72 = .bool x72_5 ∧ Aside0 (cartouchelaw08_HistoryLast.j0 kq l0_0 a0_1 a0_2 a0_3 t575 t577 x72_5 = some r) ∧ Aside0 (kq ≤ k) ∧ Aside0 (wc.heap[gb574]? = some (.cells #[(.slice A0_0 l0_0.length c0_0), .int .i64 a0_1, .string a0_2, .int .i64 a0_3] 70 (0, 0))) ∧ Aside0 (Below w.heap.size w wc))
    case first =>
      have H := HC6.out
      clear HC6
      by_cases c11 : t577 < (-1)
      · rw [if_pos c11] at H
        have c11b0 : decide (t577 < (-1)) = true := decide_eq_true c11
        clear c11
        (first | rw [c11b0] | (simp only [i64_w, i32_w]; rw [c11b0]) | skip)
        have H' := Aside0.mk H
        clear H
        go_wp2
        go_meet
        case rel => exact ⟨_, (true), (by first | rfl | (simp; done) | (simp [*]; done)), H', ⟨by first | omega | exact Nat.le_refl _⟩, ⟨by (with_reducible repeat (first | refine blk_drewN ?_ _ | refine blk_drew ?_ | refine blk_alloc ?_ _)); exact BK574.out⟩, ⟨by repeat (first | (with_reducible first | exact HB.out | apply below_alloc | apply pw_below_drewN | apply below_drew1 | refine below_set ?_ GE574.out) | exact HB.out)⟩⟩
      · rw [if_neg c11] at H
        have c11b0 : decide (t577 < (-1)) = false := decide_eq_false c11
        clear c11
        (first | rw [c11b0] | (simp only [i64_w, i32_w]; rw [c11b0]) | skip)
        by_cases c12 : t577 ≥ (l0_0.length : Int)
        · rw [if_pos c12] at H
          have c12b0 : decide ((l0_0.length : Int) ≤ t577) = true := decide_eq_true c12
          clear c12
          have H' := Aside0.mk H
          clear H
          go_wp2
          go_meet
          case rel => exact ⟨_, (true), (by first | rfl | (simp; done) | (simp [*]; done)), H', ⟨by first | omega | exact Nat.le_refl _⟩, ⟨by (with_reducible repeat (first | refine blk_drewN ?_ _ | refine blk_drew ?_ | refine blk_alloc ?_ _)); exact BK574.out⟩, ⟨by repeat (first | (with_reducible first | exact HB.out | apply below_alloc | apply pw_below_drewN | apply below_drew1 | refine below_set ?_ GE574.out) | exact HB.out)⟩⟩
        · rw [if_neg c12] at H
          have c12b0 : decide ((l0_0.length : Int) ≤ t577) = false := decide_eq_false c12
          clear c12
          by_cases c13 : t577 ≥ 0
          · rw [if_pos c13] at H
            have c13b0 : decide (0 ≤ t577) = true := decide_eq_true c13
            clear c13
            by_cases c14 : t577 ≥ a0_3
            · rw [if_pos c14] at H
              have c14b0 : decide (a0_3 ≤ t577) = true := decide_eq_true c14
              clear c14
              have H' := Aside0.mk H
              clear H
              go_wp2
              go_meet
              case rel => exact ⟨_, (true), (by first | rfl | (simp; done) | (simp [*]; done)), H', ⟨by first | omega | exact Nat.le_refl _⟩, ⟨by (with_reducible repeat (first | refine blk_drewN ?_ _ | refine blk_drew ?_ | refine blk_alloc ?_ _)); exact BK574.out⟩, ⟨by repeat (first | (with_reducible first | exact HB.out | apply below_alloc | apply pw_below_drewN | apply below_drew1 | refine below_set ?_ GE574.out) | exact HB.out)⟩⟩
            · rw [if_neg c14] at H
              have c14b0 : decide (a0_3 ≤ t577) = false := decide_eq_false c14
              clear c14
              by_cases c15 : 0 ≤ t577
              · rw [if_pos c15] at H
                have c15b0 : decide (0 ≤ t577) = true := decide_eq_true c15
                clear c15
                by_cases c16 : t577 < (l0_0.length : Int)
                · rw [if_pos c16] at H
                  have c16b0 : decide (t577 < (l0_0.length : Int)) = true := decide_eq_true c16
                  clear c16
                  by_cases c17 : ((rd_T31 l0_0 t577).f0) = 3
                  · rw [if_pos c17] at H
                    have c17b0 : (((rd_T31 l0_0 t577).f0) == 3) = true := beq_iff_eq.mpr c17
                    have c17b1 : (((rd_T31 l0_0 t577).f0) != 3) = false := bne_eq_false_iff_eq.mpr c17
                    clear c17
                    by_cases c18 : ((rd_T31 l0_0 t577).f1) = a0_1
                    · rw [if_pos c18] at H
                      have c18b0 : (((rd_T31 l0_0 t577).f1) == a0_1) = true := beq_iff_eq.mpr c18
                      have c18b1 : (((rd_T31 l0_0 t577).f1) != a0_1) = false := bne_eq_false_iff_eq.mpr c18
                      clear c18
                      have H' := Aside0.mk H
                      clear H
                      have p578 : 0 ≤ (t577 : Int) := of_decide_eq_true (by first | (with_reducible assumption) | assumption)
                      have q578 : t577 < (l0_0.length : Int) := of_decide_eq_true (by first | (with_reducible assumption) | assumption)
                      obtain ⟨ad578, e578, hx578_0, hx578_1, hx578_2, hx578_3⟩ := at_T31 HR0_0.out t577 p578 q578
                      cases e578
                      replace hx578_0 := (HB.out.cell (World.block_lt_of_cell? w _ hx578_0)).trans hx578_0
                      replace hx578_1 := (HB.out.cell (World.block_lt_of_cell? w _ hx578_1)).trans hx578_1
                      replace hx578_2 := (HB.out.cell (World.block_lt_of_cell? w _ hx578_2)).trans hx578_2
                      replace hx578_3 := (HB.out.cell (World.block_lt_of_cell? w _ hx578_3)).trans hx578_3
                      replace p578 := eq_true p578
                      replace q578 := eq_true q578
                      have p579 : 0 ≤ (t577 : Int) := of_decide_eq_true (by first | (with_reducible assumption) | assumption)
                      have q579 : t577 < (l0_0.length : Int) := of_decide_eq_true (by first | (with_reducible assumption) | assumption)
                      obtain ⟨ad579, e579, hx579_0, hx579_1, hx579_2, hx579_3⟩ := at_T31 HR0_0.out t577 p579 q579
                      obtain rfl : ad578 = ad579 := (by injection e579)
                      replace hx579_0 := (HB.out.cell (World.block_lt_of_cell? w _ hx579_0)).trans hx579_0
                      replace hx579_1 := (HB.out.cell (World.block_lt_of_cell? w _ hx579_1)).trans hx579_1
                      replace hx579_2 := (HB.out.cell (World.block_lt_of_cell? w _ hx579_2)).trans hx579_2
                      replace hx579_3 := (HB.out.cell (World.block_lt_of_cell? w _ hx579_3)).trans hx579_3
                      replace p579 := eq_true p579
                      replace q579 := eq_true q579
                      have p580 : 0 ≤ (t577 : Int) := of_decide_eq_true (by first | (with_reducible assumption) | assumption)
                      have q580 : t577 < (l0_0.length : Int) := of_decide_eq_true (by first | (with_reducible assumption) | assumption)
                      obtain ⟨ad580, e580, hx580_0, hx580_1, hx580_2, hx580_3⟩ := at_T31 HR0_0.out t577 p580 q580
                      obtain rfl : ad578 = ad580 := (by injection e580)
                      replace hx580_0 := (HB.out.cell (World.block_lt_of_cell? w _ hx580_0)).trans hx580_0
                      replace hx580_1 := (HB.out.cell (World.block_lt_of_cell? w _ hx580_1)).trans hx580_1
                      replace hx580_2 := (HB.out.cell (World.block_lt_of_cell? w _ hx580_2)).trans hx580_2
                      replace hx580_3 := (HB.out.cell (World.block_lt_of_cell? w _ hx580_3)).trans hx580_3
                      replace p580 := eq_true p580
                      replace q580 := eq_true q580
                      go_wp2
                      go_meet
                      case rel => exact ⟨_, ((((rd_T31 l0_0 t577).f2).toList != a0_2.toList)), (by first | rfl | (simp; done) | (simp [*]; done)), H', ⟨by first | omega | exact Nat.le_refl _⟩, ⟨by (with_reducible repeat (first | refine blk_drewN ?_ _ | refine blk_drew ?_ | refine blk_alloc ?_ _)); exact BK574.out⟩, ⟨by repeat (first | (with_reducible first | exact HB.out | apply below_alloc | apply pw_below_drewN | apply below_drew1 | refine below_set ?_ GE574.out) | exact HB.out)⟩⟩
                    · rw [if_neg c18] at H
                      have c18b0 : (((rd_T31 l0_0 t577).f1) == a0_1) = false := beq_eq_false_iff_ne.mpr c18
                      have c18b1 : (((rd_T31 l0_0 t577).f1) != a0_1) = true := bne_iff_ne.mpr c18
                      have H' := Aside0.mk H
                      clear H
                      have p578 : 0 ≤ (t577 : Int) := of_decide_eq_true (by first | (with_reducible assumption) | assumption)
                      have q578 : t577 < (l0_0.length : Int) := of_decide_eq_true (by first | (with_reducible assumption) | assumption)
                      obtain ⟨ad578, e578, hx578_0, hx578_1, hx578_2, hx578_3⟩ := at_T31 HR0_0.out t577 p578 q578
                      cases e578
                      replace hx578_0 := (HB.out.cell (World.block_lt_of_cell? w _ hx578_0)).trans hx578_0
                      replace hx578_1 := (HB.out.cell (World.block_lt_of_cell? w _ hx578_1)).trans hx578_1
                      replace hx578_2 := (HB.out.cell (World.block_lt_of_cell? w _ hx578_2)).trans hx578_2
                      replace hx578_3 := (HB.out.cell (World.block_lt_of_cell? w _ hx578_3)).trans hx578_3
                      replace p578 := eq_true p578
                      replace q578 := eq_true q578
                      have p579 : 0 ≤ (t577 : Int) := of_decide_eq_true (by first | (with_reducible assumption) | assumption)
                      have q579 : t577 < (l0_0.length : Int) := of_decide_eq_true (by first | (with_reducible assumption) | assumption)
                      obtain ⟨ad579, e579, hx579_0, hx579_1, hx579_2, hx579_3⟩ := at_T31 HR0_0.out t577 p579 q579
                      obtain rfl : ad578 = ad579 := (by injection e579)
                      replace hx579_0 := (HB.out.cell (World.block_lt_of_cell? w _ hx579_0)).trans hx579_0
                      replace hx579_1 := (HB.out.cell (World.block_lt_of_cell? w _ hx579_1)).trans hx579_1
                      replace hx579_2 := (HB.out.cell (World.block_lt_of_cell? w _ hx579_2)).trans hx579_2
                      replace hx579_3 := (HB.out.cell (World.block_lt_of_cell? w _ hx579_3)).trans hx579_3
                      replace p579 := eq_true p579
                      replace q579 := eq_true q579
                      go_wp2
                      go_meet
                      case rel => exact ⟨_, (true), (by first | rfl | (simp; done) | (simp [*]; done)), H', ⟨by first | omega | exact Nat.le_refl _⟩, ⟨by (with_reducible repeat (first | refine blk_drewN ?_ _ | refine blk_drew ?_ | refine blk_alloc ?_ _)); exact BK574.out⟩, ⟨by repeat (first | (with_reducible first | exact HB.out | apply below_alloc | apply pw_below_drewN | apply below_drew1 | refine below_set ?_ GE574.out) | exact HB.out)⟩⟩
                  · rw [if_neg c17] at H
                    have c17b0 : (((rd_T31 l0_0 t577).f0) == 3) = false := beq_eq_false_iff_ne.mpr c17
                    have c17b1 : (((rd_T31 l0_0 t577).f0) != 3) = true := bne_iff_ne.mpr c17
                    have H' := Aside0.mk H
                    clear H
                    have p578 : 0 ≤ (t577 : Int) := of_decide_eq_true (by first | (with_reducible assumption) | assumption)
                    have q578 : t577 < (l0_0.length : Int) := of_decide_eq_true (by first | (with_reducible assumption) | assumption)
                    obtain ⟨ad578, e578, hx578_0, hx578_1, hx578_2, hx578_3⟩ := at_T31 HR0_0.out t577 p578 q578
                    cases e578
                    replace hx578_0 := (HB.out.cell (World.block_lt_of_cell? w _ hx578_0)).trans hx578_0
                    replace hx578_1 := (HB.out.cell (World.block_lt_of_cell? w _ hx578_1)).trans hx578_1
                    replace hx578_2 := (HB.out.cell (World.block_lt_of_cell? w _ hx578_2)).trans hx578_2
                    replace hx578_3 := (HB.out.cell (World.block_lt_of_cell? w _ hx578_3)).trans hx578_3
                    replace p578 := eq_true p578
                    replace q578 := eq_true q578
                    go_wp2
                    go_meet
                    case rel => exact ⟨_, (true), (by first | rfl | (simp; done) | (simp [*]; done)), H', ⟨by first | omega | exact Nat.le_refl _⟩, ⟨by (with_reducible repeat (first | refine blk_drewN ?_ _ | refine blk_drew ?_ | refine blk_alloc ?_ _)); exact BK574.out⟩, ⟨by repeat (first | (with_reducible first | exact HB.out | apply below_alloc | apply pw_below_drewN | apply below_drew1 | refine below_set ?_ GE574.out) | exact HB.out)⟩⟩
                · rw [if_neg c16] at H
                  exact absurd H (by simp)
              · rw [if_neg c15] at H
                exact absurd H (by simp)
          · rw [if_neg c13] at H
            have c13b0 : decide (0 ≤ t577) = false := decide_eq_false c13
            clear c13
            have H' := Aside0.mk H
            clear H
            go_wp2
            go_meet
            case rel => exact ⟨_, (false), (by first | rfl | (simp; done) | (simp [*]; done)), H', ⟨by first | omega | exact Nat.le_refl _⟩, ⟨by (with_reducible repeat (first | refine blk_drewN ?_ _ | refine blk_drew ?_ | refine blk_alloc ?_ _)); exact BK574.out⟩, ⟨by repeat (first | (with_reducible first | exact HB.out | apply below_alloc | apply pw_below_drewN | apply below_drew1 | refine below_set ?_ GE574.out) | exact HB.out)⟩⟩
    case rest =>
      clear HC6
      try clear c1
      try clear p2
      try clear c4
      try clear c5
      try clear p5
      try clear q5
      try clear hx5
      try clear c6
      try clear c11
      try clear c11b0
      try clear c12
      try clear c12b0
      try clear c13
      try clear c13b0
      try clear c14
      try clear c14b0
      try clear c15
      try clear c15b0
      try clear c16
      try clear c16b0
      try clear c17
      try clear c17b0
      try clear c17b1
      try clear c18
      try clear c18b0
      try clear c18b1
      try clear hcz8_0
      try clear hcz8_1
      try clear hcz8_2
      try clear hcz8_3
      try clear hfz8_0
      try clear hfz8_1
      try clear hfz8_2
      try clear hfz8_3
      try clear hx578_0
      try clear hx578_1
      try clear hx578_2
      try clear hx578_3
      try clear hx579_0
      try clear hx579_1
      try clear hx579_2
      try clear hx579_3
      try clear hx580_0
      try clear hx580_1
      try clear hx580_2
      try clear hx580_3
      try clear p578
      try clear p579
      try clear p580
      try clear q578
      try clear q579
      try clear q580
      obtain ⟨kq, x72_5, rfl, HA, HJ5, BK574, HB⟩ := hcut
      cases kq with
      | zero => exact absurd HA.out (by simp [cartouchelaw08_HistoryLast.j0])
      | succ kj5 =>
        have H := HA.out
        clear HA
        simp only [cartouchelaw08_HistoryLast.j0] at H
        by_cases c19 : x72_5 = true
        · subst c19
          have H1 : (some false) = some r := by rw [if_pos rfl] at H; exact H
          clear H
          have H := H1
          clear H1
          obtain rfl := Option.some.inj H
          go_wp2
          go_ret
          exact ⟨by first | rfl | (simp [errW_none, errW_some] <;> rfl) | (simp [*, errW_none, errW_some] <;> rfl), by repeat (first | (with_reducible first | exact HB.out | apply below_alloc | apply pw_below_drewN | apply below_drew1 | refine below_set ?_ GE574.out) | exact HB.out)⟩
        · replace c19 := Bool.eq_false_iff.mpr c19
          subst c19
          have H1 : (cartouchelaw08_HistoryLast.l0 kj5 l0_0 a0_1 a0_2 a0_3 t575 (wrap64 (t577 + 1))) = some r := by rw [if_neg (show ¬ (false = true) by decide)] at H; exact H
          clear H
          have H := H1
          clear H1
          have H' := Aside0.mk H
          clear H
          go_wp2
          go_loopg [10] kj5 (fun kq v10 w' => ∃ (x10_2 : Int), v10 = .int .i64 x10_2 ∧ Aside0 (cartouchelaw08_HistoryLast.l0 kq l0_0 a0_1 a0_2 a0_3 t575 x10_2 = some r) ∧ Aside0 (kq ≤ kj5) ∧ Aside0 (w'.heap[gb574]? = some (.cells #[(.slice A0_0 l0_0.length c0_0), .int .i64 a0_1, .string a0_2, .int .i64 a0_3] 70 (0, 0))) ∧ Aside0 (Below w.heap.size w w'))
          case atStart => exact ⟨(wrap64 (t577 + 1)), (by first | rfl | (simp; done) | (simp [*]; done)), H', ⟨Nat.le_refl _⟩, ⟨by (with_reducible repeat (first | refine blk_drewN ?_ _ | refine blk_drew ?_ | refine blk_alloc ?_ _)); exact BK574.out⟩, ⟨by repeat (first | (with_reducible first | exact HB.out | apply below_alloc | apply pw_below_drewN | apply below_drew1 | refine below_set ?_ GE574.out) | exact HB.out)⟩⟩
          case round =>
            clear H'
            try clear c1
            try clear p2
            try clear c4
            try clear c5
            try clear p5
            try clear q5
            try clear hx5
            try clear c6
            try clear p6
            try clear c11
            try clear c11b0
            try clear c12
            try clear c12b0
            try clear c13
            try clear c13b0
            try clear c14
            try clear c14b0
            try clear c15
            try clear c15b0
            try clear c16
            try clear c16b0
            try clear c17
            try clear c17b0
            try clear c17b1
            try clear c18
            try clear c18b0
            try clear c18b1
            try clear c19
            try clear hcz8_0
            try clear hcz8_1
            try clear hcz8_2
            try clear hcz8_3
            try clear hfz8_0
            try clear hfz8_1
            try clear hfz8_2
            try clear hfz8_3
            try clear hx578_0
            try clear hx578_1
            try clear hx578_2
            try clear hx578_3
            try clear hx579_0
            try clear hx579_1
            try clear hx579_2
            try clear hx579_3
            try clear hx580_0
            try clear hx580_1
            try clear hx580_2
            try clear hx580_3
            try clear p2
            try clear p5
            try clear p578
            try clear p579
            try clear p580
            try clear q5
            try clear q578
            try clear q579
            try clear q580
            obtain ⟨x10_2, rfl, HA, HK2, BK574, HB⟩ := hrel
            cases gk with
            | zero => exact absurd HA.out (by simp [cartouchelaw08_HistoryLast.l0])
            | succ k2 =>
              have H := HA.out
              clear HA
              simp only [cartouchelaw08_HistoryLast.l0] at H
              have HC20 := Aside0.mk H
              clear H
              go_upto_region 13 with (fail)
              go_cut [83] (fun v83 wc => ∃ (kq : Nat) (x83_19 : Bool), v83 = .bool x83_19 ∧ Aside0 (cartouchelaw08_HistoryLast.j2 kq l0_0 a0_1 a0_2 a0_3 t575 x10_2 x83_19 = some r) ∧ Aside0 (kq ≤ k2) ∧ Aside0 (wc.heap[gb574]? = some (.cells #[(.slice A0_0 l0_0.length c0_0), .int .i64 a0_1, .string a0_2, .int .i64 a0_3] 70 (0, 0))) ∧ Aside0 (Below w.heap.size w wc))
              case first =>
                have H := HC20.out
                clear HC20
                by_cases c21 : x10_2 < a0_3
                · rw [if_pos c21] at H
                  have c21b0 : decide (x10_2 < a0_3) = true := decide_eq_true c21
                  clear c21
                  (first | rw [c21b0] | (simp only [i64_w, i32_w]; rw [c21b0]) | skip)
                  have H' := Aside0.mk H
                  clear H
                  go_wp2
                  go_meet
                  case rel => exact ⟨_, (decide (x10_2 < (l0_0.length : Int))), (by first | rfl | (simp; done) | (simp [*]; done)), H', ⟨by have := HJ5.out; have := HK2.out; first | omega | exact Nat.le_refl _⟩, ⟨by (with_reducible repeat (first | refine blk_drewN ?_ _ | refine blk_drew ?_ | refine blk_alloc ?_ _)); exact BK574.out⟩, ⟨by repeat (first | (with_reducible first | exact HB.out | apply below_alloc | apply pw_below_drewN | apply below_drew1 | refine below_set ?_ GE574.out) | exact HB.out)⟩⟩
                · rw [if_neg c21] at H
                  have c21b0 : decide (x10_2 < a0_3) = false := decide_eq_false c21
                  clear c21
                  (first | rw [c21b0] | (simp only [i64_w, i32_w]; rw [c21b0]) | skip)
                  have H' := Aside0.mk H
                  clear H
                  go_wp2
                  go_meet
                  case rel => exact ⟨_, (false), (by first | rfl | (simp; done) | (simp [*]; done)), H', ⟨by have := HJ5.out; have := HK2.out; first | omega | exact Nat.le_refl _⟩, ⟨by (with_reducible repeat (first | refine blk_drewN ?_ _ | refine blk_drew ?_ | refine blk_alloc ?_ _)); exact BK574.out⟩, ⟨by repeat (first | (with_reducible first | exact HB.out | apply below_alloc | apply pw_below_drewN | apply below_drew1 | refine below_set ?_ GE574.out) | exact HB.out)⟩⟩
              case rest =>
                clear HC20
                try clear c1
                try clear c2
                try clear p2
                try clear c4
                try clear c5
                try clear p5
                try clear q5
                try clear hx5
                try clear c6
                try clear p6
                try clear c11
                try clear c11b0
                try clear c12
                try clear c12b0
                try clear c13
                try clear c13b0
                try clear c14
                try clear c14b0
                try clear c15
                try clear c15b0
                try clear c16
                try clear c16b0
                try clear c17
                try clear c17b0
                try clear c17b1
                try clear c18
                try clear c18b0
                try clear c18b1
                try clear c19
                try clear c21
                try clear c21b0
                try clear hcz8_0
                try clear hcz8_1
                try clear hcz8_2
                try clear hcz8_3
                try clear hfz8_0
                try clear hfz8_1
                try clear hfz8_2
                try clear hfz8_3
                try clear hx578_0
                try clear hx578_1
                try clear hx578_2
                try clear hx578_3
                try clear hx579_0
                try clear hx579_1
                try clear hx579_2
                try clear hx579_3
                try clear hx580_0
                try clear hx580_1
                try clear hx580_2
                try clear hx580_3
                try clear p2
                try clear p5
                try clear p578
                try clear p579
                try clear p580
                try clear p6
                try clear q5
                try clear q578
                try clear q579
                try clear q580
                obtain ⟨kq, x83_19, rfl, HA, HJ19, BK574, HB⟩ := hcut
                cases kq with
                | zero => exact absurd HA.out (by simp [cartouchelaw08_HistoryLast.j2])
                | succ kj19 =>
                  have H := HA.out
                  clear HA
                  simp only [cartouchelaw08_HistoryLast.j2] at H
                  by_cases c22 : x83_19 = true
                  · subst c22
                    have H1 : (if 0 ≤ x10_2 then (if x10_2 < (l0_0.length : Int) then (if ((rd_T31 l0_0 x10_2).f0) = 3 then (if ((rd_T31 l0_0 x10_2).f1) = a0_1 then (if ((rd_T31 l0_0 x10_2).f2).toList = a0_2.toList then (some false) else (cartouchelaw08_HistoryLast.l0 kj19 l0_0 a0_1 a0_2 a0_3 t575 (wrap64 (x10_2 + 1)))) else (cartouchelaw08_HistoryLast.l0 kj19 l0_0 a0_1 a0_2 a0_3 t575 (wrap64 (x10_2 + 1)))) else (cartouchelaw08_HistoryLast.l0 kj19 l0_0 a0_1 a0_2 a0_3 t575 (wrap64 (x10_2 + 1)))) else (none)) else (none)) = some r := by rw [if_pos rfl] at H; exact H
                    clear H
                    have H := H1
                    clear H1
                    by_cases c23 : 0 ≤ x10_2
                    · rw [if_pos c23] at H
                      have c23b0 : decide (0 ≤ x10_2) = true := decide_eq_true c23
                      clear c23
                      by_cases c24 : x10_2 < (l0_0.length : Int)
                      · rw [if_pos c24] at H
                        have c24b0 : decide (x10_2 < (l0_0.length : Int)) = true := decide_eq_true c24
                        clear c24
                        by_cases c25 : ((rd_T31 l0_0 x10_2).f0) = 3
                        · rw [if_pos c25] at H
                          have c25b0 : (((rd_T31 l0_0 x10_2).f0) == 3) = true := beq_iff_eq.mpr c25
                          have c25b1 : (((rd_T31 l0_0 x10_2).f0) != 3) = false := bne_eq_false_iff_eq.mpr c25
                          clear c25
                          by_cases c26 : ((rd_T31 l0_0 x10_2).f1) = a0_1
                          · rw [if_pos c26] at H
                            have c26b0 : (((rd_T31 l0_0 x10_2).f1) == a0_1) = true := beq_iff_eq.mpr c26
                            have c26b1 : (((rd_T31 l0_0 x10_2).f1) != a0_1) = false := bne_eq_false_iff_eq.mpr c26
                            clear c26
                            by_cases c27 : ((rd_T31 l0_0 x10_2).f2).toList = a0_2.toList
                            · rw [if_pos c27] at H
                              have c27b0 : (((rd_T31 l0_0 x10_2).f2).toList == a0_2.toList) = true := beq_iff_eq.mpr c27
                              have c27b1 : (((rd_T31 l0_0 x10_2).f2).toList != a0_2.toList) = false := bne_eq_false_iff_eq.mpr c27
                              clear c27
                              obtain rfl := Option.some.inj H
                              have p581 : 0 ≤ (x10_2 : Int) := of_decide_eq_true (by first | (with_reducible assumption) | assumption)
                              have q581 : x10_2 < (l0_0.length : Int) := of_decide_eq_true (by first | (with_reducible assumption) | assumption)
                              obtain ⟨ad581, e581, hx581_0, hx581_1, hx581_2, hx581_3⟩ := at_T31 HR0_0.out x10_2 p581 q581
                              cases e581
                              replace hx581_0 := (HB.out.cell (World.block_lt_of_cell? w _ hx581_0)).trans hx581_0
                              replace hx581_1 := (HB.out.cell (World.block_lt_of_cell? w _ hx581_1)).trans hx581_1
                              replace hx581_2 := (HB.out.cell (World.block_lt_of_cell? w _ hx581_2)).trans hx581_2
                              replace hx581_3 := (HB.out.cell (World.block_lt_of_cell? w _ hx581_3)).trans hx581_3
                              replace p581 := eq_true p581
                              replace q581 := eq_true q581
                              have p582 : 0 ≤ (x10_2 : Int) := of_decide_eq_true (by first | (with_reducible assumption) | assumption)
                              have q582 : x10_2 < (l0_0.length : Int) := of_decide_eq_true (by first | (with_reducible assumption) | assumption)
                              obtain ⟨ad582, e582, hx582_0, hx582_1, hx582_2, hx582_3⟩ := at_T31 HR0_0.out x10_2 p582 q582
                              obtain rfl : ad581 = ad582 := (by injection e582)
                              replace hx582_0 := (HB.out.cell (World.block_lt_of_cell? w _ hx582_0)).trans hx582_0
                              replace hx582_1 := (HB.out.cell (World.block_lt_of_cell? w _ hx582_1)).trans hx582_1
                              replace hx582_2 := (HB.out.cell (World.block_lt_of_cell? w _ hx582_2)).trans hx582_2
                              replace hx582_3 := (HB.out.cell (World.block_lt_of_cell? w _ hx582_3)).trans hx582_3
                              replace p582 := eq_true p582
                              replace q582 := eq_true q582
                              have p583 : 0 ≤ (x10_2 : Int) := of_decide_eq_true (by first | (with_reducible assumption) | assumption)
                              have q583 : x10_2 < (l0_0.length : Int) := of_decide_eq_true (by first | (with_reducible assumption) | assumption)
                              obtain ⟨ad583, e583, hx583_0, hx583_1, hx583_2, hx583_3⟩ := at_T31 HR0_0.out x10_2 p583 q583
                              obtain rfl : ad581 = ad583 := (by injection e583)
                              replace hx583_0 := (HB.out.cell (World.block_lt_of_cell? w _ hx583_0)).trans hx583_0
                              replace hx583_1 := (HB.out.cell (World.block_lt_of_cell? w _ hx583_1)).trans hx583_1
                              replace hx583_2 := (HB.out.cell (World.block_lt_of_cell? w _ hx583_2)).trans hx583_2
                              replace hx583_3 := (HB.out.cell (World.block_lt_of_cell? w _ hx583_3)).trans hx583_3
                              replace p583 := eq_true p583
                              replace q583 := eq_true q583
                              go_wp2
                              go_ret
                              exact ⟨by first | rfl | (simp [errW_none, errW_some] <;> rfl) | (simp [*, errW_none, errW_some] <;> rfl), by repeat (first | (with_reducible first | exact HB.out | apply below_alloc | apply pw_below_drewN | apply below_drew1 | refine below_set ?_ GE574.out) | exact HB.out)⟩
                            · rw [if_neg c27] at H
                              have c27b0 : (((rd_T31 l0_0 x10_2).f2).toList == a0_2.toList) = false := beq_eq_false_iff_ne.mpr c27
                              have c27b1 : (((rd_T31 l0_0 x10_2).f2).toList != a0_2.toList) = true := bne_iff_ne.mpr c27
                              have H' := Aside0.mk H
                              clear H
                              have p581 : 0 ≤ (x10_2 : Int) := of_decide_eq_true (by first | (with_reducible assumption) | assumption)
                              have q581 : x10_2 < (l0_0.length : Int) := of_decide_eq_true (by first | (with_reducible assumption) | assumption)
                              obtain ⟨ad581, e581, hx581_0, hx581_1, hx581_2, hx581_3⟩ := at_T31 HR0_0.out x10_2 p581 q581
                              cases e581
                              replace hx581_0 := (HB.out.cell (World.block_lt_of_cell? w _ hx581_0)).trans hx581_0
                              replace hx581_1 := (HB.out.cell (World.block_lt_of_cell? w _ hx581_1)).trans hx581_1
                              replace hx581_2 := (HB.out.cell (World.block_lt_of_cell? w _ hx581_2)).trans hx581_2
                              replace hx581_3 := (HB.out.cell (World.block_lt_of_cell? w _ hx581_3)).trans hx581_3
                              replace p581 := eq_true p581
                              replace q581 := eq_true q581
                              have p582 : 0 ≤ (x10_2 : Int) := of_decide_eq_true (by first | (with_reducible assumption) | assumption)
                              have q582 : x10_2 < (l0_0.length : Int) := of_decide_eq_true (by first | (with_reducible assumption) | assumption)
                              obtain ⟨ad582, e582, hx582_0, hx582_1, hx582_2, hx582_3⟩ := at_T31 HR0_0.out x10_2 p582 q582
                              obtain rfl : ad581 = ad582 := (by injection e582)
                              replace hx582_0 := (HB.out.cell (World.block_lt_of_cell? w _ hx582_0)).trans hx582_0
                              replace hx582_1 := (HB.out.cell (World.block_lt_of_cell? w _ hx582_1)).trans hx582_1
                              replace hx582_2 := (HB.out.cell (World.block_lt_of_cell? w _ hx582_2)).trans hx582_2
                              replace hx582_3 := (HB.out.cell (World.block_lt_of_cell? w _ hx582_3)).trans hx582_3
                              replace p582 := eq_true p582
                              replace q582 := eq_true q582
                              have p583 : 0 ≤ (x10_2 : Int) := of_decide_eq_true (by first | (with_reducible assumption) | assumption)
                              have q583 : x10_2 < (l0_0.length : Int) := of_decide_eq_true (by first | (with_reducible assumption) | assumption)
                              obtain ⟨ad583, e583, hx583_0, hx583_1, hx583_2, hx583_3⟩ := at_T31 HR0_0.out x10_2 p583 q583
                              obtain rfl : ad581 = ad583 := (by injection e583)
                              replace hx583_0 := (HB.out.cell (World.block_lt_of_cell? w _ hx583_0)).trans hx583_0
                              replace hx583_1 := (HB.out.cell (World.block_lt_of_cell? w _ hx583_1)).trans hx583_1
                              replace hx583_2 := (HB.out.cell (World.block_lt_of_cell? w _ hx583_2)).trans hx583_2
                              replace hx583_3 := (HB.out.cell (World.block_lt_of_cell? w _ hx583_3)).trans hx583_3
                              replace p583 := eq_true p583
                              replace q583 := eq_true q583
                              go_wp2
                              go_roundg kj19
                              case measure => have := HJ5.out; have := HK2.out; have := HJ19.out; omega
                              case rel => exact ⟨(wrap64 (x10_2 + 1)), (by first | rfl | (simp; done) | (simp [*]; done)), H', ⟨by have := HJ5.out; have := HK2.out; have := HJ19.out; omega⟩, ⟨by (with_reducible repeat (first | refine blk_drewN ?_ _ | refine blk_drew ?_ | refine blk_alloc ?_ _)); exact BK574.out⟩, ⟨by repeat (first | (with_reducible first | exact HB.out | apply below_alloc | apply pw_below_drewN | apply below_drew1 | refine below_set ?_ GE574.out) | exact HB.out)⟩⟩
                          · rw [if_neg c26] at H
                            have c26b0 : (((rd_T31 l0_0 x10_2).f1) == a0_1) = false := beq_eq_false_iff_ne.mpr c26
                            have c26b1 : (((rd_T31 l0_0 x10_2).f1) != a0_1) = true := bne_iff_ne.mpr c26
                            have H' := Aside0.mk H
                            clear H
                            have p581 : 0 ≤ (x10_2 : Int) := of_decide_eq_true (by first | (with_reducible assumption) | assumption)
                            have q581 : x10_2 < (l0_0.length : Int) := of_decide_eq_true (by first | (with_reducible assumption) | assumption)
                            obtain ⟨ad581, e581, hx581_0, hx581_1, hx581_2, hx581_3⟩ := at_T31 HR0_0.out x10_2 p581 q581
                            cases e581
                            replace hx581_0 := (HB.out.cell (World.block_lt_of_cell? w _ hx581_0)).trans hx581_0
                            replace hx581_1 := (HB.out.cell (World.block_lt_of_cell? w _ hx581_1)).trans hx581_1
                            replace hx581_2 := (HB.out.cell (World.block_lt_of_cell? w _ hx581_2)).trans hx581_2
                            replace hx581_3 := (HB.out.cell (World.block_lt_of_cell? w _ hx581_3)).trans hx581_3
                            replace p581 := eq_true p581
                            replace q581 := eq_true q581
                            have p582 : 0 ≤ (x10_2 : Int) := of_decide_eq_true (by first | (with_reducible assumption) | assumption)
                            have q582 : x10_2 < (l0_0.length : Int) := of_decide_eq_true (by first | (with_reducible assumption) | assumption)
                            obtain ⟨ad582, e582, hx582_0, hx582_1, hx582_2, hx582_3⟩ := at_T31 HR0_0.out x10_2 p582 q582
                            obtain rfl : ad581 = ad582 := (by injection e582)
                            replace hx582_0 := (HB.out.cell (World.block_lt_of_cell? w _ hx582_0)).trans hx582_0
                            replace hx582_1 := (HB.out.cell (World.block_lt_of_cell? w _ hx582_1)).trans hx582_1
                            replace hx582_2 := (HB.out.cell (World.block_lt_of_cell? w _ hx582_2)).trans hx582_2
                            replace hx582_3 := (HB.out.cell (World.block_lt_of_cell? w _ hx582_3)).trans hx582_3
                            replace p582 := eq_true p582
                            replace q582 := eq_true q582
                            go_wp2
                            go_roundg kj19
                            case measure => have := HJ5.out; have := HK2.out; have := HJ19.out; omega
                            case rel => exact ⟨(wrap64 (x10_2 + 1)), (by first | rfl | (simp; done) | (simp [*]; done)), H', ⟨by have := HJ5.out; have := HK2.out; have := HJ19.out; omega⟩, ⟨by (with_reducible repeat (first | refine blk_drewN ?_ _ | refine blk_drew ?_ | refine blk_alloc ?_ _)); exact BK574.out⟩, ⟨by repeat (first | (with_reducible first | exact HB.out | apply below_alloc | apply pw_below_drewN | apply below_drew1 | refine below_set ?_ GE574.out) | exact HB.out)⟩⟩
                        · rw [if_neg c25] at H
                          have c25b0 : (((rd_T31 l0_0 x10_2).f0) == 3) = false := beq_eq_false_iff_ne.mpr c25
                          have c25b1 : (((rd_T31 l0_0 x10_2).f0) != 3) = true := bne_iff_ne.mpr c25
                          have H' := Aside0.mk H
                          clear H
                          have p581 : 0 ≤ (x10_2 : Int) := of_decide_eq_true (by first | (with_reducible assumption) | assumption)
                          have q581 : x10_2 < (l0_0.length : Int) := of_decide_eq_true (by first | (with_reducible assumption) | assumption)
                          obtain ⟨ad581, e581, hx581_0, hx581_1, hx581_2, hx581_3⟩ := at_T31 HR0_0.out x10_2 p581 q581
                          cases e581
                          replace hx581_0 := (HB.out.cell (World.block_lt_of_cell? w _ hx581_0)).trans hx581_0
                          replace hx581_1 := (HB.out.cell (World.block_lt_of_cell? w _ hx581_1)).trans hx581_1
                          replace hx581_2 := (HB.out.cell (World.block_lt_of_cell? w _ hx581_2)).trans hx581_2
                          replace hx581_3 := (HB.out.cell (World.block_lt_of_cell? w _ hx581_3)).trans hx581_3
                          replace p581 := eq_true p581
                          replace q581 := eq_true q581
                          go_wp2
                          go_roundg kj19
                          case measure => have := HJ5.out; have := HK2.out; have := HJ19.out; omega
                          case rel => exact ⟨(wrap64 (x10_2 + 1)), (by first | rfl | (simp; done) | (simp [*]; done)), H', ⟨by have := HJ5.out; have := HK2.out; have := HJ19.out; omega⟩, ⟨by (with_reducible repeat (first | refine blk_drewN ?_ _ | refine blk_drew ?_ | refine blk_alloc ?_ _)); exact BK574.out⟩, ⟨by repeat (first | (with_reducible first | exact HB.out | apply below_alloc | apply pw_below_drewN | apply below_drew1 | refine below_set ?_ GE574.out) | exact HB.out)⟩⟩
                      · rw [if_neg c24] at H
                        exact absurd H (by simp)
                    · rw [if_neg c23] at H
                      exact absurd H (by simp)
                  · replace c22 := Bool.eq_false_iff.mpr c22
                    subst c22
                    have H1 : (some t575) = some r := by rw [if_neg (show ¬ (false = true) by decide)] at H; exact H
                    clear H
                    have H := H1
                    clear H1
                    obtain rfl := Option.some.inj H
                    go_wp2
                    go_ret
                    exact ⟨by first | rfl | (simp [errW_none, errW_some] <;> rfl) | (simp [*, errW_none, errW_some] <;> rfl), by repeat (first | (with_reducible first | exact HB.out | apply below_alloc | apply pw_below_drewN | apply below_drew1 | refine below_set ?_ GE574.out) | exact HB.out)⟩
  · replace c4 := Bool.eq_false_iff.mpr c4
    subst c4
    have H1 : (some t575) = some r := by rw [if_neg (show ¬ (false = true) by decide)] at H; exact H
    clear H
    have H := H1
    clear H1
    obtain rfl := Option.some.inj H
    go_enter Try.func19, Try.ntmps19
    go_wp2_with (first | ((with_reducible refine gate_dst (N := 1) rfl ?_); (try (refine gate_guard (by rfl) ?_; dsimp only)); refine box_event ?hg (N := 1) ?hd (cs := #[.slice A0_0 l0_0.length c0_0, .int .i64 a0_1, .string a0_2, .int .i64 a0_3]) (t := 70) ?hr ?_; (case hd => rfl); (case hg => rfl); (case hr => first | (go_simp; done) | (go_simp; rfl)); intro gb574 hg w28 hbox hb; have n0_ := Aside0.mk (below_step (by repeat (first | (with_reducible first | exact HB.out | apply below_alloc | apply pw_below_drewN | apply below_drew1) | exact HB.out)) hb); have n1_ := Aside0.mk (hbox); have n2_ := Aside0.mk ((by rw [hg]; exact (below_size (by repeat (first | (with_reducible first | exact HB.out | apply below_alloc | apply pw_below_drewN | apply below_drew1) | exact HB.out))) : w.heap.size ≤ gb574)); have n3_ := Aside0.mk ((by rw [hg]; exact (below_size (by repeat (first | (with_reducible first | exact HB.out | apply below_alloc | apply pw_below_drewN | apply below_drew1) | exact HB.out))) : w.heap.size ≤ gb574)); clear HB; have HB := n0_; have BK574 := n1_; have GW574 := n2_; have GE574 := n3_; clear n0_ n1_ n2_ n3_; clear hb hbox hg; have hcz29_0 : w28.cell? ⟨gb574, 0, none⟩ = some (.slice A0_0 l0_0.length c0_0) := (blk_cell BK574.out 0).trans rfl; have hcz29_1 : w28.cell? ⟨gb574, 1, none⟩ = some (.int .i64 a0_1) := (blk_cell BK574.out 1).trans rfl; have hcz29_2 : w28.cell? ⟨gb574, 2, none⟩ = some (.string a0_2) := (blk_cell BK574.out 2).trans rfl; have hcz29_3 : w28.cell? ⟨gb574, 3, none⟩ = some (.int .i64 a0_3) := (blk_cell BK574.out 3).trans rfl; have hfz29_0 := blk_frozen BK574.out 0; have hfz29_1 := blk_frozen BK574.out 1; have hfz29_2 := blk_frozen BK574.out 2; have hfz29_3 := blk_frozen BK574.out 3) | ((with_reducible refine gate_callee (f := 56) rfl ?_); refine goesL_ (some 19) rfl rfl Try.func56 (by kernel_rfl) rfl #[] rfl (by (try simp only [List.map_toArray, List.map_cons, List.map_nil]); first | done | rfl | (simp only [List.length_drop, List.length_take]; rfl)) ?_; (with_reducible refine (cartouchelaw08_shown.calls  t575 _ A2.out).mono ?_); rintro e w30 ⟨rfl, hb⟩; refine ⟨_, rfl, ?_⟩; have n0_ := Aside0.mk (blk_below (g := gb574) (o := .cells #[.slice A0_0 l0_0.length c0_0, .int .i64 a0_1, .string a0_2, .int .i64 a0_3] 70 (0, 0)) (by (with_reducible repeat (first | refine blk_drewN ?_ _ | refine blk_drew ?_ | refine blk_alloc ?_ _)); exact BK574.out) hb); have n1_ := Aside0.mk (below_step (by repeat (first | (with_reducible first | exact HB.out | apply below_alloc | apply pw_below_drewN | apply below_drew1 | refine below_set ?_ GE574.out) | exact HB.out)) hb); clear BK574; clear HB; have BK574 := n0_; have HB := n1_; clear n0_ n1_; (try clear hb); (try clear hb2); (try clear hk); (try clear hi)) | ((with_reducible refine gate_callee (f := 57) rfl ?_); refine goesL_ (some 21) rfl rfl Try.func57 (by kernel_rfl) rfl #[.slice A0_0 l0_0.length c0_0] rfl (by (try simp only [List.map_toArray, List.map_cons, List.map_nil]); first | done | rfl | (simp only [List.length_drop, List.length_take]; rfl)) ?_; (with_reducible refine (cartouchelaw08_few.calls _ _ l0_0 false _ ?side1 ?side2 A3.out).mono ?_); (case side1 => repeat (first | exact (Kd.C_below HR0_0.out HB.out) | (with_reducible refine Kd.C_alloc ?_ _) | (with_reducible refine Kd.C_drewN ?_ _) | (with_reducible refine Kd.C_drew ?_))); (case side2 => exact HC0_0.out); rintro e w' ⟨rfl, ⟨nd, rfl⟩⟩; refine ⟨_, rfl, ?_⟩))
    go_ret
    exact ⟨by first | rfl | (simp [errW_none, errW_some] <;> rfl) | (simp [*, errW_none, errW_some] <;> rfl), by repeat (first | (with_reducible first | exact HB.out | apply below_alloc | apply pw_below_drewN | apply below_drew1 | refine below_set ?_ GE574.out) | exact HB.out)⟩

end Go.Proofs.YthjgmccpbcelgaaPr
