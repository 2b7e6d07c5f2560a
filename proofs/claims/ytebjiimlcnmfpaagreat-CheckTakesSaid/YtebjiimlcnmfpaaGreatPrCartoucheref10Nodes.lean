/- Contracts of Go functions, printed by a program of this session over the translation: each call answers what its Lean function says. -/
import Derived.Test.YtebjiimlcnmfpaaGreatPr0
import Derived.Test.YtebjiimlcnmfpaaGreatPrCartoucheref10Committed
namespace Go.Proofs.YtebjiimlcnmfpaaGreatPr
open Go.RowKit Go.Proofs.YtebjiimlcnmfpaaGreatW.PrintWords Go.Proofs.YtebjiimlcnmfpaaGreatW.PrintLast Go.Proofs.YtebjiimlcnmfpaaGreatW.PrintMore
attribute [local go_sem] max2_int min2_int max_two min_two max_three min_three max_four min_four   -- for this text's walks alone
set_option linter.unusedVariables false
set_option linter.unusedSimpArgs false
/-! ### cartoucheref10_Nodes: function 25 -/
mutual
def cartoucheref10_Nodes.l0 : Nat → List (S50) → List Int → Int → Option (List Int)
 | 0, _, _, _ => none
 | k + 1, x0, x3, x4 => if x4 < 300 then (cartoucheref10_Nodes.l1 k x0 x3 x4 false 0) else (some x3)
def cartoucheref10_Nodes.l1 : Nat → List (S50) → List Int → Int → Bool → Int → Option (List Int)
 | 0, _, _, _, _, _ => none
 | k + 1, x0, x3, x4, x5, x6 => if x6 < (x0.length : Int) then (if x5 = true then (cartoucheref10_Nodes.l1 k x0 x3 x4 true (wrap64 (x6 + 1))) else (if 0 ≤ x6 then (cartoucheref10_Nodes.l1 k x0 x3 x4 (((rd_T50 x0 x6).f1) == x4) (wrap64 (x6 + 1))) else (none))) else (if x5 = true then ((cartoucheref10_committed.f k x0 x4).bind fun t158 => (cartoucheref10_Nodes.j2 k x0 x3 x4 (decide (t158 ≥ 0)))) else (cartoucheref10_Nodes.j2 k x0 x3 x4 false))
def cartoucheref10_Nodes.j2 : Nat → List (S50) → List Int → Int → Bool → Option (List Int)
 | 0, _, _, _, _ => none
 | k + 1, x0, x3, x4, x33 => if x33 = true then (if x3.length < 17592186044416 then (cartoucheref10_Nodes.l0 k x0 (x3 ++ [x4]) (wrap64 (x4 + 1))) else (none)) else (cartoucheref10_Nodes.l0 k x0 x3 (wrap64 (x4 + 1)))
end
def cartoucheref10_Nodes.f (k : Nat) (l0 : List (S50)) : Option (List Int) := cartoucheref10_Nodes.l0 k l0 ([] : List Int) (-1)
theorem cartoucheref10_Nodes.mono_l : ∀ k, (∀ y0 y1 y2, LeO (cartoucheref10_Nodes.l0 k y0 y1 y2) (cartoucheref10_Nodes.l0 (k + 1) y0 y1 y2)) ∧ (∀ y0 y1 y2 y3 y4, LeO (cartoucheref10_Nodes.l1 k y0 y1 y2 y3 y4) (cartoucheref10_Nodes.l1 (k + 1) y0 y1 y2 y3 y4)) ∧ (∀ y0 y1 y2 y3, LeO (cartoucheref10_Nodes.j2 k y0 y1 y2 y3) (cartoucheref10_Nodes.j2 (k + 1) y0 y1 y2 y3))
 | 0 => ⟨fun _ _ _ r h => by simp [cartoucheref10_Nodes.l0] at h, fun _ _ _ _ _ r h => by simp [cartoucheref10_Nodes.l1] at h, fun _ _ _ _ r h => by simp [cartoucheref10_Nodes.j2] at h⟩
 | k + 1 => by
  obtain ⟨ih0, ih1, ih2⟩ := cartoucheref10_Nodes.mono_l k
  refine ⟨?_, ?_, ?_⟩
  · intro y0 y1 y2
    unfold cartoucheref10_Nodes.l0
    repeat' first
    | (with_reducible exact ih0 _ _ _)
    | (with_reducible exact ih1 _ _ _ _ _)
    | (with_reducible exact ih2 _ _ _ _)
    | (with_reducible exact cartoucheref10_committed.mono _ _ _)
    | (with_reducible exact LeO.refl _)
    | (with_reducible exact LeO.none _)
    | (with_reducible refine LeO.ite ?_ ?_)
    | (with_reducible refine LeO.bind ?_ (fun _ => ?_))
    | exact ih0 _ _ _
    | exact ih1 _ _ _ _ _
    | exact ih2 _ _ _ _
    | exact cartoucheref10_committed.mono _ _ _
    | exact LeO.none _
    | refine LeO.ite ?_ ?_
    | refine LeO.bind ?_ (fun _ => ?_)
  · intro y0 y1 y2 y3 y4
    unfold cartoucheref10_Nodes.l1
    repeat' first
    | (with_reducible exact ih0 _ _ _)
    | (with_reducible exact ih1 _ _ _ _ _)
    | (with_reducible exact ih2 _ _ _ _)
    | (with_reducible exact cartoucheref10_committed.mono _ _ _)
    | (with_reducible exact LeO.refl _)
    | (with_reducible exact LeO.none _)
    | (with_reducible refine LeO.ite ?_ ?_)
    | (with_reducible refine LeO.bind ?_ (fun _ => ?_))
    | exact ih0 _ _ _
    | exact ih1 _ _ _ _ _
    | exact ih2 _ _ _ _
    | exact cartoucheref10_committed.mono _ _ _
    | exact LeO.none _
    | refine LeO.ite ?_ ?_
    | refine LeO.bind ?_ (fun _ => ?_)
  · intro y0 y1 y2 y3
    unfold cartoucheref10_Nodes.j2
    repeat' first
    | (with_reducible exact ih0 _ _ _)
    | (with_reducible exact ih1 _ _ _ _ _)
    | (with_reducible exact ih2 _ _ _ _)
    | (with_reducible exact cartoucheref10_committed.mono _ _ _)
    | (with_reducible exact LeO.refl _)
    | (with_reducible exact LeO.none _)
    | (with_reducible refine LeO.ite ?_ ?_)
    | (with_reducible refine LeO.bind ?_ (fun _ => ?_))
    | exact ih0 _ _ _
    | exact ih1 _ _ _ _ _
    | exact ih2 _ _ _ _
    | exact cartoucheref10_committed.mono _ _ _
    | exact LeO.none _
    | refine LeO.ite ?_ ?_
    | refine LeO.bind ?_ (fun _ => ?_)
theorem cartoucheref10_Nodes.mono : ∀ a0 k, LeO (cartoucheref10_Nodes.f k a0) (cartoucheref10_Nodes.f (k + 1) a0) := by
 intro a0 k
 obtain ⟨ih0, ih1, ih2⟩ := cartoucheref10_Nodes.mono_l k
 unfold cartoucheref10_Nodes.f
 repeat' first
  | (with_reducible exact ih0 _ _ _)
  | (with_reducible exact ih1 _ _ _ _ _)
  | (with_reducible exact ih2 _ _ _ _)
  | (with_reducible exact cartoucheref10_committed.mono _ _ _)
  | (with_reducible exact LeO.refl _)
  | (with_reducible exact LeO.none _)
  | (with_reducible refine LeO.ite ?_ ?_)
  | (with_reducible refine LeO.bind ?_ (fun _ => ?_))
  | exact ih0 _ _ _
  | exact ih1 _ _ _ _ _
  | exact ih2 _ _ _ _
  | exact cartoucheref10_committed.mono _ _ _
  | exact LeO.none _
  | refine LeO.ite ?_ ?_
  | refine LeO.bind ?_ (fun _ => ?_)
set_option maxHeartbeats 8000000 in
set_option maxRecDepth 100000 in
theorem cartoucheref10_Nodes.calls (k : Nat) (A0 : Option Addr) (c0 : Nat) (l0 : List (S50)) (r : List Int) (w : World) (hr0 : Kd.C k50 w A0 l0.length l0) (hc0 : l0.length ≤ c0) (h : cartoucheref10_Nodes.f k l0 = some r) :
 Calls Tryz.prog 25 #[.slice A0 l0.length c0] w fun e w' => ∃ v0_ : Value, e = .returned (v0_) ∧ Kd.R (Kd.int .i64) 3 w' w.heap.size (fun _ => True) v0_ r ∧ Below w.heap.size w w' := by
 have HR0 := Aside0.mk hr0
 have HC0 := Aside0.mk hc0
 clear hr0 hc0
 have HB := Aside0.mk (Below.refl w.heap.size w)
 have H : (cartoucheref10_Nodes.l0 k l0 ([] : List Int) (-1)) = some r := h
 clear h
 have H' := Aside0.mk H
 clear H
 go_enter Tryz.func25, Tryz.ntmps25
 go_wp2
 go_loopg [3, 4] k (fun kq v3 v4 w' => ∃ (x3_1 : List Int) (x4_1 : Int), v4 = .int .i64 x4_1 ∧ Aside0 (cartoucheref10_Nodes.l0 kq l0 x3_1 x4_1 = some r) ∧ Aside0 (kq ≤ k) ∧ Aside0 (Kd.R (Kd.int .i64) 3 w' w.heap.size (fun _ => True) v3 x3_1) ∧ Aside0 (Below w.heap.size w w'))
 case atStart => exact ⟨(([] : List Int)), ((-1)), (by first | rfl | (simp; done) | (simp [*]; done)), H', ⟨Nat.le_refl _⟩, ⟨by first | exact Kd.R_nil _ _ _ _ _ | exact Kd.N_nil _ _ _ _ _ | exact Kd.V_nil _ _ _ _ _ | exact Kd.Q_nil _ _ _ _ _ | exact Kd.S_nil _ _ _ _ _⟩, ⟨by repeat (first | (with_reducible first | exact HB.out | apply below_alloc | apply pw_below_drewN | apply below_drew1) | exact HB.out)⟩⟩
 case round =>
  clear H'
  obtain ⟨x3_1, x4_1, rfl, HA, HK1, HO_3, HB⟩ := hrel
  cases gk with
  | zero => exact absurd HA.out (by simp [cartoucheref10_Nodes.l0])
  | succ k1 =>
   have H := HA.out
   clear HA
   simp only [cartoucheref10_Nodes.l0] at H
   by_cases c2 : x4_1 < 300
   · rw [if_pos c2] at H
     have c2b0 : decide (x4_1 < 300) = true := decide_eq_true c2
     clear c2
     have H' := Aside0.mk H
     clear H
     go_wp2
     go_loopg [5, 6] k1 (fun kq v5 v6 w' => ∃ (x5_2 : Bool) (x6_2 : Int), v5 = .bool x5_2 ∧ v6 = .int .i64 x6_2 ∧ Aside0 (cartoucheref10_Nodes.l1 kq l0 x3_1 x4_1 x5_2 x6_2 = some r) ∧ Aside0 (kq ≤ k1) ∧ Aside0 (Kd.R (Kd.int .i64) 3 w' w.heap.size (fun _ => True) u3 x3_1) ∧ Aside0 (Below w.heap.size w w'))
     case atStart => exact ⟨(false), (0), (by first | rfl | (simp; done) | (simp [*]; done)), (by first | rfl | (simp; done) | (simp [*]; done)), H', ⟨Nat.le_refl _⟩, ⟨by (with_reducible repeat (first | apply Kd.R_alloc | apply Kd.R_drewN | apply Kd.R_drew)); exact HO_3.out⟩, ⟨by repeat (first | (with_reducible first | exact HB.out | apply below_alloc | apply pw_below_drewN | apply below_drew1) | exact HB.out)⟩⟩
     case round =>
      clear H'
      try clear c2
      try clear c2b0
      try clear p2
      obtain ⟨x5_2, x6_2, rfl, rfl, HA, HK2, HO_3, HB⟩ := hrel
      cases gk with
      | zero => exact absurd HA.out (by simp [cartoucheref10_Nodes.l1])
      | succ k2 =>
       have H := HA.out
       clear HA
       simp only [cartoucheref10_Nodes.l1] at H
       by_cases c3 : x6_2 < (l0.length : Int)
       · rw [if_pos c3] at H
         have c3b0 : decide (x6_2 < (l0.length : Int)) = true := decide_eq_true c3
         clear c3
         by_cases c4 : x5_2 = true
         · subst c4
           have H1 : (cartoucheref10_Nodes.l1 k2 l0 x3_1 x4_1 true (wrap64 (x6_2 + 1))) = some r := by rw [if_pos rfl] at H; exact H
           clear H
           have H := H1
           clear H1
           have H' := Aside0.mk H
           clear H
           go_wp2
           go_roundg k2
           case measure => have := HK1.out; have := HK2.out; omega
           case rel => exact ⟨(true), (wrap64 (x6_2 + 1)), (by first | rfl | (simp; done) | (simp [*]; done)), (by first | rfl | (simp; done) | (simp [*]; done)), H', ⟨by have := HK1.out; have := HK2.out; omega⟩, ⟨by (with_reducible repeat (first | apply Kd.R_alloc | apply Kd.R_drewN | apply Kd.R_drew)); exact HO_3.out⟩, ⟨by repeat (first | (with_reducible first | exact HB.out | apply below_alloc | apply pw_below_drewN | apply below_drew1) | exact HB.out)⟩⟩
         · replace c4 := Bool.eq_false_iff.mpr c4
           subst c4
           have H1 : (if 0 ≤ x6_2 then (cartoucheref10_Nodes.l1 k2 l0 x3_1 x4_1 (((rd_T50 l0 x6_2).f1) == x4_1) (wrap64 (x6_2 + 1))) else (none)) = some r := by rw [if_neg (show ¬ (false = true) by decide)] at H; exact H
           clear H
           have H := H1
           clear H1
           by_cases c5 : 0 ≤ x6_2
           · rw [if_pos c5] at H
             have c5b0 : decide (0 ≤ x6_2) = true := decide_eq_true c5
             clear c5
             have H' := Aside0.mk H
             clear H
             have p157 : 0 ≤ (x6_2 : Int) := of_decide_eq_true (by first | (with_reducible assumption) | assumption)
             have q157 : x6_2 < (l0.length : Int) := of_decide_eq_true (by first | (with_reducible assumption) | assumption)
             obtain ⟨ad157, e157, hx157_0, hx157_1, hx157_2, hx157_3⟩ := at_T50 HR0.out x6_2 p157 q157
             cases e157
             replace hx157_0 := (HB.out.cell (World.block_lt_of_cell? w _ hx157_0)).trans hx157_0
             replace hx157_1 := (HB.out.cell (World.block_lt_of_cell? w _ hx157_1)).trans hx157_1
             replace hx157_2 := (HB.out.cell (World.block_lt_of_cell? w _ hx157_2)).trans hx157_2
             replace hx157_3 := (HB.out.cell (World.block_lt_of_cell? w _ hx157_3)).trans hx157_3
             replace p157 := eq_true p157
             replace q157 := eq_true q157
             go_wp2
             go_roundg k2
             case measure => have := HK1.out; have := HK2.out; omega
             case rel => exact ⟨((((rd_T50 l0 x6_2).f1) == x4_1)), (wrap64 (x6_2 + 1)), (by first | rfl | (simp; done) | (simp [*]; done)), (by first | rfl | (simp; done) | (simp [*]; done)), H', ⟨by have := HK1.out; have := HK2.out; omega⟩, ⟨by (with_reducible repeat (first | apply Kd.R_alloc | apply Kd.R_drewN | apply Kd.R_drew)); exact HO_3.out⟩, ⟨by repeat (first | (with_reducible first | exact HB.out | apply below_alloc | apply pw_below_drewN | apply below_drew1) | exact HB.out)⟩⟩
           · rw [if_neg c5] at H
             exact absurd H (by simp)
       · rw [if_neg c3] at H
         have c3b0 : decide (x6_2 < (l0.length : Int)) = false := decide_eq_false c3
         clear c3
         have HC6 := Aside0.mk H
         clear H
         go_upto_region 10 with (fail)
         go_cut [33] (fun v33 wc => ∃ (kq : Nat) (x33_5 : Bool), v33 = .bool x33_5 ∧ Aside0 (cartoucheref10_Nodes.j2 kq l0 x3_1 x4_1 x33_5 = some r) ∧ Aside0 (kq ≤ k2) ∧ Aside0 (Kd.R (Kd.int .i64) 3 wc w.heap.size (fun _ => True) u3 x3_1) ∧ Aside0 (Below w.heap.size w wc))
         case first =>
          have H := HC6.out
          clear HC6
          by_cases c7 : x5_2 = true
          · subst c7
            have H1 : ((cartoucheref10_committed.f k2 l0 x4_1).bind fun t158 => (cartoucheref10_Nodes.j2 k2 l0 x3_1 x4_1 (decide (t158 ≥ 0)))) = some r := by rw [if_pos rfl] at H; exact H
            clear H
            have H := H1
            clear H1
            replace H := Option.bind_eq_some_iff.mp H
            obtain ⟨t158, A80, H⟩ := H
            replace H : (cartoucheref10_Nodes.j2 k2 l0 x3_1 x4_1 (decide (t158 ≥ 0))) = some r := H
            have A8 := Aside0.mk A80
            clear A80
            have H' := Aside0.mk H
            clear H
            go_wp2_with (first | (go_at_call 54; (with_reducible refine (cartoucheref10_committed.calls k2 _ _ l0 x4_1 t158 _ ?side1 ?side2 A8.out).mono ?_); (case side1 => repeat (first | exact (Kd.C_below HR0.out HB.out) | (with_reducible refine Kd.C_alloc ?_ _) | (with_reducible refine Kd.C_drewN ?_ _) | (with_reducible refine Kd.C_drew ?_))); (case side2 => exact HC0.out); rintro e w' ⟨rfl, ⟨nd, rfl⟩⟩))
            go_meet
            case rel => exact ⟨_, (decide (t158 ≥ 0)), (by first | rfl | (simp; done) | (simp [*]; done)), H', ⟨by have := HK1.out; have := HK2.out; first | omega | exact Nat.le_refl _⟩, ⟨by (with_reducible repeat (first | apply Kd.R_alloc | apply Kd.R_drewN | apply Kd.R_drew)); exact HO_3.out⟩, ⟨by repeat (first | (with_reducible first | exact HB.out | apply below_alloc | apply pw_below_drewN | apply below_drew1) | exact HB.out)⟩⟩
          · replace c7 := Bool.eq_false_iff.mpr c7
            subst c7
            have H1 : (cartoucheref10_Nodes.j2 k2 l0 x3_1 x4_1 false) = some r := by rw [if_neg (show ¬ (false = true) by decide)] at H; exact H
            clear H
            have H := H1
            clear H1
            have H' := Aside0.mk H
            clear H
            go_wp2
            go_meet
            case rel => exact ⟨_, (false), (by first | rfl | (simp; done) | (simp [*]; done)), H', ⟨by have := HK1.out; have := HK2.out; first | omega | exact Nat.le_refl _⟩, ⟨by (with_reducible repeat (first | apply Kd.R_alloc | apply Kd.R_drewN | apply Kd.R_drew)); exact HO_3.out⟩, ⟨by repeat (first | (with_reducible first | exact HB.out | apply below_alloc | apply pw_below_drewN | apply below_drew1) | exact HB.out)⟩⟩
         case rest =>
          clear HC6
          try clear p1
          try clear q1
          try clear hx1
          try clear c2
          try clear c2b0
          try clear p2
          try clear c3
          try clear c3b0
          try clear c4
          try clear c5
          try clear c5b0
          try clear p6
          try clear c7
          try clear hx157_0
          try clear hx157_1
          try clear hx157_2
          try clear hx157_3
          try clear p157
          try clear p2
          try clear q157
          obtain ⟨kq, x33_5, rfl, HA, HJ5, HO_3, HB⟩ := hcut
          cases kq with
          | zero => exact absurd HA.out (by simp [cartoucheref10_Nodes.j2])
          | succ kj5 =>
           have H := HA.out
           clear HA
           simp only [cartoucheref10_Nodes.j2] at H
           by_cases c9 : x33_5 = true
           · subst c9
             have H1 : (if x3_1.length < 17592186044416 then (cartoucheref10_Nodes.l0 kj5 l0 (x3_1 ++ [x4_1]) (wrap64 (x4_1 + 1))) else (none)) = some r := by rw [if_pos rfl] at H; exact H
             clear H
             have H := H1
             clear H1
             by_cases c10 : x3_1.length < 17592186044416
             · rw [if_pos c10] at H
               have LMc10 := Aside0.mk c10
               clear c10
               obtain ⟨y159, hy159⟩ : ∃ y_ : List Int, y_ = (x3_1 ++ [x4_1]) := ⟨_, rfl⟩
               replace H : (cartoucheref10_Nodes.l0 kj5 l0 y159 (wrap64 (x4_1 + 1))) = some r := by first | (rw [hy159]; with_reducible exact H) | (have H2_ := (Option.bind_some _ _).symm.trans H; rw [hy159]; with_reducible exact H2_) | (have H2_ := (Option.bind_some _ _).symm.trans H; with_reducible exact H2_) | with_reducible exact H | (rw [hy159]; exact H) | exact H
               have Ny159 := Aside0.mk hy159
               clear hy159
               have H' := Aside0.mk H
               clear H
               go_wp2_with (first | ((with_reducible refine gate_builtin (b := .append) (xs := #[.tmp 34, .tmp 36]) rfl ?_); at_builtin; refine Kd.R_append (Kd.int .i64) (w0 := w) w.heap.size rfl (.tmp 34) (.tmp 36) 31 3 (.int .i64 0) 8 rfl Tryz.underlying31 info3 rfl (by decide) (by omega) u3 x3_1 x4_1 [.int .i64 x4_1] (fun _ => True) (fun _ => False) rfl rfl ?aP (fun _ hk => hk.elim) ?aF ?aO ?aB ?aS ?aL ?_; (case aP => exact rfl); (case aB => exact (by repeat (first | (with_reducible first | exact HB.out | apply below_alloc | apply pw_below_drewN | apply below_drew1) | exact HB.out))); (case aF => exact (fun _ _ => trivial)); (case aO => exact (by (with_reducible repeat (first | apply Kd.R_alloc | apply Kd.R_drewN | apply Kd.R_drew)); exact HO_3.out)); (case aS => exact (below_size (by repeat (first | (with_reducible first | exact HB.out | apply below_alloc | apply pw_below_drewN | apply below_drew1) | exact HB.out)))); (case aL => have := LMc10.out; omega); intro v160 w11 ho hb hg hat; rw [← Ny159.out] at ho; have n0_ := Aside0.mk (hb); have n1_ := Aside0.mk (ho); clear HB; clear HO_3; have HB := n0_; have HO161 := n1_; clear n0_ n1_; clear ho hb hg hat))
               go_roundg kj5
               case measure => have := HK1.out; have := HK2.out; have := HJ5.out; omega
               case rel => exact ⟨(y159), (wrap64 (x4_1 + 1)), (by first | rfl | (simp; done) | (simp [*]; done)), H', ⟨by have := HK1.out; have := HK2.out; have := HJ5.out; omega⟩, ⟨by (with_reducible repeat (first | apply Kd.R_alloc | apply Kd.R_drewN | apply Kd.R_drew)); exact HO161.out⟩, ⟨by repeat (first | (with_reducible first | exact HB.out | apply below_alloc | apply pw_below_drewN | apply below_drew1) | exact HB.out)⟩⟩
             · rw [if_neg c10] at H
               exact absurd H (by simp)
           · replace c9 := Bool.eq_false_iff.mpr c9
             subst c9
             have H1 : (cartoucheref10_Nodes.l0 kj5 l0 x3_1 (wrap64 (x4_1 + 1))) = some r := by rw [if_neg (show ¬ (false = true) by decide)] at H; exact H
             clear H
             have H := H1
             clear H1
             have H' := Aside0.mk H
             clear H
             go_wp2
             go_roundg kj5
             case measure => have := HK1.out; have := HK2.out; have := HJ5.out; omega
             case rel => exact ⟨(x3_1), (wrap64 (x4_1 + 1)), (by first | rfl | (simp; done) | (simp [*]; done)), H', ⟨by have := HK1.out; have := HK2.out; have := HJ5.out; omega⟩, ⟨by (with_reducible repeat (first | apply Kd.R_alloc | apply Kd.R_drewN | apply Kd.R_drew)); exact HO_3.out⟩, ⟨by repeat (first | (with_reducible first | exact HB.out | apply below_alloc | apply pw_below_drewN | apply below_drew1) | exact HB.out)⟩⟩
   · rw [if_neg c2] at H
     have c2b0 : decide (x4_1 < 300) = false := decide_eq_false c2
     clear c2
     obtain rfl := Option.some.inj H
     go_wp2
     go_ret
     exact ⟨_, by first | rfl | (simp [errW_none, errW_some] <;> rfl) | (simp [*, errW_none, errW_some] <;> rfl), by (with_reducible repeat (first | apply Kd.R_alloc | apply Kd.R_drewN | apply Kd.R_drew)); exact HO_3.out, by repeat (first | (with_reducible first | exact HB.out | apply below_alloc | apply pw_below_drewN | apply below_drew1) | exact HB.out)⟩
end Go.Proofs.YtebjiimlcnmfpaaGreatPr
