/- Contracts of Go functions, printed by a program of this session over the translation: each call answers what its Lean function says. -/
import Derived.Test.YtebjiimlcnmfpaaGreatPr0
namespace Go.Proofs.YtebjiimlcnmfpaaGreatPr
open Go.RowKit Go.Proofs.YtebjiimlcnmfpaaGreatW.PrintWords Go.Proofs.YtebjiimlcnmfpaaGreatW.PrintLast Go.Proofs.YtebjiimlcnmfpaaGreatW.PrintMore
attribute [local go_sem] max2_int min2_int max_two min_two max_three min_three max_four min_four   -- for this text's walks alone
set_option linter.unusedVariables false
set_option linter.unusedSimpArgs false
/-! ### cartoucheref12_Flat: function 30 -/
mutual
def cartoucheref12_Flat.l0 : Nat → List (S80) → List (S24) → Int → Option ((List (S24)))
 | 0, _, _, _ => none
 | k + 1, x0, x3, x4 => if x4 < (x0.length : Int) then (cartoucheref12_Flat.l1 k x0 x3 x4 0) else (some x3)
def cartoucheref12_Flat.l1 : Nat → List (S80) → List (S24) → Int → Int → Option ((List (S24)))
 | 0, _, _, _, _ => none
 | k + 1, x0, x3, x4, x5 => if 0 ≤ x4 then (if x4 < (x0.length : Int) then (if x5 < (((rd_T80 x0 x4).f2).length : Int) then (if 0 ≤ x5 then (if x3.length < 3518437208883 then (cartoucheref12_Flat.l1 k x0 (x3 ++ [(⟨(rd_T24 ((rd_T80 x0 x4).f2) x5).f0, (rd_T24 ((rd_T80 x0 x4).f2) x5).f1, (rd_T24 ((rd_T80 x0 x4).f2) x5).f2, (rd_T24 ((rd_T80 x0 x4).f2) x5).f3, (rd_T24 ((rd_T80 x0 x4).f2) x5).f4⟩ : S24)]) x4 (wrap64 (x5 + 1))) else (none)) else (none)) else (cartoucheref12_Flat.l0 k x0 x3 (wrap64 (x4 + 1)))) else (none)) else (none)
end
def cartoucheref12_Flat.f (k : Nat) (l0 : List (S80)) : Option ((List (S24))) := cartoucheref12_Flat.l0 k l0 ([] : List (S24)) 0
theorem cartoucheref12_Flat.mono_l : ∀ k, (∀ y0 y1 y2, LeO (cartoucheref12_Flat.l0 k y0 y1 y2) (cartoucheref12_Flat.l0 (k + 1) y0 y1 y2)) ∧ (∀ y0 y1 y2 y3, LeO (cartoucheref12_Flat.l1 k y0 y1 y2 y3) (cartoucheref12_Flat.l1 (k + 1) y0 y1 y2 y3))
 | 0 => ⟨fun _ _ _ r h => by simp [cartoucheref12_Flat.l0] at h, fun _ _ _ _ r h => by simp [cartoucheref12_Flat.l1] at h⟩
 | k + 1 => by
  obtain ⟨ih0, ih1⟩ := cartoucheref12_Flat.mono_l k
  refine ⟨?_, ?_⟩
  · intro y0 y1 y2
    unfold cartoucheref12_Flat.l0
    repeat' first
    | (with_reducible exact ih0 _ _ _)
    | (with_reducible exact ih1 _ _ _ _)
    | (with_reducible exact LeO.refl _)
    | (with_reducible exact LeO.none _)
    | (with_reducible refine LeO.ite ?_ ?_)
    | (with_reducible refine LeO.bind ?_ (fun _ => ?_))
    | exact ih0 _ _ _
    | exact ih1 _ _ _ _
    | exact LeO.none _
    | refine LeO.ite ?_ ?_
    | refine LeO.bind ?_ (fun _ => ?_)
  · intro y0 y1 y2 y3
    unfold cartoucheref12_Flat.l1
    repeat' first
    | (with_reducible exact ih0 _ _ _)
    | (with_reducible exact ih1 _ _ _ _)
    | (with_reducible exact LeO.refl _)
    | (with_reducible exact LeO.none _)
    | (with_reducible refine LeO.ite ?_ ?_)
    | (with_reducible refine LeO.bind ?_ (fun _ => ?_))
    | exact ih0 _ _ _
    | exact ih1 _ _ _ _
    | exact LeO.none _
    | refine LeO.ite ?_ ?_
    | refine LeO.bind ?_ (fun _ => ?_)
theorem cartoucheref12_Flat.mono : ∀ a0 k, LeO (cartoucheref12_Flat.f k a0) (cartoucheref12_Flat.f (k + 1) a0) := by
 intro a0 k
 obtain ⟨ih0, ih1⟩ := cartoucheref12_Flat.mono_l k
 unfold cartoucheref12_Flat.f
 repeat' first
  | (with_reducible exact ih0 _ _ _)
  | (with_reducible exact ih1 _ _ _ _)
  | (with_reducible exact LeO.refl _)
  | (with_reducible exact LeO.none _)
  | (with_reducible refine LeO.ite ?_ ?_)
  | (with_reducible refine LeO.bind ?_ (fun _ => ?_))
  | exact ih0 _ _ _
  | exact ih1 _ _ _ _
  | exact LeO.none _
  | refine LeO.ite ?_ ?_
  | refine LeO.bind ?_ (fun _ => ?_)
set_option maxHeartbeats 8000000 in
set_option maxRecDepth 100000 in
theorem cartoucheref12_Flat.calls (k : Nat) (A0 : Option Addr) (c0 : Nat) (l0 : List (S80)) (r : List (S24)) (w : World) (hr0 : Kd.C k80 w A0 l0.length l0) (hc0 : l0.length ≤ c0) (h : cartoucheref12_Flat.f k l0 = some r) :
 Calls Tryz.prog 30 #[.slice A0 l0.length c0] w fun e w' => ∃ v0_ : Value, e = .returned (v0_) ∧ Kd.R k24 24 w' w.heap.size (fun _ => True) v0_ r ∧ Below w.heap.size w w' := by
 have hu24 := Tryz.underlying24
 have HR0 := Aside0.mk hr0
 have HC0 := Aside0.mk hc0
 clear hr0 hc0
 have HB := Aside0.mk (Below.refl w.heap.size w)
 have H : (cartoucheref12_Flat.l0 k l0 ([] : List (S24)) 0) = some r := h
 clear h
 have H' := Aside0.mk H
 clear H
 go_enter Tryz.func30, Tryz.ntmps30
 go_wp2
 go_loopg [3, 4] k (fun kq v3 v4 w' => ∃ (x3_1 : List (S24)) (x4_1 : Int), v4 = .int .i64 x4_1 ∧ Aside0 (cartoucheref12_Flat.l0 kq l0 x3_1 x4_1 = some r) ∧ Aside0 (kq ≤ k) ∧ Aside0 (Kd.R k24 24 w' w.heap.size (fun _ => True) v3 x3_1) ∧ Aside0 (Below w.heap.size w w'))
 case atStart => exact ⟨(([] : List (S24))), (0), (by first | rfl | (simp; done) | (simp [*]; done)), H', ⟨Nat.le_refl _⟩, ⟨by first | exact Kd.R_nil _ _ _ _ _ | exact Kd.N_nil _ _ _ _ _ | exact Kd.V_nil _ _ _ _ _ | exact Kd.Q_nil _ _ _ _ _ | exact Kd.S_nil _ _ _ _ _⟩, ⟨by repeat (first | (with_reducible first | exact HB.out | apply below_alloc | apply pw_below_drewN | apply below_drew1) | exact HB.out)⟩⟩
 case round =>
  clear H'
  obtain ⟨x3_1, x4_1, rfl, HA, HK1, HO_3, HB⟩ := hrel
  cases gk with
  | zero => exact absurd HA.out (by simp [cartoucheref12_Flat.l0])
  | succ k1 =>
   have H := HA.out
   clear HA
   simp only [cartoucheref12_Flat.l0] at H
   by_cases c2 : x4_1 < (l0.length : Int)
   · rw [if_pos c2] at H
     have c2b0 : decide (x4_1 < (l0.length : Int)) = true := decide_eq_true c2
     clear c2
     have H' := Aside0.mk H
     clear H
     go_wp2
     go_loopg [3, 5] k1 (fun kq v3 v5 w' => ∃ (x3_2 : List (S24)) (x5_2 : Int), v5 = .int .i64 x5_2 ∧ Aside0 (cartoucheref12_Flat.l1 kq l0 x3_2 x4_1 x5_2 = some r) ∧ Aside0 (kq ≤ k1) ∧ Aside0 (Kd.R k24 24 w' w.heap.size (fun _ => True) v3 x3_2) ∧ Aside0 (Below w.heap.size w w'))
     case atStart => exact ⟨(x3_1), (0), (by first | rfl | (simp; done) | (simp [*]; done)), H', ⟨Nat.le_refl _⟩, ⟨by (with_reducible repeat (first | apply Kd.R_alloc | apply Kd.R_drewN | apply Kd.R_drew)); exact HO_3.out⟩, ⟨by repeat (first | (with_reducible first | exact HB.out | apply below_alloc | apply pw_below_drewN | apply below_drew1) | exact HB.out)⟩⟩
     case round =>
      clear H'
      try clear c2
      try clear c2b0
      try clear p2
      obtain ⟨x3_2, x5_2, rfl, HA, HK2, HO_3, HB⟩ := hrel
      cases gk with
      | zero => exact absurd HA.out (by simp [cartoucheref12_Flat.l1])
      | succ k2 =>
       have H := HA.out
       clear HA
       simp only [cartoucheref12_Flat.l1] at H
       by_cases c3 : 0 ≤ x4_1
       · rw [if_pos c3] at H
         have c3b0 : decide (0 ≤ x4_1) = true := decide_eq_true c3
         clear c3
         by_cases c4 : x4_1 < (l0.length : Int)
         · rw [if_pos c4] at H
           have c4b0 : decide (x4_1 < (l0.length : Int)) = true := decide_eq_true c4
           clear c4
           by_cases c5 : x5_2 < (((rd_T80 l0 x4_1).f2).length : Int)
           · rw [if_pos c5] at H
             have c5b0 : decide (x5_2 < (((rd_T80 l0 x4_1).f2).length : Int)) = true := decide_eq_true c5
             clear c5
             by_cases c6 : 0 ≤ x5_2
             · rw [if_pos c6] at H
               have c6b0 : decide (0 ≤ x5_2) = true := decide_eq_true c6
               clear c6
               by_cases c7 : x3_2.length < 3518437208883
               · rw [if_pos c7] at H
                 have LMc7 := Aside0.mk c7
                 clear c7
                 obtain ⟨y189, hy189⟩ : ∃ y_ : List (S24), y_ = (x3_2 ++ [(⟨(rd_T24 ((rd_T80 l0 x4_1).f2) x5_2).f0, (rd_T24 ((rd_T80 l0 x4_1).f2) x5_2).f1, (rd_T24 ((rd_T80 l0 x4_1).f2) x5_2).f2, (rd_T24 ((rd_T80 l0 x4_1).f2) x5_2).f3, (rd_T24 ((rd_T80 l0 x4_1).f2) x5_2).f4⟩ : S24)]) := ⟨_, rfl⟩
                 replace H : (cartoucheref12_Flat.l1 k2 l0 y189 x4_1 (wrap64 (x5_2 + 1))) = some r := by first | (rw [hy189]; with_reducible exact H) | (have H2_ := (Option.bind_some _ _).symm.trans H; rw [hy189]; with_reducible exact H2_) | (have H2_ := (Option.bind_some _ _).symm.trans H; with_reducible exact H2_) | with_reducible exact H | (rw [hy189]; exact H) | exact H
                 have Ny189 := Aside0.mk hy189
                 clear hy189
                 have H' := Aside0.mk H
                 clear H
                 have p186 : 0 ≤ (x4_1 : Int) := of_decide_eq_true (by first | (with_reducible assumption) | assumption)
                 have q186 : x4_1 < (l0.length : Int) := of_decide_eq_true (by first | (with_reducible assumption) | assumption)
                 obtain ⟨ad186, A186_2, c186_2, e186, hx186_0, hx186_1, hx186_2, hl186_2, hi186_2⟩ := at_T80 HR0.out x4_1 p186 q186
                 cases e186
                 replace hx186_0 := (HB.out.cell (World.block_lt_of_cell? w _ hx186_0)).trans hx186_0
                 replace hx186_1 := (HB.out.cell (World.block_lt_of_cell? w _ hx186_1)).trans hx186_1
                 replace hx186_2 := (HB.out.cell (World.block_lt_of_cell? w _ hx186_2)).trans hx186_2
                 have HR186_2 := Aside0.mk hi186_2
                 have HC186_2 := Aside0.mk hl186_2
                 clear hi186_2 hl186_2
                 replace p186 := eq_true p186
                 replace q186 := eq_true q186
                 have p187 : 0 ≤ (x4_1 : Int) := of_decide_eq_true (by first | (with_reducible assumption) | assumption)
                 have q187 : x4_1 < (l0.length : Int) := of_decide_eq_true (by first | (with_reducible assumption) | assumption)
                 obtain ⟨ad187, A187_2, c187_2, e187, hx187_0, hx187_1, hx187_2, hl187_2, hi187_2⟩ := at_T80 HR0.out x4_1 p187 q187
                 obtain rfl : ad186 = ad187 := (by injection e187)
                 replace hx187_0 := (HB.out.cell (World.block_lt_of_cell? w _ hx187_0)).trans hx187_0
                 replace hx187_1 := (HB.out.cell (World.block_lt_of_cell? w _ hx187_1)).trans hx187_1
                 replace hx187_2 := (HB.out.cell (World.block_lt_of_cell? w _ hx187_2)).trans hx187_2
                 have HR187_2 := Aside0.mk hi187_2
                 have HC187_2 := Aside0.mk hl187_2
                 clear hi187_2 hl187_2
                 replace p187 := eq_true p187
                 replace q187 := eq_true q187
                 have ea_ := Option.some.inj (hx186_2.symm.trans hx187_2)
                 injection ea_ with ea_ en_ ec_
                 subst ea_
                 subst ec_
                 clear en_
                 have p188 : 0 ≤ (x5_2 : Int) := of_decide_eq_true (by first | (with_reducible assumption) | assumption)
                 have q188 : x5_2 < (((rd_T80 l0 x4_1).f2).length : Int) := of_decide_eq_true (by first | (with_reducible assumption) | assumption)
                 obtain ⟨ad188, e188, hx188_0, hx188_1, hx188_2, hx188_3, hx188_4⟩ := at_T24 HR187_2.out x5_2 p188 q188
                 cases e188
                 replace hx188_0 := (HB.out.cell (World.block_lt_of_cell? w _ hx188_0)).trans hx188_0
                 replace hx188_1 := (HB.out.cell (World.block_lt_of_cell? w _ hx188_1)).trans hx188_1
                 replace hx188_2 := (HB.out.cell (World.block_lt_of_cell? w _ hx188_2)).trans hx188_2
                 replace hx188_3 := (HB.out.cell (World.block_lt_of_cell? w _ hx188_3)).trans hx188_3
                 replace hx188_4 := (HB.out.cell (World.block_lt_of_cell? w _ hx188_4)).trans hx188_4
                 replace p188 := eq_true p188
                 replace q188 := eq_true q188
                 go_wp2_with (first | ((with_reducible refine gate_builtin (b := .append) (xs := #[.tmp 22, .tmp 31]) rfl ?_); at_builtin; refine Kd.R_append k24 (w0 := w) w.heap.size rfl (.tmp 22) (.tmp 31) 28 24 (.agg #[(.int .i64 0), (.int .i64 0), (.int .i64 0), (.int .i64 0), (.int .i64 0)]) 40 rfl Tryz.underlying28 info24 rfl (by decide) (by omega) u3 x3_2 (⟨(rd_T24 ((rd_T80 l0 x4_1).f2) x5_2).f0, (rd_T24 ((rd_T80 l0 x4_1).f2) x5_2).f1, (rd_T24 ((rd_T80 l0 x4_1).f2) x5_2).f2, (rd_T24 ((rd_T80 l0 x4_1).f2) x5_2).f3, (rd_T24 ((rd_T80 l0 x4_1).f2) x5_2).f4⟩ : S24) [.int .i64 ((rd_T24 ((rd_T80 l0 x4_1).f2) x5_2).f0), .int .i64 ((rd_T24 ((rd_T80 l0 x4_1).f2) x5_2).f1), .int .i64 ((rd_T24 ((rd_T80 l0 x4_1).f2) x5_2).f2), .int .i64 ((rd_T24 ((rd_T80 l0 x4_1).f2) x5_2).f3), .int .i64 ((rd_T24 ((rd_T80 l0 x4_1).f2) x5_2).f4)] (fun _ => True) (fun _ => False) rfl rfl ?aP (fun _ hk => hk.elim) ?aF ?aO ?aB ?aS ?aL ?_; (case aP => exact k24_mkM _ _ _ (⟨(rd_T24 ((rd_T80 l0 x4_1).f2) x5_2).f0, (rd_T24 ((rd_T80 l0 x4_1).f2) x5_2).f1, (rd_T24 ((rd_T80 l0 x4_1).f2) x5_2).f2, (rd_T24 ((rd_T80 l0 x4_1).f2) x5_2).f3, (rd_T24 ((rd_T80 l0 x4_1).f2) x5_2).f4⟩ : S24)); (case aB => exact (by repeat (first | (with_reducible first | exact HB.out | apply below_alloc | apply pw_below_drewN | apply below_drew1) | exact HB.out))); (case aF => exact (fun _ _ => trivial)); (case aO => exact (by (with_reducible repeat (first | apply Kd.R_alloc | apply Kd.R_drewN | apply Kd.R_drew)); exact HO_3.out)); (case aS => exact (below_size (by repeat (first | (with_reducible first | exact HB.out | apply below_alloc | apply pw_below_drewN | apply below_drew1) | exact HB.out)))); (case aL => have := LMc7.out; omega); intro v190 w8 ho hb hg hat; rw [← Ny189.out] at ho; have n0_ := Aside0.mk (hb); have n1_ := Aside0.mk (ho); clear HB; clear HO_3; have HB := n0_; have HO191 := n1_; clear n0_ n1_; clear ho hb hg hat))
                 go_roundg k2
                 case measure => have := HK1.out; have := HK2.out; omega
                 case rel => exact ⟨(y189), (wrap64 (x5_2 + 1)), (by first | rfl | (simp; done) | (simp [*]; done)), H', ⟨by have := HK1.out; have := HK2.out; omega⟩, ⟨by (with_reducible repeat (first | apply Kd.R_alloc | apply Kd.R_drewN | apply Kd.R_drew)); exact HO191.out⟩, ⟨by repeat (first | (with_reducible first | exact HB.out | apply below_alloc | apply pw_below_drewN | apply below_drew1) | exact HB.out)⟩⟩
               · rw [if_neg c7] at H
                 exact absurd H (by simp)
             · rw [if_neg c6] at H
               exact absurd H (by simp)
           · rw [if_neg c5] at H
             have c5b0 : decide (x5_2 < (((rd_T80 l0 x4_1).f2).length : Int)) = false := decide_eq_false c5
             clear c5
             have H' := Aside0.mk H
             clear H
             have p186 : 0 ≤ (x4_1 : Int) := of_decide_eq_true (by first | (with_reducible assumption) | assumption)
             have q186 : x4_1 < (l0.length : Int) := of_decide_eq_true (by first | (with_reducible assumption) | assumption)
             obtain ⟨ad186, A186_2, c186_2, e186, hx186_0, hx186_1, hx186_2, hl186_2, hi186_2⟩ := at_T80 HR0.out x4_1 p186 q186
             cases e186
             replace hx186_0 := (HB.out.cell (World.block_lt_of_cell? w _ hx186_0)).trans hx186_0
             replace hx186_1 := (HB.out.cell (World.block_lt_of_cell? w _ hx186_1)).trans hx186_1
             replace hx186_2 := (HB.out.cell (World.block_lt_of_cell? w _ hx186_2)).trans hx186_2
             have HR186_2 := Aside0.mk hi186_2
             have HC186_2 := Aside0.mk hl186_2
             clear hi186_2 hl186_2
             replace p186 := eq_true p186
             replace q186 := eq_true q186
             go_wp2
             go_roundg k2
             case measure => have := HK1.out; have := HK2.out; omega
             case rel => exact ⟨(x3_2), (wrap64 (x4_1 + 1)), (by first | rfl | (simp; done) | (simp [*]; done)), H', ⟨by have := HK1.out; have := HK2.out; omega⟩, ⟨by (with_reducible repeat (first | apply Kd.R_alloc | apply Kd.R_drewN | apply Kd.R_drew)); exact HO_3.out⟩, ⟨by repeat (first | (with_reducible first | exact HB.out | apply below_alloc | apply pw_below_drewN | apply below_drew1) | exact HB.out)⟩⟩
         · rw [if_neg c4] at H
           exact absurd H (by simp)
       · rw [if_neg c3] at H
         exact absurd H (by simp)
   · rw [if_neg c2] at H
     have c2b0 : decide (x4_1 < (l0.length : Int)) = false := decide_eq_false c2
     clear c2
     obtain rfl := Option.some.inj H
     go_wp2
     go_ret
     exact ⟨_, by first | rfl | (simp [errW_none, errW_some] <;> rfl) | (simp [*, errW_none, errW_some] <;> rfl), by (with_reducible repeat (first | apply Kd.R_alloc | apply Kd.R_drewN | apply Kd.R_drew)); exact HO_3.out, by repeat (first | (with_reducible first | exact HB.out | apply below_alloc | apply pw_below_drewN | apply below_drew1) | exact HB.out)⟩
end Go.Proofs.YtebjiimlcnmfpaaGreatPr
