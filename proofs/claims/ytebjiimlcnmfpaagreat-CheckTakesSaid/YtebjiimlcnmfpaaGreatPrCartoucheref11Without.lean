/- Contracts of Go functions, printed by a program of this session over the translation: each call answers what its Lean function says. -/
import Derived.Test.YtebjiimlcnmfpaaGreatPr0
namespace Go.Proofs.YtebjiimlcnmfpaaGreatPr
open Go.RowKit Go.Proofs.YtebjiimlcnmfpaaGreatW.PrintWords Go.Proofs.YtebjiimlcnmfpaaGreatW.PrintLast Go.Proofs.YtebjiimlcnmfpaaGreatW.PrintMore
attribute [local go_sem] max2_int min2_int max_two min_two max_three min_three max_four min_four   -- for this text's walks alone
set_option linter.unusedVariables false
set_option linter.unusedSimpArgs false
/-! ### cartoucheref11_without: function 113 -/
def cartoucheref11_without.l0 : Nat → List Int → Int → List Int → Int → Option (List Int)
 | 0, _, _, _, _ => none
 | k + 1, x0, x1, x5, x6 => if x6 < (x0.length : Int) then (if 0 ≤ x6 then (if (rd x0 x6) = x1 then (cartoucheref11_without.l0 k x0 x1 x5 (wrap64 (x6 + 1))) else (if x5.length < 17592186044416 then (cartoucheref11_without.l0 k x0 x1 (x5 ++ [rd x0 x6]) (wrap64 (x6 + 1))) else (none))) else (none)) else (some x5)
def cartoucheref11_without.f (k : Nat) (l0 : List Int) (a1 : Int) : Option (List Int) := cartoucheref11_without.l0 k l0 a1 ([] : List Int) 0
theorem cartoucheref11_without.mono_l : ∀ k, (∀ y0 y1 y2 y3, LeO (cartoucheref11_without.l0 k y0 y1 y2 y3) (cartoucheref11_without.l0 (k + 1) y0 y1 y2 y3))
 | 0 => fun _ _ _ _ r h => by simp [cartoucheref11_without.l0] at h
 | k + 1 => by
  have ih0 := cartoucheref11_without.mono_l k
  · intro y0 y1 y2 y3
    unfold cartoucheref11_without.l0
    repeat' first
    | (with_reducible exact ih0 _ _ _ _)
    | (with_reducible exact LeO.refl _)
    | (with_reducible exact LeO.none _)
    | (with_reducible refine LeO.ite ?_ ?_)
    | (with_reducible refine LeO.bind ?_ (fun _ => ?_))
    | exact ih0 _ _ _ _
    | exact LeO.none _
    | refine LeO.ite ?_ ?_
    | refine LeO.bind ?_ (fun _ => ?_)
theorem cartoucheref11_without.mono : ∀ a0 a1 k, LeO (cartoucheref11_without.f k a0 a1) (cartoucheref11_without.f (k + 1) a0 a1) := by
 intro a0 a1 k
 have ih0 := cartoucheref11_without.mono_l k
 unfold cartoucheref11_without.f
 repeat' first
  | (with_reducible exact ih0 _ _ _ _)
  | (with_reducible exact LeO.refl _)
  | (with_reducible exact LeO.none _)
  | (with_reducible refine LeO.ite ?_ ?_)
  | (with_reducible refine LeO.bind ?_ (fun _ => ?_))
  | exact ih0 _ _ _ _
  | exact LeO.none _
  | refine LeO.ite ?_ ?_
  | refine LeO.bind ?_ (fun _ => ?_)
set_option maxHeartbeats 8000000 in
set_option maxRecDepth 100000 in
theorem cartoucheref11_without.calls (k : Nat) (A0 : Option Addr) (c0 : Nat) (l0 : List Int) (a1 : Int) (r : List Int) (w : World) (hr0 : Kd.C (Kd.int .i64) w A0 l0.length l0) (hc0 : l0.length ≤ c0) (h : cartoucheref11_without.f k l0 a1 = some r) :
 Calls Tryz.prog 113 #[.slice A0 l0.length c0, .int .i64 a1] w fun e w' => ∃ v0_ : Value, e = .returned (v0_) ∧ Kd.R (Kd.int .i64) 3 w' w.heap.size (fun _ => True) v0_ r ∧ Below w.heap.size w w' := by
 have HR0 := Aside0.mk hr0
 have HC0 := Aside0.mk hc0
 clear hr0 hc0
 have HB := Aside0.mk (Below.refl w.heap.size w)
 have H : (cartoucheref11_without.l0 k l0 a1 ([] : List Int) 0) = some r := h
 clear h
 have H' := Aside0.mk H
 clear H
 go_enter Tryz.func113, Tryz.ntmps113
 go_wp2
 go_loopg [5, 6] k (fun kq v5 v6 w' => ∃ (x5_1 : List Int) (x6_1 : Int), v6 = .int .i64 x6_1 ∧ Aside0 (cartoucheref11_without.l0 kq l0 a1 x5_1 x6_1 = some r) ∧ Aside0 (kq ≤ k) ∧ Aside0 (Kd.R (Kd.int .i64) 3 w' w.heap.size (fun _ => True) v5 x5_1) ∧ Aside0 (Below w.heap.size w w'))
 case atStart => exact ⟨(([] : List Int)), (0), (by first | rfl | (simp; done) | (simp [*]; done)), H', ⟨Nat.le_refl _⟩, ⟨by first | exact Kd.R_nil _ _ _ _ _ | exact Kd.N_nil _ _ _ _ _ | exact Kd.V_nil _ _ _ _ _ | exact Kd.Q_nil _ _ _ _ _ | exact Kd.S_nil _ _ _ _ _⟩, ⟨by repeat (first | (with_reducible first | exact HB.out | apply below_alloc | apply pw_below_drewN | apply below_drew1) | exact HB.out)⟩⟩
 case round =>
  clear H'
  try clear c1
  try clear p2
  obtain ⟨x5_1, x6_1, rfl, HA, HK1, HO_5, HB⟩ := hrel
  cases gk with
  | zero => exact absurd HA.out (by simp [cartoucheref11_without.l0])
  | succ k1 =>
   have H := HA.out
   clear HA
   simp only [cartoucheref11_without.l0] at H
   by_cases c3 : x6_1 < (l0.length : Int)
   · rw [if_pos c3] at H
     have c3b0 : decide (x6_1 < (l0.length : Int)) = true := decide_eq_true c3
     clear c3
     by_cases c4 : 0 ≤ x6_1
     · rw [if_pos c4] at H
       have c4b0 : decide (0 ≤ x6_1) = true := decide_eq_true c4
       clear c4
       by_cases c5 : (rd l0 x6_1) = a1
       · rw [if_pos c5] at H
         have c5b0 : ((rd l0 x6_1) == a1) = true := beq_iff_eq.mpr c5
         have c5b1 : ((rd l0 x6_1) != a1) = false := bne_eq_false_iff_eq.mpr c5
         clear c5
         have H' := Aside0.mk H
         clear H
         have p544 : 0 ≤ (x6_1 : Int) := of_decide_eq_true (by first | (with_reducible assumption) | assumption)
         have q544 : x6_1 < (l0.length : Int) := of_decide_eq_true (by first | (with_reducible assumption) | assumption)
         obtain ⟨ad544, e544, hx544_0⟩ := Kd.at_int HR0.out x6_1 p544 q544
         cases e544
         replace hx544_0 := (HB.out.cell (World.block_lt_of_cell? w _ hx544_0)).trans hx544_0
         replace p544 := eq_true p544
         replace q544 := eq_true q544
         go_wp2
         go_roundg k1
         case measure => have := HK1.out; omega
         case rel => exact ⟨(x5_1), (wrap64 (x6_1 + 1)), (by first | rfl | (simp; done) | (simp [*]; done)), H', ⟨by have := HK1.out; omega⟩, ⟨by (with_reducible repeat (first | apply Kd.R_alloc | apply Kd.R_drewN | apply Kd.R_drew)); exact HO_5.out⟩, ⟨by repeat (first | (with_reducible first | exact HB.out | apply below_alloc | apply pw_below_drewN | apply below_drew1) | exact HB.out)⟩⟩
       · rw [if_neg c5] at H
         have c5b0 : ((rd l0 x6_1) == a1) = false := beq_eq_false_iff_ne.mpr c5
         have c5b1 : ((rd l0 x6_1) != a1) = true := bne_iff_ne.mpr c5
         by_cases c6 : x5_1.length < 17592186044416
         · rw [if_pos c6] at H
           have LMc6 := Aside0.mk c6
           clear c6
           obtain ⟨y546, hy546⟩ : ∃ y_ : List Int, y_ = (x5_1 ++ [rd l0 x6_1]) := ⟨_, rfl⟩
           replace H : (cartoucheref11_without.l0 k1 l0 a1 y546 (wrap64 (x6_1 + 1))) = some r := by first | (rw [hy546]; with_reducible exact H) | (have H2_ := (Option.bind_some _ _).symm.trans H; rw [hy546]; with_reducible exact H2_) | (have H2_ := (Option.bind_some _ _).symm.trans H; with_reducible exact H2_) | with_reducible exact H | (rw [hy546]; exact H) | exact H
           have Ny546 := Aside0.mk hy546
           clear hy546
           have H' := Aside0.mk H
           clear H
           have p544 : 0 ≤ (x6_1 : Int) := of_decide_eq_true (by first | (with_reducible assumption) | assumption)
           have q544 : x6_1 < (l0.length : Int) := of_decide_eq_true (by first | (with_reducible assumption) | assumption)
           obtain ⟨ad544, e544, hx544_0⟩ := Kd.at_int HR0.out x6_1 p544 q544
           cases e544
           replace hx544_0 := (HB.out.cell (World.block_lt_of_cell? w _ hx544_0)).trans hx544_0
           replace p544 := eq_true p544
           replace q544 := eq_true q544
           have p545 : 0 ≤ (x6_1 : Int) := of_decide_eq_true (by first | (with_reducible assumption) | assumption)
           have q545 : x6_1 < (l0.length : Int) := of_decide_eq_true (by first | (with_reducible assumption) | assumption)
           obtain ⟨ad545, e545, hx545_0⟩ := Kd.at_int HR0.out x6_1 p545 q545
           obtain rfl : ad544 = ad545 := (by injection e545)
           replace hx545_0 := (HB.out.cell (World.block_lt_of_cell? w _ hx545_0)).trans hx545_0
           replace p545 := eq_true p545
           replace q545 := eq_true q545
           go_wp2_with (first | ((with_reducible refine gate_builtin (b := .append) (xs := #[.tmp 19, .tmp 24]) rfl ?_); at_builtin; refine Kd.R_append (Kd.int .i64) (w0 := w) w.heap.size rfl (.tmp 19) (.tmp 24) 31 3 (.int .i64 0) 8 rfl Tryz.underlying31 info3 rfl (by decide) (by omega) u5 x5_1 (rd l0 x6_1) [.int .i64 (rd l0 x6_1)] (fun _ => True) (fun _ => False) rfl rfl ?aP (fun _ hk => hk.elim) ?aF ?aO ?aB ?aS ?aL ?_; (case aP => exact rfl); (case aB => exact (by repeat (first | (with_reducible first | exact HB.out | apply below_alloc | apply pw_below_drewN | apply below_drew1) | exact HB.out))); (case aF => exact (fun _ _ => trivial)); (case aO => exact (by (with_reducible repeat (first | apply Kd.R_alloc | apply Kd.R_drewN | apply Kd.R_drew)); exact HO_5.out)); (case aS => exact (below_size (by repeat (first | (with_reducible first | exact HB.out | apply below_alloc | apply pw_below_drewN | apply below_drew1) | exact HB.out)))); (case aL => have := LMc6.out; omega); intro v547 w7 ho hb hg hat; rw [← Ny546.out] at ho; have n0_ := Aside0.mk (hb); have n1_ := Aside0.mk (ho); clear HB; clear HO_5; have HB := n0_; have HO548 := n1_; clear n0_ n1_; clear ho hb hg hat))
           go_roundg k1
           case measure => have := HK1.out; omega
           case rel => exact ⟨(y546), (wrap64 (x6_1 + 1)), (by first | rfl | (simp; done) | (simp [*]; done)), H', ⟨by have := HK1.out; omega⟩, ⟨by (with_reducible repeat (first | apply Kd.R_alloc | apply Kd.R_drewN | apply Kd.R_drew)); exact HO548.out⟩, ⟨by repeat (first | (with_reducible first | exact HB.out | apply below_alloc | apply pw_below_drewN | apply below_drew1) | exact HB.out)⟩⟩
         · rw [if_neg c6] at H
           exact absurd H (by simp)
     · rw [if_neg c4] at H
       exact absurd H (by simp)
   · rw [if_neg c3] at H
     have c3b0 : decide (x6_1 < (l0.length : Int)) = false := decide_eq_false c3
     clear c3
     obtain rfl := Option.some.inj H
     go_wp2
     go_ret
     exact ⟨_, by first | rfl | (simp [errW_none, errW_some] <;> rfl) | (simp [*, errW_none, errW_some] <;> rfl), by (with_reducible repeat (first | apply Kd.R_alloc | apply Kd.R_drewN | apply Kd.R_drew)); exact HO_5.out, by repeat (first | (with_reducible first | exact HB.out | apply below_alloc | apply pw_below_drewN | apply below_drew1) | exact HB.out)⟩
end Go.Proofs.YtebjiimlcnmfpaaGreatPr
