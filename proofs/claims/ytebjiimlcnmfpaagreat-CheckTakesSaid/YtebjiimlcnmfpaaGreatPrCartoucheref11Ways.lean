/- Contracts of Go functions, printed by a program of this session over the translation: each call answers what its Lean function says. -/
import Derived.Test.YtebjiimlcnmfpaaGreatPr0
import Derived.Test.YtebjiimlcnmfpaaGreatPrCartoucheref11Has
namespace Go.Proofs.YtebjiimlcnmfpaaGreatPr
open Go.RowKit Go.Proofs.YtebjiimlcnmfpaaGreatW.PrintWords Go.Proofs.YtebjiimlcnmfpaaGreatW.PrintLast Go.Proofs.YtebjiimlcnmfpaaGreatW.PrintMore
attribute [local go_sem] max2_int min2_int max_two min_two max_three min_three max_four min_four   -- for this text's walks alone
set_option linter.unusedVariables false
set_option linter.unusedSimpArgs false
/-! ### cartoucheref11_ways: function 115 -/
mutual
def cartoucheref11_ways.l0 : Nat → List (S80) → Int → List (List Int) → Int → Option ((List (List Int)))
 | 0, _, _, _, _ => none
 | k + 1, x0, x2, x7, x8 => if x8 < x2 then (cartoucheref11_ways.l1 k x0 x2 x7 x8 ([] : List Int) 0) else (some x7)
def cartoucheref11_ways.l1 : Nat → List (S80) → Int → List (List Int) → Int → List Int → Int → Option ((List (List Int)))
 | 0, _, _, _, _, _, _ => none
 | k + 1, x0, x2, x7, x8, x9, x10 => if x10 < (x0.length : Int) then (if 0 ≤ x8 then (if x8 < (x7.length : Int) then (if 0 ≤ x10 then ((cartoucheref11_has.f k (rd_L8 x7 x8) ((rd_T80 x0 x10).f1)).bind fun t424 => ((cartoucheref11_has.f k x9 ((rd_T80 x0 x10).f0)).bind fun t426 => (if t424 = true then (cartoucheref11_ways.j2 k x0 x2 x7 x8 x9 x10 (!t426)) else (cartoucheref11_ways.j2 k x0 x2 x7 x8 x9 x10 false)))) else (none)) else (none)) else (none)) else (if x7.length < 5864062014805 then (cartoucheref11_ways.l0 k x0 x2 (x7 ++ [x9]) (wrap64 (x8 + 1))) else (none))
def cartoucheref11_ways.j2 : Nat → List (S80) → Int → List (List Int) → Int → List Int → Int → Bool → Option ((List (List Int)))
 | 0, _, _, _, _, _, _, _ => none
 | k + 1, x0, x2, x7, x8, x9, x10, x48 => if x48 = true then (if 0 ≤ x10 then (if x10 < (x0.length : Int) then (if x9.length < 17592186044416 then (cartoucheref11_ways.l1 k x0 x2 x7 x8 (x9 ++ [(rd_T80 x0 x10).f0]) (wrap64 (x10 + 1))) else (none)) else (none)) else (none)) else (cartoucheref11_ways.l1 k x0 x2 x7 x8 x9 (wrap64 (x10 + 1)))
end
def cartoucheref11_ways.f (k : Nat) (l0 : List (S80)) (a1 : Int) (a2 : Int) : Option ((List (List Int))) := cartoucheref11_ways.l0 k l0 a2 (([(([a1] : List Int))] : List (List Int))) 0
theorem cartoucheref11_ways.mono_l : ∀ k, (∀ y0 y1 y2 y3, LeO (cartoucheref11_ways.l0 k y0 y1 y2 y3) (cartoucheref11_ways.l0 (k + 1) y0 y1 y2 y3)) ∧ (∀ y0 y1 y2 y3 y4 y5, LeO (cartoucheref11_ways.l1 k y0 y1 y2 y3 y4 y5) (cartoucheref11_ways.l1 (k + 1) y0 y1 y2 y3 y4 y5)) ∧ (∀ y0 y1 y2 y3 y4 y5 y6, LeO (cartoucheref11_ways.j2 k y0 y1 y2 y3 y4 y5 y6) (cartoucheref11_ways.j2 (k + 1) y0 y1 y2 y3 y4 y5 y6))
 | 0 => ⟨fun _ _ _ _ r h => by simp [cartoucheref11_ways.l0] at h, fun _ _ _ _ _ _ r h => by simp [cartoucheref11_ways.l1] at h, fun _ _ _ _ _ _ _ r h => by simp [cartoucheref11_ways.j2] at h⟩
 | k + 1 => by
  obtain ⟨ih0, ih1, ih2⟩ := cartoucheref11_ways.mono_l k
  refine ⟨?_, ?_, ?_⟩
  · intro y0 y1 y2 y3
    unfold cartoucheref11_ways.l0
    repeat' first
    | (with_reducible exact ih0 _ _ _ _)
    | (with_reducible exact ih1 _ _ _ _ _ _)
    | (with_reducible exact ih2 _ _ _ _ _ _ _)
    | (with_reducible exact cartoucheref11_has.mono _ _ _)
    | (with_reducible exact LeO.refl _)
    | (with_reducible exact LeO.none _)
    | (with_reducible refine LeO.ite ?_ ?_)
    | (with_reducible refine LeO.bind ?_ (fun _ => ?_))
    | exact ih0 _ _ _ _
    | exact ih1 _ _ _ _ _ _
    | exact ih2 _ _ _ _ _ _ _
    | exact cartoucheref11_has.mono _ _ _
    | exact LeO.none _
    | refine LeO.ite ?_ ?_
    | refine LeO.bind ?_ (fun _ => ?_)
  · intro y0 y1 y2 y3 y4 y5
    unfold cartoucheref11_ways.l1
    repeat' first
    | (with_reducible exact ih0 _ _ _ _)
    | (with_reducible exact ih1 _ _ _ _ _ _)
    | (with_reducible exact ih2 _ _ _ _ _ _ _)
    | (with_reducible exact cartoucheref11_has.mono _ _ _)
    | (with_reducible exact LeO.refl _)
    | (with_reducible exact LeO.none _)
    | (with_reducible refine LeO.ite ?_ ?_)
    | (with_reducible refine LeO.bind ?_ (fun _ => ?_))
    | exact ih0 _ _ _ _
    | exact ih1 _ _ _ _ _ _
    | exact ih2 _ _ _ _ _ _ _
    | exact cartoucheref11_has.mono _ _ _
    | exact LeO.none _
    | refine LeO.ite ?_ ?_
    | refine LeO.bind ?_ (fun _ => ?_)
  intro y0 y1 y2 y3 y4 y5 y6
  unfold cartoucheref11_ways.j2
  repeat' first
  | (with_reducible exact ih0 _ _ _ _)
  | (with_reducible exact ih1 _ _ _ _ _ _)
  | (with_reducible exact ih2 _ _ _ _ _ _ _)
  | (with_reducible exact cartoucheref11_has.mono _ _ _)
  | (with_reducible exact LeO.refl _)
  | (with_reducible exact LeO.none _)
  | (with_reducible refine LeO.ite ?_ ?_)
  | (with_reducible refine LeO.bind ?_ (fun _ => ?_))
  | exact ih0 _ _ _ _
  | exact ih1 _ _ _ _ _ _
  | exact ih2 _ _ _ _ _ _ _
  | exact cartoucheref11_has.mono _ _ _
  | exact LeO.none _
  | refine LeO.ite ?_ ?_
  | refine LeO.bind ?_ (fun _ => ?_)
theorem cartoucheref11_ways.mono : ∀ a0 a1 a2 k, LeO (cartoucheref11_ways.f k a0 a1 a2) (cartoucheref11_ways.f (k + 1) a0 a1 a2) := by
 intro a0 a1 a2 k
 obtain ⟨ih0, ih1, ih2⟩ := cartoucheref11_ways.mono_l k
 unfold cartoucheref11_ways.f
 repeat' first
  | (with_reducible exact ih0 _ _ _ _)
  | (with_reducible exact ih1 _ _ _ _ _ _)
  | (with_reducible exact ih2 _ _ _ _ _ _ _)
  | (with_reducible exact cartoucheref11_has.mono _ _ _)
  | (with_reducible exact LeO.refl _)
  | (with_reducible exact LeO.none _)
  | (with_reducible refine LeO.ite ?_ ?_)
  | (with_reducible refine LeO.bind ?_ (fun _ => ?_))
  | exact ih0 _ _ _ _
  | exact ih1 _ _ _ _ _ _
  | exact ih2 _ _ _ _ _ _ _
  | exact cartoucheref11_has.mono _ _ _
  | exact LeO.none _
  | refine LeO.ite ?_ ?_
  | refine LeO.bind ?_ (fun _ => ?_)
set_option maxHeartbeats 8000000 in
set_option maxRecDepth 100000 in
theorem cartoucheref11_ways.calls (k : Nat) (A0 : Option Addr) (c0 : Nat) (l0 : List (S80)) (a1 : Int) (a2 : Int) (r : List (List Int)) (w : World) (hr0 : Kd.C k80 w A0 l0.length l0) (hc0 : l0.length ≤ c0) (h : cartoucheref11_ways.f k l0 a1 a2 = some r) :
 Calls Tryz.prog 115 #[.slice A0 l0.length c0, .int .i64 a1, .int .i64 a2] w fun e w' => ∃ v0_ : Value, e = .returned (v0_) ∧ Kd.N (Kd.slice 3 (Kd.int .i64)) 31 w' w.heap.size (fun k_ => (w.heap.size ≤ k_)) v0_ r ∧ Below w.heap.size w w' := by
 have HR0 := Aside0.mk hr0
 have HC0 := Aside0.mk hc0
 clear hr0 hc0
 have HB := Aside0.mk (Below.refl w.heap.size w)
 have H : (cartoucheref11_ways.l0 k l0 a2 (([(([a1] : List Int))] : List (List Int))) 0) = some r := h
 clear h
 obtain ⟨y413, hy413⟩ : ∃ y_ : List Int, y_ = (([a1] : List Int)) := ⟨_, rfl⟩
 replace H : (cartoucheref11_ways.l0 k l0 a2 (([y413] : List (List Int))) 0) = some r := by first | (rw [hy413]; with_reducible exact H) | (have H2_ := (Option.bind_some _ _).symm.trans H; rw [hy413]; with_reducible exact H2_) | (have H2_ := (Option.bind_some _ _).symm.trans H; with_reducible exact H2_) | with_reducible exact H | (rw [hy413]; exact H) | exact H
 have Ny413 := Aside0.mk hy413
 clear hy413
 obtain ⟨y416, hy416⟩ : ∃ y_ : List (List Int), y_ = (([y413] : List (List Int))) := ⟨_, rfl⟩
 replace H : (cartoucheref11_ways.l0 k l0 a2 y416 0) = some r := by first | (rw [hy416]; with_reducible exact H) | (have H2_ := (Option.bind_some _ _).symm.trans H; rw [hy416]; with_reducible exact H2_) | (have H2_ := (Option.bind_some _ _).symm.trans H; with_reducible exact H2_) | with_reducible exact H | (rw [hy416]; exact H) | exact H
 have Ny416 := Aside0.mk hy416
 clear hy416
 have H' := Aside0.mk H
 clear H
 go_enter Tryz.func115, Tryz.ntmps115
 go_wp2_with (first | ((with_reducible refine gate_dst (N := 14) rfl ?_); refine Kd.R_lit (Kd.int .i64) _ 3 ?hg (N := 14) ?hd (xs := ([a1] : List Int)) (inner := [.int .i64 a1]) (ok := fun _ => True) (okp := fun _ => True) ?hr ?hp (fun _ hk => hk) trivial (Below.refl _ _) (Nat.le_refl _) (by simp) ?_; (case hd => rfl); (case hg => rfl); (case hr => first | (go_simp; done) | (go_simp; rfl)); (case hp => exact (Reps.one (show Kd.M (Kd.int .i64) _ _ _ a1 [.int .i64 a1] from rfl) (Reps.none _ _))); intro v414 w4 ho5 hb hg_ hnew_; clear hg_ hnew_; (first | rw [← Ny413.out] at ho5 | (simp only [Int.reduceToNat] at ho5; rw [← Ny413.out] at ho5)); have n0_ := Aside0.mk (Kd.R_lower (Kd.R_newM (M := fun k_ => (w.heap.size ≤ k_)) ho5 (below_size (by repeat (first | (with_reducible first | exact HB.out | apply below_alloc | apply pw_below_drewN | apply below_drew1) | exact HB.out))) (fun k_ h_ => h_)) (below_size (by repeat (first | (with_reducible first | exact HB.out | apply below_alloc | apply pw_below_drewN | apply below_drew1) | exact HB.out)))); have n1_ := Aside0.mk (below_step (by repeat (first | (with_reducible first | exact HB.out | apply below_alloc | apply pw_below_drewN | apply below_drew1) | exact HB.out)) hb); clear HB; have HO415 := n0_; have HB := n1_; clear n0_ n1_; clear hb ho5; obtain ⟨Ao6, co6, eo6⟩ := Kd.R_slice HO415.out; subst eo6) | ((with_reducible refine gate_dst (N := 15) rfl ?_); refine Kd.N_lit (Kd.slice 3 (Kd.int .i64)) _ 31 ?hg (N' := 15) ?hd (xs := ([y413] : List (List Int))) (inner := [.slice Ao6 y413.length co6]) (ok := (fun k_ => (w.heap.size ≤ k_))) (okp := (fun k_ => (w.heap.size ≤ k_))) ?hr ?hp (fun _ hk => hk) ((show ∀ k_, w4.heap.size ≤ k_ → (fun k_ => (w.heap.size ≤ k_)) k_ from fun k_ hk => (Nat.le_trans (below_size (by repeat (first | (with_reducible first | exact HB.out | apply below_alloc | apply pw_below_drewN | apply below_drew1) | exact HB.out))) hk)) _ (Nat.le_refl _)) (Below.refl _ _) (Nat.le_refl _) (by simp) ?_; (case hd => rfl); (case hg => rfl); (case hr => first | (go_simp; done) | (go_simp; rfl)); (case hp => exact (Reps.one (show Kd.FK (Kd.slice 3 (Kd.int .i64)) _ _ y413 [.slice Ao6 y413.length co6] from (Kd.FK_slice_mk (Kd.R_reads' (Kd.R_mono (ok' := (fun k_ => (w.heap.size ≤ k_))) (HO415.out) (fun k_ hk => hk.1))).2.1 (Kd.R_F (Kd.R_mono (ok' := (fun k_ => (w.heap.size ≤ k_))) (HO415.out) (fun k_ hk => hk.1))))) (Reps.none _ _))); intro v417 w7 ho8 hb hg_ hnew_; clear hg_ hnew_; (first | rw [← Ny416.out] at ho8 | (simp only [Int.reduceToNat] at ho8; rw [← Ny416.out] at ho8)); have n0_ := Aside0.mk (Kd.N_lower ho8 (below_size (by repeat (first | (with_reducible first | exact HB.out | apply below_alloc | apply pw_below_drewN | apply below_drew1) | exact HB.out)))); have n1_ := Aside0.mk (below_step (by repeat (first | (with_reducible first | exact HB.out | apply below_alloc | apply pw_below_drewN | apply below_drew1) | exact HB.out)) hb); clear HB; clear HO415; have HO418 := n0_; have HB := n1_; clear n0_ n1_; clear hb ho8))
 go_loopg [7, 8] k (fun kq v7 v8 w' => ∃ (x7_1 : List (List Int)) (x8_1 : Int), v8 = .int .i64 x8_1 ∧ Aside0 (cartoucheref11_ways.l0 kq l0 a2 x7_1 x8_1 = some r) ∧ Aside0 (kq ≤ k) ∧ Aside0 (Kd.N (Kd.slice 3 (Kd.int .i64)) 31 w' w.heap.size (fun k_ => (w.heap.size ≤ k_)) v7 x7_1) ∧ Aside0 (Below w.heap.size w w'))
 case atStart => exact ⟨(y416), (0), (by first | rfl | (simp; done) | (simp [*]; done)), H', ⟨Nat.le_refl _⟩, ⟨by (with_reducible repeat (first | apply Kd.N_alloc | apply Kd.N_drewN | apply Kd.N_drew)); exact HO418.out⟩, ⟨by repeat (first | (with_reducible first | exact HB.out | apply below_alloc | apply pw_below_drewN | apply below_drew1) | exact HB.out)⟩⟩
 case round =>
  clear H'
  (try clear c1);(try clear p2)
  obtain ⟨x7_1, x8_1, rfl, HA, HK1, HO_7, HB⟩ := hrel
  cases gk with
  | zero => exact absurd HA.out (by simp [cartoucheref11_ways.l0])
  | succ k1 =>
   have H := HA.out
   clear HA
   simp only [cartoucheref11_ways.l0] at H
   by_cases c9 : x8_1 < a2
   · rw [if_pos c9] at H
     have c9b0 : decide (x8_1 < a2) = true := decide_eq_true c9
     clear c9
     have H' := Aside0.mk H
     clear H
     go_wp2
     repeat (go_quiet (fail); try go_wp2)
     go_loopg [9, 10] k1 (fun kq v9 v10 w' => ∃ (x9_2 : List Int) (x10_2 : Int), v10 = .int .i64 x10_2 ∧ Aside0 (cartoucheref11_ways.l1 kq l0 a2 x7_1 x8_1 x9_2 x10_2 = some r) ∧ Aside0 (kq ≤ k1) ∧ Aside0 (Kd.N (Kd.slice 3 (Kd.int .i64)) 31 w' w.heap.size (fun k_ => (w.heap.size ≤ k_) ∧ some k_ ≠ (v9 : Value).ownBlock) u7 x7_1) ∧ Aside0 (Kd.R (Kd.int .i64) 3 w' w.heap.size (fun k_ => (w.heap.size ≤ k_)) v9 x9_2) ∧ Aside0 (Below w.heap.size w w'))
     case atStart => exact ⟨(([] : List Int)), (0), (by first | rfl | (simp; done) | (simp [*]; done)), H', ⟨Nat.le_refl _⟩, ⟨by (with_reducible repeat (first | apply Kd.N_alloc | apply Kd.N_drewN | apply Kd.N_drew)); exact Kd.N_mono HO_7.out (fun _ hk => ⟨hk, (by simp [Value.ownBlock])⟩)⟩, ⟨by first | exact Kd.R_nil _ _ _ _ _ | exact Kd.N_nil _ _ _ _ _ | exact Kd.V_nil _ _ _ _ _ | exact Kd.Q_nil _ _ _ _ _ | exact Kd.S_nil _ _ _ _ _⟩, ⟨by repeat (first | (with_reducible first | exact HB.out | apply below_alloc | apply pw_below_drewN | apply below_drew1) | exact HB.out)⟩⟩
     case round =>
      clear H'
      (try clear c1);(try clear p2);(try clear c9);(try clear c9b0);(try clear p2)
      obtain ⟨x9_2, x10_2, rfl, HA, HK2, HO_7, HO_9, HB⟩ := hrel
      cases gk with
      | zero => exact absurd HA.out (by simp [cartoucheref11_ways.l1])
      | succ k2 =>
       have H := HA.out
       clear HA
       simp only [cartoucheref11_ways.l1] at H
       by_cases c10 : x10_2 < (l0.length : Int)
       · rw [if_pos c10] at H
         have c10b0 : decide (x10_2 < (l0.length : Int)) = true := decide_eq_true c10
         clear c10
         by_cases c11 : 0 ≤ x8_1
         · rw [if_pos c11] at H
           have c11b0 : decide (0 ≤ x8_1) = true := decide_eq_true c11
           clear c11
           by_cases c12 : x8_1 < (x7_1.length : Int)
           · rw [if_pos c12] at H
             have c12b0 : decide (x8_1 < (x7_1.length : Int)) = true := decide_eq_true c12
             clear c12
             by_cases c13 : 0 ≤ x10_2
             · rw [if_pos c13] at H
               have c13b0 : decide (0 ≤ x10_2) = true := decide_eq_true c13
               clear c13
               replace H := Option.bind_eq_some_iff.mp H
               obtain ⟨t424, A140, H⟩ := H
               replace H : ((cartoucheref11_has.f k2 x9_2 ((rd_T80 l0 x10_2).f0)).bind fun t426 => (if t424 = true then (cartoucheref11_ways.j2 k2 l0 a2 x7_1 x8_1 x9_2 x10_2 (!t426)) else (cartoucheref11_ways.j2 k2 l0 a2 x7_1 x8_1 x9_2 x10_2 false))) = some r := H
               have A14 := Aside0.mk A140
               clear A140
               replace H := Option.bind_eq_some_iff.mp H
               obtain ⟨t426, A150, H⟩ := H
               replace H : (if t424 = true then (cartoucheref11_ways.j2 k2 l0 a2 x7_1 x8_1 x9_2 x10_2 (!t426)) else (cartoucheref11_ways.j2 k2 l0 a2 x7_1 x8_1 x9_2 x10_2 false)) = some r := H
               have A15 := Aside0.mk A150
               clear A150
               have HC16 := Aside0.mk H
               clear H
               obtain ⟨Ao17, co17, eo17⟩ := Kd.N_slice HO_7.out
               subst eo17
               have p422 : 0 ≤ (x8_1 : Int) := of_decide_eq_true (by first | (with_reducible assumption) | assumption)
               have q422 : x8_1 < (x7_1.length : Int) := of_decide_eq_true (by first | (with_reducible assumption) | assumption)
               obtain ⟨ad422, A422_0, c422_0, e422, hx422_0, hl422_0, hi422_0⟩ := at_L8 (Kd.N_reads' HO_7.out).2.2 x8_1 p422 q422
               cases e422
               obtain ⟨ce422, hce422, hMe422, hcc422⟩ := Kd.N_get HO_7.out [] x8_1 p422 (by first | exact q422 | exact of_decide_eq_true (by first | (with_reducible assumption) | assumption) | (have e_ := (Kd.N_reads' HO_7.out).1; omega))
               obtain ⟨ua422_0, uc422_0, rfl, ul422_0, ge422_0⟩ := Kd.FK_slice_open hMe422
               have hv422_0 := hcc422 0 _ rfl
               rw [Nat.add_zero, show ((Kd.slice 3 (Kd.int .i64))).sz = 1 from rfl, Nat.mul_one] at hv422_0
               replace hv422_0 := Option.some.inj (hv422_0.symm.trans hx422_0)
               injection hv422_0 with hva_ hvn_ hvc_
               rw [hva_] at ge422_0
               rw [hvc_] at ul422_0
               have HL422_0 := Aside0.mk (show Kd.V (Kd.int .i64) 3 _ w.heap.size _ _ (rd_L8 x7_1 x8_1) from Kd.V_mk ul422_0 ge422_0)
               clear hva_ hvn_ hvc_ ge422_0 ul422_0
               clear hcc422 hce422
               have HR422_0 := Aside0.mk hi422_0
               have HC422_0 := Aside0.mk hl422_0
               clear hi422_0 hl422_0
               replace p422 := eq_true p422
               replace q422 := eq_true q422
               have p423 : 0 ≤ (x10_2 : Int) := of_decide_eq_true (by first | (with_reducible assumption) | assumption)
               have q423 : x10_2 < (l0.length : Int) := of_decide_eq_true (by first | (with_reducible assumption) | assumption)
               obtain ⟨ad423, A423_2, c423_2, e423, hx423_0, hx423_1, hx423_2, hl423_2, hi423_2⟩ := at_T80 HR0.out x10_2 p423 q423
               cases e423
               replace hx423_0 := (HB.out.cell (World.block_lt_of_cell? w _ hx423_0)).trans hx423_0
               replace hx423_1 := (HB.out.cell (World.block_lt_of_cell? w _ hx423_1)).trans hx423_1
               replace hx423_2 := (HB.out.cell (World.block_lt_of_cell? w _ hx423_2)).trans hx423_2
               have HR423_2 := Aside0.mk hi423_2
               have HC423_2 := Aside0.mk hl423_2
               clear hi423_2 hl423_2
               replace p423 := eq_true p423
               replace q423 := eq_true q423
               go_upto_region 11 with (first | (go_at_call 112; (with_reducible refine (cartoucheref11_has.calls k2 _ _ x9_2 ((rd_T80 l0 x10_2).f0) t426 _ ?side1 ?side2 A15.out).mono ?_); (case side1 => repeat (first | exact (Kd.R_reads' HO_9.out).2.2 | (with_reducible refine Kd.C_alloc ?_ _) | (with_reducible refine Kd.C_drewN ?_ _) | (with_reducible refine Kd.C_drew ?_))); (case side2 => exact (Kd.R_reads' HO_9.out).2.1); rintro e w' ⟨rfl, ⟨nd, rfl⟩⟩; (try first | exact ⟨rfl, _, World.drewN_drewN _ _ _⟩ | exact ⟨rfl, _, Eq.trans (World.drewN_drewN _ _ _) (congrArg (World.drewN _) (Nat.add_assoc _ _ _))⟩)))
               repeat (go_quiet (first | (go_at_call 112; (with_reducible refine (cartoucheref11_has.calls k2 _ _ (rd_L8 x7_1 x8_1) ((rd_T80 l0 x10_2).f1) t424 _ ?side1 ?side2 A14.out).mono ?_); (case side1 => repeat (first | exact (by repeat (first | (with_reducible exact HR422_0.out) | (with_reducible refine Kd.C_alloc ?_ _) | (with_reducible refine Kd.C_drewN ?_ _) | (with_reducible refine Kd.C_drew ?_) | exact HR422_0.out)) | (with_reducible refine Kd.C_alloc ?_ _) | (with_reducible refine Kd.C_drewN ?_ _) | (with_reducible refine Kd.C_drew ?_))); (case side2 => exact HC422_0.out); rintro e w' ⟨rfl, ⟨nd, rfl⟩⟩; (try first | exact ⟨rfl, _, World.drewN_drewN _ _ _⟩ | exact ⟨rfl, _, Eq.trans (World.drewN_drewN _ _ _) (congrArg (World.drewN _) (Nat.add_assoc _ _ _))⟩); have p425 : 0 ≤ (x10_2 : Int) := of_decide_eq_true (by first | (with_reducible assumption) | assumption); have q425 : x10_2 < (l0.length : Int) := of_decide_eq_true (by first | (with_reducible assumption) | assumption); obtain ⟨ad425, A425_2, c425_2, e425, hx425_0, hx425_1, hx425_2, hl425_2, hi425_2⟩ := at_T80 HR0.out x10_2 p425 q425; obtain rfl : ad423 = ad425 := (by injection e425); replace hx425_0 := (HB.out.cell (World.block_lt_of_cell? w _ hx425_0)).trans hx425_0; replace hx425_1 := (HB.out.cell (World.block_lt_of_cell? w _ hx425_1)).trans hx425_1; replace hx425_2 := (HB.out.cell (World.block_lt_of_cell? w _ hx425_2)).trans hx425_2; have HR425_2 := Aside0.mk hi425_2; have HC425_2 := Aside0.mk hl425_2; clear hi425_2 hl425_2; replace p425 := eq_true p425; replace q425 := eq_true q425; have ea_ := Option.some.inj (hx423_2.symm.trans hx425_2); injection ea_ with ea_ en_ ec_; subst ea_; subst ec_; clear en_; obtain ⟨Ao18, co18, eo18⟩ := Kd.R_slice HO_9.out; subst eo18) | (go_at_call 112; (with_reducible refine (cartoucheref11_has.calls k2 _ _ x9_2 ((rd_T80 l0 x10_2).f0) t426 _ ?side1 ?side2 A15.out).mono ?_); (case side1 => repeat (first | exact (Kd.R_reads' HO_9.out).2.2 | (with_reducible refine Kd.C_alloc ?_ _) | (with_reducible refine Kd.C_drewN ?_ _) | (with_reducible refine Kd.C_drew ?_))); (case side2 => exact (Kd.R_reads' HO_9.out).2.1); rintro e w' ⟨rfl, ⟨nd, rfl⟩⟩; (try first | exact ⟨rfl, _, World.drewN_drewN _ _ _⟩ | exact ⟨rfl, _, Eq.trans (World.drewN_drewN _ _ _) (congrArg (World.drewN _) (Nat.add_assoc _ _ _))⟩))); go_upto_region 11 with (first | (go_at_call 112; (with_reducible refine (cartoucheref11_has.calls k2 _ _ (rd_L8 x7_1 x8_1) ((rd_T80 l0 x10_2).f1) t424 _ ?side1 ?side2 A14.out).mono ?_); (case side1 => repeat (first | exact (by repeat (first | (with_reducible exact HR422_0.out) | (with_reducible refine Kd.C_alloc ?_ _) | (with_reducible refine Kd.C_drewN ?_ _) | (with_reducible refine Kd.C_drew ?_) | exact HR422_0.out)) | (with_reducible refine Kd.C_alloc ?_ _) | (with_reducible refine Kd.C_drewN ?_ _) | (with_reducible refine Kd.C_drew ?_))); (case side2 => exact HC422_0.out); rintro e w' ⟨rfl, ⟨nd, rfl⟩⟩; (try first | exact ⟨rfl, _, World.drewN_drewN _ _ _⟩ | exact ⟨rfl, _, Eq.trans (World.drewN_drewN _ _ _) (congrArg (World.drewN _) (Nat.add_assoc _ _ _))⟩); have p425 : 0 ≤ (x10_2 : Int) := of_decide_eq_true (by first | (with_reducible assumption) | assumption); have q425 : x10_2 < (l0.length : Int) := of_decide_eq_true (by first | (with_reducible assumption) | assumption); obtain ⟨ad425, A425_2, c425_2, e425, hx425_0, hx425_1, hx425_2, hl425_2, hi425_2⟩ := at_T80 HR0.out x10_2 p425 q425; obtain rfl : ad423 = ad425 := (by injection e425); replace hx425_0 := (HB.out.cell (World.block_lt_of_cell? w _ hx425_0)).trans hx425_0; replace hx425_1 := (HB.out.cell (World.block_lt_of_cell? w _ hx425_1)).trans hx425_1; replace hx425_2 := (HB.out.cell (World.block_lt_of_cell? w _ hx425_2)).trans hx425_2; have HR425_2 := Aside0.mk hi425_2; have HC425_2 := Aside0.mk hl425_2; clear hi425_2 hl425_2; replace p425 := eq_true p425; replace q425 := eq_true q425; have ea_ := Option.some.inj (hx423_2.symm.trans hx425_2); injection ea_ with ea_ en_ ec_; subst ea_; subst ec_; clear en_; obtain ⟨Ao18, co18, eo18⟩ := Kd.R_slice HO_9.out; subst eo18) | (go_at_call 112; (with_reducible refine (cartoucheref11_has.calls k2 _ _ x9_2 ((rd_T80 l0 x10_2).f0) t426 _ ?side1 ?side2 A15.out).mono ?_); (case side1 => repeat (first | exact (Kd.R_reads' HO_9.out).2.2 | (with_reducible refine Kd.C_alloc ?_ _) | (with_reducible refine Kd.C_drewN ?_ _) | (with_reducible refine Kd.C_drew ?_))); (case side2 => exact (Kd.R_reads' HO_9.out).2.1); rintro e w' ⟨rfl, ⟨nd, rfl⟩⟩; (try first | exact ⟨rfl, _, World.drewN_drewN _ _ _⟩ | exact ⟨rfl, _, Eq.trans (World.drewN_drewN _ _ _) (congrArg (World.drewN _) (Nat.add_assoc _ _ _))⟩))))
               (try simp only [Act.put, List.setIfInBounds_toArray, List.set_cons_zero, List.set_cons_succ])
               go_cut [48] (fun v48 wc => ∃ (kq : Nat) (x48_15 : Bool), v48 = .bool x48_15 ∧ Aside0 (cartoucheref11_ways.j2 kq l0 a2 x7_1 x8_1 x9_2 x10_2 x48_15 = some r) ∧ Aside0 (kq ≤ k2) ∧ Aside0 (Kd.N (Kd.slice 3 (Kd.int .i64)) 31 wc w.heap.size (fun k_ => (w.heap.size ≤ k_) ∧ some k_ ≠ ((.slice Ao18 x9_2.length co18) : Value).ownBlock) (.slice (some ad422) x7_1.length co17) x7_1) ∧ Aside0 (Kd.R (Kd.int .i64) 3 wc w.heap.size (fun k_ => (w.heap.size ≤ k_)) (.slice Ao18 x9_2.length co18) x9_2) ∧ Aside0 (Kd.C (Kd.int .i64) wc A422_0 (rd_L8 x7_1 x8_1).length (rd_L8 x7_1 x8_1)) ∧ Aside0 (Below w.heap.size w wc))
               case first =>
                have H := HC16.out
                clear HC16
                by_cases c19 : t424 = true
                · subst c19
                  have H1 : (cartoucheref11_ways.j2 k2 l0 a2 x7_1 x8_1 x9_2 x10_2 (!t426)) = some r := by rw [if_pos rfl] at H; exact H
                  clear H
                  have H := H1
                  clear H1
                  have H' := Aside0.mk H
                  clear H
                  go_wp2
                  repeat (go_quiet (fail); try go_wp2)
                  go_meet
                  case rel => exact ⟨_, (!t426), (by first | rfl | (simp; done) | (simp [*]; done)), H', ⟨by have := HK1.out; have := HK2.out; first | omega | exact Nat.le_refl _⟩, ⟨by (with_reducible repeat (first | apply Kd.N_alloc | apply Kd.N_drewN | apply Kd.N_drew)); exact HO_7.out⟩, ⟨by (with_reducible repeat (first | apply Kd.R_alloc | apply Kd.R_drewN | apply Kd.R_drew)); exact HO_9.out⟩, ⟨by repeat (first | (with_reducible exact HR422_0.out) | (with_reducible refine Kd.C_alloc ?_ _) | (with_reducible refine Kd.C_drewN ?_ _) | (with_reducible refine Kd.C_drew ?_) | exact HR422_0.out)⟩, ⟨by repeat (first | (with_reducible first | exact HB.out | apply below_alloc | apply pw_below_drewN | apply below_drew1) | exact HB.out)⟩⟩
                replace c19 := Bool.eq_false_iff.mpr c19
                subst c19
                have H1 : (cartoucheref11_ways.j2 k2 l0 a2 x7_1 x8_1 x9_2 x10_2 false) = some r := by rw [if_neg (show ¬ (false = true) by decide)] at H; exact H
                clear H
                have H := H1
                clear H1
                have H' := Aside0.mk H
                clear H
                go_wp2
                repeat (go_quiet (fail); try go_wp2)
                go_meet
                case rel => exact ⟨_, (false), (by first | rfl | (simp; done) | (simp [*]; done)), H', ⟨by have := HK1.out; have := HK2.out; first | omega | exact Nat.le_refl _⟩, ⟨by (with_reducible repeat (first | apply Kd.N_alloc | apply Kd.N_drewN | apply Kd.N_drew)); exact HO_7.out⟩, ⟨by (with_reducible repeat (first | apply Kd.R_alloc | apply Kd.R_drewN | apply Kd.R_drew)); exact HO_9.out⟩, ⟨by repeat (first | (with_reducible exact HR422_0.out) | (with_reducible refine Kd.C_alloc ?_ _) | (with_reducible refine Kd.C_drewN ?_ _) | (with_reducible refine Kd.C_drew ?_) | exact HR422_0.out)⟩, ⟨by repeat (first | (with_reducible first | exact HB.out | apply below_alloc | apply pw_below_drewN | apply below_drew1) | exact HB.out)⟩⟩
               case rest =>
                clear HC16
                (try clear c1);(try clear p2);(try clear c4);(try clear p4);(try clear q4);(try clear hx4);(try clear c9);(try clear c9b0);(try clear c10);(try clear c10b0);(try clear c11);(try clear c11b0);(try clear c12);(try clear c12b0);(try clear c13);(try clear c13b0);(try clear c19);(try clear hx422_0);(try clear hx423_0);(try clear hx423_1);(try clear hx423_2);(try clear hx425_0);(try clear hx425_1);(try clear hx425_2);(try clear p2);(try clear p422);(try clear p423);(try clear p425);(try clear q422);(try clear q423);(try clear q425)
                obtain ⟨kq, x48_15, rfl, HA, HJ15, HO_7, HO_9, HR422_0, HB⟩ := hcut
                cases kq with
                | zero => exact absurd HA.out (by simp [cartoucheref11_ways.j2])
                | succ kj15 =>
                 have H := HA.out
                 clear HA
                 simp only [cartoucheref11_ways.j2] at H
                 by_cases c20 : x48_15 = true
                 · subst c20
                   have H1 : (if 0 ≤ x10_2 then (if x10_2 < (l0.length : Int) then (if x9_2.length < 17592186044416 then (cartoucheref11_ways.l1 kj15 l0 a2 x7_1 x8_1 (x9_2 ++ [(rd_T80 l0 x10_2).f0]) (wrap64 (x10_2 + 1))) else (none)) else (none)) else (none)) = some r := by rw [if_pos rfl] at H; exact H
                   clear H
                   have H := H1
                   clear H1
                   by_cases c21 : 0 ≤ x10_2
                   · rw [if_pos c21] at H
                     have c21b0 : decide (0 ≤ x10_2) = true := decide_eq_true c21
                     clear c21
                     by_cases c22 : x10_2 < (l0.length : Int)
                     · rw [if_pos c22] at H
                       have c22b0 : decide (x10_2 < (l0.length : Int)) = true := decide_eq_true c22
                       clear c22
                       by_cases c23 : x9_2.length < 17592186044416
                       · rw [if_pos c23] at H
                         have LMc23 := Aside0.mk c23
                         clear c23
                         obtain ⟨y428, hy428⟩ : ∃ y_ : List Int, y_ = (x9_2 ++ [(rd_T80 l0 x10_2).f0]) := ⟨_, rfl⟩
                         replace H : (cartoucheref11_ways.l1 kj15 l0 a2 x7_1 x8_1 y428 (wrap64 (x10_2 + 1))) = some r := by first | (rw [hy428]; with_reducible exact H) | (have H2_ := (Option.bind_some _ _).symm.trans H; rw [hy428]; with_reducible exact H2_) | (have H2_ := (Option.bind_some _ _).symm.trans H; with_reducible exact H2_) | with_reducible exact H | (rw [hy428]; exact H) | exact H
                         have Ny428 := Aside0.mk hy428
                         clear hy428
                         have H' := Aside0.mk H
                         clear H
                         have p427 : 0 ≤ (x10_2 : Int) := of_decide_eq_true (by first | (with_reducible assumption) | assumption)
                         have q427 : x10_2 < (l0.length : Int) := of_decide_eq_true (by first | (with_reducible assumption) | assumption)
                         obtain ⟨ad427, A427_2, c427_2, e427, hx427_0, hx427_1, hx427_2, hl427_2, hi427_2⟩ := at_T80 HR0.out x10_2 p427 q427
                         obtain rfl : ad423 = ad427 := (by injection e427)
                         replace hx427_0 := (HB.out.cell (World.block_lt_of_cell? w _ hx427_0)).trans hx427_0
                         replace hx427_1 := (HB.out.cell (World.block_lt_of_cell? w _ hx427_1)).trans hx427_1
                         replace hx427_2 := (HB.out.cell (World.block_lt_of_cell? w _ hx427_2)).trans hx427_2
                         have HR427_2 := Aside0.mk hi427_2
                         have HC427_2 := Aside0.mk hl427_2
                         clear hi427_2 hl427_2
                         replace p427 := eq_true p427
                         replace q427 := eq_true q427
                         go_wp2_with (first | ((with_reducible refine gate_builtin (b := .append) (xs := #[.tmp 49, .tmp 55]) rfl ?_); at_builtin; refine Kd.R_append (Kd.int .i64) (w0 := w) w.heap.size rfl (.tmp 49) (.tmp 55) 31 3 (.int .i64 0) 8 rfl Tryz.underlying31 info3 rfl (by decide) (by omega) (.slice Ao18 x9_2.length co18) x9_2 ((rd_T80 l0 x10_2).f0) [.int .i64 ((rd_T80 l0 x10_2).f0)] (fun k_ => (w.heap.size ≤ k_)) (fun _ => False) rfl rfl ?aP (fun _ hk => hk.elim) ?aF ?aO ?aB ?aS ?aL ?_; (case aP => exact rfl); (case aB => exact (by repeat (first | (with_reducible first | exact HB.out | apply below_alloc | apply pw_below_drewN | apply below_drew1) | exact HB.out))); (case aF => exact (fun k_ hk => (Nat.le_trans (below_size (by repeat (first | (with_reducible first | exact HB.out | apply below_alloc | apply pw_below_drewN | apply below_drew1) | exact HB.out))) hk))); (case aO => exact (by (with_reducible repeat (first | apply Kd.R_alloc | apply Kd.R_drewN | apply Kd.R_drew)); exact HO_9.out)); (case aS => exact (below_size (by repeat (first | (with_reducible first | exact HB.out | apply below_alloc | apply pw_below_drewN | apply below_drew1) | exact HB.out)))); (case aL => have := LMc23.out; omega); intro v429 w24 ho hb hg hat; rw [← Ny428.out] at ho; have n0_ := Aside0.mk (Kd.N_afterv (ok := (fun k_ => (w.heap.size ≤ k_))) (by (with_reducible repeat (first | apply Kd.N_alloc | apply Kd.N_drewN | apply Kd.N_drew)); exact HO_7.out) hg hat); have n1_ := Aside0.mk (hb); have n2_ := Aside0.mk (ho); clear HO_7; clear HB; clear HO_9; have HO_7 := n0_; have HB := n1_; have HO430 := n2_; clear n0_ n1_ n2_; clear ho hb hg hat))
                         go_roundg kj15
                         case measure => have := HK1.out; have := HK2.out; have := HJ15.out; omega
                         case rel => exact ⟨(y428), (wrap64 (x10_2 + 1)), (by first | rfl | (simp; done) | (simp [*]; done)), H', ⟨by have := HK1.out; have := HK2.out; have := HJ15.out; omega⟩, ⟨by (with_reducible repeat (first | apply Kd.N_alloc | apply Kd.N_drewN | apply Kd.N_drew)); exact HO_7.out⟩, ⟨by (with_reducible repeat (first | apply Kd.R_alloc | apply Kd.R_drewN | apply Kd.R_drew)); exact HO430.out⟩, ⟨by repeat (first | (with_reducible first | exact HB.out | apply below_alloc | apply pw_below_drewN | apply below_drew1) | exact HB.out)⟩⟩
                       rw [if_neg c23] at H
                       exact absurd H (by simp)
                     rw [if_neg c22] at H
                     exact absurd H (by simp)
                   rw [if_neg c21] at H
                   exact absurd H (by simp)
                 replace c20 := Bool.eq_false_iff.mpr c20
                 subst c20
                 have H1 : (cartoucheref11_ways.l1 kj15 l0 a2 x7_1 x8_1 x9_2 (wrap64 (x10_2 + 1))) = some r := by rw [if_neg (show ¬ (false = true) by decide)] at H; exact H
                 clear H
                 have H := H1
                 clear H1
                 have H' := Aside0.mk H
                 clear H
                 go_wp2
                 repeat (go_quiet (fail); try go_wp2)
                 go_roundg kj15
                 case measure => have := HK1.out; have := HK2.out; have := HJ15.out; omega
                 case rel => exact ⟨(x9_2), (wrap64 (x10_2 + 1)), (by first | rfl | (simp; done) | (simp [*]; done)), H', ⟨by have := HK1.out; have := HK2.out; have := HJ15.out; omega⟩, ⟨by (with_reducible repeat (first | apply Kd.N_alloc | apply Kd.N_drewN | apply Kd.N_drew)); exact HO_7.out⟩, ⟨by (with_reducible repeat (first | apply Kd.R_alloc | apply Kd.R_drewN | apply Kd.R_drew)); exact HO_9.out⟩, ⟨by repeat (first | (with_reducible first | exact HB.out | apply below_alloc | apply pw_below_drewN | apply below_drew1) | exact HB.out)⟩⟩
             rw [if_neg c13] at H
             exact absurd H (by simp)
           rw [if_neg c12] at H
           exact absurd H (by simp)
         rw [if_neg c11] at H
         exact absurd H (by simp)
       rw [if_neg c10] at H
       have c10b0 : decide (x10_2 < (l0.length : Int)) = false := decide_eq_false c10
       clear c10
       by_cases c25 : x7_1.length < 5864062014805
       · rw [if_pos c25] at H
         have LMc25 := Aside0.mk c25
         clear c25
         obtain ⟨y419, hy419⟩ : ∃ y_ : List (List Int), y_ = (x7_1 ++ [x9_2]) := ⟨_, rfl⟩
         replace H : (cartoucheref11_ways.l0 k2 l0 a2 y419 (wrap64 (x8_1 + 1))) = some r := by first | (rw [hy419]; with_reducible exact H) | (have H2_ := (Option.bind_some _ _).symm.trans H; rw [hy419]; with_reducible exact H2_) | (have H2_ := (Option.bind_some _ _).symm.trans H; with_reducible exact H2_) | with_reducible exact H | (rw [hy419]; exact H) | exact H
         have Ny419 := Aside0.mk hy419
         clear hy419
         have H' := Aside0.mk H
         clear H
         obtain ⟨Ao27, co27, eo27⟩ := Kd.R_slice HO_9.out
         subst eo27
         go_wp2_with (first | ((with_reducible refine gate_builtin (b := .append) (xs := #[.tmp 57, .tmp 59]) rfl ?_); at_builtin; refine Kd.N_append (Kd.slice 3 (Kd.int .i64)) (w0 := w) w.heap.size rfl (.tmp 57) (.tmp 59) 135 31 (.slice none 0 0) 24 rfl Tryz.underlying135 info31 rfl (by decide) (by omega) u7 x7_1 x9_2 [.slice Ao27 x9_2.length co27] (fun k_ => (w.heap.size ≤ k_)) (fun k_ => ((fun k_ => (w.heap.size ≤ k_))) k_ ∧ some k_ ≠ (u7 : Value).ownBlock) rfl rfl ?aP (fun _ hk => hk) ?aF ?aO ?aB ?aS ?aL ?_; (case aP => exact (Kd.FK_slice_mk (Kd.R_reads' (Kd.R_mono (ok' := (fun k_ => ((fun k_ => (w.heap.size ≤ k_))) k_ ∧ some k_ ≠ (u7 : Value).ownBlock)) (Kd.R_apart' (HO_9.out) (Kd.N_typed HO_7.out) (by decide)) (fun k_ hk => ⟨hk.1, hk.2⟩))).2.1 (Kd.R_F (Kd.R_mono (ok' := (fun k_ => ((fun k_ => (w.heap.size ≤ k_))) k_ ∧ some k_ ≠ (u7 : Value).ownBlock)) (Kd.R_apart' (HO_9.out) (Kd.N_typed HO_7.out) (by decide)) (fun k_ hk => ⟨hk.1, hk.2⟩))))); (case aB => exact (by repeat (first | (with_reducible first | exact HB.out | apply below_alloc | apply pw_below_drewN | apply below_drew1) | exact HB.out))); (case aF => exact (fun k_ hk => (Nat.le_trans (below_size (by repeat (first | (with_reducible first | exact HB.out | apply below_alloc | apply pw_below_drewN | apply below_drew1) | exact HB.out))) hk))); (case aO => exact (by (with_reducible repeat (first | apply Kd.N_alloc | apply Kd.N_drewN | apply Kd.N_drew)); exact Kd.N_mono HO_7.out (fun _ hk => hk.1))); (case aS => exact (below_size (by repeat (first | (with_reducible first | exact HB.out | apply below_alloc | apply pw_below_drewN | apply below_drew1) | exact HB.out)))); (case aL => have := LMc25.out; omega); intro v420 w26 ho hb hg hat; rw [← Ny419.out] at ho; have n0_ := Aside0.mk (hb); have n1_ := Aside0.mk (ho); clear HB; clear HO_7; clear HO_9; have HB := n0_; have HO421 := n1_; clear n0_ n1_; clear ho hb hg hat))
         go_roundg k2
         case measure => have := HK1.out; have := HK2.out; omega
         case rel => exact ⟨(y419), (wrap64 (x8_1 + 1)), (by first | rfl | (simp; done) | (simp [*]; done)), H', ⟨by have := HK1.out; have := HK2.out; omega⟩, ⟨by (with_reducible repeat (first | apply Kd.N_alloc | apply Kd.N_drewN | apply Kd.N_drew)); exact HO421.out⟩, ⟨by repeat (first | (with_reducible first | exact HB.out | apply below_alloc | apply pw_below_drewN | apply below_drew1) | exact HB.out)⟩⟩
       rw [if_neg c25] at H
       exact absurd H (by simp)
   rw [if_neg c9] at H
   have c9b0 : decide (x8_1 < a2) = false := decide_eq_false c9
   clear c9
   obtain rfl := Option.some.inj H
   go_wp2
   repeat (go_quiet (fail); try go_wp2)
   go_ret
   exact ⟨_, by first | rfl | (simp [errW_none, errW_some] <;> rfl) | (simp [*, errW_none, errW_some] <;> rfl), by (with_reducible repeat (first | apply Kd.N_alloc | apply Kd.N_drewN | apply Kd.N_drew)); exact HO_7.out, by repeat (first | (with_reducible first | exact HB.out | apply below_alloc | apply pw_below_drewN | apply below_drew1) | exact HB.out)⟩
end Go.Proofs.YtebjiimlcnmfpaaGreatPr
