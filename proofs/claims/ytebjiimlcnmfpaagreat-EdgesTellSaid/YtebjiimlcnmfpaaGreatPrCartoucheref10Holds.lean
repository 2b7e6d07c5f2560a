/- Contracts of Go functions, printed by a program of this session over the translation: each call answers what its Lean function says. -/
import Derived.Test.YtebjiimlcnmfpaaGreatPr0
import Derived.Test.YtebjiimlcnmfpaaGreatPrCartoucheref10Committed
import Derived.Test.YtebjiimlcnmfpaaGreatB1
namespace Go.Proofs.YtebjiimlcnmfpaaGreatPr
open Go.RowKit Go.Proofs.YtebjiimlcnmfpaaGreatW.PrintWords Go.Proofs.YtebjiimlcnmfpaaGreatW.PrintLast Go.Proofs.YtebjiimlcnmfpaaGreatW.PrintMore
attribute [local go_sem] max2_int min2_int max_two min_two max_three min_three max_four min_four   -- for this text's walks alone
set_option linter.unusedVariables false
set_option linter.unusedSimpArgs false
/-! ### cartoucheref10_Holds: function 27 -/
mutual
def cartoucheref10_Holds.j0 : Nat → List (S50) → Int → Int → Bool → Int → Int → Int → Int → Int → Option (Bool)
 | 0, _, _, _, _, _, _, _, _, _ => none
 | k + 1, x0, x5, x6, x55, x174000, x174001, x174002, x174003, x174004 => if x55 = true then (some false) else (if 0 ≤ x174003 then (if x174003 < (x0.length : Int) then (if 0 ≤ x174004 then (if x174004 < (x0.length : Int) then (if ((rd_T50 x0 x174003).f2).toList = ((rd_T50 x0 x174004).f2).toList then (if ((rd_T50 x0 x174003).f1) = x174001 then (cartoucheref10_Holds.j1 k x0 x5 x6 (((rd_T50 x0 x174004).f1) != x174002) x174000 x174001 x174002 x174003 x174004 ((rd_T50 x0 x174003).f0) ((rd_T50 x0 x174003).f1) ((rd_T50 x0 x174003).f2) ((rd_T50 x0 x174003).f3) ((rd_T50 x0 x174004).f0) ((rd_T50 x0 x174004).f1) ((rd_T50 x0 x174004).f2) ((rd_T50 x0 x174004).f3)) else (cartoucheref10_Holds.j1 k x0 x5 x6 true x174000 x174001 x174002 x174003 x174004 ((rd_T50 x0 x174003).f0) ((rd_T50 x0 x174003).f1) ((rd_T50 x0 x174003).f2) ((rd_T50 x0 x174003).f3) ((rd_T50 x0 x174004).f0) ((rd_T50 x0 x174004).f1) ((rd_T50 x0 x174004).f2) ((rd_T50 x0 x174004).f3))) else (cartoucheref10_Holds.j1 k x0 x5 x6 true x174000 x174001 x174002 x174003 x174004 ((rd_T50 x0 x174003).f0) ((rd_T50 x0 x174003).f1) ((rd_T50 x0 x174003).f2) ((rd_T50 x0 x174003).f3) ((rd_T50 x0 x174004).f0) ((rd_T50 x0 x174004).f1) ((rd_T50 x0 x174004).f2) ((rd_T50 x0 x174004).f3))) else (none)) else (none)) else (none)) else (none))
def cartoucheref10_Holds.j1 : Nat → List (S50) → Int → Int → Bool → Int → Int → Int → Int → Int → Int → Int → ByteArray → ByteArray → Int → Int → ByteArray → ByteArray → Option (Bool)
 | 0, _, _, _, _, _, _, _, _, _, _, _, _, _, _, _, _, _ => none
 | k + 1, x0, x5, x6, x84, x174000, x174001, x174002, x174003, x174004, x178000, x178001, x178002, x178003, x180000, x180001, x180002, x180003 => if x84 = true then (some false) else (if x174000 = 1 then (if x178000 = 3 then (if x180000 = 3 then (some (decide (x5 < x6))) else (some false)) else (some false)) else (if x174000 = 2 then (if x178000 = 3 then (if x180000 = 2 then (some (x178003.toList == x180003.toList)) else (some false)) else (some false)) else (if x174000 = 3 then (if x178000 = 2 then (cartoucheref10_Holds.j2 k x0 x6 (x180000 != 3) x174000 x174001 x174002 x174003 x174004 x178000 x178001 x178002 x178003) else (cartoucheref10_Holds.j2 k x0 x6 true x174000 x174001 x174002 x174003 x174004 x178000 x178001 x178002 x178003)) else (cartoucheref10_Holds.j2 k x0 x6 true x174000 x174001 x174002 x174003 x174004 x178000 x178001 x178002 x178003))))
def cartoucheref10_Holds.j2 : Nat → List (S50) → Int → Bool → Int → Int → Int → Int → Int → Int → Int → ByteArray → ByteArray → Option (Bool)
 | 0, _, _, _, _, _, _, _, _, _, _, _, _ => none
 | k + 1, x0, x6, x131, x174000, x174001, x174002, x174003, x174004, x178000, x178001, x178002, x178003 => if x131 = true then (some false) else (if x178003.toList = ([] : List UInt8) then (some true) else ((cartoucheref08_Writer.f x0 x178002 x178003).bind fun t180 => (if t180 < 0 then (cartoucheref10_Holds.j3 k x0 x6 t180 true) else (if 0 ≤ t180 then (if t180 < (x0.length : Int) then (cartoucheref10_Holds.j3 k x0 x6 t180 (((rd_T50 x0 t180).f1) == x174002)) else (none)) else (none)))))
def cartoucheref10_Holds.j3 : Nat → List (S50) → Int → Int → Bool → Option (Bool)
 | 0, _, _, _, _ => none
 | k + 1, x0, x6, x9, x152 => if x152 = true then (some false) else (if 0 ≤ x9 then (if x9 < (x0.length : Int) then ((cartoucheref10_committed.f k x0 ((rd_T50 x0 x9).f1)).bind fun t183 => (if t183 ≥ 0 then (some (decide (t183 < x6))) else (some false))) else (none)) else (none))
end
def cartoucheref10_Holds.f (k : Nat) (l0 : List (S50)) (a1_0 : Int) (a1_1 : Int) (a1_2 : Int) (a1_3 : Int) (a1_4 : Int) : Option (Bool) := (cartoucheref10_committed.f k l0 a1_1).bind fun t174 => ((cartoucheref10_committed.f k l0 a1_2).bind fun t175 => (if t174 < 0 then (cartoucheref10_Holds.j0 k l0 t174 t175 true a1_0 a1_1 a1_2 a1_3 a1_4) else (if t175 < 0 then (cartoucheref10_Holds.j0 k l0 t174 t175 true a1_0 a1_1 a1_2 a1_3 a1_4) else (if a1_1 = a1_2 then (cartoucheref10_Holds.j0 k l0 t174 t175 true a1_0 a1_1 a1_2 a1_3 a1_4) else (if a1_3 < 0 then (cartoucheref10_Holds.j0 k l0 t174 t175 true a1_0 a1_1 a1_2 a1_3 a1_4) else (if a1_3 ≥ (l0.length : Int) then (cartoucheref10_Holds.j0 k l0 t174 t175 true a1_0 a1_1 a1_2 a1_3 a1_4) else (if a1_4 < 0 then (cartoucheref10_Holds.j0 k l0 t174 t175 true a1_0 a1_1 a1_2 a1_3 a1_4) else (cartoucheref10_Holds.j0 k l0 t174 t175 (decide (a1_4 ≥ (l0.length : Int))) a1_0 a1_1 a1_2 a1_3 a1_4))))))))
theorem cartoucheref10_Holds.mono_l : ∀ k, (∀ y0 y1 y2 y3 y4 y5 y6 y7 y8, LeO (cartoucheref10_Holds.j0 k y0 y1 y2 y3 y4 y5 y6 y7 y8) (cartoucheref10_Holds.j0 (k + 1) y0 y1 y2 y3 y4 y5 y6 y7 y8)) ∧ (∀ y0 y1 y2 y3 y4 y5 y6 y7 y8 y9 y10 y11 y12 y13 y14 y15 y16, LeO (cartoucheref10_Holds.j1 k y0 y1 y2 y3 y4 y5 y6 y7 y8 y9 y10 y11 y12 y13 y14 y15 y16) (cartoucheref10_Holds.j1 (k + 1) y0 y1 y2 y3 y4 y5 y6 y7 y8 y9 y10 y11 y12 y13 y14 y15 y16)) ∧ (∀ y0 y1 y2 y3 y4 y5 y6 y7 y8 y9 y10 y11, LeO (cartoucheref10_Holds.j2 k y0 y1 y2 y3 y4 y5 y6 y7 y8 y9 y10 y11) (cartoucheref10_Holds.j2 (k + 1) y0 y1 y2 y3 y4 y5 y6 y7 y8 y9 y10 y11)) ∧ (∀ y0 y1 y2 y3, LeO (cartoucheref10_Holds.j3 k y0 y1 y2 y3) (cartoucheref10_Holds.j3 (k + 1) y0 y1 y2 y3))
 | 0 => ⟨fun _ _ _ _ _ _ _ _ _ r h => by simp [cartoucheref10_Holds.j0] at h, fun _ _ _ _ _ _ _ _ _ _ _ _ _ _ _ _ _ r h => by simp [cartoucheref10_Holds.j1] at h, fun _ _ _ _ _ _ _ _ _ _ _ _ r h => by simp [cartoucheref10_Holds.j2] at h, fun _ _ _ _ r h => by simp [cartoucheref10_Holds.j3] at h⟩
 | k + 1 => by
  obtain ⟨ih0, ih1, ih2, ih3⟩ := cartoucheref10_Holds.mono_l k
  refine ⟨?_, ?_, ?_, ?_⟩
  · intro y0 y1 y2 y3 y4 y5 y6 y7 y8
    unfold cartoucheref10_Holds.j0
    repeat' first
    | (with_reducible exact ih0 _ _ _ _ _ _ _ _ _)
    | (with_reducible exact ih1 _ _ _ _ _ _ _ _ _ _ _ _ _ _ _ _ _)
    | (with_reducible exact ih2 _ _ _ _ _ _ _ _ _ _ _ _)
    | (with_reducible exact ih3 _ _ _ _)
    | (with_reducible exact cartoucheref10_committed.mono _ _ _)
    | (with_reducible exact LeO.refl _)
    | (with_reducible exact LeO.none _)
    | (with_reducible refine LeO.ite ?_ ?_)
    | (with_reducible refine LeO.bind ?_ (fun _ => ?_))
    | exact ih0 _ _ _ _ _ _ _ _ _
    | exact ih1 _ _ _ _ _ _ _ _ _ _ _ _ _ _ _ _ _
    | exact ih2 _ _ _ _ _ _ _ _ _ _ _ _
    | exact ih3 _ _ _ _
    | exact cartoucheref10_committed.mono _ _ _
    | exact LeO.none _
    | refine LeO.ite ?_ ?_
    | refine LeO.bind ?_ (fun _ => ?_)
  · intro y0 y1 y2 y3 y4 y5 y6 y7 y8 y9 y10 y11 y12 y13 y14 y15 y16
    unfold cartoucheref10_Holds.j1
    repeat' first
    | (with_reducible exact ih0 _ _ _ _ _ _ _ _ _)
    | (with_reducible exact ih1 _ _ _ _ _ _ _ _ _ _ _ _ _ _ _ _ _)
    | (with_reducible exact ih2 _ _ _ _ _ _ _ _ _ _ _ _)
    | (with_reducible exact ih3 _ _ _ _)
    | (with_reducible exact cartoucheref10_committed.mono _ _ _)
    | (with_reducible exact LeO.refl _)
    | (with_reducible exact LeO.none _)
    | (with_reducible refine LeO.ite ?_ ?_)
    | (with_reducible refine LeO.bind ?_ (fun _ => ?_))
    | exact ih0 _ _ _ _ _ _ _ _ _
    | exact ih1 _ _ _ _ _ _ _ _ _ _ _ _ _ _ _ _ _
    | exact ih2 _ _ _ _ _ _ _ _ _ _ _ _
    | exact ih3 _ _ _ _
    | exact cartoucheref10_committed.mono _ _ _
    | exact LeO.none _
    | refine LeO.ite ?_ ?_
    | refine LeO.bind ?_ (fun _ => ?_)
  · intro y0 y1 y2 y3 y4 y5 y6 y7 y8 y9 y10 y11
    unfold cartoucheref10_Holds.j2
    repeat' first
    | (with_reducible exact ih0 _ _ _ _ _ _ _ _ _)
    | (with_reducible exact ih1 _ _ _ _ _ _ _ _ _ _ _ _ _ _ _ _ _)
    | (with_reducible exact ih2 _ _ _ _ _ _ _ _ _ _ _ _)
    | (with_reducible exact ih3 _ _ _ _)
    | (with_reducible exact cartoucheref10_committed.mono _ _ _)
    | (with_reducible exact LeO.refl _)
    | (with_reducible exact LeO.none _)
    | (with_reducible refine LeO.ite ?_ ?_)
    | (with_reducible refine LeO.bind ?_ (fun _ => ?_))
    | exact ih0 _ _ _ _ _ _ _ _ _
    | exact ih1 _ _ _ _ _ _ _ _ _ _ _ _ _ _ _ _ _
    | exact ih2 _ _ _ _ _ _ _ _ _ _ _ _
    | exact ih3 _ _ _ _
    | exact cartoucheref10_committed.mono _ _ _
    | exact LeO.none _
    | refine LeO.ite ?_ ?_
    | refine LeO.bind ?_ (fun _ => ?_)
  · intro y0 y1 y2 y3
    unfold cartoucheref10_Holds.j3
    repeat' first
    | (with_reducible exact ih0 _ _ _ _ _ _ _ _ _)
    | (with_reducible exact ih1 _ _ _ _ _ _ _ _ _ _ _ _ _ _ _ _ _)
    | (with_reducible exact ih2 _ _ _ _ _ _ _ _ _ _ _ _)
    | (with_reducible exact ih3 _ _ _ _)
    | (with_reducible exact cartoucheref10_committed.mono _ _ _)
    | (with_reducible exact LeO.refl _)
    | (with_reducible exact LeO.none _)
    | (with_reducible refine LeO.ite ?_ ?_)
    | (with_reducible refine LeO.bind ?_ (fun _ => ?_))
    | exact ih0 _ _ _ _ _ _ _ _ _
    | exact ih1 _ _ _ _ _ _ _ _ _ _ _ _ _ _ _ _ _
    | exact ih2 _ _ _ _ _ _ _ _ _ _ _ _
    | exact ih3 _ _ _ _
    | exact cartoucheref10_committed.mono _ _ _
    | exact LeO.none _
    | refine LeO.ite ?_ ?_
    | refine LeO.bind ?_ (fun _ => ?_)
theorem cartoucheref10_Holds.mono : ∀ a0 a1 a2 a3 a4 a5 k, LeO (cartoucheref10_Holds.f k a0 a1 a2 a3 a4 a5) (cartoucheref10_Holds.f (k + 1) a0 a1 a2 a3 a4 a5) := by
 intro a0 a1 a2 a3 a4 a5 k
 obtain ⟨ih0, ih1, ih2, ih3⟩ := cartoucheref10_Holds.mono_l k
 unfold cartoucheref10_Holds.f
 repeat' first
  | (with_reducible exact ih0 _ _ _ _ _ _ _ _ _)
  | (with_reducible exact ih1 _ _ _ _ _ _ _ _ _ _ _ _ _ _ _ _ _)
  | (with_reducible exact ih2 _ _ _ _ _ _ _ _ _ _ _ _)
  | (with_reducible exact ih3 _ _ _ _)
  | (with_reducible exact cartoucheref10_committed.mono _ _ _)
  | (with_reducible exact LeO.refl _)
  | (with_reducible exact LeO.none _)
  | (with_reducible refine LeO.ite ?_ ?_)
  | (with_reducible refine LeO.bind ?_ (fun _ => ?_))
  | exact ih0 _ _ _ _ _ _ _ _ _
  | exact ih1 _ _ _ _ _ _ _ _ _ _ _ _ _ _ _ _ _
  | exact ih2 _ _ _ _ _ _ _ _ _ _ _ _
  | exact ih3 _ _ _ _
  | exact cartoucheref10_committed.mono _ _ _
  | exact LeO.none _
  | refine LeO.ite ?_ ?_
  | refine LeO.bind ?_ (fun _ => ?_)
set_option maxHeartbeats 8000000 in
set_option maxRecDepth 100000 in
theorem cartoucheref10_Holds.calls (k : Nat) (A0 : Option Addr) (c0 : Nat) (l0 : List (S50)) (a1_0 : Int) (a1_1 : Int) (a1_2 : Int) (a1_3 : Int) (a1_4 : Int) (r : Bool) (w : World) (hr0 : Kd.C k50 w A0 l0.length l0) (hc0 : l0.length ≤ c0) (h : cartoucheref10_Holds.f k l0 a1_0 a1_1 a1_2 a1_3 a1_4 = some r) :
 Calls Tryz.prog 27 #[.slice A0 l0.length c0, .agg #[.int .i64 a1_0, .int .i64 a1_1, .int .i64 a1_2, .int .i64 a1_3, .int .i64 a1_4]] w fun e w' => e = .returned (.bool r) ∧ Below w.heap.size w w' := by
 have hu24 := Tryz.underlying24
 have hu50 := Tryz.underlying50
 have HR0 := Aside0.mk hr0
 have HC0 := Aside0.mk hc0
 clear hr0 hc0
 have HB := Aside0.mk (Below.refl w.heap.size w)
 have H : ((cartoucheref10_committed.f k l0 a1_1).bind fun t174 => ((cartoucheref10_committed.f k l0 a1_2).bind fun t175 => (if t174 < 0 then (cartoucheref10_Holds.j0 k l0 t174 t175 true a1_0 a1_1 a1_2 a1_3 a1_4) else (if t175 < 0 then (cartoucheref10_Holds.j0 k l0 t174 t175 true a1_0 a1_1 a1_2 a1_3 a1_4) else (if a1_1 = a1_2 then (cartoucheref10_Holds.j0 k l0 t174 t175 true a1_0 a1_1 a1_2 a1_3 a1_4) else (if a1_3 < 0 then (cartoucheref10_Holds.j0 k l0 t174 t175 true a1_0 a1_1 a1_2 a1_3 a1_4) else (if a1_3 ≥ (l0.length : Int) then (cartoucheref10_Holds.j0 k l0 t174 t175 true a1_0 a1_1 a1_2 a1_3 a1_4) else (if a1_4 < 0 then (cartoucheref10_Holds.j0 k l0 t174 t175 true a1_0 a1_1 a1_2 a1_3 a1_4) else (cartoucheref10_Holds.j0 k l0 t174 t175 (decide (a1_4 ≥ (l0.length : Int))) a1_0 a1_1 a1_2 a1_3 a1_4))))))))) = some r := h
 clear h
 replace H := Option.bind_eq_some_iff.mp H
 obtain ⟨t174, A30, H⟩ := H
 replace H : ((cartoucheref10_committed.f k l0 a1_2).bind fun t175 => (if t174 < 0 then (cartoucheref10_Holds.j0 k l0 t174 t175 true a1_0 a1_1 a1_2 a1_3 a1_4) else (if t175 < 0 then (cartoucheref10_Holds.j0 k l0 t174 t175 true a1_0 a1_1 a1_2 a1_3 a1_4) else (if a1_1 = a1_2 then (cartoucheref10_Holds.j0 k l0 t174 t175 true a1_0 a1_1 a1_2 a1_3 a1_4) else (if a1_3 < 0 then (cartoucheref10_Holds.j0 k l0 t174 t175 true a1_0 a1_1 a1_2 a1_3 a1_4) else (if a1_3 ≥ (l0.length : Int) then (cartoucheref10_Holds.j0 k l0 t174 t175 true a1_0 a1_1 a1_2 a1_3 a1_4) else (if a1_4 < 0 then (cartoucheref10_Holds.j0 k l0 t174 t175 true a1_0 a1_1 a1_2 a1_3 a1_4) else (cartoucheref10_Holds.j0 k l0 t174 t175 (decide (a1_4 ≥ (l0.length : Int))) a1_0 a1_1 a1_2 a1_3 a1_4)))))))) = some r := H
 have A3 := Aside0.mk A30
 clear A30
 replace H := Option.bind_eq_some_iff.mp H
 obtain ⟨t175, A40, H⟩ := H
 replace H : (if t174 < 0 then (cartoucheref10_Holds.j0 k l0 t174 t175 true a1_0 a1_1 a1_2 a1_3 a1_4) else (if t175 < 0 then (cartoucheref10_Holds.j0 k l0 t174 t175 true a1_0 a1_1 a1_2 a1_3 a1_4) else (if a1_1 = a1_2 then (cartoucheref10_Holds.j0 k l0 t174 t175 true a1_0 a1_1 a1_2 a1_3 a1_4) else (if a1_3 < 0 then (cartoucheref10_Holds.j0 k l0 t174 t175 true a1_0 a1_1 a1_2 a1_3 a1_4) else (if a1_3 ≥ (l0.length : Int) then (cartoucheref10_Holds.j0 k l0 t174 t175 true a1_0 a1_1 a1_2 a1_3 a1_4) else (if a1_4 < 0 then (cartoucheref10_Holds.j0 k l0 t174 t175 true a1_0 a1_1 a1_2 a1_3 a1_4) else (cartoucheref10_Holds.j0 k l0 t174 t175 (decide (a1_4 ≥ (l0.length : Int))) a1_0 a1_1 a1_2 a1_3 a1_4))))))) = some r := H
 have A4 := Aside0.mk A40
 clear A40
 have HC5 := Aside0.mk H
 clear H
 go_enter Tryz.func27, Tryz.ntmps27
 go_upto_region 3 with (first | ((with_reducible refine gate_dst (N := 3) rfl ?_); (try (refine gate_guard (by rfl) ?_; dsimp only)); refine box_event ?hg (N := 3) ?hd (cs := #[.int .i64 a1_0, .int .i64 a1_1, .int .i64 a1_2, .int .i64 a1_3, .int .i64 a1_4]) (t := 24) ?hr ?_; (case hd => rfl); (case hg => rfl); (case hr => first | (go_simp; done) | (go_simp; rfl)); intro gb173 hg w6 hbox hb; have n0_ := Aside0.mk (below_step (by repeat (first | (with_reducible first | exact HB.out | apply below_alloc | apply pw_below_drewN | apply below_drew1) | exact HB.out)) hb); have n1_ := Aside0.mk (hbox); have n2_ := Aside0.mk ((by rw [hg]; exact (below_size (by repeat (first | (with_reducible first | exact HB.out | apply below_alloc | apply pw_below_drewN | apply below_drew1) | exact HB.out))) : w.heap.size ≤ gb173)); have n3_ := Aside0.mk ((by rw [hg]; exact (below_size (by repeat (first | (with_reducible first | exact HB.out | apply below_alloc | apply pw_below_drewN | apply below_drew1) | exact HB.out))) : w.heap.size ≤ gb173)); clear HB; have HB := n0_; have BK173 := n1_; have GW173 := n2_; have GE173 := n3_; clear n0_ n1_ n2_ n3_; clear hb hbox hg; have hcz7_0 : w6.cell? ⟨gb173, 0, none⟩ = some (.int .i64 a1_0) := (blk_cell BK173.out 0).trans rfl; have hcz7_1 : w6.cell? ⟨gb173, 1, none⟩ = some (.int .i64 a1_1) := (blk_cell BK173.out 1).trans rfl; have hcz7_2 : w6.cell? ⟨gb173, 2, none⟩ = some (.int .i64 a1_2) := (blk_cell BK173.out 2).trans rfl; have hcz7_3 : w6.cell? ⟨gb173, 3, none⟩ = some (.int .i64 a1_3) := (blk_cell BK173.out 3).trans rfl; have hcz7_4 : w6.cell? ⟨gb173, 4, none⟩ = some (.int .i64 a1_4) := (blk_cell BK173.out 4).trans rfl; have hfz7_0 := blk_frozen BK173.out 0; have hfz7_1 := blk_frozen BK173.out 1; have hfz7_2 := blk_frozen BK173.out 2; have hfz7_3 := blk_frozen BK173.out 3; have hfz7_4 := blk_frozen BK173.out 4) | (go_at_call 54; (with_reducible refine (cartoucheref10_committed.calls k _ _ l0 a1_1 t174 _ ?side1 ?side2 A3.out).mono ?_); (case side1 => repeat (first | exact (Kd.C_below HR0.out HB.out) | (with_reducible refine Kd.C_alloc ?_ _) | (with_reducible refine Kd.C_drewN ?_ _) | (with_reducible refine Kd.C_drew ?_))); (case side2 => exact HC0.out); rintro e w' ⟨rfl, ⟨nd, rfl⟩⟩; (try first | exact ⟨rfl, _, World.drewN_drewN _ _ _⟩ | exact ⟨rfl, _, Eq.trans (World.drewN_drewN _ _ _) (congrArg (World.drewN _) (Nat.add_assoc _ _ _))⟩)) | (go_at_call 54; (with_reducible refine (cartoucheref10_committed.calls k _ _ l0 a1_2 t175 _ ?side1 ?side2 A4.out).mono ?_); (case side1 => repeat (first | exact (Kd.C_below HR0.out (by repeat (first | (with_reducible first | exact HB.out | apply below_alloc | apply pw_below_drewN | apply below_drew1 | refine below_set ?_ GE173.out) | exact HB.out))) | (with_reducible refine Kd.C_alloc ?_ _) | (with_reducible refine Kd.C_drewN ?_ _) | (with_reducible refine Kd.C_drew ?_))); (case side2 => exact HC0.out); rintro e w' ⟨rfl, ⟨nd, rfl⟩⟩; (try first | exact ⟨rfl, _, World.drewN_drewN _ _ _⟩ | exact ⟨rfl, _, Eq.trans (World.drewN_drewN _ _ _) (congrArg (World.drewN _) (Nat.add_assoc _ _ _))⟩)))
 repeat (go_quiet (first | ((with_reducible refine gate_dst (N := 3) rfl ?_); (try (refine gate_guard (by rfl) ?_; dsimp only)); refine box_event ?hg (N := 3) ?hd (cs := #[.int .i64 a1_0, .int .i64 a1_1, .int .i64 a1_2, .int .i64 a1_3, .int .i64 a1_4]) (t := 24) ?hr ?_; (case hd => rfl); (case hg => rfl); (case hr => first | (go_simp; done) | (go_simp; rfl)); intro gb173 hg w6 hbox hb; have n0_ := Aside0.mk (below_step (by repeat (first | (with_reducible first | exact HB.out | apply below_alloc | apply pw_below_drewN | apply below_drew1) | exact HB.out)) hb); have n1_ := Aside0.mk (hbox); have n2_ := Aside0.mk ((by rw [hg]; exact (below_size (by repeat (first | (with_reducible first | exact HB.out | apply below_alloc | apply pw_below_drewN | apply below_drew1) | exact HB.out))) : w.heap.size ≤ gb173)); have n3_ := Aside0.mk ((by rw [hg]; exact (below_size (by repeat (first | (with_reducible first | exact HB.out | apply below_alloc | apply pw_below_drewN | apply below_drew1) | exact HB.out))) : w.heap.size ≤ gb173)); clear HB; have HB := n0_; have BK173 := n1_; have GW173 := n2_; have GE173 := n3_; clear n0_ n1_ n2_ n3_; clear hb hbox hg; have hcz7_0 : w6.cell? ⟨gb173, 0, none⟩ = some (.int .i64 a1_0) := (blk_cell BK173.out 0).trans rfl; have hcz7_1 : w6.cell? ⟨gb173, 1, none⟩ = some (.int .i64 a1_1) := (blk_cell BK173.out 1).trans rfl; have hcz7_2 : w6.cell? ⟨gb173, 2, none⟩ = some (.int .i64 a1_2) := (blk_cell BK173.out 2).trans rfl; have hcz7_3 : w6.cell? ⟨gb173, 3, none⟩ = some (.int .i64 a1_3) := (blk_cell BK173.out 3).trans rfl; have hcz7_4 : w6.cell? ⟨gb173, 4, none⟩ = some (.int .i64 a1_4) := (blk_cell BK173.out 4).trans rfl; have hfz7_0 := blk_frozen BK173.out 0; have hfz7_1 := blk_frozen BK173.out 1; have hfz7_2 := blk_frozen BK173.out 2; have hfz7_3 := blk_frozen BK173.out 3; have hfz7_4 := blk_frozen BK173.out 4) | (go_at_call 54; (with_reducible refine (cartoucheref10_committed.calls k _ _ l0 a1_1 t174 _ ?side1 ?side2 A3.out).mono ?_); (case side1 => repeat (first | exact (Kd.C_below HR0.out HB.out) | (with_reducible refine Kd.C_alloc ?_ _) | (with_reducible refine Kd.C_drewN ?_ _) | (with_reducible refine Kd.C_drew ?_))); (case side2 => exact HC0.out); rintro e w' ⟨rfl, ⟨nd, rfl⟩⟩; (try first | exact ⟨rfl, _, World.drewN_drewN _ _ _⟩ | exact ⟨rfl, _, Eq.trans (World.drewN_drewN _ _ _) (congrArg (World.drewN _) (Nat.add_assoc _ _ _))⟩)) | (go_at_call 54; (with_reducible refine (cartoucheref10_committed.calls k _ _ l0 a1_2 t175 _ ?side1 ?side2 A4.out).mono ?_); (case side1 => repeat (first | exact (Kd.C_below HR0.out (by repeat (first | (with_reducible first | exact HB.out | apply below_alloc | apply pw_below_drewN | apply below_drew1 | refine below_set ?_ GE173.out) | exact HB.out))) | (with_reducible refine Kd.C_alloc ?_ _) | (with_reducible refine Kd.C_drewN ?_ _) | (with_reducible refine Kd.C_drew ?_))); (case side2 => exact HC0.out); rintro e w' ⟨rfl, ⟨nd, rfl⟩⟩; (try first | exact ⟨rfl, _, World.drewN_drewN _ _ _⟩ | exact ⟨rfl, _, Eq.trans (World.drewN_drewN _ _ _) (congrArg (World.drewN _) (Nat.add_assoc _ _ _))⟩))); go_upto_region 3 with (first | ((with_reducible refine gate_dst (N := 3) rfl ?_); (try (refine gate_guard (by rfl) ?_; dsimp only)); refine box_event ?hg (N := 3) ?hd (cs := #[.int .i64 a1_0, .int .i64 a1_1, .int .i64 a1_2, .int .i64 a1_3, .int .i64 a1_4]) (t := 24) ?hr ?_; (case hd => rfl); (case hg => rfl); (case hr => first | (go_simp; done) | (go_simp; rfl)); intro gb173 hg w6 hbox hb; have n0_ := Aside0.mk (below_step (by repeat (first | (with_reducible first | exact HB.out | apply below_alloc | apply pw_below_drewN | apply below_drew1) | exact HB.out)) hb); have n1_ := Aside0.mk (hbox); have n2_ := Aside0.mk ((by rw [hg]; exact (below_size (by repeat (first | (with_reducible first | exact HB.out | apply below_alloc | apply pw_below_drewN | apply below_drew1) | exact HB.out))) : w.heap.size ≤ gb173)); have n3_ := Aside0.mk ((by rw [hg]; exact (below_size (by repeat (first | (with_reducible first | exact HB.out | apply below_alloc | apply pw_below_drewN | apply below_drew1) | exact HB.out))) : w.heap.size ≤ gb173)); clear HB; have HB := n0_; have BK173 := n1_; have GW173 := n2_; have GE173 := n3_; clear n0_ n1_ n2_ n3_; clear hb hbox hg; have hcz7_0 : w6.cell? ⟨gb173, 0, none⟩ = some (.int .i64 a1_0) := (blk_cell BK173.out 0).trans rfl; have hcz7_1 : w6.cell? ⟨gb173, 1, none⟩ = some (.int .i64 a1_1) := (blk_cell BK173.out 1).trans rfl; have hcz7_2 : w6.cell? ⟨gb173, 2, none⟩ = some (.int .i64 a1_2) := (blk_cell BK173.out 2).trans rfl; have hcz7_3 : w6.cell? ⟨gb173, 3, none⟩ = some (.int .i64 a1_3) := (blk_cell BK173.out 3).trans rfl; have hcz7_4 : w6.cell? ⟨gb173, 4, none⟩ = some (.int .i64 a1_4) := (blk_cell BK173.out 4).trans rfl; have hfz7_0 := blk_frozen BK173.out 0; have hfz7_1 := blk_frozen BK173.out 1; have hfz7_2 := blk_frozen BK173.out 2; have hfz7_3 := blk_frozen BK173.out 3; have hfz7_4 := blk_frozen BK173.out 4) | (go_at_call 54; (with_reducible refine (cartoucheref10_committed.calls k _ _ l0 a1_1 t174 _ ?side1 ?side2 A3.out).mono ?_); (case side1 => repeat (first | exact (Kd.C_below HR0.out HB.out) | (with_reducible refine Kd.C_alloc ?_ _) | (with_reducible refine Kd.C_drewN ?_ _) | (with_reducible refine Kd.C_drew ?_))); (case side2 => exact HC0.out); rintro e w' ⟨rfl, ⟨nd, rfl⟩⟩; (try first | exact ⟨rfl, _, World.drewN_drewN _ _ _⟩ | exact ⟨rfl, _, Eq.trans (World.drewN_drewN _ _ _) (congrArg (World.drewN _) (Nat.add_assoc _ _ _))⟩)) | (go_at_call 54; (with_reducible refine (cartoucheref10_committed.calls k _ _ l0 a1_2 t175 _ ?side1 ?side2 A4.out).mono ?_); (case side1 => repeat (first | exact (Kd.C_below HR0.out (by repeat (first | (with_reducible first | exact HB.out | apply below_alloc | apply pw_below_drewN | apply below_drew1 | refine below_set ?_ GE173.out) | exact HB.out))) | (with_reducible refine Kd.C_alloc ?_ _) | (with_reducible refine Kd.C_drewN ?_ _) | (with_reducible refine Kd.C_drew ?_))); (case side2 => exact HC0.out); rintro e w' ⟨rfl, ⟨nd, rfl⟩⟩; (try first | exact ⟨rfl, _, World.drewN_drewN _ _ _⟩ | exact ⟨rfl, _, Eq.trans (World.drewN_drewN _ _ _) (congrArg (World.drewN _) (Nat.add_assoc _ _ _))⟩))))
 (try simp only [Act.put, List.setIfInBounds_toArray, List.set_cons_zero, List.set_cons_succ])
 go_cut [55] (fun v55 wc => ∃ (kq : Nat) (x55_4 : Bool), v55 = .bool x55_4 ∧ Aside0 (cartoucheref10_Holds.j0 kq l0 t174 t175 x55_4 a1_0 a1_1 a1_2 a1_3 a1_4 = some r) ∧ Aside0 (kq ≤ k) ∧ Aside0 (wc.heap[gb173]? = some (.cells #[.int .i64 a1_0, .int .i64 a1_1, .int .i64 a1_2, .int .i64 a1_3, .int .i64 a1_4] 24 (0, 0))) ∧ Aside0 (Below w.heap.size w wc))
 case first =>
  have H := HC5.out
  clear HC5
  by_cases c8 : t174 < 0
  · rw [if_pos c8] at H
    have c8b0 : decide (t174 < 0) = true := decide_eq_true c8
    clear c8
    (first | rw [c8b0] | (simp only [i64_w, i32_w]; rw [c8b0]) | skip)
    have H' := Aside0.mk H
    clear H
    go_wp2
    repeat (go_quiet (fail); try go_wp2)
    go_meet
    case rel => exact ⟨_, (true), (by first | rfl | (simp; done) | (simp [*]; done)), H', ⟨by first | omega | exact Nat.le_refl _⟩, ⟨by (with_reducible repeat (first | refine blk_drewN ?_ _ | refine blk_drew ?_ | refine blk_alloc ?_ _)); exact BK173.out⟩, ⟨by repeat (first | (with_reducible first | exact HB.out | apply below_alloc | apply pw_below_drewN | apply below_drew1 | refine below_set ?_ GE173.out) | exact HB.out)⟩⟩
  · rw [if_neg c8] at H
    have c8b0 : decide (t174 < 0) = false := decide_eq_false c8
    clear c8
    (first | rw [c8b0] | (simp only [i64_w, i32_w]; rw [c8b0]) | skip)
    by_cases c9 : t175 < 0
    · rw [if_pos c9] at H
      have c9b0 : decide (t175 < 0) = true := decide_eq_true c9
      clear c9
      have H' := Aside0.mk H
      clear H
      go_wp2
      repeat (go_quiet (fail); try go_wp2)
      go_meet
      case rel => exact ⟨_, (true), (by first | rfl | (simp; done) | (simp [*]; done)), H', ⟨by first | omega | exact Nat.le_refl _⟩, ⟨by (with_reducible repeat (first | refine blk_drewN ?_ _ | refine blk_drew ?_ | refine blk_alloc ?_ _)); exact BK173.out⟩, ⟨by repeat (first | (with_reducible first | exact HB.out | apply below_alloc | apply pw_below_drewN | apply below_drew1 | refine below_set ?_ GE173.out) | exact HB.out)⟩⟩
    · rw [if_neg c9] at H
      have c9b0 : decide (t175 < 0) = false := decide_eq_false c9
      clear c9
      by_cases c10 : a1_1 = a1_2
      · rw [if_pos c10] at H
        have c10b0 : (a1_1 == a1_2) = true := beq_iff_eq.mpr c10
        have c10b1 : (a1_1 != a1_2) = false := bne_eq_false_iff_eq.mpr c10
        clear c10
        have H' := Aside0.mk H
        clear H
        have hcz11_0 : w6.cell? ⟨gb173, 0, none⟩ = some (.int .i64 a1_0) := (blk_cell BK173.out 0).trans rfl
        have hcz11_1 : w6.cell? ⟨gb173, 1, none⟩ = some (.int .i64 a1_1) := (blk_cell BK173.out 1).trans rfl
        have hcz11_2 : w6.cell? ⟨gb173, 2, none⟩ = some (.int .i64 a1_2) := (blk_cell BK173.out 2).trans rfl
        have hcz11_3 : w6.cell? ⟨gb173, 3, none⟩ = some (.int .i64 a1_3) := (blk_cell BK173.out 3).trans rfl
        have hcz11_4 : w6.cell? ⟨gb173, 4, none⟩ = some (.int .i64 a1_4) := (blk_cell BK173.out 4).trans rfl
        have hfz11_0 := blk_frozen BK173.out 0
        have hfz11_1 := blk_frozen BK173.out 1
        have hfz11_2 := blk_frozen BK173.out 2
        have hfz11_3 := blk_frozen BK173.out 3
        have hfz11_4 := blk_frozen BK173.out 4
        go_wp2
        repeat (go_quiet (fail); try go_wp2)
        go_meet
        case rel => exact ⟨_, (true), (by first | rfl | (simp; done) | (simp [*]; done)), H', ⟨by first | omega | exact Nat.le_refl _⟩, ⟨by (with_reducible repeat (first | refine blk_drewN ?_ _ | refine blk_drew ?_ | refine blk_alloc ?_ _)); exact BK173.out⟩, ⟨by repeat (first | (with_reducible first | exact HB.out | apply below_alloc | apply pw_below_drewN | apply below_drew1 | refine below_set ?_ GE173.out) | exact HB.out)⟩⟩
      · rw [if_neg c10] at H
        have c10b0 : (a1_1 == a1_2) = false := beq_eq_false_iff_ne.mpr c10
        have c10b1 : (a1_1 != a1_2) = true := bne_iff_ne.mpr c10
        by_cases c12 : a1_3 < 0
        · rw [if_pos c12] at H
          have c12b0 : decide (a1_3 < 0) = true := decide_eq_true c12
          clear c12
          have H' := Aside0.mk H
          clear H
          have hcz13_0 : w6.cell? ⟨gb173, 0, none⟩ = some (.int .i64 a1_0) := (blk_cell BK173.out 0).trans rfl
          have hcz13_1 : w6.cell? ⟨gb173, 1, none⟩ = some (.int .i64 a1_1) := (blk_cell BK173.out 1).trans rfl
          have hcz13_2 : w6.cell? ⟨gb173, 2, none⟩ = some (.int .i64 a1_2) := (blk_cell BK173.out 2).trans rfl
          have hcz13_3 : w6.cell? ⟨gb173, 3, none⟩ = some (.int .i64 a1_3) := (blk_cell BK173.out 3).trans rfl
          have hcz13_4 : w6.cell? ⟨gb173, 4, none⟩ = some (.int .i64 a1_4) := (blk_cell BK173.out 4).trans rfl
          have hfz13_0 := blk_frozen BK173.out 0
          have hfz13_1 := blk_frozen BK173.out 1
          have hfz13_2 := blk_frozen BK173.out 2
          have hfz13_3 := blk_frozen BK173.out 3
          have hfz13_4 := blk_frozen BK173.out 4
          go_wp2
          repeat (go_quiet (fail); try go_wp2)
          go_meet
          case rel => exact ⟨_, (true), (by first | rfl | (simp; done) | (simp [*]; done)), H', ⟨by first | omega | exact Nat.le_refl _⟩, ⟨by (with_reducible repeat (first | refine blk_drewN ?_ _ | refine blk_drew ?_ | refine blk_alloc ?_ _)); exact BK173.out⟩, ⟨by repeat (first | (with_reducible first | exact HB.out | apply below_alloc | apply pw_below_drewN | apply below_drew1 | refine below_set ?_ GE173.out) | exact HB.out)⟩⟩
        · rw [if_neg c12] at H
          have c12b0 : decide (a1_3 < 0) = false := decide_eq_false c12
          clear c12
          by_cases c14 : a1_3 ≥ (l0.length : Int)
          · rw [if_pos c14] at H
            have c14b0 : decide ((l0.length : Int) ≤ a1_3) = true := decide_eq_true c14
            clear c14
            have H' := Aside0.mk H
            clear H
            have hcz15_0 : w6.cell? ⟨gb173, 0, none⟩ = some (.int .i64 a1_0) := (blk_cell BK173.out 0).trans rfl
            have hcz15_1 : w6.cell? ⟨gb173, 1, none⟩ = some (.int .i64 a1_1) := (blk_cell BK173.out 1).trans rfl
            have hcz15_2 : w6.cell? ⟨gb173, 2, none⟩ = some (.int .i64 a1_2) := (blk_cell BK173.out 2).trans rfl
            have hcz15_3 : w6.cell? ⟨gb173, 3, none⟩ = some (.int .i64 a1_3) := (blk_cell BK173.out 3).trans rfl
            have hcz15_4 : w6.cell? ⟨gb173, 4, none⟩ = some (.int .i64 a1_4) := (blk_cell BK173.out 4).trans rfl
            have hfz15_0 := blk_frozen BK173.out 0
            have hfz15_1 := blk_frozen BK173.out 1
            have hfz15_2 := blk_frozen BK173.out 2
            have hfz15_3 := blk_frozen BK173.out 3
            have hfz15_4 := blk_frozen BK173.out 4
            go_wp2
            repeat (go_quiet (fail); try go_wp2)
            go_meet
            case rel => exact ⟨_, (true), (by first | rfl | (simp; done) | (simp [*]; done)), H', ⟨by first | omega | exact Nat.le_refl _⟩, ⟨by (with_reducible repeat (first | refine blk_drewN ?_ _ | refine blk_drew ?_ | refine blk_alloc ?_ _)); exact BK173.out⟩, ⟨by repeat (first | (with_reducible first | exact HB.out | apply below_alloc | apply pw_below_drewN | apply below_drew1 | refine below_set ?_ GE173.out) | exact HB.out)⟩⟩
          · rw [if_neg c14] at H
            have c14b0 : decide ((l0.length : Int) ≤ a1_3) = false := decide_eq_false c14
            clear c14
            by_cases c16 : a1_4 < 0
            · rw [if_pos c16] at H
              have c16b0 : decide (a1_4 < 0) = true := decide_eq_true c16
              clear c16
              have H' := Aside0.mk H
              clear H
              have hcz17_0 : w6.cell? ⟨gb173, 0, none⟩ = some (.int .i64 a1_0) := (blk_cell BK173.out 0).trans rfl
              have hcz17_1 : w6.cell? ⟨gb173, 1, none⟩ = some (.int .i64 a1_1) := (blk_cell BK173.out 1).trans rfl
              have hcz17_2 : w6.cell? ⟨gb173, 2, none⟩ = some (.int .i64 a1_2) := (blk_cell BK173.out 2).trans rfl
              have hcz17_3 : w6.cell? ⟨gb173, 3, none⟩ = some (.int .i64 a1_3) := (blk_cell BK173.out 3).trans rfl
              have hcz17_4 : w6.cell? ⟨gb173, 4, none⟩ = some (.int .i64 a1_4) := (blk_cell BK173.out 4).trans rfl
              have hfz17_0 := blk_frozen BK173.out 0
              have hfz17_1 := blk_frozen BK173.out 1
              have hfz17_2 := blk_frozen BK173.out 2
              have hfz17_3 := blk_frozen BK173.out 3
              have hfz17_4 := blk_frozen BK173.out 4
              go_wp2
              repeat (go_quiet (fail); try go_wp2)
              go_meet
              case rel => exact ⟨_, (true), (by first | rfl | (simp; done) | (simp [*]; done)), H', ⟨by first | omega | exact Nat.le_refl _⟩, ⟨by (with_reducible repeat (first | refine blk_drewN ?_ _ | refine blk_drew ?_ | refine blk_alloc ?_ _)); exact BK173.out⟩, ⟨by repeat (first | (with_reducible first | exact HB.out | apply below_alloc | apply pw_below_drewN | apply below_drew1 | refine below_set ?_ GE173.out) | exact HB.out)⟩⟩
            · rw [if_neg c16] at H
              have c16b0 : decide (a1_4 < 0) = false := decide_eq_false c16
              clear c16
              have H' := Aside0.mk H
              clear H
              have hcz18_0 : w6.cell? ⟨gb173, 0, none⟩ = some (.int .i64 a1_0) := (blk_cell BK173.out 0).trans rfl
              have hcz18_1 : w6.cell? ⟨gb173, 1, none⟩ = some (.int .i64 a1_1) := (blk_cell BK173.out 1).trans rfl
              have hcz18_2 : w6.cell? ⟨gb173, 2, none⟩ = some (.int .i64 a1_2) := (blk_cell BK173.out 2).trans rfl
              have hcz18_3 : w6.cell? ⟨gb173, 3, none⟩ = some (.int .i64 a1_3) := (blk_cell BK173.out 3).trans rfl
              have hcz18_4 : w6.cell? ⟨gb173, 4, none⟩ = some (.int .i64 a1_4) := (blk_cell BK173.out 4).trans rfl
              have hfz18_0 := blk_frozen BK173.out 0
              have hfz18_1 := blk_frozen BK173.out 1
              have hfz18_2 := blk_frozen BK173.out 2
              have hfz18_3 := blk_frozen BK173.out 3
              have hfz18_4 := blk_frozen BK173.out 4
              go_wp2
              repeat (go_quiet (fail); try go_wp2)
              go_meet
              case rel => exact ⟨_, (decide (a1_4 ≥ (l0.length : Int))), (by first | rfl | (simp; done) | (simp [*]; done)), H', ⟨by first | omega | exact Nat.le_refl _⟩, ⟨by (with_reducible repeat (first | refine blk_drewN ?_ _ | refine blk_drew ?_ | refine blk_alloc ?_ _)); exact BK173.out⟩, ⟨by repeat (first | (with_reducible first | exact HB.out | apply below_alloc | apply pw_below_drewN | apply below_drew1 | refine below_set ?_ GE173.out) | exact HB.out)⟩⟩
 case rest =>
  clear HC5
  try clear c1
  try clear c2
  try clear p2
  try clear c8
  try clear c8b0
  try clear c9
  try clear c9b0
  try clear c10
  try clear c10b0
  try clear c10b1
  try clear c12
  try clear c12b0
  try clear c14
  try clear c14b0
  try clear c16
  try clear c16b0
  try clear hcz11_0
  try clear hcz11_1
  try clear hcz11_2
  try clear hcz11_3
  try clear hcz11_4
  try clear hcz13_0
  try clear hcz13_1
  try clear hcz13_2
  try clear hcz13_3
  try clear hcz13_4
  try clear hcz15_0
  try clear hcz15_1
  try clear hcz15_2
  try clear hcz15_3
  try clear hcz15_4
  try clear hcz17_0
  try clear hcz17_1
  try clear hcz17_2
  try clear hcz17_3
  try clear hcz17_4
  try clear hcz18_0
  try clear hcz18_1
  try clear hcz18_2
  try clear hcz18_3
  try clear hcz18_4
  try clear hcz7_0
  try clear hcz7_1
  try clear hcz7_2
  try clear hcz7_3
  try clear hcz7_4
  try clear hfz11_0
  try clear hfz11_1
  try clear hfz11_2
  try clear hfz11_3
  try clear hfz11_4
  try clear hfz13_0
  try clear hfz13_1
  try clear hfz13_2
  try clear hfz13_3
  try clear hfz13_4
  try clear hfz15_0
  try clear hfz15_1
  try clear hfz15_2
  try clear hfz15_3
  try clear hfz15_4
  try clear hfz17_0
  try clear hfz17_1
  try clear hfz17_2
  try clear hfz17_3
  try clear hfz17_4
  try clear hfz18_0
  try clear hfz18_1
  try clear hfz18_2
  try clear hfz18_3
  try clear hfz18_4
  try clear hfz7_0
  try clear hfz7_1
  try clear hfz7_2
  try clear hfz7_3
  try clear hfz7_4
  obtain ⟨kq, x55_4, rfl, HA, HJ4, BK173, HB⟩ := hcut
  cases kq with
  | zero => exact absurd HA.out (by simp [cartoucheref10_Holds.j0])
  | succ kj4 =>
   have H := HA.out
   clear HA
   simp only [cartoucheref10_Holds.j0] at H
   by_cases c19 : x55_4 = true
   · subst c19
     have H1 : (some false) = some r := by rw [if_pos rfl] at H; exact H
     clear H
     have H := H1
     clear H1
     obtain rfl := Option.some.inj H
     go_wp2
     repeat (go_quiet (fail); try go_wp2)
     go_ret
     exact ⟨by first | rfl | (simp [errW_none, errW_some] <;> rfl) | (simp [*, errW_none, errW_some] <;> rfl), by repeat (first | (with_reducible first | exact HB.out | apply below_alloc | apply pw_below_drewN | apply below_drew1 | refine below_set ?_ GE173.out) | exact HB.out)⟩
   · replace c19 := Bool.eq_false_iff.mpr c19
     subst c19
     have H1 : (if 0 ≤ a1_3 then (if a1_3 < (l0.length : Int) then (if 0 ≤ a1_4 then (if a1_4 < (l0.length : Int) then (if ((rd_T50 l0 a1_3).f2).toList = ((rd_T50 l0 a1_4).f2).toList then (if ((rd_T50 l0 a1_3).f1) = a1_1 then (cartoucheref10_Holds.j1 kj4 l0 t174 t175 (((rd_T50 l0 a1_4).f1) != a1_2) a1_0 a1_1 a1_2 a1_3 a1_4 ((rd_T50 l0 a1_3).f0) ((rd_T50 l0 a1_3).f1) ((rd_T50 l0 a1_3).f2) ((rd_T50 l0 a1_3).f3) ((rd_T50 l0 a1_4).f0) ((rd_T50 l0 a1_4).f1) ((rd_T50 l0 a1_4).f2) ((rd_T50 l0 a1_4).f3)) else (cartoucheref10_Holds.j1 kj4 l0 t174 t175 true a1_0 a1_1 a1_2 a1_3 a1_4 ((rd_T50 l0 a1_3).f0) ((rd_T50 l0 a1_3).f1) ((rd_T50 l0 a1_3).f2) ((rd_T50 l0 a1_3).f3) ((rd_T50 l0 a1_4).f0) ((rd_T50 l0 a1_4).f1) ((rd_T50 l0 a1_4).f2) ((rd_T50 l0 a1_4).f3))) else (cartoucheref10_Holds.j1 kj4 l0 t174 t175 true a1_0 a1_1 a1_2 a1_3 a1_4 ((rd_T50 l0 a1_3).f0) ((rd_T50 l0 a1_3).f1) ((rd_T50 l0 a1_3).f2) ((rd_T50 l0 a1_3).f3) ((rd_T50 l0 a1_4).f0) ((rd_T50 l0 a1_4).f1) ((rd_T50 l0 a1_4).f2) ((rd_T50 l0 a1_4).f3))) else (none)) else (none)) else (none)) else (none)) = some r := by rw [if_neg (show ¬ (false = true) by decide)] at H; exact H
     clear H
     have H := H1
     clear H1
     by_cases c20 : 0 ≤ a1_3
     · rw [if_pos c20] at H
       have c20b0 : decide (0 ≤ a1_3) = true := decide_eq_true c20
       clear c20
       by_cases c21 : a1_3 < (l0.length : Int)
       · rw [if_pos c21] at H
         have c21b0 : decide (a1_3 < (l0.length : Int)) = true := decide_eq_true c21
         clear c21
         by_cases c22 : 0 ≤ a1_4
         · rw [if_pos c22] at H
           have c22b0 : decide (0 ≤ a1_4) = true := decide_eq_true c22
           clear c22
           by_cases c23 : a1_4 < (l0.length : Int)
           · rw [if_pos c23] at H
             have c23b0 : decide (a1_4 < (l0.length : Int)) = true := decide_eq_true c23
             clear c23
             have HC24 := Aside0.mk H
             clear H
             have hcz25_0 : wc.cell? ⟨gb173, 0, none⟩ = some (.int .i64 a1_0) := (blk_cell BK173.out 0).trans rfl
             have hcz25_1 : wc.cell? ⟨gb173, 1, none⟩ = some (.int .i64 a1_1) := (blk_cell BK173.out 1).trans rfl
             have hcz25_2 : wc.cell? ⟨gb173, 2, none⟩ = some (.int .i64 a1_2) := (blk_cell BK173.out 2).trans rfl
             have hcz25_3 : wc.cell? ⟨gb173, 3, none⟩ = some (.int .i64 a1_3) := (blk_cell BK173.out 3).trans rfl
             have hcz25_4 : wc.cell? ⟨gb173, 4, none⟩ = some (.int .i64 a1_4) := (blk_cell BK173.out 4).trans rfl
             have hfz25_0 := blk_frozen BK173.out 0
             have hfz25_1 := blk_frozen BK173.out 1
             have hfz25_2 := blk_frozen BK173.out 2
             have hfz25_3 := blk_frozen BK173.out 3
             have hfz25_4 := blk_frozen BK173.out 4
             have p176 : 0 ≤ (a1_3 : Int) := of_decide_eq_true (by first | (with_reducible assumption) | assumption)
             have q176 : a1_3 < (l0.length : Int) := of_decide_eq_true (by first | (with_reducible assumption) | assumption)
             obtain ⟨ad176, e176, hx176_0, hx176_1, hx176_2, hx176_3⟩ := at_T50 HR0.out a1_3 p176 q176
             cases e176
             replace hx176_0 := (HB.out.cell (World.block_lt_of_cell? w _ hx176_0)).trans hx176_0
             replace hx176_1 := (HB.out.cell (World.block_lt_of_cell? w _ hx176_1)).trans hx176_1
             replace hx176_2 := (HB.out.cell (World.block_lt_of_cell? w _ hx176_2)).trans hx176_2
             replace hx176_3 := (HB.out.cell (World.block_lt_of_cell? w _ hx176_3)).trans hx176_3
             replace p176 := eq_true p176
             replace q176 := eq_true q176
             go_upto_region 7 with (first | ((with_reducible refine gate_dst (N := 7) rfl ?_); (try (refine gate_guard (by rfl) ?_; dsimp only)); refine box_event ?hg (N := 7) ?hd (cs := #[.int .i64 0, .int .i64 0, .string (⟨#[]⟩ : ByteArray), .string (⟨#[]⟩ : ByteArray)]) (t := 50) ?hr ?_; (case hd => rfl); (case hg => rfl); (case hr => first | (go_simp; done) | (go_simp; rfl)); intro gb177 hg w26 hbox hb; have n0_ := Aside0.mk (blk_below (g := gb173) (o := .cells #[.int .i64 a1_0, .int .i64 a1_1, .int .i64 a1_2, .int .i64 a1_3, .int .i64 a1_4] 24 (0, 0)) (by (with_reducible repeat (first | refine blk_drewN ?_ _ | refine blk_drew ?_ | refine blk_alloc ?_ _)); exact BK173.out) hb); have n1_ := Aside0.mk (below_step (by repeat (first | (with_reducible first | exact HB.out | apply below_alloc | apply pw_below_drewN | apply below_drew1 | refine below_set ?_ GE173.out) | exact HB.out)) hb); have n2_ := Aside0.mk (hbox); have n3_ := Aside0.mk ((by rw [hg]; exact (below_size (by repeat (first | (with_reducible first | exact HB.out | apply below_alloc | apply pw_below_drewN | apply below_drew1 | refine below_set ?_ GE173.out) | exact HB.out))) : w.heap.size ≤ gb177)); have n4_ := Aside0.mk ((by rw [hg]; exact (below_size (by repeat (first | (with_reducible first | exact HB.out | apply below_alloc | apply pw_below_drewN | apply below_drew1 | refine below_set ?_ GE173.out) | exact HB.out))) : w.heap.size ≤ gb177)); have n5_ := Aside0.mk ((by rw [hg]; exact Nat.ne_of_lt (blk_lt (g := gb173) (o := .cells #[.int .i64 a1_0, .int .i64 a1_1, .int .i64 a1_2, .int .i64 a1_3, .int .i64 a1_4] 24 (0, 0)) (by (with_reducible repeat (first | refine blk_drewN ?_ _ | refine blk_drew ?_ | refine blk_alloc ?_ _)); exact BK173.out)) : gb173 ≠ gb177)); have n6_ := Aside0.mk ((by rw [hg]; exact Nat.ne_of_gt (blk_lt (g := gb173) (o := .cells #[.int .i64 a1_0, .int .i64 a1_1, .int .i64 a1_2, .int .i64 a1_3, .int .i64 a1_4] 24 (0, 0)) (by (with_reducible repeat (first | refine blk_drewN ?_ _ | refine blk_drew ?_ | refine blk_alloc ?_ _)); exact BK173.out)) : gb177 ≠ gb173)); clear BK173; clear HB; have BK173 := n0_; have HB := n1_; have BK177 := n2_; have GW177 := n3_; have GE177 := n4_; have NB173_177 := n5_; have NB177_173 := n6_; clear n0_ n1_ n2_ n3_ n4_ n5_ n6_; clear hb hbox hg; have hnb27 := NB177_173.out; have hnc27 := NB173_177.out; have hcz28_0 : w26.cell? ⟨gb177, 0, none⟩ = some (.int .i64 0) := (blk_cell BK177.out 0).trans rfl; have hcz28_1 : w26.cell? ⟨gb177, 1, none⟩ = some (.int .i64 0) := (blk_cell BK177.out 1).trans rfl; have hcz28_2 : w26.cell? ⟨gb177, 2, none⟩ = some (.string (⟨#[]⟩ : ByteArray)) := (blk_cell BK177.out 2).trans rfl; have hcz28_3 : w26.cell? ⟨gb177, 3, none⟩ = some (.string (⟨#[]⟩ : ByteArray)) := (blk_cell BK177.out 3).trans rfl; have hfz28_0 := blk_frozen BK177.out 0; have hfz28_1 := blk_frozen BK177.out 1; have hfz28_2 := blk_frozen BK177.out 2; have hfz28_3 := blk_frozen BK177.out 3; have hcz29_0 : w26.cell? ⟨gb173, 0, none⟩ = some (.int .i64 a1_0) := (blk_cell BK173.out 0).trans rfl; have hcz29_1 : w26.cell? ⟨gb173, 1, none⟩ = some (.int .i64 a1_1) := (blk_cell BK173.out 1).trans rfl; have hcz29_2 : w26.cell? ⟨gb173, 2, none⟩ = some (.int .i64 a1_2) := (blk_cell BK173.out 2).trans rfl; have hcz29_3 : w26.cell? ⟨gb173, 3, none⟩ = some (.int .i64 a1_3) := (blk_cell BK173.out 3).trans rfl; have hcz29_4 : w26.cell? ⟨gb173, 4, none⟩ = some (.int .i64 a1_4) := (blk_cell BK173.out 4).trans rfl; have hfz29_0 := blk_frozen BK173.out 0; have hfz29_1 := blk_frozen BK173.out 1; have hfz29_2 := blk_frozen BK173.out 2; have hfz29_3 := blk_frozen BK173.out 3; have hfz29_4 := blk_frozen BK173.out 4; have p178 : 0 ≤ (a1_4 : Int) := of_decide_eq_true (by first | (with_reducible assumption) | assumption); have q178 : a1_4 < (l0.length : Int) := of_decide_eq_true (by first | (with_reducible assumption) | assumption); obtain ⟨ad178, e178, hx178_0, hx178_1, hx178_2, hx178_3⟩ := at_T50 HR0.out a1_4 p178 q178; obtain rfl : ad176 = ad178 := (by injection e178); have hn178_0 : ad176.block ≠ gb177 := Nat.ne_of_lt (Nat.lt_of_lt_of_le (by have := World.block_lt_of_cell? _ _ hx178_0; first | rwa [add_block] at this | exact this) GW177.out); have hn178_1 : ad176.block ≠ gb177 := Nat.ne_of_lt (Nat.lt_of_lt_of_le (by have := World.block_lt_of_cell? _ _ hx178_0; first | rwa [add_block] at this | exact this) GW177.out); have hn178_2 : ad176.block ≠ gb177 := Nat.ne_of_lt (Nat.lt_of_lt_of_le (by have := World.block_lt_of_cell? _ _ hx178_0; first | rwa [add_block] at this | exact this) GW177.out); have hn178_3 : ad176.block ≠ gb177 := Nat.ne_of_lt (Nat.lt_of_lt_of_le (by have := World.block_lt_of_cell? _ _ hx178_0; first | rwa [add_block] at this | exact this) GW177.out); replace hx178_0 := (HB.out.cell (World.block_lt_of_cell? w _ hx178_0)).trans hx178_0; replace hx178_1 := (HB.out.cell (World.block_lt_of_cell? w _ hx178_1)).trans hx178_1; replace hx178_2 := (HB.out.cell (World.block_lt_of_cell? w _ hx178_2)).trans hx178_2; replace hx178_3 := (HB.out.cell (World.block_lt_of_cell? w _ hx178_3)).trans hx178_3; replace hx178_0 := (cell_far (p := ⟨gb177, 0, none⟩) (by first | (rw [add_block]; exact hn178_0) | (show (Addr.add _ _).block ≠ _; rw [add_block]; exact hn178_0) | exact hn178_0) (.int .i64 ((rd_T50 l0 a1_3).f0))).trans hx178_0; replace hx178_1 := (cell_far (p := ⟨gb177, 0, none⟩) (by first | (rw [add_block]; exact hn178_0) | (show (Addr.add _ _).block ≠ _; rw [add_block]; exact hn178_0) | exact hn178_0) (.int .i64 ((rd_T50 l0 a1_3).f0))).trans hx178_1; replace hx178_2 := (cell_far (p := ⟨gb177, 0, none⟩) (by first | (rw [add_block]; exact hn178_0) | (show (Addr.add _ _).block ≠ _; rw [add_block]; exact hn178_0) | exact hn178_0) (.int .i64 ((rd_T50 l0 a1_3).f0))).trans hx178_2; replace hx178_3 := (cell_far (p := ⟨gb177, 0, none⟩) (by first | (rw [add_block]; exact hn178_0) | (show (Addr.add _ _).block ≠ _; rw [add_block]; exact hn178_0) | exact hn178_0) (.int .i64 ((rd_T50 l0 a1_3).f0))).trans hx178_3; replace hx178_0 := (cell_far (p := ⟨gb177, 1, none⟩) (by first | (rw [add_block]; exact hn178_1) | (show (Addr.add _ _).block ≠ _; rw [add_block]; exact hn178_1) | exact hn178_1) (.int .i64 ((rd_T50 l0 a1_3).f1))).trans hx178_0; replace hx178_1 := (cell_far (p := ⟨gb177, 1, none⟩) (by first | (rw [add_block]; exact hn178_1) | (show (Addr.add _ _).block ≠ _; rw [add_block]; exact hn178_1) | exact hn178_1) (.int .i64 ((rd_T50 l0 a1_3).f1))).trans hx178_1; replace hx178_2 := (cell_far (p := ⟨gb177, 1, none⟩) (by first | (rw [add_block]; exact hn178_1) | (show (Addr.add _ _).block ≠ _; rw [add_block]; exact hn178_1) | exact hn178_1) (.int .i64 ((rd_T50 l0 a1_3).f1))).trans hx178_2; replace hx178_3 := (cell_far (p := ⟨gb177, 1, none⟩) (by first | (rw [add_block]; exact hn178_1) | (show (Addr.add _ _).block ≠ _; rw [add_block]; exact hn178_1) | exact hn178_1) (.int .i64 ((rd_T50 l0 a1_3).f1))).trans hx178_3; replace hx178_0 := (cell_far (p := ⟨gb177, 2, none⟩) (by first | (rw [add_block]; exact hn178_2) | (show (Addr.add _ _).block ≠ _; rw [add_block]; exact hn178_2) | exact hn178_2) (.string ((rd_T50 l0 a1_3).f2))).trans hx178_0; replace hx178_1 := (cell_far (p := ⟨gb177, 2, none⟩) (by first | (rw [add_block]; exact hn178_2) | (show (Addr.add _ _).block ≠ _; rw [add_block]; exact hn178_2) | exact hn178_2) (.string ((rd_T50 l0 a1_3).f2))).trans hx178_1; replace hx178_2 := (cell_far (p := ⟨gb177, 2, none⟩) (by first | (rw [add_block]; exact hn178_2) | (show (Addr.add _ _).block ≠ _; rw [add_block]; exact hn178_2) | exact hn178_2) (.string ((rd_T50 l0 a1_3).f2))).trans hx178_2; replace hx178_3 := (cell_far (p := ⟨gb177, 2, none⟩) (by first | (rw [add_block]; exact hn178_2) | (show (Addr.add _ _).block ≠ _; rw [add_block]; exact hn178_2) | exact hn178_2) (.string ((rd_T50 l0 a1_3).f2))).trans hx178_3; replace hx178_0 := (cell_far (p := ⟨gb177, 3, none⟩) (by first | (rw [add_block]; exact hn178_3) | (show (Addr.add _ _).block ≠ _; rw [add_block]; exact hn178_3) | exact hn178_3) (.string ((rd_T50 l0 a1_3).f3))).trans hx178_0; replace hx178_1 := (cell_far (p := ⟨gb177, 3, none⟩) (by first | (rw [add_block]; exact hn178_3) | (show (Addr.add _ _).block ≠ _; rw [add_block]; exact hn178_3) | exact hn178_3) (.string ((rd_T50 l0 a1_3).f3))).trans hx178_1; replace hx178_2 := (cell_far (p := ⟨gb177, 3, none⟩) (by first | (rw [add_block]; exact hn178_3) | (show (Addr.add _ _).block ≠ _; rw [add_block]; exact hn178_3) | exact hn178_3) (.string ((rd_T50 l0 a1_3).f3))).trans hx178_2; replace hx178_3 := (cell_far (p := ⟨gb177, 3, none⟩) (by first | (rw [add_block]; exact hn178_3) | (show (Addr.add _ _).block ≠ _; rw [add_block]; exact hn178_3) | exact hn178_3) (.string ((rd_T50 l0 a1_3).f3))).trans hx178_3; (try have hy178_0 := fun (n_ : Nat) => (show ((((((w26.drewN n_).setCell ⟨gb177, 0, none⟩ (.int .i64 ((rd_T50 l0 a1_3).f0))).setCell ⟨gb177, 1, none⟩ (.int .i64 ((rd_T50 l0 a1_3).f1))).setCell ⟨gb177, 2, none⟩ (.string ((rd_T50 l0 a1_3).f2))).setCell ⟨gb177, 3, none⟩ (.string ((rd_T50 l0 a1_3).f3)))).cell? _ = some _ from hx178_0)); (try have hy178_1 := fun (n_ : Nat) => (show ((((((w26.drewN n_).setCell ⟨gb177, 0, none⟩ (.int .i64 ((rd_T50 l0 a1_3).f0))).setCell ⟨gb177, 1, none⟩ (.int .i64 ((rd_T50 l0 a1_3).f1))).setCell ⟨gb177, 2, none⟩ (.string ((rd_T50 l0 a1_3).f2))).setCell ⟨gb177, 3, none⟩ (.string ((rd_T50 l0 a1_3).f3)))).cell? _ = some _ from hx178_1)); (try have hy178_2 := fun (n_ : Nat) => (show ((((((w26.drewN n_).setCell ⟨gb177, 0, none⟩ (.int .i64 ((rd_T50 l0 a1_3).f0))).setCell ⟨gb177, 1, none⟩ (.int .i64 ((rd_T50 l0 a1_3).f1))).setCell ⟨gb177, 2, none⟩ (.string ((rd_T50 l0 a1_3).f2))).setCell ⟨gb177, 3, none⟩ (.string ((rd_T50 l0 a1_3).f3)))).cell? _ = some _ from hx178_2)); (try have hy178_3 := fun (n_ : Nat) => (show ((((((w26.drewN n_).setCell ⟨gb177, 0, none⟩ (.int .i64 ((rd_T50 l0 a1_3).f0))).setCell ⟨gb177, 1, none⟩ (.int .i64 ((rd_T50 l0 a1_3).f1))).setCell ⟨gb177, 2, none⟩ (.string ((rd_T50 l0 a1_3).f2))).setCell ⟨gb177, 3, none⟩ (.string ((rd_T50 l0 a1_3).f3)))).cell? _ = some _ from hx178_3)); clear hn178_0; clear hn178_1; clear hn178_2; clear hn178_3; replace p178 := eq_true p178; replace q178 := eq_true q178) | ((with_reducible refine gate_dst (N := 8) rfl ?_); (try (refine gate_guard (by rfl) ?_; dsimp only)); refine box_event ?hg (N := 8) ?hd (cs := #[.int .i64 0, .int .i64 0, .string (⟨#[]⟩ : ByteArray), .string (⟨#[]⟩ : ByteArray)]) (t := 50) ?hr ?_; (case hd => rfl); (case hg => rfl); (case hr => first | (go_simp; done) | (go_simp; rfl)); intro gb179 hg w30 hbox hb; have n0_ := Aside0.mk (blk_below (g := gb173) (o := .cells #[.int .i64 a1_0, .int .i64 a1_1, .int .i64 a1_2, .int .i64 a1_3, .int .i64 a1_4] 24 (0, 0)) (by (with_reducible repeat (first | refine blk_drewN ?_ _ | refine blk_drew ?_ | refine blk_alloc ?_ _)); refine blk_far ?_ NB173_177.out _; (with_reducible repeat (first | refine blk_drewN ?_ _ | refine blk_drew ?_ | refine blk_alloc ?_ _)); refine blk_far ?_ NB173_177.out _; (with_reducible repeat (first | refine blk_drewN ?_ _ | refine blk_drew ?_ | refine blk_alloc ?_ _)); refine blk_far ?_ NB173_177.out _; (with_reducible repeat (first | refine blk_drewN ?_ _ | refine blk_drew ?_ | refine blk_alloc ?_ _)); refine blk_far ?_ NB173_177.out _; (with_reducible repeat (first | refine blk_drewN ?_ _ | refine blk_drew ?_ | refine blk_alloc ?_ _)); exact BK173.out) hb); have n1_ := Aside0.mk (blk_below (g := gb177) (o := .cells #[.int .i64 ((rd_T50 l0 a1_3).f0), .int .i64 ((rd_T50 l0 a1_3).f1), .string ((rd_T50 l0 a1_3).f2), .string ((rd_T50 l0 a1_3).f3)] 50 (0, 0)) (by (with_reducible repeat (first | refine blk_drewN ?_ _ | refine blk_drew ?_ | refine blk_alloc ?_ _)); refine blk_put (cs := #[.int .i64 ((rd_T50 l0 a1_3).f0), .int .i64 ((rd_T50 l0 a1_3).f1), .string ((rd_T50 l0 a1_3).f2), .string (⟨#[]⟩ : ByteArray)]) ?_ 3 _ rfl; (with_reducible repeat (first | refine blk_drewN ?_ _ | refine blk_drew ?_ | refine blk_alloc ?_ _)); refine blk_put (cs := #[.int .i64 ((rd_T50 l0 a1_3).f0), .int .i64 ((rd_T50 l0 a1_3).f1), .string (⟨#[]⟩ : ByteArray), .string (⟨#[]⟩ : ByteArray)]) ?_ 2 _ rfl; (with_reducible repeat (first | refine blk_drewN ?_ _ | refine blk_drew ?_ | refine blk_alloc ?_ _)); refine blk_put (cs := #[.int .i64 ((rd_T50 l0 a1_3).f0), .int .i64 0, .string (⟨#[]⟩ : ByteArray), .string (⟨#[]⟩ : ByteArray)]) ?_ 1 _ rfl; (with_reducible repeat (first | refine blk_drewN ?_ _ | refine blk_drew ?_ | refine blk_alloc ?_ _)); refine blk_put (cs := #[.int .i64 0, .int .i64 0, .string (⟨#[]⟩ : ByteArray), .string (⟨#[]⟩ : ByteArray)]) ?_ 0 _ rfl; (with_reducible repeat (first | refine blk_drewN ?_ _ | refine blk_drew ?_ | refine blk_alloc ?_ _)); exact BK177.out) hb); have n2_ := Aside0.mk (below_step (by repeat (first | (with_reducible first | exact HB.out | apply below_alloc | apply pw_below_drewN | apply below_drew1 | refine below_set ?_ GE173.out | refine below_set ?_ GE177.out) | exact HB.out)) hb); have n3_ := Aside0.mk (hbox); have n4_ := Aside0.mk ((by rw [hg]; exact (below_size (by repeat (first | (with_reducible first | exact HB.out | apply below_alloc | apply pw_below_drewN | apply below_drew1 | refine below_set ?_ GE173.out | refine below_set ?_ GE177.out) | exact HB.out))) : w.heap.size ≤ gb179)); have n5_ := Aside0.mk ((by rw [hg]; exact (below_size (by repeat (first | (with_reducible first | exact HB.out | apply below_alloc | apply pw_below_drewN | apply below_drew1 | refine below_set ?_ GE173.out | refine below_set ?_ GE177.out) | exact HB.out))) : w.heap.size ≤ gb179)); have n6_ := Aside0.mk ((by rw [hg]; exact Nat.ne_of_lt (blk_lt (g := gb173) (o := .cells #[.int .i64 a1_0, .int .i64 a1_1, .int .i64 a1_2, .int .i64 a1_3, .int .i64 a1_4] 24 (0, 0)) (by (with_reducible repeat (first | refine blk_drewN ?_ _ | refine blk_drew ?_ | refine blk_alloc ?_ _)); refine blk_far ?_ NB173_177.out _; (with_reducible repeat (first | refine blk_drewN ?_ _ | refine blk_drew ?_ | refine blk_alloc ?_ _)); refine blk_far ?_ NB173_177.out _; (with_reducible repeat (first | refine blk_drewN ?_ _ | refine blk_drew ?_ | refine blk_alloc ?_ _)); refine blk_far ?_ NB173_177.out _; (with_reducible repeat (first | refine blk_drewN ?_ _ | refine blk_drew ?_ | refine blk_alloc ?_ _)); refine blk_far ?_ NB173_177.out _; (with_reducible repeat (first | refine blk_drewN ?_ _ | refine blk_drew ?_ | refine blk_alloc ?_ _)); exact BK173.out)) : gb173 ≠ gb179)); have n7_ := Aside0.mk ((by rw [hg]; exact Nat.ne_of_gt (blk_lt (g := gb173) (o := .cells #[.int .i64 a1_0, .int .i64 a1_1, .int .i64 a1_2, .int .i64 a1_3, .int .i64 a1_4] 24 (0, 0)) (by (with_reducible repeat (first | refine blk_drewN ?_ _ | refine blk_drew ?_ | refine blk_alloc ?_ _)); refine blk_far ?_ NB173_177.out _; (with_reducible repeat (first | refine blk_drewN ?_ _ | refine blk_drew ?_ | refine blk_alloc ?_ _)); refine blk_far ?_ NB173_177.out _; (with_reducible repeat (first | refine blk_drewN ?_ _ | refine blk_drew ?_ | refine blk_alloc ?_ _)); refine blk_far ?_ NB173_177.out _; (with_reducible repeat (first | refine blk_drewN ?_ _ | refine blk_drew ?_ | refine blk_alloc ?_ _)); refine blk_far ?_ NB173_177.out _; (with_reducible repeat (first | refine blk_drewN ?_ _ | refine blk_drew ?_ | refine blk_alloc ?_ _)); exact BK173.out)) : gb179 ≠ gb173)); have n8_ := Aside0.mk ((by rw [hg]; exact Nat.ne_of_lt (blk_lt (g := gb177) (o := .cells #[.int .i64 ((rd_T50 l0 a1_3).f0), .int .i64 ((rd_T50 l0 a1_3).f1), .string ((rd_T50 l0 a1_3).f2), .string ((rd_T50 l0 a1_3).f3)] 50 (0, 0)) (by (with_reducible repeat (first | refine blk_drewN ?_ _ | refine blk_drew ?_ | refine blk_alloc ?_ _)); refine blk_put (cs := #[.int .i64 ((rd_T50 l0 a1_3).f0), .int .i64 ((rd_T50 l0 a1_3).f1), .string ((rd_T50 l0 a1_3).f2), .string (⟨#[]⟩ : ByteArray)]) ?_ 3 _ rfl; (with_reducible repeat (first | refine blk_drewN ?_ _ | refine blk_drew ?_ | refine blk_alloc ?_ _)); refine blk_put (cs := #[.int .i64 ((rd_T50 l0 a1_3).f0), .int .i64 ((rd_T50 l0 a1_3).f1), .string (⟨#[]⟩ : ByteArray), .string (⟨#[]⟩ : ByteArray)]) ?_ 2 _ rfl; (with_reducible repeat (first | refine blk_drewN ?_ _ | refine blk_drew ?_ | refine blk_alloc ?_ _)); refine blk_put (cs := #[.int .i64 ((rd_T50 l0 a1_3).f0), .int .i64 0, .string (⟨#[]⟩ : ByteArray), .string (⟨#[]⟩ : ByteArray)]) ?_ 1 _ rfl; (with_reducible repeat (first | refine blk_drewN ?_ _ | refine blk_drew ?_ | refine blk_alloc ?_ _)); refine blk_put (cs := #[.int .i64 0, .int .i64 0, .string (⟨#[]⟩ : ByteArray), .string (⟨#[]⟩ : ByteArray)]) ?_ 0 _ rfl; (with_reducible repeat (first | refine blk_drewN ?_ _ | refine blk_drew ?_ | refine blk_alloc ?_ _)); exact BK177.out)) : gb177 ≠ gb179)); have n9_ := Aside0.mk ((by rw [hg]; exact Nat.ne_of_gt (blk_lt (g := gb177) (o := .cells #[.int .i64 ((rd_T50 l0 a1_3).f0), .int .i64 ((rd_T50 l0 a1_3).f1), .string ((rd_T50 l0 a1_3).f2), .string ((rd_T50 l0 a1_3).f3)] 50 (0, 0)) (by (with_reducible repeat (first | refine blk_drewN ?_ _ | refine blk_drew ?_ | refine blk_alloc ?_ _)); refine blk_put (cs := #[.int .i64 ((rd_T50 l0 a1_3).f0), .int .i64 ((rd_T50 l0 a1_3).f1), .string ((rd_T50 l0 a1_3).f2), .string (⟨#[]⟩ : ByteArray)]) ?_ 3 _ rfl; (with_reducible repeat (first | refine blk_drewN ?_ _ | refine blk_drew ?_ | refine blk_alloc ?_ _)); refine blk_put (cs := #[.int .i64 ((rd_T50 l0 a1_3).f0), .int .i64 ((rd_T50 l0 a1_3).f1), .string (⟨#[]⟩ : ByteArray), .string (⟨#[]⟩ : ByteArray)]) ?_ 2 _ rfl; (with_reducible repeat (first | refine blk_drewN ?_ _ | refine blk_drew ?_ | refine blk_alloc ?_ _)); refine blk_put (cs := #[.int .i64 ((rd_T50 l0 a1_3).f0), .int .i64 0, .string (⟨#[]⟩ : ByteArray), .string (⟨#[]⟩ : ByteArray)]) ?_ 1 _ rfl; (with_reducible repeat (first | refine blk_drewN ?_ _ | refine blk_drew ?_ | refine blk_alloc ?_ _)); refine blk_put (cs := #[.int .i64 0, .int .i64 0, .string (⟨#[]⟩ : ByteArray), .string (⟨#[]⟩ : ByteArray)]) ?_ 0 _ rfl; (with_reducible repeat (first | refine blk_drewN ?_ _ | refine blk_drew ?_ | refine blk_alloc ?_ _)); exact BK177.out)) : gb179 ≠ gb177)); clear BK173; clear BK177; clear HB; have BK173 := n0_; have BK177 := n1_; have HB := n2_; have BK179 := n3_; have GW179 := n4_; have GE179 := n5_; have NB173_179 := n6_; have NB179_173 := n7_; have NB177_179 := n8_; have NB179_177 := n9_; clear n0_ n1_ n2_ n3_ n4_ n5_ n6_ n7_ n8_ n9_; clear hb hbox hg; have hnb31 := NB179_173.out; have hnc31 := NB173_179.out; have hnb32 := NB179_177.out; have hnc32 := NB177_179.out; have hcz33_0 : w30.cell? ⟨gb179, 0, none⟩ = some (.int .i64 0) := (blk_cell BK179.out 0).trans rfl; have hcz33_1 : w30.cell? ⟨gb179, 1, none⟩ = some (.int .i64 0) := (blk_cell BK179.out 1).trans rfl; have hcz33_2 : w30.cell? ⟨gb179, 2, none⟩ = some (.string (⟨#[]⟩ : ByteArray)) := (blk_cell BK179.out 2).trans rfl; have hcz33_3 : w30.cell? ⟨gb179, 3, none⟩ = some (.string (⟨#[]⟩ : ByteArray)) := (blk_cell BK179.out 3).trans rfl; have hfz33_0 := blk_frozen BK179.out 0; have hfz33_1 := blk_frozen BK179.out 1; have hfz33_2 := blk_frozen BK179.out 2; have hfz33_3 := blk_frozen BK179.out 3))
             repeat (go_quiet (first | ((with_reducible refine gate_dst (N := 7) rfl ?_); (try (refine gate_guard (by rfl) ?_; dsimp only)); refine box_event ?hg (N := 7) ?hd (cs := #[.int .i64 0, .int .i64 0, .string (⟨#[]⟩ : ByteArray), .string (⟨#[]⟩ : ByteArray)]) (t := 50) ?hr ?_; (case hd => rfl); (case hg => rfl); (case hr => first | (go_simp; done) | (go_simp; rfl)); intro gb177 hg w26 hbox hb; have n0_ := Aside0.mk (blk_below (g := gb173) (o := .cells #[.int .i64 a1_0, .int .i64 a1_1, .int .i64 a1_2, .int .i64 a1_3, .int .i64 a1_4] 24 (0, 0)) (by (with_reducible repeat (first | refine blk_drewN ?_ _ | refine blk_drew ?_ | refine blk_alloc ?_ _)); exact BK173.out) hb); have n1_ := Aside0.mk (below_step (by repeat (first | (with_reducible first | exact HB.out | apply below_alloc | apply pw_below_drewN | apply below_drew1 | refine below_set ?_ GE173.out) | exact HB.out)) hb); have n2_ := Aside0.mk (hbox); have n3_ := Aside0.mk ((by rw [hg]; exact (below_size (by repeat (first | (with_reducible first | exact HB.out | apply below_alloc | apply pw_below_drewN | apply below_drew1 | refine below_set ?_ GE173.out) | exact HB.out))) : w.heap.size ≤ gb177)); have n4_ := Aside0.mk ((by rw [hg]; exact (below_size (by repeat (first | (with_reducible first | exact HB.out | apply below_alloc | apply pw_below_drewN | apply below_drew1 | refine below_set ?_ GE173.out) | exact HB.out))) : w.heap.size ≤ gb177)); have n5_ := Aside0.mk ((by rw [hg]; exact Nat.ne_of_lt (blk_lt (g := gb173) (o := .cells #[.int .i64 a1_0, .int .i64 a1_1, .int .i64 a1_2, .int .i64 a1_3, .int .i64 a1_4] 24 (0, 0)) (by (with_reducible repeat (first | refine blk_drewN ?_ _ | refine blk_drew ?_ | refine blk_alloc ?_ _)); exact BK173.out)) : gb173 ≠ gb177)); have n6_ := Aside0.mk ((by rw [hg]; exact Nat.ne_of_gt (blk_lt (g := gb173) (o := .cells #[.int .i64 a1_0, .int .i64 a1_1, .int .i64 a1_2, .int .i64 a1_3, .int .i64 a1_4] 24 (0, 0)) (by (with_reducible repeat (first | refine blk_drewN ?_ _ | refine blk_drew ?_ | refine blk_alloc ?_ _)); exact BK173.out)) : gb177 ≠ gb173)); clear BK173; clear HB; have BK173 := n0_; have HB := n1_; have BK177 := n2_; have GW177 := n3_; have GE177 := n4_; have NB173_177 := n5_; have NB177_173 := n6_; clear n0_ n1_ n2_ n3_ n4_ n5_ n6_; clear hb hbox hg; have hnb27 := NB177_173.out; have hnc27 := NB173_177.out; have hcz28_0 : w26.cell? ⟨gb177, 0, none⟩ = some (.int .i64 0) := (blk_cell BK177.out 0).trans rfl; have hcz28_1 : w26.cell? ⟨gb177, 1, none⟩ = some (.int .i64 0) := (blk_cell BK177.out 1).trans rfl; have hcz28_2 : w26.cell? ⟨gb177, 2, none⟩ = some (.string (⟨#[]⟩ : ByteArray)) := (blk_cell BK177.out 2).trans rfl; have hcz28_3 : w26.cell? ⟨gb177, 3, none⟩ = some (.string (⟨#[]⟩ : ByteArray)) := (blk_cell BK177.out 3).trans rfl; have hfz28_0 := blk_frozen BK177.out 0; have hfz28_1 := blk_frozen BK177.out 1; have hfz28_2 := blk_frozen BK177.out 2; have hfz28_3 := blk_frozen BK177.out 3; have hcz29_0 : w26.cell? ⟨gb173, 0, none⟩ = some (.int .i64 a1_0) := (blk_cell BK173.out 0).trans rfl; have hcz29_1 : w26.cell? ⟨gb173, 1, none⟩ = some (.int .i64 a1_1) := (blk_cell BK173.out 1).trans rfl; have hcz29_2 : w26.cell? ⟨gb173, 2, none⟩ = some (.int .i64 a1_2) := (blk_cell BK173.out 2).trans rfl; have hcz29_3 : w26.cell? ⟨gb173, 3, none⟩ = some (.int .i64 a1_3) := (blk_cell BK173.out 3).trans rfl; have hcz29_4 : w26.cell? ⟨gb173, 4, none⟩ = some (.int .i64 a1_4) := (blk_cell BK173.out 4).trans rfl; have hfz29_0 := blk_frozen BK173.out 0; have hfz29_1 := blk_frozen BK173.out 1; have hfz29_2 := blk_frozen BK173.out 2; have hfz29_3 := blk_frozen BK173.out 3; have hfz29_4 := blk_frozen BK173.out 4; have p178 : 0 ≤ (a1_4 : Int) := of_decide_eq_true (by first | (with_reducible assumption) | assumption); have q178 : a1_4 < (l0.length : Int) := of_decide_eq_true (by first | (with_reducible assumption) | assumption); obtain ⟨ad178, e178, hx178_0, hx178_1, hx178_2, hx178_3⟩ := at_T50 HR0.out a1_4 p178 q178; obtain rfl : ad176 = ad178 := (by injection e178); have hn178_0 : ad176.block ≠ gb177 := Nat.ne_of_lt (Nat.lt_of_lt_of_le (by have := World.block_lt_of_cell? _ _ hx178_0; first | rwa [add_block] at this | exact this) GW177.out); have hn178_1 : ad176.block ≠ gb177 := Nat.ne_of_lt (Nat.lt_of_lt_of_le (by have := World.block_lt_of_cell? _ _ hx178_0; first | rwa [add_block] at this | exact this) GW177.out); have hn178_2 : ad176.block ≠ gb177 := Nat.ne_of_lt (Nat.lt_of_lt_of_le (by have := World.block_lt_of_cell? _ _ hx178_0; first | rwa [add_block] at this | exact this) GW177.out); have hn178_3 : ad176.block ≠ gb177 := Nat.ne_of_lt (Nat.lt_of_lt_of_le (by have := World.block_lt_of_cell? _ _ hx178_0; first | rwa [add_block] at this | exact this) GW177.out); replace hx178_0 := (HB.out.cell (World.block_lt_of_cell? w _ hx178_0)).trans hx178_0; replace hx178_1 := (HB.out.cell (World.block_lt_of_cell? w _ hx178_1)).trans hx178_1; replace hx178_2 := (HB.out.cell (World.block_lt_of_cell? w _ hx178_2)).trans hx178_2; replace hx178_3 := (HB.out.cell (World.block_lt_of_cell? w _ hx178_3)).trans hx178_3; replace hx178_0 := (cell_far (p := ⟨gb177, 0, none⟩) (by first | (rw [add_block]; exact hn178_0) | (show (Addr.add _ _).block ≠ _; rw [add_block]; exact hn178_0) | exact hn178_0) (.int .i64 ((rd_T50 l0 a1_3).f0))).trans hx178_0; replace hx178_1 := (cell_far (p := ⟨gb177, 0, none⟩) (by first | (rw [add_block]; exact hn178_0) | (show (Addr.add _ _).block ≠ _; rw [add_block]; exact hn178_0) | exact hn178_0) (.int .i64 ((rd_T50 l0 a1_3).f0))).trans hx178_1; replace hx178_2 := (cell_far (p := ⟨gb177, 0, none⟩) (by first | (rw [add_block]; exact hn178_0) | (show (Addr.add _ _).block ≠ _; rw [add_block]; exact hn178_0) | exact hn178_0) (.int .i64 ((rd_T50 l0 a1_3).f0))).trans hx178_2; replace hx178_3 := (cell_far (p := ⟨gb177, 0, none⟩) (by first | (rw [add_block]; exact hn178_0) | (show (Addr.add _ _).block ≠ _; rw [add_block]; exact hn178_0) | exact hn178_0) (.int .i64 ((rd_T50 l0 a1_3).f0))).trans hx178_3; replace hx178_0 := (cell_far (p := ⟨gb177, 1, none⟩) (by first | (rw [add_block]; exact hn178_1) | (show (Addr.add _ _).block ≠ _; rw [add_block]; exact hn178_1) | exact hn178_1) (.int .i64 ((rd_T50 l0 a1_3).f1))).trans hx178_0; replace hx178_1 := (cell_far (p := ⟨gb177, 1, none⟩) (by first | (rw [add_block]; exact hn178_1) | (show (Addr.add _ _).block ≠ _; rw [add_block]; exact hn178_1) | exact hn178_1) (.int .i64 ((rd_T50 l0 a1_3).f1))).trans hx178_1; replace hx178_2 := (cell_far (p := ⟨gb177, 1, none⟩) (by first | (rw [add_block]; exact hn178_1) | (show (Addr.add _ _).block ≠ _; rw [add_block]; exact hn178_1) | exact hn178_1) (.int .i64 ((rd_T50 l0 a1_3).f1))).trans hx178_2; replace hx178_3 := (cell_far (p := ⟨gb177, 1, none⟩) (by first | (rw [add_block]; exact hn178_1) | (show (Addr.add _ _).block ≠ _; rw [add_block]; exact hn178_1) | exact hn178_1) (.int .i64 ((rd_T50 l0 a1_3).f1))).trans hx178_3; replace hx178_0 := (cell_far (p := ⟨gb177, 2, none⟩) (by first | (rw [add_block]; exact hn178_2) | (show (Addr.add _ _).block ≠ _; rw [add_block]; exact hn178_2) | exact hn178_2) (.string ((rd_T50 l0 a1_3).f2))).trans hx178_0; replace hx178_1 := (cell_far (p := ⟨gb177, 2, none⟩) (by first | (rw [add_block]; exact hn178_2) | (show (Addr.add _ _).block ≠ _; rw [add_block]; exact hn178_2) | exact hn178_2) (.string ((rd_T50 l0 a1_3).f2))).trans hx178_1; replace hx178_2 := (cell_far (p := ⟨gb177, 2, none⟩) (by first | (rw [add_block]; exact hn178_2) | (show (Addr.add _ _).block ≠ _; rw [add_block]; exact hn178_2) | exact hn178_2) (.string ((rd_T50 l0 a1_3).f2))).trans hx178_2; replace hx178_3 := (cell_far (p := ⟨gb177, 2, none⟩) (by first | (rw [add_block]; exact hn178_2) | (show (Addr.add _ _).block ≠ _; rw [add_block]; exact hn178_2) | exact hn178_2) (.string ((rd_T50 l0 a1_3).f2))).trans hx178_3; replace hx178_0 := (cell_far (p := ⟨gb177, 3, none⟩) (by first | (rw [add_block]; exact hn178_3) | (show (Addr.add _ _).block ≠ _; rw [add_block]; exact hn178_3) | exact hn178_3) (.string ((rd_T50 l0 a1_3).f3))).trans hx178_0; replace hx178_1 := (cell_far (p := ⟨gb177, 3, none⟩) (by first | (rw [add_block]; exact hn178_3) | (show (Addr.add _ _).block ≠ _; rw [add_block]; exact hn178_3) | exact hn178_3) (.string ((rd_T50 l0 a1_3).f3))).trans hx178_1; replace hx178_2 := (cell_far (p := ⟨gb177, 3, none⟩) (by first | (rw [add_block]; exact hn178_3) | (show (Addr.add _ _).block ≠ _; rw [add_block]; exact hn178_3) | exact hn178_3) (.string ((rd_T50 l0 a1_3).f3))).trans hx178_2; replace hx178_3 := (cell_far (p := ⟨gb177, 3, none⟩) (by first | (rw [add_block]; exact hn178_3) | (show (Addr.add _ _).block ≠ _; rw [add_block]; exact hn178_3) | exact hn178_3) (.string ((rd_T50 l0 a1_3).f3))).trans hx178_3; (try have hy178_0 := fun (n_ : Nat) => (show ((((((w26.drewN n_).setCell ⟨gb177, 0, none⟩ (.int .i64 ((rd_T50 l0 a1_3).f0))).setCell ⟨gb177, 1, none⟩ (.int .i64 ((rd_T50 l0 a1_3).f1))).setCell ⟨gb177, 2, none⟩ (.string ((rd_T50 l0 a1_3).f2))).setCell ⟨gb177, 3, none⟩ (.string ((rd_T50 l0 a1_3).f3)))).cell? _ = some _ from hx178_0)); (try have hy178_1 := fun (n_ : Nat) => (show ((((((w26.drewN n_).setCell ⟨gb177, 0, none⟩ (.int .i64 ((rd_T50 l0 a1_3).f0))).setCell ⟨gb177, 1, none⟩ (.int .i64 ((rd_T50 l0 a1_3).f1))).setCell ⟨gb177, 2, none⟩ (.string ((rd_T50 l0 a1_3).f2))).setCell ⟨gb177, 3, none⟩ (.string ((rd_T50 l0 a1_3).f3)))).cell? _ = some _ from hx178_1)); (try have hy178_2 := fun (n_ : Nat) => (show ((((((w26.drewN n_).setCell ⟨gb177, 0, none⟩ (.int .i64 ((rd_T50 l0 a1_3).f0))).setCell ⟨gb177, 1, none⟩ (.int .i64 ((rd_T50 l0 a1_3).f1))).setCell ⟨gb177, 2, none⟩ (.string ((rd_T50 l0 a1_3).f2))).setCell ⟨gb177, 3, none⟩ (.string ((rd_T50 l0 a1_3).f3)))).cell? _ = some _ from hx178_2)); (try have hy178_3 := fun (n_ : Nat) => (show ((((((w26.drewN n_).setCell ⟨gb177, 0, none⟩ (.int .i64 ((rd_T50 l0 a1_3).f0))).setCell ⟨gb177, 1, none⟩ (.int .i64 ((rd_T50 l0 a1_3).f1))).setCell ⟨gb177, 2, none⟩ (.string ((rd_T50 l0 a1_3).f2))).setCell ⟨gb177, 3, none⟩ (.string ((rd_T50 l0 a1_3).f3)))).cell? _ = some _ from hx178_3)); clear hn178_0; clear hn178_1; clear hn178_2; clear hn178_3; replace p178 := eq_true p178; replace q178 := eq_true q178) | ((with_reducible refine gate_dst (N := 8) rfl ?_); (try (refine gate_guard (by rfl) ?_; dsimp only)); refine box_event ?hg (N := 8) ?hd (cs := #[.int .i64 0, .int .i64 0, .string (⟨#[]⟩ : ByteArray), .string (⟨#[]⟩ : ByteArray)]) (t := 50) ?hr ?_; (case hd => rfl); (case hg => rfl); (case hr => first | (go_simp; done) | (go_simp; rfl)); intro gb179 hg w30 hbox hb; have n0_ := Aside0.mk (blk_below (g := gb173) (o := .cells #[.int .i64 a1_0, .int .i64 a1_1, .int .i64 a1_2, .int .i64 a1_3, .int .i64 a1_4] 24 (0, 0)) (by (with_reducible repeat (first | refine blk_drewN ?_ _ | refine blk_drew ?_ | refine blk_alloc ?_ _)); refine blk_far ?_ NB173_177.out _; (with_reducible repeat (first | refine blk_drewN ?_ _ | refine blk_drew ?_ | refine blk_alloc ?_ _)); refine blk_far ?_ NB173_177.out _; (with_reducible repeat (first | refine blk_drewN ?_ _ | refine blk_drew ?_ | refine blk_alloc ?_ _)); refine blk_far ?_ NB173_177.out _; (with_reducible repeat (first | refine blk_drewN ?_ _ | refine blk_drew ?_ | refine blk_alloc ?_ _)); refine blk_far ?_ NB173_177.out _; (with_reducible repeat (first | refine blk_drewN ?_ _ | refine blk_drew ?_ | refine blk_alloc ?_ _)); exact BK173.out) hb); have n1_ := Aside0.mk (blk_below (g := gb177) (o := .cells #[.int .i64 ((rd_T50 l0 a1_3).f0), .int .i64 ((rd_T50 l0 a1_3).f1), .string ((rd_T50 l0 a1_3).f2), .string ((rd_T50 l0 a1_3).f3)] 50 (0, 0)) (by (with_reducible repeat (first | refine blk_drewN ?_ _ | refine blk_drew ?_ | refine blk_alloc ?_ _)); refine blk_put (cs := #[.int .i64 ((rd_T50 l0 a1_3).f0), .int .i64 ((rd_T50 l0 a1_3).f1), .string ((rd_T50 l0 a1_3).f2), .string (⟨#[]⟩ : ByteArray)]) ?_ 3 _ rfl; (with_reducible repeat (first | refine blk_drewN ?_ _ | refine blk_drew ?_ | refine blk_alloc ?_ _)); refine blk_put (cs := #[.int .i64 ((rd_T50 l0 a1_3).f0), .int .i64 ((rd_T50 l0 a1_3).f1), .string (⟨#[]⟩ : ByteArray), .string (⟨#[]⟩ : ByteArray)]) ?_ 2 _ rfl; (with_reducible repeat (first | refine blk_drewN ?_ _ | refine blk_drew ?_ | refine blk_alloc ?_ _)); refine blk_put (cs := #[.int .i64 ((rd_T50 l0 a1_3).f0), .int .i64 0, .string (⟨#[]⟩ : ByteArray), .string (⟨#[]⟩ : ByteArray)]) ?_ 1 _ rfl; (with_reducible repeat (first | refine blk_drewN ?_ _ | refine blk_drew ?_ | refine blk_alloc ?_ _)); refine blk_put (cs := #[.int .i64 0, .int .i64 0, .string (⟨#[]⟩ : ByteArray), .string (⟨#[]⟩ : ByteArray)]) ?_ 0 _ rfl; (with_reducible repeat (first | refine blk_drewN ?_ _ | refine blk_drew ?_ | refine blk_alloc ?_ _)); exact BK177.out) hb); have n2_ := Aside0.mk (below_step (by repeat (first | (with_reducible first | exact HB.out | apply below_alloc | apply pw_below_drewN | apply below_drew1 | refine below_set ?_ GE173.out | refine below_set ?_ GE177.out) | exact HB.out)) hb); have n3_ := Aside0.mk (hbox); have n4_ := Aside0.mk ((by rw [hg]; exact (below_size (by repeat (first | (with_reducible first | exact HB.out | apply below_alloc | apply pw_below_drewN | apply below_drew1 | refine below_set ?_ GE173.out | refine below_set ?_ GE177.out) | exact HB.out))) : w.heap.size ≤ gb179)); have n5_ := Aside0.mk ((by rw [hg]; exact (below_size (by repeat (first | (with_reducible first | exact HB.out | apply below_alloc | apply pw_below_drewN | apply below_drew1 | refine below_set ?_ GE173.out | refine below_set ?_ GE177.out) | exact HB.out))) : w.heap.size ≤ gb179)); have n6_ := Aside0.mk ((by rw [hg]; exact Nat.ne_of_lt (blk_lt (g := gb173) (o := .cells #[.int .i64 a1_0, .int .i64 a1_1, .int .i64 a1_2, .int .i64 a1_3, .int .i64 a1_4] 24 (0, 0)) (by (with_reducible repeat (first | refine blk_drewN ?_ _ | refine blk_drew ?_ | refine blk_alloc ?_ _)); refine blk_far ?_ NB173_177.out _; (with_reducible repeat (first | refine blk_drewN ?_ _ | refine blk_drew ?_ | refine blk_alloc ?_ _)); refine blk_far ?_ NB173_177.out _; (with_reducible repeat (first | refine blk_drewN ?_ _ | refine blk_drew ?_ | refine blk_alloc ?_ _)); refine blk_far ?_ NB173_177.out _; (with_reducible repeat (first | refine blk_drewN ?_ _ | refine blk_drew ?_ | refine blk_alloc ?_ _)); refine blk_far ?_ NB173_177.out _; (with_reducible repeat (first | refine blk_drewN ?_ _ | refine blk_drew ?_ | refine blk_alloc ?_ _)); exact BK173.out)) : gb173 ≠ gb179)); have n7_ := Aside0.mk ((by rw [hg]; exact Nat.ne_of_gt (blk_lt (g := gb173) (o := .cells #[.int .i64 a1_0, .int .i64 a1_1, .int .i64 a1_2, .int .i64 a1_3, .int .i64 a1_4] 24 (0, 0)) (by (with_reducible repeat (first | refine blk_drewN ?_ _ | refine blk_drew ?_ | refine blk_alloc ?_ _)); refine blk_far ?_ NB173_177.out _; (with_reducible repeat (first | refine blk_drewN ?_ _ | refine blk_drew ?_ | refine blk_alloc ?_ _)); refine blk_far ?_ NB173_177.out _; (with_reducible repeat (first | refine blk_drewN ?_ _ | refine blk_drew ?_ | refine blk_alloc ?_ _)); refine blk_far ?_ NB173_177.out _; (with_reducible repeat (first | refine blk_drewN ?_ _ | refine blk_drew ?_ | refine blk_alloc ?_ _)); refine blk_far ?_ NB173_177.out _; (with_reducible repeat (first | refine blk_drewN ?_ _ | refine blk_drew ?_ | refine blk_alloc ?_ _)); exact BK173.out)) : gb179 ≠ gb173)); have n8_ := Aside0.mk ((by rw [hg]; exact Nat.ne_of_lt (blk_lt (g := gb177) (o := .cells #[.int .i64 ((rd_T50 l0 a1_3).f0), .int .i64 ((rd_T50 l0 a1_3).f1), .string ((rd_T50 l0 a1_3).f2), .string ((rd_T50 l0 a1_3).f3)] 50 (0, 0)) (by (with_reducible repeat (first | refine blk_drewN ?_ _ | refine blk_drew ?_ | refine blk_alloc ?_ _)); refine blk_put (cs := #[.int .i64 ((rd_T50 l0 a1_3).f0), .int .i64 ((rd_T50 l0 a1_3).f1), .string ((rd_T50 l0 a1_3).f2), .string (⟨#[]⟩ : ByteArray)]) ?_ 3 _ rfl; (with_reducible repeat (first | refine blk_drewN ?_ _ | refine blk_drew ?_ | refine blk_alloc ?_ _)); refine blk_put (cs := #[.int .i64 ((rd_T50 l0 a1_3).f0), .int .i64 ((rd_T50 l0 a1_3).f1), .string (⟨#[]⟩ : ByteArray), .string (⟨#[]⟩ : ByteArray)]) ?_ 2 _ rfl; (with_reducible repeat (first | refine blk_drewN ?_ _ | refine blk_drew ?_ | refine blk_alloc ?_ _)); refine blk_put (cs := #[.int .i64 ((rd_T50 l0 a1_3).f0), .int .i64 0, .string (⟨#[]⟩ : ByteArray), .string (⟨#[]⟩ : ByteArray)]) ?_ 1 _ rfl; (with_reducible repeat (first | refine blk_drewN ?_ _ | refine blk_drew ?_ | refine blk_alloc ?_ _)); refine blk_put (cs := #[.int .i64 0, .int .i64 0, .string (⟨#[]⟩ : ByteArray), .string (⟨#[]⟩ : ByteArray)]) ?_ 0 _ rfl; (with_reducible repeat (first | refine blk_drewN ?_ _ | refine blk_drew ?_ | refine blk_alloc ?_ _)); exact BK177.out)) : gb177 ≠ gb179)); have n9_ := Aside0.mk ((by rw [hg]; exact Nat.ne_of_gt (blk_lt (g := gb177) (o := .cells #[.int .i64 ((rd_T50 l0 a1_3).f0), .int .i64 ((rd_T50 l0 a1_3).f1), .string ((rd_T50 l0 a1_3).f2), .string ((rd_T50 l0 a1_3).f3)] 50 (0, 0)) (by (with_reducible repeat (first | refine blk_drewN ?_ _ | refine blk_drew ?_ | refine blk_alloc ?_ _)); refine blk_put (cs := #[.int .i64 ((rd_T50 l0 a1_3).f0), .int .i64 ((rd_T50 l0 a1_3).f1), .string ((rd_T50 l0 a1_3).f2), .string (⟨#[]⟩ : ByteArray)]) ?_ 3 _ rfl; (with_reducible repeat (first | refine blk_drewN ?_ _ | refine blk_drew ?_ | refine blk_alloc ?_ _)); refine blk_put (cs := #[.int .i64 ((rd_T50 l0 a1_3).f0), .int .i64 ((rd_T50 l0 a1_3).f1), .string (⟨#[]⟩ : ByteArray), .string (⟨#[]⟩ : ByteArray)]) ?_ 2 _ rfl; (with_reducible repeat (first | refine blk_drewN ?_ _ | refine blk_drew ?_ | refine blk_alloc ?_ _)); refine blk_put (cs := #[.int .i64 ((rd_T50 l0 a1_3).f0), .int .i64 0, .string (⟨#[]⟩ : ByteArray), .string (⟨#[]⟩ : ByteArray)]) ?_ 1 _ rfl; (with_reducible repeat (first | refine blk_drewN ?_ _ | refine blk_drew ?_ | refine blk_alloc ?_ _)); refine blk_put (cs := #[.int .i64 0, .int .i64 0, .string (⟨#[]⟩ : ByteArray), .string (⟨#[]⟩ : ByteArray)]) ?_ 0 _ rfl; (with_reducible repeat (first | refine blk_drewN ?_ _ | refine blk_drew ?_ | refine blk_alloc ?_ _)); exact BK177.out)) : gb179 ≠ gb177)); clear BK173; clear BK177; clear HB; have BK173 := n0_; have BK177 := n1_; have HB := n2_; have BK179 := n3_; have GW179 := n4_; have GE179 := n5_; have NB173_179 := n6_; have NB179_173 := n7_; have NB177_179 := n8_; have NB179_177 := n9_; clear n0_ n1_ n2_ n3_ n4_ n5_ n6_ n7_ n8_ n9_; clear hb hbox hg; have hnb31 := NB179_173.out; have hnc31 := NB173_179.out; have hnb32 := NB179_177.out; have hnc32 := NB177_179.out; have hcz33_0 : w30.cell? ⟨gb179, 0, none⟩ = some (.int .i64 0) := (blk_cell BK179.out 0).trans rfl; have hcz33_1 : w30.cell? ⟨gb179, 1, none⟩ = some (.int .i64 0) := (blk_cell BK179.out 1).trans rfl; have hcz33_2 : w30.cell? ⟨gb179, 2, none⟩ = some (.string (⟨#[]⟩ : ByteArray)) := (blk_cell BK179.out 2).trans rfl; have hcz33_3 : w30.cell? ⟨gb179, 3, none⟩ = some (.string (⟨#[]⟩ : ByteArray)) := (blk_cell BK179.out 3).trans rfl; have hfz33_0 := blk_frozen BK179.out 0; have hfz33_1 := blk_frozen BK179.out 1; have hfz33_2 := blk_frozen BK179.out 2; have hfz33_3 := blk_frozen BK179.out 3)); go_upto_region 7 with (first | ((with_reducible refine gate_dst (N := 7) rfl ?_); (try (refine gate_guard (by rfl) ?_; dsimp only)); refine box_event ?hg (N := 7) ?hd (cs := #[.int .i64 0, .int .i64 0, .string (⟨#[]⟩ : ByteArray), .string (⟨#[]⟩ : ByteArray)]) (t := 50) ?hr ?_; (case hd => rfl); (case hg => rfl); (case hr => first | (go_simp; done) | (go_simp; rfl)); intro gb177 hg w26 hbox hb; have n0_ := Aside0.mk (blk_below (g := gb173) (o := .cells #[.int .i64 a1_0, .int .i64 a1_1, .int .i64 a1_2, .int .i64 a1_3, .int .i64 a1_4] 24 (0, 0)) (by (with_reducible repeat (first | refine blk_drewN ?_ _ | refine blk_drew ?_ | refine blk_alloc ?_ _)); exact BK173.out) hb); have n1_ := Aside0.mk (below_step (by repeat (first | (with_reducible first | exact HB.out | apply below_alloc | apply pw_below_drewN | apply below_drew1 | refine below_set ?_ GE173.out) | exact HB.out)) hb); have n2_ := Aside0.mk (hbox); have n3_ := Aside0.mk ((by rw [hg]; exact (below_size (by repeat (first | (with_reducible first | exact HB.out | apply below_alloc | apply pw_below_drewN | apply below_drew1 | refine below_set ?_ GE173.out) | exact HB.out))) : w.heap.size ≤ gb177)); have n4_ := Aside0.mk ((by rw [hg]; exact (below_size (by repeat (first | (with_reducible first | exact HB.out | apply below_alloc | apply pw_below_drewN | apply below_drew1 | refine below_set ?_ GE173.out) | exact HB.out))) : w.heap.size ≤ gb177)); have n5_ := Aside0.mk ((by rw [hg]; exact Nat.ne_of_lt (blk_lt (g := gb173) (o := .cells #[.int .i64 a1_0, .int .i64 a1_1, .int .i64 a1_2, .int .i64 a1_3, .int .i64 a1_4] 24 (0, 0)) (by (with_reducible repeat (first | refine blk_drewN ?_ _ | refine blk_drew ?_ | refine blk_alloc ?_ _)); exact BK173.out)) : gb173 ≠ gb177)); have n6_ := Aside0.mk ((by rw [hg]; exact Nat.ne_of_gt (blk_lt (g := gb173) (o := .cells #[.int .i64 a1_0, .int .i64 a1_1, .int .i64 a1_2, .int .i64 a1_3, .int .i64 a1_4] 24 (0, 0)) (by (with_reducible repeat (first | refine blk_drewN ?_ _ | refine blk_drew ?_ | refine blk_alloc ?_ _)); exact BK173.out)) : gb177 ≠ gb173)); clear BK173; clear HB; have BK173 := n0_; have HB := n1_; have BK177 := n2_; have GW177 := n3_; have GE177 := n4_; have NB173_177 := n5_; have NB177_173 := n6_; clear n0_ n1_ n2_ n3_ n4_ n5_ n6_; clear hb hbox hg; have hnb27 := NB177_173.out; have hnc27 := NB173_177.out; have hcz28_0 : w26.cell? ⟨gb177, 0, none⟩ = some (.int .i64 0) := (blk_cell BK177.out 0).trans rfl; have hcz28_1 : w26.cell? ⟨gb177, 1, none⟩ = some (.int .i64 0) := (blk_cell BK177.out 1).trans rfl; have hcz28_2 : w26.cell? ⟨gb177, 2, none⟩ = some (.string (⟨#[]⟩ : ByteArray)) := (blk_cell BK177.out 2).trans rfl; have hcz28_3 : w26.cell? ⟨gb177, 3, none⟩ = some (.string (⟨#[]⟩ : ByteArray)) := (blk_cell BK177.out 3).trans rfl; have hfz28_0 := blk_frozen BK177.out 0; have hfz28_1 := blk_frozen BK177.out 1; have hfz28_2 := blk_frozen BK177.out 2; have hfz28_3 := blk_frozen BK177.out 3; have hcz29_0 : w26.cell? ⟨gb173, 0, none⟩ = some (.int .i64 a1_0) := (blk_cell BK173.out 0).trans rfl; have hcz29_1 : w26.cell? ⟨gb173, 1, none⟩ = some (.int .i64 a1_1) := (blk_cell BK173.out 1).trans rfl; have hcz29_2 : w26.cell? ⟨gb173, 2, none⟩ = some (.int .i64 a1_2) := (blk_cell BK173.out 2).trans rfl; have hcz29_3 : w26.cell? ⟨gb173, 3, none⟩ = some (.int .i64 a1_3) := (blk_cell BK173.out 3).trans rfl; have hcz29_4 : w26.cell? ⟨gb173, 4, none⟩ = some (.int .i64 a1_4) := (blk_cell BK173.out 4).trans rfl; have hfz29_0 := blk_frozen BK173.out 0; have hfz29_1 := blk_frozen BK173.out 1; have hfz29_2 := blk_frozen BK173.out 2; have hfz29_3 := blk_frozen BK173.out 3; have hfz29_4 := blk_frozen BK173.out 4; have p178 : 0 ≤ (a1_4 : Int) := of_decide_eq_true (by first | (with_reducible assumption) | assumption); have q178 : a1_4 < (l0.length : Int) := of_decide_eq_true (by first | (with_reducible assumption) | assumption); obtain ⟨ad178, e178, hx178_0, hx178_1, hx178_2, hx178_3⟩ := at_T50 HR0.out a1_4 p178 q178; obtain rfl : ad176 = ad178 := (by injection e178); have hn178_0 : ad176.block ≠ gb177 := Nat.ne_of_lt (Nat.lt_of_lt_of_le (by have := World.block_lt_of_cell? _ _ hx178_0; first | rwa [add_block] at this | exact this) GW177.out); have hn178_1 : ad176.block ≠ gb177 := Nat.ne_of_lt (Nat.lt_of_lt_of_le (by have := World.block_lt_of_cell? _ _ hx178_0; first | rwa [add_block] at this | exact this) GW177.out); have hn178_2 : ad176.block ≠ gb177 := Nat.ne_of_lt (Nat.lt_of_lt_of_le (by have := World.block_lt_of_cell? _ _ hx178_0; first | rwa [add_block] at this | exact this) GW177.out); have hn178_3 : ad176.block ≠ gb177 := Nat.ne_of_lt (Nat.lt_of_lt_of_le (by have := World.block_lt_of_cell? _ _ hx178_0; first | rwa [add_block] at this | exact this) GW177.out); replace hx178_0 := (HB.out.cell (World.block_lt_of_cell? w _ hx178_0)).trans hx178_0; replace hx178_1 := (HB.out.cell (World.block_lt_of_cell? w _ hx178_1)).trans hx178_1; replace hx178_2 := (HB.out.cell (World.block_lt_of_cell? w _ hx178_2)).trans hx178_2; replace hx178_3 := (HB.out.cell (World.block_lt_of_cell? w _ hx178_3)).trans hx178_3; replace hx178_0 := (cell_far (p := ⟨gb177, 0, none⟩) (by first | (rw [add_block]; exact hn178_0) | (show (Addr.add _ _).block ≠ _; rw [add_block]; exact hn178_0) | exact hn178_0) (.int .i64 ((rd_T50 l0 a1_3).f0))).trans hx178_0; replace hx178_1 := (cell_far (p := ⟨gb177, 0, none⟩) (by first | (rw [add_block]; exact hn178_0) | (show (Addr.add _ _).block ≠ _; rw [add_block]; exact hn178_0) | exact hn178_0) (.int .i64 ((rd_T50 l0 a1_3).f0))).trans hx178_1; replace hx178_2 := (cell_far (p := ⟨gb177, 0, none⟩) (by first | (rw [add_block]; exact hn178_0) | (show (Addr.add _ _).block ≠ _; rw [add_block]; exact hn178_0) | exact hn178_0) (.int .i64 ((rd_T50 l0 a1_3).f0))).trans hx178_2; replace hx178_3 := (cell_far (p := ⟨gb177, 0, none⟩) (by first | (rw [add_block]; exact hn178_0) | (show (Addr.add _ _).block ≠ _; rw [add_block]; exact hn178_0) | exact hn178_0) (.int .i64 ((rd_T50 l0 a1_3).f0))).trans hx178_3; replace hx178_0 := (cell_far (p := ⟨gb177, 1, none⟩) (by first | (rw [add_block]; exact hn178_1) | (show (Addr.add _ _).block ≠ _; rw [add_block]; exact hn178_1) | exact hn178_1) (.int .i64 ((rd_T50 l0 a1_3).f1))).trans hx178_0; replace hx178_1 := (cell_far (p := ⟨gb177, 1, none⟩) (by first | (rw [add_block]; exact hn178_1) | (show (Addr.add _ _).block ≠ _; rw [add_block]; exact hn178_1) | exact hn178_1) (.int .i64 ((rd_T50 l0 a1_3).f1))).trans hx178_1; replace hx178_2 := (cell_far (p := ⟨gb177, 1, none⟩) (by first | (rw [add_block]; exact hn178_1) | (show (Addr.add _ _).block ≠ _; rw [add_block]; exact hn178_1) | exact hn178_1) (.int .i64 ((rd_T50 l0 a1_3).f1))).trans hx178_2; replace hx178_3 := (cell_far (p := ⟨gb177, 1, none⟩) (by first | (rw [add_block]; exact hn178_1) | (show (Addr.add _ _).block ≠ _; rw [add_block]; exact hn178_1) | exact hn178_1) (.int .i64 ((rd_T50 l0 a1_3).f1))).trans hx178_3; replace hx178_0 := (cell_far (p := ⟨gb177, 2, none⟩) (by first | (rw [add_block]; exact hn178_2) | (show (Addr.add _ _).block ≠ _; rw [add_block]; exact hn178_2) | exact hn178_2) (.string ((rd_T50 l0 a1_3).f2))).trans hx178_0; replace hx178_1 := (cell_far (p := ⟨gb177, 2, none⟩) (by first | (rw [add_block]; exact hn178_2) | (show (Addr.add _ _).block ≠ _; rw [add_block]; exact hn178_2) | exact hn178_2) (.string ((rd_T50 l0 a1_3).f2))).trans hx178_1; replace hx178_2 := (cell_far (p := ⟨gb177, 2, none⟩) (by first | (rw [add_block]; exact hn178_2) | (show (Addr.add _ _).block ≠ _; rw [add_block]; exact hn178_2) | exact hn178_2) (.string ((rd_T50 l0 a1_3).f2))).trans hx178_2; replace hx178_3 := (cell_far (p := ⟨gb177, 2, none⟩) (by first | (rw [add_block]; exact hn178_2) | (show (Addr.add _ _).block ≠ _; rw [add_block]; exact hn178_2) | exact hn178_2) (.string ((rd_T50 l0 a1_3).f2))).trans hx178_3; replace hx178_0 := (cell_far (p := ⟨gb177, 3, none⟩) (by first | (rw [add_block]; exact hn178_3) | (show (Addr.add _ _).block ≠ _; rw [add_block]; exact hn178_3) | exact hn178_3) (.string ((rd_T50 l0 a1_3).f3))).trans hx178_0; replace hx178_1 := (cell_far (p := ⟨gb177, 3, none⟩) (by first | (rw [add_block]; exact hn178_3) | (show (Addr.add _ _).block ≠ _; rw [add_block]; exact hn178_3) | exact hn178_3) (.string ((rd_T50 l0 a1_3).f3))).trans hx178_1; replace hx178_2 := (cell_far (p := ⟨gb177, 3, none⟩) (by first | (rw [add_block]; exact hn178_3) | (show (Addr.add _ _).block ≠ _; rw [add_block]; exact hn178_3) | exact hn178_3) (.string ((rd_T50 l0 a1_3).f3))).trans hx178_2; replace hx178_3 := (cell_far (p := ⟨gb177, 3, none⟩) (by first | (rw [add_block]; exact hn178_3) | (show (Addr.add _ _).block ≠ _; rw [add_block]; exact hn178_3) | exact hn178_3) (.string ((rd_T50 l0 a1_3).f3))).trans hx178_3; (try have hy178_0 := fun (n_ : Nat) => (show ((((((w26.drewN n_).setCell ⟨gb177, 0, none⟩ (.int .i64 ((rd_T50 l0 a1_3).f0))).setCell ⟨gb177, 1, none⟩ (.int .i64 ((rd_T50 l0 a1_3).f1))).setCell ⟨gb177, 2, none⟩ (.string ((rd_T50 l0 a1_3).f2))).setCell ⟨gb177, 3, none⟩ (.string ((rd_T50 l0 a1_3).f3)))).cell? _ = some _ from hx178_0)); (try have hy178_1 := fun (n_ : Nat) => (show ((((((w26.drewN n_).setCell ⟨gb177, 0, none⟩ (.int .i64 ((rd_T50 l0 a1_3).f0))).setCell ⟨gb177, 1, none⟩ (.int .i64 ((rd_T50 l0 a1_3).f1))).setCell ⟨gb177, 2, none⟩ (.string ((rd_T50 l0 a1_3).f2))).setCell ⟨gb177, 3, none⟩ (.string ((rd_T50 l0 a1_3).f3)))).cell? _ = some _ from hx178_1)); (try have hy178_2 := fun (n_ : Nat) => (show ((((((w26.drewN n_).setCell ⟨gb177, 0, none⟩ (.int .i64 ((rd_T50 l0 a1_3).f0))).setCell ⟨gb177, 1, none⟩ (.int .i64 ((rd_T50 l0 a1_3).f1))).setCell ⟨gb177, 2, none⟩ (.string ((rd_T50 l0 a1_3).f2))).setCell ⟨gb177, 3, none⟩ (.string ((rd_T50 l0 a1_3).f3)))).cell? _ = some _ from hx178_2)); (try have hy178_3 := fun (n_ : Nat) => (show ((((((w26.drewN n_).setCell ⟨gb177, 0, none⟩ (.int .i64 ((rd_T50 l0 a1_3).f0))).setCell ⟨gb177, 1, none⟩ (.int .i64 ((rd_T50 l0 a1_3).f1))).setCell ⟨gb177, 2, none⟩ (.string ((rd_T50 l0 a1_3).f2))).setCell ⟨gb177, 3, none⟩ (.string ((rd_T50 l0 a1_3).f3)))).cell? _ = some _ from hx178_3)); clear hn178_0; clear hn178_1; clear hn178_2; clear hn178_3; replace p178 := eq_true p178; replace q178 := eq_true q178) | ((with_reducible refine gate_dst (N := 8) rfl ?_); (try (refine gate_guard (by rfl) ?_; dsimp only)); refine box_event ?hg (N := 8) ?hd (cs := #[.int .i64 0, .int .i64 0, .string (⟨#[]⟩ : ByteArray), .string (⟨#[]⟩ : ByteArray)]) (t := 50) ?hr ?_; (case hd => rfl); (case hg => rfl); (case hr => first | (go_simp; done) | (go_simp; rfl)); intro gb179 hg w30 hbox hb; have n0_ := Aside0.mk (blk_below (g := gb173) (o := .cells #[.int .i64 a1_0, .int .i64 a1_1, .int .i64 a1_2, .int .i64 a1_3, .int .i64 a1_4] 24 (0, 0)) (by (with_reducible repeat (first | refine blk_drewN ?_ _ | refine blk_drew ?_ | refine blk_alloc ?_ _)); refine blk_far ?_ NB173_177.out _; (with_reducible repeat (first | refine blk_drewN ?_ _ | refine blk_drew ?_ | refine blk_alloc ?_ _)); refine blk_far ?_ NB173_177.out _; (with_reducible repeat (first | refine blk_drewN ?_ _ | refine blk_drew ?_ | refine blk_alloc ?_ _)); refine blk_far ?_ NB173_177.out _; (with_reducible repeat (first | refine blk_drewN ?_ _ | refine blk_drew ?_ | refine blk_alloc ?_ _)); refine blk_far ?_ NB173_177.out _; (with_reducible repeat (first | refine blk_drewN ?_ _ | refine blk_drew ?_ | refine blk_alloc ?_ _)); exact BK173.out) hb); have n1_ := Aside0.mk (blk_below (g := gb177) (o := .cells #[.int .i64 ((rd_T50 l0 a1_3).f0), .int .i64 ((rd_T50 l0 a1_3).f1), .string ((rd_T50 l0 a1_3).f2), .string ((rd_T50 l0 a1_3).f3)] 50 (0, 0)) (by (with_reducible repeat (first | refine blk_drewN ?_ _ | refine blk_drew ?_ | refine blk_alloc ?_ _)); refine blk_put (cs := #[.int .i64 ((rd_T50 l0 a1_3).f0), .int .i64 ((rd_T50 l0 a1_3).f1), .string ((rd_T50 l0 a1_3).f2), .string (⟨#[]⟩ : ByteArray)]) ?_ 3 _ rfl; (with_reducible repeat (first | refine blk_drewN ?_ _ | refine blk_drew ?_ | refine blk_alloc ?_ _)); refine blk_put (cs := #[.int .i64 ((rd_T50 l0 a1_3).f0), .int .i64 ((rd_T50 l0 a1_3).f1), .string (⟨#[]⟩ : ByteArray), .string (⟨#[]⟩ : ByteArray)]) ?_ 2 _ rfl; (with_reducible repeat (first | refine blk_drewN ?_ _ | refine blk_drew ?_ | refine blk_alloc ?_ _)); refine blk_put (cs := #[.int .i64 ((rd_T50 l0 a1_3).f0), .int .i64 0, .string (⟨#[]⟩ : ByteArray), .string (⟨#[]⟩ : ByteArray)]) ?_ 1 _ rfl; (with_reducible repeat (first | refine blk_drewN ?_ _ | refine blk_drew ?_ | refine blk_alloc ?_ _)); refine blk_put (cs := #[.int .i64 0, .int .i64 0, .string (⟨#[]⟩ : ByteArray), .string (⟨#[]⟩ : ByteArray)]) ?_ 0 _ rfl; (with_reducible repeat (first | refine blk_drewN ?_ _ | refine blk_drew ?_ | refine blk_alloc ?_ _)); exact BK177.out) hb); have n2_ := Aside0.mk (below_step (by repeat (first | (with_reducible first | exact HB.out | apply below_alloc | apply pw_below_drewN | apply below_drew1 | refine below_set ?_ GE173.out | refine below_set ?_ GE177.out) | exact HB.out)) hb); have n3_ := Aside0.mk (hbox); have n4_ := Aside0.mk ((by rw [hg]; exact (below_size (by repeat (first | (with_reducible first | exact HB.out | apply below_alloc | apply pw_below_drewN | apply below_drew1 | refine below_set ?_ GE173.out | refine below_set ?_ GE177.out) | exact HB.out))) : w.heap.size ≤ gb179)); have n5_ := Aside0.mk ((by rw [hg]; exact (below_size (by repeat (first | (with_reducible first | exact HB.out | apply below_alloc | apply pw_below_drewN | apply below_drew1 | refine below_set ?_ GE173.out | refine below_set ?_ GE177.out) | exact HB.out))) : w.heap.size ≤ gb179)); have n6_ := Aside0.mk ((by rw [hg]; exact Nat.ne_of_lt (blk_lt (g := gb173) (o := .cells #[.int .i64 a1_0, .int .i64 a1_1, .int .i64 a1_2, .int .i64 a1_3, .int .i64 a1_4] 24 (0, 0)) (by (with_reducible repeat (first | refine blk_drewN ?_ _ | refine blk_drew ?_ | refine blk_alloc ?_ _)); refine blk_far ?_ NB173_177.out _; (with_reducible repeat (first | refine blk_drewN ?_ _ | refine blk_drew ?_ | refine blk_alloc ?_ _)); refine blk_far ?_ NB173_177.out _; (with_reducible repeat (first | refine blk_drewN ?_ _ | refine blk_drew ?_ | refine blk_alloc ?_ _)); refine blk_far ?_ NB173_177.out _; (with_reducible repeat (first | refine blk_drewN ?_ _ | refine blk_drew ?_ | refine blk_alloc ?_ _)); refine blk_far ?_ NB173_177.out _; (with_reducible repeat (first | refine blk_drewN ?_ _ | refine blk_drew ?_ | refine blk_alloc ?_ _)); exact BK173.out)) : gb173 ≠ gb179)); have n7_ := Aside0.mk ((by rw [hg]; exact Nat.ne_of_gt (blk_lt (g := gb173) (o := .cells #[.int .i64 a1_0, .int .i64 a1_1, .int .i64 a1_2, .int .i64 a1_3, .int .i64 a1_4] 24 (0, 0)) (by (with_reducible repeat (first | refine blk_drewN ?_ _ | refine blk_drew ?_ | refine blk_alloc ?_ _)); refine blk_far ?_ NB173_177.out _; (with_reducible repeat (first | refine blk_drewN ?_ _ | refine blk_drew ?_ | refine blk_alloc ?_ _)); refine blk_far ?_ NB173_177.out _; (with_reducible repeat (first | refine blk_drewN ?_ _ | refine blk_drew ?_ | refine blk_alloc ?_ _)); refine blk_far ?_ NB173_177.out _; (with_reducible repeat (first | refine blk_drewN ?_ _ | refine blk_drew ?_ | refine blk_alloc ?_ _)); refine blk_far ?_ NB173_177.out _; (with_reducible repeat (first | refine blk_drewN ?_ _ | refine blk_drew ?_ | refine blk_alloc ?_ _)); exact BK173.out)) : gb179 ≠ gb173)); have n8_ := Aside0.mk ((by rw [hg]; exact Nat.ne_of_lt (blk_lt (g := gb177) (o := .cells #[.int .i64 ((rd_T50 l0 a1_3).f0), .int .i64 ((rd_T50 l0 a1_3).f1), .string ((rd_T50 l0 a1_3).f2), .string ((rd_T50 l0 a1_3).f3)] 50 (0, 0)) (by (with_reducible repeat (first | refine blk_drewN ?_ _ | refine blk_drew ?_ | refine blk_alloc ?_ _)); refine blk_put (cs := #[.int .i64 ((rd_T50 l0 a1_3).f0), .int .i64 ((rd_T50 l0 a1_3).f1), .string ((rd_T50 l0 a1_3).f2), .string (⟨#[]⟩ : ByteArray)]) ?_ 3 _ rfl; (with_reducible repeat (first | refine blk_drewN ?_ _ | refine blk_drew ?_ | refine blk_alloc ?_ _)); refine blk_put (cs := #[.int .i64 ((rd_T50 l0 a1_3).f0), .int .i64 ((rd_T50 l0 a1_3).f1), .string (⟨#[]⟩ : ByteArray), .string (⟨#[]⟩ : ByteArray)]) ?_ 2 _ rfl; (with_reducible repeat (first | refine blk_drewN ?_ _ | refine blk_drew ?_ | refine blk_alloc ?_ _)); refine blk_put (cs := #[.int .i64 ((rd_T50 l0 a1_3).f0), .int .i64 0, .string (⟨#[]⟩ : ByteArray), .string (⟨#[]⟩ : ByteArray)]) ?_ 1 _ rfl; (with_reducible repeat (first | refine blk_drewN ?_ _ | refine blk_drew ?_ | refine blk_alloc ?_ _)); refine blk_put (cs := #[.int .i64 0, .int .i64 0, .string (⟨#[]⟩ : ByteArray), .string (⟨#[]⟩ : ByteArray)]) ?_ 0 _ rfl; (with_reducible repeat (first | refine blk_drewN ?_ _ | refine blk_drew ?_ | refine blk_alloc ?_ _)); exact BK177.out)) : gb177 ≠ gb179)); have n9_ := Aside0.mk ((by rw [hg]; exact Nat.ne_of_gt (blk_lt (g := gb177) (o := .cells #[.int .i64 ((rd_T50 l0 a1_3).f0), .int .i64 ((rd_T50 l0 a1_3).f1), .string ((rd_T50 l0 a1_3).f2), .string ((rd_T50 l0 a1_3).f3)] 50 (0, 0)) (by (with_reducible repeat (first | refine blk_drewN ?_ _ | refine blk_drew ?_ | refine blk_alloc ?_ _)); refine blk_put (cs := #[.int .i64 ((rd_T50 l0 a1_3).f0), .int .i64 ((rd_T50 l0 a1_3).f1), .string ((rd_T50 l0 a1_3).f2), .string (⟨#[]⟩ : ByteArray)]) ?_ 3 _ rfl; (with_reducible repeat (first | refine blk_drewN ?_ _ | refine blk_drew ?_ | refine blk_alloc ?_ _)); refine blk_put (cs := #[.int .i64 ((rd_T50 l0 a1_3).f0), .int .i64 ((rd_T50 l0 a1_3).f1), .string (⟨#[]⟩ : ByteArray), .string (⟨#[]⟩ : ByteArray)]) ?_ 2 _ rfl; (with_reducible repeat (first | refine blk_drewN ?_ _ | refine blk_drew ?_ | refine blk_alloc ?_ _)); refine blk_put (cs := #[.int .i64 ((rd_T50 l0 a1_3).f0), .int .i64 0, .string (⟨#[]⟩ : ByteArray), .string (⟨#[]⟩ : ByteArray)]) ?_ 1 _ rfl; (with_reducible repeat (first | refine blk_drewN ?_ _ | refine blk_drew ?_ | refine blk_alloc ?_ _)); refine blk_put (cs := #[.int .i64 0, .int .i64 0, .string (⟨#[]⟩ : ByteArray), .string (⟨#[]⟩ : ByteArray)]) ?_ 0 _ rfl; (with_reducible repeat (first | refine blk_drewN ?_ _ | refine blk_drew ?_ | refine blk_alloc ?_ _)); exact BK177.out)) : gb179 ≠ gb177)); clear BK173; clear BK177; clear HB; have BK173 := n0_; have BK177 := n1_; have HB := n2_; have BK179 := n3_; have GW179 := n4_; have GE179 := n5_; have NB173_179 := n6_; have NB179_173 := n7_; have NB177_179 := n8_; have NB179_177 := n9_; clear n0_ n1_ n2_ n3_ n4_ n5_ n6_ n7_ n8_ n9_; clear hb hbox hg; have hnb31 := NB179_173.out; have hnc31 := NB173_179.out; have hnb32 := NB179_177.out; have hnc32 := NB177_179.out; have hcz33_0 : w30.cell? ⟨gb179, 0, none⟩ = some (.int .i64 0) := (blk_cell BK179.out 0).trans rfl; have hcz33_1 : w30.cell? ⟨gb179, 1, none⟩ = some (.int .i64 0) := (blk_cell BK179.out 1).trans rfl; have hcz33_2 : w30.cell? ⟨gb179, 2, none⟩ = some (.string (⟨#[]⟩ : ByteArray)) := (blk_cell BK179.out 2).trans rfl; have hcz33_3 : w30.cell? ⟨gb179, 3, none⟩ = some (.string (⟨#[]⟩ : ByteArray)) := (blk_cell BK179.out 3).trans rfl; have hfz33_0 := blk_frozen BK179.out 0; have hfz33_1 := blk_frozen BK179.out 1; have hfz33_2 := blk_frozen BK179.out 2; have hfz33_3 := blk_frozen BK179.out 3)))
             (try simp only [Act.put, List.setIfInBounds_toArray, List.set_cons_zero, List.set_cons_succ])
             go_cut [84] (fun v84 wc => ∃ (kq : Nat) (x84_23 : Bool), v84 = .bool x84_23 ∧ Aside0 (cartoucheref10_Holds.j1 kq l0 t174 t175 x84_23 a1_0 a1_1 a1_2 a1_3 a1_4 ((rd_T50 l0 a1_3).f0) ((rd_T50 l0 a1_3).f1) ((rd_T50 l0 a1_3).f2) ((rd_T50 l0 a1_3).f3) ((rd_T50 l0 a1_4).f0) ((rd_T50 l0 a1_4).f1) ((rd_T50 l0 a1_4).f2) ((rd_T50 l0 a1_4).f3) = some r) ∧ Aside0 (kq ≤ kj4) ∧ Aside0 (wc.heap[gb173]? = some (.cells #[.int .i64 a1_0, .int .i64 a1_1, .int .i64 a1_2, .int .i64 a1_3, .int .i64 a1_4] 24 (0, 0))) ∧ Aside0 (wc.heap[gb177]? = some (.cells #[.int .i64 ((rd_T50 l0 a1_3).f0), .int .i64 ((rd_T50 l0 a1_3).f1), .string ((rd_T50 l0 a1_3).f2), .string ((rd_T50 l0 a1_3).f3)] 50 (0, 0))) ∧ Aside0 (wc.heap[gb179]? = some (.cells #[.int .i64 ((rd_T50 l0 a1_4).f0), .int .i64 ((rd_T50 l0 a1_4).f1), .string ((rd_T50 l0 a1_4).f2), .string ((rd_T50 l0 a1_4).f3)] 50 (0, 0))) ∧ Aside0 (Below w.heap.size w wc))
             case first =>
              have H := HC24.out
              clear HC24
              by_cases c34 : ((rd_T50 l0 a1_3).f2).toList = ((rd_T50 l0 a1_4).f2).toList
              · rw [if_pos c34] at H
                have c34b0 : (((rd_T50 l0 a1_3).f2).toList == ((rd_T50 l0 a1_4).f2).toList) = true := beq_iff_eq.mpr c34
                have c34b1 : (((rd_T50 l0 a1_3).f2).toList != ((rd_T50 l0 a1_4).f2).toList) = false := bne_eq_false_iff_eq.mpr c34
                clear c34
                (first | rw [c34b0] | (simp only [i64_w, i32_w]; rw [c34b0]) | skip)
                by_cases c35 : ((rd_T50 l0 a1_3).f1) = a1_1
                · rw [if_pos c35] at H
                  have c35b0 : (((rd_T50 l0 a1_3).f1) == a1_1) = true := beq_iff_eq.mpr c35
                  have c35b1 : (((rd_T50 l0 a1_3).f1) != a1_1) = false := bne_eq_false_iff_eq.mpr c35
                  clear c35
                  have H' := Aside0.mk H
                  clear H
                  have hnb36 := NB177_173.out
                  have hnc36 := NB173_177.out
                  have hnb37 := NB177_179.out
                  have hnc37 := NB179_177.out
                  have hcz38_0 : w30.cell? ⟨gb177, 0, none⟩ = some (.int .i64 ((rd_T50 l0 a1_3).f0)) := (blk_cell BK177.out 0).trans rfl
                  have hcz38_1 : w30.cell? ⟨gb177, 1, none⟩ = some (.int .i64 ((rd_T50 l0 a1_3).f1)) := (blk_cell BK177.out 1).trans rfl
                  have hcz38_2 : w30.cell? ⟨gb177, 2, none⟩ = some (.string ((rd_T50 l0 a1_3).f2)) := (blk_cell BK177.out 2).trans rfl
                  have hcz38_3 : w30.cell? ⟨gb177, 3, none⟩ = some (.string ((rd_T50 l0 a1_3).f3)) := (blk_cell BK177.out 3).trans rfl
                  have hfz38_0 := blk_frozen BK177.out 0
                  have hfz38_1 := blk_frozen BK177.out 1
                  have hfz38_2 := blk_frozen BK177.out 2
                  have hfz38_3 := blk_frozen BK177.out 3
                  have hnb39 := NB179_173.out
                  have hnc39 := NB173_179.out
                  have hcz40_0 : w30.cell? ⟨gb179, 0, none⟩ = some (.int .i64 0) := (blk_cell BK179.out 0).trans rfl
                  have hcz40_1 : w30.cell? ⟨gb179, 1, none⟩ = some (.int .i64 0) := (blk_cell BK179.out 1).trans rfl
                  have hcz40_2 : w30.cell? ⟨gb179, 2, none⟩ = some (.string (⟨#[]⟩ : ByteArray)) := (blk_cell BK179.out 2).trans rfl
                  have hcz40_3 : w30.cell? ⟨gb179, 3, none⟩ = some (.string (⟨#[]⟩ : ByteArray)) := (blk_cell BK179.out 3).trans rfl
                  have hfz40_0 := blk_frozen BK179.out 0
                  have hfz40_1 := blk_frozen BK179.out 1
                  have hfz40_2 := blk_frozen BK179.out 2
                  have hfz40_3 := blk_frozen BK179.out 3
                  have hcz41_0 : w30.cell? ⟨gb173, 0, none⟩ = some (.int .i64 a1_0) := (blk_cell BK173.out 0).trans rfl
                  have hcz41_1 : w30.cell? ⟨gb173, 1, none⟩ = some (.int .i64 a1_1) := (blk_cell BK173.out 1).trans rfl
                  have hcz41_2 : w30.cell? ⟨gb173, 2, none⟩ = some (.int .i64 a1_2) := (blk_cell BK173.out 2).trans rfl
                  have hcz41_3 : w30.cell? ⟨gb173, 3, none⟩ = some (.int .i64 a1_3) := (blk_cell BK173.out 3).trans rfl
                  have hcz41_4 : w30.cell? ⟨gb173, 4, none⟩ = some (.int .i64 a1_4) := (blk_cell BK173.out 4).trans rfl
                  have hfz41_0 := blk_frozen BK173.out 0
                  have hfz41_1 := blk_frozen BK173.out 1
                  have hfz41_2 := blk_frozen BK173.out 2
                  have hfz41_3 := blk_frozen BK173.out 3
                  have hfz41_4 := blk_frozen BK173.out 4
                  go_wp2
                  repeat (go_quiet (fail); try go_wp2)
                  go_meet
                  case rel => exact ⟨_, ((((rd_T50 l0 a1_4).f1) != a1_2)), (by first | rfl | (simp; done) | (simp [*]; done)), H', ⟨by have := HJ4.out; first | omega | exact Nat.le_refl _⟩, ⟨by (with_reducible repeat (first | refine blk_drewN ?_ _ | refine blk_drew ?_ | refine blk_alloc ?_ _)); refine blk_far ?_ NB173_179.out _; (with_reducible repeat (first | refine blk_drewN ?_ _ | refine blk_drew ?_ | refine blk_alloc ?_ _)); refine blk_far ?_ NB173_179.out _; (with_reducible repeat (first | refine blk_drewN ?_ _ | refine blk_drew ?_ | refine blk_alloc ?_ _)); refine blk_far ?_ NB173_179.out _; (with_reducible repeat (first | refine blk_drewN ?_ _ | refine blk_drew ?_ | refine blk_alloc ?_ _)); refine blk_far ?_ NB173_179.out _; (with_reducible repeat (first | refine blk_drewN ?_ _ | refine blk_drew ?_ | refine blk_alloc ?_ _)); exact BK173.out⟩, ⟨by (with_reducible repeat (first | refine blk_drewN ?_ _ | refine blk_drew ?_ | refine blk_alloc ?_ _)); refine blk_far ?_ NB177_179.out _; (with_reducible repeat (first | refine blk_drewN ?_ _ | refine blk_drew ?_ | refine blk_alloc ?_ _)); refine blk_far ?_ NB177_179.out _; (with_reducible repeat (first | refine blk_drewN ?_ _ | refine blk_drew ?_ | refine blk_alloc ?_ _)); refine blk_far ?_ NB177_179.out _; (with_reducible repeat (first | refine blk_drewN ?_ _ | refine blk_drew ?_ | refine blk_alloc ?_ _)); refine blk_far ?_ NB177_179.out _; (with_reducible repeat (first | refine blk_drewN ?_ _ | refine blk_drew ?_ | refine blk_alloc ?_ _)); exact BK177.out⟩, ⟨by (with_reducible repeat (first | refine blk_drewN ?_ _ | refine blk_drew ?_ | refine blk_alloc ?_ _)); refine blk_put (cs := #[.int .i64 ((rd_T50 l0 a1_4).f0), .int .i64 ((rd_T50 l0 a1_4).f1), .string ((rd_T50 l0 a1_4).f2), .string (⟨#[]⟩ : ByteArray)]) ?_ 3 _ rfl; (with_reducible repeat (first | refine blk_drewN ?_ _ | refine blk_drew ?_ | refine blk_alloc ?_ _)); refine blk_put (cs := #[.int .i64 ((rd_T50 l0 a1_4).f0), .int .i64 ((rd_T50 l0 a1_4).f1), .string (⟨#[]⟩ : ByteArray), .string (⟨#[]⟩ : ByteArray)]) ?_ 2 _ rfl; (with_reducible repeat (first | refine blk_drewN ?_ _ | refine blk_drew ?_ | refine blk_alloc ?_ _)); refine blk_put (cs := #[.int .i64 ((rd_T50 l0 a1_4).f0), .int .i64 0, .string (⟨#[]⟩ : ByteArray), .string (⟨#[]⟩ : ByteArray)]) ?_ 1 _ rfl; (with_reducible repeat (first | refine blk_drewN ?_ _ | refine blk_drew ?_ | refine blk_alloc ?_ _)); refine blk_put (cs := #[.int .i64 0, .int .i64 0, .string (⟨#[]⟩ : ByteArray), .string (⟨#[]⟩ : ByteArray)]) ?_ 0 _ rfl; (with_reducible repeat (first | refine blk_drewN ?_ _ | refine blk_drew ?_ | refine blk_alloc ?_ _)); exact BK179.out⟩, ⟨by repeat (first | (with_reducible first | exact HB.out | apply below_alloc | apply pw_below_drewN | apply below_drew1 | refine below_set ?_ GE173.out | refine below_set ?_ GE177.out | refine below_set ?_ GE179.out) | exact HB.out)⟩⟩
                · rw [if_neg c35] at H
                  have c35b0 : (((rd_T50 l0 a1_3).f1) == a1_1) = false := beq_eq_false_iff_ne.mpr c35
                  have c35b1 : (((rd_T50 l0 a1_3).f1) != a1_1) = true := bne_iff_ne.mpr c35
                  have H' := Aside0.mk H
                  clear H
                  have hnb42 := NB177_173.out
                  have hnc42 := NB173_177.out
                  have hnb43 := NB177_179.out
                  have hnc43 := NB179_177.out
                  have hcz44_0 : w30.cell? ⟨gb177, 0, none⟩ = some (.int .i64 ((rd_T50 l0 a1_3).f0)) := (blk_cell BK177.out 0).trans rfl
                  have hcz44_1 : w30.cell? ⟨gb177, 1, none⟩ = some (.int .i64 ((rd_T50 l0 a1_3).f1)) := (blk_cell BK177.out 1).trans rfl
                  have hcz44_2 : w30.cell? ⟨gb177, 2, none⟩ = some (.string ((rd_T50 l0 a1_3).f2)) := (blk_cell BK177.out 2).trans rfl
                  have hcz44_3 : w30.cell? ⟨gb177, 3, none⟩ = some (.string ((rd_T50 l0 a1_3).f3)) := (blk_cell BK177.out 3).trans rfl
                  have hfz44_0 := blk_frozen BK177.out 0
                  have hfz44_1 := blk_frozen BK177.out 1
                  have hfz44_2 := blk_frozen BK177.out 2
                  have hfz44_3 := blk_frozen BK177.out 3
                  have hnb45 := NB179_173.out
                  have hnc45 := NB173_179.out
                  have hcz46_0 : w30.cell? ⟨gb179, 0, none⟩ = some (.int .i64 0) := (blk_cell BK179.out 0).trans rfl
                  have hcz46_1 : w30.cell? ⟨gb179, 1, none⟩ = some (.int .i64 0) := (blk_cell BK179.out 1).trans rfl
                  have hcz46_2 : w30.cell? ⟨gb179, 2, none⟩ = some (.string (⟨#[]⟩ : ByteArray)) := (blk_cell BK179.out 2).trans rfl
                  have hcz46_3 : w30.cell? ⟨gb179, 3, none⟩ = some (.string (⟨#[]⟩ : ByteArray)) := (blk_cell BK179.out 3).trans rfl
                  have hfz46_0 := blk_frozen BK179.out 0
                  have hfz46_1 := blk_frozen BK179.out 1
                  have hfz46_2 := blk_frozen BK179.out 2
                  have hfz46_3 := blk_frozen BK179.out 3
                  have hcz47_0 : w30.cell? ⟨gb173, 0, none⟩ = some (.int .i64 a1_0) := (blk_cell BK173.out 0).trans rfl
                  have hcz47_1 : w30.cell? ⟨gb173, 1, none⟩ = some (.int .i64 a1_1) := (blk_cell BK173.out 1).trans rfl
                  have hcz47_2 : w30.cell? ⟨gb173, 2, none⟩ = some (.int .i64 a1_2) := (blk_cell BK173.out 2).trans rfl
                  have hcz47_3 : w30.cell? ⟨gb173, 3, none⟩ = some (.int .i64 a1_3) := (blk_cell BK173.out 3).trans rfl
                  have hcz47_4 : w30.cell? ⟨gb173, 4, none⟩ = some (.int .i64 a1_4) := (blk_cell BK173.out 4).trans rfl
                  have hfz47_0 := blk_frozen BK173.out 0
                  have hfz47_1 := blk_frozen BK173.out 1
                  have hfz47_2 := blk_frozen BK173.out 2
                  have hfz47_3 := blk_frozen BK173.out 3
                  have hfz47_4 := blk_frozen BK173.out 4
                  go_wp2
                  repeat (go_quiet (fail); try go_wp2)
                  go_meet
                  case rel => exact ⟨_, (true), (by first | rfl | (simp; done) | (simp [*]; done)), H', ⟨by have := HJ4.out; first | omega | exact Nat.le_refl _⟩, ⟨by (with_reducible repeat (first | refine blk_drewN ?_ _ | refine blk_drew ?_ | refine blk_alloc ?_ _)); refine blk_far ?_ NB173_179.out _; (with_reducible repeat (first | refine blk_drewN ?_ _ | refine blk_drew ?_ | refine blk_alloc ?_ _)); refine blk_far ?_ NB173_179.out _; (with_reducible repeat (first | refine blk_drewN ?_ _ | refine blk_drew ?_ | refine blk_alloc ?_ _)); refine blk_far ?_ NB173_179.out _; (with_reducible repeat (first | refine blk_drewN ?_ _ | refine blk_drew ?_ | refine blk_alloc ?_ _)); refine blk_far ?_ NB173_179.out _; (with_reducible repeat (first | refine blk_drewN ?_ _ | refine blk_drew ?_ | refine blk_alloc ?_ _)); exact BK173.out⟩, ⟨by (with_reducible repeat (first | refine blk_drewN ?_ _ | refine blk_drew ?_ | refine blk_alloc ?_ _)); refine blk_far ?_ NB177_179.out _; (with_reducible repeat (first | refine blk_drewN ?_ _ | refine blk_drew ?_ | refine blk_alloc ?_ _)); refine blk_far ?_ NB177_179.out _; (with_reducible repeat (first | refine blk_drewN ?_ _ | refine blk_drew ?_ | refine blk_alloc ?_ _)); refine blk_far ?_ NB177_179.out _; (with_reducible repeat (first | refine blk_drewN ?_ _ | refine blk_drew ?_ | refine blk_alloc ?_ _)); refine blk_far ?_ NB177_179.out _; (with_reducible repeat (first | refine blk_drewN ?_ _ | refine blk_drew ?_ | refine blk_alloc ?_ _)); exact BK177.out⟩, ⟨by (with_reducible repeat (first | refine blk_drewN ?_ _ | refine blk_drew ?_ | refine blk_alloc ?_ _)); refine blk_put (cs := #[.int .i64 ((rd_T50 l0 a1_4).f0), .int .i64 ((rd_T50 l0 a1_4).f1), .string ((rd_T50 l0 a1_4).f2), .string (⟨#[]⟩ : ByteArray)]) ?_ 3 _ rfl; (with_reducible repeat (first | refine blk_drewN ?_ _ | refine blk_drew ?_ | refine blk_alloc ?_ _)); refine blk_put (cs := #[.int .i64 ((rd_T50 l0 a1_4).f0), .int .i64 ((rd_T50 l0 a1_4).f1), .string (⟨#[]⟩ : ByteArray), .string (⟨#[]⟩ : ByteArray)]) ?_ 2 _ rfl; (with_reducible repeat (first | refine blk_drewN ?_ _ | refine blk_drew ?_ | refine blk_alloc ?_ _)); refine blk_put (cs := #[.int .i64 ((rd_T50 l0 a1_4).f0), .int .i64 0, .string (⟨#[]⟩ : ByteArray), .string (⟨#[]⟩ : ByteArray)]) ?_ 1 _ rfl; (with_reducible repeat (first | refine blk_drewN ?_ _ | refine blk_drew ?_ | refine blk_alloc ?_ _)); refine blk_put (cs := #[.int .i64 0, .int .i64 0, .string (⟨#[]⟩ : ByteArray), .string (⟨#[]⟩ : ByteArray)]) ?_ 0 _ rfl; (with_reducible repeat (first | refine blk_drewN ?_ _ | refine blk_drew ?_ | refine blk_alloc ?_ _)); exact BK179.out⟩, ⟨by repeat (first | (with_reducible first | exact HB.out | apply below_alloc | apply pw_below_drewN | apply below_drew1 | refine below_set ?_ GE173.out | refine below_set ?_ GE177.out | refine below_set ?_ GE179.out) | exact HB.out)⟩⟩
              · rw [if_neg c34] at H
                have c34b0 : (((rd_T50 l0 a1_3).f2).toList == ((rd_T50 l0 a1_4).f2).toList) = false := beq_eq_false_iff_ne.mpr c34
                have c34b1 : (((rd_T50 l0 a1_3).f2).toList != ((rd_T50 l0 a1_4).f2).toList) = true := bne_iff_ne.mpr c34
                (first | rw [c34b0] | (simp only [i64_w, i32_w]; rw [c34b0]) | skip)
                have H' := Aside0.mk H
                clear H
                have hnb48 := NB177_173.out
                have hnc48 := NB173_177.out
                have hnb49 := NB177_179.out
                have hnc49 := NB179_177.out
                have hcz50_0 : w30.cell? ⟨gb177, 0, none⟩ = some (.int .i64 ((rd_T50 l0 a1_3).f0)) := (blk_cell BK177.out 0).trans rfl
                have hcz50_1 : w30.cell? ⟨gb177, 1, none⟩ = some (.int .i64 ((rd_T50 l0 a1_3).f1)) := (blk_cell BK177.out 1).trans rfl
                have hcz50_2 : w30.cell? ⟨gb177, 2, none⟩ = some (.string ((rd_T50 l0 a1_3).f2)) := (blk_cell BK177.out 2).trans rfl
                have hcz50_3 : w30.cell? ⟨gb177, 3, none⟩ = some (.string ((rd_T50 l0 a1_3).f3)) := (blk_cell BK177.out 3).trans rfl
                have hfz50_0 := blk_frozen BK177.out 0
                have hfz50_1 := blk_frozen BK177.out 1
                have hfz50_2 := blk_frozen BK177.out 2
                have hfz50_3 := blk_frozen BK177.out 3
                have hnb51 := NB179_173.out
                have hnc51 := NB173_179.out
                have hcz52_0 : w30.cell? ⟨gb179, 0, none⟩ = some (.int .i64 0) := (blk_cell BK179.out 0).trans rfl
                have hcz52_1 : w30.cell? ⟨gb179, 1, none⟩ = some (.int .i64 0) := (blk_cell BK179.out 1).trans rfl
                have hcz52_2 : w30.cell? ⟨gb179, 2, none⟩ = some (.string (⟨#[]⟩ : ByteArray)) := (blk_cell BK179.out 2).trans rfl
                have hcz52_3 : w30.cell? ⟨gb179, 3, none⟩ = some (.string (⟨#[]⟩ : ByteArray)) := (blk_cell BK179.out 3).trans rfl
                have hfz52_0 := blk_frozen BK179.out 0
                have hfz52_1 := blk_frozen BK179.out 1
                have hfz52_2 := blk_frozen BK179.out 2
                have hfz52_3 := blk_frozen BK179.out 3
                go_wp2
                repeat (go_quiet (fail); try go_wp2)
                go_meet
                case rel => exact ⟨_, (true), (by first | rfl | (simp; done) | (simp [*]; done)), H', ⟨by have := HJ4.out; first | omega | exact Nat.le_refl _⟩, ⟨by (with_reducible repeat (first | refine blk_drewN ?_ _ | refine blk_drew ?_ | refine blk_alloc ?_ _)); refine blk_far ?_ NB173_179.out _; (with_reducible repeat (first | refine blk_drewN ?_ _ | refine blk_drew ?_ | refine blk_alloc ?_ _)); refine blk_far ?_ NB173_179.out _; (with_reducible repeat (first | refine blk_drewN ?_ _ | refine blk_drew ?_ | refine blk_alloc ?_ _)); refine blk_far ?_ NB173_179.out _; (with_reducible repeat (first | refine blk_drewN ?_ _ | refine blk_drew ?_ | refine blk_alloc ?_ _)); refine blk_far ?_ NB173_179.out _; (with_reducible repeat (first | refine blk_drewN ?_ _ | refine blk_drew ?_ | refine blk_alloc ?_ _)); exact BK173.out⟩, ⟨by (with_reducible repeat (first | refine blk_drewN ?_ _ | refine blk_drew ?_ | refine blk_alloc ?_ _)); refine blk_far ?_ NB177_179.out _; (with_reducible repeat (first | refine blk_drewN ?_ _ | refine blk_drew ?_ | refine blk_alloc ?_ _)); refine blk_far ?_ NB177_179.out _; (with_reducible repeat (first | refine blk_drewN ?_ _ | refine blk_drew ?_ | refine blk_alloc ?_ _)); refine blk_far ?_ NB177_179.out _; (with_reducible repeat (first | refine blk_drewN ?_ _ | refine blk_drew ?_ | refine blk_alloc ?_ _)); refine blk_far ?_ NB177_179.out _; (with_reducible repeat (first | refine blk_drewN ?_ _ | refine blk_drew ?_ | refine blk_alloc ?_ _)); exact BK177.out⟩, ⟨by (with_reducible repeat (first | refine blk_drewN ?_ _ | refine blk_drew ?_ | refine blk_alloc ?_ _)); refine blk_put (cs := #[.int .i64 ((rd_T50 l0 a1_4).f0), .int .i64 ((rd_T50 l0 a1_4).f1), .string ((rd_T50 l0 a1_4).f2), .string (⟨#[]⟩ : ByteArray)]) ?_ 3 _ rfl; (with_reducible repeat (first | refine blk_drewN ?_ _ | refine blk_drew ?_ | refine blk_alloc ?_ _)); refine blk_put (cs := #[.int .i64 ((rd_T50 l0 a1_4).f0), .int .i64 ((rd_T50 l0 a1_4).f1), .string (⟨#[]⟩ : ByteArray), .string (⟨#[]⟩ : ByteArray)]) ?_ 2 _ rfl; (with_reducible repeat (first | refine blk_drewN ?_ _ | refine blk_drew ?_ | refine blk_alloc ?_ _)); refine blk_put (cs := #[.int .i64 ((rd_T50 l0 a1_4).f0), .int .i64 0, .string (⟨#[]⟩ : ByteArray), .string (⟨#[]⟩ : ByteArray)]) ?_ 1 _ rfl; (with_reducible repeat (first | refine blk_drewN ?_ _ | refine blk_drew ?_ | refine blk_alloc ?_ _)); refine blk_put (cs := #[.int .i64 0, .int .i64 0, .string (⟨#[]⟩ : ByteArray), .string (⟨#[]⟩ : ByteArray)]) ?_ 0 _ rfl; (with_reducible repeat (first | refine blk_drewN ?_ _ | refine blk_drew ?_ | refine blk_alloc ?_ _)); exact BK179.out⟩, ⟨by repeat (first | (with_reducible first | exact HB.out | apply below_alloc | apply pw_below_drewN | apply below_drew1 | refine below_set ?_ GE173.out | refine below_set ?_ GE177.out | refine below_set ?_ GE179.out) | exact HB.out)⟩⟩
             case rest =>
              clear HC24
              try clear c1
              try clear p1
              try clear q1
              try clear hx1
              try clear c2
              try clear p2
              try clear c3
              try clear c4
              try clear c5
              try clear c8
              try clear c8b0
              try clear c9
              try clear c9b0
              try clear c10
              try clear c10b0
              try clear c10b1
              try clear c12
              try clear c12b0
              try clear c14
              try clear c14b0
              try clear c16
              try clear c16b0
              try clear p17
              try clear q17
              try clear hx17
              try clear c19
              try clear c20
              try clear c20b0
              try clear c21
              try clear c21b0
              try clear c22
              try clear c22b0
              try clear c23
              try clear c23b0
              try clear c27
              try clear c31
              try clear c32
              try clear c34
              try clear c34b0
              try clear c34b1
              try clear c35
              try clear c35b0
              try clear c35b1
              try clear c36
              try clear c37
              try clear c39
              try clear c42
              try clear c43
              try clear c45
              try clear c48
              try clear c49
              try clear c51
              try clear hcz11_0
              try clear hcz11_1
              try clear hcz11_2
              try clear hcz11_3
              try clear hcz11_4
              try clear hcz13_0
              try clear hcz13_1
              try clear hcz13_2
              try clear hcz13_3
              try clear hcz13_4
              try clear hcz15_0
              try clear hcz15_1
              try clear hcz15_2
              try clear hcz15_3
              try clear hcz15_4
              try clear hcz17_0
              try clear hcz17_1
              try clear hcz17_2
              try clear hcz17_3
              try clear hcz17_4
              try clear hcz18_0
              try clear hcz18_1
              try clear hcz18_2
              try clear hcz18_3
              try clear hcz18_4
              try clear hcz25_0
              try clear hcz25_1
              try clear hcz25_2
              try clear hcz25_3
              try clear hcz25_4
              try clear hcz28_0
              try clear hcz28_1
              try clear hcz28_2
              try clear hcz28_3
              try clear hcz29_0
              try clear hcz29_1
              try clear hcz29_2
              try clear hcz29_3
              try clear hcz29_4
              try clear hcz33_0
              try clear hcz33_1
              try clear hcz33_2
              try clear hcz33_3
              try clear hcz38_0
              try clear hcz38_1
              try clear hcz38_2
              try clear hcz38_3
              try clear hcz40_0
              try clear hcz40_1
              try clear hcz40_2
              try clear hcz40_3
              try clear hcz41_0
              try clear hcz41_1
              try clear hcz41_2
              try clear hcz41_3
              try clear hcz41_4
              try clear hcz44_0
              try clear hcz44_1
              try clear hcz44_2
              try clear hcz44_3
              try clear hcz46_0
              try clear hcz46_1
              try clear hcz46_2
              try clear hcz46_3
              try clear hcz47_0
              try clear hcz47_1
              try clear hcz47_2
              try clear hcz47_3
              try clear hcz47_4
              try clear hcz50_0
              try clear hcz50_1
              try clear hcz50_2
              try clear hcz50_3
              try clear hcz52_0
              try clear hcz52_1
              try clear hcz52_2
              try clear hcz52_3
              try clear hcz7_0
              try clear hcz7_1
              try clear hcz7_2
              try clear hcz7_3
              try clear hcz7_4
              try clear hfz11_0
              try clear hfz11_1
              try clear hfz11_2
              try clear hfz11_3
              try clear hfz11_4
              try clear hfz13_0
              try clear hfz13_1
              try clear hfz13_2
              try clear hfz13_3
              try clear hfz13_4
              try clear hfz15_0
              try clear hfz15_1
              try clear hfz15_2
              try clear hfz15_3
              try clear hfz15_4
              try clear hfz17_0
              try clear hfz17_1
              try clear hfz17_2
              try clear hfz17_3
              try clear hfz17_4
              try clear hfz18_0
              try clear hfz18_1
              try clear hfz18_2
              try clear hfz18_3
              try clear hfz18_4
              try clear hfz25_0
              try clear hfz25_1
              try clear hfz25_2
              try clear hfz25_3
              try clear hfz25_4
              try clear hfz28_0
              try clear hfz28_1
              try clear hfz28_2
              try clear hfz28_3
              try clear hfz29_0
              try clear hfz29_1
              try clear hfz29_2
              try clear hfz29_3
              try clear hfz29_4
              try clear hfz33_0
              try clear hfz33_1
              try clear hfz33_2
              try clear hfz33_3
              try clear hfz38_0
              try clear hfz38_1
              try clear hfz38_2
              try clear hfz38_3
              try clear hfz40_0
              try clear hfz40_1
              try clear hfz40_2
              try clear hfz40_3
              try clear hfz41_0
              try clear hfz41_1
              try clear hfz41_2
              try clear hfz41_3
              try clear hfz41_4
              try clear hfz44_0
              try clear hfz44_1
              try clear hfz44_2
              try clear hfz44_3
              try clear hfz46_0
              try clear hfz46_1
              try clear hfz46_2
              try clear hfz46_3
              try clear hfz47_0
              try clear hfz47_1
              try clear hfz47_2
              try clear hfz47_3
              try clear hfz47_4
              try clear hfz50_0
              try clear hfz50_1
              try clear hfz50_2
              try clear hfz50_3
              try clear hfz52_0
              try clear hfz52_1
              try clear hfz52_2
              try clear hfz52_3
              try clear hfz7_0
              try clear hfz7_1
              try clear hfz7_2
              try clear hfz7_3
              try clear hfz7_4
              try clear hx176_0
              try clear hx176_1
              try clear hx176_2
              try clear hx176_3
              try clear hx178_0
              try clear hx178_1
              try clear hx178_2
              try clear hx178_3
              try clear p176
              try clear p178
              try clear p2
              try clear q176
              try clear q178
              obtain ⟨kq, x84_23, rfl, HA, HJ23, BK173, BK177, BK179, HB⟩ := hcut
              cases kq with
              | zero => exact absurd HA.out (by simp [cartoucheref10_Holds.j1])
              | succ kj23 =>
               have H := HA.out
               clear HA
               simp only [cartoucheref10_Holds.j1] at H
               by_cases c53 : x84_23 = true
               · subst c53
                 have H1 : (some false) = some r := by rw [if_pos rfl] at H; exact H
                 clear H
                 have H := H1
                 clear H1
                 obtain rfl := Option.some.inj H
                 go_wp2
                 repeat (go_quiet (fail); try go_wp2)
                 go_ret
                 exact ⟨by first | rfl | (simp [errW_none, errW_some] <;> rfl) | (simp [*, errW_none, errW_some] <;> rfl), by repeat (first | (with_reducible first | exact HB.out | apply below_alloc | apply pw_below_drewN | apply below_drew1 | refine below_set ?_ GE173.out | refine below_set ?_ GE177.out | refine below_set ?_ GE179.out) | exact HB.out)⟩
               · replace c53 := Bool.eq_false_iff.mpr c53
                 subst c53
                 have H1 : (if a1_0 = 1 then (if ((rd_T50 l0 a1_3).f0) = 3 then (if ((rd_T50 l0 a1_4).f0) = 3 then (some (decide (t174 < t175))) else (some false)) else (some false)) else (if a1_0 = 2 then (if ((rd_T50 l0 a1_3).f0) = 3 then (if ((rd_T50 l0 a1_4).f0) = 2 then (some (((rd_T50 l0 a1_3).f3).toList == ((rd_T50 l0 a1_4).f3).toList)) else (some false)) else (some false)) else (if a1_0 = 3 then (if ((rd_T50 l0 a1_3).f0) = 2 then (cartoucheref10_Holds.j2 kj23 l0 t175 (((rd_T50 l0 a1_4).f0) != 3) a1_0 a1_1 a1_2 a1_3 a1_4 ((rd_T50 l0 a1_3).f0) ((rd_T50 l0 a1_3).f1) ((rd_T50 l0 a1_3).f2) ((rd_T50 l0 a1_3).f3)) else (cartoucheref10_Holds.j2 kj23 l0 t175 true a1_0 a1_1 a1_2 a1_3 a1_4 ((rd_T50 l0 a1_3).f0) ((rd_T50 l0 a1_3).f1) ((rd_T50 l0 a1_3).f2) ((rd_T50 l0 a1_3).f3))) else (cartoucheref10_Holds.j2 kj23 l0 t175 true a1_0 a1_1 a1_2 a1_3 a1_4 ((rd_T50 l0 a1_3).f0) ((rd_T50 l0 a1_3).f1) ((rd_T50 l0 a1_3).f2) ((rd_T50 l0 a1_3).f3))))) = some r := by rw [if_neg (show ¬ (false = true) by decide)] at H; exact H
                 clear H
                 have H := H1
                 clear H1
                 by_cases c54 : a1_0 = 1
                 · rw [if_pos c54] at H
                   have c54b0 : (a1_0 == 1) = true := beq_iff_eq.mpr c54
                   have c54b1 : (a1_0 != 1) = false := bne_eq_false_iff_eq.mpr c54
                   clear c54
                   by_cases c55 : ((rd_T50 l0 a1_3).f0) = 3
                   · rw [if_pos c55] at H
                     have c55b0 : (((rd_T50 l0 a1_3).f0) == 3) = true := beq_iff_eq.mpr c55
                     have c55b1 : (((rd_T50 l0 a1_3).f0) != 3) = false := bne_eq_false_iff_eq.mpr c55
                     clear c55
                     by_cases c56 : ((rd_T50 l0 a1_4).f0) = 3
                     · rw [if_pos c56] at H
                       have c56b0 : (((rd_T50 l0 a1_4).f0) == 3) = true := beq_iff_eq.mpr c56
                       have c56b1 : (((rd_T50 l0 a1_4).f0) != 3) = false := bne_eq_false_iff_eq.mpr c56
                       clear c56
                       obtain rfl := Option.some.inj H
                       have hnb57 := NB173_177.out
                       have hnc57 := NB177_173.out
                       have hnb58 := NB173_179.out
                       have hnc58 := NB179_173.out
                       have hcz59_0 : wc.cell? ⟨gb173, 0, none⟩ = some (.int .i64 a1_0) := (blk_cell BK173.out 0).trans rfl
                       have hcz59_1 : wc.cell? ⟨gb173, 1, none⟩ = some (.int .i64 a1_1) := (blk_cell BK173.out 1).trans rfl
                       have hcz59_2 : wc.cell? ⟨gb173, 2, none⟩ = some (.int .i64 a1_2) := (blk_cell BK173.out 2).trans rfl
                       have hcz59_3 : wc.cell? ⟨gb173, 3, none⟩ = some (.int .i64 a1_3) := (blk_cell BK173.out 3).trans rfl
                       have hcz59_4 : wc.cell? ⟨gb173, 4, none⟩ = some (.int .i64 a1_4) := (blk_cell BK173.out 4).trans rfl
                       have hfz59_0 := blk_frozen BK173.out 0
                       have hfz59_1 := blk_frozen BK173.out 1
                       have hfz59_2 := blk_frozen BK173.out 2
                       have hfz59_3 := blk_frozen BK173.out 3
                       have hfz59_4 := blk_frozen BK173.out 4
                       have hnb60 := NB177_179.out
                       have hnc60 := NB179_177.out
                       have hcz61_0 : wc.cell? ⟨gb177, 0, none⟩ = some (.int .i64 ((rd_T50 l0 a1_3).f0)) := (blk_cell BK177.out 0).trans rfl
                       have hcz61_1 : wc.cell? ⟨gb177, 1, none⟩ = some (.int .i64 ((rd_T50 l0 a1_3).f1)) := (blk_cell BK177.out 1).trans rfl
                       have hcz61_2 : wc.cell? ⟨gb177, 2, none⟩ = some (.string ((rd_T50 l0 a1_3).f2)) := (blk_cell BK177.out 2).trans rfl
                       have hcz61_3 : wc.cell? ⟨gb177, 3, none⟩ = some (.string ((rd_T50 l0 a1_3).f3)) := (blk_cell BK177.out 3).trans rfl
                       have hfz61_0 := blk_frozen BK177.out 0
                       have hfz61_1 := blk_frozen BK177.out 1
                       have hfz61_2 := blk_frozen BK177.out 2
                       have hfz61_3 := blk_frozen BK177.out 3
                       have hcz62_0 : wc.cell? ⟨gb179, 0, none⟩ = some (.int .i64 ((rd_T50 l0 a1_4).f0)) := (blk_cell BK179.out 0).trans rfl
                       have hcz62_1 : wc.cell? ⟨gb179, 1, none⟩ = some (.int .i64 ((rd_T50 l0 a1_4).f1)) := (blk_cell BK179.out 1).trans rfl
                       have hcz62_2 : wc.cell? ⟨gb179, 2, none⟩ = some (.string ((rd_T50 l0 a1_4).f2)) := (blk_cell BK179.out 2).trans rfl
                       have hcz62_3 : wc.cell? ⟨gb179, 3, none⟩ = some (.string ((rd_T50 l0 a1_4).f3)) := (blk_cell BK179.out 3).trans rfl
                       have hfz62_0 := blk_frozen BK179.out 0
                       have hfz62_1 := blk_frozen BK179.out 1
                       have hfz62_2 := blk_frozen BK179.out 2
                       have hfz62_3 := blk_frozen BK179.out 3
                       go_wp2
                       repeat (go_quiet (fail); try go_wp2)
                       go_ret
                       exact ⟨by first | rfl | (simp [errW_none, errW_some] <;> rfl) | (simp [*, errW_none, errW_some] <;> rfl), by repeat (first | (with_reducible first | exact HB.out | apply below_alloc | apply pw_below_drewN | apply below_drew1 | refine below_set ?_ GE173.out | refine below_set ?_ GE177.out | refine below_set ?_ GE179.out) | exact HB.out)⟩
                     · rw [if_neg c56] at H
                       have c56b0 : (((rd_T50 l0 a1_4).f0) == 3) = false := beq_eq_false_iff_ne.mpr c56
                       have c56b1 : (((rd_T50 l0 a1_4).f0) != 3) = true := bne_iff_ne.mpr c56
                       obtain rfl := Option.some.inj H
                       have hnb63 := NB173_177.out
                       have hnc63 := NB177_173.out
                       have hnb64 := NB173_179.out
                       have hnc64 := NB179_173.out
                       have hcz65_0 : wc.cell? ⟨gb173, 0, none⟩ = some (.int .i64 a1_0) := (blk_cell BK173.out 0).trans rfl
                       have hcz65_1 : wc.cell? ⟨gb173, 1, none⟩ = some (.int .i64 a1_1) := (blk_cell BK173.out 1).trans rfl
                       have hcz65_2 : wc.cell? ⟨gb173, 2, none⟩ = some (.int .i64 a1_2) := (blk_cell BK173.out 2).trans rfl
                       have hcz65_3 : wc.cell? ⟨gb173, 3, none⟩ = some (.int .i64 a1_3) := (blk_cell BK173.out 3).trans rfl
                       have hcz65_4 : wc.cell? ⟨gb173, 4, none⟩ = some (.int .i64 a1_4) := (blk_cell BK173.out 4).trans rfl
                       have hfz65_0 := blk_frozen BK173.out 0
                       have hfz65_1 := blk_frozen BK173.out 1
                       have hfz65_2 := blk_frozen BK173.out 2
                       have hfz65_3 := blk_frozen BK173.out 3
                       have hfz65_4 := blk_frozen BK173.out 4
                       have hnb66 := NB177_179.out
                       have hnc66 := NB179_177.out
                       have hcz67_0 : wc.cell? ⟨gb177, 0, none⟩ = some (.int .i64 ((rd_T50 l0 a1_3).f0)) := (blk_cell BK177.out 0).trans rfl
                       have hcz67_1 : wc.cell? ⟨gb177, 1, none⟩ = some (.int .i64 ((rd_T50 l0 a1_3).f1)) := (blk_cell BK177.out 1).trans rfl
                       have hcz67_2 : wc.cell? ⟨gb177, 2, none⟩ = some (.string ((rd_T50 l0 a1_3).f2)) := (blk_cell BK177.out 2).trans rfl
                       have hcz67_3 : wc.cell? ⟨gb177, 3, none⟩ = some (.string ((rd_T50 l0 a1_3).f3)) := (blk_cell BK177.out 3).trans rfl
                       have hfz67_0 := blk_frozen BK177.out 0
                       have hfz67_1 := blk_frozen BK177.out 1
                       have hfz67_2 := blk_frozen BK177.out 2
                       have hfz67_3 := blk_frozen BK177.out 3
                       have hcz68_0 : wc.cell? ⟨gb179, 0, none⟩ = some (.int .i64 ((rd_T50 l0 a1_4).f0)) := (blk_cell BK179.out 0).trans rfl
                       have hcz68_1 : wc.cell? ⟨gb179, 1, none⟩ = some (.int .i64 ((rd_T50 l0 a1_4).f1)) := (blk_cell BK179.out 1).trans rfl
                       have hcz68_2 : wc.cell? ⟨gb179, 2, none⟩ = some (.string ((rd_T50 l0 a1_4).f2)) := (blk_cell BK179.out 2).trans rfl
                       have hcz68_3 : wc.cell? ⟨gb179, 3, none⟩ = some (.string ((rd_T50 l0 a1_4).f3)) := (blk_cell BK179.out 3).trans rfl
                       have hfz68_0 := blk_frozen BK179.out 0
                       have hfz68_1 := blk_frozen BK179.out 1
                       have hfz68_2 := blk_frozen BK179.out 2
                       have hfz68_3 := blk_frozen BK179.out 3
                       go_wp2
                       repeat (go_quiet (fail); try go_wp2)
                       go_ret
                       exact ⟨by first | rfl | (simp [errW_none, errW_some] <;> rfl) | (simp [*, errW_none, errW_some] <;> rfl), by repeat (first | (with_reducible first | exact HB.out | apply below_alloc | apply pw_below_drewN | apply below_drew1 | refine below_set ?_ GE173.out | refine below_set ?_ GE177.out | refine below_set ?_ GE179.out) | exact HB.out)⟩
                   · rw [if_neg c55] at H
                     have c55b0 : (((rd_T50 l0 a1_3).f0) == 3) = false := beq_eq_false_iff_ne.mpr c55
                     have c55b1 : (((rd_T50 l0 a1_3).f0) != 3) = true := bne_iff_ne.mpr c55
                     obtain rfl := Option.some.inj H
                     have hnb69 := NB173_177.out
                     have hnc69 := NB177_173.out
                     have hnb70 := NB173_179.out
                     have hnc70 := NB179_173.out
                     have hcz71_0 : wc.cell? ⟨gb173, 0, none⟩ = some (.int .i64 a1_0) := (blk_cell BK173.out 0).trans rfl
                     have hcz71_1 : wc.cell? ⟨gb173, 1, none⟩ = some (.int .i64 a1_1) := (blk_cell BK173.out 1).trans rfl
                     have hcz71_2 : wc.cell? ⟨gb173, 2, none⟩ = some (.int .i64 a1_2) := (blk_cell BK173.out 2).trans rfl
                     have hcz71_3 : wc.cell? ⟨gb173, 3, none⟩ = some (.int .i64 a1_3) := (blk_cell BK173.out 3).trans rfl
                     have hcz71_4 : wc.cell? ⟨gb173, 4, none⟩ = some (.int .i64 a1_4) := (blk_cell BK173.out 4).trans rfl
                     have hfz71_0 := blk_frozen BK173.out 0
                     have hfz71_1 := blk_frozen BK173.out 1
                     have hfz71_2 := blk_frozen BK173.out 2
                     have hfz71_3 := blk_frozen BK173.out 3
                     have hfz71_4 := blk_frozen BK173.out 4
                     have hnb72 := NB177_179.out
                     have hnc72 := NB179_177.out
                     have hcz73_0 : wc.cell? ⟨gb177, 0, none⟩ = some (.int .i64 ((rd_T50 l0 a1_3).f0)) := (blk_cell BK177.out 0).trans rfl
                     have hcz73_1 : wc.cell? ⟨gb177, 1, none⟩ = some (.int .i64 ((rd_T50 l0 a1_3).f1)) := (blk_cell BK177.out 1).trans rfl
                     have hcz73_2 : wc.cell? ⟨gb177, 2, none⟩ = some (.string ((rd_T50 l0 a1_3).f2)) := (blk_cell BK177.out 2).trans rfl
                     have hcz73_3 : wc.cell? ⟨gb177, 3, none⟩ = some (.string ((rd_T50 l0 a1_3).f3)) := (blk_cell BK177.out 3).trans rfl
                     have hfz73_0 := blk_frozen BK177.out 0
                     have hfz73_1 := blk_frozen BK177.out 1
                     have hfz73_2 := blk_frozen BK177.out 2
                     have hfz73_3 := blk_frozen BK177.out 3
                     go_wp2
                     repeat (go_quiet (fail); try go_wp2)
                     go_ret
                     exact ⟨by first | rfl | (simp [errW_none, errW_some] <;> rfl) | (simp [*, errW_none, errW_some] <;> rfl), by repeat (first | (with_reducible first | exact HB.out | apply below_alloc | apply pw_below_drewN | apply below_drew1 | refine below_set ?_ GE173.out | refine below_set ?_ GE177.out | refine below_set ?_ GE179.out) | exact HB.out)⟩
                 · rw [if_neg c54] at H
                   have c54b0 : (a1_0 == 1) = false := beq_eq_false_iff_ne.mpr c54
                   have c54b1 : (a1_0 != 1) = true := bne_iff_ne.mpr c54
                   by_cases c74 : a1_0 = 2
                   · rw [if_pos c74] at H
                     have c74b0 : (a1_0 == 2) = true := beq_iff_eq.mpr c74
                     have c74b1 : (a1_0 != 2) = false := bne_eq_false_iff_eq.mpr c74
                     clear c74
                     by_cases c75 : ((rd_T50 l0 a1_3).f0) = 3
                     · rw [if_pos c75] at H
                       have c75b0 : (((rd_T50 l0 a1_3).f0) == 3) = true := beq_iff_eq.mpr c75
                       have c75b1 : (((rd_T50 l0 a1_3).f0) != 3) = false := bne_eq_false_iff_eq.mpr c75
                       clear c75
                       by_cases c76 : ((rd_T50 l0 a1_4).f0) = 2
                       · rw [if_pos c76] at H
                         have c76b0 : (((rd_T50 l0 a1_4).f0) == 2) = true := beq_iff_eq.mpr c76
                         have c76b1 : (((rd_T50 l0 a1_4).f0) != 2) = false := bne_eq_false_iff_eq.mpr c76
                         clear c76
                         obtain rfl := Option.some.inj H
                         have hnb77 := NB173_177.out
                         have hnc77 := NB177_173.out
                         have hnb78 := NB173_179.out
                         have hnc78 := NB179_173.out
                         have hcz79_0 : wc.cell? ⟨gb173, 0, none⟩ = some (.int .i64 a1_0) := (blk_cell BK173.out 0).trans rfl
                         have hcz79_1 : wc.cell? ⟨gb173, 1, none⟩ = some (.int .i64 a1_1) := (blk_cell BK173.out 1).trans rfl
                         have hcz79_2 : wc.cell? ⟨gb173, 2, none⟩ = some (.int .i64 a1_2) := (blk_cell BK173.out 2).trans rfl
                         have hcz79_3 : wc.cell? ⟨gb173, 3, none⟩ = some (.int .i64 a1_3) := (blk_cell BK173.out 3).trans rfl
                         have hcz79_4 : wc.cell? ⟨gb173, 4, none⟩ = some (.int .i64 a1_4) := (blk_cell BK173.out 4).trans rfl
                         have hfz79_0 := blk_frozen BK173.out 0
                         have hfz79_1 := blk_frozen BK173.out 1
                         have hfz79_2 := blk_frozen BK173.out 2
                         have hfz79_3 := blk_frozen BK173.out 3
                         have hfz79_4 := blk_frozen BK173.out 4
                         have hnb80 := NB177_179.out
                         have hnc80 := NB179_177.out
                         have hcz81_0 : wc.cell? ⟨gb177, 0, none⟩ = some (.int .i64 ((rd_T50 l0 a1_3).f0)) := (blk_cell BK177.out 0).trans rfl
                         have hcz81_1 : wc.cell? ⟨gb177, 1, none⟩ = some (.int .i64 ((rd_T50 l0 a1_3).f1)) := (blk_cell BK177.out 1).trans rfl
                         have hcz81_2 : wc.cell? ⟨gb177, 2, none⟩ = some (.string ((rd_T50 l0 a1_3).f2)) := (blk_cell BK177.out 2).trans rfl
                         have hcz81_3 : wc.cell? ⟨gb177, 3, none⟩ = some (.string ((rd_T50 l0 a1_3).f3)) := (blk_cell BK177.out 3).trans rfl
                         have hfz81_0 := blk_frozen BK177.out 0
                         have hfz81_1 := blk_frozen BK177.out 1
                         have hfz81_2 := blk_frozen BK177.out 2
                         have hfz81_3 := blk_frozen BK177.out 3
                         have hcz82_0 : wc.cell? ⟨gb179, 0, none⟩ = some (.int .i64 ((rd_T50 l0 a1_4).f0)) := (blk_cell BK179.out 0).trans rfl
                         have hcz82_1 : wc.cell? ⟨gb179, 1, none⟩ = some (.int .i64 ((rd_T50 l0 a1_4).f1)) := (blk_cell BK179.out 1).trans rfl
                         have hcz82_2 : wc.cell? ⟨gb179, 2, none⟩ = some (.string ((rd_T50 l0 a1_4).f2)) := (blk_cell BK179.out 2).trans rfl
                         have hcz82_3 : wc.cell? ⟨gb179, 3, none⟩ = some (.string ((rd_T50 l0 a1_4).f3)) := (blk_cell BK179.out 3).trans rfl
                         have hfz82_0 := blk_frozen BK179.out 0
                         have hfz82_1 := blk_frozen BK179.out 1
                         have hfz82_2 := blk_frozen BK179.out 2
                         have hfz82_3 := blk_frozen BK179.out 3
                         go_wp2
                         repeat (go_quiet (fail); try go_wp2)
                         go_ret
                         exact ⟨by first | rfl | (simp [errW_none, errW_some] <;> rfl) | (simp [*, errW_none, errW_some] <;> rfl), by repeat (first | (with_reducible first | exact HB.out | apply below_alloc | apply pw_below_drewN | apply below_drew1 | refine below_set ?_ GE173.out | refine below_set ?_ GE177.out | refine below_set ?_ GE179.out) | exact HB.out)⟩
                       · rw [if_neg c76] at H
                         have c76b0 : (((rd_T50 l0 a1_4).f0) == 2) = false := beq_eq_false_iff_ne.mpr c76
                         have c76b1 : (((rd_T50 l0 a1_4).f0) != 2) = true := bne_iff_ne.mpr c76
                         obtain rfl := Option.some.inj H
                         have hnb83 := NB173_177.out
                         have hnc83 := NB177_173.out
                         have hnb84 := NB173_179.out
                         have hnc84 := NB179_173.out
                         have hcz85_0 : wc.cell? ⟨gb173, 0, none⟩ = some (.int .i64 a1_0) := (blk_cell BK173.out 0).trans rfl
                         have hcz85_1 : wc.cell? ⟨gb173, 1, none⟩ = some (.int .i64 a1_1) := (blk_cell BK173.out 1).trans rfl
                         have hcz85_2 : wc.cell? ⟨gb173, 2, none⟩ = some (.int .i64 a1_2) := (blk_cell BK173.out 2).trans rfl
                         have hcz85_3 : wc.cell? ⟨gb173, 3, none⟩ = some (.int .i64 a1_3) := (blk_cell BK173.out 3).trans rfl
                         have hcz85_4 : wc.cell? ⟨gb173, 4, none⟩ = some (.int .i64 a1_4) := (blk_cell BK173.out 4).trans rfl
                         have hfz85_0 := blk_frozen BK173.out 0
                         have hfz85_1 := blk_frozen BK173.out 1
                         have hfz85_2 := blk_frozen BK173.out 2
                         have hfz85_3 := blk_frozen BK173.out 3
                         have hfz85_4 := blk_frozen BK173.out 4
                         have hnb86 := NB177_179.out
                         have hnc86 := NB179_177.out
                         have hcz87_0 : wc.cell? ⟨gb177, 0, none⟩ = some (.int .i64 ((rd_T50 l0 a1_3).f0)) := (blk_cell BK177.out 0).trans rfl
                         have hcz87_1 : wc.cell? ⟨gb177, 1, none⟩ = some (.int .i64 ((rd_T50 l0 a1_3).f1)) := (blk_cell BK177.out 1).trans rfl
                         have hcz87_2 : wc.cell? ⟨gb177, 2, none⟩ = some (.string ((rd_T50 l0 a1_3).f2)) := (blk_cell BK177.out 2).trans rfl
                         have hcz87_3 : wc.cell? ⟨gb177, 3, none⟩ = some (.string ((rd_T50 l0 a1_3).f3)) := (blk_cell BK177.out 3).trans rfl
                         have hfz87_0 := blk_frozen BK177.out 0
                         have hfz87_1 := blk_frozen BK177.out 1
                         have hfz87_2 := blk_frozen BK177.out 2
                         have hfz87_3 := blk_frozen BK177.out 3
                         have hcz88_0 : wc.cell? ⟨gb179, 0, none⟩ = some (.int .i64 ((rd_T50 l0 a1_4).f0)) := (blk_cell BK179.out 0).trans rfl
                         have hcz88_1 : wc.cell? ⟨gb179, 1, none⟩ = some (.int .i64 ((rd_T50 l0 a1_4).f1)) := (blk_cell BK179.out 1).trans rfl
                         have hcz88_2 : wc.cell? ⟨gb179, 2, none⟩ = some (.string ((rd_T50 l0 a1_4).f2)) := (blk_cell BK179.out 2).trans rfl
                         have hcz88_3 : wc.cell? ⟨gb179, 3, none⟩ = some (.string ((rd_T50 l0 a1_4).f3)) := (blk_cell BK179.out 3).trans rfl
                         have hfz88_0 := blk_frozen BK179.out 0
                         have hfz88_1 := blk_frozen BK179.out 1
                         have hfz88_2 := blk_frozen BK179.out 2
                         have hfz88_3 := blk_frozen BK179.out 3
                         go_wp2
                         repeat (go_quiet (fail); try go_wp2)
                         go_ret
                         exact ⟨by first | rfl | (simp [errW_none, errW_some] <;> rfl) | (simp [*, errW_none, errW_some] <;> rfl), by repeat (first | (with_reducible first | exact HB.out | apply below_alloc | apply pw_below_drewN | apply below_drew1 | refine below_set ?_ GE173.out | refine below_set ?_ GE177.out | refine below_set ?_ GE179.out) | exact HB.out)⟩
                     · rw [if_neg c75] at H
                       have c75b0 : (((rd_T50 l0 a1_3).f0) == 3) = false := beq_eq_false_iff_ne.mpr c75
                       have c75b1 : (((rd_T50 l0 a1_3).f0) != 3) = true := bne_iff_ne.mpr c75
                       obtain rfl := Option.some.inj H
                       have hnb89 := NB173_177.out
                       have hnc89 := NB177_173.out
                       have hnb90 := NB173_179.out
                       have hnc90 := NB179_173.out
                       have hcz91_0 : wc.cell? ⟨gb173, 0, none⟩ = some (.int .i64 a1_0) := (blk_cell BK173.out 0).trans rfl
                       have hcz91_1 : wc.cell? ⟨gb173, 1, none⟩ = some (.int .i64 a1_1) := (blk_cell BK173.out 1).trans rfl
                       have hcz91_2 : wc.cell? ⟨gb173, 2, none⟩ = some (.int .i64 a1_2) := (blk_cell BK173.out 2).trans rfl
                       have hcz91_3 : wc.cell? ⟨gb173, 3, none⟩ = some (.int .i64 a1_3) := (blk_cell BK173.out 3).trans rfl
                       have hcz91_4 : wc.cell? ⟨gb173, 4, none⟩ = some (.int .i64 a1_4) := (blk_cell BK173.out 4).trans rfl
                       have hfz91_0 := blk_frozen BK173.out 0
                       have hfz91_1 := blk_frozen BK173.out 1
                       have hfz91_2 := blk_frozen BK173.out 2
                       have hfz91_3 := blk_frozen BK173.out 3
                       have hfz91_4 := blk_frozen BK173.out 4
                       have hnb92 := NB177_179.out
                       have hnc92 := NB179_177.out
                       have hcz93_0 : wc.cell? ⟨gb177, 0, none⟩ = some (.int .i64 ((rd_T50 l0 a1_3).f0)) := (blk_cell BK177.out 0).trans rfl
                       have hcz93_1 : wc.cell? ⟨gb177, 1, none⟩ = some (.int .i64 ((rd_T50 l0 a1_3).f1)) := (blk_cell BK177.out 1).trans rfl
                       have hcz93_2 : wc.cell? ⟨gb177, 2, none⟩ = some (.string ((rd_T50 l0 a1_3).f2)) := (blk_cell BK177.out 2).trans rfl
                       have hcz93_3 : wc.cell? ⟨gb177, 3, none⟩ = some (.string ((rd_T50 l0 a1_3).f3)) := (blk_cell BK177.out 3).trans rfl
                       have hfz93_0 := blk_frozen BK177.out 0
                       have hfz93_1 := blk_frozen BK177.out 1
                       have hfz93_2 := blk_frozen BK177.out 2
                       have hfz93_3 := blk_frozen BK177.out 3
                       go_wp2
                       repeat (go_quiet (fail); try go_wp2)
                       go_ret
                       exact ⟨by first | rfl | (simp [errW_none, errW_some] <;> rfl) | (simp [*, errW_none, errW_some] <;> rfl), by repeat (first | (with_reducible first | exact HB.out | apply below_alloc | apply pw_below_drewN | apply below_drew1 | refine below_set ?_ GE173.out | refine below_set ?_ GE177.out | refine below_set ?_ GE179.out) | exact HB.out)⟩
                   · rw [if_neg c74] at H
                     have c74b0 : (a1_0 == 2) = false := beq_eq_false_iff_ne.mpr c74
                     have c74b1 : (a1_0 != 2) = true := bne_iff_ne.mpr c74
                     have HC94 := Aside0.mk H
                     clear H
                     have hnb95 := NB173_177.out
                     have hnc95 := NB177_173.out
                     have hnb96 := NB173_179.out
                     have hnc96 := NB179_173.out
                     have hcz97_0 : wc.cell? ⟨gb173, 0, none⟩ = some (.int .i64 a1_0) := (blk_cell BK173.out 0).trans rfl
                     have hcz97_1 : wc.cell? ⟨gb173, 1, none⟩ = some (.int .i64 a1_1) := (blk_cell BK173.out 1).trans rfl
                     have hcz97_2 : wc.cell? ⟨gb173, 2, none⟩ = some (.int .i64 a1_2) := (blk_cell BK173.out 2).trans rfl
                     have hcz97_3 : wc.cell? ⟨gb173, 3, none⟩ = some (.int .i64 a1_3) := (blk_cell BK173.out 3).trans rfl
                     have hcz97_4 : wc.cell? ⟨gb173, 4, none⟩ = some (.int .i64 a1_4) := (blk_cell BK173.out 4).trans rfl
                     have hfz97_0 := blk_frozen BK173.out 0
                     have hfz97_1 := blk_frozen BK173.out 1
                     have hfz97_2 := blk_frozen BK173.out 2
                     have hfz97_3 := blk_frozen BK173.out 3
                     have hfz97_4 := blk_frozen BK173.out 4
                     go_upto_region 13 with (fail)
                     repeat (go_quiet (fail); go_upto_region 13 with (fail))
                     go_cut [131] (fun v131 wc => ∃ (kq : Nat) (x131_93 : Bool), v131 = .bool x131_93 ∧ Aside0 (cartoucheref10_Holds.j2 kq l0 t175 x131_93 a1_0 a1_1 a1_2 a1_3 a1_4 ((rd_T50 l0 a1_3).f0) ((rd_T50 l0 a1_3).f1) ((rd_T50 l0 a1_3).f2) ((rd_T50 l0 a1_3).f3) = some r) ∧ Aside0 (kq ≤ kj23) ∧ Aside0 (wc.heap[gb173]? = some (.cells #[.int .i64 a1_0, .int .i64 a1_1, .int .i64 a1_2, .int .i64 a1_3, .int .i64 a1_4] 24 (0, 0))) ∧ Aside0 (wc.heap[gb177]? = some (.cells #[.int .i64 ((rd_T50 l0 a1_3).f0), .int .i64 ((rd_T50 l0 a1_3).f1), .string ((rd_T50 l0 a1_3).f2), .string ((rd_T50 l0 a1_3).f3)] 50 (0, 0))) ∧ Aside0 (wc.heap[gb179]? = some (.cells #[.int .i64 ((rd_T50 l0 a1_4).f0), .int .i64 ((rd_T50 l0 a1_4).f1), .string ((rd_T50 l0 a1_4).f2), .string ((rd_T50 l0 a1_4).f3)] 50 (0, 0))) ∧ Aside0 (Below w.heap.size w wc))
                     case first =>
                      have H := HC94.out
                      clear HC94
                      by_cases c98 : a1_0 = 3
                      · rw [if_pos c98] at H
                        have c98b0 : (a1_0 == 3) = true := beq_iff_eq.mpr c98
                        have c98b1 : (a1_0 != 3) = false := bne_eq_false_iff_eq.mpr c98
                        clear c98
                        (first | rw [c98b0] | (simp only [i64_w, i32_w]; rw [c98b0]) | skip)
                        by_cases c99 : ((rd_T50 l0 a1_3).f0) = 2
                        · rw [if_pos c99] at H
                          have c99b0 : (((rd_T50 l0 a1_3).f0) == 2) = true := beq_iff_eq.mpr c99
                          have c99b1 : (((rd_T50 l0 a1_3).f0) != 2) = false := bne_eq_false_iff_eq.mpr c99
                          clear c99
                          have H' := Aside0.mk H
                          clear H
                          have hnb100 := NB173_177.out
                          have hnc100 := NB177_173.out
                          have hnb101 := NB173_179.out
                          have hnc101 := NB179_173.out
                          have hcz102_0 : wc.cell? ⟨gb173, 0, none⟩ = some (.int .i64 a1_0) := (blk_cell BK173.out 0).trans rfl
                          have hcz102_1 : wc.cell? ⟨gb173, 1, none⟩ = some (.int .i64 a1_1) := (blk_cell BK173.out 1).trans rfl
                          have hcz102_2 : wc.cell? ⟨gb173, 2, none⟩ = some (.int .i64 a1_2) := (blk_cell BK173.out 2).trans rfl
                          have hcz102_3 : wc.cell? ⟨gb173, 3, none⟩ = some (.int .i64 a1_3) := (blk_cell BK173.out 3).trans rfl
                          have hcz102_4 : wc.cell? ⟨gb173, 4, none⟩ = some (.int .i64 a1_4) := (blk_cell BK173.out 4).trans rfl
                          have hfz102_0 := blk_frozen BK173.out 0
                          have hfz102_1 := blk_frozen BK173.out 1
                          have hfz102_2 := blk_frozen BK173.out 2
                          have hfz102_3 := blk_frozen BK173.out 3
                          have hfz102_4 := blk_frozen BK173.out 4
                          have hnb103 := NB177_179.out
                          have hnc103 := NB179_177.out
                          have hcz104_0 : wc.cell? ⟨gb177, 0, none⟩ = some (.int .i64 ((rd_T50 l0 a1_3).f0)) := (blk_cell BK177.out 0).trans rfl
                          have hcz104_1 : wc.cell? ⟨gb177, 1, none⟩ = some (.int .i64 ((rd_T50 l0 a1_3).f1)) := (blk_cell BK177.out 1).trans rfl
                          have hcz104_2 : wc.cell? ⟨gb177, 2, none⟩ = some (.string ((rd_T50 l0 a1_3).f2)) := (blk_cell BK177.out 2).trans rfl
                          have hcz104_3 : wc.cell? ⟨gb177, 3, none⟩ = some (.string ((rd_T50 l0 a1_3).f3)) := (blk_cell BK177.out 3).trans rfl
                          have hfz104_0 := blk_frozen BK177.out 0
                          have hfz104_1 := blk_frozen BK177.out 1
                          have hfz104_2 := blk_frozen BK177.out 2
                          have hfz104_3 := blk_frozen BK177.out 3
                          have hcz105_0 : wc.cell? ⟨gb179, 0, none⟩ = some (.int .i64 ((rd_T50 l0 a1_4).f0)) := (blk_cell BK179.out 0).trans rfl
                          have hcz105_1 : wc.cell? ⟨gb179, 1, none⟩ = some (.int .i64 ((rd_T50 l0 a1_4).f1)) := (blk_cell BK179.out 1).trans rfl
                          have hcz105_2 : wc.cell? ⟨gb179, 2, none⟩ = some (.string ((rd_T50 l0 a1_4).f2)) := (blk_cell BK179.out 2).trans rfl
                          have hcz105_3 : wc.cell? ⟨gb179, 3, none⟩ = some (.string ((rd_T50 l0 a1_4).f3)) := (blk_cell BK179.out 3).trans rfl
                          have hfz105_0 := blk_frozen BK179.out 0
                          have hfz105_1 := blk_frozen BK179.out 1
                          have hfz105_2 := blk_frozen BK179.out 2
                          have hfz105_3 := blk_frozen BK179.out 3
                          go_wp2
                          repeat (go_quiet (fail); try go_wp2)
                          go_meet
                          case rel => exact ⟨_, ((((rd_T50 l0 a1_4).f0) != 3)), (by first | rfl | (simp; done) | (simp [*]; done)), H', ⟨by have := HJ4.out; have := HJ23.out; first | omega | exact Nat.le_refl _⟩, ⟨by (with_reducible repeat (first | refine blk_drewN ?_ _ | refine blk_drew ?_ | refine blk_alloc ?_ _)); exact BK173.out⟩, ⟨by (with_reducible repeat (first | refine blk_drewN ?_ _ | refine blk_drew ?_ | refine blk_alloc ?_ _)); exact BK177.out⟩, ⟨by (with_reducible repeat (first | refine blk_drewN ?_ _ | refine blk_drew ?_ | refine blk_alloc ?_ _)); exact BK179.out⟩, ⟨by repeat (first | (with_reducible first | exact HB.out | apply below_alloc | apply pw_below_drewN | apply below_drew1 | refine below_set ?_ GE173.out | refine below_set ?_ GE177.out | refine below_set ?_ GE179.out) | exact HB.out)⟩⟩
                        · rw [if_neg c99] at H
                          have c99b0 : (((rd_T50 l0 a1_3).f0) == 2) = false := beq_eq_false_iff_ne.mpr c99
                          have c99b1 : (((rd_T50 l0 a1_3).f0) != 2) = true := bne_iff_ne.mpr c99
                          have H' := Aside0.mk H
                          clear H
                          have hnb106 := NB173_177.out
                          have hnc106 := NB177_173.out
                          have hnb107 := NB173_179.out
                          have hnc107 := NB179_173.out
                          have hcz108_0 : wc.cell? ⟨gb173, 0, none⟩ = some (.int .i64 a1_0) := (blk_cell BK173.out 0).trans rfl
                          have hcz108_1 : wc.cell? ⟨gb173, 1, none⟩ = some (.int .i64 a1_1) := (blk_cell BK173.out 1).trans rfl
                          have hcz108_2 : wc.cell? ⟨gb173, 2, none⟩ = some (.int .i64 a1_2) := (blk_cell BK173.out 2).trans rfl
                          have hcz108_3 : wc.cell? ⟨gb173, 3, none⟩ = some (.int .i64 a1_3) := (blk_cell BK173.out 3).trans rfl
                          have hcz108_4 : wc.cell? ⟨gb173, 4, none⟩ = some (.int .i64 a1_4) := (blk_cell BK173.out 4).trans rfl
                          have hfz108_0 := blk_frozen BK173.out 0
                          have hfz108_1 := blk_frozen BK173.out 1
                          have hfz108_2 := blk_frozen BK173.out 2
                          have hfz108_3 := blk_frozen BK173.out 3
                          have hfz108_4 := blk_frozen BK173.out 4
                          have hnb109 := NB177_179.out
                          have hnc109 := NB179_177.out
                          have hcz110_0 : wc.cell? ⟨gb177, 0, none⟩ = some (.int .i64 ((rd_T50 l0 a1_3).f0)) := (blk_cell BK177.out 0).trans rfl
                          have hcz110_1 : wc.cell? ⟨gb177, 1, none⟩ = some (.int .i64 ((rd_T50 l0 a1_3).f1)) := (blk_cell BK177.out 1).trans rfl
                          have hcz110_2 : wc.cell? ⟨gb177, 2, none⟩ = some (.string ((rd_T50 l0 a1_3).f2)) := (blk_cell BK177.out 2).trans rfl
                          have hcz110_3 : wc.cell? ⟨gb177, 3, none⟩ = some (.string ((rd_T50 l0 a1_3).f3)) := (blk_cell BK177.out 3).trans rfl
                          have hfz110_0 := blk_frozen BK177.out 0
                          have hfz110_1 := blk_frozen BK177.out 1
                          have hfz110_2 := blk_frozen BK177.out 2
                          have hfz110_3 := blk_frozen BK177.out 3
                          go_wp2
                          repeat (go_quiet (fail); try go_wp2)
                          go_meet
                          case rel => exact ⟨_, (true), (by first | rfl | (simp; done) | (simp [*]; done)), H', ⟨by have := HJ4.out; have := HJ23.out; first | omega | exact Nat.le_refl _⟩, ⟨by (with_reducible repeat (first | refine blk_drewN ?_ _ | refine blk_drew ?_ | refine blk_alloc ?_ _)); exact BK173.out⟩, ⟨by (with_reducible repeat (first | refine blk_drewN ?_ _ | refine blk_drew ?_ | refine blk_alloc ?_ _)); exact BK177.out⟩, ⟨by (with_reducible repeat (first | refine blk_drewN ?_ _ | refine blk_drew ?_ | refine blk_alloc ?_ _)); exact BK179.out⟩, ⟨by repeat (first | (with_reducible first | exact HB.out | apply below_alloc | apply pw_below_drewN | apply below_drew1 | refine below_set ?_ GE173.out | refine below_set ?_ GE177.out | refine below_set ?_ GE179.out) | exact HB.out)⟩⟩
                      · rw [if_neg c98] at H
                        have c98b0 : (a1_0 == 3) = false := beq_eq_false_iff_ne.mpr c98
                        have c98b1 : (a1_0 != 3) = true := bne_iff_ne.mpr c98
                        (first | rw [c98b0] | (simp only [i64_w, i32_w]; rw [c98b0]) | skip)
                        have H' := Aside0.mk H
                        clear H
                        have hnb111 := NB173_177.out
                        have hnc111 := NB177_173.out
                        have hnb112 := NB173_179.out
                        have hnc112 := NB179_173.out
                        have hcz113_0 : wc.cell? ⟨gb173, 0, none⟩ = some (.int .i64 a1_0) := (blk_cell BK173.out 0).trans rfl
                        have hcz113_1 : wc.cell? ⟨gb173, 1, none⟩ = some (.int .i64 a1_1) := (blk_cell BK173.out 1).trans rfl
                        have hcz113_2 : wc.cell? ⟨gb173, 2, none⟩ = some (.int .i64 a1_2) := (blk_cell BK173.out 2).trans rfl
                        have hcz113_3 : wc.cell? ⟨gb173, 3, none⟩ = some (.int .i64 a1_3) := (blk_cell BK173.out 3).trans rfl
                        have hcz113_4 : wc.cell? ⟨gb173, 4, none⟩ = some (.int .i64 a1_4) := (blk_cell BK173.out 4).trans rfl
                        have hfz113_0 := blk_frozen BK173.out 0
                        have hfz113_1 := blk_frozen BK173.out 1
                        have hfz113_2 := blk_frozen BK173.out 2
                        have hfz113_3 := blk_frozen BK173.out 3
                        have hfz113_4 := blk_frozen BK173.out 4
                        go_wp2
                        repeat (go_quiet (fail); try go_wp2)
                        go_meet
                        case rel => exact ⟨_, (true), (by first | rfl | (simp; done) | (simp [*]; done)), H', ⟨by have := HJ4.out; have := HJ23.out; first | omega | exact Nat.le_refl _⟩, ⟨by (with_reducible repeat (first | refine blk_drewN ?_ _ | refine blk_drew ?_ | refine blk_alloc ?_ _)); exact BK173.out⟩, ⟨by (with_reducible repeat (first | refine blk_drewN ?_ _ | refine blk_drew ?_ | refine blk_alloc ?_ _)); exact BK177.out⟩, ⟨by (with_reducible repeat (first | refine blk_drewN ?_ _ | refine blk_drew ?_ | refine blk_alloc ?_ _)); exact BK179.out⟩, ⟨by repeat (first | (with_reducible first | exact HB.out | apply below_alloc | apply pw_below_drewN | apply below_drew1 | refine below_set ?_ GE173.out | refine below_set ?_ GE177.out | refine below_set ?_ GE179.out) | exact HB.out)⟩⟩
                     case rest =>
                      clear HC94
                      try clear c1
                      try clear p1
                      try clear q1
                      try clear hx1
                      try clear p2
                      try clear c3
                      try clear c4
                      try clear c5
                      try clear c6
                      try clear c7
                      try clear c8
                      try clear c9
                      try clear c10
                      try clear c11
                      try clear p17
                      try clear q17
                      try clear hx17
                      try clear c34
                      try clear c34b0
                      try clear c34b1
                      try clear c35
                      try clear c35b0
                      try clear c35b1
                      try clear c36
                      try clear c37
                      try clear c39
                      try clear c42
                      try clear c43
                      try clear c45
                      try clear c48
                      try clear c49
                      try clear c51
                      try clear c53
                      try clear c54
                      try clear c54b0
                      try clear c54b1
                      try clear c55
                      try clear c55b0
                      try clear c55b1
                      try clear c56
                      try clear c56b0
                      try clear c56b1
                      try clear c57
                      try clear c58
                      try clear c60
                      try clear c63
                      try clear c64
                      try clear c66
                      try clear c69
                      try clear c70
                      try clear c72
                      try clear c74
                      try clear c74b0
                      try clear c74b1
                      try clear c75
                      try clear c75b0
                      try clear c75b1
                      try clear c76
                      try clear c76b0
                      try clear c76b1
                      try clear c77
                      try clear c78
                      try clear c80
                      try clear c83
                      try clear c84
                      try clear c86
                      try clear c89
                      try clear c90
                      try clear c92
                      try clear c95
                      try clear c96
                      try clear c98
                      try clear c98b0
                      try clear c98b1
                      try clear c99
                      try clear c99b0
                      try clear c99b1
                      try clear c100
                      try clear c101
                      try clear c103
                      try clear c106
                      try clear c107
                      try clear c109
                      try clear c111
                      try clear c112
                      try clear hcz102_0
                      try clear hcz102_1
                      try clear hcz102_2
                      try clear hcz102_3
                      try clear hcz102_4
                      try clear hcz104_0
                      try clear hcz104_1
                      try clear hcz104_2
                      try clear hcz104_3
                      try clear hcz105_0
                      try clear hcz105_1
                      try clear hcz105_2
                      try clear hcz105_3
                      try clear hcz108_0
                      try clear hcz108_1
                      try clear hcz108_2
                      try clear hcz108_3
                      try clear hcz108_4
                      try clear hcz110_0
                      try clear hcz110_1
                      try clear hcz110_2
                      try clear hcz110_3
                      try clear hcz113_0
                      try clear hcz113_1
                      try clear hcz113_2
                      try clear hcz113_3
                      try clear hcz113_4
                      try clear hcz11_0
                      try clear hcz11_1
                      try clear hcz11_2
                      try clear hcz11_3
                      try clear hcz11_4
                      try clear hcz13_0
                      try clear hcz13_1
                      try clear hcz13_2
                      try clear hcz13_3
                      try clear hcz13_4
                      try clear hcz15_0
                      try clear hcz15_1
                      try clear hcz15_2
                      try clear hcz15_3
                      try clear hcz15_4
                      try clear hcz17_0
                      try clear hcz17_1
                      try clear hcz17_2
                      try clear hcz17_3
                      try clear hcz17_4
                      try clear hcz18_0
                      try clear hcz18_1
                      try clear hcz18_2
                      try clear hcz18_3
                      try clear hcz18_4
                      try clear hcz25_0
                      try clear hcz25_1
                      try clear hcz25_2
                      try clear hcz25_3
                      try clear hcz25_4
                      try clear hcz28_0
                      try clear hcz28_1
                      try clear hcz28_2
                      try clear hcz28_3
                      try clear hcz29_0
                      try clear hcz29_1
                      try clear hcz29_2
                      try clear hcz29_3
                      try clear hcz29_4
                      try clear hcz33_0
                      try clear hcz33_1
                      try clear hcz33_2
                      try clear hcz33_3
                      try clear hcz38_0
                      try clear hcz38_1
                      try clear hcz38_2
                      try clear hcz38_3
                      try clear hcz40_0
                      try clear hcz40_1
                      try clear hcz40_2
                      try clear hcz40_3
                      try clear hcz41_0
                      try clear hcz41_1
                      try clear hcz41_2
                      try clear hcz41_3
                      try clear hcz41_4
                      try clear hcz44_0
                      try clear hcz44_1
                      try clear hcz44_2
                      try clear hcz44_3
                      try clear hcz46_0
                      try clear hcz46_1
                      try clear hcz46_2
                      try clear hcz46_3
                      try clear hcz47_0
                      try clear hcz47_1
                      try clear hcz47_2
                      try clear hcz47_3
                      try clear hcz47_4
                      try clear hcz50_0
                      try clear hcz50_1
                      try clear hcz50_2
                      try clear hcz50_3
                      try clear hcz52_0
                      try clear hcz52_1
                      try clear hcz52_2
                      try clear hcz52_3
                      try clear hcz59_0
                      try clear hcz59_1
                      try clear hcz59_2
                      try clear hcz59_3
                      try clear hcz59_4
                      try clear hcz61_0
                      try clear hcz61_1
                      try clear hcz61_2
                      try clear hcz61_3
                      try clear hcz62_0
                      try clear hcz62_1
                      try clear hcz62_2
                      try clear hcz62_3
                      try clear hcz65_0
                      try clear hcz65_1
                      try clear hcz65_2
                      try clear hcz65_3
                      try clear hcz65_4
                      try clear hcz67_0
                      try clear hcz67_1
                      try clear hcz67_2
                      try clear hcz67_3
                      try clear hcz68_0
                      try clear hcz68_1
                      try clear hcz68_2
                      try clear hcz68_3
                      try clear hcz71_0
                      try clear hcz71_1
                      try clear hcz71_2
                      try clear hcz71_3
                      try clear hcz71_4
                      try clear hcz73_0
                      try clear hcz73_1
                      try clear hcz73_2
                      try clear hcz73_3
                      try clear hcz79_0
                      try clear hcz79_1
                      try clear hcz79_2
                      try clear hcz79_3
                      try clear hcz79_4
                      try clear hcz7_0
                      try clear hcz7_1
                      try clear hcz7_2
                      try clear hcz7_3
                      try clear hcz7_4
                      try clear hcz81_0
                      try clear hcz81_1
                      try clear hcz81_2
                      try clear hcz81_3
                      try clear hcz82_0
                      try clear hcz82_1
                      try clear hcz82_2
                      try clear hcz82_3
                      try clear hcz85_0
                      try clear hcz85_1
                      try clear hcz85_2
                      try clear hcz85_3
                      try clear hcz85_4
                      try clear hcz87_0
                      try clear hcz87_1
                      try clear hcz87_2
                      try clear hcz87_3
                      try clear hcz88_0
                      try clear hcz88_1
                      try clear hcz88_2
                      try clear hcz88_3
                      try clear hcz91_0
                      try clear hcz91_1
                      try clear hcz91_2
                      try clear hcz91_3
                      try clear hcz91_4
                      try clear hcz93_0
                      try clear hcz93_1
                      try clear hcz93_2
                      try clear hcz93_3
                      try clear hcz97_0
                      try clear hcz97_1
                      try clear hcz97_2
                      try clear hcz97_3
                      try clear hcz97_4
                      try clear hfz102_0
                      try clear hfz102_1
                      try clear hfz102_2
                      try clear hfz102_3
                      try clear hfz102_4
                      try clear hfz104_0
                      try clear hfz104_1
                      try clear hfz104_2
                      try clear hfz104_3
                      try clear hfz105_0
                      try clear hfz105_1
                      try clear hfz105_2
                      try clear hfz105_3
                      try clear hfz108_0
                      try clear hfz108_1
                      try clear hfz108_2
                      try clear hfz108_3
                      try clear hfz108_4
                      try clear hfz110_0
                      try clear hfz110_1
                      try clear hfz110_2
                      try clear hfz110_3
                      try clear hfz113_0
                      try clear hfz113_1
                      try clear hfz113_2
                      try clear hfz113_3
                      try clear hfz113_4
                      try clear hfz11_0
                      try clear hfz11_1
                      try clear hfz11_2
                      try clear hfz11_3
                      try clear hfz11_4
                      try clear hfz13_0
                      try clear hfz13_1
                      try clear hfz13_2
                      try clear hfz13_3
                      try clear hfz13_4
                      try clear hfz15_0
                      try clear hfz15_1
                      try clear hfz15_2
                      try clear hfz15_3
                      try clear hfz15_4
                      try clear hfz17_0
                      try clear hfz17_1
                      try clear hfz17_2
                      try clear hfz17_3
                      try clear hfz17_4
                      try clear hfz18_0
                      try clear hfz18_1
                      try clear hfz18_2
                      try clear hfz18_3
                      try clear hfz18_4
                      try clear hfz25_0
                      try clear hfz25_1
                      try clear hfz25_2
                      try clear hfz25_3
                      try clear hfz25_4
                      try clear hfz28_0
                      try clear hfz28_1
                      try clear hfz28_2
                      try clear hfz28_3
                      try clear hfz29_0
                      try clear hfz29_1
                      try clear hfz29_2
                      try clear hfz29_3
                      try clear hfz29_4
                      try clear hfz33_0
                      try clear hfz33_1
                      try clear hfz33_2
                      try clear hfz33_3
                      try clear hfz38_0
                      try clear hfz38_1
                      try clear hfz38_2
                      try clear hfz38_3
                      try clear hfz40_0
                      try clear hfz40_1
                      try clear hfz40_2
                      try clear hfz40_3
                      try clear hfz41_0
                      try clear hfz41_1
                      try clear hfz41_2
                      try clear hfz41_3
                      try clear hfz41_4
                      try clear hfz44_0
                      try clear hfz44_1
                      try clear hfz44_2
                      try clear hfz44_3
                      try clear hfz46_0
                      try clear hfz46_1
                      try clear hfz46_2
                      try clear hfz46_3
                      try clear hfz47_0
                      try clear hfz47_1
                      try clear hfz47_2
                      try clear hfz47_3
                      try clear hfz47_4
                      try clear hfz50_0
                      try clear hfz50_1
                      try clear hfz50_2
                      try clear hfz50_3
                      try clear hfz52_0
                      try clear hfz52_1
                      try clear hfz52_2
                      try clear hfz52_3
                      try clear hfz59_0
                      try clear hfz59_1
                      try clear hfz59_2
                      try clear hfz59_3
                      try clear hfz59_4
                      try clear hfz61_0
                      try clear hfz61_1
                      try clear hfz61_2
                      try clear hfz61_3
                      try clear hfz62_0
                      try clear hfz62_1
                      try clear hfz62_2
                      try clear hfz62_3
                      try clear hfz65_0
                      try clear hfz65_1
                      try clear hfz65_2
                      try clear hfz65_3
                      try clear hfz65_4
                      try clear hfz67_0
                      try clear hfz67_1
                      try clear hfz67_2
                      try clear hfz67_3
                      try clear hfz68_0
                      try clear hfz68_1
                      try clear hfz68_2
                      try clear hfz68_3
                      try clear hfz71_0
                      try clear hfz71_1
                      try clear hfz71_2
                      try clear hfz71_3
                      try clear hfz71_4
                      try clear hfz73_0
                      try clear hfz73_1
                      try clear hfz73_2
                      try clear hfz73_3
                      try clear hfz79_0
                      try clear hfz79_1
                      try clear hfz79_2
                      try clear hfz79_3
                      try clear hfz79_4
                      try clear hfz7_0
                      try clear hfz7_1
                      try clear hfz7_2
                      try clear hfz7_3
                      try clear hfz7_4
                      try clear hfz81_0
                      try clear hfz81_1
                      try clear hfz81_2
                      try clear hfz81_3
                      try clear hfz82_0
                      try clear hfz82_1
                      try clear hfz82_2
                      try clear hfz82_3
                      try clear hfz85_0
                      try clear hfz85_1
                      try clear hfz85_2
                      try clear hfz85_3
                      try clear hfz85_4
                      try clear hfz87_0
                      try clear hfz87_1
                      try clear hfz87_2
                      try clear hfz87_3
                      try clear hfz88_0
                      try clear hfz88_1
                      try clear hfz88_2
                      try clear hfz88_3
                      try clear hfz91_0
                      try clear hfz91_1
                      try clear hfz91_2
                      try clear hfz91_3
                      try clear hfz91_4
                      try clear hfz93_0
                      try clear hfz93_1
                      try clear hfz93_2
                      try clear hfz93_3
                      try clear hfz97_0
                      try clear hfz97_1
                      try clear hfz97_2
                      try clear hfz97_3
                      try clear hfz97_4
                      try clear hx176_0
                      try clear hx176_1
                      try clear hx176_2
                      try clear hx176_3
                      try clear hx178_0
                      try clear hx178_1
                      try clear hx178_2
                      try clear hx178_3
                      try clear p176
                      try clear p178
                      try clear p2
                      try clear q176
                      try clear q178
                      obtain ⟨kq, x131_93, rfl, HA, HJ93, BK173, BK177, BK179, HB⟩ := hcut
                      cases kq with
                      | zero => exact absurd HA.out (by simp [cartoucheref10_Holds.j2])
                      | succ kj93 =>
                       have H := HA.out
                       clear HA
                       simp only [cartoucheref10_Holds.j2] at H
                       by_cases c114 : x131_93 = true
                       · subst c114
                         have H1 : (some false) = some r := by rw [if_pos rfl] at H; exact H
                         clear H
                         have H := H1
                         clear H1
                         obtain rfl := Option.some.inj H
                         go_wp2
                         repeat (go_quiet (fail); try go_wp2)
                         go_ret
                         exact ⟨by first | rfl | (simp [errW_none, errW_some] <;> rfl) | (simp [*, errW_none, errW_some] <;> rfl), by repeat (first | (with_reducible first | exact HB.out | apply below_alloc | apply pw_below_drewN | apply below_drew1 | refine below_set ?_ GE173.out | refine below_set ?_ GE177.out | refine below_set ?_ GE179.out) | exact HB.out)⟩
                       · replace c114 := Bool.eq_false_iff.mpr c114
                         subst c114
                         have H1 : (if ((rd_T50 l0 a1_3).f3).toList = ([] : List UInt8) then (some true) else ((cartoucheref08_Writer.f l0 ((rd_T50 l0 a1_3).f2) ((rd_T50 l0 a1_3).f3)).bind fun t180 => (if t180 < 0 then (cartoucheref10_Holds.j3 kj93 l0 t175 t180 true) else (if 0 ≤ t180 then (if t180 < (l0.length : Int) then (cartoucheref10_Holds.j3 kj93 l0 t175 t180 (((rd_T50 l0 t180).f1) == a1_2)) else (none)) else (none))))) = some r := by rw [if_neg (show ¬ (false = true) by decide)] at H; exact H
                         clear H
                         have H := H1
                         clear H1
                         by_cases c115 : ((rd_T50 l0 a1_3).f3).toList = ([] : List UInt8)
                         · rw [if_pos c115] at H
                           have c115b0 : (((rd_T50 l0 a1_3).f3).toList == ([] : List UInt8)) = true := beq_iff_eq.mpr c115
                           have c115b1 : (((rd_T50 l0 a1_3).f3).toList != ([] : List UInt8)) = false := bne_eq_false_iff_eq.mpr c115
                           clear c115
                           obtain rfl := Option.some.inj H
                           have hnb116 := NB177_173.out
                           have hnc116 := NB173_177.out
                           have hnb117 := NB177_179.out
                           have hnc117 := NB179_177.out
                           have hcz118_0 : wc.cell? ⟨gb177, 0, none⟩ = some (.int .i64 ((rd_T50 l0 a1_3).f0)) := (blk_cell BK177.out 0).trans rfl
                           have hcz118_1 : wc.cell? ⟨gb177, 1, none⟩ = some (.int .i64 ((rd_T50 l0 a1_3).f1)) := (blk_cell BK177.out 1).trans rfl
                           have hcz118_2 : wc.cell? ⟨gb177, 2, none⟩ = some (.string ((rd_T50 l0 a1_3).f2)) := (blk_cell BK177.out 2).trans rfl
                           have hcz118_3 : wc.cell? ⟨gb177, 3, none⟩ = some (.string ((rd_T50 l0 a1_3).f3)) := (blk_cell BK177.out 3).trans rfl
                           have hfz118_0 := blk_frozen BK177.out 0
                           have hfz118_1 := blk_frozen BK177.out 1
                           have hfz118_2 := blk_frozen BK177.out 2
                           have hfz118_3 := blk_frozen BK177.out 3
                           go_wp2
                           repeat (go_quiet (fail); try go_wp2)
                           go_ret
                           exact ⟨by first | rfl | (simp [errW_none, errW_some] <;> rfl) | (simp [*, errW_none, errW_some] <;> rfl), by repeat (first | (with_reducible first | exact HB.out | apply below_alloc | apply pw_below_drewN | apply below_drew1 | refine below_set ?_ GE173.out | refine below_set ?_ GE177.out | refine below_set ?_ GE179.out) | exact HB.out)⟩
                         · rw [if_neg c115] at H
                           have c115b0 : (((rd_T50 l0 a1_3).f3).toList == ([] : List UInt8)) = false := beq_eq_false_iff_ne.mpr c115
                           have c115b1 : (((rd_T50 l0 a1_3).f3).toList != ([] : List UInt8)) = true := bne_iff_ne.mpr c115
                           replace H := Option.bind_eq_some_iff.mp H
                           obtain ⟨t180, A1190, H⟩ := H
                           replace H : (if t180 < 0 then (cartoucheref10_Holds.j3 kj93 l0 t175 t180 true) else (if 0 ≤ t180 then (if t180 < (l0.length : Int) then (cartoucheref10_Holds.j3 kj93 l0 t175 t180 (((rd_T50 l0 t180).f1) == a1_2)) else (none)) else (none))) = some r := H
                           have A119 := Aside0.mk A1190
                           clear A1190
                           have HC120 := Aside0.mk H
                           clear H
                           have hnb121 := NB177_173.out
                           have hnc121 := NB173_177.out
                           have hnb122 := NB177_179.out
                           have hnc122 := NB179_177.out
                           have hcz123_0 : wc.cell? ⟨gb177, 0, none⟩ = some (.int .i64 ((rd_T50 l0 a1_3).f0)) := (blk_cell BK177.out 0).trans rfl
                           have hcz123_1 : wc.cell? ⟨gb177, 1, none⟩ = some (.int .i64 ((rd_T50 l0 a1_3).f1)) := (blk_cell BK177.out 1).trans rfl
                           have hcz123_2 : wc.cell? ⟨gb177, 2, none⟩ = some (.string ((rd_T50 l0 a1_3).f2)) := (blk_cell BK177.out 2).trans rfl
                           have hcz123_3 : wc.cell? ⟨gb177, 3, none⟩ = some (.string ((rd_T50 l0 a1_3).f3)) := (blk_cell BK177.out 3).trans rfl
                           have hfz123_0 := blk_frozen BK177.out 0
                           have hfz123_1 := blk_frozen BK177.out 1
                           have hfz123_2 := blk_frozen BK177.out 2
                           have hfz123_3 := blk_frozen BK177.out 3
                           go_upto_region 18 with (first | (go_at_call 58; (with_reducible refine (cartoucheref08_Writer.calls _ _ l0 ((rd_T50 l0 a1_3).f2) ((rd_T50 l0 a1_3).f3) t180 _ ?side1 ?side2 A119.out).mono ?_); (case side1 => repeat (first | exact (Kd.C_below HR0.out HB.out) | (with_reducible refine Kd.C_alloc ?_ _) | (with_reducible refine Kd.C_drewN ?_ _) | (with_reducible refine Kd.C_drew ?_))); (case side2 => exact HC0.out); rintro e w' ⟨rfl, ⟨nd, rfl⟩⟩; (try first | exact ⟨rfl, _, World.drewN_drewN _ _ _⟩ | exact ⟨rfl, _, Eq.trans (World.drewN_drewN _ _ _) (congrArg (World.drewN _) (Nat.add_assoc _ _ _))⟩)))
                           repeat (go_quiet (first | (go_at_call 58; (with_reducible refine (cartoucheref08_Writer.calls _ _ l0 ((rd_T50 l0 a1_3).f2) ((rd_T50 l0 a1_3).f3) t180 _ ?side1 ?side2 A119.out).mono ?_); (case side1 => repeat (first | exact (Kd.C_below HR0.out HB.out) | (with_reducible refine Kd.C_alloc ?_ _) | (with_reducible refine Kd.C_drewN ?_ _) | (with_reducible refine Kd.C_drew ?_))); (case side2 => exact HC0.out); rintro e w' ⟨rfl, ⟨nd, rfl⟩⟩; (try first | exact ⟨rfl, _, World.drewN_drewN _ _ _⟩ | exact ⟨rfl, _, Eq.trans (World.drewN_drewN _ _ _) (congrArg (World.drewN _) (Nat.add_assoc _ _ _))⟩))); go_upto_region 18 with (first | (go_at_call 58; (with_reducible refine (cartoucheref08_Writer.calls _ _ l0 ((rd_T50 l0 a1_3).f2) ((rd_T50 l0 a1_3).f3) t180 _ ?side1 ?side2 A119.out).mono ?_); (case side1 => repeat (first | exact (Kd.C_below HR0.out HB.out) | (with_reducible refine Kd.C_alloc ?_ _) | (with_reducible refine Kd.C_drewN ?_ _) | (with_reducible refine Kd.C_drew ?_))); (case side2 => exact HC0.out); rintro e w' ⟨rfl, ⟨nd, rfl⟩⟩; (try first | exact ⟨rfl, _, World.drewN_drewN _ _ _⟩ | exact ⟨rfl, _, Eq.trans (World.drewN_drewN _ _ _) (congrArg (World.drewN _) (Nat.add_assoc _ _ _))⟩))))
                           (try simp only [Act.put, List.setIfInBounds_toArray, List.set_cons_zero, List.set_cons_succ])
                           go_cut [152] (fun v152 wc => ∃ (kq : Nat) (x152_119 : Bool), v152 = .bool x152_119 ∧ Aside0 (cartoucheref10_Holds.j3 kq l0 t175 t180 x152_119 = some r) ∧ Aside0 (kq ≤ kj93) ∧ Aside0 (wc.heap[gb173]? = some (.cells #[.int .i64 a1_0, .int .i64 a1_1, .int .i64 a1_2, .int .i64 a1_3, .int .i64 a1_4] 24 (0, 0))) ∧ Aside0 (wc.heap[gb177]? = some (.cells #[.int .i64 ((rd_T50 l0 a1_3).f0), .int .i64 ((rd_T50 l0 a1_3).f1), .string ((rd_T50 l0 a1_3).f2), .string ((rd_T50 l0 a1_3).f3)] 50 (0, 0))) ∧ Aside0 (wc.heap[gb179]? = some (.cells #[.int .i64 ((rd_T50 l0 a1_4).f0), .int .i64 ((rd_T50 l0 a1_4).f1), .string ((rd_T50 l0 a1_4).f2), .string ((rd_T50 l0 a1_4).f3)] 50 (0, 0))) ∧ Aside0 (Below w.heap.size w wc))
                           case first =>
                            have H := HC120.out
                            clear HC120
                            by_cases c124 : t180 < 0
                            · rw [if_pos c124] at H
                              have c124b0 : decide (t180 < 0) = true := decide_eq_true c124
                              clear c124
                              (first | rw [c124b0] | (simp only [i64_w, i32_w]; rw [c124b0]) | skip)
                              have H' := Aside0.mk H
                              clear H
                              go_wp2
                              repeat (go_quiet (fail); try go_wp2)
                              go_meet
                              case rel => exact ⟨_, (true), (by first | rfl | (simp; done) | (simp [*]; done)), H', ⟨by have := HJ4.out; have := HJ23.out; have := HJ93.out; first | omega | exact Nat.le_refl _⟩, ⟨by (with_reducible repeat (first | refine blk_drewN ?_ _ | refine blk_drew ?_ | refine blk_alloc ?_ _)); exact BK173.out⟩, ⟨by (with_reducible repeat (first | refine blk_drewN ?_ _ | refine blk_drew ?_ | refine blk_alloc ?_ _)); exact BK177.out⟩, ⟨by (with_reducible repeat (first | refine blk_drewN ?_ _ | refine blk_drew ?_ | refine blk_alloc ?_ _)); exact BK179.out⟩, ⟨by repeat (first | (with_reducible first | exact HB.out | apply below_alloc | apply pw_below_drewN | apply below_drew1 | refine below_set ?_ GE173.out | refine below_set ?_ GE177.out | refine below_set ?_ GE179.out) | exact HB.out)⟩⟩
                            · rw [if_neg c124] at H
                              have c124b0 : decide (t180 < 0) = false := decide_eq_false c124
                              clear c124
                              (first | rw [c124b0] | (simp only [i64_w, i32_w]; rw [c124b0]) | skip)
                              by_cases c125 : 0 ≤ t180
                              · rw [if_pos c125] at H
                                have c125b0 : decide (0 ≤ t180) = true := decide_eq_true c125
                                clear c125
                                by_cases c126 : t180 < (l0.length : Int)
                                · rw [if_pos c126] at H
                                  have c126b0 : decide (t180 < (l0.length : Int)) = true := decide_eq_true c126
                                  clear c126
                                  have H' := Aside0.mk H
                                  clear H
                                  have p181 : 0 ≤ (t180 : Int) := of_decide_eq_true (by first | (with_reducible assumption) | assumption)
                                  have q181 : t180 < (l0.length : Int) := of_decide_eq_true (by first | (with_reducible assumption) | assumption)
                                  obtain ⟨ad181, e181, hx181_0, hx181_1, hx181_2, hx181_3⟩ := at_T50 HR0.out t180 p181 q181
                                  obtain rfl : ad176 = ad181 := (by injection e181)
                                  replace hx181_0 := (HB.out.cell (World.block_lt_of_cell? w _ hx181_0)).trans hx181_0
                                  replace hx181_1 := (HB.out.cell (World.block_lt_of_cell? w _ hx181_1)).trans hx181_1
                                  replace hx181_2 := (HB.out.cell (World.block_lt_of_cell? w _ hx181_2)).trans hx181_2
                                  replace hx181_3 := (HB.out.cell (World.block_lt_of_cell? w _ hx181_3)).trans hx181_3
                                  replace p181 := eq_true p181
                                  replace q181 := eq_true q181
                                  have hnb127 := NB173_177.out
                                  have hnc127 := NB177_173.out
                                  have hnb128 := NB173_179.out
                                  have hnc128 := NB179_173.out
                                  have hcz129_0 : wc.cell? ⟨gb173, 0, none⟩ = some (.int .i64 a1_0) := (blk_cell BK173.out 0).trans rfl
                                  have hcz129_1 : wc.cell? ⟨gb173, 1, none⟩ = some (.int .i64 a1_1) := (blk_cell BK173.out 1).trans rfl
                                  have hcz129_2 : wc.cell? ⟨gb173, 2, none⟩ = some (.int .i64 a1_2) := (blk_cell BK173.out 2).trans rfl
                                  have hcz129_3 : wc.cell? ⟨gb173, 3, none⟩ = some (.int .i64 a1_3) := (blk_cell BK173.out 3).trans rfl
                                  have hcz129_4 : wc.cell? ⟨gb173, 4, none⟩ = some (.int .i64 a1_4) := (blk_cell BK173.out 4).trans rfl
                                  have hfz129_0 := blk_frozen BK173.out 0
                                  have hfz129_1 := blk_frozen BK173.out 1
                                  have hfz129_2 := blk_frozen BK173.out 2
                                  have hfz129_3 := blk_frozen BK173.out 3
                                  have hfz129_4 := blk_frozen BK173.out 4
                                  go_wp2
                                  repeat (go_quiet (fail); try go_wp2)
                                  go_meet
                                  case rel => exact ⟨_, ((((rd_T50 l0 t180).f1) == a1_2)), (by first | rfl | (simp; done) | (simp [*]; done)), H', ⟨by have := HJ4.out; have := HJ23.out; have := HJ93.out; first | omega | exact Nat.le_refl _⟩, ⟨by (with_reducible repeat (first | refine blk_drewN ?_ _ | refine blk_drew ?_ | refine blk_alloc ?_ _)); exact BK173.out⟩, ⟨by (with_reducible repeat (first | refine blk_drewN ?_ _ | refine blk_drew ?_ | refine blk_alloc ?_ _)); exact BK177.out⟩, ⟨by (with_reducible repeat (first | refine blk_drewN ?_ _ | refine blk_drew ?_ | refine blk_alloc ?_ _)); exact BK179.out⟩, ⟨by repeat (first | (with_reducible first | exact HB.out | apply below_alloc | apply pw_below_drewN | apply below_drew1 | refine below_set ?_ GE173.out | refine below_set ?_ GE177.out | refine below_set ?_ GE179.out) | exact HB.out)⟩⟩
                                · rw [if_neg c126] at H
                                  exact absurd H (by simp)
                              · rw [if_neg c125] at H
                                exact absurd H (by simp)
                           case rest =>
                            clear HC120
                            try clear c1
                            try clear p1
                            try clear q1
                            try clear hx1
                            try clear p2
                            try clear c3
                            try clear c4
                            try clear c5
                            try clear c6
                            try clear c7
                            try clear c8
                            try clear c9
                            try clear c10
                            try clear c11
                            try clear c12
                            try clear p17
                            try clear q17
                            try clear hx17
                            try clear p18
                            try clear q18
                            try clear hx18
                            try clear c34
                            try clear c34b0
                            try clear c34b1
                            try clear c35
                            try clear c35b0
                            try clear c35b1
                            try clear c36
                            try clear c37
                            try clear c39
                            try clear c42
                            try clear c43
                            try clear c45
                            try clear c48
                            try clear c49
                            try clear c51
                            try clear c53
                            try clear c54
                            try clear c54b0
                            try clear c54b1
                            try clear c55
                            try clear c55b0
                            try clear c55b1
                            try clear c56
                            try clear c56b0
                            try clear c56b1
                            try clear c57
                            try clear c58
                            try clear c60
                            try clear c63
                            try clear c64
                            try clear c66
                            try clear c69
                            try clear c70
                            try clear c72
                            try clear c74
                            try clear c74b0
                            try clear c74b1
                            try clear c75
                            try clear c75b0
                            try clear c75b1
                            try clear c76
                            try clear c76b0
                            try clear c76b1
                            try clear c77
                            try clear c78
                            try clear c80
                            try clear c83
                            try clear c84
                            try clear c86
                            try clear c89
                            try clear c90
                            try clear c92
                            try clear c95
                            try clear c96
                            try clear c98
                            try clear c98b0
                            try clear c98b1
                            try clear c99
                            try clear c99b0
                            try clear c99b1
                            try clear c100
                            try clear c101
                            try clear c103
                            try clear c106
                            try clear c107
                            try clear c109
                            try clear c111
                            try clear c112
                            try clear c114
                            try clear c115
                            try clear c115b0
                            try clear c115b1
                            try clear c116
                            try clear c117
                            try clear c121
                            try clear c122
                            try clear c124
                            try clear c124b0
                            try clear c125
                            try clear c125b0
                            try clear c126
                            try clear c126b0
                            try clear c127
                            try clear c128
                            try clear hcz102_0
                            try clear hcz102_1
                            try clear hcz102_2
                            try clear hcz102_3
                            try clear hcz102_4
                            try clear hcz104_0
                            try clear hcz104_1
                            try clear hcz104_2
                            try clear hcz104_3
                            try clear hcz105_0
                            try clear hcz105_1
                            try clear hcz105_2
                            try clear hcz105_3
                            try clear hcz108_0
                            try clear hcz108_1
                            try clear hcz108_2
                            try clear hcz108_3
                            try clear hcz108_4
                            try clear hcz110_0
                            try clear hcz110_1
                            try clear hcz110_2
                            try clear hcz110_3
                            try clear hcz113_0
                            try clear hcz113_1
                            try clear hcz113_2
                            try clear hcz113_3
                            try clear hcz113_4
                            try clear hcz118_0
                            try clear hcz118_1
                            try clear hcz118_2
                            try clear hcz118_3
                            try clear hcz11_0
                            try clear hcz11_1
                            try clear hcz11_2
                            try clear hcz11_3
                            try clear hcz11_4
                            try clear hcz123_0
                            try clear hcz123_1
                            try clear hcz123_2
                            try clear hcz123_3
                            try clear hcz129_0
                            try clear hcz129_1
                            try clear hcz129_2
                            try clear hcz129_3
                            try clear hcz129_4
                            try clear hcz13_0
                            try clear hcz13_1
                            try clear hcz13_2
                            try clear hcz13_3
                            try clear hcz13_4
                            try clear hcz15_0
                            try clear hcz15_1
                            try clear hcz15_2
                            try clear hcz15_3
                            try clear hcz15_4
                            try clear hcz17_0
                            try clear hcz17_1
                            try clear hcz17_2
                            try clear hcz17_3
                            try clear hcz17_4
                            try clear hcz18_0
                            try clear hcz18_1
                            try clear hcz18_2
                            try clear hcz18_3
                            try clear hcz18_4
                            try clear hcz25_0
                            try clear hcz25_1
                            try clear hcz25_2
                            try clear hcz25_3
                            try clear hcz25_4
                            try clear hcz28_0
                            try clear hcz28_1
                            try clear hcz28_2
                            try clear hcz28_3
                            try clear hcz29_0
                            try clear hcz29_1
                            try clear hcz29_2
                            try clear hcz29_3
                            try clear hcz29_4
                            try clear hcz33_0
                            try clear hcz33_1
                            try clear hcz33_2
                            try clear hcz33_3
                            try clear hcz38_0
                            try clear hcz38_1
                            try clear hcz38_2
                            try clear hcz38_3
                            try clear hcz40_0
                            try clear hcz40_1
                            try clear hcz40_2
                            try clear hcz40_3
                            try clear hcz41_0
                            try clear hcz41_1
                            try clear hcz41_2
                            try clear hcz41_3
                            try clear hcz41_4
                            try clear hcz44_0
                            try clear hcz44_1
                            try clear hcz44_2
                            try clear hcz44_3
                            try clear hcz46_0
                            try clear hcz46_1
                            try clear hcz46_2
                            try clear hcz46_3
                            try clear hcz47_0
                            try clear hcz47_1
                            try clear hcz47_2
                            try clear hcz47_3
                            try clear hcz47_4
                            try clear hcz50_0
                            try clear hcz50_1
                            try clear hcz50_2
                            try clear hcz50_3
                            try clear hcz52_0
                            try clear hcz52_1
                            try clear hcz52_2
                            try clear hcz52_3
                            try clear hcz59_0
                            try clear hcz59_1
                            try clear hcz59_2
                            try clear hcz59_3
                            try clear hcz59_4
                            try clear hcz61_0
                            try clear hcz61_1
                            try clear hcz61_2
                            try clear hcz61_3
                            try clear hcz62_0
                            try clear hcz62_1
                            try clear hcz62_2
                            try clear hcz62_3
                            try clear hcz65_0
                            try clear hcz65_1
                            try clear hcz65_2
                            try clear hcz65_3
                            try clear hcz65_4
                            try clear hcz67_0
                            try clear hcz67_1
                            try clear hcz67_2
                            try clear hcz67_3
                            try clear hcz68_0
                            try clear hcz68_1
                            try clear hcz68_2
                            try clear hcz68_3
                            try clear hcz71_0
                            try clear hcz71_1
                            try clear hcz71_2
                            try clear hcz71_3
                            try clear hcz71_4
                            try clear hcz73_0
                            try clear hcz73_1
                            try clear hcz73_2
                            try clear hcz73_3
                            try clear hcz79_0
                            try clear hcz79_1
                            try clear hcz79_2
                            try clear hcz79_3
                            try clear hcz79_4
                            try clear hcz7_0
                            try clear hcz7_1
                            try clear hcz7_2
                            try clear hcz7_3
                            try clear hcz7_4
                            try clear hcz81_0
                            try clear hcz81_1
                            try clear hcz81_2
                            try clear hcz81_3
                            try clear hcz82_0
                            try clear hcz82_1
                            try clear hcz82_2
                            try clear hcz82_3
                            try clear hcz85_0
                            try clear hcz85_1
                            try clear hcz85_2
                            try clear hcz85_3
                            try clear hcz85_4
                            try clear hcz87_0
                            try clear hcz87_1
                            try clear hcz87_2
                            try clear hcz87_3
                            try clear hcz88_0
                            try clear hcz88_1
                            try clear hcz88_2
                            try clear hcz88_3
                            try clear hcz91_0
                            try clear hcz91_1
                            try clear hcz91_2
                            try clear hcz91_3
                            try clear hcz91_4
                            try clear hcz93_0
                            try clear hcz93_1
                            try clear hcz93_2
                            try clear hcz93_3
                            try clear hcz97_0
                            try clear hcz97_1
                            try clear hcz97_2
                            try clear hcz97_3
                            try clear hcz97_4
                            try clear hfz102_0
                            try clear hfz102_1
                            try clear hfz102_2
                            try clear hfz102_3
                            try clear hfz102_4
                            try clear hfz104_0
                            try clear hfz104_1
                            try clear hfz104_2
                            try clear hfz104_3
                            try clear hfz105_0
                            try clear hfz105_1
                            try clear hfz105_2
                            try clear hfz105_3
                            try clear hfz108_0
                            try clear hfz108_1
                            try clear hfz108_2
                            try clear hfz108_3
                            try clear hfz108_4
                            try clear hfz110_0
                            try clear hfz110_1
                            try clear hfz110_2
                            try clear hfz110_3
                            try clear hfz113_0
                            try clear hfz113_1
                            try clear hfz113_2
                            try clear hfz113_3
                            try clear hfz113_4
                            try clear hfz118_0
                            try clear hfz118_1
                            try clear hfz118_2
                            try clear hfz118_3
                            try clear hfz11_0
                            try clear hfz11_1
                            try clear hfz11_2
                            try clear hfz11_3
                            try clear hfz11_4
                            try clear hfz123_0
                            try clear hfz123_1
                            try clear hfz123_2
                            try clear hfz123_3
                            try clear hfz129_0
                            try clear hfz129_1
                            try clear hfz129_2
                            try clear hfz129_3
                            try clear hfz129_4
                            try clear hfz13_0
                            try clear hfz13_1
                            try clear hfz13_2
                            try clear hfz13_3
                            try clear hfz13_4
                            try clear hfz15_0
                            try clear hfz15_1
                            try clear hfz15_2
                            try clear hfz15_3
                            try clear hfz15_4
                            try clear hfz17_0
                            try clear hfz17_1
                            try clear hfz17_2
                            try clear hfz17_3
                            try clear hfz17_4
                            try clear hfz18_0
                            try clear hfz18_1
                            try clear hfz18_2
                            try clear hfz18_3
                            try clear hfz18_4
                            try clear hfz25_0
                            try clear hfz25_1
                            try clear hfz25_2
                            try clear hfz25_3
                            try clear hfz25_4
                            try clear hfz28_0
                            try clear hfz28_1
                            try clear hfz28_2
                            try clear hfz28_3
                            try clear hfz29_0
                            try clear hfz29_1
                            try clear hfz29_2
                            try clear hfz29_3
                            try clear hfz29_4
                            try clear hfz33_0
                            try clear hfz33_1
                            try clear hfz33_2
                            try clear hfz33_3
                            try clear hfz38_0
                            try clear hfz38_1
                            try clear hfz38_2
                            try clear hfz38_3
                            try clear hfz40_0
                            try clear hfz40_1
                            try clear hfz40_2
                            try clear hfz40_3
                            try clear hfz41_0
                            try clear hfz41_1
                            try clear hfz41_2
                            try clear hfz41_3
                            try clear hfz41_4
                            try clear hfz44_0
                            try clear hfz44_1
                            try clear hfz44_2
                            try clear hfz44_3
                            try clear hfz46_0
                            try clear hfz46_1
                            try clear hfz46_2
                            try clear hfz46_3
                            try clear hfz47_0
                            try clear hfz47_1
                            try clear hfz47_2
                            try clear hfz47_3
                            try clear hfz47_4
                            try clear hfz50_0
                            try clear hfz50_1
                            try clear hfz50_2
                            try clear hfz50_3
                            try clear hfz52_0
                            try clear hfz52_1
                            try clear hfz52_2
                            try clear hfz52_3
                            try clear hfz59_0
                            try clear hfz59_1
                            try clear hfz59_2
                            try clear hfz59_3
                            try clear hfz59_4
                            try clear hfz61_0
                            try clear hfz61_1
                            try clear hfz61_2
                            try clear hfz61_3
                            try clear hfz62_0
                            try clear hfz62_1
                            try clear hfz62_2
                            try clear hfz62_3
                            try clear hfz65_0
                            try clear hfz65_1
                            try clear hfz65_2
                            try clear hfz65_3
                            try clear hfz65_4
                            try clear hfz67_0
                            try clear hfz67_1
                            try clear hfz67_2
                            try clear hfz67_3
                            try clear hfz68_0
                            try clear hfz68_1
                            try clear hfz68_2
                            try clear hfz68_3
                            try clear hfz71_0
                            try clear hfz71_1
                            try clear hfz71_2
                            try clear hfz71_3
                            try clear hfz71_4
                            try clear hfz73_0
                            try clear hfz73_1
                            try clear hfz73_2
                            try clear hfz73_3
                            try clear hfz79_0
                            try clear hfz79_1
                            try clear hfz79_2
                            try clear hfz79_3
                            try clear hfz79_4
                            try clear hfz7_0
                            try clear hfz7_1
                            try clear hfz7_2
                            try clear hfz7_3
                            try clear hfz7_4
                            try clear hfz81_0
                            try clear hfz81_1
                            try clear hfz81_2
                            try clear hfz81_3
                            try clear hfz82_0
                            try clear hfz82_1
                            try clear hfz82_2
                            try clear hfz82_3
                            try clear hfz85_0
                            try clear hfz85_1
                            try clear hfz85_2
                            try clear hfz85_3
                            try clear hfz85_4
                            try clear hfz87_0
                            try clear hfz87_1
                            try clear hfz87_2
                            try clear hfz87_3
                            try clear hfz88_0
                            try clear hfz88_1
                            try clear hfz88_2
                            try clear hfz88_3
                            try clear hfz91_0
                            try clear hfz91_1
                            try clear hfz91_2
                            try clear hfz91_3
                            try clear hfz91_4
                            try clear hfz93_0
                            try clear hfz93_1
                            try clear hfz93_2
                            try clear hfz93_3
                            try clear hfz97_0
                            try clear hfz97_1
                            try clear hfz97_2
                            try clear hfz97_3
                            try clear hfz97_4
                            try clear hx176_0
                            try clear hx176_1
                            try clear hx176_2
                            try clear hx176_3
                            try clear hx178_0
                            try clear hx178_1
                            try clear hx178_2
                            try clear hx178_3
                            try clear hx181_0
                            try clear hx181_1
                            try clear hx181_2
                            try clear hx181_3
                            try clear p1
                            try clear p17
                            try clear p176
                            try clear p178
                            try clear p181
                            try clear p2
                            try clear q1
                            try clear q17
                            try clear q176
                            try clear q178
                            try clear q181
                            obtain ⟨kq, x152_119, rfl, HA, HJ119, BK173, BK177, BK179, HB⟩ := hcut
                            cases kq with
                            | zero => exact absurd HA.out (by simp [cartoucheref10_Holds.j3])
                            | succ kj119 =>
                             have H := HA.out
                             clear HA
                             simp only [cartoucheref10_Holds.j3] at H
                             by_cases c130 : x152_119 = true
                             · subst c130
                               have H1 : (some false) = some r := by rw [if_pos rfl] at H; exact H
                               clear H
                               have H := H1
                               clear H1
                               obtain rfl := Option.some.inj H
                               go_wp2
                               repeat (go_quiet (fail); try go_wp2)
                               go_ret
                               exact ⟨by first | rfl | (simp [errW_none, errW_some] <;> rfl) | (simp [*, errW_none, errW_some] <;> rfl), by repeat (first | (with_reducible first | exact HB.out | apply below_alloc | apply pw_below_drewN | apply below_drew1 | refine below_set ?_ GE173.out | refine below_set ?_ GE177.out | refine below_set ?_ GE179.out) | exact HB.out)⟩
                             · replace c130 := Bool.eq_false_iff.mpr c130
                               subst c130
                               have H1 : (if 0 ≤ t180 then (if t180 < (l0.length : Int) then ((cartoucheref10_committed.f kj119 l0 ((rd_T50 l0 t180).f1)).bind fun t183 => (if t183 ≥ 0 then (some (decide (t183 < t175))) else (some false))) else (none)) else (none)) = some r := by rw [if_neg (show ¬ (false = true) by decide)] at H; exact H
                               clear H
                               have H := H1
                               clear H1
                               by_cases c131 : 0 ≤ t180
                               · rw [if_pos c131] at H
                                 have c131b0 : decide (0 ≤ t180) = true := decide_eq_true c131
                                 clear c131
                                 by_cases c132 : t180 < (l0.length : Int)
                                 · rw [if_pos c132] at H
                                   have c132b0 : decide (t180 < (l0.length : Int)) = true := decide_eq_true c132
                                   clear c132
                                   replace H := Option.bind_eq_some_iff.mp H
                                   obtain ⟨t183, A1330, H⟩ := H
                                   replace H : (if t183 ≥ 0 then (some (decide (t183 < t175))) else (some false)) = some r := H
                                   have A133 := Aside0.mk A1330
                                   clear A1330
                                   by_cases c134 : t183 ≥ 0
                                   · rw [if_pos c134] at H
                                     have c134b0 : decide (0 ≤ t183) = true := decide_eq_true c134
                                     clear c134
                                     obtain rfl := Option.some.inj H
                                     have p182 : 0 ≤ (t180 : Int) := of_decide_eq_true (by first | (with_reducible assumption) | assumption)
                                     have q182 : t180 < (l0.length : Int) := of_decide_eq_true (by first | (with_reducible assumption) | assumption)
                                     obtain ⟨ad182, e182, hx182_0, hx182_1, hx182_2, hx182_3⟩ := at_T50 HR0.out t180 p182 q182
                                     obtain rfl : ad176 = ad182 := (by injection e182)
                                     replace hx182_0 := (HB.out.cell (World.block_lt_of_cell? w _ hx182_0)).trans hx182_0
                                     replace hx182_1 := (HB.out.cell (World.block_lt_of_cell? w _ hx182_1)).trans hx182_1
                                     replace hx182_2 := (HB.out.cell (World.block_lt_of_cell? w _ hx182_2)).trans hx182_2
                                     replace hx182_3 := (HB.out.cell (World.block_lt_of_cell? w _ hx182_3)).trans hx182_3
                                     replace p182 := eq_true p182
                                     replace q182 := eq_true q182
                                     go_wp2_with (first | (go_at_call 54; (with_reducible refine (cartoucheref10_committed.calls kj119 _ _ l0 ((rd_T50 l0 t180).f1) t183 _ ?side1 ?side2 A133.out).mono ?_); (case side1 => repeat (first | exact (Kd.C_below HR0.out HB.out) | (with_reducible refine Kd.C_alloc ?_ _) | (with_reducible refine Kd.C_drewN ?_ _) | (with_reducible refine Kd.C_drew ?_))); (case side2 => exact HC0.out); rintro e w' ⟨rfl, ⟨nd, rfl⟩⟩; (try first | exact ⟨rfl, _, World.drewN_drewN _ _ _⟩ | exact ⟨rfl, _, Eq.trans (World.drewN_drewN _ _ _) (congrArg (World.drewN _) (Nat.add_assoc _ _ _))⟩)))
                                     repeat (go_quiet (first | (go_at_call 54; (with_reducible refine (cartoucheref10_committed.calls kj119 _ _ l0 ((rd_T50 l0 t180).f1) t183 _ ?side1 ?side2 A133.out).mono ?_); (case side1 => repeat (first | exact (Kd.C_below HR0.out HB.out) | (with_reducible refine Kd.C_alloc ?_ _) | (with_reducible refine Kd.C_drewN ?_ _) | (with_reducible refine Kd.C_drew ?_))); (case side2 => exact HC0.out); rintro e w' ⟨rfl, ⟨nd, rfl⟩⟩; (try first | exact ⟨rfl, _, World.drewN_drewN _ _ _⟩ | exact ⟨rfl, _, Eq.trans (World.drewN_drewN _ _ _) (congrArg (World.drewN _) (Nat.add_assoc _ _ _))⟩))); try go_wp2_with (first | (go_at_call 54; (with_reducible refine (cartoucheref10_committed.calls kj119 _ _ l0 ((rd_T50 l0 t180).f1) t183 _ ?side1 ?side2 A133.out).mono ?_); (case side1 => repeat (first | exact (Kd.C_below HR0.out HB.out) | (with_reducible refine Kd.C_alloc ?_ _) | (with_reducible refine Kd.C_drewN ?_ _) | (with_reducible refine Kd.C_drew ?_))); (case side2 => exact HC0.out); rintro e w' ⟨rfl, ⟨nd, rfl⟩⟩; (try first | exact ⟨rfl, _, World.drewN_drewN _ _ _⟩ | exact ⟨rfl, _, Eq.trans (World.drewN_drewN _ _ _) (congrArg (World.drewN _) (Nat.add_assoc _ _ _))⟩))))
                                     go_ret
                                     exact ⟨by first | rfl | (simp [errW_none, errW_some] <;> rfl) | (simp [*, errW_none, errW_some] <;> rfl), by repeat (first | (with_reducible first | exact HB.out | apply below_alloc | apply pw_below_drewN | apply below_drew1 | refine below_set ?_ GE173.out | refine below_set ?_ GE177.out | refine below_set ?_ GE179.out) | exact HB.out)⟩
                                   · rw [if_neg c134] at H
                                     have c134b0 : decide (0 ≤ t183) = false := decide_eq_false c134
                                     clear c134
                                     obtain rfl := Option.some.inj H
                                     have p182 : 0 ≤ (t180 : Int) := of_decide_eq_true (by first | (with_reducible assumption) | assumption)
                                     have q182 : t180 < (l0.length : Int) := of_decide_eq_true (by first | (with_reducible assumption) | assumption)
                                     obtain ⟨ad182, e182, hx182_0, hx182_1, hx182_2, hx182_3⟩ := at_T50 HR0.out t180 p182 q182
                                     obtain rfl : ad176 = ad182 := (by injection e182)
                                     replace hx182_0 := (HB.out.cell (World.block_lt_of_cell? w _ hx182_0)).trans hx182_0
                                     replace hx182_1 := (HB.out.cell (World.block_lt_of_cell? w _ hx182_1)).trans hx182_1
                                     replace hx182_2 := (HB.out.cell (World.block_lt_of_cell? w _ hx182_2)).trans hx182_2
                                     replace hx182_3 := (HB.out.cell (World.block_lt_of_cell? w _ hx182_3)).trans hx182_3
                                     replace p182 := eq_true p182
                                     replace q182 := eq_true q182
                                     go_wp2_with (first | (go_at_call 54; (with_reducible refine (cartoucheref10_committed.calls kj119 _ _ l0 ((rd_T50 l0 t180).f1) t183 _ ?side1 ?side2 A133.out).mono ?_); (case side1 => repeat (first | exact (Kd.C_below HR0.out HB.out) | (with_reducible refine Kd.C_alloc ?_ _) | (with_reducible refine Kd.C_drewN ?_ _) | (with_reducible refine Kd.C_drew ?_))); (case side2 => exact HC0.out); rintro e w' ⟨rfl, ⟨nd, rfl⟩⟩; (try first | exact ⟨rfl, _, World.drewN_drewN _ _ _⟩ | exact ⟨rfl, _, Eq.trans (World.drewN_drewN _ _ _) (congrArg (World.drewN _) (Nat.add_assoc _ _ _))⟩)))
                                     repeat (go_quiet (first | (go_at_call 54; (with_reducible refine (cartoucheref10_committed.calls kj119 _ _ l0 ((rd_T50 l0 t180).f1) t183 _ ?side1 ?side2 A133.out).mono ?_); (case side1 => repeat (first | exact (Kd.C_below HR0.out HB.out) | (with_reducible refine Kd.C_alloc ?_ _) | (with_reducible refine Kd.C_drewN ?_ _) | (with_reducible refine Kd.C_drew ?_))); (case side2 => exact HC0.out); rintro e w' ⟨rfl, ⟨nd, rfl⟩⟩; (try first | exact ⟨rfl, _, World.drewN_drewN _ _ _⟩ | exact ⟨rfl, _, Eq.trans (World.drewN_drewN _ _ _) (congrArg (World.drewN _) (Nat.add_assoc _ _ _))⟩))); try go_wp2_with (first | (go_at_call 54; (with_reducible refine (cartoucheref10_committed.calls kj119 _ _ l0 ((rd_T50 l0 t180).f1) t183 _ ?side1 ?side2 A133.out).mono ?_); (case side1 => repeat (first | exact (Kd.C_below HR0.out HB.out) | (with_reducible refine Kd.C_alloc ?_ _) | (with_reducible refine Kd.C_drewN ?_ _) | (with_reducible refine Kd.C_drew ?_))); (case side2 => exact HC0.out); rintro e w' ⟨rfl, ⟨nd, rfl⟩⟩; (try first | exact ⟨rfl, _, World.drewN_drewN _ _ _⟩ | exact ⟨rfl, _, Eq.trans (World.drewN_drewN _ _ _) (congrArg (World.drewN _) (Nat.add_assoc _ _ _))⟩))))
                                     go_ret
                                     exact ⟨by first | rfl | (simp [errW_none, errW_some] <;> rfl) | (simp [*, errW_none, errW_some] <;> rfl), by repeat (first | (with_reducible first | exact HB.out | apply below_alloc | apply pw_below_drewN | apply below_drew1 | refine below_set ?_ GE173.out | refine below_set ?_ GE177.out | refine below_set ?_ GE179.out) | exact HB.out)⟩
                                 · rw [if_neg c132] at H
                                   exact absurd H (by simp)
                               · rw [if_neg c131] at H
                                 exact absurd H (by simp)
           · rw [if_neg c23] at H
             exact absurd H (by simp)
         · rw [if_neg c22] at H
           exact absurd H (by simp)
       · rw [if_neg c21] at H
         exact absurd H (by simp)
     · rw [if_neg c20] at H
       exact absurd H (by simp)
end Go.Proofs.YtebjiimlcnmfpaaGreatPr
