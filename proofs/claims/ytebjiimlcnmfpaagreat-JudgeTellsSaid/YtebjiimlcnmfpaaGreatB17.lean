/-
  The program's judge.Same, and its contract in the words of the printed ones.
-/
import Derived.Lib.QuietBelow
import Derived.Test.YtebjiimlcnmfpaaGreatA31
import Derived.Test.YtebjiimlcnmfpaaGreatB1
set_option linter.unusedVariables false
set_option linter.unusedSimpArgs false
namespace Go.Proofs.YtebjiimlcnmfpaaGreat
section
open Go Go.RowKit Go.Proofs Go.Shelf Go.Sort
set_option linter.unusedSimpArgs false
set_option linter.unusedVariables false
attribute [local go_sem] Ext.alloc Ext.alloc2 Ext.alloc3 Ext.alloc4 Ext.drewN_alloc Ext.drewN_alloc2 Ext.drew_alloc Ext.drew Ext.drewN toList_beq

theorem Blk.cells7 {w : World} {g : Nat} {t : TypeId} {a b c d e f h : Value} (hb : Blk w g t #[a, b, c, d, e, f, h]) : w.cell? ⟨g, 0, none⟩ = some a ∧ w.cell? ⟨g, 1, none⟩ = some b ∧ w.cell? ⟨g, 2, none⟩ = some c ∧ w.cell? ⟨g, 3, none⟩ = some d ∧ w.cell? ⟨g, 4, none⟩ = some e ∧ w.cell? ⟨g, 5, none⟩ = some f ∧ w.cell? ⟨g, 6, none⟩ = some h := ⟨hb.cell 0, hb.cell 1, hb.cell 2, hb.cell 3, hb.cell 4, hb.cell 5, hb.cell 6⟩
theorem same_shown (W : World) (a0 : Int) (a1 : Bool) (aA : Option Addr) (an ac : Nat) (a3 a4 a5 : Int) (aE : Option Addr) (am ad : Nat) :
    Calls Tryz.prog 82 #[.agg #[.int .i64 a0, .bool a1, .slice aA an ac, .int .i64 a3, .int .i64 a4, .int .i64 a5, .slice aE am ad]] W fun e w' => e = .returned (.bool a1) ∧ Ext W w' := by
  have hX := Ext.refl W
  go_enter Tryz.func82, Tryz.ntmps82
  go_wp2
  go_ret
  exact ⟨rfl, (by repeat (first | assumption | apply Ext.alloc | apply Ext.drewN | apply Ext.drew | (refine Ext.setCell (by simp <;> omega) ?_ _)))⟩
set_option maxRecDepth 100000 in
set_option maxHeartbeats 4000000 in
theorem j_same (w : World) (a0 : Int) (a1 : Bool) (aA : Option Addr) (an ac : Nat) (a3 a4 a5 : Int) (aE : Option Addr) (am ad : Nat) (b0 : Int) (b1 : Bool) (bA : Option Addr) (bn bc : Nat) (b3 b4 b5 : Int) (bE : Option Addr) (bm bd : Nat) (R : Bool) (oa ob : List Int) (ra rb : List Edge)
    (hA : Nums w aA an oa) (hB : Nums w bA bn ob) (gA : Edgs w aE am ra) (gB : Edgs w bE bm rb) (hR : R = decide (a0 = b0 ∧ a1 = b1 ∧ oa = ob ∧ a3 = b3 ∧ a4 = b4 ∧ a5 = b5 ∧ ra = rb)) :
    Calls Tryz.prog 46 #[.agg #[.int .i64 a0, .bool a1, .slice aA an ac, .int .i64 a3, .int .i64 a4, .int .i64 a5, .slice aE am ad], .agg #[.int .i64 b0, .bool b1, .slice bA bn bc, .int .i64 b3, .int .i64 b4, .int .i64 b5, .slice bE bm bd]] w fun e w' => e = .returned (.bool R) ∧ Ext w w' := by
  have hX := Ext.refl w
  have hXB : Ext w ((w.alloc (.cells #[.int .i64 a0, .bool a1, .slice aA an ac, .int .i64 a3, .int .i64 a4, .int .i64 a5, .slice aE am ad] 42)).alloc (.cells #[.int .i64 b0, .bool b1, .slice bA bn bc, .int .i64 b3, .int .i64 b4, .int .i64 b5, .slice bE bm bd] 42)) := (hX.alloc _).alloc _
  have pa := (Blk.new w 42 #[.int .i64 a0, .bool a1, .slice aA an ac, .int .i64 a3, .int .i64 a4, .int .i64 a5, .slice aE am ad]).alloc (.cells #[.int .i64 b0, .bool b1, .slice bA bn bc, .int .i64 b3, .int .i64 b4, .int .i64 b5, .slice bE bm bd] 42)
  have pb := Blk.new (w.alloc (.cells #[.int .i64 a0, .bool a1, .slice aA an ac, .int .i64 a3, .int .i64 a4, .int .i64 a5, .slice aE am ad] 42)) 42 #[.int .i64 b0, .bool b1, .slice bA bn bc, .int .i64 b3, .int .i64 b4, .int .i64 b5, .slice bE bm bd]
  rw [World.size_alloc] at pb
  obtain ⟨q1, hq1⟩ : ∃ q, decide (oa = ob) = q := ⟨_, rfl⟩
  obtain ⟨q2, hq2⟩ : ∃ q, decide (ra = rb) = q := ⟨_, rfl⟩
  have H1 := hid (fun W (h : Ext w W) => eq_ints W aA bA an bn ac bc oa ob (hA.ext h) (hB.ext h))
  have H2 := hid (fun W (h : Ext w W) => eq_edges W aE bE am bm ad bd ra rb (gA.ext h) (gB.ext h))
  rw [hq1] at H1
  rw [hq2] at H2
  have HR : Hid (R = (decide (a0 = b0) && ((a1 == b1) && (q1 && (decide (a3 = b3) && (decide (a4 = b4) && (decide (a5 = b5) && q2))))))) := hid (by
    rw [hR, ← hq1, ← hq2]
    simp only [Bool.decide_and]
    cases a1 <;> cases b1 <;> rfl)
  clear hR hq1 hq2 hA hB gA gB
  go_enter Tryz.func46, Tryz.ntmps46
  go_wp2
  obtain ⟨W0, hW0⟩ : ∃ W, (w.alloc (.cells #[.int .i64 a0, .bool a1, .slice aA an ac, .int .i64 a3, .int .i64 a4, .int .i64 a5, .slice aE am ad] 42)).alloc (.cells #[.int .i64 b0, .bool b1, .slice bA bn bc, .int .i64 b3, .int .i64 b4, .int .i64 b5, .slice bE bm bd] 42) = W := ⟨_, rfl⟩
  rw [hW0] at hXB pa pb ⊢
  clear hW0
  obtain ⟨x0, x1, x2, x3, x4, x5, x6⟩ := pa.cells7
  obtain ⟨y0, y1, y2, y3, y4, y5, y6⟩ := pb.cells7
  replace x0 := cell_regrown x0
  replace y0 := cell_regrown y0
  replace x1 := cell_regrown x1
  replace y1 := cell_regrown y1
  replace x2 := cell_regrown x2
  replace y2 := cell_regrown y2
  replace x3 := cell_regrown x3
  replace y3 := cell_regrown y3
  replace x4 := cell_regrown x4
  replace y4 := cell_regrown y4
  replace x5 := cell_regrown x5
  replace y5 := cell_regrown y5
  replace x6 := cell_regrown x6
  replace y6 := cell_regrown y6
  clear pa pb
  by_cases c0 : a0 = b0
  case neg =>
    have d : (a0 == b0) = false := beq_eq_false_iff_ne.2 c0
    have hR2 : R = false := by rw [HR.out]; simp [*]
    clear HR
    subst hR2
    refine wp_region_quiet_below (by kernel_rfl) (by kernel_rfl) ?_
    repeat (go_big_quiet_step (first
      | (go_at_call 82; exact Calls.regrown_of (same_shown _ _ _ _ _ _ _ _ _ _ _ _))
      | (go_at_call 76; exact Calls.regrown_of (H1.out _ (hXB.trans (below_regrown _ _ _))))
      | (go_at_call 83; exact Calls.regrown_of (H2.out _ (hXB.trans (below_regrown _ _ _))))))
    refine wpQuiet_nil ?_
    intro _ hw'
    obtain ⟨⟨nq, osq⟩, hw''⟩ := hw'
    subst hw''
    have hx5 : Ext w (grow (redrawn W0 nq) osq) := hXB.trans (below_regrown W0 nq osq)
    go_wp2
    go_ret
    exact ⟨rfl, hx5⟩
  subst c0
  by_cases c1 : a1 = b1
  case neg =>
    have d : (a1 == b1) = false := beq_eq_false_iff_ne.2 c1
    have hR2 : R = false := by rw [HR.out]; simp [*]
    clear HR
    subst hR2
    refine wp_region_quiet_below (by kernel_rfl) (by kernel_rfl) ?_
    repeat (go_big_quiet_step (first
      | (go_at_call 82; exact Calls.regrown_of (same_shown _ _ _ _ _ _ _ _ _ _ _ _))
      | (go_at_call 76; exact Calls.regrown_of (H1.out _ (hXB.trans (below_regrown _ _ _))))
      | (go_at_call 83; exact Calls.regrown_of (H2.out _ (hXB.trans (below_regrown _ _ _))))))
    refine wpQuiet_nil ?_
    intro _ hw'
    obtain ⟨⟨nq, osq⟩, hw''⟩ := hw'
    subst hw''
    have hx5 : Ext w (grow (redrawn W0 nq) osq) := hXB.trans (below_regrown W0 nq osq)
    go_wp2
    go_ret
    exact ⟨rfl, hx5⟩
  subst c1
  cases q1
  case false =>
    have hR2 : R = false := by rw [HR.out]; simp [*]
    clear HR
    subst hR2
    refine wp_region_quiet_below (by kernel_rfl) (by kernel_rfl) ?_
    repeat (go_big_quiet_step (first
      | (go_at_call 82; exact Calls.regrown_of (same_shown _ _ _ _ _ _ _ _ _ _ _ _))
      | (go_at_call 76; exact Calls.regrown_of (H1.out _ (hXB.trans (below_regrown _ _ _))))
      | (go_at_call 83; exact Calls.regrown_of (H2.out _ (hXB.trans (below_regrown _ _ _))))))
    refine wpQuiet_nil ?_
    intro _ hw'
    obtain ⟨⟨nq, osq⟩, hw''⟩ := hw'
    subst hw''
    have hx5 : Ext w (grow (redrawn W0 nq) osq) := hXB.trans (below_regrown W0 nq osq)
    go_wp2
    go_ret
    exact ⟨rfl, hx5⟩
  by_cases c3 : a3 = b3
  case neg =>
    have d : (a3 == b3) = false := beq_eq_false_iff_ne.2 c3
    have hR2 : R = false := by rw [HR.out]; simp [*]
    clear HR
    subst hR2
    refine wp_region_quiet_below (by kernel_rfl) (by kernel_rfl) ?_
    repeat (go_big_quiet_step (first
      | (go_at_call 82; exact Calls.regrown_of (same_shown _ _ _ _ _ _ _ _ _ _ _ _))
      | (go_at_call 76; exact Calls.regrown_of (H1.out _ (hXB.trans (below_regrown _ _ _))))
      | (go_at_call 83; exact Calls.regrown_of (H2.out _ (hXB.trans (below_regrown _ _ _))))))
    refine wpQuiet_nil ?_
    intro _ hw'
    obtain ⟨⟨nq, osq⟩, hw''⟩ := hw'
    subst hw''
    have hx5 : Ext w (grow (redrawn W0 nq) osq) := hXB.trans (below_regrown W0 nq osq)
    go_wp2
    go_ret
    exact ⟨rfl, hx5⟩
  subst c3
  by_cases c4 : a4 = b4
  case neg =>
    have d : (a4 == b4) = false := beq_eq_false_iff_ne.2 c4
    have hR2 : R = false := by rw [HR.out]; simp [*]
    clear HR
    subst hR2
    refine wp_region_quiet_below (by kernel_rfl) (by kernel_rfl) ?_
    repeat (go_big_quiet_step (first
      | (go_at_call 82; exact Calls.regrown_of (same_shown _ _ _ _ _ _ _ _ _ _ _ _))
      | (go_at_call 76; exact Calls.regrown_of (H1.out _ (hXB.trans (below_regrown _ _ _))))
      | (go_at_call 83; exact Calls.regrown_of (H2.out _ (hXB.trans (below_regrown _ _ _))))))
    refine wpQuiet_nil ?_
    intro _ hw'
    obtain ⟨⟨nq, osq⟩, hw''⟩ := hw'
    subst hw''
    have hx5 : Ext w (grow (redrawn W0 nq) osq) := hXB.trans (below_regrown W0 nq osq)
    go_wp2
    go_ret
    exact ⟨rfl, hx5⟩
  subst c4
  by_cases c5 : a5 = b5
  case neg =>
    have d : (a5 == b5) = false := beq_eq_false_iff_ne.2 c5
    have hR2 : R = false := by rw [HR.out]; simp [*]
    clear HR
    subst hR2
    refine wp_region_quiet_below (by kernel_rfl) (by kernel_rfl) ?_
    repeat (go_big_quiet_step (first
      | (go_at_call 82; exact Calls.regrown_of (same_shown _ _ _ _ _ _ _ _ _ _ _ _))
      | (go_at_call 76; exact Calls.regrown_of (H1.out _ (hXB.trans (below_regrown _ _ _))))
      | (go_at_call 83; exact Calls.regrown_of (H2.out _ (hXB.trans (below_regrown _ _ _))))))
    refine wpQuiet_nil ?_
    intro _ hw'
    obtain ⟨⟨nq, osq⟩, hw''⟩ := hw'
    subst hw''
    have hx5 : Ext w (grow (redrawn W0 nq) osq) := hXB.trans (below_regrown W0 nq osq)
    go_wp2
    go_ret
    exact ⟨rfl, hx5⟩
  subst c5
  have hR2 : R = q2 := by rw [HR.out]; simp [*]
  clear HR
  subst hR2
  refine wp_region_quiet_below (by kernel_rfl) (by kernel_rfl) ?_
  repeat (go_big_quiet_step (first
    | (go_at_call 82; exact Calls.regrown_of (same_shown _ _ _ _ _ _ _ _ _ _ _ _))
    | (go_at_call 76; exact Calls.regrown_of (H1.out _ (hXB.trans (below_regrown _ _ _))))
    | (go_at_call 83; exact Calls.regrown_of (H2.out _ (hXB.trans (below_regrown _ _ _))))))
  refine wpQuiet_nil ?_
  intro _ hw'
  obtain ⟨⟨nq, osq⟩, hw''⟩ := hw'
  subst hw''
  have hx5 : Ext w (grow (redrawn W0 nq) osq) := hXB.trans (below_regrown W0 nq osq)
  go_wp2
  go_ret
  exact ⟨rfl, hx5⟩
end
end Go.Proofs.YtebjiimlcnmfpaaGreat
namespace Go.Proofs.YtebjiimlcnmfpaaGreatPr
section
open Go Go.RowKit Go.Proofs.YtebjiimlcnmfpaaGreat
def judge_Same.f (a0_0 : Int) (a0_1 : Bool) (l0_2 : List Int) (a0_3 : Int) (a0_4 : Int) (a0_5 : Int) (l0_6 : List (S24)) (a1_0 : Int) (a1_1 : Bool) (l1_2 : List Int) (a1_3 : Int) (a1_4 : Int) (a1_5 : Int) (l1_6 : List (S24)) : Option (Bool) :=
  if (l0_2.length ≤ 140737488351232 ∧ l1_2.length ≤ 140737488351232) ∧ l0_6.length ≤ 140737488351232 ∧ l1_6.length ≤ 140737488351232 then some (decide (a0_0 = a1_0 ∧ a0_1 = a1_1 ∧ l0_2 = l1_2 ∧ a0_3 = a1_3 ∧ a0_4 = a1_4 ∧ a0_5 = a1_5 ∧ l0_6.map toEd = l1_6.map toEd)) else none
theorem judge_Same.calls (a0_0 : Int) (a0_1 : Bool) (A0_2 : Option Addr) (c0_2 : Nat) (l0_2 : List Int) (a0_3 : Int) (a0_4 : Int) (a0_5 : Int) (A0_6 : Option Addr) (c0_6 : Nat) (l0_6 : List (S24)) (a1_0 : Int) (a1_1 : Bool) (A1_2 : Option Addr) (c1_2 : Nat) (l1_2 : List Int) (a1_3 : Int) (a1_4 : Int) (a1_5 : Int) (A1_6 : Option Addr) (c1_6 : Nat) (l1_6 : List (S24)) (r : Bool) (w : World) (hr0_2 : YtebjiimlcnmfpaaGreatW.PrintWords.Kd.C (YtebjiimlcnmfpaaGreatW.PrintWords.Kd.int .i64) w A0_2 l0_2.length l0_2) (hc0_2 : l0_2.length ≤ c0_2) (hr0_6 : YtebjiimlcnmfpaaGreatW.PrintWords.Kd.C k24 w A0_6 l0_6.length l0_6) (hc0_6 : l0_6.length ≤ c0_6) (hr1_2 : YtebjiimlcnmfpaaGreatW.PrintWords.Kd.C (YtebjiimlcnmfpaaGreatW.PrintWords.Kd.int .i64) w A1_2 l1_2.length l1_2) (hc1_2 : l1_2.length ≤ c1_2) (hr1_6 : YtebjiimlcnmfpaaGreatW.PrintWords.Kd.C k24 w A1_6 l1_6.length l1_6) (hc1_6 : l1_6.length ≤ c1_6) (h : judge_Same.f a0_0 a0_1 l0_2 a0_3 a0_4 a0_5 l0_6 a1_0 a1_1 l1_2 a1_3 a1_4 a1_5 l1_6 = some r) :
    Calls Tryz.prog 46 #[.agg #[.int .i64 a0_0, .bool a0_1, .slice A0_2 l0_2.length c0_2, .int .i64 a0_3, .int .i64 a0_4, .int .i64 a0_5, .slice A0_6 l0_6.length c0_6], .agg #[.int .i64 a1_0, .bool a1_1, .slice A1_2 l1_2.length c1_2, .int .i64 a1_3, .int .i64 a1_4, .int .i64 a1_5, .slice A1_6 l1_6.length c1_6]] w fun e w' => e = .returned (.bool r) ∧ Below w.heap.size w w' := by
  unfold judge_Same.f at h
  split at h
  · rename_i hn
    injection h with h
    exact j_same w a0_0 a0_1 A0_2 l0_2.length c0_2 a0_3 a0_4 a0_5 A0_6 l0_6.length c0_6 a1_0 a1_1 A1_2 l1_2.length c1_2 a1_3 a1_4 a1_5 A1_6 l1_6.length c1_6 r l0_2 l1_2 (l0_6.map toEd) (l1_6.map toEd) (nums_of hr0_2 hn.1.1) (nums_of hr1_2 hn.1.2) (edgs_of hr0_6 hn.2.1) (edgs_of hr1_6 hn.2.2) h.symm
  · cases h
end
end Go.Proofs.YtebjiimlcnmfpaaGreatPr
