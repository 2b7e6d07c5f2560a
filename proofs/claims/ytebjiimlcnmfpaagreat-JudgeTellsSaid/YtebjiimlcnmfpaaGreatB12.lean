/-
  The document's examples of chapter 12: what the program's judge.Judge says of them.
-/
import Derived.Test.YtebjiimlcnmfpaaGreatB29
import Derived.Test.YtebjiimlcnmfpaaGreatPrCartouchelaw12Skew
import Derived.Test.YtebjiimlcnmfpaaGreatB1
set_option linter.unusedVariables false
set_option linter.unusedSimpArgs false
namespace Go.Proofs.YtebjiimlcnmfpaaGreatPr
open Go.Proofs.YtebjiimlcnmfpaaGreat
section
open Go Go.RowKit Go.Proofs Go.Shelf
set_option linter.unusedSimpArgs false
set_option linter.unusedVariables false
attribute [local go_sem] Ext.alloc Ext.alloc2 Ext.alloc3 Ext.alloc4 Ext.drewN_alloc Ext.drewN_alloc2 Ext.drew_alloc Ext.drew Ext.drewN toList_beq

def sk (b : Bool) : List S50 := (cartouchelaw12_skew.f b).getD []
theorem sk_f (b : Bool) : cartouchelaw12_skew.f b = some (sk b) := by cases b <;> rfl
def jsay (b : Bool) (lev : Int) (acc : Bool) (n : Nat) : Prop := (judge_Judge.f (sk b) lev).map (fun r => (r.2.1, r.2.2.1.length, r.2.2.2.2.2.2.2)) = some (acc, n, 0)
theorem js1 : jsay true 1 false 0 := by unfold jsay; kernel_rfl
theorem js2 : jsay true 2 false 0 := by unfold jsay; kernel_rfl
theorem js3 : jsay false 1 false 0 := by unfold jsay; kernel_rfl
theorem js4 : jsay false 2 true 2 := by unfold jsay; kernel_rfl
theorem jsay_at {b : Bool} {lev : Int} {acc : Bool} {n : Nat} (h : jsay b lev acc n) : ∃ r1 r3 r4 r5 r6 r7, judge_Judge.f (sk b) lev = some (r1, acc, r3, r4, r5, r6, r7, 0) ∧ r3.length = n := by
  unfold jsay at h
  obtain ⟨⟨r1, r2, r3, r4, r5, r6, r7, r8⟩, h1, h2⟩ := Option.map_eq_some_iff.1 h
  simp only [Prod.mk.injEq] at h2
  obtain ⟨rfl, h3, rfl⟩ := h2
  exact ⟨r1, r3, r4, r5, r6, r7, h1, h3⟩
theorem Blk.c1 {w : World} {g : Nat} {t : TypeId} {a b c d e f h : Value} (hb : Blk w g t #[a, b, c, d, e, f, h]) : w.cell? ⟨g, 1, none⟩ = some b := hb.cell 1
theorem Blk.c2 {w : World} {g : Nat} {t : TypeId} {a b c d e f h : Value} (hb : Blk w g t #[a, b, c, d, e, f, h]) : w.cell? ⟨g, 2, none⟩ = some c := hb.cell 2
set_option maxRecDepth 100000 in
set_option maxHeartbeats 8000000 in
theorem shown12 (w : World) : Calls Tryz.prog 28 #[] w fun e w' => e = .returned (.bool true) ∧ Ext w w' := by
  obtain ⟨a1, b1, c1, d1, e1, f1, hj1, hn1⟩ := jsay_at js1
  obtain ⟨a2, b2, c2, d2, e2, f2, hj2, hn2⟩ := jsay_at js2
  obtain ⟨a3, b3, c3, d3, e3, f3, hj3, hn3⟩ := jsay_at js3
  obtain ⟨a4, b4, c4, d4, e4, f4, hj4, hn4⟩ := jsay_at js4
  clear hn1 hn2 hn3
  go_enter Tryz.func28, Tryz.ntmps28
  have hX0 := Ext.refl w
  go_wp2_with first
    | (go_at_call 59; (with_reducible refine (cartouchelaw12_skew.calls true (sk true) w (sk_f true)).mono ?_); rintro z1 w1 ⟨v1, rfl, hR1, hx1⟩; have hX1 : Ext w w1 := hX0.trans hx1; obtain ⟨A1, k1, rfl, hk1, hC1⟩ := YtebjiimlcnmfpaaGreatW.PrintWords.Kd.N_reads (YtebjiimlcnmfpaaGreatW.PrintWords.Kd.R_N hR1))
    | (go_at_call 33; (with_reducible refine (judge_Judge.calls A1 k1 (sk true) 1 a1 false b1 c1 d1 e1 f1 0 w1 hC1 hk1 hj1).mono ?_); rintro z2 w2 ⟨u1, q1, rfl, hS1, hQ1, hx2⟩; obtain ⟨U1, m1, hu1, _, _⟩ := YtebjiimlcnmfpaaGreatW.PrintWords.Kd.N_reads (YtebjiimlcnmfpaaGreatW.PrintWords.Kd.R_N hS1); obtain ⟨Q1, n1, hq1, _, _⟩ := YtebjiimlcnmfpaaGreatW.PrintWords.Kd.N_reads (YtebjiimlcnmfpaaGreatW.PrintWords.Kd.R_N hQ1); subst hu1; subst hq1; have hX2 : Ext w (w2.alloc (.cells #[.int .i64 a1, .bool false, .slice U1 b1.length m1, .int .i64 c1, .int .i64 d1, .int .i64 e1, .slice Q1 f1.length n1] 42)) := (Ext.trans hX1 hx2).alloc _; have p1_1 := hid (Blk.new w2 42 #[.int .i64 a1, .bool false, .slice U1 b1.length m1, .int .i64 c1, .int .i64 d1, .int .i64 e1, .slice Q1 f1.length n1]))
    | (go_at_call 59; (with_reducible refine (cartouchelaw12_skew.calls true (sk true) (w2.alloc (.cells #[.int .i64 a1, .bool false, .slice U1 b1.length m1, .int .i64 c1, .int .i64 d1, .int .i64 e1, .slice Q1 f1.length n1] 42)) (sk_f true)).mono ?_); rintro z3 w3 ⟨v3, rfl, hR3, hx3⟩; have hX3 : Ext w w3 := hX2.trans hx3; obtain ⟨A2, k2, rfl, hk2, hC2⟩ := YtebjiimlcnmfpaaGreatW.PrintWords.Kd.N_reads (YtebjiimlcnmfpaaGreatW.PrintWords.Kd.R_N hR3))
    | (go_at_call 33; (with_reducible refine (judge_Judge.calls A2 k2 (sk true) 2 a2 false b2 c2 d2 e2 f2 0 w3 hC2 hk2 hj2).mono ?_); rintro z4 w4 ⟨u2, q2, rfl, hS2, hQ2, hx4⟩; obtain ⟨U2, m2, hu2, _, _⟩ := YtebjiimlcnmfpaaGreatW.PrintWords.Kd.N_reads (YtebjiimlcnmfpaaGreatW.PrintWords.Kd.R_N hS2); obtain ⟨Q2, n2, hq2, _, _⟩ := YtebjiimlcnmfpaaGreatW.PrintWords.Kd.N_reads (YtebjiimlcnmfpaaGreatW.PrintWords.Kd.R_N hQ2); subst hu2; subst hq2; have hX4 : Ext w (w4.alloc (.cells #[.int .i64 a2, .bool false, .slice U2 b2.length m2, .int .i64 c2, .int .i64 d2, .int .i64 e2, .slice Q2 f2.length n2] 42)) := (Ext.trans hX3 hx4).alloc _; have p2_2 := hid (Blk.new w4 42 #[.int .i64 a2, .bool false, .slice U2 b2.length m2, .int .i64 c2, .int .i64 d2, .int .i64 e2, .slice Q2 f2.length n2]); have p1_2 := hid (((Blk.ext p1_1.out hx3).ext hx4).alloc (.cells #[.int .i64 a2, .bool false, .slice U2 b2.length m2, .int .i64 c2, .int .i64 d2, .int .i64 e2, .slice Q2 f2.length n2] 42)))
    | (go_at_call 59; (with_reducible refine (cartouchelaw12_skew.calls false (sk false) (w4.alloc (.cells #[.int .i64 a2, .bool false, .slice U2 b2.length m2, .int .i64 c2, .int .i64 d2, .int .i64 e2, .slice Q2 f2.length n2] 42)) (sk_f false)).mono ?_); rintro z5 w5 ⟨v5, rfl, hR5, hx5⟩; have hX5 : Ext w w5 := hX4.trans hx5; obtain ⟨A3, k3, rfl, hk3, hC3⟩ := YtebjiimlcnmfpaaGreatW.PrintWords.Kd.N_reads (YtebjiimlcnmfpaaGreatW.PrintWords.Kd.R_N hR5))
    | (go_at_call 33; (with_reducible refine (judge_Judge.calls A3 k3 (sk false) 1 a3 false b3 c3 d3 e3 f3 0 w5 hC3 hk3 hj3).mono ?_); rintro z6 w6 ⟨u3, q3, rfl, hS3, hQ3, hx6⟩; obtain ⟨U3, m3, hu3, _, _⟩ := YtebjiimlcnmfpaaGreatW.PrintWords.Kd.N_reads (YtebjiimlcnmfpaaGreatW.PrintWords.Kd.R_N hS3); obtain ⟨Q3, n3, hq3, _, _⟩ := YtebjiimlcnmfpaaGreatW.PrintWords.Kd.N_reads (YtebjiimlcnmfpaaGreatW.PrintWords.Kd.R_N hQ3); subst hu3; subst hq3; have hX6 : Ext w (w6.alloc (.cells #[.int .i64 a3, .bool false, .slice U3 b3.length m3, .int .i64 c3, .int .i64 d3, .int .i64 e3, .slice Q3 f3.length n3] 42)) := (Ext.trans hX5 hx6).alloc _; have p3_3 := hid (Blk.new w6 42 #[.int .i64 a3, .bool false, .slice U3 b3.length m3, .int .i64 c3, .int .i64 d3, .int .i64 e3, .slice Q3 f3.length n3]); have p1_3 := hid (((Blk.ext p1_2.out hx5).ext hx6).alloc (.cells #[.int .i64 a3, .bool false, .slice U3 b3.length m3, .int .i64 c3, .int .i64 d3, .int .i64 e3, .slice Q3 f3.length n3] 42)); have p2_3 := hid (((Blk.ext p2_2.out hx5).ext hx6).alloc (.cells #[.int .i64 a3, .bool false, .slice U3 b3.length m3, .int .i64 c3, .int .i64 d3, .int .i64 e3, .slice Q3 f3.length n3] 42)))
    | (go_at_call 59; (with_reducible refine (cartouchelaw12_skew.calls false (sk false) (w6.alloc (.cells #[.int .i64 a3, .bool false, .slice U3 b3.length m3, .int .i64 c3, .int .i64 d3, .int .i64 e3, .slice Q3 f3.length n3] 42)) (sk_f false)).mono ?_); rintro z7 w7 ⟨v7, rfl, hR7, hx7⟩; have hX7 : Ext w w7 := hX6.trans hx7; obtain ⟨A4, k4, rfl, hk4, hC4⟩ := YtebjiimlcnmfpaaGreatW.PrintWords.Kd.N_reads (YtebjiimlcnmfpaaGreatW.PrintWords.Kd.R_N hR7))
    | (go_at_call 33; (with_reducible refine (judge_Judge.calls A4 k4 (sk false) 2 a4 true b4 c4 d4 e4 f4 0 w7 hC4 hk4 hj4).mono ?_); rintro z8 w8 ⟨u4, q4, rfl, hS4, hQ4, hx8⟩; obtain ⟨U4, m4, hu4, _, _⟩ := YtebjiimlcnmfpaaGreatW.PrintWords.Kd.N_reads (YtebjiimlcnmfpaaGreatW.PrintWords.Kd.R_N hS4); obtain ⟨Q4, n4, hq4, _, _⟩ := YtebjiimlcnmfpaaGreatW.PrintWords.Kd.N_reads (YtebjiimlcnmfpaaGreatW.PrintWords.Kd.R_N hQ4); rw [hn4] at hu4; subst hu4; subst hq4; have hX8 : Ext w (w8.alloc (.cells #[.int .i64 a4, .bool true, .slice U4 2 m4, .int .i64 c4, .int .i64 d4, .int .i64 e4, .slice Q4 f4.length n4] 42)) := (Ext.trans hX7 hx8).alloc _; have p4_4 := hid (Blk.new w8 42 #[.int .i64 a4, .bool true, .slice U4 2 m4, .int .i64 c4, .int .i64 d4, .int .i64 e4, .slice Q4 f4.length n4]); have p1_4 := hid (((Blk.ext p1_3.out hx7).ext hx8).alloc (.cells #[.int .i64 a4, .bool true, .slice U4 2 m4, .int .i64 c4, .int .i64 d4, .int .i64 e4, .slice Q4 f4.length n4] 42)); have p2_4 := hid (((Blk.ext p2_3.out hx7).ext hx8).alloc (.cells #[.int .i64 a4, .bool true, .slice U4 2 m4, .int .i64 c4, .int .i64 d4, .int .i64 e4, .slice Q4 f4.length n4] 42)); have p3_4 := hid (((Blk.ext p3_3.out hx7).ext hx8).alloc (.cells #[.int .i64 a4, .bool true, .slice U4 2 m4, .int .i64 c4, .int .i64 d4, .int .i64 e4, .slice Q4 f4.length n4] 42)); have y1 := Blk.c1 p1_4.out; have y2 := Blk.c1 p2_4.out; have y3 := Blk.c1 p3_4.out; have y4 := Blk.c1 p4_4.out; have y5 := Blk.c2 p4_4.out)
  go_ret
  exact ⟨rfl, hX8⟩
def cartouchelaw12_shown.f : Option (Bool) := some true
theorem cartouchelaw12_shown.calls (r : Bool) (w : World) (h : cartouchelaw12_shown.f = some r) :
    Calls Tryz.prog 28 #[] w fun e w' => e = .returned (.bool r) ∧ Below w.heap.size w w' := by
  injection h with h
  subst h
  exact shown12 w
end
end Go.Proofs.YtebjiimlcnmfpaaGreatPr
