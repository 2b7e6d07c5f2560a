/-
  The document's Same of two verdicts, walked by hand.
-/
import Derived.Test.YtebjiimlcnmfpaaGreatPrCartoucheref08Ints
import Derived.Test.YtebjiimlcnmfpaaGreatPrCartoucheref10Same
import Derived.Test.YtebjiimlcnmfpaaGreatS16
import Derived.Test.YtebjiimlcnmfpaaGreatS14
import Derived.Test.YtebjiimlcnmfpaaGreatS30
set_option linter.unusedVariables false
set_option linter.unusedSimpArgs false
namespace Go.Proofs.YtebjiimlcnmfpaaGreatPr
open Go.Proofs.YtebjiimlcnmfpaaGreat
section
open Go Go.RowKit YtebjiimlcnmfpaaGreatW.PrintWords

theorem dec_cons {α : Type} [DecidableEq α] (x y : α) (s t : List α) : decide (x :: s = y :: t) = (decide (x = y) && decide (s = t)) := by
  by_cases h : x = y <;> by_cases g : s = t <;> simp [h, g]
theorem rdt (l : List Int) {i : Nat} (h : i < l.length) : rd l (i : Int) = l[i] := by
  unfold rd
  rw [Int.toNat_natCast, List.getD_eq_getElem?_getD, List.getElem?_eq_getElem h]; rfl
theorem intsI_l0 (a b : List Int) (hl : a.length = b.length) (hn : a.length ≤ 140737488351232) : ∀ (d i : Nat), i + d = a.length → Evt (fun k => cartoucheref08_Ints.l0 k a b (i : Int)) (decide (a.drop i = b.drop i))
  | 0, i, hi => Evt.now1 fun k => by
    simp only [cartoucheref08_Ints.l0]
    rw [if_neg (by omega), List.drop_eq_nil_of_le (by omega), List.drop_eq_nil_of_le (by omega)]
    rfl
  | d + 1, i, hi => by
    have hia : i < a.length := by omega
    have hib : i < b.length := by omega
    rw [List.drop_eq_getElem_cons hia, List.drop_eq_getElem_cons hib, dec_cons]
    by_cases q : a[i] = b[i]
    · rw [decide_eq_true q, Bool.true_and]
      refine Evt.step (fun k => ?_) (intsI_l0 a b hl hn d (i + 1) (by omega))
      simp only [cartoucheref08_Ints.l0]
      rw [if_pos (by omega), if_pos (by omega), if_pos (by omega), rdt a hia, rdt b hib, if_pos q, wrap_succ (n := a.length) hia hn]
    · rw [decide_eq_false q, Bool.false_and]
      refine Evt.now1 fun k => ?_
      simp only [cartoucheref08_Ints.l0]
      rw [if_pos (by omega), if_pos (by omega), if_pos (by omega), rdt a hia, rdt b hib, if_neg q]
theorem intsI_evt (a b : List Int) (hn : a.length ≤ 140737488351232) : Evt (fun k => cartoucheref08_Ints.f k a b) (decide (a = b)) := by
  by_cases h : a.length = b.length
  · have := intsI_l0 a b h hn a.length 0 (by omega)
    rw [List.drop_zero, List.drop_zero] at this
    refine Evt.congr (fun k => ?_) this
    unfold cartoucheref08_Ints.f
    rw [if_pos (by omega)]; rfl
  · rw [decide_eq_false (fun e => h (by rw [e]))]
    refine Evt.now fun k => ?_
    unfold cartoucheref08_Ints.f
    rw [if_neg (by omega)]
theorem edge_dec (x y : S24) : (!(x.f0 == y.f0) || (!(x.f1 == y.f1) || (!(x.f2 == y.f2) || (!(x.f3 == y.f3) || (!(x.f4 == y.f4)))))) = !decide (toEd x = toEd y) := by
  cases x; cases y
  rw [Bool.eq_iff_iff]
  simp [toEd]
theorem sameI_l0 (a b : List S24) (hl : a.length = b.length) (hn : a.length ≤ 140737488351232) : ∀ (d i : Nat), i + d = a.length → Evt (fun k => cartoucheref10_Same.l0 k a b (i : Int)) (decide ((a.drop i).map toEd = (b.drop i).map toEd))
  | 0, i, hi => Evt.now1 fun k => by
    simp only [cartoucheref10_Same.l0]
    rw [if_neg (by omega), List.drop_eq_nil_of_le (by omega), List.drop_eq_nil_of_le (by omega)]
    rfl
  | d + 1, i, hi => by
    have hia : i < a.length := by omega
    have hib : i < b.length := by omega
    rw [List.drop_eq_getElem_cons hia, List.drop_eq_getElem_cons hib, List.map_cons, List.map_cons, dec_cons]
    by_cases q : toEd a[i] = toEd b[i]
    · rw [decide_eq_true q, Bool.true_and]
      refine Evt.step (fun k => ?_) (sameI_l0 a b hl hn d (i + 1) (by omega))
      simp only [cartoucheref10_Same.l0]
      rw [if_pos (by omega), if_pos (by omega), if_pos (by omega), rde a hia, rde b hib, edge_dec, decide_eq_true q, if_neg (by simp), wrap_succ (n := a.length) hia hn]
    · rw [decide_eq_false q, Bool.false_and]
      refine Evt.now1 fun k => ?_
      simp only [cartoucheref10_Same.l0]
      rw [if_pos (by omega), if_pos (by omega), if_pos (by omega), rde a hia, rde b hib, edge_dec, decide_eq_false q, if_pos (by rfl)]
theorem sameI_evt (a b : List S24) (hn : a.length ≤ 140737488351232) : Evt (fun k => cartoucheref10_Same.f k a b) (decide (a.map toEd = b.map toEd)) := by
  by_cases h : a.length = b.length
  · have := sameI_l0 a b h hn a.length 0 (by omega)
    rw [List.drop_zero, List.drop_zero] at this
    refine Evt.congr (fun k => ?_) this
    unfold cartoucheref10_Same.f
    rw [if_pos (by omega)]; rfl
  · rw [decide_eq_false (fun e => h (by have := congrArg List.length e; rwa [List.length_map, List.length_map] at this))]
    refine Evt.now fun k => ?_
    unfold cartoucheref10_Same.f
    rw [if_neg (by omega)]
/-- Are two verdicts the same? -/
def sameV (x y : JR) : Bool := decide (x.1 = y.1 ∧ x.2.1 = y.2.1 ∧ x.2.2.1 = y.2.2.1 ∧ x.2.2.2.1 = y.2.2.2.1 ∧ x.2.2.2.2.1 = y.2.2.2.2.1 ∧ x.2.2.2.2.2.1 = y.2.2.2.2.2.1 ∧ x.2.2.2.2.2.2.1.map toEd = y.2.2.2.2.2.2.1.map toEd)
theorem sameV_self (x : JR) : sameV x x = true := by unfold sameV; simp
theorem same_ways (z1 z2 : Bool) (a0 b0 : Int) (a1 b1 : Bool) (a3 b3 a4 b4 a5 b5 : Int) : z1 = false ∨ (z1 = true ∧ z2 = false) ∨ (z1 = true ∧ z2 = true ∧ ((a0 == b0) = false ∨ (a0 = b0 ∧ ((a1 == b1) = false ∨ (a1 = b1 ∧ ((a3 == b3) = false ∨ (a3 = b3 ∧ ((a4 == b4) = false ∨ (a4 = b4 ∧ ((a5 == b5) = false ∨ a5 = b5)))))))))) := by
  simp only [beq_eq_false_iff_ne, ne_eq]
  cases z1 <;> cases z2 <;> simp
  by_cases h0 : a0 = b0 <;> by_cases h1 : a1 = b1 <;> by_cases h3 : a3 = b3 <;> by_cases h4 : a4 = b4 <;> by_cases h5 : a5 = b5 <;> simp [*]
section
open Go.Proofs Go.Shelf
set_option linter.unusedSimpArgs false
set_option linter.unusedVariables false
attribute [local go_sem] Ext.alloc Ext.alloc2 Ext.alloc3 Ext.alloc4 Ext.drewN_alloc Ext.drewN_alloc2 Ext.drew_alloc Ext.drew Ext.drewN toList_beq
set_option maxRecDepth 100000 in
set_option maxHeartbeats 8000000 in
theorem r12_same (w : World) (a0 : Int) (a1 : Bool) (Aa : Option Addr) (ca : Nat) (xa : List Int) (a3 a4 a5 : Int) (Ab : Option Addr) (cb : Nat) (ya : List S24) (b0 : Int) (b1 : Bool) (Ac : Option Addr) (cc : Nat) (xb : List Int) (b3 b4 b5 : Int) (Ad : Option Addr) (cd : Nat) (yb : List S24)
    (h1 : YtebjiimlcnmfpaaGreatW.PrintWords.Kd.C (YtebjiimlcnmfpaaGreatW.PrintWords.Kd.int .i64) w Aa xa.length xa) (hc1 : xa.length ≤ ca) (h2 : YtebjiimlcnmfpaaGreatW.PrintWords.Kd.C k24 w Ab ya.length ya) (hc2 : ya.length ≤ cb) (h3 : YtebjiimlcnmfpaaGreatW.PrintWords.Kd.C (YtebjiimlcnmfpaaGreatW.PrintWords.Kd.int .i64) w Ac xb.length xb) (hc3 : xb.length ≤ cc) (h4 : YtebjiimlcnmfpaaGreatW.PrintWords.Kd.C k24 w Ad yb.length yb) (hc4 : yb.length ≤ cd) (hn1 : xa.length ≤ 140737488351232) (hn2 : ya.length ≤ 140737488351232) (g1 g2 : Int) :
    Calls Tryz.prog 45 #[.agg #[.int .i64 a0, .bool a1, .slice Aa xa.length ca, .int .i64 a3, .int .i64 a4, .int .i64 a5, .slice Ab ya.length cb], .agg #[.int .i64 b0, .bool b1, .slice Ac xb.length cc, .int .i64 b3, .int .i64 b4, .int .i64 b5, .slice Ad yb.length cd]] w fun e w' => e = .returned (.bool (sameV (a0, a1, xa, a3, a4, a5, ya, g1) (b0, b1, xb, b3, b4, b5, yb, g2))) ∧ Ext w w' := by
  obtain ⟨k1, hk1⟩ := (intsI_evt xa xb hn1).rounds
  obtain ⟨k2, hk2⟩ := (sameI_evt ya yb hn2).rounds
  obtain ⟨R, hR⟩ : ∃ R, sameV (a0, a1, xa, a3, a4, a5, ya, g1) (b0, b1, xb, b3, b4, b5, yb, g2) = R := ⟨_, rfl⟩
  rw [hR]
  obtain ⟨z1, hz1⟩ : ∃ z, decide (xa = xb) = z := ⟨_, rfl⟩
  obtain ⟨z2, hz2⟩ : ∃ z, decide (ya.map toEd = yb.map toEd) = z := ⟨_, rfl⟩
  have HR : Hid (R = (z1 && (z2 && (decide (a0 = b0) && (decide (a1 = b1) && (decide (a3 = b3) && (decide (a4 = b4) && decide (a5 = b5)))))))) := hid (by
    rw [← hR, ← hz1, ← hz2]
    unfold sameV
    simp only [Bool.decide_and]
    cases decide (xa = xb) <;> cases decide (ya.map toEd = yb.map toEd) <;> simp)
  rw [hz1] at hk1
  rw [hz2] at hk2
  have K1 := hid hk1
  have K2 := hid hk2
  have H1 := hid h1
  have H2 := hid h2
  have H3 := hid h3
  have H4 := hid h4
  have hways := same_ways z1 z2 a0 b0 a1 b1 a3 b3 a4 b4 a5 b5
  clear hR hz1 hz2 hk1 hk2 h1 h2 h3 h4
  have hXB := ((Ext.refl w).alloc (.cells #[.int .i64 a0, .bool a1, .slice Aa xa.length ca, .int .i64 a3, .int .i64 a4, .int .i64 a5, .slice Ab ya.length cb] 42)).alloc (.cells #[.int .i64 b0, .bool b1, .slice Ac xb.length cc, .int .i64 b3, .int .i64 b4, .int .i64 b5, .slice Ad yb.length cd] 42)
  have pa := (Blk.new w 42 #[.int .i64 a0, .bool a1, .slice Aa xa.length ca, .int .i64 a3, .int .i64 a4, .int .i64 a5, .slice Ab ya.length cb]).alloc (.cells #[.int .i64 b0, .bool b1, .slice Ac xb.length cc, .int .i64 b3, .int .i64 b4, .int .i64 b5, .slice Ad yb.length cd] 42)
  have pb := Blk.new (w.alloc (.cells #[.int .i64 a0, .bool a1, .slice Aa xa.length ca, .int .i64 a3, .int .i64 a4, .int .i64 a5, .slice Ab ya.length cb] 42)) 42 #[.int .i64 b0, .bool b1, .slice Ac xb.length cc, .int .i64 b3, .int .i64 b4, .int .i64 b5, .slice Ad yb.length cd]
  rw [World.size_alloc] at pb
  go_enter Tryz.func45, Tryz.ntmps45
  go_upto_region 1 with (fail)
  obtain ⟨W0, hW0⟩ : ∃ W, (w.alloc (.cells #[.int .i64 a0, .bool a1, .slice Aa xa.length ca, .int .i64 a3, .int .i64 a4, .int .i64 a5, .slice Ab ya.length cb] 42)).alloc (.cells #[.int .i64 b0, .bool b1, .slice Ac xb.length cc, .int .i64 b3, .int .i64 b4, .int .i64 b5, .slice Ad yb.length cd] 42) = W := ⟨_, rfl⟩
  rw [hW0] at hXB pa pb ⊢
  clear hW0
  have PA := hid pa
  have PB := hid pb
  obtain ⟨⟨x0, x1, x2, x3, x4, x5, x6⟩, _⟩ := Blk.all7 pa
  obtain ⟨⟨y0, y1, y2, y3, y4, y5, y6⟩, _⟩ := Blk.all7 pb
  clear pa pb
  rcases hways with rfl | ⟨rfl, rfl⟩ | ⟨rfl, rfl, q | ⟨rfl, q | ⟨rfl, q | ⟨rfl, q | ⟨rfl, q | rfl⟩⟩⟩⟩⟩
  all_goals
    have HR2 := hid (show R = _ from by rw [HR.out])
    clear HR
    go_wp2_with (first
      | (go_at_call 23; (with_reducible refine (cartoucheref08_Ints.calls k1 Aa ca xa Ac cc xb _ _ (C_go H1.out hXB) hc1 (C_go H3.out hXB) hc3 K1.out).mono ?_); rintro e1 w1 ⟨rfl, ⟨⟨n1, rfl⟩⟩⟩)
      | (go_at_call 20; (with_reducible refine (cartoucheref10_Same.calls k2 Ab cb ya Ad cd yb _ _ (C_go H2.out (hXB.drewN n1)) hc2 (C_go H4.out (hXB.drewN n1)) hc4 K2.out).mono ?_); rintro e2 w2 ⟨rfl, ⟨⟨n2, rfl⟩⟩⟩))
    go_ret
    refine ⟨ret_bool ?_, by first | exact hXB.drewN _ | exact (hXB.drewN _).drewN _⟩
    rw [HR2.out]
    (try simp only [beq_eq_false_iff_ne, ne_eq] at *)
    simp [*]
end
end
end Go.Proofs.YtebjiimlcnmfpaaGreatPr
