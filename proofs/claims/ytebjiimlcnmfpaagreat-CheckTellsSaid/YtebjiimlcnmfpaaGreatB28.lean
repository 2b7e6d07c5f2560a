/-
  The document's Check of a verdict, walked by hand, and its contract in the words of the printed ones.
-/
import Derived.Test.YtebjiimlcnmfpaaGreatPrCartoucheref09All
import Derived.Test.YtebjiimlcnmfpaaGreatB16
import Derived.Test.YtebjiimlcnmfpaaGreatB26
import Derived.Test.YtebjiimlcnmfpaaGreatB27
import Derived.Lib.QuietBelow
set_option linter.unusedVariables false
set_option linter.unusedSimpArgs false
namespace Go.Proofs.YtebjiimlcnmfpaaGreatPr
open Go.Proofs.YtebjiimlcnmfpaaGreat
section
open Go Go.RowKit Go.Proofs Go.Shelf
set_option linter.unusedSimpArgs false
set_option linter.unusedVariables false
attribute [local go_sem] Ext.alloc Ext.alloc2 Ext.alloc3 Ext.alloc4 Ext.drewN_alloc Ext.drewN_alloc2 Ext.drew_alloc Ext.drew Ext.drewN toList_beq

theorem ck_ways (f2 bk : Int) (acc ah rd : Bool) (ol rl bl : Nat) (k i j bi bj r : Int) (hr : r = if f2 = 0 then (if (if acc = true then (if bk = 0 then (if rl = 0 then (if bl = 0 then ah else false) else false) else false) else (if ol > 0 then false else if bk = 0 then rd else if rl = 0 then (k == bk && (i == bi && j == bj)) else false)) = true then 0 else 14) else f2) :
    (((f2 != 0) = true ∧ r = f2) ∨ (f2 = 0 ∧ acc = true ∧ (bk != 0) = true ∧ r = 14) ∨ (f2 = 0 ∧ acc = true ∧ bk = 0 ∧ 0 < rl ∧ r = 14) ∨ (f2 = 0 ∧ acc = true ∧ bk = 0 ∧ rl = 0 ∧ 0 < bl ∧ r = 14) ∨ (f2 = 0 ∧ acc = true ∧ bk = 0 ∧ rl = 0 ∧ bl = 0 ∧ ah = false ∧ r = 14) ∨ (f2 = 0 ∧ acc = true ∧ bk = 0 ∧ rl = 0 ∧ bl = 0 ∧ ah = true ∧ r = 0) ∨
     (f2 = 0 ∧ acc = false ∧ 0 < ol ∧ r = 14) ∨ (f2 = 0 ∧ acc = false ∧ ol = 0 ∧ bk = 0 ∧ rd = false ∧ r = 14) ∨ (f2 = 0 ∧ acc = false ∧ ol = 0 ∧ bk = 0 ∧ rd = true ∧ r = 0)) ∨
    ((f2 = 0 ∧ acc = false ∧ ol = 0 ∧ (bk != 0) = true ∧ 0 < rl ∧ r = 14) ∨ (f2 = 0 ∧ acc = false ∧ ol = 0 ∧ (bk != 0) = true ∧ rl = 0 ∧ (k == bk) = false ∧ r = 14) ∨ (f2 = 0 ∧ acc = false ∧ ol = 0 ∧ (bk != 0) = true ∧ rl = 0 ∧ k = bk ∧ (i == bi) = false ∧ r = 14) ∨ (f2 = 0 ∧ acc = false ∧ ol = 0 ∧ (bk != 0) = true ∧ rl = 0 ∧ k = bk ∧ i = bi ∧ (j == bj) = false ∧ r = 14) ∨ (f2 = 0 ∧ acc = false ∧ ol = 0 ∧ (bk != 0) = true ∧ rl = 0 ∧ k = bk ∧ i = bi ∧ j = bj ∧ r = 0)) := by
  subst hr
  by_cases h0 : f2 = 0
  case neg => exact .inl (.inl ⟨bne_iff_ne.2 h0, if_neg h0⟩)
  rw [if_pos h0]
  cases acc with
  | true =>
    rw [if_pos rfl]
    by_cases h1 : bk = 0
    case neg => exact .inl (.inr (.inl ⟨h0, rfl, bne_iff_ne.2 h1, by rw [if_neg h1, if_neg (by simp)]⟩))
    rw [if_pos h1]
    by_cases h2 : rl = 0
    case neg => exact .inl (.inr (.inr (.inl ⟨h0, rfl, h1, by omega, by rw [if_neg h2, if_neg (by simp)]⟩)))
    rw [if_pos h2]
    by_cases h3 : bl = 0
    case neg => exact .inl (.inr (.inr (.inr (.inl ⟨h0, rfl, h1, h2, by omega, by rw [if_neg h3, if_neg (by simp)]⟩))))
    rw [if_pos h3]
    cases ah with
    | false => exact .inl (.inr (.inr (.inr (.inr (.inl ⟨h0, rfl, h1, h2, h3, rfl, if_neg (by simp)⟩)))))
    | true => exact .inl (.inr (.inr (.inr (.inr (.inr (.inl ⟨h0, rfl, h1, h2, h3, rfl, if_pos rfl⟩))))))
  | false =>
    rw [if_neg (show ¬ (false = true) by simp)]
    by_cases h1 : ol > 0
    · exact .inl (.inr (.inr (.inr (.inr (.inr (.inr (.inl ⟨h0, rfl, h1, by rw [if_pos h1, if_neg (by simp)]⟩)))))))
    rw [if_neg h1]
    have h1' : ol = 0 := by omega
    by_cases h2 : bk = 0
    · rw [if_pos h2]
      cases rd with
      | false => exact .inl (.inr (.inr (.inr (.inr (.inr (.inr (.inr (.inl ⟨h0, rfl, h1', h2, rfl, if_neg (by simp)⟩))))))))
      | true => exact .inl (.inr (.inr (.inr (.inr (.inr (.inr (.inr (.inr ⟨h0, rfl, h1', h2, rfl, if_pos rfl⟩))))))))
    rw [if_neg h2]
    have h2' := bne_iff_ne.2 h2
    by_cases h3 : rl = 0
    case neg => exact .inr (.inl ⟨h0, rfl, h1', h2', by omega, by rw [if_neg h3, if_neg (by simp)]⟩)
    rw [if_pos h3]
    by_cases e1 : k = bk
    case neg => exact .inr (.inr (.inl ⟨h0, rfl, h1', h2', h3, beq_eq_false_iff_ne.2 e1, if_neg (by simp [e1])⟩))
    by_cases e2 : i = bi
    case neg => exact .inr (.inr (.inr (.inl ⟨h0, rfl, h1', h2', h3, e1, beq_eq_false_iff_ne.2 e2, if_neg (by simp [e2])⟩)))
    by_cases e3 : j = bj
    case neg => exact .inr (.inr (.inr (.inr (.inl ⟨h0, rfl, h1', h2', h3, e1, e2, beq_eq_false_iff_ne.2 e3, if_neg (by simp [e3])⟩))))
    exact .inr (.inr (.inr (.inr (.inr ⟨h0, rfl, h1', h2', h3, e1, e2, e3, if_pos (by simp [e1, e2, e3])⟩))))
set_option maxRecDepth 100000 in
set_option maxHeartbeats 8000000 in
theorem r13_check_odd (w : World) (A : Option Addr) (n cap : Nat) (lev : Int) (acc : Bool) (O R : Value) (bk bi bj : Int) (h1 : ¬ lev = 1) (h2 : ¬ lev = 2) :
    Calls Tryz.prog 39 #[.slice A n cap, .agg #[.int .i64 lev, .bool acc, O, .int .i64 bk, .int .i64 bi, .int .i64 bj, R]] w fun e w' => e = .returned (.int .i64 1) ∧ Ext w w' := by
  have n1 : (lev != 1) = true := bne_iff_ne.mpr h1
  have n2 : (lev != 2) = true := bne_iff_ne.mpr h2
  have hX := Ext.refl w
  clear h1 h2
  go_enter Tryz.func39, Tryz.ntmps39
  go_wp2
  go_ret
  exact ⟨rfl, (by repeat (first | assumption | apply Ext.alloc | apply Ext.drewN | apply Ext.drew | (refine Ext.setCell (by simp <;> omega) ?_ _)))⟩
set_option maxRecDepth 100000 in
set_option maxHeartbeats 16000000 in
theorem r13_check (w : World) (A O R : Option Addr) (cap co cr : Nat) (xs : List S50) (lev : Int) (acc : Bool) (o : List Int) (bk bi bj : Int) (rs : List S24) (hr0 : YtebjiimlcnmfpaaGreatW.PrintWords.Kd.C k50 w A xs.length xs) (hc0 : xs.length ≤ cap) (hr1 : YtebjiimlcnmfpaaGreatW.PrintWords.Kd.C (YtebjiimlcnmfpaaGreatW.PrintWords.Kd.int .i64) w O o.length o) (hc1 : o.length ≤ co) (hr2 : YtebjiimlcnmfpaaGreatW.PrintWords.Kd.C k24 w R rs.length rs) (hc2 : rs.length ≤ cr)
    (hn : xs.length ≤ 2932031007403) (hS : ∀ y ∈ xs, EvS y) (hT : ∀ i, i < xs.length → -1 ≤ (nth (evs xs) i).txn ∧ (nth (evs xs) i).txn < 300) (ho : o.length ≤ 140737488351232) (hrn : rs.length ≤ 140737488351232) (hl : lev = 1 ∨ lev = 2) :
    Calls Tryz.prog 39 #[.slice A xs.length cap, .agg #[.int .i64 lev, .bool acc, .slice O o.length co, .int .i64 bk, .int .i64 bi, .int .i64 bj, .slice R rs.length cr]] w fun e w' => e = .returned (.int .i64 (checkS xs lev acc o bk bi bj rs)) ∧ Ext w w' := by
  obtain ⟨f1, hf1⟩ : ∃ f, (formed (evs xs)).1 = f := ⟨_, rfl⟩
  obtain ⟨f2, hf2⟩ : ∃ f, (formed (evs xs)).2 = f := ⟨_, rfl⟩
  have hF : Hid (cartoucheref08_Formed.f xs = some (f1, f2)) := hid (by unfold cartoucheref08_Formed.f; rw [if_pos (by omega), hf1, hf2])
  have H1 := hid (fun W (h : Ext w W) => cartoucheref08_Formed.calls A cap xs f1 f2 W (C_go hr0 h) hc0 hF.out)
  obtain ⟨kb, hkb⟩ := (bads_evt xs hn).rounds
  have H2 := hid (fun W (h : Ext w W) => cartoucheref09_All.calls kb A cap xs (badsS xs) W (C_go hr0 h) hc0 hkb)
  have H3 := hid (fun (hz : f2 = 0) W (h : Ext w W) => cartoucheref13_Ahead.calls A cap xs lev O co o _ W (C_go hr0 h) hc0 (C_go hr1 h) hc1 (rahead_f (lev := lev) (o := o) (by have := (formed_wf (hf2.trans hz)).len; rwa [evs_len] at this) hS hT ho))
  have H4 := hid (fun W (h : Ext w W) => cartoucheref09_At.calls A cap xs bi (badAt (evs xs) bi).kind (badAt (evs xs) bi).i (badAt (evs xs) bi).j W (C_go hr0 h) hc0 (by unfold cartoucheref09_At.f; rw [if_pos (by omega)]))
  have H5 := hid (fun W (h : Ext w W) => cartoucheref13_Round.calls A cap xs lev R cr rs _ W (C_go hr0 h) hc0 (C_go hr2 h) hc2 (rround_f (lev := lev) (rs := rs) (by omega) hrn))
  have hw := ck_ways f2 bk acc (aheadS xs lev o) (roundS (evs xs) lev (rs.map toEd)) o.length rs.length (badsS xs).length (badAt (evs xs) bi).kind (badAt (evs xs) bi).i (badAt (evs xs) bi).j bi bj (checkS xs lev acc o bk bi bj rs) (by
    unfold checkS goodS badV
    rw [if_neg (by omega), hf2])
  obtain ⟨r, hr⟩ : ∃ r, checkS xs lev acc o bk bi bj rs = r := ⟨_, rfl⟩
  rw [hr] at hw ⊢
  generalize aheadS xs lev o = ah at *
  generalize roundS (evs xs) lev (rs.map toEd) = rd at *
  generalize hbd : badsS xs = bd at *
  generalize (badAt (evs xs) bi).kind = k at *
  generalize (badAt (evs xs) bi).i = i at *
  generalize (badAt (evs xs) bi).j = j at *
  clear hr hbd hkb hf1 hf2 hF hr0 hr1 hr2 hS hT
  generalize o.length = ol at *
  generalize rs.length = rl at *
  have hB := Blk.new w 42 #[.int .i64 lev, .bool acc, .slice O ol co, .int .i64 bk, .int .i64 bi, .int .i64 bj, .slice R rl cr]
  have PB := hid hB
  have hX1 := (Ext.refl w).alloc (.cells #[.int .i64 lev, .bool acc, .slice O ol co, .int .i64 bk, .int .i64 bi, .int .i64 bj, .slice R rl cr] 42)
  clear hB
  rcases hw with hw | hw
  · rcases hw with ⟨h1, rfl⟩ | ⟨rfl, rfl, h1, rfl⟩ | ⟨rfl, rfl, rfl, h1, rfl⟩ | ⟨rfl, rfl, rfl, rfl, h2, rfl⟩ | ⟨rfl, rfl, rfl, rfl, h2, rfl, rfl⟩ | ⟨rfl, rfl, rfl, rfl, h2, rfl, rfl⟩ | ⟨rfl, rfl, h1, rfl⟩ | ⟨rfl, rfl, rfl, rfl, rfl, rfl⟩ | ⟨rfl, rfl, rfl, rfl, rfl, rfl⟩
    all_goals
      rcases hl with rfl | rfl
      all_goals
        go_enter Tryz.func39, Tryz.ntmps39
        go_wp2_with first
          | (go_at_call 32; (with_reducible refine (H1.out _ hX1).mono ?_); rintro e1 w1 ⟨rfl, hx1⟩; have hz1 := hid hx1; have hY1 : Ext w w1 := hX1.trans hx1; obtain ⟨p0, p1, p2, p3, p4, p5, p6⟩ := Blk.cells7 (PB.out.ext hx1))
          | (go_at_call 68; (with_reducible refine (H2.out _ hY1).mono ?_); rintro e2 w2 ⟨v2, rfl, hR2, hx2⟩; have hz2 := hid (Ext.trans hz1.out hx2); have hY2 : Ext w w2 := hY1.trans hx2; obtain ⟨A2, c2, rfl, _, _⟩ := YtebjiimlcnmfpaaGreatW.PrintWords.Kd.N_reads (YtebjiimlcnmfpaaGreatW.PrintWords.Kd.R_N hR2); clear hR2; obtain ⟨p0, p1, p2, p3, p4, p5, p6⟩ := Blk.cells7 (PB.out.ext hz2.out))
          | (go_at_call 41; (with_reducible refine (H3.out (by simp) _ hY2).mono ?_); rintro e3 w3 ⟨rfl, hx3⟩; have hY3 : Ext w w3 := hY2.trans hx3; obtain ⟨p0, p1, p2, p3, p4, p5, p6⟩ := Blk.cells7 (PB.out.ext (Ext.trans hz2.out hx3)))
          | (go_at_call 43; (with_reducible refine (H5.out _ hY1).mono ?_); rintro e2 w2 ⟨rfl, hx2⟩; have hY2 : Ext w w2 := hY1.trans hx2)
        go_ret
        first | exact ⟨rfl, hY3⟩ | exact ⟨rfl, hY2⟩ | exact ⟨rfl, hY1⟩
  · rcases hw with ⟨rfl, rfl, rfl, h2, h3, rfl⟩ | ⟨rfl, rfl, rfl, h2, rfl, h4, rfl⟩ | ⟨rfl, rfl, rfl, h2, rfl, rfl, h4, rfl⟩ | ⟨rfl, rfl, rfl, h2, rfl, rfl, rfl, h4, rfl⟩ | ⟨rfl, rfl, rfl, h2, rfl, rfl, rfl, rfl, rfl⟩
    all_goals
      rcases hl with rfl | rfl
      all_goals
        go_enter Tryz.func39, Tryz.ntmps39
        go_wp2_with (go_at_call 32; (with_reducible refine (H1.out _ hX1).mono ?_); rintro e1 w1 ⟨rfl, hx1⟩; have hz1 := hid hx1; have hY1 : Ext w w1 := hX1.trans hx1; obtain ⟨p0, p1, p2, p3, p4, p5, p6⟩ := Blk.cells7 (PB.out.ext hx1))
        replace p3 := cell_regrown p3
        replace p4 := cell_regrown p4
        replace p5 := cell_regrown p5
        replace p6 := cell_regrown p6
        refine wp_region_quiet_below (by kernel_rfl) (by kernel_rfl) ?_
        repeat (go_big_quiet_step (first | (go_at_call 73; exact Calls.regrown_of (H4.out _ (hY1.trans (below_regrown _ _ _))))))
        refine wpQuiet_nil ?_
        intro _ hw'
        obtain ⟨⟨nq, osq⟩, hw''⟩ := hw'
        subst hw''
        have hx5 : Ext w _ := hY1.trans (below_regrown w1 nq osq)
        go_wp2
        go_ret
        exact ⟨rfl, hx5⟩
def cartoucheref13_Check.f (l0 : List (S50)) (a1_0 : Int) (a1_1 : Bool) (l1_2 : List Int) (a1_3 : Int) (a1_4 : Int) (a1_5 : Int) (l1_6 : List (S24)) : Option (Int) := if l0.length ≤ 2932031007403 ∧ evsOk l0 = true ∧ (∀ y ∈ l0, -1 ≤ y.f1 ∧ y.f1 < 300) ∧ l1_2.length ≤ 140737488351232 ∧ l1_6.length ≤ 140737488351232 then some (checkS l0 a1_0 a1_1 l1_2 a1_3 a1_4 a1_5 l1_6) else none
theorem cartoucheref13_Check.calls (A0 : Option Addr) (c0 : Nat) (l0 : List (S50)) (a1_0 : Int) (a1_1 : Bool) (A1_2 : Option Addr) (c1_2 : Nat) (l1_2 : List Int) (a1_3 : Int) (a1_4 : Int) (a1_5 : Int) (A1_6 : Option Addr) (c1_6 : Nat) (l1_6 : List (S24)) (r : Int) (w : World) (hr0 : YtebjiimlcnmfpaaGreatW.PrintWords.Kd.C k50 w A0 l0.length l0) (hc0 : l0.length ≤ c0) (hr1_2 : YtebjiimlcnmfpaaGreatW.PrintWords.Kd.C (YtebjiimlcnmfpaaGreatW.PrintWords.Kd.int .i64) w A1_2 l1_2.length l1_2) (hc1_2 : l1_2.length ≤ c1_2) (hr1_6 : YtebjiimlcnmfpaaGreatW.PrintWords.Kd.C k24 w A1_6 l1_6.length l1_6) (hc1_6 : l1_6.length ≤ c1_6) (h : cartoucheref13_Check.f l0 a1_0 a1_1 l1_2 a1_3 a1_4 a1_5 l1_6 = some r) :
    Calls Tryz.prog 39 #[.slice A0 l0.length c0, .agg #[.int .i64 a1_0, .bool a1_1, .slice A1_2 l1_2.length c1_2, .int .i64 a1_3, .int .i64 a1_4, .int .i64 a1_5, .slice A1_6 l1_6.length c1_6]] w fun e w' => e = .returned (.int .i64 r) ∧ Below w.heap.size w w' := by
  unfold cartoucheref13_Check.f at h
  split at h
  · rename_i hn
    injection h with h
    subst h
    by_cases h1 : a1_0 = 1 ∨ a1_0 = 2
    · exact r13_check w A0 A1_2 A1_6 c0 c1_2 c1_6 l0 a1_0 a1_1 l1_2 a1_3 a1_4 a1_5 l1_6 hr0 hc0 hr1_2 hc1_2 hr1_6 hc1_6 hn.1 (evsOk_iff.1 hn.2.1) (fun i hi => by rw [nth_txn hi]; exact hn.2.2.1 _ (List.getElem_mem hi)) hn.2.2.2.1 hn.2.2.2.2 h1
    · have e : checkS l0 a1_0 a1_1 l1_2 a1_3 a1_4 a1_5 l1_6 = 1 := by unfold checkS; rw [if_pos (by omega)]
      rw [e]
      exact r13_check_odd w A0 l0.length c0 a1_0 a1_1 _ _ a1_3 a1_4 a1_5 (by omega) (by omega)
  · cases h
theorem rcheck_f {l : List S50} {lev : Int} {acc : Bool} {o : List Int} {bk bi bj : Int} {rs : List S24} (hn : l.length ≤ 2932031007403) (hS : ∀ y ∈ l, EvS y) (hT : ∀ i, i < l.length → -1 ≤ (nth (evs l) i).txn ∧ (nth (evs l) i).txn < 300) (ho : o.length ≤ 140737488351232) (hr : rs.length ≤ 140737488351232) : cartoucheref13_Check.f l lev acc o bk bi bj rs = some (checkS l lev acc o bk bi bj rs) := by
  unfold cartoucheref13_Check.f
  rw [if_pos ⟨hn, evsOk_iff.2 hS, fun y hy => by
    obtain ⟨i, hi, rfl⟩ := List.getElem_of_mem hy
    rw [← nth_txn hi]; exact hT i hi, ho, hr⟩]
end
end Go.Proofs.YtebjiimlcnmfpaaGreatPr
