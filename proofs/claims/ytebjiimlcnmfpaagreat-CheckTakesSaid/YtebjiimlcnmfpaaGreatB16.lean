/-
  The program's check.Check, and its contract in the words of the printed ones.
-/
import Derived.Test.YtebjiimlcnmfpaaGreatPrCheckGood
import Derived.Test.YtebjiimlcnmfpaaGreatPrCheckBad
import Derived.Test.YtebjiimlcnmfpaaGreatS09
import Derived.Test.YtebjiimlcnmfpaaGreatB15
import Derived.Test.YtebjiimlcnmfpaaGreatB14
set_option linter.unusedVariables false
set_option linter.unusedSimpArgs false
namespace Go.Proofs.YtebjiimlcnmfpaaGreatPr
open Go.Proofs.YtebjiimlcnmfpaaGreat
section
open Go Go.RowKit Go.Proofs Go.Shelf
set_option linter.unusedSimpArgs false
set_option linter.unusedVariables false
attribute [local go_sem] Ext.alloc Ext.alloc2 Ext.alloc3 Ext.alloc4 Ext.drewN_alloc Ext.drewN_alloc2 Ext.drew_alloc Ext.drew Ext.drewN toList_beq

/-- What a verdict that accepts must be. -/
def goodS (xs : List S50) (lev : Int) (o : List Int) (bk : Int) (rs : List S24) : Bool :=
  if bk = 0 then (if rs.length = 0 then (if (badsS xs).length = 0 then aheadS xs lev o else false) else false) else false
/-- What a verdict that does not accept must be. -/
def badV (xs : List S50) (lev : Int) (o : List Int) (bk bi bj : Int) (rs : List S24) : Bool :=
  if o.length > 0 then false else if bk = 0 then roundS (evs xs) lev (rs.map toEd) else if rs.length = 0 then ((badAt (evs xs) bi).kind == bk && ((badAt (evs xs) bi).i == bi && (badAt (evs xs) bi).j == bj)) else false
def checkS (xs : List S50) (lev : Int) (acc : Bool) (o : List Int) (bk bi bj : Int) (rs : List S24) : Int :=
  if ¬ lev = 1 ∧ ¬ lev = 2 then 1
  else if (formed (evs xs)).2 = 0 then (if (if acc = true then goodS xs lev o bk rs else badV xs lev o bk bi bj rs) = true then 0 else 14)
  else (formed (evs xs)).2
theorem good_evt (xs : List S50) (lev : Int) (acc : Bool) (o : List Int) (bk bi bj : Int) (rs : List S24) (hn : xs.length ≤ 300) (hS : evsOk xs = true) (ho : o.length * 8 ≤ 140737488351232) (hi : intsOk o = true) :
    Evt (fun k => check_good.f k xs lev acc o bk bi bj rs) (goodS xs lev o bk rs) := by
  unfold goodS
  by_cases c1 : bk = 0
  · by_cases c2 : rs.length = 0
    · rw [if_pos c1, if_pos c2]
      refine Evt.congr (f := fun k => (taint_All.f k xs).bind fun t => (if (t.length : Int) = 0 then ((check_Ahead.f xs lev o).bind fun u => (some u)) else (some false))) (fun k => by
        unfold check_good.f; rw [if_pos c1, if_pos (by omega)]) ?_
      refine Evt.bind' (fun k => rfl) (tall_evt xs (by omega)) ?_
      by_cases c3 : (badsS xs).length = 0
      · rw [if_pos c3]
        exact Evt.now fun k => by
          rw [if_pos (by omega)]
          unfold check_Ahead.f
          rw [if_pos ⟨hn, hS, ho, hi⟩]
          rfl
      · rw [if_neg c3]
        exact Evt.now fun k => by rw [if_neg (by omega)]
    · rw [if_pos c1, if_neg c2]
      exact Evt.now fun k => by unfold check_good.f; rw [if_pos c1, if_neg (by omega)]
  · rw [if_neg c1]
    exact Evt.now fun k => by unfold check_good.f; rw [if_neg c1]
theorem bad_f (xs : List S50) (lev : Int) (acc : Bool) (o : List Int) (bk bi bj : Int) (rs : List S24) (hn : xs.length ≤ 300) (hr : rs.length ≤ 140737488351232) :
    check_bad.f xs lev acc o bk bi bj rs = some (badV xs lev o bk bi bj rs) := by
  unfold check_bad.f badV
  by_cases c0 : o.length > 0
  · rw [if_pos (by omega), if_pos c0]
  rw [if_neg (by omega), if_neg c0]
  by_cases c1 : bk = 0
  · rw [if_pos c1, if_pos c1]
    unfold check_Round.f
    rw [if_pos ⟨by omega, hr⟩]
    rfl
  rw [if_neg c1, if_neg c1]
  by_cases c2 : rs.length = 0
  · rw [if_pos (by omega), if_pos c2]
    unfold taint_At.f
    rw [if_pos (by omega)]
    rfl
  · rw [if_neg (by omega), if_neg c2]
theorem Blk.cells7 {w : World} {g : Nat} {t : TypeId} {a b c d e f h : Value} (hb : Blk w g t #[a, b, c, d, e, f, h]) : w.cell? ⟨g, 0, none⟩ = some a ∧ w.cell? ⟨g, 1, none⟩ = some b ∧ w.cell? ⟨g, 2, none⟩ = some c ∧ w.cell? ⟨g, 3, none⟩ = some d ∧ w.cell? ⟨g, 4, none⟩ = some e ∧ w.cell? ⟨g, 5, none⟩ = some f ∧ w.cell? ⟨g, 6, none⟩ = some h :=
  ⟨hb.cell 0, hb.cell 1, hb.cell 2, hb.cell 3, hb.cell 4, hb.cell 5, hb.cell 6⟩
set_option maxRecDepth 100000 in
set_option maxHeartbeats 4000000 in
theorem c_check_odd (w : World) (V : Value) (A : Option Addr) (n cap : Nat) (lev : Int) (acc : Bool) (O R : Value) (bk bi bj : Int) (h1 : ¬ lev = 1) (h2 : ¬ lev = 2) :
    Calls Tryz.prog 38 #[.slice A n cap, .agg #[.int .i64 lev, .bool acc, O, .int .i64 bk, .int .i64 bi, .int .i64 bj, R]] w fun e w' => e = .returned (.int .i64 1) ∧ Ext w w' := by
  have n1 : (lev != 1) = true := bne_iff_ne.mpr h1
  have n2 : (lev != 2) = true := bne_iff_ne.mpr h2
  have hX := Ext.refl w
  clear h1 h2
  go_enter Tryz.func38, Tryz.ntmps38
  go_wp2
  go_ret
  exact ⟨rfl, (by repeat (first | assumption | apply Ext.alloc | apply Ext.drewN | apply Ext.drew | (refine Ext.setCell (by simp <;> omega) ?_ _)))⟩
set_option maxRecDepth 100000 in
set_option maxHeartbeats 8000000 in
theorem c_check (w : World) (A O R : Option Addr) (cap co cr : Nat) (xs : List S50) (lev : Int) (acc : Bool) (o : List Int) (bk bi bj : Int) (rs : List S24) (hr0 : YtebjiimlcnmfpaaGreatW.PrintWords.Kd.C k50 w A xs.length xs) (hc0 : xs.length ≤ cap) (hr1 : YtebjiimlcnmfpaaGreatW.PrintWords.Kd.C (YtebjiimlcnmfpaaGreatW.PrintWords.Kd.int .i64) w O o.length o) (hc1 : o.length ≤ co) (hr2 : YtebjiimlcnmfpaaGreatW.PrintWords.Kd.C k24 w R rs.length rs) (hc2 : rs.length ≤ cr)
    (hn : xs.length ≤ 300) (hS : evsOk xs = true) (ho : o.length * 8 ≤ 140737488351232) (hi : intsOk o = true) (hrn : rs.length ≤ 140737488351232) (hl : lev = 1 ∨ lev = 2) :
    Calls Tryz.prog 38 #[.slice A xs.length cap, .agg #[.int .i64 lev, .bool acc, .slice O o.length co, .int .i64 bk, .int .i64 bi, .int .i64 bj, .slice R rs.length cr]] w fun e w' => e = .returned (.int .i64 (checkS xs lev acc o bk bi bj rs)) ∧ Ext w w' := by
  have HC := hid hr0
  have HO := hid hr1
  have HR := hid hr2
  obtain ⟨kg, hkg⟩ := (good_evt xs lev acc o bk bi bj rs hn hS ho hi).rounds
  have HG := hid hkg
  have HB := hid (bad_f xs lev acc o bk bi bj rs hn hrn)
  have hK : Hid (checkS xs lev acc o bk bi bj rs = if (formed (evs xs)).2 = 0 then (if (if acc = true then goodS xs lev o bk rs else badV xs lev o bk bi bj rs) = true then 0 else 14) else (formed (evs xs)).2) := hid (by
    unfold checkS; rw [if_neg (by omega)])
  have hF0 : history_Formed.f xs = some (formed (evs xs)) := by unfold history_Formed.f; rw [if_pos (by omega)]
  obtain ⟨⟨f1, f2⟩, hf⟩ : ∃ f, formed (evs xs) = f := ⟨_, rfl⟩
  rw [hf] at hF0 hK
  simp only at hK
  have HF := hid hF0
  have hX := Ext.refl w
  have hB := Blk.new w 42 #[.int .i64 lev, .bool acc, .slice O o.length co, .int .i64 bk, .int .i64 bi, .int .i64 bj, .slice R rs.length cr]
  have PB := hid hB
  have hX1 := hid ((Ext.refl w).alloc (.cells #[.int .i64 lev, .bool acc, .slice O o.length co, .int .i64 bk, .int .i64 bi, .int .i64 bj, .slice R rs.length cr] 42))
  obtain ⟨g, hg⟩ : ∃ g, goodS xs lev o bk rs = g := ⟨_, rfl⟩
  obtain ⟨b, hb⟩ : ∃ b, badV xs lev o bk bi bj rs = b := ⟨_, rfl⟩
  rw [hg] at HG hK
  rw [hb] at HB hK
  have hl1 : (lev != 1 && lev != 2) = false := by rcases hl with rfl | rfl <;> rfl
  have HC1 := hid (YtebjiimlcnmfpaaGreatW.PrintWords.Kd.C_below HC.out hX1.out)
  clear hr0 hr1 hr2 hkg hF0 hf hg hb hB hS ho hi hrn
  by_cases h0 : f2 = 0
  case neg =>
    have hz : (f2 != 0) = true := bne_iff_ne.mpr h0
    have HZ := hid (hK.out.trans (if_neg h0))
    clear h0 hK
    rcases hl with rfl | rfl
    all_goals
      go_enter Tryz.func38, Tryz.ntmps38
      go_wp2_with (go_at_call 63; (with_reducible refine (history_Formed.calls A cap xs f1 f2 _ HC1.out hc0 HF.out).mono ?_); rintro e w1 ⟨rfl, hx1⟩; have hX2 := Ext.trans hX1.out hx1)
      go_ret
      exact ⟨by rw [HZ.out]; rfl, hX2⟩
  subst h0
  rw [if_pos rfl] at hK
  cases acc
  case false =>
    have hK2 : Hid (checkS xs lev false o bk bi bj rs = if b = true then 0 else 14) := hid (hK.out.trans (by simp))
    clear hK HG
    cases b
    all_goals
      have HZ := hid (hK2.out.trans (by first | exact if_pos rfl | exact if_neg (by simp)))
      clear hK2
      rcases hl with rfl | rfl
      all_goals
        go_enter Tryz.func38, Tryz.ntmps38
        go_wp2_with first
          | (go_at_call 63; (with_reducible refine (history_Formed.calls A cap xs f1 0 _ HC1.out hc0 HF.out).mono ?_); rintro e w1 ⟨rfl, hx1⟩; have hX2 := Ext.trans hX1.out hx1; have HC2 := hid (YtebjiimlcnmfpaaGreatW.PrintWords.Kd.C_below HC.out hX2); have HO2 := hid (YtebjiimlcnmfpaaGreatW.PrintWords.Kd.C_below HO.out hX2); have HR2 := hid (YtebjiimlcnmfpaaGreatW.PrintWords.Kd.C_below HR.out hX2); obtain ⟨p0, p1, p2, p3, p4, p5, p6⟩ := Blk.cells7 (PB.out.ext hx1))
        refine (check_bad.calls A cap xs _ _ O co o bk bi bj R cr rs _ _ HC2.out hc0 HO2.out hc1 HR2.out hc2 HB.out).mono ?_
        rintro e w2 ⟨rfl, hx2⟩
        have hX3 := Ext.trans hX2 hx2
        go_wp2
        go_ret
        exact ⟨by rw [HZ.out]; rfl, hX3⟩
  case true =>
    have hK2 : Hid (checkS xs lev true o bk bi bj rs = if g = true then 0 else 14) := hid (hK.out.trans (by simp))
    clear hK HB
    cases g
    all_goals
      have HZ := hid (hK2.out.trans (by first | exact if_pos rfl | exact if_neg (by simp)))
      clear hK2
      rcases hl with rfl | rfl
      all_goals
        go_enter Tryz.func38, Tryz.ntmps38
        go_wp2_with first
          | (go_at_call 63; (with_reducible refine (history_Formed.calls A cap xs f1 0 _ HC1.out hc0 HF.out).mono ?_); rintro e w1 ⟨rfl, hx1⟩; have hX2 := Ext.trans hX1.out hx1; have HC2 := hid (YtebjiimlcnmfpaaGreatW.PrintWords.Kd.C_below HC.out hX2); have HO2 := hid (YtebjiimlcnmfpaaGreatW.PrintWords.Kd.C_below HO.out hX2); have HR2 := hid (YtebjiimlcnmfpaaGreatW.PrintWords.Kd.C_below HR.out hX2); obtain ⟨p0, p1, p2, p3, p4, p5, p6⟩ := Blk.cells7 (PB.out.ext hx1))
        refine (check_good.calls kg A cap xs _ _ O co o bk bi bj R cr rs _ _ HC2.out hc0 HO2.out hc1 HR2.out hc2 HG.out).mono ?_
        rintro e w2 ⟨rfl, hx2⟩
        have hX3 := Ext.trans hX2 hx2
        go_wp2
        go_ret
        exact ⟨by rw [HZ.out]; rfl, hX3⟩
def check_Check.f (l0 : List (S50)) (a1_0 : Int) (a1_1 : Bool) (l1_2 : List Int) (a1_3 : Int) (a1_4 : Int) (a1_5 : Int) (l1_6 : List (S24)) : Option (Int) :=
  if l0.length ≤ 300 ∧ evsOk l0 = true ∧ l1_2.length * 8 ≤ 140737488351232 ∧ intsOk l1_2 = true ∧ l1_6.length ≤ 140737488351232 then some (checkS l0 a1_0 a1_1 l1_2 a1_3 a1_4 a1_5 l1_6) else none
theorem check_Check.calls (A0 : Option Addr) (c0 : Nat) (l0 : List (S50)) (a1_0 : Int) (a1_1 : Bool) (A1_2 : Option Addr) (c1_2 : Nat) (l1_2 : List Int) (a1_3 : Int) (a1_4 : Int) (a1_5 : Int) (A1_6 : Option Addr) (c1_6 : Nat) (l1_6 : List (S24)) (r : Int) (w : World) (hr0 : YtebjiimlcnmfpaaGreatW.PrintWords.Kd.C k50 w A0 l0.length l0) (hc0 : l0.length ≤ c0) (hr1_2 : YtebjiimlcnmfpaaGreatW.PrintWords.Kd.C (YtebjiimlcnmfpaaGreatW.PrintWords.Kd.int .i64) w A1_2 l1_2.length l1_2) (hc1_2 : l1_2.length ≤ c1_2) (hr1_6 : YtebjiimlcnmfpaaGreatW.PrintWords.Kd.C k24 w A1_6 l1_6.length l1_6) (hc1_6 : l1_6.length ≤ c1_6) (h : check_Check.f l0 a1_0 a1_1 l1_2 a1_3 a1_4 a1_5 l1_6 = some r) :
    Calls Tryz.prog 38 #[.slice A0 l0.length c0, .agg #[.int .i64 a1_0, .bool a1_1, .slice A1_2 l1_2.length c1_2, .int .i64 a1_3, .int .i64 a1_4, .int .i64 a1_5, .slice A1_6 l1_6.length c1_6]] w fun e w' => e = .returned (.int .i64 r) ∧ Below w.heap.size w w' := by
  unfold check_Check.f at h
  split at h
  · rename_i hn
    injection h with h
    subst h
    by_cases h1 : a1_0 = 1 ∨ a1_0 = 2
    · exact c_check w A0 A1_2 A1_6 c0 c1_2 c1_6 l0 a1_0 a1_1 l1_2 a1_3 a1_4 a1_5 l1_6 hr0 hc0 hr1_2 hc1_2 hr1_6 hc1_6 hn.1 hn.2.1 hn.2.2.1 hn.2.2.2.1 hn.2.2.2.2 h1
    · have e : checkS l0 a1_0 a1_1 l1_2 a1_3 a1_4 a1_5 l1_6 = 1 := by unfold checkS; rw [if_pos (by omega)]
      rw [e]
      exact c_check_odd w (.bool true) A0 l0.length c0 a1_0 a1_1 _ _ a1_3 a1_4 a1_5 (by omega) (by omega)
  · cases h
end
end Go.Proofs.YtebjiimlcnmfpaaGreatPr
