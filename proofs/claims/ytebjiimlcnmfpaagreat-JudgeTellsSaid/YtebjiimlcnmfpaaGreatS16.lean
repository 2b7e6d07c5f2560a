/-
  What judge.Judge answers, said on lists; judge.Flat.
-/
import Derived.Test.YtebjiimlcnmfpaaGreatPrCartoucheref09All
import Derived.Test.YtebjiimlcnmfpaaGreatB1
import Derived.Test.YtebjiimlcnmfpaaGreatPrTaintFirst
import Derived.Test.YtebjiimlcnmfpaaGreatPrTaintAll
import Derived.Test.YtebjiimlcnmfpaaGreatS10
import Derived.Test.YtebjiimlcnmfpaaGreatPrJudgeFlat
import Derived.Test.YtebjiimlcnmfpaaGreatS16a
section
/-! What chapter 9's reference computes of a whole history: all that are wrong, in order. -/
set_option linter.unusedVariables false
set_option linter.unusedSimpArgs false
namespace Go.Proofs.YtebjiimlcnmfpaaGreatPr
section
open Go.Proofs.YtebjiimlcnmfpaaGreat
open Go Go.RowKit

def badOne (xs : List S50) (i : Nat) : List S40 := if (badAt (evs xs) i).kind = 0 then [] else [⟨(badAt (evs xs) i).kind, (badAt (evs xs) i).i, (badAt (evs xs) i).j⟩]
def badsS (xs : List S50) : List S40 := (List.range' 0 xs.length).flatMap (badOne xs)
theorem badOne_len (xs : List S50) (i : Nat) : (badOne xs i).length ≤ 1 := by unfold badOne; split <;> simp
theorem bads_l0 (xs : List S50) (hn : xs.length ≤ 2932031007403) : ∀ (d i : Nat) (acc : List S40), i + d = xs.length → acc.length ≤ i →
    Evt (fun k => cartoucheref09_All.l0 k xs acc (i : Int)) (acc ++ (List.range' i d).flatMap (badOne xs))
  | 0, i, acc, hi, ha => Evt.now1 fun k => by
    simp only [cartoucheref09_All.l0]
    rw [if_neg (by omega)]
    simp
  | d + 1, i, acc, hi, ha => by
    have hl := badOne_len xs i
    have ih := bads_l0 xs hn d (i + 1) (acc ++ badOne xs i) (by omega) (by rw [List.length_append]; omega)
    have hr : List.range' i (d + 1) = i :: List.range' (i + 1) d := rfl
    rw [hr, List.flatMap_cons, ← List.append_assoc]
    refine Evt.step (fun k => ?_) ih
    simp only [cartoucheref09_All.l0]
    have e : cartoucheref09_At.f xs (i : Int) = some ((badAt (evs xs) i).kind, (badAt (evs xs) i).i, (badAt (evs xs) i).j) := by
      unfold cartoucheref09_At.f
      rw [if_pos (by omega)]
    rw [if_pos (by omega), e]
    simp only [Option.bind_some]
    unfold badOne
    by_cases q : (badAt (evs xs) i).kind = 0
    · rw [if_pos q, if_pos q, wrap_succ (n := xs.length) (by omega) (by omega), List.append_nil]
    · rw [if_neg q, if_neg q, if_pos (by omega), wrap_succ (n := xs.length) (by omega) (by omega)]
theorem bads_evt (xs : List S50) (hn : xs.length ≤ 2932031007403) : Evt (fun k => cartoucheref09_All.f k xs) (badsS xs) := by
  have := bads_l0 xs hn xs.length 0 [] (by omega) (by simp)
  rw [List.nil_append] at this
  exact this
end
end Go.Proofs.YtebjiimlcnmfpaaGreatPr

/-! What taint.All and taint.First compute. -/
namespace Go.Proofs.YtebjiimlcnmfpaaGreatPr
section
open Go.Proofs.YtebjiimlcnmfpaaGreat
open Go Go.RowKit

/-! ### taint.All, taint.First -/
theorem bad_some (xs : List S50) (i : Nat) : ((!((badAt (evs xs) i).kind == 0) || (!((badAt (evs xs) i).i == 0) || !((badAt (evs xs) i).j == 0))) = true) ↔ ¬ (badAt (evs xs) i).kind = 0 := by
  constructor
  · intro h hk
    rw [(bad_zero (evs xs) i).1 hk] at h
    exact absurd h (by decide)
  · intro h
    simp [h]
theorem tall_l0 (xs : List S50) (hn : xs.length ≤ 2932031007403) : ∀ (d i : Nat) (acc : List S40), i + d = xs.length → acc.length ≤ i →
    Evt (fun k => taint_All.l0 k xs acc (xs.length : Int) (i : Int)) (acc ++ (List.range' i d).flatMap (badOne xs))
  | 0, i, acc, hi, ha => Evt.now1 fun k => by
    simp only [taint_All.l0]
    rw [if_neg (by omega)]
    simp
  | d + 1, i, acc, hi, ha => by
    have hl := badOne_len xs i
    have ih := tall_l0 xs hn d (i + 1) (acc ++ badOne xs i) (by omega) (by rw [List.length_append]; omega)
    have hr : List.range' i (d + 1) = i :: List.range' (i + 1) d := rfl
    rw [hr, List.flatMap_cons, ← List.append_assoc]
    refine Evt.step (fun k => ?_) ih
    simp only [taint_All.l0]
    have e : taint_At.f xs (i : Int) = some ((badAt (evs xs) i).kind, (badAt (evs xs) i).i, (badAt (evs xs) i).j) := by
      unfold taint_At.f
      rw [if_pos (by omega)]
    rw [if_pos (by omega), e]
    simp only [Option.bind_some]
    unfold badOne
    by_cases q : (badAt (evs xs) i).kind = 0
    · rw [if_neg (fun h => (bad_some xs i).1 h q), if_pos q, wrap_succ (n := xs.length) (by omega) (by omega), List.append_nil]
    · rw [if_pos ((bad_some xs i).2 q), if_neg q, if_pos (by omega), wrap_succ (n := xs.length) (by omega) (by omega)]
theorem tall_evt (xs : List S50) (hn : xs.length ≤ 2932031007403) : Evt (fun k => taint_All.f k xs) (badsS xs) := by
  have := tall_l0 xs hn xs.length 0 [] (by omega) (by simp)
  rw [List.nil_append] at this
  exact this
def headBad (l : List S40) : Int × Int × Int × Bool := match l with
  | [] => (0, 0, 0, false)
  | b :: _ => (b.f0, b.f1, b.f2, true)
theorem tfirst_evt (xs : List S50) (hn : xs.length ≤ 2932031007403) : Evt (fun k => taint_First.f k xs) (headBad (badsS xs)) := by
  refine Evt.bind' (fun k => rfl) (tall_evt xs hn) (Evt.now fun k => ?_)
  cases h : badsS xs with
  | nil => simp [headBad]
  | cons b r =>
    rw [if_neg (by simp <;> omega), if_pos (by simp <;> omega)]
    rfl

end
end Go.Proofs.YtebjiimlcnmfpaaGreatPr
end
section
set_option linter.unusedVariables false
set_option linter.unusedSimpArgs false
namespace Go.Proofs.YtebjiimlcnmfpaaGreatPr
open Go.Proofs.YtebjiimlcnmfpaaGreat
open Go Go.RowKit

/-! ### judge.Flat -/
theorem flat_l0 (r : List S80) (hn : r.length ≤ 1000000000000) (h2 : ∀ y ∈ r, y.f2.length ≤ 2) : ∀ (d i : Nat) (acc : List S24), i + d = r.length → acc.length ≤ i * 2 →
    Evt (fun k => judge_Flat.l0 k acc r (r.length : Int) (i : Int)) (acc ++ (r.drop i).flatMap (fun s => s.f2))
  | 0, i, acc, hi, ha => Evt.now1 fun k => by
    simp only [judge_Flat.l0]
    rw [if_neg (by omega), drop_end _ (by omega)]
    simp
  | d + 1, i, acc, hi, ha => by
    have hrd : rd_T80 r (i : Int) = r.getD i z80 := by unfold rd_T80; rw [Int.toNat_natCast]
    have hm : r.getD i z80 ∈ r := by
      rw [List.getD_eq_getElem?_getD, List.getElem?_eq_getElem (by omega)]
      exact List.getElem_mem _
    have hl := h2 _ hm
    have ih := flat_l0 r hn h2 d (i + 1) (acc ++ (r.getD i z80).f2) (by omega) (by rw [List.length_append]; omega)
    rw [drop_step r z80 (by omega), List.flatMap_cons, ← List.append_assoc]
    refine Evt.step (fun k => ?_) ih
    simp only [judge_Flat.l0]
    rw [if_pos (by omega), if_pos (by omega), if_pos (by omega), hrd, if_pos (by omega), wrap_succ (n := r.length) (by omega) (by omega)]
theorem flat_evt (r : List S80) (hn : r.length ≤ 1000000000000) (h2 : ∀ y ∈ r, y.f2.length ≤ 2) : Evt (fun k => judge_Flat.f k r) (r.flatMap (fun s => s.f2)) := by
  have := flat_l0 r hn h2 r.length 0 [] (by omega) (by simp)
  rw [List.nil_append, List.drop_zero] at this
  exact this

/-! ### judge.Judge -/
abbrev JR := Int × Bool × List Int × Int × Int × Int × List S24 × Int
def jokS (xs : List S50) (lev : Int) : JR := match badsS xs with
  | b :: _ => (lev, false, [], b.f0, b.f1, b.f2, [], 0)
  | [] => match Rg.order fr_ to_ (stepsH lev xs) (nodesS (evs xs)) with
    | some o => (lev, true, o, 0, 0, 0, [], 0)
    | none => (lev, false, [], 0, 0, 0, (Rg.ring fr_ to_ (stepsH lev xs)).1.flatMap (fun s => s.f2), 0)
/-- A history's verdict. -/
def jS (xs : List S50) (lev : Int) : JR :=
  if lev < 1 ∨ lev > 2 then (0, false, [], 0, 0, 0, [], 1)
  else if (formed (evs xs)).2 = 0 then jokS xs lev else (0, false, [], 0, 0, 0, [], (formed (evs xs)).2)
/-! ### what functions that judge hand out -/
section
open Go.Proofs
/-- What a function that judges hands out. -/
def JOut (w : World) (r : JR) (e : Ending) (w' : World) : Prop := ∃ v2 v6 : Value, e = .returned (.tuple #[.agg #[.int .i64 r.1, .bool r.2.1, v2, .int .i64 r.2.2.2.1, .int .i64 r.2.2.2.2.1, .int .i64 r.2.2.2.2.2.1, v6], .int .i64 r.2.2.2.2.2.2.2]) ∧ YtebjiimlcnmfpaaGreatW.PrintWords.Kd.R (YtebjiimlcnmfpaaGreatW.PrintWords.Kd.int .i64) 3 w' w.heap.size (fun _ => True) v2 r.2.2.1 ∧ YtebjiimlcnmfpaaGreatW.PrintWords.Kd.R k24 24 w' w.heap.size (fun _ => True) v6 r.2.2.2.2.2.2.1 ∧ Below w.heap.size w w'
/-- A block of a verdict's seven cells: what is read, and that it may be written. -/
theorem Blk.all7 {w : World} {g : Nat} {t : TypeId} {a b c d e f h : Value} (hb : Blk w g t #[a, b, c, d, e, f, h]) : (w.cell? ⟨g, 0, none⟩ = some a ∧ w.cell? ⟨g, 1, none⟩ = some b ∧ w.cell? ⟨g, 2, none⟩ = some c ∧ w.cell? ⟨g, 3, none⟩ = some d ∧ w.cell? ⟨g, 4, none⟩ = some e ∧ w.cell? ⟨g, 5, none⟩ = some f ∧ w.cell? ⟨g, 6, none⟩ = some h) ∧
    w.frozen? ⟨g, 0, none⟩ = false ∧ w.frozen? ⟨g, 1, none⟩ = false ∧ w.frozen? ⟨g, 2, none⟩ = false ∧ w.frozen? ⟨g, 3, none⟩ = false ∧ w.frozen? ⟨g, 4, none⟩ = false ∧ w.frozen? ⟨g, 5, none⟩ = false ∧ w.frozen? ⟨g, 6, none⟩ = false :=
  ⟨⟨hb.cell 0, hb.cell 1, hb.cell 2, hb.cell 3, hb.cell 4, hb.cell 5, hb.cell 6⟩, hb.frozen 0, hb.frozen 1, hb.frozen 2, hb.frozen 3, hb.frozen 4, hb.frozen 5, hb.frozen 6⟩
/-- Seven cells stored one by one. -/
def put7 (w : World) (g : Nat) (a b c d e f h : Value) : World := ((((((w.setCell ⟨g, 0, none⟩ a).setCell ⟨g, 1, none⟩ b).setCell ⟨g, 2, none⟩ c).setCell ⟨g, 3, none⟩ d).setCell ⟨g, 4, none⟩ e).setCell ⟨g, 5, none⟩ f).setCell ⟨g, 6, none⟩ h
theorem Blk.put7 {w : World} {g : Nat} {t : TypeId} {x0 x1 x2 x3 x4 x5 x6 : Value} (hb : Blk w g t #[x0, x1, x2, x3, x4, x5, x6]) (a b c d e f h : Value) : Blk (put7 w g a b c d e f h) g t #[a, b, c, d, e, f, h] :=
by
  have hh := ((((((hb.set 0 a).set 1 b).set 2 c).set 3 d).set 4 e).set 5 f).set 6 h
  have e : ((((((#[x0, x1, x2, x3, x4, x5, x6].setIfInBounds 0 a).setIfInBounds 1 b).setIfInBounds 2 c).setIfInBounds 3 d).setIfInBounds 4 e).setIfInBounds 5 f).setIfInBounds 6 h = #[a, b, c, d, e, f, h] := by simp
  rw [e] at hh
  exact hh
theorem put7_other {w : World} {g k : Nat} (hk : k ≠ g) (a b c d e f h : Value) : (put7 w g a b c d e f h).heap[k]? = w.heap[k]? := by
  unfold put7
  rw [Below.heap_setCell _ _ _ k hk, Below.heap_setCell _ _ _ k hk, Below.heap_setCell _ _ _ k hk, Below.heap_setCell _ _ _ k hk, Below.heap_setCell _ _ _ k hk, Below.heap_setCell _ _ _ k hk, Below.heap_setCell _ _ _ k hk]
theorem put7_ext {w0 w : World} {g : Nat} (h0 : Ext w0 w) (hg : w0.heap.size ≤ g) (a b c d e f h : Value) : Ext w0 (put7 w g a b c d e f h) :=
  ((((((Ext.setCell (p := ⟨g, 0, none⟩) hg h0 a).setCell (p := ⟨g, 1, none⟩) hg b).setCell (p := ⟨g, 2, none⟩) hg c).setCell (p := ⟨g, 3, none⟩) hg d).setCell (p := ⟨g, 4, none⟩) hg e).setCell (p := ⟨g, 5, none⟩) hg f).setCell (p := ⟨g, 6, none⟩) hg h
/-- A row handed out that lies above some block, behind stores into elder blocks. -/
theorem R_elder {α : Type} {d : YtebjiimlcnmfpaaGreatW.PrintWords.Kd α} {e B base : Nat} {w w1 : World} {v : Value} {xs : List α} (h : YtebjiimlcnmfpaaGreatW.PrintWords.Kd.R d e w B (fun _ => True) v xs) (hb : base ≤ B) (hm : ∀ k, B ≤ k → w1.heap[k]? = w.heap[k]?) : YtebjiimlcnmfpaaGreatW.PrintWords.Kd.R d e w1 base (fun _ => True) v xs :=
  YtebjiimlcnmfpaaGreatW.PrintWords.Kd.R_lower (YtebjiimlcnmfpaaGreatW.PrintWords.Kd.R_mono (YtebjiimlcnmfpaaGreatW.PrintWords.Kd.R_step (YtebjiimlcnmfpaaGreatW.PrintWords.Kd.R_mono (YtebjiimlcnmfpaaGreatW.PrintWords.Kd.R_bound h) (ok' := fun k => B ≤ k) (fun k hk => hk.2.1)) (fun k hk _ => hm k hk)) (fun _ _ => trivial)) hb
end
end Go.Proofs.YtebjiimlcnmfpaaGreatPr
end
