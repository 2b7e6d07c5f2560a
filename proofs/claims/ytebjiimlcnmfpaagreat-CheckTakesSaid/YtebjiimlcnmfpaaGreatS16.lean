/-
  What judge.Judge answers, said on lists; judge.Flat.
-/
import Derived.Test.YtebjiimlcnmfpaaGreatPrJudgeFlat
import Derived.Test.YtebjiimlcnmfpaaGreatS16a
import Derived.Test.YtebjiimlcnmfpaaGreatS09
set_option linter.unusedVariables false
set_option linter.unusedSimpArgs false
namespace Go.Proofs.YtebjiimlcnmfpaaGreatPr
open Go.Proofs.YtebjiimlcnmfpaaGreat
open Go Go.RowKit

/-! ### judge.Flat -/
/-! ### judge.Judge -/
abbrev JR := Int × Bool × List Int × Int × Int × Int × List S24 × Int
def jokS (xs : List S50) (lev : Int) : JR := match badsS xs with
  | b :: _ => (lev, false, [], b.f0, b.f1, b.f2, [], 0)
  | [] => match Rg.order fr_ to_ (stepsH lev xs) (nodesS (evs xs)) with
    | some o => (lev, true, o, 0, 0, 0, [], 0)
    | none => (lev, false, [], 0, 0, 0, (Rg.ring fr_ to_ (stepsH lev xs)).1.flatMap (fun s => s.f2), 0)
/-- A history's verdict. -/
def jS (xs : List S50) (lev : Int) : JR :=
  if lev < 1 ∨ lev > 2 then (0, false, [], 0, 0, 0, [], 1)
  else if (formed (evs xs)).2 = 0 then jokS xs lev else (0, false, [], 0, 0, 0, [], (formed (evs xs)).2)
/-! ### what functions that judge hand out -/
section
open Go.Proofs
/-- What a function that judges hands out. -/
def JOut (w : World) (r : JR) (e : Ending) (w' : World) : Prop := ∃ v2 v6 : Value, e = .returned (.tuple #[.agg #[.int .i64 r.1, .bool r.2.1, v2, .int .i64 r.2.2.2.1, .int .i64 r.2.2.2.2.1, .int .i64 r.2.2.2.2.2.1, v6], .int .i64 r.2.2.2.2.2.2.2]) ∧ YtebjiimlcnmfpaaGreatW.PrintWords.Kd.R (YtebjiimlcnmfpaaGreatW.PrintWords.Kd.int .i64) 3 w' w.heap.size (fun _ => True) v2 r.2.2.1 ∧ YtebjiimlcnmfpaaGreatW.PrintWords.Kd.R k24 24 w' w.heap.size (fun _ => True) v6 r.2.2.2.2.2.2.1 ∧ Below w.heap.size w w'
/-- A block of a verdict's seven cells: what is read, and that it may be written. -/
theorem Blk.all7 {w : World} {g : Nat} {t : TypeId} {a b c d e f h : Value} (hb : Blk w g t #[a, b, c, d, e, f, h]) : (w.cell? ⟨g, 0, none⟩ = some a ∧ w.cell? ⟨g, 1, none⟩ = some b ∧ w.cell? ⟨g, 2, none⟩ = some c ∧ w.cell? ⟨g, 3, none⟩ = some d ∧ w.cell? ⟨g, 4, none⟩ = some e ∧ w.cell? ⟨g, 5, none⟩ = some f ∧ w.cell? ⟨g, 6, none⟩ = some h) ∧
    w.frozen? ⟨g, 0, none⟩ = false ∧ w.frozen? ⟨g, 1, none⟩ = false ∧ w.frozen? ⟨g, 2, none⟩ = false ∧ w.frozen? ⟨g, 3, none⟩ = false ∧ w.frozen? ⟨g, 4, none⟩ = false ∧ w.frozen? ⟨g, 5, none⟩ = false ∧ w.frozen? ⟨g, 6, none⟩ = false :=
  ⟨⟨hb.cell 0, hb.cell 1, hb.cell 2, hb.cell 3, hb.cell 4, hb.cell 5, hb.cell 6⟩, hb.frozen 0, hb.frozen 1, hb.frozen 2, hb.frozen 3, hb.frozen 4, hb.frozen 5, hb.frozen 6⟩
/-- Seven cells stored one by one. -/
def put7 (w : World) (g : Nat) (a b c d e f h : Value) : World := ((((((w.setCell ⟨g, 0, none⟩ a).setCell ⟨g, 1, none⟩ b).setCell ⟨g, 2, none⟩ c).setCell ⟨g, 3, none⟩ d).setCell ⟨g, 4, none⟩ e).setCell ⟨g, 5, none⟩ f).setCell ⟨g, 6, none⟩ h
theorem Blk.put7 {w : World} {g : Nat} {t : TypeId} {x0 x1 x2 x3 x4 x5 x6 : Value} (hb : Blk w g t #[x0, x1, x2, x3, x4, x5, x6]) (a b c d e f h : Value) : Blk (put7 w g a b c d e f h) g t #[a, b, c, d, e, f, h] :=
by
  have hh := ((((((hb.set 0 a).set 1 b).set 2 c).set 3 d).set 4 e).set 5 f).set 6 h
  have e : ((((((#[x0, x1, x2, x3, x4, x5, x6].setIfInBounds 0 a).setIfInBounds 1 b).setIfInBounds 2 c).setIfInBounds 3 d).setIfInBounds 4 e).setIfInBounds 5 f).setIfInBounds 6 h = #[a, b, c, d, e, f, h] := by simp
  rw [e] at hh
  exact hh
theorem put7_other {w : World} {g k : Nat} (hk : k ≠ g) (a b c d e f h : Value) : (put7 w g a b c d e f h).heap[k]? = w.heap[k]? := by
  unfold put7
  rw [Below.heap_setCell _ _ _ k hk, Below.heap_setCell _ _ _ k hk, Below.heap_setCell _ _ _ k hk, Below.heap_setCell _ _ _ k hk, Below.heap_setCell _ _ _ k hk, Below.heap_setCell _ _ _ k hk, Below.heap_setCell _ _ _ k hk]
theorem put7_ext {w0 w : World} {g : Nat} (h0 : Ext w0 w) (hg : w0.heap.size ≤ g) (a b c d e f h : Value) : Ext w0 (put7 w g a b c d e f h) :=
  ((((((Ext.setCell (p := ⟨g, 0, none⟩) hg h0 a).setCell (p := ⟨g, 1, none⟩) hg b).setCell (p := ⟨g, 2, none⟩) hg c).setCell (p := ⟨g, 3, none⟩) hg d).setCell (p := ⟨g, 4, none⟩) hg e).setCell (p := ⟨g, 5, none⟩) hg f).setCell (p := ⟨g, 6, none⟩) hg h
/-- A row handed out that lies above some block, behind stores into elder blocks. -/
theorem R_elder {α : Type} {d : YtebjiimlcnmfpaaGreatW.PrintWords.Kd α} {e B base : Nat} {w w1 : World} {v : Value} {xs : List α} (h : YtebjiimlcnmfpaaGreatW.PrintWords.Kd.R d e w B (fun _ => True) v xs) (hb : base ≤ B) (hm : ∀ k, B ≤ k → w1.heap[k]? = w.heap[k]?) : YtebjiimlcnmfpaaGreatW.PrintWords.Kd.R d e w1 base (fun _ => True) v xs :=
  YtebjiimlcnmfpaaGreatW.PrintWords.Kd.R_lower (YtebjiimlcnmfpaaGreatW.PrintWords.Kd.R_mono (YtebjiimlcnmfpaaGreatW.PrintWords.Kd.R_step (YtebjiimlcnmfpaaGreatW.PrintWords.Kd.R_mono (YtebjiimlcnmfpaaGreatW.PrintWords.Kd.R_bound h) (ok' := fun k => B ≤ k) (fun k hk => hk.2.1)) (fun k hk _ => hm k hk)) (fun _ _ => trivial)) hb
end
end Go.Proofs.YtebjiimlcnmfpaaGreatPr
