/-
  Chapter 9's contracts by hand, in the words of the printed ones.
-/
import Derived.Test.YtebjiimlcnmfpaaGreatB1
import Derived.Test.YtebjiimlcnmfpaaGreatA4
import Derived.Test.YtebjiimlcnmfpaaGreatA6
/-! The contracts of chapter 9's functions, in the words of the printed ones. -/
set_option linter.unusedVariables false
set_option linter.unusedSimpArgs false
namespace Go.Proofs.YtebjiimlcnmfpaaGreatPr
open Go.Proofs.YtebjiimlcnmfpaaGreat
section
open Go Go.RowKit

def taint_Outer.f (l0 : List S50) (a1 : Int) : Option (Bool) := if l0.length ≤ 140737488351232 then some (outer (evs l0) a1) else none
theorem taint_Outer.calls (A0 : Option Addr) (c0 : Nat) (l0 : List S50) (a1 : Int) (r : Bool) (w : World) (hr0 : YtebjiimlcnmfpaaGreatW.PrintWords.Kd.C k50 w A0 l0.length l0) (hc0 : l0.length ≤ c0) (h : taint_Outer.f l0 a1 = some r) :
    Calls Tryz.prog 88 #[.slice A0 l0.length c0, .int .i64 a1] w fun e w' => e = .returned (.bool r) ∧ Below w.heap.size w w' := by
  unfold taint_Outer.f at h
  split at h
  · rename_i hn
    have h1 := t_outer w A0 l0.length c0 (evs l0) a1 (evs_of hr0 hn)
    simp only [Option.some.injEq] at h
    obtain rfl := h
    exact h1
  · cases h

def taint_At.f (l0 : List S50) (a1 : Int) : Option (Int × Int × Int) := if l0.length ≤ 140737488351232 then some ((badAt (evs l0) a1).kind, (badAt (evs l0) a1).i, (badAt (evs l0) a1).j) else none
theorem taint_At.calls (A0 : Option Addr) (c0 : Nat) (l0 : List S50) (a1 : Int) (r1 : Int) (r2 : Int) (r3 : Int) (w : World) (hr0 : YtebjiimlcnmfpaaGreatW.PrintWords.Kd.C k50 w A0 l0.length l0) (hc0 : l0.length ≤ c0) (h : taint_At.f l0 a1 = some (r1, r2, r3)) :
    Calls Tryz.prog 108 #[.slice A0 l0.length c0, .int .i64 a1] w fun e w' => e = .returned (.agg #[.int .i64 r1, .int .i64 r2, .int .i64 r3]) ∧ Below w.heap.size w w' := by
  unfold taint_At.f at h
  split at h
  · rename_i hn
    have h1 := t_at w A0 l0.length c0 (evs l0) a1 (evs_of hr0 hn)
    simp only [Option.some.injEq, Prod.mk.injEq] at h
    obtain ⟨rfl, rfl, rfl⟩ := h
    exact h1
  · cases h

end
end Go.Proofs.YtebjiimlcnmfpaaGreatPr

/-! The contracts of reference 09's functions, in the words of the printed ones. -/
namespace Go.Proofs.YtebjiimlcnmfpaaGreatPr
open Go.Proofs.YtebjiimlcnmfpaaGreat
section
open Go Go.RowKit

def cartoucheref09_Outer.f (l0 : List S50) (a1 : Int) : Option (Bool) := if l0.length ≤ 140737488351232 then some (outer (evs l0) a1) else none
theorem cartoucheref09_Outer.calls (A0 : Option Addr) (c0 : Nat) (l0 : List S50) (a1 : Int) (r : Bool) (w : World) (hr0 : YtebjiimlcnmfpaaGreatW.PrintWords.Kd.C k50 w A0 l0.length l0) (hc0 : l0.length ≤ c0) (h : cartoucheref09_Outer.f l0 a1 = some r) :
    Calls Tryz.prog 51 #[.slice A0 l0.length c0, .int .i64 a1] w fun e w' => e = .returned (.bool r) ∧ Below w.heap.size w w' := by
  unfold cartoucheref09_Outer.f at h
  split at h
  · rename_i hn
    have h1 := r09_outer w A0 l0.length c0 (evs l0) a1 (evs_of hr0 hn)
    simp only [Option.some.injEq] at h
    obtain rfl := h
    exact h1
  · cases h

def cartoucheref09_At.f (l0 : List S50) (a1 : Int) : Option (Int × Int × Int) := if l0.length ≤ 140737488351232 then some ((badAt (evs l0) a1).kind, (badAt (evs l0) a1).i, (badAt (evs l0) a1).j) else none
theorem cartoucheref09_At.calls (A0 : Option Addr) (c0 : Nat) (l0 : List S50) (a1 : Int) (r1 : Int) (r2 : Int) (r3 : Int) (w : World) (hr0 : YtebjiimlcnmfpaaGreatW.PrintWords.Kd.C k50 w A0 l0.length l0) (hc0 : l0.length ≤ c0) (h : cartoucheref09_At.f l0 a1 = some (r1, r2, r3)) :
    Calls Tryz.prog 73 #[.slice A0 l0.length c0, .int .i64 a1] w fun e w' => e = .returned (.agg #[.int .i64 r1, .int .i64 r2, .int .i64 r3]) ∧ Below w.heap.size w w' := by
  unfold cartoucheref09_At.f at h
  split at h
  · rename_i hn
    have h1 := r09_at w A0 l0.length c0 (evs l0) a1 (evs_of hr0 hn)
    simp only [Option.some.injEq, Prod.mk.injEq] at h
    obtain ⟨rfl, rfl, rfl⟩ := h
    exact h1
  · cases h

end
end Go.Proofs.YtebjiimlcnmfpaaGreatPr
