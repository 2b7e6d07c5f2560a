/- Contracts of Go functions, printed by a program of this session over the translation: each call answers what its Lean function says. -/
import Derived.Test.YtebjiimlcnmfpaaGreatPr0
import Derived.Test.YtebjiimlcnmfpaaGreatPr1
import Derived.Test.YtebjiimlcnmfpaaGreatPrCartouchelaw12Few
import Derived.Test.YtebjiimlcnmfpaaGreatPrJudgeJudge
import Derived.Test.YtebjiimlcnmfpaaGreatB12
import Derived.Test.YtebjiimlcnmfpaaGreatB13
namespace Go.Proofs.YtebjiimlcnmfpaaGreatPr
open Go.RowKit Go.Proofs.YtebjiimlcnmfpaaGreatW.PrintWords Go.Proofs.YtebjiimlcnmfpaaGreatW.PrintLast Go.Proofs.YtebjiimlcnmfpaaGreatW.PrintMore
attribute [local go_sem] max2_int min2_int max_two min_two max_three min_three max_four min_four   -- for this text's walks alone
set_option linter.unusedVariables false
set_option linter.unusedSimpArgs false
attribute [local go_sem high] eqA24
/-! ### cartouchelaw12_JudgeRing: function 8 -/
mutual
def cartouchelaw12_JudgeRing.j0 : Nat → List (S50) → Int → Bool → Bool → Int → Bool → List Int → Int → Int → Int → List (S24) → Option (Bool)
 | 0, _, _, _, _, _, _, _, _, _, _, _ => none
 | k + 1, x0, x1, x5, x34, x420000, x420001, x420002, x420003, x420004, x420005, x420006 => if x34 = true then (some x5) else ((cartoucheref10_All.f x0).bind fun t420 => (cartouchelaw12_JudgeRing.l0 k x1 x5 t420 0 x420000 x420001 x420002 x420003 x420004 x420005 x420006))
def cartouchelaw12_JudgeRing.l0 : Nat → Int → Bool → List (S24) → Int → Int → Bool → List Int → Int → Int → Int → List (S24) → Option (Bool)
 | 0, _, _, _, _, _, _, _, _, _, _, _ => none
 | k + 1, x1, x5, x9, x10, x420000, x420001, x420002, x420003, x420004, x420005, x420006 => if x10 < (x420006.length : Int) then (if 0 ≤ x10 then (if (x420006.length : Int) = 0 then (none) else (if 0 ≤ (Int.tmod (wrap64 (x10 + 1)) (x420006.length : Int)) then (if (Int.tmod (wrap64 (x10 + 1)) (x420006.length : Int)) < (x420006.length : Int) then (cartouchelaw12_JudgeRing.l1 k x1 x5 x9 x10 false 0 x420000 x420001 x420002 x420003 x420004 x420005 x420006 ((rd_T24 x420006 x10).f0) ((rd_T24 x420006 x10).f1) ((rd_T24 x420006 x10).f2) ((rd_T24 x420006 x10).f3) ((rd_T24 x420006 x10).f4) ((rd_T24 x420006 (Int.tmod (wrap64 (x10 + 1)) (x420006.length : Int))).f0) ((rd_T24 x420006 (Int.tmod (wrap64 (x10 + 1)) (x420006.length : Int))).f1) ((rd_T24 x420006 (Int.tmod (wrap64 (x10 + 1)) (x420006.length : Int))).f2) ((rd_T24 x420006 (Int.tmod (wrap64 (x10 + 1)) (x420006.length : Int))).f3) ((rd_T24 x420006 (Int.tmod (wrap64 (x10 + 1)) (x420006.length : Int))).f4)) else (none)) else (none))) else (none)) else (some x5)
def cartouchelaw12_JudgeRing.l1 : Nat → Int → Bool → List (S24) → Int → Bool → Int → Int → Bool → List Int → Int → Int → Int → List (S24) → Int → Int → Int → Int → Int → Int → Int → Int → Int → Int → Option (Bool)
 | 0, _, _, _, _, _, _, _, _, _, _, _, _, _, _, _, _, _, _, _, _, _, _, _ => none
 | k + 1, x1, x5, x9, x10, x13, x14, x420000, x420001, x420002, x420003, x420004, x420005, x420006, x425000, x425001, x425002, x425003, x425004, x427000, x427001, x427002, x427003, x427004 => if x14 < (x9.length : Int) then (if x13 = true then (cartouchelaw12_JudgeRing.l1 k x1 x5 x9 x10 true (wrap64 (x14 + 1)) x420000 x420001 x420002 x420003 x420004 x420005 x420006 x425000 x425001 x425002 x425003 x425004 x427000 x427001 x427002 x427003 x427004) else (if 0 ≤ x14 then (cartouchelaw12_JudgeRing.l1 k x1 x5 x9 x10 (((rd_T24 x9 x14).f0) == x425000 && (((rd_T24 x9 x14).f1) == x425001 && (((rd_T24 x9 x14).f2) == x425002 && (((rd_T24 x9 x14).f3) == x425003 && (((rd_T24 x9 x14).f4) == x425004))))) (wrap64 (x14 + 1)) x420000 x420001 x420002 x420003 x420004 x420005 x420006 x425000 x425001 x425002 x425003 x425004 x427000 x427001 x427002 x427003 x427004) else (none))) else (if x13 = true then (if x425002 = x427001 then (if x1 = 2 then (if x425000 = 3 then (cartouchelaw12_JudgeRing.j3 k x1 x5 x9 x10 (x427000 == 3) x420000 x420001 x420002 x420003 x420004 x420005 x420006) else (cartouchelaw12_JudgeRing.j3 k x1 x5 x9 x10 false x420000 x420001 x420002 x420003 x420004 x420005 x420006)) else (cartouchelaw12_JudgeRing.j3 k x1 x5 x9 x10 false x420000 x420001 x420002 x420003 x420004 x420005 x420006)) else (cartouchelaw12_JudgeRing.j3 k x1 x5 x9 x10 true x420000 x420001 x420002 x420003 x420004 x420005 x420006)) else (cartouchelaw12_JudgeRing.j3 k x1 x5 x9 x10 true x420000 x420001 x420002 x420003 x420004 x420005 x420006))
def cartouchelaw12_JudgeRing.j3 : Nat → Int → Bool → List (S24) → Int → Bool → Int → Bool → List Int → Int → Int → Int → List (S24) → Option (Bool)
 | 0, _, _, _, _, _, _, _, _, _, _, _, _ => none
 | k + 1, x1, x5, x9, x10, x97, x420000, x420001, x420002, x420003, x420004, x420005, x420006 => if x97 = true then (some false) else (cartouchelaw12_JudgeRing.l0 k x1 x5 x9 (wrap64 (x10 + 1)) x420000 x420001 x420002 x420003 x420004 x420005 x420006)
end
def cartouchelaw12_JudgeRing.f (k : Nat) (l0 : List (S50)) (a1 : Int) : Option (Bool) := (cartouchelaw12_shown.f).bind fun t405 => ((cartouchelaw12_few.f l0).bind fun t406 => (if t406 = true then ((judge_Judge.f k l0 a1).bind fun bt407 => (if bt407.2.2.2.2.2.2.2 = 0 then (cartouchelaw12_JudgeRing.j0 k l0 a1 t405 ((bt407.2.2.2.2.2.2.1.length : Int) == 0) bt407.1 bt407.2.1 bt407.2.2.1 bt407.2.2.2.1 bt407.2.2.2.2.1 bt407.2.2.2.2.2.1 bt407.2.2.2.2.2.2.1) else (cartouchelaw12_JudgeRing.j0 k l0 a1 t405 true bt407.1 bt407.2.1 bt407.2.2.1 bt407.2.2.2.1 bt407.2.2.2.2.1 bt407.2.2.2.2.2.1 bt407.2.2.2.2.2.2.1))) else (some t405)))
theorem cartouchelaw12_JudgeRing.mono_l : ∀ k, (∀ y0 y1 y2 y3 y4 y5 y6 y7 y8 y9 y10, LeO (cartouchelaw12_JudgeRing.j0 k y0 y1 y2 y3 y4 y5 y6 y7 y8 y9 y10) (cartouchelaw12_JudgeRing.j0 (k + 1) y0 y1 y2 y3 y4 y5 y6 y7 y8 y9 y10)) ∧ (∀ y0 y1 y2 y3 y4 y5 y6 y7 y8 y9 y10, LeO (cartouchelaw12_JudgeRing.l0 k y0 y1 y2 y3 y4 y5 y6 y7 y8 y9 y10) (cartouchelaw12_JudgeRing.l0 (k + 1) y0 y1 y2 y3 y4 y5 y6 y7 y8 y9 y10)) ∧ (∀ y0 y1 y2 y3 y4 y5 y6 y7 y8 y9 y10 y11 y12 y13 y14 y15 y16 y17 y18 y19 y20 y21 y22, LeO (cartouchelaw12_JudgeRing.l1 k y0 y1 y2 y3 y4 y5 y6 y7 y8 y9 y10 y11 y12 y13 y14 y15 y16 y17 y18 y19 y20 y21 y22) (cartouchelaw12_JudgeRing.l1 (k + 1) y0 y1 y2 y3 y4 y5 y6 y7 y8 y9 y10 y11 y12 y13 y14 y15 y16 y17 y18 y19 y20 y21 y22)) ∧ (∀ y0 y1 y2 y3 y4 y5 y6 y7 y8 y9 y10 y11, LeO (cartouchelaw12_JudgeRing.j3 k y0 y1 y2 y3 y4 y5 y6 y7 y8 y9 y10 y11) (cartouchelaw12_JudgeRing.j3 (k + 1) y0 y1 y2 y3 y4 y5 y6 y7 y8 y9 y10 y11))
 | 0 => ⟨fun _ _ _ _ _ _ _ _ _ _ _ r h => by simp [cartouchelaw12_JudgeRing.j0] at h, fun _ _ _ _ _ _ _ _ _ _ _ r h => by simp [cartouchelaw12_JudgeRing.l0] at h, fun _ _ _ _ _ _ _ _ _ _ _ _ _ _ _ _ _ _ _ _ _ _ _ r h => by simp [cartouchelaw12_JudgeRing.l1] at h, fun _ _ _ _ _ _ _ _ _ _ _ _ r h => by simp [cartouchelaw12_JudgeRing.j3] at h⟩
 | k + 1 => by
  obtain ⟨ih0, ih1, ih2, ih3⟩ := cartouchelaw12_JudgeRing.mono_l k
  refine ⟨?_, ?_, ?_, ?_⟩
  · intro y0 y1 y2 y3 y4 y5 y6 y7 y8 y9 y10
    unfold cartouchelaw12_JudgeRing.j0
    repeat' first
    | (with_reducible exact ih0 _ _ _ _ _ _ _ _ _ _ _)
    | (with_reducible exact ih1 _ _ _ _ _ _ _ _ _ _ _)
    | (with_reducible exact ih2 _ _ _ _ _ _ _ _ _ _ _ _ _ _ _ _ _ _ _ _ _ _ _)
    | (with_reducible exact ih3 _ _ _ _ _ _ _ _ _ _ _ _)
    | (with_reducible exact judge_Judge.mono _ _ _)
    | (with_reducible exact LeO.refl _)
    | (with_reducible exact LeO.none _)
    | (with_reducible refine LeO.ite ?_ ?_)
    | (with_reducible refine LeO.bind ?_ (fun _ => ?_))
    | exact ih0 _ _ _ _ _ _ _ _ _ _ _
    | exact ih1 _ _ _ _ _ _ _ _ _ _ _
    | exact ih2 _ _ _ _ _ _ _ _ _ _ _ _ _ _ _ _ _ _ _ _ _ _ _
    | exact ih3 _ _ _ _ _ _ _ _ _ _ _ _
    | exact judge_Judge.mono _ _ _
    | exact LeO.none _
    | refine LeO.ite ?_ ?_
    | refine LeO.bind ?_ (fun _ => ?_)
  · intro y0 y1 y2 y3 y4 y5 y6 y7 y8 y9 y10
    unfold cartouchelaw12_JudgeRing.l0
    repeat' first
    | (with_reducible exact ih0 _ _ _ _ _ _ _ _ _ _ _)
    | (with_reducible exact ih1 _ _ _ _ _ _ _ _ _ _ _)
    | (with_reducible exact ih2 _ _ _ _ _ _ _ _ _ _ _ _ _ _ _ _ _ _ _ _ _ _ _)
    | (with_reducible exact ih3 _ _ _ _ _ _ _ _ _ _ _ _)
    | (with_reducible exact judge_Judge.mono _ _ _)
    | (with_reducible exact LeO.refl _)
    | (with_reducible exact LeO.none _)
    | (with_reducible refine LeO.ite ?_ ?_)
    | (with_reducible refine LeO.bind ?_ (fun _ => ?_))
    | exact ih0 _ _ _ _ _ _ _ _ _ _ _
    | exact ih1 _ _ _ _ _ _ _ _ _ _ _
    | exact ih2 _ _ _ _ _ _ _ _ _ _ _ _ _ _ _ _ _ _ _ _ _ _ _
    | exact ih3 _ _ _ _ _ _ _ _ _ _ _ _
    | exact judge_Judge.mono _ _ _
    | exact LeO.none _
    | refine LeO.ite ?_ ?_
    | refine LeO.bind ?_ (fun _ => ?_)
  · intro y0 y1 y2 y3 y4 y5 y6 y7 y8 y9 y10 y11 y12 y13 y14 y15 y16 y17 y18 y19 y20 y21 y22
    unfold cartouchelaw12_JudgeRing.l1
    repeat' first
    | (with_reducible exact ih0 _ _ _ _ _ _ _ _ _ _ _)
    | (with_reducible exact ih1 _ _ _ _ _ _ _ _ _ _ _)
    | (with_reducible exact ih2 _ _ _ _ _ _ _ _ _ _ _ _ _ _ _ _ _ _ _ _ _ _ _)
    | (with_reducible exact ih3 _ _ _ _ _ _ _ _ _ _ _ _)
    | (with_reducible exact judge_Judge.mono _ _ _)
    | (with_reducible exact LeO.refl _)
    | (with_reducible exact LeO.none _)
    | (with_reducible refine LeO.ite ?_ ?_)
    | (with_reducible refine LeO.bind ?_ (fun _ => ?_))
    | exact ih0 _ _ _ _ _ _ _ _ _ _ _
    | exact ih1 _ _ _ _ _ _ _ _ _ _ _
    | exact ih2 _ _ _ _ _ _ _ _ _ _ _ _ _ _ _ _ _ _ _ _ _ _ _
    | exact ih3 _ _ _ _ _ _ _ _ _ _ _ _
    | exact judge_Judge.mono _ _ _
    | exact LeO.none _
    | refine LeO.ite ?_ ?_
    | refine LeO.bind ?_ (fun _ => ?_)
  · intro y0 y1 y2 y3 y4 y5 y6 y7 y8 y9 y10 y11
    unfold cartouchelaw12_JudgeRing.j3
    repeat' first
    | (with_reducible exact ih0 _ _ _ _ _ _ _ _ _ _ _)
    | (with_reducible exact ih1 _ _ _ _ _ _ _ _ _ _ _)
    | (with_reducible exact ih2 _ _ _ _ _ _ _ _ _ _ _ _ _ _ _ _ _ _ _ _ _ _ _)
    | (with_reducible exact ih3 _ _ _ _ _ _ _ _ _ _ _ _)
    | (with_reducible exact judge_Judge.mono _ _ _)
    | (with_reducible exact LeO.refl _)
    | (with_reducible exact LeO.none _)
    | (with_reducible refine LeO.ite ?_ ?_)
    | (with_reducible refine LeO.bind ?_ (fun _ => ?_))
    | exact ih0 _ _ _ _ _ _ _ _ _ _ _
    | exact ih1 _ _ _ _ _ _ _ _ _ _ _
    | exact ih2 _ _ _ _ _ _ _ _ _ _ _ _ _ _ _ _ _ _ _ _ _ _ _
    | exact ih3 _ _ _ _ _ _ _ _ _ _ _ _
    | exact judge_Judge.mono _ _ _
    | exact LeO.none _
    | refine LeO.ite ?_ ?_
    | refine LeO.bind ?_ (fun _ => ?_)
theorem cartouchelaw12_JudgeRing.mono : ∀ a0 a1 k, LeO (cartouchelaw12_JudgeRing.f k a0 a1) (cartouchelaw12_JudgeRing.f (k + 1) a0 a1) := by
 intro a0 a1 k
 obtain ⟨ih0, ih1, ih2, ih3⟩ := cartouchelaw12_JudgeRing.mono_l k
 unfold cartouchelaw12_JudgeRing.f
 repeat' first
  | (with_reducible exact ih0 _ _ _ _ _ _ _ _ _ _ _)
  | (with_reducible exact ih1 _ _ _ _ _ _ _ _ _ _ _)
  | (with_reducible exact ih2 _ _ _ _ _ _ _ _ _ _ _ _ _ _ _ _ _ _ _ _ _ _ _)
  | (with_reducible exact ih3 _ _ _ _ _ _ _ _ _ _ _ _)
  | (with_reducible exact judge_Judge.mono _ _ _)
  | (with_reducible exact LeO.refl _)
  | (with_reducible exact LeO.none _)
  | (with_reducible refine LeO.ite ?_ ?_)
  | (with_reducible refine LeO.bind ?_ (fun _ => ?_))
  | exact ih0 _ _ _ _ _ _ _ _ _ _ _
  | exact ih1 _ _ _ _ _ _ _ _ _ _ _
  | exact ih2 _ _ _ _ _ _ _ _ _ _ _ _ _ _ _ _ _ _ _ _ _ _ _
  | exact ih3 _ _ _ _ _ _ _ _ _ _ _ _
  | exact judge_Judge.mono _ _ _
  | exact LeO.none _
  | refine LeO.ite ?_ ?_
  | refine LeO.bind ?_ (fun _ => ?_)
def cartouchelaw12_JudgeRing.T13 : Bool × List (List Nat × List Nat) := (true, [([], []), ([0], [0]), ([], []), ([2], [2]), ([], []), ([4], [4]), ([5], [5]), ([3, 6], [3, 6]), ([1, 7], [1, 7]), ([8], [8]), ([], []), ([10, 9, 0, 1, 2, 3, 4, 5, 6, 7, 8, 9, 10], [9, 10])])
def cartouchelaw12_JudgeRing.B13 : List Nat := [0, 1, 0, 4, 0, 16, 48, 124, 255, 511, 0, 2047]
theorem cartouchelaw12_JudgeRing.tab13 : rtab .any (opsOf Tryz.f8 13) = cartouchelaw12_JudgeRing.T13 := by kernel_rfl
theorem cartouchelaw12_JudgeRing.bits13 : waitsOk cartouchelaw12_JudgeRing.T13.2 cartouchelaw12_JudgeRing.B13 = true := by kernel_rfl
def cartouchelaw12_JudgeRing.T18 : Bool × List (List Nat × List Nat) := (true, [([], []), ([0], [0]), ([1], [1]), ([1], [1]), ([2, 3, 1], [1, 2, 3]), ([4, 1], [1, 4]), ([1], [1]), ([5, 6, 1], [1, 5, 6]), ([1, 7], [1, 7]), ([8, 1, 0, 1, 2, 3, 4, 5, 6, 7, 8], [0, 8])])
def cartouchelaw12_JudgeRing.B18 : List Nat := [0, 1, 3, 3, 15, 31, 3, 127, 255, 511]
theorem cartouchelaw12_JudgeRing.tab18 : rtab .any (opsOf Tryz.f8 18) = cartouchelaw12_JudgeRing.T18 := by kernel_rfl
theorem cartouchelaw12_JudgeRing.bits18 : waitsOk cartouchelaw12_JudgeRing.T18.2 cartouchelaw12_JudgeRing.B18 = true := by kernel_rfl
set_option maxHeartbeats 8000000 in
set_option maxRecDepth 100000 in
theorem cartouchelaw12_JudgeRing.calls (k : Nat) (A0 : Option Addr) (c0 : Nat) (l0 : List (S50)) (a1 : Int) (r : Bool) (w : World) (hr0 : Kd.C k50 w A0 l0.length l0) (hc0 : l0.length ≤ c0) (h : cartouchelaw12_JudgeRing.f k l0 a1 = some r) :
 Calls Tryz.prog 8 #[.slice A0 l0.length c0, .int .i64 a1] w fun e w' => e = .returned (.bool r) ∧ Below w.heap.size w w' := by
 have hu42 := Tryz.underlying42
 have hu24 := Tryz.underlying24
 have HR0 := Aside0.mk hr0
 have HC0 := Aside0.mk hc0
 clear hr0 hc0
 have HB := Aside0.mk (Below.refl w.heap.size w)
 have H : ((cartouchelaw12_shown.f).bind fun t405 => ((cartouchelaw12_few.f l0).bind fun t406 => (if t406 = true then ((judge_Judge.f k l0 a1).bind fun bt407 => (if bt407.2.2.2.2.2.2.2 = 0 then (cartouchelaw12_JudgeRing.j0 k l0 a1 t405 ((bt407.2.2.2.2.2.2.1.length : Int) == 0) bt407.1 bt407.2.1 bt407.2.2.1 bt407.2.2.2.1 bt407.2.2.2.2.1 bt407.2.2.2.2.2.1 bt407.2.2.2.2.2.2.1) else (cartouchelaw12_JudgeRing.j0 k l0 a1 t405 true bt407.1 bt407.2.1 bt407.2.2.1 bt407.2.2.2.1 bt407.2.2.2.2.1 bt407.2.2.2.2.2.1 bt407.2.2.2.2.2.2.1))) else (some t405)))) = some r := h
 clear h
 replace H := Option.bind_eq_some_iff.mp H
 obtain ⟨t405, A30, H⟩ := H
 replace H : ((cartouchelaw12_few.f l0).bind fun t406 => (if t406 = true then ((judge_Judge.f k l0 a1).bind fun bt407 => (if bt407.2.2.2.2.2.2.2 = 0 then (cartouchelaw12_JudgeRing.j0 k l0 a1 t405 ((bt407.2.2.2.2.2.2.1.length : Int) == 0) bt407.1 bt407.2.1 bt407.2.2.1 bt407.2.2.2.1 bt407.2.2.2.2.1 bt407.2.2.2.2.2.1 bt407.2.2.2.2.2.2.1) else (cartouchelaw12_JudgeRing.j0 k l0 a1 t405 true bt407.1 bt407.2.1 bt407.2.2.1 bt407.2.2.2.1 bt407.2.2.2.2.1 bt407.2.2.2.2.2.1 bt407.2.2.2.2.2.2.1))) else (some t405))) = some r := H
 have A3 := Aside0.mk A30
 clear A30
 replace H := Option.bind_eq_some_iff.mp H
 obtain ⟨t406, A40, H⟩ := H
 replace H : (if t406 = true then ((judge_Judge.f k l0 a1).bind fun bt407 => (if bt407.2.2.2.2.2.2.2 = 0 then (cartouchelaw12_JudgeRing.j0 k l0 a1 t405 ((bt407.2.2.2.2.2.2.1.length : Int) == 0) bt407.1 bt407.2.1 bt407.2.2.1 bt407.2.2.2.1 bt407.2.2.2.2.1 bt407.2.2.2.2.2.1 bt407.2.2.2.2.2.2.1) else (cartouchelaw12_JudgeRing.j0 k l0 a1 t405 true bt407.1 bt407.2.1 bt407.2.2.1 bt407.2.2.2.1 bt407.2.2.2.2.1 bt407.2.2.2.2.2.1 bt407.2.2.2.2.2.2.1))) else (some t405)) = some r := H
 have A4 := Aside0.mk A40
 clear A40
 by_cases c5 : t406 = true
 · subst c5
   have H1 : ((judge_Judge.f k l0 a1).bind fun bt407 => (if bt407.2.2.2.2.2.2.2 = 0 then (cartouchelaw12_JudgeRing.j0 k l0 a1 t405 ((bt407.2.2.2.2.2.2.1.length : Int) == 0) bt407.1 bt407.2.1 bt407.2.2.1 bt407.2.2.2.1 bt407.2.2.2.2.1 bt407.2.2.2.2.2.1 bt407.2.2.2.2.2.2.1) else (cartouchelaw12_JudgeRing.j0 k l0 a1 t405 true bt407.1 bt407.2.1 bt407.2.2.1 bt407.2.2.2.1 bt407.2.2.2.2.1 bt407.2.2.2.2.2.1 bt407.2.2.2.2.2.2.1))) = some r := by rw [if_pos rfl] at H; exact H
   clear H
   have H := H1
   clear H1
   replace H := Option.bind_eq_some_iff.mp H
   obtain ⟨⟨t407, t408, t409, t412, t413, t414, t415, t418⟩, A60, H⟩ := H
   replace H : (if t418 = 0 then (cartouchelaw12_JudgeRing.j0 k l0 a1 t405 ((t415.length : Int) == 0) t407 t408 t409 t412 t413 t414 t415) else (cartouchelaw12_JudgeRing.j0 k l0 a1 t405 true t407 t408 t409 t412 t413 t414 t415)) = some r := H
   have A6 := Aside0.mk A60
   clear A60
   have HC7 := Aside0.mk H
   clear H
   go_enter Tryz.func8, Tryz.ntmps8
   go_upto_region 6 with (first | ((with_reducible refine gate_callee (f := 28) rfl ?_); refine goesL_ (some 15) rfl rfl Tryz.func28 (by kernel_rfl) rfl #[] rfl (by (try simp only [List.map_toArray, List.map_cons, List.map_nil]); first | done | rfl | (simp only [List.length_drop, List.length_take]; rfl)) ?_; (with_reducible refine (cartouchelaw12_shown.calls  t405 _ A3.out).mono ?_); rintro e w8 ⟨rfl, hb⟩; refine ⟨_, rfl, ?_⟩; have n0_ := Aside0.mk (below_step (by repeat (first | (with_reducible first | exact HB.out | apply below_alloc | apply pw_below_drewN | apply below_drew1) | exact HB.out)) hb); clear HB; have HB := n0_; clear n0_; (try clear hb); (try clear hb2); (try clear hk); (try clear hi)) | ((with_reducible refine gate_callee (f := 31) rfl ?_); refine goesL_ (some 17) rfl rfl Tryz.func31 (by kernel_rfl) rfl #[.slice A0 l0.length c0] rfl (by (try simp only [List.map_toArray, List.map_cons, List.map_nil]); first | done | rfl | (simp only [List.length_drop, List.length_take]; rfl)) ?_; (with_reducible refine (cartouchelaw12_few.calls _ _ l0 true _ ?side1 ?side2 A4.out).mono ?_); (case side1 => repeat (first | exact (Kd.C_below HR0.out HB.out) | (with_reducible refine Kd.C_alloc ?_ _) | (with_reducible refine Kd.C_drewN ?_ _) | (with_reducible refine Kd.C_drew ?_))); (case side2 => exact HC0.out); rintro e w' ⟨rfl, ⟨nd, rfl⟩⟩; refine ⟨_, rfl, ?_⟩; (try (rw [drewN_self w8]; generalize hq_ : World.drewN w8 _ = w8; have n0_ : Aside0 (Below w.heap.size w w8) := ⟨by rw [← hq_]; exact (by repeat (first | (with_reducible first | exact HB.out | apply below_alloc | apply pw_below_drewN | apply below_drew1) | exact HB.out))⟩; clear HB hq_; have HB := n0_; clear n0_))) | ((with_reducible refine gate_callee (f := 33) rfl ?_); refine goesL_ (some 24) rfl rfl Tryz.func33 (by kernel_rfl) rfl #[.slice A0 l0.length c0, .int .i64 a1] rfl (by (try simp only [List.map_toArray, List.map_cons, List.map_nil]); first | done | rfl | (simp only [List.length_drop, List.length_take]; rfl)) ?_; (with_reducible refine (judge_Judge.calls k _ _ l0 a1 t407 t408 t409 t412 t413 t414 t415 t418 _ ?side1 ?side2 A6.out).mono ?_); (case side1 => repeat (first | exact (Kd.C_below HR0.out HB.out) | (with_reducible refine Kd.C_alloc ?_ _) | (with_reducible refine Kd.C_drewN ?_ _) | (with_reducible refine Kd.C_drew ?_))); (case side2 => exact HC0.out); rintro e w9 ⟨v410, v416, rfl, ho0, ho1, hb⟩; refine ⟨_, rfl, ?_⟩; have n0_ := Aside0.mk (Kd.R_lower ho0 (below_size (by repeat (first | (with_reducible first | exact HB.out | apply below_alloc | apply pw_below_drewN | apply below_drew1) | exact HB.out)))); have n1_ := Aside0.mk (Kd.R_lower ho1 (below_size (by repeat (first | (with_reducible first | exact HB.out | apply below_alloc | apply pw_below_drewN | apply below_drew1) | exact HB.out)))); have n2_ := Aside0.mk (below_step (by repeat (first | (with_reducible first | exact HB.out | apply below_alloc | apply pw_below_drewN | apply below_drew1) | exact HB.out)) hb); clear HB; have HO411 := n0_; have HO417 := n1_; have HB := n2_; clear n0_ n1_ n2_; (try clear hb); (try clear hb2); (try clear hk); (try clear hi); (try clear ho0); (try clear ho1)) | ((with_reducible refine gate_dst (N := 7) rfl ?_); (try (refine gate_guard (by rfl) ?_; dsimp only)); refine box_event ?hg (N := 7) ?hd (cs := #[.int .i64 0, .bool false, .slice none 0 0, .int .i64 0, .int .i64 0, .int .i64 0, .slice none 0 0]) (t := 42) ?hr ?_; (case hd => rfl); (case hg => rfl); (case hr => first | (go_simp; done) | (go_simp; rfl)); intro gb419 hg w10 hbox hb; have n0_ := Aside0.mk (Kd.R_below (by (with_reducible repeat (first | apply Kd.R_alloc | apply Kd.R_drewN | apply Kd.R_drew)); exact HO411.out) hb); have n1_ := Aside0.mk (Kd.R_below (by (with_reducible repeat (first | apply Kd.R_alloc | apply Kd.R_drewN | apply Kd.R_drew)); exact HO417.out) hb); have n2_ := Aside0.mk (below_step (by repeat (first | (with_reducible first | exact HB.out | apply below_alloc | apply pw_below_drewN | apply below_drew1) | exact HB.out)) hb); have n3_ := Aside0.mk (hbox); have n4_ := Aside0.mk ((by rw [hg]; exact (below_size (by repeat (first | (with_reducible first | exact HB.out | apply below_alloc | apply pw_below_drewN | apply below_drew1) | exact HB.out))) : w.heap.size ≤ gb419)); have n5_ := Aside0.mk ((by rw [hg]; exact (below_size (by repeat (first | (with_reducible first | exact HB.out | apply below_alloc | apply pw_below_drewN | apply below_drew1) | exact HB.out))) : w.heap.size ≤ gb419)); clear HO411; clear HO417; clear HB; have HO411 := n0_; have HO417 := n1_; have HB := n2_; have BK419 := n3_; have GW419 := n4_; have GE419 := n5_; clear n0_ n1_ n2_ n3_ n4_ n5_; clear hb hbox hg; have hcz11_0 : w10.cell? ⟨gb419, 0, none⟩ = some (.int .i64 0) := (blk_cell BK419.out 0).trans rfl; have hcz11_1 : w10.cell? ⟨gb419, 1, none⟩ = some (.bool false) := (blk_cell BK419.out 1).trans rfl; have hcz11_2 : w10.cell? ⟨gb419, 2, none⟩ = some (.slice none 0 0) := (blk_cell BK419.out 2).trans rfl; have hcz11_3 : w10.cell? ⟨gb419, 3, none⟩ = some (.int .i64 0) := (blk_cell BK419.out 3).trans rfl; have hcz11_4 : w10.cell? ⟨gb419, 4, none⟩ = some (.int .i64 0) := (blk_cell BK419.out 4).trans rfl; have hcz11_5 : w10.cell? ⟨gb419, 5, none⟩ = some (.int .i64 0) := (blk_cell BK419.out 5).trans rfl; have hcz11_6 : w10.cell? ⟨gb419, 6, none⟩ = some (.slice none 0 0) := (blk_cell BK419.out 6).trans rfl; have hfz11_0 := blk_frozen BK419.out 0; have hfz11_1 := blk_frozen BK419.out 1; have hfz11_2 := blk_frozen BK419.out 2; have hfz11_3 := blk_frozen BK419.out 3; have hfz11_4 := blk_frozen BK419.out 4; have hfz11_5 := blk_frozen BK419.out 5; have hfz11_6 := blk_frozen BK419.out 6; obtain ⟨Ao12, co12, eo12⟩ := Kd.R_slice HO411.out; subst eo12; obtain ⟨Ao13, co13, eo13⟩ := Kd.R_slice HO417.out; subst eo13))
   (try simp only [Act.put, List.setIfInBounds_toArray, List.set_cons_zero, List.set_cons_succ])
   go_cut [34] (fun v34 wc => ∃ (kq : Nat) (x34_6 : Bool), v34 = .bool x34_6 ∧ Aside0 (cartouchelaw12_JudgeRing.j0 kq l0 a1 t405 x34_6 t407 t408 t409 t412 t413 t414 t415 = some r) ∧ Aside0 (kq ≤ k) ∧ Aside0 (Kd.R (Kd.int .i64) 3 wc w.heap.size (fun _ => True) (.slice Ao12 t409.length co12) t409) ∧ Aside0 (Kd.R k24 24 wc w.heap.size (fun _ => True) (.slice Ao13 t415.length co13) t415) ∧ Aside0 (wc.heap[gb419]? = some (.cells #[.int .i64 t407, .bool t408, (.slice Ao12 t409.length co12), .int .i64 t412, .int .i64 t413, .int .i64 t414, (.slice Ao13 t415.length co13)] 42 (0, 0))) ∧ Aside0 (Below w.heap.size w wc))
   case first =>
    have H := HC7.out
    clear HC7
    by_cases c14 : t418 = 0
    · rw [if_pos c14] at H
      have c14b0 : (t418 == 0) = true := beq_iff_eq.mpr c14
      have c14b1 : (t418 != 0) = false := bne_eq_false_iff_eq.mpr c14
      clear c14
      (first | rw [c14b0] | (simp only [i64_w, i32_w]; rw [c14b0]) | skip)
      have H' := Aside0.mk H
      clear H
      have hcz15_0 : w10.cell? ⟨gb419, 0, none⟩ = some (.int .i64 0) := (blk_cell BK419.out 0).trans rfl
      have hcz15_1 : w10.cell? ⟨gb419, 1, none⟩ = some (.bool false) := (blk_cell BK419.out 1).trans rfl
      have hcz15_2 : w10.cell? ⟨gb419, 2, none⟩ = some (.slice none 0 0) := (blk_cell BK419.out 2).trans rfl
      have hcz15_3 : w10.cell? ⟨gb419, 3, none⟩ = some (.int .i64 0) := (blk_cell BK419.out 3).trans rfl
      have hcz15_4 : w10.cell? ⟨gb419, 4, none⟩ = some (.int .i64 0) := (blk_cell BK419.out 4).trans rfl
      have hcz15_5 : w10.cell? ⟨gb419, 5, none⟩ = some (.int .i64 0) := (blk_cell BK419.out 5).trans rfl
      have hcz15_6 : w10.cell? ⟨gb419, 6, none⟩ = some (.slice none 0 0) := (blk_cell BK419.out 6).trans rfl
      have hfz15_0 := blk_frozen BK419.out 0
      have hfz15_1 := blk_frozen BK419.out 1
      have hfz15_2 := blk_frozen BK419.out 2
      have hfz15_3 := blk_frozen BK419.out 3
      have hfz15_4 := blk_frozen BK419.out 4
      have hfz15_5 := blk_frozen BK419.out 5
      have hfz15_6 := blk_frozen BK419.out 6
      go_wp2
      go_meet
      case rel => exact ⟨_, (((t415.length : Int) == 0)), (by first | rfl | (simp; done) | (simp [*]; done)), H', ⟨by first | omega | exact Nat.le_refl _⟩, ⟨by (with_reducible repeat (first | apply Kd.R_alloc | apply Kd.R_drewN | apply Kd.R_drew)); exact Kd.R_mono (Kd.R_far (p := ⟨gb419, 6, none⟩) (Kd.R_far (p := ⟨gb419, 5, none⟩) (Kd.R_far (p := ⟨gb419, 4, none⟩) (Kd.R_far (p := ⟨gb419, 3, none⟩) (Kd.R_far (p := ⟨gb419, 2, none⟩) (Kd.R_far (p := ⟨gb419, 1, none⟩) (Kd.R_far (p := ⟨gb419, 0, none⟩) (Kd.R_types HO411.out BK419.out (by decide)) (fun _ hk => hk.2) (.int .i64 t407)) (fun _ hk => hk.2) (.bool t408)) (fun _ hk => hk.2) (.slice Ao12 t409.length co12)) (fun _ hk => hk.2) (.int .i64 t412)) (fun _ hk => hk.2) (.int .i64 t413)) (fun _ hk => hk.2) (.int .i64 t414)) (fun _ hk => hk.2) (.slice Ao13 t415.length co13)) (fun _ hk => trivial)⟩, ⟨by (with_reducible repeat (first | apply Kd.R_alloc | apply Kd.R_drewN | apply Kd.R_drew)); exact Kd.R_mono (Kd.R_far (p := ⟨gb419, 6, none⟩) (Kd.R_far (p := ⟨gb419, 5, none⟩) (Kd.R_far (p := ⟨gb419, 4, none⟩) (Kd.R_far (p := ⟨gb419, 3, none⟩) (Kd.R_far (p := ⟨gb419, 2, none⟩) (Kd.R_far (p := ⟨gb419, 1, none⟩) (Kd.R_far (p := ⟨gb419, 0, none⟩) (Kd.R_types HO417.out BK419.out (by decide)) (fun _ hk => hk.2) (.int .i64 t407)) (fun _ hk => hk.2) (.bool t408)) (fun _ hk => hk.2) (.slice Ao12 t409.length co12)) (fun _ hk => hk.2) (.int .i64 t412)) (fun _ hk => hk.2) (.int .i64 t413)) (fun _ hk => hk.2) (.int .i64 t414)) (fun _ hk => hk.2) (.slice Ao13 t415.length co13)) (fun _ hk => trivial)⟩, ⟨by (with_reducible repeat (first | refine blk_drewN ?_ _ | refine blk_drew ?_ | refine blk_alloc ?_ _)); refine blk_put (cs := #[.int .i64 t407, .bool t408, .slice Ao12 t409.length co12, .int .i64 t412, .int .i64 t413, .int .i64 t414, .slice none 0 0]) ?_ 6 _ rfl; (with_reducible repeat (first | refine blk_drewN ?_ _ | refine blk_drew ?_ | refine blk_alloc ?_ _)); refine blk_put (cs := #[.int .i64 t407, .bool t408, .slice Ao12 t409.length co12, .int .i64 t412, .int .i64 t413, .int .i64 0, .slice none 0 0]) ?_ 5 _ rfl; (with_reducible repeat (first | refine blk_drewN ?_ _ | refine blk_drew ?_ | refine blk_alloc ?_ _)); refine blk_put (cs := #[.int .i64 t407, .bool t408, .slice Ao12 t409.length co12, .int .i64 t412, .int .i64 0, .int .i64 0, .slice none 0 0]) ?_ 4 _ rfl; (with_reducible repeat (first | refine blk_drewN ?_ _ | refine blk_drew ?_ | refine blk_alloc ?_ _)); refine blk_put (cs := #[.int .i64 t407, .bool t408, .slice Ao12 t409.length co12, .int .i64 0, .int .i64 0, .int .i64 0, .slice none 0 0]) ?_ 3 _ rfl; (with_reducible repeat (first | refine blk_drewN ?_ _ | refine blk_drew ?_ | refine blk_alloc ?_ _)); refine blk_put (cs := #[.int .i64 t407, .bool t408, .slice none 0 0, .int .i64 0, .int .i64 0, .int .i64 0, .slice none 0 0]) ?_ 2 _ rfl; (with_reducible repeat (first | refine blk_drewN ?_ _ | refine blk_drew ?_ | refine blk_alloc ?_ _)); refine blk_put (cs := #[.int .i64 t407, .bool false, .slice none 0 0, .int .i64 0, .int .i64 0, .int .i64 0, .slice none 0 0]) ?_ 1 _ rfl; (with_reducible repeat (first | refine blk_drewN ?_ _ | refine blk_drew ?_ | refine blk_alloc ?_ _)); refine blk_put (cs := #[.int .i64 0, .bool false, .slice none 0 0, .int .i64 0, .int .i64 0, .int .i64 0, .slice none 0 0]) ?_ 0 _ rfl; (with_reducible repeat (first | refine blk_drewN ?_ _ | refine blk_drew ?_ | refine blk_alloc ?_ _)); exact BK419.out⟩, ⟨by repeat (first | (with_reducible first | exact HB.out | apply below_alloc | apply pw_below_drewN | apply below_drew1 | refine below_set ?_ GE419.out) | exact HB.out)⟩⟩
    · rw [if_neg c14] at H
      have c14b0 : (t418 == 0) = false := beq_eq_false_iff_ne.mpr c14
      have c14b1 : (t418 != 0) = true := bne_iff_ne.mpr c14
      (first | rw [c14b0] | (simp only [i64_w, i32_w]; rw [c14b0]) | skip)
      have H' := Aside0.mk H
      clear H
      go_wp2
      go_meet
      case rel => exact ⟨_, (true), (by first | rfl | (simp; done) | (simp [*]; done)), H', ⟨by first | omega | exact Nat.le_refl _⟩, ⟨by (with_reducible repeat (first | apply Kd.R_alloc | apply Kd.R_drewN | apply Kd.R_drew)); exact Kd.R_mono (Kd.R_far (p := ⟨gb419, 6, none⟩) (Kd.R_far (p := ⟨gb419, 5, none⟩) (Kd.R_far (p := ⟨gb419, 4, none⟩) (Kd.R_far (p := ⟨gb419, 3, none⟩) (Kd.R_far (p := ⟨gb419, 2, none⟩) (Kd.R_far (p := ⟨gb419, 1, none⟩) (Kd.R_far (p := ⟨gb419, 0, none⟩) (Kd.R_types HO411.out BK419.out (by decide)) (fun _ hk => hk.2) (.int .i64 t407)) (fun _ hk => hk.2) (.bool t408)) (fun _ hk => hk.2) (.slice Ao12 t409.length co12)) (fun _ hk => hk.2) (.int .i64 t412)) (fun _ hk => hk.2) (.int .i64 t413)) (fun _ hk => hk.2) (.int .i64 t414)) (fun _ hk => hk.2) (.slice Ao13 t415.length co13)) (fun _ hk => trivial)⟩, ⟨by (with_reducible repeat (first | apply Kd.R_alloc | apply Kd.R_drewN | apply Kd.R_drew)); exact Kd.R_mono (Kd.R_far (p := ⟨gb419, 6, none⟩) (Kd.R_far (p := ⟨gb419, 5, none⟩) (Kd.R_far (p := ⟨gb419, 4, none⟩) (Kd.R_far (p := ⟨gb419, 3, none⟩) (Kd.R_far (p := ⟨gb419, 2, none⟩) (Kd.R_far (p := ⟨gb419, 1, none⟩) (Kd.R_far (p := ⟨gb419, 0, none⟩) (Kd.R_types HO417.out BK419.out (by decide)) (fun _ hk => hk.2) (.int .i64 t407)) (fun _ hk => hk.2) (.bool t408)) (fun _ hk => hk.2) (.slice Ao12 t409.length co12)) (fun _ hk => hk.2) (.int .i64 t412)) (fun _ hk => hk.2) (.int .i64 t413)) (fun _ hk => hk.2) (.int .i64 t414)) (fun _ hk => hk.2) (.slice Ao13 t415.length co13)) (fun _ hk => trivial)⟩, ⟨by (with_reducible repeat (first | refine blk_drewN ?_ _ | refine blk_drew ?_ | refine blk_alloc ?_ _)); refine blk_put (cs := #[.int .i64 t407, .bool t408, .slice Ao12 t409.length co12, .int .i64 t412, .int .i64 t413, .int .i64 t414, .slice none 0 0]) ?_ 6 _ rfl; (with_reducible repeat (first | refine blk_drewN ?_ _ | refine blk_drew ?_ | refine blk_alloc ?_ _)); refine blk_put (cs := #[.int .i64 t407, .bool t408, .slice Ao12 t409.length co12, .int .i64 t412, .int .i64 t413, .int .i64 0, .slice none 0 0]) ?_ 5 _ rfl; (with_reducible repeat (first | refine blk_drewN ?_ _ | refine blk_drew ?_ | refine blk_alloc ?_ _)); refine blk_put (cs := #[.int .i64 t407, .bool t408, .slice Ao12 t409.length co12, .int .i64 t412, .int .i64 0, .int .i64 0, .slice none 0 0]) ?_ 4 _ rfl; (with_reducible repeat (first | refine blk_drewN ?_ _ | refine blk_drew ?_ | refine blk_alloc ?_ _)); refine blk_put (cs := #[.int .i64 t407, .bool t408, .slice Ao12 t409.length co12, .int .i64 0, .int .i64 0, .int .i64 0, .slice none 0 0]) ?_ 3 _ rfl; (with_reducible repeat (first | refine blk_drewN ?_ _ | refine blk_drew ?_ | refine blk_alloc ?_ _)); refine blk_put (cs := #[.int .i64 t407, .bool t408, .slice none 0 0, .int .i64 0, .int .i64 0, .int .i64 0, .slice none 0 0]) ?_ 2 _ rfl; (with_reducible repeat (first | refine blk_drewN ?_ _ | refine blk_drew ?_ | refine blk_alloc ?_ _)); refine blk_put (cs := #[.int .i64 t407, .bool false, .slice none 0 0, .int .i64 0, .int .i64 0, .int .i64 0, .slice none 0 0]) ?_ 1 _ rfl; (with_reducible repeat (first | refine blk_drewN ?_ _ | refine blk_drew ?_ | refine blk_alloc ?_ _)); refine blk_put (cs := #[.int .i64 0, .bool false, .slice none 0 0, .int .i64 0, .int .i64 0, .int .i64 0, .slice none 0 0]) ?_ 0 _ rfl; (with_reducible repeat (first | refine blk_drewN ?_ _ | refine blk_drew ?_ | refine blk_alloc ?_ _)); exact BK419.out⟩, ⟨by repeat (first | (with_reducible first | exact HB.out | apply below_alloc | apply pw_below_drewN | apply below_drew1 | refine below_set ?_ GE419.out) | exact HB.out)⟩⟩
   case rest =>
    clear HC7
    try clear c1
    try clear c2
    try clear p2
    try clear c3
    try clear c5
    try clear c8
    try clear c14
    try clear c14b0
    try clear c14b1
    try clear hcz11_0
    try clear hcz11_1
    try clear hcz11_2
    try clear hcz11_3
    try clear hcz11_4
    try clear hcz11_5
    try clear hcz11_6
    try clear hcz15_0
    try clear hcz15_1
    try clear hcz15_2
    try clear hcz15_3
    try clear hcz15_4
    try clear hcz15_5
    try clear hcz15_6
    try clear hfz11_0
    try clear hfz11_1
    try clear hfz11_2
    try clear hfz11_3
    try clear hfz11_4
    try clear hfz11_5
    try clear hfz11_6
    try clear hfz15_0
    try clear hfz15_1
    try clear hfz15_2
    try clear hfz15_3
    try clear hfz15_4
    try clear hfz15_5
    try clear hfz15_6
    obtain ⟨kq, x34_6, rfl, HA, HJ6, HO_420002, HO_420006, BK419, HB⟩ := hcut
    cases kq with
    | zero => exact absurd HA.out (by simp [cartouchelaw12_JudgeRing.j0])
    | succ kj6 =>
     have H := HA.out
     clear HA
     simp only [cartouchelaw12_JudgeRing.j0] at H
     by_cases c16 : x34_6 = true
     · subst c16
       have H1 : (some t405) = some r := by rw [if_pos rfl] at H; exact H
       clear H
       have H := H1
       clear H1
       obtain rfl := Option.some.inj H
       go_wp2
       go_ret
       exact ⟨by first | rfl | (simp [errW_none, errW_some] <;> rfl) | (simp [*, errW_none, errW_some] <;> rfl), by repeat (first | (with_reducible first | exact HB.out | apply below_alloc | apply pw_below_drewN | apply below_drew1 | refine below_set ?_ GE419.out) | exact HB.out)⟩
     · replace c16 := Bool.eq_false_iff.mpr c16
       subst c16
       have H1 : ((cartoucheref10_All.f l0).bind fun t420 => (cartouchelaw12_JudgeRing.l0 kj6 a1 t405 t420 0 t407 t408 t409 t412 t413 t414 t415)) = some r := by rw [if_neg (show ¬ (false = true) by decide)] at H; exact H
       clear H
       have H := H1
       clear H1
       replace H := Option.bind_eq_some_iff.mp H
       obtain ⟨t420, A170, H⟩ := H
       replace H : (cartouchelaw12_JudgeRing.l0 kj6 a1 t405 t420 0 t407 t408 t409 t412 t413 t414 t415) = some r := H
       have A17 := Aside0.mk A170
       clear A170
       have H' := Aside0.mk H
       clear H
       go_wp2_with (first | ((with_reducible refine gate_callee (f := 22) rfl ?_); refine goesL_ (some 37) rfl rfl Tryz.func22 (by kernel_rfl) rfl #[.slice A0 l0.length c0] rfl (by (try simp only [List.map_toArray, List.map_cons, List.map_nil]); first | done | rfl | (simp only [List.length_drop, List.length_take]; rfl)) ?_; (with_reducible refine (cartoucheref10_All.calls _ _ l0 t420 _ ?side1 ?side2 A17.out).mono ?_); (case side1 => repeat (first | exact (Kd.C_below HR0.out HB.out) | (with_reducible refine Kd.C_alloc ?_ _) | (with_reducible refine Kd.C_drewN ?_ _) | (with_reducible refine Kd.C_drew ?_))); (case side2 => exact HC0.out); rintro e w18 ⟨v421, rfl, ho0, hb⟩; refine ⟨_, rfl, ?_⟩; have n0_ := Aside0.mk (Kd.R_below (by (with_reducible repeat (first | apply Kd.R_alloc | apply Kd.R_drewN | apply Kd.R_drew)); exact HO_420002.out) hb); have n1_ := Aside0.mk (Kd.R_elder' (by (with_reducible repeat (first | apply Kd.R_alloc | apply Kd.R_drewN | apply Kd.R_drew)); exact HO_420006.out) (Kd.R_base ho0) hb); have n2_ := Aside0.mk (Kd.R_lower (Kd.R_new' ho0 (Kd.R_lt (by (with_reducible repeat (first | apply Kd.R_alloc | apply Kd.R_drewN | apply Kd.R_drew)); exact HO_420006.out))) (below_size (by repeat (first | (with_reducible first | exact HB.out | apply below_alloc | apply pw_below_drewN | apply below_drew1 | refine below_set ?_ GE419.out) | exact HB.out)))); have n3_ := Aside0.mk (blk_below (g := gb419) (o := .cells #[.int .i64 t407, .bool t408, .slice Ao12 t409.length co12, .int .i64 t412, .int .i64 t413, .int .i64 t414, .slice Ao13 t415.length co13] 42 (0, 0)) (by (with_reducible repeat (first | refine blk_drewN ?_ _ | refine blk_drew ?_ | refine blk_alloc ?_ _)); exact BK419.out) hb); have n4_ := Aside0.mk (below_step (by repeat (first | (with_reducible first | exact HB.out | apply below_alloc | apply pw_below_drewN | apply below_drew1 | refine below_set ?_ GE419.out) | exact HB.out)) hb); clear HO_420002; clear HO_420006; clear BK419; clear HB; have HO_420002 := n0_; have HO_420006 := n1_; have HO422 := n2_; have BK419 := n3_; have HB := n4_; clear n0_ n1_ n2_ n3_ n4_; (try clear hb); (try clear hb2); (try clear hk); (try clear hi); (try clear ho0)))
       go_loopg [10] kj6 (fun kq v10 w' => ∃ (x10_2 : Int), v10 = .int .i64 x10_2 ∧ Aside0 (cartouchelaw12_JudgeRing.l0 kq a1 t405 t420 x10_2 t407 t408 t409 t412 t413 t414 t415 = some r) ∧ Aside0 (kq ≤ kj6) ∧ Aside0 (Kd.R k24 24 w' w.heap.size (fun k_ => some k_ ≠ ((.slice Ao13 t415.length co13) : Value).ownBlock) v421 t420) ∧ Aside0 (Kd.R (Kd.int .i64) 3 w' w.heap.size (fun _ => True) (.slice Ao12 t409.length co12) t409) ∧ Aside0 (Kd.R k24 24 w' w.heap.size (fun k_ => some k_ ≠ (v421 : Value).ownBlock) (.slice Ao13 t415.length co13) t415) ∧ Aside0 (w'.heap[gb419]? = some (.cells #[.int .i64 t407, .bool t408, (.slice Ao12 t409.length co12), .int .i64 t412, .int .i64 t413, .int .i64 t414, (.slice Ao13 t415.length co13)] 42 (0, 0))) ∧ Aside0 (Below w.heap.size w w'))
       case atStart => exact ⟨(0), (by first | rfl | (simp; done) | (simp [*]; done)), H', ⟨Nat.le_refl _⟩, ⟨by (with_reducible repeat (first | apply Kd.R_alloc | apply Kd.R_drewN | apply Kd.R_drew)); exact Kd.R_mono HO422.out (fun _ hk => hk.2)⟩, ⟨by (with_reducible repeat (first | apply Kd.R_alloc | apply Kd.R_drewN | apply Kd.R_drew)); exact HO_420002.out⟩, ⟨by (with_reducible repeat (first | apply Kd.R_alloc | apply Kd.R_drewN | apply Kd.R_drew)); exact Kd.R_mono HO_420006.out (fun _ hk => hk.2)⟩, ⟨by (with_reducible repeat (first | refine blk_drewN ?_ _ | refine blk_drew ?_ | refine blk_alloc ?_ _)); exact BK419.out⟩, ⟨by repeat (first | (with_reducible first | exact HB.out | apply below_alloc | apply pw_below_drewN | apply below_drew1 | refine below_set ?_ GE419.out) | exact HB.out)⟩⟩
       case round =>
        clear H'
        try clear c1
        try clear c2
        try clear p2
        try clear c3
        try clear c5
        try clear c8
        try clear c14
        try clear c14b0
        try clear c14b1
        try clear c16
        try clear hcz11_0
        try clear hcz11_1
        try clear hcz11_2
        try clear hcz11_3
        try clear hcz11_4
        try clear hcz11_5
        try clear hcz11_6
        try clear hcz15_0
        try clear hcz15_1
        try clear hcz15_2
        try clear hcz15_3
        try clear hcz15_4
        try clear hcz15_5
        try clear hcz15_6
        try clear hfz11_0
        try clear hfz11_1
        try clear hfz11_2
        try clear hfz11_3
        try clear hfz11_4
        try clear hfz11_5
        try clear hfz11_6
        try clear hfz15_0
        try clear hfz15_1
        try clear hfz15_2
        try clear hfz15_3
        try clear hfz15_4
        try clear hfz15_5
        try clear hfz15_6
        try clear p2
        obtain ⟨x10_2, rfl, HA, HK2, HO_9, HO_420002, HO_420006, BK419, HB⟩ := hrel
        cases gk with
        | zero => exact absurd HA.out (by simp [cartouchelaw12_JudgeRing.l0])
        | succ k2 =>
         have H := HA.out
         clear HA
         simp only [cartouchelaw12_JudgeRing.l0] at H
         by_cases c19 : x10_2 < (t415.length : Int)
         · rw [if_pos c19] at H
           have c19b0 : decide (x10_2 < (t415.length : Int)) = true := decide_eq_true c19
           clear c19
           by_cases c20 : 0 ≤ x10_2
           · rw [if_pos c20] at H
             have c20b0 : decide (0 ≤ x10_2) = true := decide_eq_true c20
             clear c20
             by_cases c21 : (t415.length : Int) = 0
             · rw [if_pos c21] at H
               exact absurd H (by simp)
             · rw [if_neg c21] at H
               have c21b0 : ((t415.length : Int) == 0) = false := beq_eq_false_iff_ne.mpr c21
               have c21b1 : ((t415.length : Int) != 0) = true := bne_iff_ne.mpr c21
               have c21b2 : ¬ (t415 = []) := fun h_ => c21 (by rw [h_]; rfl)
               obtain ⟨ji22, hji22⟩ : ∃ j_ : Int, (Int.tmod (wrap64 (x10_2 + 1)) (t415.length : Int)) = j_ := ⟨_, rfl⟩
               replace H : (if 0 ≤ (ji22) then (if (ji22) < (t415.length : Int) then (cartouchelaw12_JudgeRing.l1 k2 a1 t405 t420 x10_2 false 0 t407 t408 t409 t412 t413 t414 t415 ((rd_T24 t415 x10_2).f0) ((rd_T24 t415 x10_2).f1) ((rd_T24 t415 x10_2).f2) ((rd_T24 t415 x10_2).f3) ((rd_T24 t415 x10_2).f4) ((rd_T24 t415 (ji22)).f0) ((rd_T24 t415 (ji22)).f1) ((rd_T24 t415 (ji22)).f2) ((rd_T24 t415 (ji22)).f3) ((rd_T24 t415 (ji22)).f4)) else (none)) else (none)) = some r := by first | (rw [hji22] at H; exact H) | (simp only [hji22] at H ⊢; exact H)
               by_cases c23 : 0 ≤ (ji22)
               · rw [if_pos c23] at H
                 have c23b0 : decide (0 ≤ (ji22)) = true := decide_eq_true c23
                 clear c23
                 by_cases c24 : (ji22) < (t415.length : Int)
                 · rw [if_pos c24] at H
                   have c24b0 : decide ((ji22) < (t415.length : Int)) = true := decide_eq_true c24
                   clear c24
                   have H' := Aside0.mk H
                   clear H
                   have hcz25_0 : wr.cell? ⟨gb419, 0, none⟩ = some (.int .i64 t407) := (blk_cell BK419.out 0).trans rfl
                   have hcz25_1 : wr.cell? ⟨gb419, 1, none⟩ = some (.bool t408) := (blk_cell BK419.out 1).trans rfl
                   have hcz25_2 : wr.cell? ⟨gb419, 2, none⟩ = some (.slice Ao12 t409.length co12) := (blk_cell BK419.out 2).trans rfl
                   have hcz25_3 : wr.cell? ⟨gb419, 3, none⟩ = some (.int .i64 t412) := (blk_cell BK419.out 3).trans rfl
                   have hcz25_4 : wr.cell? ⟨gb419, 4, none⟩ = some (.int .i64 t413) := (blk_cell BK419.out 4).trans rfl
                   have hcz25_5 : wr.cell? ⟨gb419, 5, none⟩ = some (.int .i64 t414) := (blk_cell BK419.out 5).trans rfl
                   have hcz25_6 : wr.cell? ⟨gb419, 6, none⟩ = some (.slice Ao13 t415.length co13) := (blk_cell BK419.out 6).trans rfl
                   have hfz25_0 := blk_frozen BK419.out 0
                   have hfz25_1 := blk_frozen BK419.out 1
                   have hfz25_2 := blk_frozen BK419.out 2
                   have hfz25_3 := blk_frozen BK419.out 3
                   have hfz25_4 := blk_frozen BK419.out 4
                   have hfz25_5 := blk_frozen BK419.out 5
                   have hfz25_6 := blk_frozen BK419.out 6
                   have p423 : 0 ≤ (x10_2 : Int) := of_decide_eq_true (by first | (with_reducible assumption) | assumption)
                   have q423 : x10_2 < (t415.length : Int) := of_decide_eq_true (by first | (with_reducible assumption) | assumption)
                   obtain ⟨ad423, e423, hx423_0, hx423_1, hx423_2, hx423_3, hx423_4⟩ := at_T24 (Kd.R_reads' HO_420006.out).2.2 x10_2 p423 q423
                   cases e423
                   replace p423 := eq_true p423
                   replace q423 := eq_true q423
                   try go_wp2_with (first | ((with_reducible refine gate_dst (N := 11) rfl ?_); (try (refine gate_guard (by rfl) ?_; dsimp only)); refine box_event ?hg (N := 11) ?hd (cs := #[.int .i64 0, .int .i64 0, .int .i64 0, .int .i64 0, .int .i64 0]) (t := 24) ?hr ?_; (case hd => rfl); (case hg => rfl); (case hr => first | (go_simp; done) | (go_simp; rfl)); intro gb424 hg w26 hbox hb; have n0_ := Aside0.mk (Kd.R_below (Kd.R_elderB (by (with_reducible repeat (first | apply Kd.R_alloc | apply Kd.R_drewN | apply Kd.R_drew)); exact HO_9.out) gb424 (Nat.le_of_eq hg.symm)) hb); have n1_ := Aside0.mk (Kd.R_below (by (with_reducible repeat (first | apply Kd.R_alloc | apply Kd.R_drewN | apply Kd.R_drew)); exact HO_420002.out) hb); have n2_ := Aside0.mk (Kd.R_below (Kd.R_elderB (by (with_reducible repeat (first | apply Kd.R_alloc | apply Kd.R_drewN | apply Kd.R_drew)); exact HO_420006.out) gb424 (Nat.le_of_eq hg.symm)) hb); have n3_ := Aside0.mk (blk_below (g := gb419) (o := .cells #[.int .i64 t407, .bool t408, .slice Ao12 t409.length co12, .int .i64 t412, .int .i64 t413, .int .i64 t414, .slice (some ad423) t415.length co13] 42 (0, 0)) (by (with_reducible repeat (first | refine blk_drewN ?_ _ | refine blk_drew ?_ | refine blk_alloc ?_ _)); exact BK419.out) hb); have n4_ := Aside0.mk (below_step (by repeat (first | (with_reducible first | exact HB.out | apply below_alloc | apply pw_below_drewN | apply below_drew1 | refine below_set ?_ GE419.out) | exact HB.out)) hb); have n5_ := Aside0.mk (hbox); have n6_ := Aside0.mk ((by rw [hg]; exact (below_size (by repeat (first | (with_reducible first | exact HB.out | apply below_alloc | apply pw_below_drewN | apply below_drew1 | refine below_set ?_ GE419.out) | exact HB.out))) : w.heap.size ≤ gb424)); have n7_ := Aside0.mk ((by rw [hg]; exact (below_size (by repeat (first | (with_reducible first | exact HB.out | apply below_alloc | apply pw_below_drewN | apply below_drew1 | refine below_set ?_ GE419.out) | exact HB.out))) : w.heap.size ≤ gb424)); have n8_ := Aside0.mk ((by rw [hg]; exact Nat.ne_of_lt (blk_lt (g := gb419) (o := .cells #[.int .i64 t407, .bool t408, .slice Ao12 t409.length co12, .int .i64 t412, .int .i64 t413, .int .i64 t414, .slice (some ad423) t415.length co13] 42 (0, 0)) (by (with_reducible repeat (first | refine blk_drewN ?_ _ | refine blk_drew ?_ | refine blk_alloc ?_ _)); exact BK419.out)) : gb419 ≠ gb424)); have n9_ := Aside0.mk ((by rw [hg]; exact Nat.ne_of_gt (blk_lt (g := gb419) (o := .cells #[.int .i64 t407, .bool t408, .slice Ao12 t409.length co12, .int .i64 t412, .int .i64 t413, .int .i64 t414, .slice (some ad423) t415.length co13] 42 (0, 0)) (by (with_reducible repeat (first | refine blk_drewN ?_ _ | refine blk_drew ?_ | refine blk_alloc ?_ _)); exact BK419.out)) : gb424 ≠ gb419)); clear HO_9; clear HO_420002; clear HO_420006; clear BK419; clear HB; have HO_9 := n0_; have HO_420002 := n1_; have HO_420006 := n2_; have BK419 := n3_; have HB := n4_; have BK424 := n5_; have GW424 := n6_; have GE424 := n7_; have NB419_424 := n8_; have NB424_419 := n9_; clear n0_ n1_ n2_ n3_ n4_ n5_ n6_ n7_ n8_ n9_; clear hb hbox hg; have hnb27 := NB424_419.out; have hnc27 := NB419_424.out; have hcz28_0 : w26.cell? ⟨gb424, 0, none⟩ = some (.int .i64 0) := (blk_cell BK424.out 0).trans rfl; have hcz28_1 : w26.cell? ⟨gb424, 1, none⟩ = some (.int .i64 0) := (blk_cell BK424.out 1).trans rfl; have hcz28_2 : w26.cell? ⟨gb424, 2, none⟩ = some (.int .i64 0) := (blk_cell BK424.out 2).trans rfl; have hcz28_3 : w26.cell? ⟨gb424, 3, none⟩ = some (.int .i64 0) := (blk_cell BK424.out 3).trans rfl; have hcz28_4 : w26.cell? ⟨gb424, 4, none⟩ = some (.int .i64 0) := (blk_cell BK424.out 4).trans rfl; have hfz28_0 := blk_frozen BK424.out 0; have hfz28_1 := blk_frozen BK424.out 1; have hfz28_2 := blk_frozen BK424.out 2; have hfz28_3 := blk_frozen BK424.out 3; have hfz28_4 := blk_frozen BK424.out 4))
                   have n0_ : Aside0 (Kd.R k24 24 (((((w26.setCell ⟨gb424, 0, none⟩ (.int .i64 ((rd_T24 t415 x10_2).f0))).setCell ⟨gb424, 1, none⟩ (.int .i64 ((rd_T24 t415 x10_2).f1))).setCell ⟨gb424, 2, none⟩ (.int .i64 ((rd_T24 t415 x10_2).f2))).setCell ⟨gb424, 3, none⟩ (.int .i64 ((rd_T24 t415 x10_2).f3))).setCell ⟨gb424, 4, none⟩ (.int .i64 ((rd_T24 t415 x10_2).f4))) w.heap.size (fun k_ => some k_ ≠ (.slice (some ad423) t415.length co13 : Value).ownBlock ∧ k_ ≠ gb424) v421 t420) := ⟨by (with_reducible repeat (first | apply Kd.R_alloc | apply Kd.R_drewN | apply Kd.R_drew)); exact Kd.R_mono (Kd.R_far (p := ⟨gb424, 4, none⟩) (Kd.R_far (p := ⟨gb424, 3, none⟩) (Kd.R_far (p := ⟨gb424, 2, none⟩) (Kd.R_far (p := ⟨gb424, 1, none⟩) (Kd.R_far (p := ⟨gb424, 0, none⟩) (Kd.R_mono HO_9.out (fun k_ hk => (⟨hk, hk.2⟩ : _ ∧ k_ ≠ gb424))) (fun _ hk => hk.2) (.int .i64 ((rd_T24 t415 x10_2).f0))) (fun _ hk => hk.2) (.int .i64 ((rd_T24 t415 x10_2).f1))) (fun _ hk => hk.2) (.int .i64 ((rd_T24 t415 x10_2).f2))) (fun _ hk => hk.2) (.int .i64 ((rd_T24 t415 x10_2).f3))) (fun _ hk => hk.2) (.int .i64 ((rd_T24 t415 x10_2).f4))) (fun _ hk => ⟨hk.1.1, hk.1.2⟩)⟩
                   have n1_ : Aside0 (Kd.R (Kd.int .i64) 3 (((((w26.setCell ⟨gb424, 0, none⟩ (.int .i64 ((rd_T24 t415 x10_2).f0))).setCell ⟨gb424, 1, none⟩ (.int .i64 ((rd_T24 t415 x10_2).f1))).setCell ⟨gb424, 2, none⟩ (.int .i64 ((rd_T24 t415 x10_2).f2))).setCell ⟨gb424, 3, none⟩ (.int .i64 ((rd_T24 t415 x10_2).f3))).setCell ⟨gb424, 4, none⟩ (.int .i64 ((rd_T24 t415 x10_2).f4))) w.heap.size (fun _ => True) (.slice Ao12 t409.length co12) t409) := ⟨by (with_reducible repeat (first | apply Kd.R_alloc | apply Kd.R_drewN | apply Kd.R_drew)); exact Kd.R_mono (Kd.R_far (p := ⟨gb424, 4, none⟩) (Kd.R_far (p := ⟨gb424, 3, none⟩) (Kd.R_far (p := ⟨gb424, 2, none⟩) (Kd.R_far (p := ⟨gb424, 1, none⟩) (Kd.R_far (p := ⟨gb424, 0, none⟩) (Kd.R_types HO_420002.out BK424.out (by decide)) (fun _ hk => hk.2) (.int .i64 ((rd_T24 t415 x10_2).f0))) (fun _ hk => hk.2) (.int .i64 ((rd_T24 t415 x10_2).f1))) (fun _ hk => hk.2) (.int .i64 ((rd_T24 t415 x10_2).f2))) (fun _ hk => hk.2) (.int .i64 ((rd_T24 t415 x10_2).f3))) (fun _ hk => hk.2) (.int .i64 ((rd_T24 t415 x10_2).f4))) (fun _ hk => trivial)⟩
                   have n2_ : Aside0 (Kd.R k24 24 (((((w26.setCell ⟨gb424, 0, none⟩ (.int .i64 ((rd_T24 t415 x10_2).f0))).setCell ⟨gb424, 1, none⟩ (.int .i64 ((rd_T24 t415 x10_2).f1))).setCell ⟨gb424, 2, none⟩ (.int .i64 ((rd_T24 t415 x10_2).f2))).setCell ⟨gb424, 3, none⟩ (.int .i64 ((rd_T24 t415 x10_2).f3))).setCell ⟨gb424, 4, none⟩ (.int .i64 ((rd_T24 t415 x10_2).f4))) w.heap.size (fun k_ => some k_ ≠ (v421 : Value).ownBlock ∧ k_ ≠ gb424) (.slice (some ad423) t415.length co13) t415) := ⟨by (with_reducible repeat (first | apply Kd.R_alloc | apply Kd.R_drewN | apply Kd.R_drew)); exact Kd.R_mono (Kd.R_far (p := ⟨gb424, 4, none⟩) (Kd.R_far (p := ⟨gb424, 3, none⟩) (Kd.R_far (p := ⟨gb424, 2, none⟩) (Kd.R_far (p := ⟨gb424, 1, none⟩) (Kd.R_far (p := ⟨gb424, 0, none⟩) (Kd.R_mono HO_420006.out (fun k_ hk => (⟨hk, hk.2⟩ : _ ∧ k_ ≠ gb424))) (fun _ hk => hk.2) (.int .i64 ((rd_T24 t415 x10_2).f0))) (fun _ hk => hk.2) (.int .i64 ((rd_T24 t415 x10_2).f1))) (fun _ hk => hk.2) (.int .i64 ((rd_T24 t415 x10_2).f2))) (fun _ hk => hk.2) (.int .i64 ((rd_T24 t415 x10_2).f3))) (fun _ hk => hk.2) (.int .i64 ((rd_T24 t415 x10_2).f4))) (fun _ hk => ⟨hk.1.1, hk.1.2⟩)⟩
                   have n3_ : Aside0 ((((((w26.setCell ⟨gb424, 0, none⟩ (.int .i64 ((rd_T24 t415 x10_2).f0))).setCell ⟨gb424, 1, none⟩ (.int .i64 ((rd_T24 t415 x10_2).f1))).setCell ⟨gb424, 2, none⟩ (.int .i64 ((rd_T24 t415 x10_2).f2))).setCell ⟨gb424, 3, none⟩ (.int .i64 ((rd_T24 t415 x10_2).f3))).setCell ⟨gb424, 4, none⟩ (.int .i64 ((rd_T24 t415 x10_2).f4))).heap[gb419]? = some (.cells #[.int .i64 t407, .bool t408, .slice Ao12 t409.length co12, .int .i64 t412, .int .i64 t413, .int .i64 t414, .slice (some ad423) t415.length co13] 42 (0, 0))) := ⟨by (with_reducible repeat (first | refine blk_drewN ?_ _ | refine blk_drew ?_ | refine blk_alloc ?_ _)); refine blk_far ?_ NB419_424.out _; (with_reducible repeat (first | refine blk_drewN ?_ _ | refine blk_drew ?_ | refine blk_alloc ?_ _)); refine blk_far ?_ NB419_424.out _; (with_reducible repeat (first | refine blk_drewN ?_ _ | refine blk_drew ?_ | refine blk_alloc ?_ _)); refine blk_far ?_ NB419_424.out _; (with_reducible repeat (first | refine blk_drewN ?_ _ | refine blk_drew ?_ | refine blk_alloc ?_ _)); refine blk_far ?_ NB419_424.out _; (with_reducible repeat (first | refine blk_drewN ?_ _ | refine blk_drew ?_ | refine blk_alloc ?_ _)); refine blk_far ?_ NB419_424.out _; (with_reducible repeat (first | refine blk_drewN ?_ _ | refine blk_drew ?_ | refine blk_alloc ?_ _)); exact BK419.out⟩
                   have n4_ : Aside0 ((((((w26.setCell ⟨gb424, 0, none⟩ (.int .i64 ((rd_T24 t415 x10_2).f0))).setCell ⟨gb424, 1, none⟩ (.int .i64 ((rd_T24 t415 x10_2).f1))).setCell ⟨gb424, 2, none⟩ (.int .i64 ((rd_T24 t415 x10_2).f2))).setCell ⟨gb424, 3, none⟩ (.int .i64 ((rd_T24 t415 x10_2).f3))).setCell ⟨gb424, 4, none⟩ (.int .i64 ((rd_T24 t415 x10_2).f4))).heap[gb424]? = some (.cells #[.int .i64 ((rd_T24 t415 x10_2).f0), .int .i64 ((rd_T24 t415 x10_2).f1), .int .i64 ((rd_T24 t415 x10_2).f2), .int .i64 ((rd_T24 t415 x10_2).f3), .int .i64 ((rd_T24 t415 x10_2).f4)] 24 (0, 0))) := ⟨by (with_reducible repeat (first | refine blk_drewN ?_ _ | refine blk_drew ?_ | refine blk_alloc ?_ _)); refine blk_put (cs := #[.int .i64 ((rd_T24 t415 x10_2).f0), .int .i64 ((rd_T24 t415 x10_2).f1), .int .i64 ((rd_T24 t415 x10_2).f2), .int .i64 ((rd_T24 t415 x10_2).f3), .int .i64 0]) ?_ 4 _ rfl; (with_reducible repeat (first | refine blk_drewN ?_ _ | refine blk_drew ?_ | refine blk_alloc ?_ _)); refine blk_put (cs := #[.int .i64 ((rd_T24 t415 x10_2).f0), .int .i64 ((rd_T24 t415 x10_2).f1), .int .i64 ((rd_T24 t415 x10_2).f2), .int .i64 0, .int .i64 0]) ?_ 3 _ rfl; (with_reducible repeat (first | refine blk_drewN ?_ _ | refine blk_drew ?_ | refine blk_alloc ?_ _)); refine blk_put (cs := #[.int .i64 ((rd_T24 t415 x10_2).f0), .int .i64 ((rd_T24 t415 x10_2).f1), .int .i64 0, .int .i64 0, .int .i64 0]) ?_ 2 _ rfl; (with_reducible repeat (first | refine blk_drewN ?_ _ | refine blk_drew ?_ | refine blk_alloc ?_ _)); refine blk_put (cs := #[.int .i64 ((rd_T24 t415 x10_2).f0), .int .i64 0, .int .i64 0, .int .i64 0, .int .i64 0]) ?_ 1 _ rfl; (with_reducible repeat (first | refine blk_drewN ?_ _ | refine blk_drew ?_ | refine blk_alloc ?_ _)); refine blk_put (cs := #[.int .i64 0, .int .i64 0, .int .i64 0, .int .i64 0, .int .i64 0]) ?_ 0 _ rfl; (with_reducible repeat (first | refine blk_drewN ?_ _ | refine blk_drew ?_ | refine blk_alloc ?_ _)); exact BK424.out⟩
                   have n5_ : Aside0 (Below w.heap.size w (((((w26.setCell ⟨gb424, 0, none⟩ (.int .i64 ((rd_T24 t415 x10_2).f0))).setCell ⟨gb424, 1, none⟩ (.int .i64 ((rd_T24 t415 x10_2).f1))).setCell ⟨gb424, 2, none⟩ (.int .i64 ((rd_T24 t415 x10_2).f2))).setCell ⟨gb424, 3, none⟩ (.int .i64 ((rd_T24 t415 x10_2).f3))).setCell ⟨gb424, 4, none⟩ (.int .i64 ((rd_T24 t415 x10_2).f4)))) := ⟨by repeat (first | (with_reducible first | exact HB.out | apply below_alloc | apply pw_below_drewN | apply below_drew1 | refine below_set ?_ GE419.out | refine below_set ?_ GE424.out) | exact HB.out)⟩
                   (try clear HO_9)
                   (try clear HO_420002)
                   (try clear HO_420006)
                   (try clear BK419)
                   (try clear BK424)
                   (try clear HB)
                   generalize (((((w26.setCell ⟨gb424, 0, none⟩ (.int .i64 ((rd_T24 t415 x10_2).f0))).setCell ⟨gb424, 1, none⟩ (.int .i64 ((rd_T24 t415 x10_2).f1))).setCell ⟨gb424, 2, none⟩ (.int .i64 ((rd_T24 t415 x10_2).f2))).setCell ⟨gb424, 3, none⟩ (.int .i64 ((rd_T24 t415 x10_2).f3))).setCell ⟨gb424, 4, none⟩ (.int .i64 ((rd_T24 t415 x10_2).f4))) = w29 at n0_ n1_ n2_ n3_ n4_ n5_ ⊢
                   have HO_9 := n0_
                   have HO_420002 := n1_
                   have HO_420006 := n2_
                   have BK419 := n3_
                   have BK424 := n4_
                   have HB := n5_
                   clear n0_ n1_ n2_ n3_ n4_ n5_
                   have n0_ := Aside0.mk (Kd.R_drew HO_9.out)
                   have n1_ := Aside0.mk (Kd.R_drew HO_420002.out)
                   have n2_ := Aside0.mk (Kd.R_drew HO_420006.out)
                   have n3_ := Aside0.mk (blk_drew BK419.out)
                   have n4_ := Aside0.mk (blk_drew BK424.out)
                   have n5_ := Aside0.mk (below_drew1 HB.out)
                   clear HO_9
                   clear HO_420002
                   clear HO_420006
                   clear BK419
                   clear BK424
                   clear HB
                   have HO_9 := n0_
                   have HO_420002 := n1_
                   have HO_420006 := n2_
                   have BK419 := n3_
                   have BK424 := n4_
                   have HB := n5_
                   clear n0_ n1_ n2_ n3_ n4_ n5_
                   have p425 : 0 ≤ ((ji22) : Int) := of_decide_eq_true (by first | (with_reducible assumption) | assumption)
                   have q425 : (ji22) < (t415.length : Int) := of_decide_eq_true (by first | (with_reducible assumption) | assumption)
                   obtain ⟨ad425, e425, hx425_0, hx425_1, hx425_2, hx425_3, hx425_4⟩ := at_T24 (Kd.R_reads' HO_420006.out).2.2 (ji22) p425 q425
                   obtain rfl : ad423 = ad425 := (by injection e425)
                   replace p425 := eq_true p425
                   replace q425 := eq_true q425
                   refine start_ (n := 12) (S := fun w' => w'.cell? ⟨gb419, 0, none⟩ = some (.int .i64 t407) ∧ w'.cell? ⟨gb419, 1, none⟩ = some (.bool t408) ∧ w'.cell? ⟨gb419, 2, none⟩ = some (.slice Ao12 t409.length co12) ∧ w'.cell? ⟨gb419, 3, none⟩ = some (.int .i64 t412) ∧ w'.cell? ⟨gb419, 4, none⟩ = some (.int .i64 t413) ∧ w'.cell? ⟨gb419, 5, none⟩ = some (.int .i64 t414) ∧ w'.cell? ⟨gb419, 6, none⟩ = some (.slice (some ad423) t415.length co13) ∧ w'.cell? (ad423.add (((ji22)).toNat * 5)) = some (.int .i64 ((rd_T24 t415 (ji22)).f0)) ∧ w'.cell? ⟨(ad423.add (((ji22)).toNat * 5)).block, (ad423.add (((ji22)).toNat * 5)).off + 1, none⟩ = some (.int .i64 ((rd_T24 t415 (ji22)).f1)) ∧ w'.cell? ⟨(ad423.add (((ji22)).toNat * 5)).block, (ad423.add (((ji22)).toNat * 5)).off + 2, none⟩ = some (.int .i64 ((rd_T24 t415 (ji22)).f2)) ∧ w'.cell? ⟨(ad423.add (((ji22)).toNat * 5)).block, (ad423.add (((ji22)).toNat * 5)).off + 3, none⟩ = some (.int .i64 ((rd_T24 t415 (ji22)).f3)) ∧ w'.cell? ⟨(ad423.add (((ji22)).toNat * 5)).block, (ad423.add (((ji22)).toNat * 5)).off + 4, none⟩ = some (.int .i64 ((rd_T24 t415 (ji22)).f4))) (ds := []) #[false, false, false, false, false, false, false, false, false, false, false, false] (by kernel_rfl) rfl rfl ⟨(blk_cell BK419.out 0).trans rfl, (blk_cell BK419.out 1).trans rfl, (blk_cell BK419.out 2).trans rfl, (blk_cell BK419.out 3).trans rfl, (blk_cell BK419.out 4).trans rfl, (blk_cell BK419.out 5).trans rfl, (blk_cell BK419.out 6).trans rfl, hx425_0, hx425_1, hx425_2, hx425_3, hx425_4⟩ (fun hHeld => ?_); refine with_tabW cartouchelaw12_JudgeRing.tab13 cartouchelaw12_JudgeRing.bits13 (fun HT_ HW_ => ?_)
                   generalize w29.drew = w30 at HO_9 HO_420002 HO_420006 BK419 BK424 HB hx425_0 hx425_1 hx425_2 hx425_3 hx425_4 hHeld ⊢
                   refine pure_ (i := 0) (N := some 50) (v := ?_) (a' := ?_) #[true, false, false, false, false, false, false, false, false, false, false, false] rfl rfl (any_of HT_.out (by kernel_rfl)) (fun _ _ _ h => h) (Or.inl ⟨by rfl, ?_⟩) ?_ ?_
                   rotate_left
                   · intro w'
                     go_simp
                     with_reducible rfl
                   rotate_left
                   · simp only [Act.put, List.setIfInBounds_toArray, List.set_cons_zero, List.set_cons_succ, i64_w, i32_w]
                     rfl
                   refine pure_ (i := 2) (N := some 52) (v := ?_) (a' := ?_) #[true, false, true, false, false, false, false, false, false, false, false, false] rfl rfl (any_of HT_.out (by kernel_rfl)) (fun _ _ _ h => h) (Or.inl ⟨by rfl, ?_⟩) ?_ ?_
                   rotate_left
                   · intro w'
                     go_simp
                     with_reducible rfl
                   rotate_left
                   · simp only [Act.put, List.setIfInBounds_toArray, List.set_cons_zero, List.set_cons_succ, i64_w, i32_w]
                     rfl
                   refine pure_ (i := 3) (N := some 53) (v := ?_) (a' := ?_) #[true, false, true, true, false, false, false, false, false, false, false, false] rfl rfl (any_of HT_.out (by kernel_rfl)) (fun _ _ _ h => h) (Or.inl ⟨by rfl, ?_⟩) ?_ ?_
                   rotate_left
                   · intro w'
                     go_simp
                     with_reducible rfl
                   rotate_left
                   · simp only [Act.put, List.setIfInBounds_toArray, List.set_cons_zero, List.set_cons_succ, i64_w, i32_w]
                     rfl
                   refine pure_ (i := 4) (N := some 54) (v := ?_) (a' := ?_) #[true, false, true, true, true, false, false, false, false, false, false, false] rfl rfl (any_of HT_.out (by kernel_rfl)) (fun _ _ _ h => h) (Or.inl ⟨by rfl, ?_⟩) ?_ ?_
                   rotate_left
                   · intro w'
                     go_simp
                     with_reducible rfl
                   rotate_left
                   · simp only [Act.put, List.setIfInBounds_toArray, List.set_cons_zero, List.set_cons_succ, i64_w, i32_w]
                     rfl
                   refine take_ (i := 1) (N := some 51) (v := ?_) (a' := ?_) #[true, true, true, true, true, false, false, false, false, false, false, false] rfl rfl (take_ofW HT_.out HW_.out (by kernel_rfl)) (fun _ _ _ h => h) (Or.inl ⟨by rfl, ?_⟩) hHeld ?_ ?_
                   rotate_left
                   · rintro w' ⟨s0, s1, s2, s3, s4, s5, s6, s7, s8, s9, s10, s11⟩
                     go_simp
                     with_reducible rfl
                   rotate_left
                   · simp only [Act.put, List.setIfInBounds_toArray, List.set_cons_zero, List.set_cons_succ, i64_w, i32_w]
                     rfl
                   refine take_ (i := 5) (N := some 55) (v := ?_) (a' := ?_) #[true, true, true, true, true, true, false, false, false, false, false, false] rfl rfl (take_ofW HT_.out HW_.out (by kernel_rfl)) (fun _ _ _ h => h) (Or.inl ⟨by rfl, ?_⟩) hHeld ?_ ?_
                   rotate_left
                   · rintro w' ⟨s0, s1, s2, s3, s4, s5, s6, s7, s8, s9, s10, s11⟩
                     go_simp
                     with_reducible rfl
                   rotate_left
                   · simp only [Act.put, List.setIfInBounds_toArray, List.set_cons_zero, List.set_cons_succ, i64_w, i32_w]
                     rfl
                   refine pure_ (i := 6) (N := some 56) (v := ?_) (a' := ?_) #[true, true, true, true, true, true, true, false, false, false, false, false] rfl rfl (any_of HT_.out (by kernel_rfl)) (fun _ _ _ h => h) (Or.inl ⟨by rfl, ?_⟩) ?_ ?_
                   rotate_left
                   · intro w'
                     go_simp
                     with_reducible rfl
                   rotate_left
                   · simp only [Act.put, List.setIfInBounds_toArray, List.set_cons_zero, List.set_cons_succ, i64_w, i32_w]
                     rfl
                   refine pure_ (i := 7) (N := some 57) (v := ?_) (a' := ?_) #[true, true, true, true, true, true, true, true, false, false, false, false] rfl rfl (any_of HT_.out (by kernel_rfl)) (fun _ _ _ h => h) (Or.inl ⟨by rfl, ?_⟩) ?_ ?_
                   rotate_left
                   · intro w'
                     go_simp
                     with_reducible rfl
                   rotate_left
                   · simp only [Act.put, List.setIfInBounds_toArray, List.set_cons_zero, List.set_cons_succ, i64_w, i32_w]
                     rfl
                   refine pure_ (i := 8) (N := some 58) (v := ?_) (a' := ?_) #[true, true, true, true, true, true, true, true, true, false, false, false] rfl rfl (any_of HT_.out (by kernel_rfl)) (fun _ _ _ h => h) (Or.inl ⟨by rfl, ?_⟩) ?_ ?_
                   rotate_left
                   · intro w'
                     go_simp
                     with_reducible rfl
                   rotate_left
                   · simp only [Act.put, List.setIfInBounds_toArray, List.set_cons_zero, List.set_cons_succ, i64_w, i32_w]
                     rfl
                   refine take_ (i := 9) (N := some 59) (v := ?_) (a' := ?_) #[true, true, true, true, true, true, true, true, true, true, false, false] rfl rfl (take_ofW HT_.out HW_.out (by kernel_rfl)) (fun _ _ _ h => h) (Or.inl ⟨by rfl, ?_⟩) hHeld ?_ ?_
                   rotate_left
                   · rintro w' ⟨s0, s1, s2, s3, s4, s5, s6, s7, s8, s9, s10, s11⟩
                     go_simp
                     with_reducible rfl
                   rotate_left
                   · simp only [Act.put, List.setIfInBounds_toArray, List.set_cons_zero, List.set_cons_succ, i64_w, i32_w]
                     rfl
                   refine one_ (i := 10) (N := some 12) #[true, true, true, true, true, true, true, true, true, true, true, false] rfl rfl (one_of HT_.out (by kernel_rfl)) (by decide) (fun K hK => ?_)
                   refine box_step ?hg (N := 12) ?hd (cs := #[.int .i64 0, .int .i64 0, .int .i64 0, .int .i64 0, .int .i64 0]) (t := 24) ?hr ?_; (case hd => rfl); (case hg => rfl); (case hr => first | (go_simp; done) | (go_simp; rfl))
                   intro gb426 hg w31 hbox hb
                   have HS7_ := (hb.cell (World.block_lt_of_cell? _ _ (hHeld.2.2.2.2.2.2.2.1))).trans (hHeld.2.2.2.2.2.2.2.1)
                   have HS8_ := (hb.cell (World.block_lt_of_cell? _ _ (hHeld.2.2.2.2.2.2.2.2.1))).trans (hHeld.2.2.2.2.2.2.2.2.1)
                   have HS9_ := (hb.cell (World.block_lt_of_cell? _ _ (hHeld.2.2.2.2.2.2.2.2.2.1))).trans (hHeld.2.2.2.2.2.2.2.2.2.1)
                   have HS10_ := (hb.cell (World.block_lt_of_cell? _ _ (hHeld.2.2.2.2.2.2.2.2.2.2.1))).trans (hHeld.2.2.2.2.2.2.2.2.2.2.1)
                   have HS11_ := (hb.cell (World.block_lt_of_cell? _ _ (hHeld.2.2.2.2.2.2.2.2.2.2.2))).trans (hHeld.2.2.2.2.2.2.2.2.2.2.2)
                   have n0_ := Aside0.mk (Kd.R_below (Kd.R_elderB (by (with_reducible repeat (first | apply Kd.R_alloc | apply Kd.R_drewN | apply Kd.R_drew)); exact HO_9.out) gb426 (Nat.le_of_eq hg.symm)) hb)
                   have n1_ := Aside0.mk (Kd.R_below (by (with_reducible repeat (first | apply Kd.R_alloc | apply Kd.R_drewN | apply Kd.R_drew)); exact HO_420002.out) hb)
                   have n2_ := Aside0.mk (Kd.R_below (Kd.R_elderB (by (with_reducible repeat (first | apply Kd.R_alloc | apply Kd.R_drewN | apply Kd.R_drew)); exact HO_420006.out) gb426 (Nat.le_of_eq hg.symm)) hb)
                   have n3_ := Aside0.mk (blk_below (g := gb419) (o := .cells #[.int .i64 t407, .bool t408, .slice Ao12 t409.length co12, .int .i64 t412, .int .i64 t413, .int .i64 t414, .slice (some ad423) t415.length co13] 42 (0, 0)) (by (with_reducible repeat (first | refine blk_drewN ?_ _ | refine blk_drew ?_ | refine blk_alloc ?_ _)); exact BK419.out) hb)
                   have n4_ := Aside0.mk (blk_below (g := gb424) (o := .cells #[.int .i64 ((rd_T24 t415 x10_2).f0), .int .i64 ((rd_T24 t415 x10_2).f1), .int .i64 ((rd_T24 t415 x10_2).f2), .int .i64 ((rd_T24 t415 x10_2).f3), .int .i64 ((rd_T24 t415 x10_2).f4)] 24 (0, 0)) (by (with_reducible repeat (first | refine blk_drewN ?_ _ | refine blk_drew ?_ | refine blk_alloc ?_ _)); exact BK424.out) hb)
                   have n5_ := Aside0.mk (below_step (by repeat (first | (with_reducible first | exact HB.out | apply below_alloc | apply pw_below_drewN | apply below_drew1 | refine below_set ?_ GE419.out | refine below_set ?_ GE424.out) | exact HB.out)) hb)
                   have n6_ := Aside0.mk (hbox)
                   have n7_ := Aside0.mk ((by rw [hg]; exact (below_size (by repeat (first | (with_reducible first | exact HB.out | apply below_alloc | apply pw_below_drewN | apply below_drew1 | refine below_set ?_ GE419.out | refine below_set ?_ GE424.out) | exact HB.out))) : w.heap.size ≤ gb426))
                   have n8_ := Aside0.mk ((by rw [hg]; exact (below_size (by repeat (first | (with_reducible first | exact HB.out | apply below_alloc | apply pw_below_drewN | apply below_drew1 | refine below_set ?_ GE419.out | refine below_set ?_ GE424.out) | exact HB.out))) : w.heap.size ≤ gb426))
                   have n9_ := Aside0.mk ((by rw [hg]; exact Nat.ne_of_lt (blk_lt (g := gb419) (o := .cells #[.int .i64 t407, .bool t408, .slice Ao12 t409.length co12, .int .i64 t412, .int .i64 t413, .int .i64 t414, .slice (some ad423) t415.length co13] 42 (0, 0)) (by (with_reducible repeat (first | refine blk_drewN ?_ _ | refine blk_drew ?_ | refine blk_alloc ?_ _)); exact BK419.out)) : gb419 ≠ gb426))
                   have n10_ := Aside0.mk ((by rw [hg]; exact Nat.ne_of_gt (blk_lt (g := gb419) (o := .cells #[.int .i64 t407, .bool t408, .slice Ao12 t409.length co12, .int .i64 t412, .int .i64 t413, .int .i64 t414, .slice (some ad423) t415.length co13] 42 (0, 0)) (by (with_reducible repeat (first | refine blk_drewN ?_ _ | refine blk_drew ?_ | refine blk_alloc ?_ _)); exact BK419.out)) : gb426 ≠ gb419))
                   have n11_ := Aside0.mk ((by rw [hg]; exact Nat.ne_of_lt (blk_lt (g := gb424) (o := .cells #[.int .i64 ((rd_T24 t415 x10_2).f0), .int .i64 ((rd_T24 t415 x10_2).f1), .int .i64 ((rd_T24 t415 x10_2).f2), .int .i64 ((rd_T24 t415 x10_2).f3), .int .i64 ((rd_T24 t415 x10_2).f4)] 24 (0, 0)) (by (with_reducible repeat (first | refine blk_drewN ?_ _ | refine blk_drew ?_ | refine blk_alloc ?_ _)); exact BK424.out)) : gb424 ≠ gb426))
                   have n12_ := Aside0.mk ((by rw [hg]; exact Nat.ne_of_gt (blk_lt (g := gb424) (o := .cells #[.int .i64 ((rd_T24 t415 x10_2).f0), .int .i64 ((rd_T24 t415 x10_2).f1), .int .i64 ((rd_T24 t415 x10_2).f2), .int .i64 ((rd_T24 t415 x10_2).f3), .int .i64 ((rd_T24 t415 x10_2).f4)] 24 (0, 0)) (by (with_reducible repeat (first | refine blk_drewN ?_ _ | refine blk_drew ?_ | refine blk_alloc ?_ _)); exact BK424.out)) : gb426 ≠ gb424))
                   clear HO_9
                   clear HO_420002
                   clear HO_420006
                   clear BK419
                   clear BK424
                   clear HB
                   have HO_9 := n0_
                   have HO_420002 := n1_
                   have HO_420006 := n2_
                   have BK419 := n3_
                   have BK424 := n4_
                   have HB := n5_
                   have BK426 := n6_
                   have GW426 := n7_
                   have GE426 := n8_
                   have NB419_426 := n9_
                   have NB426_419 := n10_
                   have NB424_426 := n11_
                   have NB426_424 := n12_
                   clear n0_ n1_ n2_ n3_ n4_ n5_ n6_ n7_ n8_ n9_ n10_ n11_ n12_
                   clear hb hbox hg
                   refine hK.out _ _ ⟨(blk_cell BK419.out 0).trans rfl, (blk_cell BK419.out 1).trans rfl, (blk_cell BK419.out 2).trans rfl, (blk_cell BK419.out 3).trans rfl, (blk_cell BK419.out 4).trans rfl, (blk_cell BK419.out 5).trans rfl, (blk_cell BK419.out 6).trans rfl, HS7_, HS8_, HS9_, HS10_, HS11_⟩ (fun hHeld => ?_)
                   clear hK K
                   refine norm_ (a' := ?_) ?_ ?_
                   rotate_left
                   · show Act.put _ (some 12) _ = _
                     simp only [Act.put, List.setIfInBounds_toArray, List.set_cons_zero, List.set_cons_succ, i64_w, i32_w]
                     rfl
                   refine one_ (i := 11) (N := none) #[true, true, true, true, true, true, true, true, true, true, true, true] rfl rfl (one_of HT_.out (by kernel_rfl)) (by decide) (fun K hK => ?_)
                   have hs32 : w31.cell? ⟨gb426, 0, none⟩ = some (.int .i64 0) := (blk_cell BK426.out 0).trans rfl
                   have hfs32 := blk_frozen BK426.out 0
                   have hns32_0 := NB419_426.out
                   have hns32_1 := NB424_426.out
                   have hms32_0 := NB426_419.out
                   have hms32_1 := NB426_424.out
                   have hs33 : w31.cell? ⟨gb426, 1, none⟩ = some (.int .i64 0) := (blk_cell BK426.out 1).trans rfl
                   have hfs33 := blk_frozen BK426.out 1
                   have hns33_0 := NB419_426.out
                   have hns33_1 := NB424_426.out
                   have hms33_0 := NB426_419.out
                   have hms33_1 := NB426_424.out
                   have hs34 : w31.cell? ⟨gb426, 2, none⟩ = some (.int .i64 0) := (blk_cell BK426.out 2).trans rfl
                   have hfs34 := blk_frozen BK426.out 2
                   have hns34_0 := NB419_426.out
                   have hns34_1 := NB424_426.out
                   have hms34_0 := NB426_419.out
                   have hms34_1 := NB426_424.out
                   have hs35 : w31.cell? ⟨gb426, 3, none⟩ = some (.int .i64 0) := (blk_cell BK426.out 3).trans rfl
                   have hfs35 := blk_frozen BK426.out 3
                   have hns35_0 := NB419_426.out
                   have hns35_1 := NB424_426.out
                   have hms35_0 := NB426_419.out
                   have hms35_1 := NB426_424.out
                   have hs36 : w31.cell? ⟨gb426, 4, none⟩ = some (.int .i64 0) := (blk_cell BK426.out 4).trans rfl
                   have hfs36 := blk_frozen BK426.out 4
                   have hns36_0 := NB419_426.out
                   have hns36_1 := NB424_426.out
                   have hms36_0 := NB426_419.out
                   have hms36_1 := NB426_424.out
                   refine skip_ (w1 := ?_) (by rfl) rfl ?_ ?_
                   rotate_left
                   · go_simp
                     rfl
                   refine hK.out _ _ ⟨((cell_far (p := ⟨gb426, _, none⟩) NB419_426.out _).trans (((cell_far (p := ⟨gb426, _, none⟩) NB419_426.out _).trans (((cell_far (p := ⟨gb426, _, none⟩) NB419_426.out _).trans (((cell_far (p := ⟨gb426, _, none⟩) NB419_426.out _).trans (((cell_far (p := ⟨gb426, _, none⟩) NB419_426.out _).trans (hHeld.1)))))))))), ((cell_far (p := ⟨gb426, _, none⟩) NB419_426.out _).trans (((cell_far (p := ⟨gb426, _, none⟩) NB419_426.out _).trans (((cell_far (p := ⟨gb426, _, none⟩) NB419_426.out _).trans (((cell_far (p := ⟨gb426, _, none⟩) NB419_426.out _).trans (((cell_far (p := ⟨gb426, _, none⟩) NB419_426.out _).trans (hHeld.2.1)))))))))), ((cell_far (p := ⟨gb426, _, none⟩) NB419_426.out _).trans (((cell_far (p := ⟨gb426, _, none⟩) NB419_426.out _).trans (((cell_far (p := ⟨gb426, _, none⟩) NB419_426.out _).trans (((cell_far (p := ⟨gb426, _, none⟩) NB419_426.out _).trans (((cell_far (p := ⟨gb426, _, none⟩) NB419_426.out _).trans (hHeld.2.2.1)))))))))), ((cell_far (p := ⟨gb426, _, none⟩) NB419_426.out _).trans (((cell_far (p := ⟨gb426, _, none⟩) NB419_426.out _).trans (((cell_far (p := ⟨gb426, _, none⟩) NB419_426.out _).trans (((cell_far (p := ⟨gb426, _, none⟩) NB419_426.out _).trans (((cell_far (p := ⟨gb426, _, none⟩) NB419_426.out _).trans (hHeld.2.2.2.1)))))))))), ((cell_far (p := ⟨gb426, _, none⟩) NB419_426.out _).trans (((cell_far (p := ⟨gb426, _, none⟩) NB419_426.out _).trans (((cell_far (p := ⟨gb426, _, none⟩) NB419_426.out _).trans (((cell_far (p := ⟨gb426, _, none⟩) NB419_426.out _).trans (((cell_far (p := ⟨gb426, _, none⟩) NB419_426.out _).trans (hHeld.2.2.2.2.1)))))))))), ((cell_far (p := ⟨gb426, _, none⟩) NB419_426.out _).trans (((cell_far (p := ⟨gb426, _, none⟩) NB419_426.out _).trans (((cell_far (p := ⟨gb426, _, none⟩) NB419_426.out _).trans (((cell_far (p := ⟨gb426, _, none⟩) NB419_426.out _).trans (((cell_far (p := ⟨gb426, _, none⟩) NB419_426.out _).trans (hHeld.2.2.2.2.2.1)))))))))), ((cell_far (p := ⟨gb426, _, none⟩) NB419_426.out _).trans (((cell_far (p := ⟨gb426, _, none⟩) NB419_426.out _).trans (((cell_far (p := ⟨gb426, _, none⟩) NB419_426.out _).trans (((cell_far (p := ⟨gb426, _, none⟩) NB419_426.out _).trans (((cell_far (p := ⟨gb426, _, none⟩) NB419_426.out _).trans (hHeld.2.2.2.2.2.2.1)))))))))), ((cell_far (p := ⟨gb426, _, none⟩) (by first | exact Kd.own_blk (Kd.R_away HO_420006.out (fun _ hk => hk.2)) | (rw [add_block]; exact Kd.own_blk (Kd.R_away HO_420006.out (fun _ hk => hk.2))) | (show (Addr.add _ _).block ≠ _; rw [add_block]; exact Kd.own_blk (Kd.R_away HO_420006.out (fun _ hk => hk.2))) | (dsimp only; exact Kd.own_blk (Kd.R_away HO_420006.out (fun _ hk => hk.2)))) _).trans (((cell_far (p := ⟨gb426, _, none⟩) (by first | exact Kd.own_blk (Kd.R_away HO_420006.out (fun _ hk => hk.2)) | (rw [add_block]; exact Kd.own_blk (Kd.R_away HO_420006.out (fun _ hk => hk.2))) | (show (Addr.add _ _).block ≠ _; rw [add_block]; exact Kd.own_blk (Kd.R_away HO_420006.out (fun _ hk => hk.2))) | (dsimp only; exact Kd.own_blk (Kd.R_away HO_420006.out (fun _ hk => hk.2)))) _).trans (((cell_far (p := ⟨gb426, _, none⟩) (by first | exact Kd.own_blk (Kd.R_away HO_420006.out (fun _ hk => hk.2)) | (rw [add_block]; exact Kd.own_blk (Kd.R_away HO_420006.out (fun _ hk => hk.2))) | (show (Addr.add _ _).block ≠ _; rw [add_block]; exact Kd.own_blk (Kd.R_away HO_420006.out (fun _ hk => hk.2))) | (dsimp only; exact Kd.own_blk (Kd.R_away HO_420006.out (fun _ hk => hk.2)))) _).trans (((cell_far (p := ⟨gb426, _, none⟩) (by first | exact Kd.own_blk (Kd.R_away HO_420006.out (fun _ hk => hk.2)) | (rw [add_block]; exact Kd.own_blk (Kd.R_away HO_420006.out (fun _ hk => hk.2))) | (show (Addr.add _ _).block ≠ _; rw [add_block]; exact Kd.own_blk (Kd.R_away HO_420006.out (fun _ hk => hk.2))) | (dsimp only; exact Kd.own_blk (Kd.R_away HO_420006.out (fun _ hk => hk.2)))) _).trans (((cell_far (p := ⟨gb426, _, none⟩) (by first | exact Kd.own_blk (Kd.R_away HO_420006.out (fun _ hk => hk.2)) | (rw [add_block]; exact Kd.own_blk (Kd.R_away HO_420006.out (fun _ hk => hk.2))) | (show (Addr.add _ _).block ≠ _; rw [add_block]; exact Kd.own_blk (Kd.R_away HO_420006.out (fun _ hk => hk.2))) | (dsimp only; exact Kd.own_blk (Kd.R_away HO_420006.out (fun _ hk => hk.2)))) _).trans (hHeld.2.2.2.2.2.2.2.1)))))))))), ((cell_far (p := ⟨gb426, _, none⟩) (by first | exact Kd.own_blk (Kd.R_away HO_420006.out (fun _ hk => hk.2)) | (rw [add_block]; exact Kd.own_blk (Kd.R_away HO_420006.out (fun _ hk => hk.2))) | (show (Addr.add _ _).block ≠ _; rw [add_block]; exact Kd.own_blk (Kd.R_away HO_420006.out (fun _ hk => hk.2))) | (dsimp only; exact Kd.own_blk (Kd.R_away HO_420006.out (fun _ hk => hk.2)))) _).trans (((cell_far (p := ⟨gb426, _, none⟩) (by first | exact Kd.own_blk (Kd.R_away HO_420006.out (fun _ hk => hk.2)) | (rw [add_block]; exact Kd.own_blk (Kd.R_away HO_420006.out (fun _ hk => hk.2))) | (show (Addr.add _ _).block ≠ _; rw [add_block]; exact Kd.own_blk (Kd.R_away HO_420006.out (fun _ hk => hk.2))) | (dsimp only; exact Kd.own_blk (Kd.R_away HO_420006.out (fun _ hk => hk.2)))) _).trans (((cell_far (p := ⟨gb426, _, none⟩) (by first | exact Kd.own_blk (Kd.R_away HO_420006.out (fun _ hk => hk.2)) | (rw [add_block]; exact Kd.own_blk (Kd.R_away HO_420006.out (fun _ hk => hk.2))) | (show (Addr.add _ _).block ≠ _; rw [add_block]; exact Kd.own_blk (Kd.R_away HO_420006.out (fun _ hk => hk.2))) | (dsimp only; exact Kd.own_blk (Kd.R_away HO_420006.out (fun _ hk => hk.2)))) _).trans (((cell_far (p := ⟨gb426, _, none⟩) (by first | exact Kd.own_blk (Kd.R_away HO_420006.out (fun _ hk => hk.2)) | (rw [add_block]; exact Kd.own_blk (Kd.R_away HO_420006.out (fun _ hk => hk.2))) | (show (Addr.add _ _).block ≠ _; rw [add_block]; exact Kd.own_blk (Kd.R_away HO_420006.out (fun _ hk => hk.2))) | (dsimp only; exact Kd.own_blk (Kd.R_away HO_420006.out (fun _ hk => hk.2)))) _).trans (((cell_far (p := ⟨gb426, _, none⟩) (by first | exact Kd.own_blk (Kd.R_away HO_420006.out (fun _ hk => hk.2)) | (rw [add_block]; exact Kd.own_blk (Kd.R_away HO_420006.out (fun _ hk => hk.2))) | (show (Addr.add _ _).block ≠ _; rw [add_block]; exact Kd.own_blk (Kd.R_away HO_420006.out (fun _ hk => hk.2))) | (dsimp only; exact Kd.own_blk (Kd.R_away HO_420006.out (fun _ hk => hk.2)))) _).trans (hHeld.2.2.2.2.2.2.2.2.1)))))))))), ((cell_far (p := ⟨gb426, _, none⟩) (by first | exact Kd.own_blk (Kd.R_away HO_420006.out (fun _ hk => hk.2)) | (rw [add_block]; exact Kd.own_blk (Kd.R_away HO_420006.out (fun _ hk => hk.2))) | (show (Addr.add _ _).block ≠ _; rw [add_block]; exact Kd.own_blk (Kd.R_away HO_420006.out (fun _ hk => hk.2))) | (dsimp only; exact Kd.own_blk (Kd.R_away HO_420006.out (fun _ hk => hk.2)))) _).trans (((cell_far (p := ⟨gb426, _, none⟩) (by first | exact Kd.own_blk (Kd.R_away HO_420006.out (fun _ hk => hk.2)) | (rw [add_block]; exact Kd.own_blk (Kd.R_away HO_420006.out (fun _ hk => hk.2))) | (show (Addr.add _ _).block ≠ _; rw [add_block]; exact Kd.own_blk (Kd.R_away HO_420006.out (fun _ hk => hk.2))) | (dsimp only; exact Kd.own_blk (Kd.R_away HO_420006.out (fun _ hk => hk.2)))) _).trans (((cell_far (p := ⟨gb426, _, none⟩) (by first | exact Kd.own_blk (Kd.R_away HO_420006.out (fun _ hk => hk.2)) | (rw [add_block]; exact Kd.own_blk (Kd.R_away HO_420006.out (fun _ hk => hk.2))) | (show (Addr.add _ _).block ≠ _; rw [add_block]; exact Kd.own_blk (Kd.R_away HO_420006.out (fun _ hk => hk.2))) | (dsimp only; exact Kd.own_blk (Kd.R_away HO_420006.out (fun _ hk => hk.2)))) _).trans (((cell_far (p := ⟨gb426, _, none⟩) (by first | exact Kd.own_blk (Kd.R_away HO_420006.out (fun _ hk => hk.2)) | (rw [add_block]; exact Kd.own_blk (Kd.R_away HO_420006.out (fun _ hk => hk.2))) | (show (Addr.add _ _).block ≠ _; rw [add_block]; exact Kd.own_blk (Kd.R_away HO_420006.out (fun _ hk => hk.2))) | (dsimp only; exact Kd.own_blk (Kd.R_away HO_420006.out (fun _ hk => hk.2)))) _).trans (((cell_far (p := ⟨gb426, _, none⟩) (by first | exact Kd.own_blk (Kd.R_away HO_420006.out (fun _ hk => hk.2)) | (rw [add_block]; exact Kd.own_blk (Kd.R_away HO_420006.out (fun _ hk => hk.2))) | (show (Addr.add _ _).block ≠ _; rw [add_block]; exact Kd.own_blk (Kd.R_away HO_420006.out (fun _ hk => hk.2))) | (dsimp only; exact Kd.own_blk (Kd.R_away HO_420006.out (fun _ hk => hk.2)))) _).trans (hHeld.2.2.2.2.2.2.2.2.2.1)))))))))), ((cell_far (p := ⟨gb426, _, none⟩) (by first | exact Kd.own_blk (Kd.R_away HO_420006.out (fun _ hk => hk.2)) | (rw [add_block]; exact Kd.own_blk (Kd.R_away HO_420006.out (fun _ hk => hk.2))) | (show (Addr.add _ _).block ≠ _; rw [add_block]; exact Kd.own_blk (Kd.R_away HO_420006.out (fun _ hk => hk.2))) | (dsimp only; exact Kd.own_blk (Kd.R_away HO_420006.out (fun _ hk => hk.2)))) _).trans (((cell_far (p := ⟨gb426, _, none⟩) (by first | exact Kd.own_blk (Kd.R_away HO_420006.out (fun _ hk => hk.2)) | (rw [add_block]; exact Kd.own_blk (Kd.R_away HO_420006.out (fun _ hk => hk.2))) | (show (Addr.add _ _).block ≠ _; rw [add_block]; exact Kd.own_blk (Kd.R_away HO_420006.out (fun _ hk => hk.2))) | (dsimp only; exact Kd.own_blk (Kd.R_away HO_420006.out (fun _ hk => hk.2)))) _).trans (((cell_far (p := ⟨gb426, _, none⟩) (by first | exact Kd.own_blk (Kd.R_away HO_420006.out (fun _ hk => hk.2)) | (rw [add_block]; exact Kd.own_blk (Kd.R_away HO_420006.out (fun _ hk => hk.2))) | (show (Addr.add _ _).block ≠ _; rw [add_block]; exact Kd.own_blk (Kd.R_away HO_420006.out (fun _ hk => hk.2))) | (dsimp only; exact Kd.own_blk (Kd.R_away HO_420006.out (fun _ hk => hk.2)))) _).trans (((cell_far (p := ⟨gb426, _, none⟩) (by first | exact Kd.own_blk (Kd.R_away HO_420006.out (fun _ hk => hk.2)) | (rw [add_block]; exact Kd.own_blk (Kd.R_away HO_420006.out (fun _ hk => hk.2))) | (show (Addr.add _ _).block ≠ _; rw [add_block]; exact Kd.own_blk (Kd.R_away HO_420006.out (fun _ hk => hk.2))) | (dsimp only; exact Kd.own_blk (Kd.R_away HO_420006.out (fun _ hk => hk.2)))) _).trans (((cell_far (p := ⟨gb426, _, none⟩) (by first | exact Kd.own_blk (Kd.R_away HO_420006.out (fun _ hk => hk.2)) | (rw [add_block]; exact Kd.own_blk (Kd.R_away HO_420006.out (fun _ hk => hk.2))) | (show (Addr.add _ _).block ≠ _; rw [add_block]; exact Kd.own_blk (Kd.R_away HO_420006.out (fun _ hk => hk.2))) | (dsimp only; exact Kd.own_blk (Kd.R_away HO_420006.out (fun _ hk => hk.2)))) _).trans (hHeld.2.2.2.2.2.2.2.2.2.2.1)))))))))), ((cell_far (p := ⟨gb426, _, none⟩) (by first | exact Kd.own_blk (Kd.R_away HO_420006.out (fun _ hk => hk.2)) | (rw [add_block]; exact Kd.own_blk (Kd.R_away HO_420006.out (fun _ hk => hk.2))) | (show (Addr.add _ _).block ≠ _; rw [add_block]; exact Kd.own_blk (Kd.R_away HO_420006.out (fun _ hk => hk.2))) | (dsimp only; exact Kd.own_blk (Kd.R_away HO_420006.out (fun _ hk => hk.2)))) _).trans (((cell_far (p := ⟨gb426, _, none⟩) (by first | exact Kd.own_blk (Kd.R_away HO_420006.out (fun _ hk => hk.2)) | (rw [add_block]; exact Kd.own_blk (Kd.R_away HO_420006.out (fun _ hk => hk.2))) | (show (Addr.add _ _).block ≠ _; rw [add_block]; exact Kd.own_blk (Kd.R_away HO_420006.out (fun _ hk => hk.2))) | (dsimp only; exact Kd.own_blk (Kd.R_away HO_420006.out (fun _ hk => hk.2)))) _).trans (((cell_far (p := ⟨gb426, _, none⟩) (by first | exact Kd.own_blk (Kd.R_away HO_420006.out (fun _ hk => hk.2)) | (rw [add_block]; exact Kd.own_blk (Kd.R_away HO_420006.out (fun _ hk => hk.2))) | (show (Addr.add _ _).block ≠ _; rw [add_block]; exact Kd.own_blk (Kd.R_away HO_420006.out (fun _ hk => hk.2))) | (dsimp only; exact Kd.own_blk (Kd.R_away HO_420006.out (fun _ hk => hk.2)))) _).trans (((cell_far (p := ⟨gb426, _, none⟩) (by first | exact Kd.own_blk (Kd.R_away HO_420006.out (fun _ hk => hk.2)) | (rw [add_block]; exact Kd.own_blk (Kd.R_away HO_420006.out (fun _ hk => hk.2))) | (show (Addr.add _ _).block ≠ _; rw [add_block]; exact Kd.own_blk (Kd.R_away HO_420006.out (fun _ hk => hk.2))) | (dsimp only; exact Kd.own_blk (Kd.R_away HO_420006.out (fun _ hk => hk.2)))) _).trans (((cell_far (p := ⟨gb426, _, none⟩) (by first | exact Kd.own_blk (Kd.R_away HO_420006.out (fun _ hk => hk.2)) | (rw [add_block]; exact Kd.own_blk (Kd.R_away HO_420006.out (fun _ hk => hk.2))) | (show (Addr.add _ _).block ≠ _; rw [add_block]; exact Kd.own_blk (Kd.R_away HO_420006.out (fun _ hk => hk.2))) | (dsimp only; exact Kd.own_blk (Kd.R_away HO_420006.out (fun _ hk => hk.2)))) _).trans (hHeld.2.2.2.2.2.2.2.2.2.2.2))))))))))⟩ (fun hHeld => ?_)
                   clear hK K
                   refine done_ (done_of HT_.out (by kernel_rfl)) ?_
                   try go_wp2
                   go_loopg [13, 14] k2 (fun kq v13 v14 w' => ∃ (x13_3 : Bool) (x14_3 : Int), v13 = .bool x13_3 ∧ v14 = .int .i64 x14_3 ∧ Aside0 (cartouchelaw12_JudgeRing.l1 kq a1 t405 t420 x10_2 x13_3 x14_3 t407 t408 t409 t412 t413 t414 t415 ((rd_T24 t415 x10_2).f0) ((rd_T24 t415 x10_2).f1) ((rd_T24 t415 x10_2).f2) ((rd_T24 t415 x10_2).f3) ((rd_T24 t415 x10_2).f4) ((rd_T24 t415 (ji22)).f0) ((rd_T24 t415 (ji22)).f1) ((rd_T24 t415 (ji22)).f2) ((rd_T24 t415 (ji22)).f3) ((rd_T24 t415 (ji22)).f4) = some r) ∧ Aside0 (kq ≤ k2) ∧ Aside0 (Kd.R k24 24 w' w.heap.size (fun k_ => some k_ ≠ ((.slice (some ad423) t415.length co13) : Value).ownBlock ∧ k_ ≠ gb424 ∧ k_ ≠ gb426) v421 t420) ∧ Aside0 (Kd.R (Kd.int .i64) 3 w' w.heap.size (fun _ => True) (.slice Ao12 t409.length co12) t409) ∧ Aside0 (Kd.R k24 24 w' w.heap.size (fun k_ => some k_ ≠ (v421 : Value).ownBlock ∧ k_ ≠ gb424 ∧ k_ ≠ gb426) (.slice (some ad423) t415.length co13) t415) ∧ Aside0 (w'.heap[gb419]? = some (.cells #[.int .i64 t407, .bool t408, (.slice Ao12 t409.length co12), .int .i64 t412, .int .i64 t413, .int .i64 t414, (.slice (some ad423) t415.length co13)] 42 (0, 0))) ∧ Aside0 (w'.heap[gb424]? = some (.cells #[.int .i64 ((rd_T24 t415 x10_2).f0), .int .i64 ((rd_T24 t415 x10_2).f1), .int .i64 ((rd_T24 t415 x10_2).f2), .int .i64 ((rd_T24 t415 x10_2).f3), .int .i64 ((rd_T24 t415 x10_2).f4)] 24 (0, 0))) ∧ Aside0 (w'.heap[gb426]? = some (.cells #[.int .i64 ((rd_T24 t415 (ji22)).f0), .int .i64 ((rd_T24 t415 (ji22)).f1), .int .i64 ((rd_T24 t415 (ji22)).f2), .int .i64 ((rd_T24 t415 (ji22)).f3), .int .i64 ((rd_T24 t415 (ji22)).f4)] 24 (0, 0))) ∧ Aside0 (Below w.heap.size w w'))
                   case atStart => exact ⟨(false), (0), (by first | rfl | (simp; done) | (simp [*]; done)), (by first | rfl | (simp; done) | (simp [*]; done)), H', ⟨Nat.le_refl _⟩, ⟨by (with_reducible repeat (first | apply Kd.R_alloc | apply Kd.R_drewN | apply Kd.R_drew)); exact Kd.R_mono (Kd.R_far (p := ⟨gb426, 4, none⟩) (Kd.R_far (p := ⟨gb426, 3, none⟩) (Kd.R_far (p := ⟨gb426, 2, none⟩) (Kd.R_far (p := ⟨gb426, 1, none⟩) (Kd.R_far (p := ⟨gb426, 0, none⟩) (Kd.R_mono HO_9.out (fun k_ hk => (⟨hk, hk.2⟩ : _ ∧ k_ ≠ gb426))) (fun _ hk => hk.2) (.int .i64 ((rd_T24 t415 (ji22)).f0))) (fun _ hk => hk.2) (.int .i64 ((rd_T24 t415 (ji22)).f1))) (fun _ hk => hk.2) (.int .i64 ((rd_T24 t415 (ji22)).f2))) (fun _ hk => hk.2) (.int .i64 ((rd_T24 t415 (ji22)).f3))) (fun _ hk => hk.2) (.int .i64 ((rd_T24 t415 (ji22)).f4))) (fun _ hk => ⟨hk.1.1.1, ⟨hk.1.1.2, hk.1.2⟩⟩)⟩, ⟨by (with_reducible repeat (first | apply Kd.R_alloc | apply Kd.R_drewN | apply Kd.R_drew)); exact Kd.R_mono (Kd.R_far (p := ⟨gb426, 4, none⟩) (Kd.R_far (p := ⟨gb426, 3, none⟩) (Kd.R_far (p := ⟨gb426, 2, none⟩) (Kd.R_far (p := ⟨gb426, 1, none⟩) (Kd.R_far (p := ⟨gb426, 0, none⟩) (Kd.R_types HO_420002.out BK426.out (by decide)) (fun _ hk => hk.2) (.int .i64 ((rd_T24 t415 (ji22)).f0))) (fun _ hk => hk.2) (.int .i64 ((rd_T24 t415 (ji22)).f1))) (fun _ hk => hk.2) (.int .i64 ((rd_T24 t415 (ji22)).f2))) (fun _ hk => hk.2) (.int .i64 ((rd_T24 t415 (ji22)).f3))) (fun _ hk => hk.2) (.int .i64 ((rd_T24 t415 (ji22)).f4))) (fun _ hk => trivial)⟩, ⟨by (with_reducible repeat (first | apply Kd.R_alloc | apply Kd.R_drewN | apply Kd.R_drew)); exact Kd.R_mono (Kd.R_far (p := ⟨gb426, 4, none⟩) (Kd.R_far (p := ⟨gb426, 3, none⟩) (Kd.R_far (p := ⟨gb426, 2, none⟩) (Kd.R_far (p := ⟨gb426, 1, none⟩) (Kd.R_far (p := ⟨gb426, 0, none⟩) (Kd.R_mono HO_420006.out (fun k_ hk => (⟨hk, hk.2⟩ : _ ∧ k_ ≠ gb426))) (fun _ hk => hk.2) (.int .i64 ((rd_T24 t415 (ji22)).f0))) (fun _ hk => hk.2) (.int .i64 ((rd_T24 t415 (ji22)).f1))) (fun _ hk => hk.2) (.int .i64 ((rd_T24 t415 (ji22)).f2))) (fun _ hk => hk.2) (.int .i64 ((rd_T24 t415 (ji22)).f3))) (fun _ hk => hk.2) (.int .i64 ((rd_T24 t415 (ji22)).f4))) (fun _ hk => ⟨hk.1.1.1, ⟨hk.1.1.2, hk.1.2⟩⟩)⟩, ⟨by (with_reducible repeat (first | refine blk_drewN ?_ _ | refine blk_drew ?_ | refine blk_alloc ?_ _)); refine blk_far ?_ NB419_426.out _; (with_reducible repeat (first | refine blk_drewN ?_ _ | refine blk_drew ?_ | refine blk_alloc ?_ _)); refine blk_far ?_ NB419_426.out _; (with_reducible repeat (first | refine blk_drewN ?_ _ | refine blk_drew ?_ | refine blk_alloc ?_ _)); refine blk_far ?_ NB419_426.out _; (with_reducible repeat (first | refine blk_drewN ?_ _ | refine blk_drew ?_ | refine blk_alloc ?_ _)); refine blk_far ?_ NB419_426.out _; (with_reducible repeat (first | refine blk_drewN ?_ _ | refine blk_drew ?_ | refine blk_alloc ?_ _)); refine blk_far ?_ NB419_426.out _; (with_reducible repeat (first | refine blk_drewN ?_ _ | refine blk_drew ?_ | refine blk_alloc ?_ _)); exact BK419.out⟩, ⟨by (with_reducible repeat (first | refine blk_drewN ?_ _ | refine blk_drew ?_ | refine blk_alloc ?_ _)); refine blk_far ?_ NB424_426.out _; (with_reducible repeat (first | refine blk_drewN ?_ _ | refine blk_drew ?_ | refine blk_alloc ?_ _)); refine blk_far ?_ NB424_426.out _; (with_reducible repeat (first | refine blk_drewN ?_ _ | refine blk_drew ?_ | refine blk_alloc ?_ _)); refine blk_far ?_ NB424_426.out _; (with_reducible repeat (first | refine blk_drewN ?_ _ | refine blk_drew ?_ | refine blk_alloc ?_ _)); refine blk_far ?_ NB424_426.out _; (with_reducible repeat (first | refine blk_drewN ?_ _ | refine blk_drew ?_ | refine blk_alloc ?_ _)); refine blk_far ?_ NB424_426.out _; (with_reducible repeat (first | refine blk_drewN ?_ _ | refine blk_drew ?_ | refine blk_alloc ?_ _)); exact BK424.out⟩, ⟨by (with_reducible repeat (first | refine blk_drewN ?_ _ | refine blk_drew ?_ | refine blk_alloc ?_ _)); refine blk_put (cs := #[.int .i64 ((rd_T24 t415 (ji22)).f0), .int .i64 ((rd_T24 t415 (ji22)).f1), .int .i64 ((rd_T24 t415 (ji22)).f2), .int .i64 ((rd_T24 t415 (ji22)).f3), .int .i64 0]) ?_ 4 _ rfl; (with_reducible repeat (first | refine blk_drewN ?_ _ | refine blk_drew ?_ | refine blk_alloc ?_ _)); refine blk_put (cs := #[.int .i64 ((rd_T24 t415 (ji22)).f0), .int .i64 ((rd_T24 t415 (ji22)).f1), .int .i64 ((rd_T24 t415 (ji22)).f2), .int .i64 0, .int .i64 0]) ?_ 3 _ rfl; (with_reducible repeat (first | refine blk_drewN ?_ _ | refine blk_drew ?_ | refine blk_alloc ?_ _)); refine blk_put (cs := #[.int .i64 ((rd_T24 t415 (ji22)).f0), .int .i64 ((rd_T24 t415 (ji22)).f1), .int .i64 0, .int .i64 0, .int .i64 0]) ?_ 2 _ rfl; (with_reducible repeat (first | refine blk_drewN ?_ _ | refine blk_drew ?_ | refine blk_alloc ?_ _)); refine blk_put (cs := #[.int .i64 ((rd_T24 t415 (ji22)).f0), .int .i64 0, .int .i64 0, .int .i64 0, .int .i64 0]) ?_ 1 _ rfl; (with_reducible repeat (first | refine blk_drewN ?_ _ | refine blk_drew ?_ | refine blk_alloc ?_ _)); refine blk_put (cs := #[.int .i64 0, .int .i64 0, .int .i64 0, .int .i64 0, .int .i64 0]) ?_ 0 _ rfl; (with_reducible repeat (first | refine blk_drewN ?_ _ | refine blk_drew ?_ | refine blk_alloc ?_ _)); exact BK426.out⟩, ⟨by repeat (first | (with_reducible first | exact HB.out | apply below_alloc | apply pw_below_drewN | apply below_drew1 | refine below_set ?_ GE419.out | refine below_set ?_ GE424.out | refine below_set ?_ GE426.out) | exact HB.out)⟩⟩
                   case round =>
                    clear H'
                    try clear c1
                    try clear c2
                    try clear p2
                    try clear c3
                    try clear p4
                    try clear q4
                    try clear hx4
                    try clear c5
                    try clear p6
                    try clear c8
                    try clear c14
                    try clear c14b0
                    try clear c14b1
                    try clear c16
                    try clear c19
                    try clear c19b0
                    try clear c20
                    try clear c20b0
                    try clear c21
                    try clear c21b0
                    try clear c21b1
                    try clear c21b2
                    try clear c22
                    try clear c23
                    try clear c23b0
                    try clear c24
                    try clear c24b0
                    try clear c27
                    try clear c28
                    try clear c31
                    try clear c33
                    try clear hcz11_0
                    try clear hcz11_1
                    try clear hcz11_2
                    try clear hcz11_3
                    try clear hcz11_4
                    try clear hcz11_5
                    try clear hcz11_6
                    try clear hcz15_0
                    try clear hcz15_1
                    try clear hcz15_2
                    try clear hcz15_3
                    try clear hcz15_4
                    try clear hcz15_5
                    try clear hcz15_6
                    try clear hcz25_0
                    try clear hcz25_1
                    try clear hcz25_2
                    try clear hcz25_3
                    try clear hcz25_4
                    try clear hcz25_5
                    try clear hcz25_6
                    try clear hcz28_0
                    try clear hcz28_1
                    try clear hcz28_2
                    try clear hcz28_3
                    try clear hcz28_4
                    try clear hfz11_0
                    try clear hfz11_1
                    try clear hfz11_2
                    try clear hfz11_3
                    try clear hfz11_4
                    try clear hfz11_5
                    try clear hfz11_6
                    try clear hfz15_0
                    try clear hfz15_1
                    try clear hfz15_2
                    try clear hfz15_3
                    try clear hfz15_4
                    try clear hfz15_5
                    try clear hfz15_6
                    try clear hfz25_0
                    try clear hfz25_1
                    try clear hfz25_2
                    try clear hfz25_3
                    try clear hfz25_4
                    try clear hfz25_5
                    try clear hfz25_6
                    try clear hfz28_0
                    try clear hfz28_1
                    try clear hfz28_2
                    try clear hfz28_3
                    try clear hfz28_4
                    try clear hx423_0
                    try clear hx423_1
                    try clear hx423_2
                    try clear hx423_3
                    try clear hx423_4
                    try clear hx425_0
                    try clear hx425_1
                    try clear hx425_2
                    try clear hx425_3
                    try clear hx425_4
                    try clear p2
                    try clear p423
                    try clear p425
                    try clear q423
                    try clear q425
                    obtain ⟨x13_3, x14_3, rfl, rfl, HA, HK3, HO_9, HO_420002, HO_420006, BK419, BK424, BK426, HB⟩ := hrel
                    cases gk with
                    | zero => exact absurd HA.out (by simp [cartouchelaw12_JudgeRing.l1])
                    | succ k3 =>
                     have H := HA.out
                     clear HA
                     simp only [cartouchelaw12_JudgeRing.l1] at H
                     by_cases c37 : x14_3 < (t420.length : Int)
                     · rw [if_pos c37] at H
                       have c37b0 : decide (x14_3 < (t420.length : Int)) = true := decide_eq_true c37
                       clear c37
                       by_cases c38 : x13_3 = true
                       · subst c38
                         have H1 : (cartouchelaw12_JudgeRing.l1 k3 a1 t405 t420 x10_2 true (wrap64 (x14_3 + 1)) t407 t408 t409 t412 t413 t414 t415 ((rd_T24 t415 x10_2).f0) ((rd_T24 t415 x10_2).f1) ((rd_T24 t415 x10_2).f2) ((rd_T24 t415 x10_2).f3) ((rd_T24 t415 x10_2).f4) ((rd_T24 t415 (ji22)).f0) ((rd_T24 t415 (ji22)).f1) ((rd_T24 t415 (ji22)).f2) ((rd_T24 t415 (ji22)).f3) ((rd_T24 t415 (ji22)).f4)) = some r := by rw [if_pos rfl] at H; exact H
                         clear H
                         have H := H1
                         clear H1
                         have H' := Aside0.mk H
                         clear H
                         obtain ⟨Ao39, co39, eo39⟩ := Kd.R_slice HO_9.out
                         subst eo39
                         try go_wp2
                         have n0_ := Aside0.mk (Kd.R_drew HO_9.out)
                         have n1_ := Aside0.mk (Kd.R_drew HO_420002.out)
                         have n2_ := Aside0.mk (Kd.R_drew HO_420006.out)
                         have n3_ := Aside0.mk (blk_drew BK419.out)
                         have n4_ := Aside0.mk (blk_drew BK424.out)
                         have n5_ := Aside0.mk (blk_drew BK426.out)
                         have n6_ := Aside0.mk (below_drew1 HB.out)
                         clear HO_9
                         clear HO_420002
                         clear HO_420006
                         clear BK419
                         clear BK424
                         clear BK426
                         clear HB
                         have HO_9 := n0_
                         have HO_420002 := n1_
                         have HO_420006 := n2_
                         have BK419 := n3_
                         have BK424 := n4_
                         have BK426 := n5_
                         have HB := n6_
                         clear n0_ n1_ n2_ n3_ n4_ n5_ n6_
                         refine start_ (n := 10) (S := fun w' => True) (ds := []) #[false, false, false, false, false, false, false, false, false, false] (by kernel_rfl) rfl rfl trivial (fun hHeld => ?_); refine with_tabW cartouchelaw12_JudgeRing.tab18 cartouchelaw12_JudgeRing.bits18 (fun HT_ HW_ => ?_)
                         generalize wr.drew = w40 at HO_9 HO_420002 HO_420006 BK419 BK424 BK426 HB hHeld ⊢
                         refine pure_ (i := 0) (N := some 66) (v := ?_) (a' := ?_) #[true, false, false, false, false, false, false, false, false, false] rfl rfl (any_of HT_.out (by kernel_rfl)) (fun _ _ _ h => h) (Or.inl ⟨by rfl, ?_⟩) ?_ ?_
                         rotate_left
                         · intro w'
                           go_simp
                           with_reducible rfl
                         rotate_left
                         · simp only [Act.put, List.setIfInBounds_toArray, List.set_cons_zero, List.set_cons_succ, i64_w, i32_w]
                           rfl
                         refine pure_ (i := 1) (N := some 67) (v := ?_) (a' := ?_) #[true, true, false, false, false, false, false, false, false, false] rfl rfl (any_of HT_.out (by kernel_rfl)) (fun _ _ _ h => h) (Or.inl ⟨by rfl, ?_⟩) ?_ ?_
                         rotate_left
                         · intro w'
                           go_simp
                           with_reducible rfl
                         rotate_left
                         · simp only [Act.put, List.setIfInBounds_toArray, List.set_cons_zero, List.set_cons_succ, i64_w, i32_w]
                           rfl
                         refine pure_ (i := 2) (N := some 68) (v := undef) (a' := ?_) #[true, true, true, false, false, false, false, false, false, false] rfl rfl (any_of HT_.out (by kernel_rfl)) (fun _ _ _ h => h) (Or.inr ⟨by rfl, rfl⟩) ?_ ?_
                         rotate_left
                         · simp only [Act.put, List.setIfInBounds_toArray, List.set_cons_zero, List.set_cons_succ, i64_w, i32_w]
                           rfl
                         refine pure_ (i := 3) (N := some 69) (v := undef) (a' := ?_) #[true, true, true, true, false, false, false, false, false, false] rfl rfl (any_of HT_.out (by kernel_rfl)) (fun _ _ _ h => h) (Or.inr ⟨by rfl, rfl⟩) ?_ ?_
                         rotate_left
                         · simp only [Act.put, List.setIfInBounds_toArray, List.set_cons_zero, List.set_cons_succ, i64_w, i32_w]
                           rfl
                         refine pure_ (i := 4) (N := some 70) (v := undef) (a' := ?_) #[true, true, true, true, true, false, false, false, false, false] rfl rfl (any_of HT_.out (by kernel_rfl)) (fun _ _ _ h => h) (Or.inr ⟨by rfl, rfl⟩) ?_ ?_
                         rotate_left
                         · simp only [Act.put, List.setIfInBounds_toArray, List.set_cons_zero, List.set_cons_succ, i64_w, i32_w]
                           rfl
                         refine pure_ (i := 5) (N := some 71) (v := undef) (a' := ?_) #[true, true, true, true, true, true, false, false, false, false] rfl rfl (any_of HT_.out (by kernel_rfl)) (fun _ _ _ h => h) (Or.inr ⟨by rfl, rfl⟩) ?_ ?_
                         rotate_left
                         · simp only [Act.put, List.setIfInBounds_toArray, List.set_cons_zero, List.set_cons_succ, i64_w, i32_w]
                           rfl
                         refine pure_ (i := 6) (N := some 72) (v := undef) (a' := ?_) #[true, true, true, true, true, true, true, false, false, false] rfl rfl (any_of HT_.out (by kernel_rfl)) (fun _ _ _ h => h) (Or.inr ⟨by rfl, rfl⟩) ?_ ?_
                         rotate_left
                         · simp only [Act.put, List.setIfInBounds_toArray, List.set_cons_zero, List.set_cons_succ, i64_w, i32_w]
                           rfl
                         refine pure_ (i := 7) (N := some 73) (v := undef) (a' := ?_) #[true, true, true, true, true, true, true, true, false, false] rfl rfl (any_of HT_.out (by kernel_rfl)) (fun _ _ _ h => h) (Or.inr ⟨by rfl, rfl⟩) ?_ ?_
                         rotate_left
                         · simp only [Act.put, List.setIfInBounds_toArray, List.set_cons_zero, List.set_cons_succ, i64_w, i32_w]
                           rfl
                         refine pure_ (i := 8) (N := some 74) (v := ?_) (a' := ?_) #[true, true, true, true, true, true, true, true, true, false] rfl rfl (any_of HT_.out (by kernel_rfl)) (fun _ _ _ h => h) (Or.inl ⟨by rfl, ?_⟩) ?_ ?_
                         rotate_left
                         · intro w'
                           go_simp
                           with_reducible rfl
                         rotate_left
                         · simp only [Act.put, List.setIfInBounds_toArray, List.set_cons_zero, List.set_cons_succ, i64_w, i32_w]
                           rfl
                         refine pure_ (i := 9) (N := some 13) (v := ?_) (a' := ?_) #[true, true, true, true, true, true, true, true, true, true] rfl rfl (any_of HT_.out (by kernel_rfl)) (fun _ _ _ h => h) (Or.inl ⟨by rfl, ?_⟩) ?_ ?_
                         rotate_left
                         · intro w'
                           go_simp
                           with_reducible rfl
                         rotate_left
                         · simp only [Act.put, List.setIfInBounds_toArray, List.set_cons_zero, List.set_cons_succ, i64_w, i32_w]
                           rfl
                         refine done_ (done_of HT_.out (by kernel_rfl)) ?_
                         try go_wp2
                         go_roundg k3
                         case measure => have := HJ6.out; have := HK2.out; have := HK3.out; omega
                         case rel => exact ⟨(true), (wrap64 (x14_3 + 1)), (by first | rfl | (simp; done) | (simp [*]; done)), (by first | rfl | (simp; done) | (simp [*]; done)), H', ⟨by have := HJ6.out; have := HK2.out; have := HK3.out; omega⟩, ⟨by (with_reducible repeat (first | apply Kd.R_alloc | apply Kd.R_drewN | apply Kd.R_drew)); exact HO_9.out⟩, ⟨by (with_reducible repeat (first | apply Kd.R_alloc | apply Kd.R_drewN | apply Kd.R_drew)); exact HO_420002.out⟩, ⟨by (with_reducible repeat (first | apply Kd.R_alloc | apply Kd.R_drewN | apply Kd.R_drew)); exact HO_420006.out⟩, ⟨by (with_reducible repeat (first | refine blk_drewN ?_ _ | refine blk_drew ?_ | refine blk_alloc ?_ _)); exact BK419.out⟩, ⟨by (with_reducible repeat (first | refine blk_drewN ?_ _ | refine blk_drew ?_ | refine blk_alloc ?_ _)); exact BK424.out⟩, ⟨by (with_reducible repeat (first | refine blk_drewN ?_ _ | refine blk_drew ?_ | refine blk_alloc ?_ _)); exact BK426.out⟩, ⟨by repeat (first | (with_reducible first | exact HB.out | apply below_alloc | apply pw_below_drewN | apply below_drew1 | refine below_set ?_ GE419.out | refine below_set ?_ GE424.out | refine below_set ?_ GE426.out) | exact HB.out)⟩⟩
                       · replace c38 := Bool.eq_false_iff.mpr c38
                         subst c38
                         have H1 : (if 0 ≤ x14_3 then (cartouchelaw12_JudgeRing.l1 k3 a1 t405 t420 x10_2 (((rd_T24 t420 x14_3).f0) == ((rd_T24 t415 x10_2).f0) && (((rd_T24 t420 x14_3).f1) == ((rd_T24 t415 x10_2).f1) && (((rd_T24 t420 x14_3).f2) == ((rd_T24 t415 x10_2).f2) && (((rd_T24 t420 x14_3).f3) == ((rd_T24 t415 x10_2).f3) && (((rd_T24 t420 x14_3).f4) == ((rd_T24 t415 x10_2).f4)))))) (wrap64 (x14_3 + 1)) t407 t408 t409 t412 t413 t414 t415 ((rd_T24 t415 x10_2).f0) ((rd_T24 t415 x10_2).f1) ((rd_T24 t415 x10_2).f2) ((rd_T24 t415 x10_2).f3) ((rd_T24 t415 x10_2).f4) ((rd_T24 t415 (ji22)).f0) ((rd_T24 t415 (ji22)).f1) ((rd_T24 t415 (ji22)).f2) ((rd_T24 t415 (ji22)).f3) ((rd_T24 t415 (ji22)).f4)) else (none)) = some r := by rw [if_neg (show ¬ (false = true) by decide)] at H; exact H
                         clear H
                         have H := H1
                         clear H1
                         by_cases c41 : 0 ≤ x14_3
                         · rw [if_pos c41] at H
                           have c41b0 : decide (0 ≤ x14_3) = true := decide_eq_true c41
                           clear c41
                           have H' := Aside0.mk H
                           clear H
                           obtain ⟨Ao42, co42, eo42⟩ := Kd.R_slice HO_9.out
                           subst eo42
                           try go_wp2
                           have n0_ := Aside0.mk (Kd.R_drew HO_9.out)
                           have n1_ := Aside0.mk (Kd.R_drew HO_420002.out)
                           have n2_ := Aside0.mk (Kd.R_drew HO_420006.out)
                           have n3_ := Aside0.mk (blk_drew BK419.out)
                           have n4_ := Aside0.mk (blk_drew BK424.out)
                           have n5_ := Aside0.mk (blk_drew BK426.out)
                           have n6_ := Aside0.mk (below_drew1 HB.out)
                           clear HO_9
                           clear HO_420002
                           clear HO_420006
                           clear BK419
                           clear BK424
                           clear BK426
                           clear HB
                           have HO_9 := n0_
                           have HO_420002 := n1_
                           have HO_420006 := n2_
                           have BK419 := n3_
                           have BK424 := n4_
                           have BK426 := n5_
                           have HB := n6_
                           clear n0_ n1_ n2_ n3_ n4_ n5_ n6_
                           have p427 : 0 ≤ (x14_3 : Int) := of_decide_eq_true (by first | (with_reducible assumption) | assumption)
                           have q427 : x14_3 < (t420.length : Int) := of_decide_eq_true (by first | (with_reducible assumption) | assumption)
                           obtain ⟨ad427, e427, hx427_0, hx427_1, hx427_2, hx427_3, hx427_4⟩ := at_T24 (Kd.R_reads' HO_9.out).2.2 x14_3 p427 q427
                           cases e427
                           replace p427 := eq_true p427
                           replace q427 := eq_true q427
                           refine start_ (n := 10) (S := fun w' => w'.cell? ⟨gb424, 0, none⟩ = some (.int .i64 ((rd_T24 t415 x10_2).f0)) ∧ w'.cell? ⟨gb424, 1, none⟩ = some (.int .i64 ((rd_T24 t415 x10_2).f1)) ∧ w'.cell? ⟨gb424, 2, none⟩ = some (.int .i64 ((rd_T24 t415 x10_2).f2)) ∧ w'.cell? ⟨gb424, 3, none⟩ = some (.int .i64 ((rd_T24 t415 x10_2).f3)) ∧ w'.cell? ⟨gb424, 4, none⟩ = some (.int .i64 ((rd_T24 t415 x10_2).f4)) ∧ w'.cell? (ad427.add ((x14_3).toNat * 5)) = some (.int .i64 ((rd_T24 t420 x14_3).f0)) ∧ w'.cell? ⟨(ad427.add ((x14_3).toNat * 5)).block, (ad427.add ((x14_3).toNat * 5)).off + 1, none⟩ = some (.int .i64 ((rd_T24 t420 x14_3).f1)) ∧ w'.cell? ⟨(ad427.add ((x14_3).toNat * 5)).block, (ad427.add ((x14_3).toNat * 5)).off + 2, none⟩ = some (.int .i64 ((rd_T24 t420 x14_3).f2)) ∧ w'.cell? ⟨(ad427.add ((x14_3).toNat * 5)).block, (ad427.add ((x14_3).toNat * 5)).off + 3, none⟩ = some (.int .i64 ((rd_T24 t420 x14_3).f3)) ∧ w'.cell? ⟨(ad427.add ((x14_3).toNat * 5)).block, (ad427.add ((x14_3).toNat * 5)).off + 4, none⟩ = some (.int .i64 ((rd_T24 t420 x14_3).f4))) (ds := []) #[false, false, false, false, false, false, false, false, false, false] (by kernel_rfl) rfl rfl ⟨(blk_cell BK424.out 0).trans rfl, (blk_cell BK424.out 1).trans rfl, (blk_cell BK424.out 2).trans rfl, (blk_cell BK424.out 3).trans rfl, (blk_cell BK424.out 4).trans rfl, hx427_0, hx427_1, hx427_2, hx427_3, hx427_4⟩ (fun hHeld => ?_); refine with_tabW cartouchelaw12_JudgeRing.tab18 cartouchelaw12_JudgeRing.bits18 (fun HT_ HW_ => ?_)
                           generalize wr.drew = w43 at HO_9 HO_420002 HO_420006 BK419 BK424 BK426 HB hx427_0 hx427_1 hx427_2 hx427_3 hx427_4 hHeld ⊢
                           refine pure_ (i := 0) (N := some 66) (v := ?_) (a' := ?_) #[true, false, false, false, false, false, false, false, false, false] rfl rfl (any_of HT_.out (by kernel_rfl)) (fun _ _ _ h => h) (Or.inl ⟨by rfl, ?_⟩) ?_ ?_
                           rotate_left
                           · intro w'
                             go_simp
                             with_reducible rfl
                           rotate_left
                           · simp only [Act.put, List.setIfInBounds_toArray, List.set_cons_zero, List.set_cons_succ, i64_w, i32_w]
                             rfl
                           refine pure_ (i := 1) (N := some 67) (v := ?_) (a' := ?_) #[true, true, false, false, false, false, false, false, false, false] rfl rfl (any_of HT_.out (by kernel_rfl)) (fun _ _ _ h => h) (Or.inl ⟨by rfl, ?_⟩) ?_ ?_
                           rotate_left
                           · intro w'
                             go_simp
                             with_reducible rfl
                           rotate_left
                           · simp only [Act.put, List.setIfInBounds_toArray, List.set_cons_zero, List.set_cons_succ, i64_w, i32_w]
                             rfl
                           refine pure_ (i := 2) (N := some 68) (v := ?_) (a' := ?_) #[true, true, true, false, false, false, false, false, false, false] rfl rfl (any_of HT_.out (by kernel_rfl)) (fun _ _ _ h => h) (Or.inl ⟨by rfl, ?_⟩) ?_ ?_
                           rotate_left
                           · intro w'
                             go_simp
                             with_reducible rfl
                           rotate_left
                           · simp only [Act.put, List.setIfInBounds_toArray, List.set_cons_zero, List.set_cons_succ, i64_w, i32_w]
                             rfl
                           refine pure_ (i := 3) (N := some 69) (v := ?_) (a' := ?_) #[true, true, true, true, false, false, false, false, false, false] rfl rfl (any_of HT_.out (by kernel_rfl)) (fun _ _ _ h => h) (Or.inl ⟨by rfl, ?_⟩) ?_ ?_
                           rotate_left
                           · intro w'
                             go_simp
                             with_reducible rfl
                           rotate_left
                           · simp only [Act.put, List.setIfInBounds_toArray, List.set_cons_zero, List.set_cons_succ, i64_w, i32_w]
                             rfl
                           refine pure_ (i := 4) (N := some 70) (v := ?_) (a' := ?_) #[true, true, true, true, true, false, false, false, false, false] rfl rfl (any_of HT_.out (by kernel_rfl)) (fun _ _ _ h => h) (Or.inl ⟨by rfl, ?_⟩) ?_ ?_
                           rotate_left
                           · intro w'
                             go_simp
                             with_reducible rfl
                           rotate_left
                           · simp only [Act.put, List.setIfInBounds_toArray, List.set_cons_zero, List.set_cons_succ, i64_w, i32_w]
                             rfl
                           refine take_ (i := 5) (N := some 71) (v := ?_) (a' := ?_) #[true, true, true, true, true, true, false, false, false, false] rfl rfl (take_ofW HT_.out HW_.out (by kernel_rfl)) (fun _ _ _ h => h) (Or.inl ⟨by rfl, ?_⟩) hHeld ?_ ?_
                           rotate_left
                           · rintro w' ⟨s0, s1, s2, s3, s4, s5, s6, s7, s8, s9⟩
                             go_simp
                             with_reducible rfl
                           rotate_left
                           · simp only [Act.put, List.setIfInBounds_toArray, List.set_cons_zero, List.set_cons_succ, i64_w, i32_w]
                             rfl
                           refine take_ (i := 6) (N := some 72) (v := ?_) (a' := ?_) #[true, true, true, true, true, true, true, false, false, false] rfl rfl (take_ofW HT_.out HW_.out (by kernel_rfl)) (fun _ _ _ h => h) (Or.inl ⟨by rfl, ?_⟩) hHeld ?_ ?_
                           rotate_left
                           · rintro w' ⟨s0, s1, s2, s3, s4, s5, s6, s7, s8, s9⟩
                             go_simp
                             with_reducible rfl
                           rotate_left
                           · simp only [Act.put, List.setIfInBounds_toArray, List.set_cons_zero, List.set_cons_succ, i64_w, i32_w]
                             rfl
                           refine pure_ (i := 7) (N := some 73) (v := ?_) (a' := ?_) #[true, true, true, true, true, true, true, true, false, false] rfl rfl (any_of HT_.out (by kernel_rfl)) (fun _ _ _ h => h) (Or.inl ⟨by rfl, ?_⟩) ?_ ?_
                           rotate_left
                           · intro w'
                             go_simp
                             with_reducible rfl
                           rotate_left
                           · simp only [Act.put, List.setIfInBounds_toArray, List.set_cons_zero, List.set_cons_succ, i64_w, i32_w]
                             rfl
                           refine pure_ (i := 8) (N := some 74) (v := ?_) (a' := ?_) #[true, true, true, true, true, true, true, true, true, false] rfl rfl (any_of HT_.out (by kernel_rfl)) (fun _ _ _ h => h) (Or.inl ⟨by rfl, ?_⟩) ?_ ?_
                           rotate_left
                           · intro w'
                             go_simp
                             with_reducible rfl
                           rotate_left
                           · simp only [Act.put, List.setIfInBounds_toArray, List.set_cons_zero, List.set_cons_succ, i64_w, i32_w]
                             rfl
                           refine pure_ (i := 9) (N := some 13) (v := ?_) (a' := ?_) #[true, true, true, true, true, true, true, true, true, true] rfl rfl (any_of HT_.out (by kernel_rfl)) (fun _ _ _ h => h) (Or.inl ⟨by rfl, ?_⟩) ?_ ?_
                           rotate_left
                           · intro w'
                             go_simp
                             with_reducible rfl
                           rotate_left
                           · simp only [Act.put, List.setIfInBounds_toArray, List.set_cons_zero, List.set_cons_succ, i64_w, i32_w]
                             rfl
                           refine done_ (done_of HT_.out (by kernel_rfl)) ?_
                           try go_wp2
                           go_roundg k3
                           case measure => have := HJ6.out; have := HK2.out; have := HK3.out; omega
                           case rel => exact ⟨((((rd_T24 t420 x14_3).f0) == ((rd_T24 t415 x10_2).f0) && (((rd_T24 t420 x14_3).f1) == ((rd_T24 t415 x10_2).f1) && (((rd_T24 t420 x14_3).f2) == ((rd_T24 t415 x10_2).f2) && (((rd_T24 t420 x14_3).f3) == ((rd_T24 t415 x10_2).f3) && (((rd_T24 t420 x14_3).f4) == ((rd_T24 t415 x10_2).f4))))))), (wrap64 (x14_3 + 1)), (by first | rfl | (simp; done) | (simp [*]; done)), (by first | rfl | (simp; done) | (simp [*]; done)), H', ⟨by have := HJ6.out; have := HK2.out; have := HK3.out; omega⟩, ⟨by (with_reducible repeat (first | apply Kd.R_alloc | apply Kd.R_drewN | apply Kd.R_drew)); exact HO_9.out⟩, ⟨by (with_reducible repeat (first | apply Kd.R_alloc | apply Kd.R_drewN | apply Kd.R_drew)); exact HO_420002.out⟩, ⟨by (with_reducible repeat (first | apply Kd.R_alloc | apply Kd.R_drewN | apply Kd.R_drew)); exact HO_420006.out⟩, ⟨by (with_reducible repeat (first | refine blk_drewN ?_ _ | refine blk_drew ?_ | refine blk_alloc ?_ _)); exact BK419.out⟩, ⟨by (with_reducible repeat (first | refine blk_drewN ?_ _ | refine blk_drew ?_ | refine blk_alloc ?_ _)); exact BK424.out⟩, ⟨by (with_reducible repeat (first | refine blk_drewN ?_ _ | refine blk_drew ?_ | refine blk_alloc ?_ _)); exact BK426.out⟩, ⟨by repeat (first | (with_reducible first | exact HB.out | apply below_alloc | apply pw_below_drewN | apply below_drew1 | refine below_set ?_ GE419.out | refine below_set ?_ GE424.out | refine below_set ?_ GE426.out) | exact HB.out)⟩⟩
                         · rw [if_neg c41] at H
                           exact absurd H (by simp)
                     · rw [if_neg c37] at H
                       have c37b0 : decide (x14_3 < (t420.length : Int)) = false := decide_eq_false c37
                       clear c37
                       have HC44 := Aside0.mk H
                       clear H
                       obtain ⟨Ao45, co45, eo45⟩ := Kd.R_slice HO_9.out
                       subst eo45
                       go_upto_region 19 with (fail)
                       go_cut [97] (fun v97 wc => ∃ (kq : Nat) (x97_43 : Bool), v97 = .bool x97_43 ∧ Aside0 (cartouchelaw12_JudgeRing.j3 kq a1 t405 t420 x10_2 x97_43 t407 t408 t409 t412 t413 t414 t415 = some r) ∧ Aside0 (kq ≤ k3) ∧ Aside0 (Kd.R k24 24 wc w.heap.size (fun k_ => some k_ ≠ ((.slice (some ad423) t415.length co13) : Value).ownBlock ∧ k_ ≠ gb424 ∧ k_ ≠ gb426) (.slice Ao45 t420.length co45) t420) ∧ Aside0 (Kd.R (Kd.int .i64) 3 wc w.heap.size (fun _ => True) (.slice Ao12 t409.length co12) t409) ∧ Aside0 (Kd.R k24 24 wc w.heap.size (fun k_ => some k_ ≠ ((.slice Ao45 t420.length co45) : Value).ownBlock ∧ k_ ≠ gb424 ∧ k_ ≠ gb426) (.slice (some ad423) t415.length co13) t415) ∧ Aside0 (wc.heap[gb419]? = some (.cells #[.int .i64 t407, .bool t408, (.slice Ao12 t409.length co12), .int .i64 t412, .int .i64 t413, .int .i64 t414, (.slice (some ad423) t415.length co13)] 42 (0, 0))) ∧ Aside0 (wc.heap[gb424]? = some (.cells #[.int .i64 ((rd_T24 t415 x10_2).f0), .int .i64 ((rd_T24 t415 x10_2).f1), .int .i64 ((rd_T24 t415 x10_2).f2), .int .i64 ((rd_T24 t415 x10_2).f3), .int .i64 ((rd_T24 t415 x10_2).f4)] 24 (0, 0))) ∧ Aside0 (wc.heap[gb426]? = some (.cells #[.int .i64 ((rd_T24 t415 (ji22)).f0), .int .i64 ((rd_T24 t415 (ji22)).f1), .int .i64 ((rd_T24 t415 (ji22)).f2), .int .i64 ((rd_T24 t415 (ji22)).f3), .int .i64 ((rd_T24 t415 (ji22)).f4)] 24 (0, 0))) ∧ Aside0 (Below w.heap.size w wc))
                       case first =>
                        have H := HC44.out
                        clear HC44
                        by_cases c46 : x13_3 = true
                        · subst c46
                          have H1 : (if ((rd_T24 t415 x10_2).f2) = ((rd_T24 t415 (ji22)).f1) then (if a1 = 2 then (if ((rd_T24 t415 x10_2).f0) = 3 then (cartouchelaw12_JudgeRing.j3 k3 a1 t405 t420 x10_2 (((rd_T24 t415 (ji22)).f0) == 3) t407 t408 t409 t412 t413 t414 t415) else (cartouchelaw12_JudgeRing.j3 k3 a1 t405 t420 x10_2 false t407 t408 t409 t412 t413 t414 t415)) else (cartouchelaw12_JudgeRing.j3 k3 a1 t405 t420 x10_2 false t407 t408 t409 t412 t413 t414 t415)) else (cartouchelaw12_JudgeRing.j3 k3 a1 t405 t420 x10_2 true t407 t408 t409 t412 t413 t414 t415)) = some r := by rw [if_pos rfl] at H; exact H
                          clear H
                          have H := H1
                          clear H1
                          by_cases c47 : ((rd_T24 t415 x10_2).f2) = ((rd_T24 t415 (ji22)).f1)
                          · rw [if_pos c47] at H
                            have c47b0 : (((rd_T24 t415 x10_2).f2) == ((rd_T24 t415 (ji22)).f1)) = true := beq_iff_eq.mpr c47
                            have c47b1 : (((rd_T24 t415 x10_2).f2) != ((rd_T24 t415 (ji22)).f1)) = false := bne_eq_false_iff_eq.mpr c47
                            clear c47
                            (first | rw [c47b0] | (simp only [i64_w, i32_w]; rw [c47b0]) | skip)
                            by_cases c48 : a1 = 2
                            · rw [if_pos c48] at H
                              have c48b0 : (a1 == 2) = true := beq_iff_eq.mpr c48
                              have c48b1 : (a1 != 2) = false := bne_eq_false_iff_eq.mpr c48
                              clear c48
                              by_cases c49 : ((rd_T24 t415 x10_2).f0) = 3
                              · rw [if_pos c49] at H
                                have c49b0 : (((rd_T24 t415 x10_2).f0) == 3) = true := beq_iff_eq.mpr c49
                                have c49b1 : (((rd_T24 t415 x10_2).f0) != 3) = false := bne_eq_false_iff_eq.mpr c49
                                clear c49
                                have H' := Aside0.mk H
                                clear H
                                have hnb50 := NB424_419.out
                                have hnc50 := NB419_424.out
                                have hnb51 := NB424_426.out
                                have hnc51 := NB426_424.out
                                have hcz52_0 : wr.cell? ⟨gb424, 0, none⟩ = some (.int .i64 ((rd_T24 t415 x10_2).f0)) := (blk_cell BK424.out 0).trans rfl
                                have hcz52_1 : wr.cell? ⟨gb424, 1, none⟩ = some (.int .i64 ((rd_T24 t415 x10_2).f1)) := (blk_cell BK424.out 1).trans rfl
                                have hcz52_2 : wr.cell? ⟨gb424, 2, none⟩ = some (.int .i64 ((rd_T24 t415 x10_2).f2)) := (blk_cell BK424.out 2).trans rfl
                                have hcz52_3 : wr.cell? ⟨gb424, 3, none⟩ = some (.int .i64 ((rd_T24 t415 x10_2).f3)) := (blk_cell BK424.out 3).trans rfl
                                have hcz52_4 : wr.cell? ⟨gb424, 4, none⟩ = some (.int .i64 ((rd_T24 t415 x10_2).f4)) := (blk_cell BK424.out 4).trans rfl
                                have hfz52_0 := blk_frozen BK424.out 0
                                have hfz52_1 := blk_frozen BK424.out 1
                                have hfz52_2 := blk_frozen BK424.out 2
                                have hfz52_3 := blk_frozen BK424.out 3
                                have hfz52_4 := blk_frozen BK424.out 4
                                have hnb53 := NB426_419.out
                                have hnc53 := NB419_426.out
                                have hcz54_0 : wr.cell? ⟨gb426, 0, none⟩ = some (.int .i64 ((rd_T24 t415 (ji22)).f0)) := (blk_cell BK426.out 0).trans rfl
                                have hcz54_1 : wr.cell? ⟨gb426, 1, none⟩ = some (.int .i64 ((rd_T24 t415 (ji22)).f1)) := (blk_cell BK426.out 1).trans rfl
                                have hcz54_2 : wr.cell? ⟨gb426, 2, none⟩ = some (.int .i64 ((rd_T24 t415 (ji22)).f2)) := (blk_cell BK426.out 2).trans rfl
                                have hcz54_3 : wr.cell? ⟨gb426, 3, none⟩ = some (.int .i64 ((rd_T24 t415 (ji22)).f3)) := (blk_cell BK426.out 3).trans rfl
                                have hcz54_4 : wr.cell? ⟨gb426, 4, none⟩ = some (.int .i64 ((rd_T24 t415 (ji22)).f4)) := (blk_cell BK426.out 4).trans rfl
                                have hfz54_0 := blk_frozen BK426.out 0
                                have hfz54_1 := blk_frozen BK426.out 1
                                have hfz54_2 := blk_frozen BK426.out 2
                                have hfz54_3 := blk_frozen BK426.out 3
                                have hfz54_4 := blk_frozen BK426.out 4
                                go_wp2
                                go_meet
                                case rel => exact ⟨_, ((((rd_T24 t415 (ji22)).f0) == 3)), (by first | rfl | (simp; done) | (simp only [← hji22] <;> (first | rfl | simp)) | (simp [*]; done)), H', ⟨by have := HJ6.out; have := HK2.out; have := HK3.out; first | omega | exact Nat.le_refl _⟩, ⟨by (with_reducible repeat (first | apply Kd.R_alloc | apply Kd.R_drewN | apply Kd.R_drew)); exact HO_9.out⟩, ⟨by (with_reducible repeat (first | apply Kd.R_alloc | apply Kd.R_drewN | apply Kd.R_drew)); exact HO_420002.out⟩, ⟨by (with_reducible repeat (first | apply Kd.R_alloc | apply Kd.R_drewN | apply Kd.R_drew)); exact HO_420006.out⟩, ⟨by (with_reducible repeat (first | refine blk_drewN ?_ _ | refine blk_drew ?_ | refine blk_alloc ?_ _)); exact BK419.out⟩, ⟨by (with_reducible repeat (first | refine blk_drewN ?_ _ | refine blk_drew ?_ | refine blk_alloc ?_ _)); exact BK424.out⟩, ⟨by (with_reducible repeat (first | refine blk_drewN ?_ _ | refine blk_drew ?_ | refine blk_alloc ?_ _)); exact BK426.out⟩, ⟨by repeat (first | (with_reducible first | exact HB.out | apply below_alloc | apply pw_below_drewN | apply below_drew1 | refine below_set ?_ GE419.out | refine below_set ?_ GE424.out | refine below_set ?_ GE426.out) | exact HB.out)⟩⟩
                              · rw [if_neg c49] at H
                                have c49b0 : (((rd_T24 t415 x10_2).f0) == 3) = false := beq_eq_false_iff_ne.mpr c49
                                have c49b1 : (((rd_T24 t415 x10_2).f0) != 3) = true := bne_iff_ne.mpr c49
                                have H' := Aside0.mk H
                                clear H
                                have hnb55 := NB424_419.out
                                have hnc55 := NB419_424.out
                                have hnb56 := NB424_426.out
                                have hnc56 := NB426_424.out
                                have hcz57_0 : wr.cell? ⟨gb424, 0, none⟩ = some (.int .i64 ((rd_T24 t415 x10_2).f0)) := (blk_cell BK424.out 0).trans rfl
                                have hcz57_1 : wr.cell? ⟨gb424, 1, none⟩ = some (.int .i64 ((rd_T24 t415 x10_2).f1)) := (blk_cell BK424.out 1).trans rfl
                                have hcz57_2 : wr.cell? ⟨gb424, 2, none⟩ = some (.int .i64 ((rd_T24 t415 x10_2).f2)) := (blk_cell BK424.out 2).trans rfl
                                have hcz57_3 : wr.cell? ⟨gb424, 3, none⟩ = some (.int .i64 ((rd_T24 t415 x10_2).f3)) := (blk_cell BK424.out 3).trans rfl
                                have hcz57_4 : wr.cell? ⟨gb424, 4, none⟩ = some (.int .i64 ((rd_T24 t415 x10_2).f4)) := (blk_cell BK424.out 4).trans rfl
                                have hfz57_0 := blk_frozen BK424.out 0
                                have hfz57_1 := blk_frozen BK424.out 1
                                have hfz57_2 := blk_frozen BK424.out 2
                                have hfz57_3 := blk_frozen BK424.out 3
                                have hfz57_4 := blk_frozen BK424.out 4
                                have hnb58 := NB426_419.out
                                have hnc58 := NB419_426.out
                                have hcz59_0 : wr.cell? ⟨gb426, 0, none⟩ = some (.int .i64 ((rd_T24 t415 (ji22)).f0)) := (blk_cell BK426.out 0).trans rfl
                                have hcz59_1 : wr.cell? ⟨gb426, 1, none⟩ = some (.int .i64 ((rd_T24 t415 (ji22)).f1)) := (blk_cell BK426.out 1).trans rfl
                                have hcz59_2 : wr.cell? ⟨gb426, 2, none⟩ = some (.int .i64 ((rd_T24 t415 (ji22)).f2)) := (blk_cell BK426.out 2).trans rfl
                                have hcz59_3 : wr.cell? ⟨gb426, 3, none⟩ = some (.int .i64 ((rd_T24 t415 (ji22)).f3)) := (blk_cell BK426.out 3).trans rfl
                                have hcz59_4 : wr.cell? ⟨gb426, 4, none⟩ = some (.int .i64 ((rd_T24 t415 (ji22)).f4)) := (blk_cell BK426.out 4).trans rfl
                                have hfz59_0 := blk_frozen BK426.out 0
                                have hfz59_1 := blk_frozen BK426.out 1
                                have hfz59_2 := blk_frozen BK426.out 2
                                have hfz59_3 := blk_frozen BK426.out 3
                                have hfz59_4 := blk_frozen BK426.out 4
                                go_wp2
                                go_meet
                                case rel => exact ⟨_, (false), (by first | rfl | (simp; done) | (simp [*]; done)), H', ⟨by have := HJ6.out; have := HK2.out; have := HK3.out; first | omega | exact Nat.le_refl _⟩, ⟨by (with_reducible repeat (first | apply Kd.R_alloc | apply Kd.R_drewN | apply Kd.R_drew)); exact HO_9.out⟩, ⟨by (with_reducible repeat (first | apply Kd.R_alloc | apply Kd.R_drewN | apply Kd.R_drew)); exact HO_420002.out⟩, ⟨by (with_reducible repeat (first | apply Kd.R_alloc | apply Kd.R_drewN | apply Kd.R_drew)); exact HO_420006.out⟩, ⟨by (with_reducible repeat (first | refine blk_drewN ?_ _ | refine blk_drew ?_ | refine blk_alloc ?_ _)); exact BK419.out⟩, ⟨by (with_reducible repeat (first | refine blk_drewN ?_ _ | refine blk_drew ?_ | refine blk_alloc ?_ _)); exact BK424.out⟩, ⟨by (with_reducible repeat (first | refine blk_drewN ?_ _ | refine blk_drew ?_ | refine blk_alloc ?_ _)); exact BK426.out⟩, ⟨by repeat (first | (with_reducible first | exact HB.out | apply below_alloc | apply pw_below_drewN | apply below_drew1 | refine below_set ?_ GE419.out | refine below_set ?_ GE424.out | refine below_set ?_ GE426.out) | exact HB.out)⟩⟩
                            · rw [if_neg c48] at H
                              have c48b0 : (a1 == 2) = false := beq_eq_false_iff_ne.mpr c48
                              have c48b1 : (a1 != 2) = true := bne_iff_ne.mpr c48
                              have H' := Aside0.mk H
                              clear H
                              have hnb60 := NB424_419.out
                              have hnc60 := NB419_424.out
                              have hnb61 := NB424_426.out
                              have hnc61 := NB426_424.out
                              have hcz62_0 : wr.cell? ⟨gb424, 0, none⟩ = some (.int .i64 ((rd_T24 t415 x10_2).f0)) := (blk_cell BK424.out 0).trans rfl
                              have hcz62_1 : wr.cell? ⟨gb424, 1, none⟩ = some (.int .i64 ((rd_T24 t415 x10_2).f1)) := (blk_cell BK424.out 1).trans rfl
                              have hcz62_2 : wr.cell? ⟨gb424, 2, none⟩ = some (.int .i64 ((rd_T24 t415 x10_2).f2)) := (blk_cell BK424.out 2).trans rfl
                              have hcz62_3 : wr.cell? ⟨gb424, 3, none⟩ = some (.int .i64 ((rd_T24 t415 x10_2).f3)) := (blk_cell BK424.out 3).trans rfl
                              have hcz62_4 : wr.cell? ⟨gb424, 4, none⟩ = some (.int .i64 ((rd_T24 t415 x10_2).f4)) := (blk_cell BK424.out 4).trans rfl
                              have hfz62_0 := blk_frozen BK424.out 0
                              have hfz62_1 := blk_frozen BK424.out 1
                              have hfz62_2 := blk_frozen BK424.out 2
                              have hfz62_3 := blk_frozen BK424.out 3
                              have hfz62_4 := blk_frozen BK424.out 4
                              have hnb63 := NB426_419.out
                              have hnc63 := NB419_426.out
                              have hcz64_0 : wr.cell? ⟨gb426, 0, none⟩ = some (.int .i64 ((rd_T24 t415 (ji22)).f0)) := (blk_cell BK426.out 0).trans rfl
                              have hcz64_1 : wr.cell? ⟨gb426, 1, none⟩ = some (.int .i64 ((rd_T24 t415 (ji22)).f1)) := (blk_cell BK426.out 1).trans rfl
                              have hcz64_2 : wr.cell? ⟨gb426, 2, none⟩ = some (.int .i64 ((rd_T24 t415 (ji22)).f2)) := (blk_cell BK426.out 2).trans rfl
                              have hcz64_3 : wr.cell? ⟨gb426, 3, none⟩ = some (.int .i64 ((rd_T24 t415 (ji22)).f3)) := (blk_cell BK426.out 3).trans rfl
                              have hcz64_4 : wr.cell? ⟨gb426, 4, none⟩ = some (.int .i64 ((rd_T24 t415 (ji22)).f4)) := (blk_cell BK426.out 4).trans rfl
                              have hfz64_0 := blk_frozen BK426.out 0
                              have hfz64_1 := blk_frozen BK426.out 1
                              have hfz64_2 := blk_frozen BK426.out 2
                              have hfz64_3 := blk_frozen BK426.out 3
                              have hfz64_4 := blk_frozen BK426.out 4
                              go_wp2
                              go_meet
                              case rel => exact ⟨_, (false), (by first | rfl | (simp; done) | (simp [*]; done)), H', ⟨by have := HJ6.out; have := HK2.out; have := HK3.out; first | omega | exact Nat.le_refl _⟩, ⟨by (with_reducible repeat (first | apply Kd.R_alloc | apply Kd.R_drewN | apply Kd.R_drew)); exact HO_9.out⟩, ⟨by (with_reducible repeat (first | apply Kd.R_alloc | apply Kd.R_drewN | apply Kd.R_drew)); exact HO_420002.out⟩, ⟨by (with_reducible repeat (first | apply Kd.R_alloc | apply Kd.R_drewN | apply Kd.R_drew)); exact HO_420006.out⟩, ⟨by (with_reducible repeat (first | refine blk_drewN ?_ _ | refine blk_drew ?_ | refine blk_alloc ?_ _)); exact BK419.out⟩, ⟨by (with_reducible repeat (first | refine blk_drewN ?_ _ | refine blk_drew ?_ | refine blk_alloc ?_ _)); exact BK424.out⟩, ⟨by (with_reducible repeat (first | refine blk_drewN ?_ _ | refine blk_drew ?_ | refine blk_alloc ?_ _)); exact BK426.out⟩, ⟨by repeat (first | (with_reducible first | exact HB.out | apply below_alloc | apply pw_below_drewN | apply below_drew1 | refine below_set ?_ GE419.out | refine below_set ?_ GE424.out | refine below_set ?_ GE426.out) | exact HB.out)⟩⟩
                          · rw [if_neg c47] at H
                            have c47b0 : (((rd_T24 t415 x10_2).f2) == ((rd_T24 t415 (ji22)).f1)) = false := beq_eq_false_iff_ne.mpr c47
                            have c47b1 : (((rd_T24 t415 x10_2).f2) != ((rd_T24 t415 (ji22)).f1)) = true := bne_iff_ne.mpr c47
                            (first | rw [c47b0] | (simp only [i64_w, i32_w]; rw [c47b0]) | skip)
                            have H' := Aside0.mk H
                            clear H
                            have hnb65 := NB424_419.out
                            have hnc65 := NB419_424.out
                            have hnb66 := NB424_426.out
                            have hnc66 := NB426_424.out
                            have hcz67_0 : wr.cell? ⟨gb424, 0, none⟩ = some (.int .i64 ((rd_T24 t415 x10_2).f0)) := (blk_cell BK424.out 0).trans rfl
                            have hcz67_1 : wr.cell? ⟨gb424, 1, none⟩ = some (.int .i64 ((rd_T24 t415 x10_2).f1)) := (blk_cell BK424.out 1).trans rfl
                            have hcz67_2 : wr.cell? ⟨gb424, 2, none⟩ = some (.int .i64 ((rd_T24 t415 x10_2).f2)) := (blk_cell BK424.out 2).trans rfl
                            have hcz67_3 : wr.cell? ⟨gb424, 3, none⟩ = some (.int .i64 ((rd_T24 t415 x10_2).f3)) := (blk_cell BK424.out 3).trans rfl
                            have hcz67_4 : wr.cell? ⟨gb424, 4, none⟩ = some (.int .i64 ((rd_T24 t415 x10_2).f4)) := (blk_cell BK424.out 4).trans rfl
                            have hfz67_0 := blk_frozen BK424.out 0
                            have hfz67_1 := blk_frozen BK424.out 1
                            have hfz67_2 := blk_frozen BK424.out 2
                            have hfz67_3 := blk_frozen BK424.out 3
                            have hfz67_4 := blk_frozen BK424.out 4
                            have hnb68 := NB426_419.out
                            have hnc68 := NB419_426.out
                            have hcz69_0 : wr.cell? ⟨gb426, 0, none⟩ = some (.int .i64 ((rd_T24 t415 (ji22)).f0)) := (blk_cell BK426.out 0).trans rfl
                            have hcz69_1 : wr.cell? ⟨gb426, 1, none⟩ = some (.int .i64 ((rd_T24 t415 (ji22)).f1)) := (blk_cell BK426.out 1).trans rfl
                            have hcz69_2 : wr.cell? ⟨gb426, 2, none⟩ = some (.int .i64 ((rd_T24 t415 (ji22)).f2)) := (blk_cell BK426.out 2).trans rfl
                            have hcz69_3 : wr.cell? ⟨gb426, 3, none⟩ = some (.int .i64 ((rd_T24 t415 (ji22)).f3)) := (blk_cell BK426.out 3).trans rfl
                            have hcz69_4 : wr.cell? ⟨gb426, 4, none⟩ = some (.int .i64 ((rd_T24 t415 (ji22)).f4)) := (blk_cell BK426.out 4).trans rfl
                            have hfz69_0 := blk_frozen BK426.out 0
                            have hfz69_1 := blk_frozen BK426.out 1
                            have hfz69_2 := blk_frozen BK426.out 2
                            have hfz69_3 := blk_frozen BK426.out 3
                            have hfz69_4 := blk_frozen BK426.out 4
                            go_wp2
                            go_meet
                            case rel => exact ⟨_, (true), (by first | rfl | (simp; done) | (simp [*]; done)), H', ⟨by have := HJ6.out; have := HK2.out; have := HK3.out; first | omega | exact Nat.le_refl _⟩, ⟨by (with_reducible repeat (first | apply Kd.R_alloc | apply Kd.R_drewN | apply Kd.R_drew)); exact HO_9.out⟩, ⟨by (with_reducible repeat (first | apply Kd.R_alloc | apply Kd.R_drewN | apply Kd.R_drew)); exact HO_420002.out⟩, ⟨by (with_reducible repeat (first | apply Kd.R_alloc | apply Kd.R_drewN | apply Kd.R_drew)); exact HO_420006.out⟩, ⟨by (with_reducible repeat (first | refine blk_drewN ?_ _ | refine blk_drew ?_ | refine blk_alloc ?_ _)); exact BK419.out⟩, ⟨by (with_reducible repeat (first | refine blk_drewN ?_ _ | refine blk_drew ?_ | refine blk_alloc ?_ _)); exact BK424.out⟩, ⟨by (with_reducible repeat (first | refine blk_drewN ?_ _ | refine blk_drew ?_ | refine blk_alloc ?_ _)); exact BK426.out⟩, ⟨by repeat (first | (with_reducible first | exact HB.out | apply below_alloc | apply pw_below_drewN | apply below_drew1 | refine below_set ?_ GE419.out | refine below_set ?_ GE424.out | refine below_set ?_ GE426.out) | exact HB.out)⟩⟩
                        · replace c46 := Bool.eq_false_iff.mpr c46
                          subst c46
                          have H1 : (cartouchelaw12_JudgeRing.j3 k3 a1 t405 t420 x10_2 true t407 t408 t409 t412 t413 t414 t415) = some r := by rw [if_neg (show ¬ (false = true) by decide)] at H; exact H
                          clear H
                          have H := H1
                          clear H1
                          have H' := Aside0.mk H
                          clear H
                          go_wp2
                          go_meet
                          case rel => exact ⟨_, (true), (by first | rfl | (simp; done) | (simp [*]; done)), H', ⟨by have := HJ6.out; have := HK2.out; have := HK3.out; first | omega | exact Nat.le_refl _⟩, ⟨by (with_reducible repeat (first | apply Kd.R_alloc | apply Kd.R_drewN | apply Kd.R_drew)); exact HO_9.out⟩, ⟨by (with_reducible repeat (first | apply Kd.R_alloc | apply Kd.R_drewN | apply Kd.R_drew)); exact HO_420002.out⟩, ⟨by (with_reducible repeat (first | apply Kd.R_alloc | apply Kd.R_drewN | apply Kd.R_drew)); exact HO_420006.out⟩, ⟨by (with_reducible repeat (first | refine blk_drewN ?_ _ | refine blk_drew ?_ | refine blk_alloc ?_ _)); exact BK419.out⟩, ⟨by (with_reducible repeat (first | refine blk_drewN ?_ _ | refine blk_drew ?_ | refine blk_alloc ?_ _)); exact BK424.out⟩, ⟨by (with_reducible repeat (first | refine blk_drewN ?_ _ | refine blk_drew ?_ | refine blk_alloc ?_ _)); exact BK426.out⟩, ⟨by repeat (first | (with_reducible first | exact HB.out | apply below_alloc | apply pw_below_drewN | apply below_drew1 | refine below_set ?_ GE419.out | refine below_set ?_ GE424.out | refine below_set ?_ GE426.out) | exact HB.out)⟩⟩
                       case rest =>
                        clear HC44
                        try clear c1
                        try clear c2
                        try clear p2
                        try clear c3
                        try clear c4
                        try clear p4
                        try clear q4
                        try clear hx4
                        try clear c5
                        try clear c6
                        try clear p6
                        try clear c8
                        try clear c14
                        try clear c14b0
                        try clear c14b1
                        try clear c16
                        try clear c19
                        try clear c19b0
                        try clear c20
                        try clear c20b0
                        try clear c21
                        try clear c21b0
                        try clear c21b1
                        try clear c21b2
                        try clear c22
                        try clear c23
                        try clear c23b0
                        try clear c24
                        try clear c24b0
                        try clear c27
                        try clear c28
                        try clear c31
                        try clear c33
                        try clear c37
                        try clear c37b0
                        try clear c38
                        try clear c41
                        try clear c41b0
                        try clear p42
                        try clear q42
                        try clear hx42
                        try clear c46
                        try clear c47
                        try clear c47b0
                        try clear c47b1
                        try clear c48
                        try clear c48b0
                        try clear c48b1
                        try clear c49
                        try clear c49b0
                        try clear c49b1
                        try clear c50
                        try clear c51
                        try clear c53
                        try clear c55
                        try clear c56
                        try clear c58
                        try clear c60
                        try clear c61
                        try clear c63
                        try clear p64
                        try clear c65
                        try clear c66
                        try clear c68
                        try clear hcz11_0
                        try clear hcz11_1
                        try clear hcz11_2
                        try clear hcz11_3
                        try clear hcz11_4
                        try clear hcz11_5
                        try clear hcz11_6
                        try clear hcz15_0
                        try clear hcz15_1
                        try clear hcz15_2
                        try clear hcz15_3
                        try clear hcz15_4
                        try clear hcz15_5
                        try clear hcz15_6
                        try clear hcz25_0
                        try clear hcz25_1
                        try clear hcz25_2
                        try clear hcz25_3
                        try clear hcz25_4
                        try clear hcz25_5
                        try clear hcz25_6
                        try clear hcz28_0
                        try clear hcz28_1
                        try clear hcz28_2
                        try clear hcz28_3
                        try clear hcz28_4
                        try clear hcz52_0
                        try clear hcz52_1
                        try clear hcz52_2
                        try clear hcz52_3
                        try clear hcz52_4
                        try clear hcz54_0
                        try clear hcz54_1
                        try clear hcz54_2
                        try clear hcz54_3
                        try clear hcz54_4
                        try clear hcz57_0
                        try clear hcz57_1
                        try clear hcz57_2
                        try clear hcz57_3
                        try clear hcz57_4
                        try clear hcz59_0
                        try clear hcz59_1
                        try clear hcz59_2
                        try clear hcz59_3
                        try clear hcz59_4
                        try clear hcz62_0
                        try clear hcz62_1
                        try clear hcz62_2
                        try clear hcz62_3
                        try clear hcz62_4
                        try clear hcz64_0
                        try clear hcz64_1
                        try clear hcz64_2
                        try clear hcz64_3
                        try clear hcz64_4
                        try clear hcz67_0
                        try clear hcz67_1
                        try clear hcz67_2
                        try clear hcz67_3
                        try clear hcz67_4
                        try clear hcz69_0
                        try clear hcz69_1
                        try clear hcz69_2
                        try clear hcz69_3
                        try clear hcz69_4
                        try clear hfz11_0
                        try clear hfz11_1
                        try clear hfz11_2
                        try clear hfz11_3
                        try clear hfz11_4
                        try clear hfz11_5
                        try clear hfz11_6
                        try clear hfz15_0
                        try clear hfz15_1
                        try clear hfz15_2
                        try clear hfz15_3
                        try clear hfz15_4
                        try clear hfz15_5
                        try clear hfz15_6
                        try clear hfz25_0
                        try clear hfz25_1
                        try clear hfz25_2
                        try clear hfz25_3
                        try clear hfz25_4
                        try clear hfz25_5
                        try clear hfz25_6
                        try clear hfz28_0
                        try clear hfz28_1
                        try clear hfz28_2
                        try clear hfz28_3
                        try clear hfz28_4
                        try clear hfz52_0
                        try clear hfz52_1
                        try clear hfz52_2
                        try clear hfz52_3
                        try clear hfz52_4
                        try clear hfz54_0
                        try clear hfz54_1
                        try clear hfz54_2
                        try clear hfz54_3
                        try clear hfz54_4
                        try clear hfz57_0
                        try clear hfz57_1
                        try clear hfz57_2
                        try clear hfz57_3
                        try clear hfz57_4
                        try clear hfz59_0
                        try clear hfz59_1
                        try clear hfz59_2
                        try clear hfz59_3
                        try clear hfz59_4
                        try clear hfz62_0
                        try clear hfz62_1
                        try clear hfz62_2
                        try clear hfz62_3
                        try clear hfz62_4
                        try clear hfz64_0
                        try clear hfz64_1
                        try clear hfz64_2
                        try clear hfz64_3
                        try clear hfz64_4
                        try clear hfz67_0
                        try clear hfz67_1
                        try clear hfz67_2
                        try clear hfz67_3
                        try clear hfz67_4
                        try clear hfz69_0
                        try clear hfz69_1
                        try clear hfz69_2
                        try clear hfz69_3
                        try clear hfz69_4
                        try clear hx423_0
                        try clear hx423_1
                        try clear hx423_2
                        try clear hx423_3
                        try clear hx423_4
                        try clear hx425_0
                        try clear hx425_1
                        try clear hx425_2
                        try clear hx425_3
                        try clear hx425_4
                        try clear hx427_0
                        try clear hx427_1
                        try clear hx427_2
                        try clear hx427_3
                        try clear hx427_4
                        try clear p2
                        try clear p4
                        try clear p423
                        try clear p425
                        try clear p427
                        try clear p6
                        try clear q4
                        try clear q423
                        try clear q425
                        try clear q427
                        obtain ⟨kq, x97_43, rfl, HA, HJ43, HO_9, HO_420002, HO_420006, BK419, BK424, BK426, HB⟩ := hcut
                        cases kq with
                        | zero => exact absurd HA.out (by simp [cartouchelaw12_JudgeRing.j3])
                        | succ kj43 =>
                         have H := HA.out
                         clear HA
                         simp only [cartouchelaw12_JudgeRing.j3] at H
                         by_cases c70 : x97_43 = true
                         · subst c70
                           have H1 : (some false) = some r := by rw [if_pos rfl] at H; exact H
                           clear H
                           have H := H1
                           clear H1
                           obtain rfl := Option.some.inj H
                           go_wp2
                           go_ret
                           exact ⟨by first | rfl | (simp [errW_none, errW_some] <;> rfl) | (simp only [← hji22]; first | rfl | (simp [errW_none, errW_some] <;> rfl)) | (simp [*, errW_none, errW_some] <;> rfl), by repeat (first | (with_reducible first | exact HB.out | apply below_alloc | apply pw_below_drewN | apply below_drew1 | refine below_set ?_ GE419.out | refine below_set ?_ GE424.out | refine below_set ?_ GE426.out) | exact HB.out)⟩
                         · replace c70 := Bool.eq_false_iff.mpr c70
                           subst c70
                           have H1 : (cartouchelaw12_JudgeRing.l0 kj43 a1 t405 t420 (wrap64 (x10_2 + 1)) t407 t408 t409 t412 t413 t414 t415) = some r := by rw [if_neg (show ¬ (false = true) by decide)] at H; exact H
                           clear H
                           have H := H1
                           clear H1
                           have H' := Aside0.mk H
                           clear H
                           go_wp2
                           go_roundg kj43
                           case measure => have := HJ6.out; have := HK2.out; have := HK3.out; have := HJ43.out; omega
                           case rel => exact ⟨(wrap64 (x10_2 + 1)), (by first | rfl | (simp; done) | (simp [*]; done)), H', ⟨by have := HJ6.out; have := HK2.out; have := HK3.out; have := HJ43.out; omega⟩, ⟨by (with_reducible repeat (first | apply Kd.R_alloc | apply Kd.R_drewN | apply Kd.R_drew)); exact Kd.R_mono HO_9.out (fun _ hk => hk.1)⟩, ⟨by (with_reducible repeat (first | apply Kd.R_alloc | apply Kd.R_drewN | apply Kd.R_drew)); exact HO_420002.out⟩, ⟨by (with_reducible repeat (first | apply Kd.R_alloc | apply Kd.R_drewN | apply Kd.R_drew)); exact Kd.R_mono HO_420006.out (fun _ hk => hk.1)⟩, ⟨by (with_reducible repeat (first | refine blk_drewN ?_ _ | refine blk_drew ?_ | refine blk_alloc ?_ _)); exact BK419.out⟩, ⟨by repeat (first | (with_reducible first | exact HB.out | apply below_alloc | apply pw_below_drewN | apply below_drew1 | refine below_set ?_ GE419.out | refine below_set ?_ GE424.out | refine below_set ?_ GE426.out) | exact HB.out)⟩⟩
                 · rw [if_neg c24] at H
                   exact absurd H (by simp)
               · rw [if_neg c23] at H
                 exact absurd H (by simp)
           · rw [if_neg c20] at H
             exact absurd H (by simp)
         · rw [if_neg c19] at H
           have c19b0 : decide (x10_2 < (t415.length : Int)) = false := decide_eq_false c19
           clear c19
           obtain rfl := Option.some.inj H
           have hcz71_0 : wr.cell? ⟨gb419, 0, none⟩ = some (.int .i64 t407) := (blk_cell BK419.out 0).trans rfl
           have hcz71_1 : wr.cell? ⟨gb419, 1, none⟩ = some (.bool t408) := (blk_cell BK419.out 1).trans rfl
           have hcz71_2 : wr.cell? ⟨gb419, 2, none⟩ = some (.slice Ao12 t409.length co12) := (blk_cell BK419.out 2).trans rfl
           have hcz71_3 : wr.cell? ⟨gb419, 3, none⟩ = some (.int .i64 t412) := (blk_cell BK419.out 3).trans rfl
           have hcz71_4 : wr.cell? ⟨gb419, 4, none⟩ = some (.int .i64 t413) := (blk_cell BK419.out 4).trans rfl
           have hcz71_5 : wr.cell? ⟨gb419, 5, none⟩ = some (.int .i64 t414) := (blk_cell BK419.out 5).trans rfl
           have hcz71_6 : wr.cell? ⟨gb419, 6, none⟩ = some (.slice Ao13 t415.length co13) := (blk_cell BK419.out 6).trans rfl
           have hfz71_0 := blk_frozen BK419.out 0
           have hfz71_1 := blk_frozen BK419.out 1
           have hfz71_2 := blk_frozen BK419.out 2
           have hfz71_3 := blk_frozen BK419.out 3
           have hfz71_4 := blk_frozen BK419.out 4
           have hfz71_5 := blk_frozen BK419.out 5
           have hfz71_6 := blk_frozen BK419.out 6
           go_wp2
           go_ret
           exact ⟨by first | rfl | (simp [errW_none, errW_some] <;> rfl) | (simp [*, errW_none, errW_some] <;> rfl), by repeat (first | (with_reducible first | exact HB.out | apply below_alloc | apply pw_below_drewN | apply below_drew1 | refine below_set ?_ GE419.out) | exact HB.out)⟩
 · replace c5 := Bool.eq_false_iff.mpr c5
   subst c5
   have H1 : (some t405) = some r := by rw [if_neg (show ¬ (false = true) by decide)] at H; exact H
   clear H
   have H := H1
   clear H1
   obtain rfl := Option.some.inj H
   go_enter Tryz.func8, Tryz.ntmps8
   go_wp2_with (first | ((with_reducible refine gate_callee (f := 28) rfl ?_); refine goesL_ (some 15) rfl rfl Tryz.func28 (by kernel_rfl) rfl #[] rfl (by (try simp only [List.map_toArray, List.map_cons, List.map_nil]); first | done | rfl | (simp only [List.length_drop, List.length_take]; rfl)) ?_; (with_reducible refine (cartouchelaw12_shown.calls  t405 _ A3.out).mono ?_); rintro e w72 ⟨rfl, hb⟩; refine ⟨_, rfl, ?_⟩; have n0_ := Aside0.mk (below_step (by repeat (first | (with_reducible first | exact HB.out | apply below_alloc | apply pw_below_drewN | apply below_drew1) | exact HB.out)) hb); clear HB; have HB := n0_; clear n0_; (try clear hb); (try clear hb2); (try clear hk); (try clear hi)) | ((with_reducible refine gate_callee (f := 31) rfl ?_); refine goesL_ (some 17) rfl rfl Tryz.func31 (by kernel_rfl) rfl #[.slice A0 l0.length c0] rfl (by (try simp only [List.map_toArray, List.map_cons, List.map_nil]); first | done | rfl | (simp only [List.length_drop, List.length_take]; rfl)) ?_; (with_reducible refine (cartouchelaw12_few.calls _ _ l0 false _ ?side1 ?side2 A4.out).mono ?_); (case side1 => repeat (first | exact (Kd.C_below HR0.out HB.out) | (with_reducible refine Kd.C_alloc ?_ _) | (with_reducible refine Kd.C_drewN ?_ _) | (with_reducible refine Kd.C_drew ?_))); (case side2 => exact HC0.out); rintro e w' ⟨rfl, ⟨nd, rfl⟩⟩; refine ⟨_, rfl, ?_⟩))
   go_ret
   exact ⟨by first | rfl | (simp [errW_none, errW_some] <;> rfl) | (simp [*, errW_none, errW_some] <;> rfl), by repeat (first | (with_reducible first | exact HB.out | apply below_alloc | apply pw_below_drewN | apply below_drew1) | exact HB.out)⟩
end Go.Proofs.YtebjiimlcnmfpaaGreatPr
