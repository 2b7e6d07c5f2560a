/- Contracts of Go functions, printed by a program of this session over the translation: each call answers what its Lean function says. -/
import Derived.Test.YtebjiimlcnmfpaaGreatPr0
import Derived.Test.YtebjiimlcnmfpaaGreatPrCartoucheref10Nodes
import Derived.Test.YtebjiimlcnmfpaaGreatPrCartouchelaw12Few
import Derived.Test.YtebjiimlcnmfpaaGreatPrJudgeJudge
import Derived.Test.YtebjiimlcnmfpaaGreatB12
namespace Go.Proofs.YtebjiimlcnmfpaaGreatPr
open Go.RowKit Go.Proofs.YtebjiimlcnmfpaaGreatW.PrintWords Go.Proofs.YtebjiimlcnmfpaaGreatW.PrintLast Go.Proofs.YtebjiimlcnmfpaaGreatW.PrintMore
attribute [local go_sem] max2_int min2_int max_two min_two max_three min_three max_four min_four   -- for this text's walks alone
set_option linter.unusedVariables false
set_option linter.unusedSimpArgs false

/-! ### cartouchelaw12_JudgeLevels: function 6 -/
mutual
def cartouchelaw12_JudgeLevels.j0 : Nat → List (S50) → Bool → Bool → Int → Bool → List Int → Int → Int → Int → List (S24) → Option (Bool)
  | 0, _, _, _, _, _, _, _, _, _, _ => none
  | k + 1, x0, x3, x44, x335000, x335001, x335002, x335003, x335004, x335005, x335006 => if x44 = true then (some false) else (if x335001 = true then ((cartoucheref10_Nodes.f k x0).bind fun t348 => (cartouchelaw12_JudgeLevels.l0 k x3 t348 0 x335000 x335001 x335002 x335003 x335004 x335005 x335006)) else (some x3))
def cartouchelaw12_JudgeLevels.l0 : Nat → Bool → List Int → Int → Int → Bool → List Int → Int → Int → Int → List (S24) → Option (Bool)
  | 0, _, _, _, _, _, _, _, _, _, _ => none
  | k + 1, x3, x9, x10, x335000, x335001, x335002, x335003, x335004, x335005, x335006 => if x10 < (x9.length : Int) then (cartouchelaw12_JudgeLevels.l1 k x3 x9 x10 0 0 x335000 x335001 x335002 x335003 x335004 x335005 x335006) else (if x3 = true then (some ((x335002.length : Int) == (x9.length : Int))) else (some false))
def cartouchelaw12_JudgeLevels.l1 : Nat → Bool → List Int → Int → Int → Int → Int → Bool → List Int → Int → Int → Int → List (S24) → Option (Bool)
  | 0, _, _, _, _, _, _, _, _, _, _, _, _ => none
  | k + 1, x3, x9, x10, x11, x12, x335000, x335001, x335002, x335003, x335004, x335005, x335006 => if x12 < (x335002.length : Int) then (if 0 ≤ x12 then (if 0 ≤ x10 then (if x10 < (x9.length : Int) then (if (rd x335002 x12) = (rd x9 x10) then (cartouchelaw12_JudgeLevels.l1 k x3 x9 x10 (wrap64 (x11 + 1)) (wrap64 (x12 + 1)) x335000 x335001 x335002 x335003 x335004 x335005 x335006) else (cartouchelaw12_JudgeLevels.l1 k x3 x9 x10 x11 (wrap64 (x12 + 1)) x335000 x335001 x335002 x335003 x335004 x335005 x335006)) else (none)) else (none)) else (none)) else (if x11 = 1 then (cartouchelaw12_JudgeLevels.l0 k x3 x9 (wrap64 (x10 + 1)) x335000 x335001 x335002 x335003 x335004 x335005 x335006) else (some false))
end
def cartouchelaw12_JudgeLevels.f (k : Nat) (l0 : List (S50)) : Option (Bool) := (cartouchelaw12_shown.f).bind fun t320 => ((cartouchelaw12_few.f l0).bind fun t321 => (if t321 = true then ((judge_Judge.f k l0 1).bind fun bt322 => ((judge_Judge.f k l0 2).bind fun bt335 => (if bt322.2.2.2.2.2.2.2 = bt335.2.2.2.2.2.2.2 then (if bt322.2.2.2.2.2.2.2 = 0 then (if bt322.2.1 = true then (cartouchelaw12_JudgeLevels.j0 k l0 t320 (!bt335.2.1) bt322.1 bt322.2.1 bt322.2.2.1 bt322.2.2.2.1 bt322.2.2.2.2.1 bt322.2.2.2.2.2.1 bt322.2.2.2.2.2.2.1) else (cartouchelaw12_JudgeLevels.j0 k l0 t320 false bt322.1 bt322.2.1 bt322.2.2.1 bt322.2.2.2.1 bt322.2.2.2.2.1 bt322.2.2.2.2.2.1 bt322.2.2.2.2.2.2.1)) else (cartouchelaw12_JudgeLevels.j0 k l0 t320 false bt322.1 bt322.2.1 bt322.2.2.1 bt322.2.2.2.1 bt322.2.2.2.2.1 bt322.2.2.2.2.2.1 bt322.2.2.2.2.2.2.1)) else (cartouchelaw12_JudgeLevels.j0 k l0 t320 true bt322.1 bt322.2.1 bt322.2.2.1 bt322.2.2.2.1 bt322.2.2.2.2.1 bt322.2.2.2.2.2.1 bt322.2.2.2.2.2.2.1)))) else (some t320)))
theorem cartouchelaw12_JudgeLevels.mono_l : ∀ k, (∀ y0 y1 y2 y3 y4 y5 y6 y7 y8 y9, LeO (cartouchelaw12_JudgeLevels.j0 k y0 y1 y2 y3 y4 y5 y6 y7 y8 y9) (cartouchelaw12_JudgeLevels.j0 (k + 1) y0 y1 y2 y3 y4 y5 y6 y7 y8 y9)) ∧ (∀ y0 y1 y2 y3 y4 y5 y6 y7 y8 y9, LeO (cartouchelaw12_JudgeLevels.l0 k y0 y1 y2 y3 y4 y5 y6 y7 y8 y9) (cartouchelaw12_JudgeLevels.l0 (k + 1) y0 y1 y2 y3 y4 y5 y6 y7 y8 y9)) ∧ (∀ y0 y1 y2 y3 y4 y5 y6 y7 y8 y9 y10 y11, LeO (cartouchelaw12_JudgeLevels.l1 k y0 y1 y2 y3 y4 y5 y6 y7 y8 y9 y10 y11) (cartouchelaw12_JudgeLevels.l1 (k + 1) y0 y1 y2 y3 y4 y5 y6 y7 y8 y9 y10 y11))
  | 0 => ⟨fun _ _ _ _ _ _ _ _ _ _ r h => by simp [cartouchelaw12_JudgeLevels.j0] at h, fun _ _ _ _ _ _ _ _ _ _ r h => by simp [cartouchelaw12_JudgeLevels.l0] at h, fun _ _ _ _ _ _ _ _ _ _ _ _ r h => by simp [cartouchelaw12_JudgeLevels.l1] at h⟩
  | k + 1 => by
    obtain ⟨ih0, ih1, ih2⟩ := cartouchelaw12_JudgeLevels.mono_l k
    refine ⟨?_, ?_, ?_⟩
    · intro y0 y1 y2 y3 y4 y5 y6 y7 y8 y9
      unfold cartouchelaw12_JudgeLevels.j0
      repeat' first
      | (with_reducible exact ih0 _ _ _ _ _ _ _ _ _ _)
      | (with_reducible exact ih1 _ _ _ _ _ _ _ _ _ _)
      | (with_reducible exact ih2 _ _ _ _ _ _ _ _ _ _ _ _)
      | (with_reducible exact cartoucheref10_Nodes.mono _ _)
      | (with_reducible exact judge_Judge.mono _ _ _)
      | (with_reducible exact LeO.refl _)
      | (with_reducible exact LeO.none _)
      | (with_reducible refine LeO.ite ?_ ?_)
      | (with_reducible refine LeO.bind ?_ (fun _ => ?_))
      | exact ih0 _ _ _ _ _ _ _ _ _ _
      | exact ih1 _ _ _ _ _ _ _ _ _ _
      | exact ih2 _ _ _ _ _ _ _ _ _ _ _ _
      | exact cartoucheref10_Nodes.mono _ _
      | exact judge_Judge.mono _ _ _
      | exact LeO.none _
      | refine LeO.ite ?_ ?_
      | refine LeO.bind ?_ (fun _ => ?_)
    · intro y0 y1 y2 y3 y4 y5 y6 y7 y8 y9
      unfold cartouchelaw12_JudgeLevels.l0
      repeat' first
      | (with_reducible exact ih0 _ _ _ _ _ _ _ _ _ _)
      | (with_reducible exact ih1 _ _ _ _ _ _ _ _ _ _)
      | (with_reducible exact ih2 _ _ _ _ _ _ _ _ _ _ _ _)
      | (with_reducible exact cartoucheref10_Nodes.mono _ _)
      | (with_reducible exact judge_Judge.mono _ _ _)
      | (with_reducible exact LeO.refl _)
      | (with_reducible exact LeO.none _)
      | (with_reducible refine LeO.ite ?_ ?_)
      | (with_reducible refine LeO.bind ?_ (fun _ => ?_))
      | exact ih0 _ _ _ _ _ _ _ _ _ _
      | exact ih1 _ _ _ _ _ _ _ _ _ _
      | exact ih2 _ _ _ _ _ _ _ _ _ _ _ _
      | exact cartoucheref10_Nodes.mono _ _
      | exact judge_Judge.mono _ _ _
      | exact LeO.none _
      | refine LeO.ite ?_ ?_
      | refine LeO.bind ?_ (fun _ => ?_)
    · intro y0 y1 y2 y3 y4 y5 y6 y7 y8 y9 y10 y11
      unfold cartouchelaw12_JudgeLevels.l1
      repeat' first
      | (with_reducible exact ih0 _ _ _ _ _ _ _ _ _ _)
      | (with_reducible exact ih1 _ _ _ _ _ _ _ _ _ _)
      | (with_reducible exact ih2 _ _ _ _ _ _ _ _ _ _ _ _)
      | (with_reducible exact cartoucheref10_Nodes.mono _ _)
      | (with_reducible exact judge_Judge.mono _ _ _)
      | (with_reducible exact LeO.refl _)
      | (with_reducible exact LeO.none _)
      | (with_reducible refine LeO.ite ?_ ?_)
      | (with_reducible refine LeO.bind ?_ (fun _ => ?_))
      | exact ih0 _ _ _ _ _ _ _ _ _ _
      | exact ih1 _ _ _ _ _ _ _ _ _ _
      | exact ih2 _ _ _ _ _ _ _ _ _ _ _ _
      | exact cartoucheref10_Nodes.mono _ _
      | exact judge_Judge.mono _ _ _
      | exact LeO.none _
      | refine LeO.ite ?_ ?_
      | refine LeO.bind ?_ (fun _ => ?_)
theorem cartouchelaw12_JudgeLevels.mono : ∀ a0 k, LeO (cartouchelaw12_JudgeLevels.f k a0) (cartouchelaw12_JudgeLevels.f (k + 1) a0) := by
  intro a0 k
  obtain ⟨ih0, ih1, ih2⟩ := cartouchelaw12_JudgeLevels.mono_l k
  unfold cartouchelaw12_JudgeLevels.f
  repeat' first
      | (with_reducible exact ih0 _ _ _ _ _ _ _ _ _ _)
      | (with_reducible exact ih1 _ _ _ _ _ _ _ _ _ _)
      | (with_reducible exact ih2 _ _ _ _ _ _ _ _ _ _ _ _)
      | (with_reducible exact cartoucheref10_Nodes.mono _ _)
      | (with_reducible exact judge_Judge.mono _ _ _)
      | (with_reducible exact LeO.refl _)
      | (with_reducible exact LeO.none _)
      | (with_reducible refine LeO.ite ?_ ?_)
      | (with_reducible refine LeO.bind ?_ (fun _ => ?_))
      | exact ih0 _ _ _ _ _ _ _ _ _ _
      | exact ih1 _ _ _ _ _ _ _ _ _ _
      | exact ih2 _ _ _ _ _ _ _ _ _ _ _ _
      | exact cartoucheref10_Nodes.mono _ _
      | exact judge_Judge.mono _ _ _
      | exact LeO.none _
      | refine LeO.ite ?_ ?_
      | refine LeO.bind ?_ (fun _ => ?_)
set_option maxHeartbeats 8000000 in
set_option maxRecDepth 100000 in
theorem cartouchelaw12_JudgeLevels.calls (k : Nat) (A0 : Option Addr) (c0 : Nat) (l0 : List (S50)) (r : Bool) (w : World) (hr0 : Kd.C k50 w A0 l0.length l0) (hc0 : l0.length ≤ c0) (h : cartouchelaw12_JudgeLevels.f k l0 = some r) :
    Calls Tryz.prog 6 #[.slice A0 l0.length c0] w fun e w' => e = .returned (.bool r) ∧ Below w.heap.size w w' := by
  have hu42 := Tryz.underlying42
  have HR0 := Aside0.mk hr0
  have HC0 := Aside0.mk hc0
  clear hr0 hc0
  have HB := Aside0.mk (Below.refl w.heap.size w)
  have H : ((cartouchelaw12_shown.f).bind fun t320 => ((cartouchelaw12_few.f l0).bind fun t321 => (if t321 = true then ((judge_Judge.f k l0 1).bind fun bt322 => ((judge_Judge.f k l0 2).bind fun bt335 => (if bt322.2.2.2.2.2.2.2 = bt335.2.2.2.2.2.2.2 then (if bt322.2.2.2.2.2.2.2 = 0 then (if bt322.2.1 = true then (cartouchelaw12_JudgeLevels.j0 k l0 t320 (!bt335.2.1) bt322.1 bt322.2.1 bt322.2.2.1 bt322.2.2.2.1 bt322.2.2.2.2.1 bt322.2.2.2.2.2.1 bt322.2.2.2.2.2.2.1) else (cartouchelaw12_JudgeLevels.j0 k l0 t320 false bt322.1 bt322.2.1 bt322.2.2.1 bt322.2.2.2.1 bt322.2.2.2.2.1 bt322.2.2.2.2.2.1 bt322.2.2.2.2.2.2.1)) else (cartouchelaw12_JudgeLevels.j0 k l0 t320 false bt322.1 bt322.2.1 bt322.2.2.1 bt322.2.2.2.1 bt322.2.2.2.2.1 bt322.2.2.2.2.2.1 bt322.2.2.2.2.2.2.1)) else (cartouchelaw12_JudgeLevels.j0 k l0 t320 true bt322.1 bt322.2.1 bt322.2.2.1 bt322.2.2.2.1 bt322.2.2.2.2.1 bt322.2.2.2.2.2.1 bt322.2.2.2.2.2.2.1)))) else (some t320)))) = some r := h
  clear h
  replace H := Option.bind_eq_some_iff.mp H
  obtain ⟨t320, A20, H⟩ := H
  replace H : ((cartouchelaw12_few.f l0).bind fun t321 => (if t321 = true then ((judge_Judge.f k l0 1).bind fun bt322 => ((judge_Judge.f k l0 2).bind fun bt335 => (if bt322.2.2.2.2.2.2.2 = bt335.2.2.2.2.2.2.2 then (if bt322.2.2.2.2.2.2.2 = 0 then (if bt322.2.1 = true then (cartouchelaw12_JudgeLevels.j0 k l0 t320 (!bt335.2.1) bt322.1 bt322.2.1 bt322.2.2.1 bt322.2.2.2.1 bt322.2.2.2.2.1 bt322.2.2.2.2.2.1 bt322.2.2.2.2.2.2.1) else (cartouchelaw12_JudgeLevels.j0 k l0 t320 false bt322.1 bt322.2.1 bt322.2.2.1 bt322.2.2.2.1 bt322.2.2.2.2.1 bt322.2.2.2.2.2.1 bt322.2.2.2.2.2.2.1)) else (cartouchelaw12_JudgeLevels.j0 k l0 t320 false bt322.1 bt322.2.1 bt322.2.2.1 bt322.2.2.2.1 bt322.2.2.2.2.1 bt322.2.2.2.2.2.1 bt322.2.2.2.2.2.2.1)) else (cartouchelaw12_JudgeLevels.j0 k l0 t320 true bt322.1 bt322.2.1 bt322.2.2.1 bt322.2.2.2.1 bt322.2.2.2.2.1 bt322.2.2.2.2.2.1 bt322.2.2.2.2.2.2.1)))) else (some t320))) = some r := H
  have A2 := Aside0.mk A20
  clear A20
  replace H := Option.bind_eq_some_iff.mp H
  obtain ⟨t321, A30, H⟩ := H
  replace H : (if t321 = true then ((judge_Judge.f k l0 1).bind fun bt322 => ((judge_Judge.f k l0 2).bind fun bt335 => (if bt322.2.2.2.2.2.2.2 = bt335.2.2.2.2.2.2.2 then (if bt322.2.2.2.2.2.2.2 = 0 then (if bt322.2.1 = true then (cartouchelaw12_JudgeLevels.j0 k l0 t320 (!bt335.2.1) bt322.1 bt322.2.1 bt322.2.2.1 bt322.2.2.2.1 bt322.2.2.2.2.1 bt322.2.2.2.2.2.1 bt322.2.2.2.2.2.2.1) else (cartouchelaw12_JudgeLevels.j0 k l0 t320 false bt322.1 bt322.2.1 bt322.2.2.1 bt322.2.2.2.1 bt322.2.2.2.2.1 bt322.2.2.2.2.2.1 bt322.2.2.2.2.2.2.1)) else (cartouchelaw12_JudgeLevels.j0 k l0 t320 false bt322.1 bt322.2.1 bt322.2.2.1 bt322.2.2.2.1 bt322.2.2.2.2.1 bt322.2.2.2.2.2.1 bt322.2.2.2.2.2.2.1)) else (cartouchelaw12_JudgeLevels.j0 k l0 t320 true bt322.1 bt322.2.1 bt322.2.2.1 bt322.2.2.2.1 bt322.2.2.2.2.1 bt322.2.2.2.2.2.1 bt322.2.2.2.2.2.2.1)))) else (some t320)) = some r := H
  have A3 := Aside0.mk A30
  clear A30
  by_cases c4 : t321 = true
  · subst c4
    have H1 : ((judge_Judge.f k l0 1).bind fun bt322 => ((judge_Judge.f k l0 2).bind fun bt335 => (if bt322.2.2.2.2.2.2.2 = bt335.2.2.2.2.2.2.2 then (if bt322.2.2.2.2.2.2.2 = 0 then (if bt322.2.1 = true then (cartouchelaw12_JudgeLevels.j0 k l0 t320 (!bt335.2.1) bt322.1 bt322.2.1 bt322.2.2.1 bt322.2.2.2.1 bt322.2.2.2.2.1 bt322.2.2.2.2.2.1 bt322.2.2.2.2.2.2.1) else (cartouchelaw12_JudgeLevels.j0 k l0 t320 false bt322.1 bt322.2.1 bt322.2.2.1 bt322.2.2.2.1 bt322.2.2.2.2.1 bt322.2.2.2.2.2.1 bt322.2.2.2.2.2.2.1)) else (cartouchelaw12_JudgeLevels.j0 k l0 t320 false bt322.1 bt322.2.1 bt322.2.2.1 bt322.2.2.2.1 bt322.2.2.2.2.1 bt322.2.2.2.2.2.1 bt322.2.2.2.2.2.2.1)) else (cartouchelaw12_JudgeLevels.j0 k l0 t320 true bt322.1 bt322.2.1 bt322.2.2.1 bt322.2.2.2.1 bt322.2.2.2.2.1 bt322.2.2.2.2.2.1 bt322.2.2.2.2.2.2.1)))) = some r := by rw [if_pos rfl] at H; exact H
    clear H
    have H := H1
    clear H1
    replace H := Option.bind_eq_some_iff.mp H
    obtain ⟨⟨t322, t323, t324, t327, t328, t329, t330, t333⟩, A50, H⟩ := H
    replace H : ((judge_Judge.f k l0 2).bind fun bt335 => (if t333 = bt335.2.2.2.2.2.2.2 then (if t333 = 0 then (if t323 = true then (cartouchelaw12_JudgeLevels.j0 k l0 t320 (!bt335.2.1) t322 t323 t324 t327 t328 t329 t330) else (cartouchelaw12_JudgeLevels.j0 k l0 t320 false t322 t323 t324 t327 t328 t329 t330)) else (cartouchelaw12_JudgeLevels.j0 k l0 t320 false t322 t323 t324 t327 t328 t329 t330)) else (cartouchelaw12_JudgeLevels.j0 k l0 t320 true t322 t323 t324 t327 t328 t329 t330))) = some r := H
    have A5 := Aside0.mk A50
    clear A50
    replace H := Option.bind_eq_some_iff.mp H
    obtain ⟨⟨t335, t336, t337, t340, t341, t342, t343, t346⟩, A60, H⟩ := H
    replace H : (if t333 = t346 then (if t333 = 0 then (if t323 = true then (cartouchelaw12_JudgeLevels.j0 k l0 t320 (!t336) t322 t323 t324 t327 t328 t329 t330) else (cartouchelaw12_JudgeLevels.j0 k l0 t320 false t322 t323 t324 t327 t328 t329 t330)) else (cartouchelaw12_JudgeLevels.j0 k l0 t320 false t322 t323 t324 t327 t328 t329 t330)) else (cartouchelaw12_JudgeLevels.j0 k l0 t320 true t322 t323 t324 t327 t328 t329 t330)) = some r := H
    have A6 := Aside0.mk A60
    clear A60
    have HC7 := Aside0.mk H
    clear H
    go_enter Tryz.func6, Tryz.ntmps6
    go_upto_region 7 with (first | (go_at_call 28; (with_reducible refine (cartouchelaw12_shown.calls  t320 _ A2.out).mono ?_); rintro e w8 ⟨rfl, hb⟩; have n0_ := Aside0.mk (below_step (by repeat (first | (with_reducible first | exact HB.out | apply below_alloc | apply pw_below_drewN | apply below_drew1) | exact HB.out)) hb); clear HB; have HB := n0_; clear n0_; (try clear hb); (try clear hb2); (try clear hk); (try clear hi)) | (go_at_call 31; (with_reducible refine (cartouchelaw12_few.calls _ _ l0 true _ ?side1 ?side2 A3.out).mono ?_); (case side1 => repeat (first | exact (Kd.C_below HR0.out HB.out) | (with_reducible refine Kd.C_alloc ?_ _) | (with_reducible refine Kd.C_drewN ?_ _) | (with_reducible refine Kd.C_drew ?_))); (case side2 => exact HC0.out); rintro e w' ⟨rfl, ⟨nd, rfl⟩⟩; (try first | exact ⟨rfl, _, World.drewN_drewN _ _ _⟩ | exact ⟨rfl, _, Eq.trans (World.drewN_drewN _ _ _) (congrArg (World.drewN _) (Nat.add_assoc _ _ _))⟩)) | (go_at_call 33; (with_reducible refine (judge_Judge.calls k _ _ l0 1 t322 t323 t324 t327 t328 t329 t330 t333 _ ?side1 ?side2 A5.out).mono ?_); (case side1 => repeat (first | exact (Kd.C_below HR0.out (by repeat (first | (with_reducible first | exact HB.out | apply below_alloc | apply pw_below_drewN | apply below_drew1) | exact HB.out))) | (with_reducible refine Kd.C_alloc ?_ _) | (with_reducible refine Kd.C_drewN ?_ _) | (with_reducible refine Kd.C_drew ?_))); (case side2 => exact HC0.out); rintro e w9 ⟨v325, v331, rfl, ho0, ho1, hb⟩; have n0_ := Aside0.mk (Kd.R_lower ho0 (below_size (by repeat (first | (with_reducible first | exact HB.out | apply below_alloc | apply pw_below_drewN | apply below_drew1) | exact HB.out)))); have n1_ := Aside0.mk (Kd.R_lower ho1 (below_size (by repeat (first | (with_reducible first | exact HB.out | apply below_alloc | apply pw_below_drewN | apply below_drew1) | exact HB.out)))); have n2_ := Aside0.mk (below_step (by repeat (first | (with_reducible first | exact HB.out | apply below_alloc | apply pw_below_drewN | apply below_drew1) | exact HB.out)) hb); clear HB; have HO326 := n0_; have HO332 := n1_; have HB := n2_; clear n0_ n1_ n2_; (try clear hb); (try clear hb2); (try clear hk); (try clear hi); (try clear ho0); (try clear ho1)) | ((with_reducible refine gate_dst (N := 5) rfl ?_); (try (refine gate_guard (by rfl) ?_; dsimp only)); refine box_event ?hg (N := 5) ?hd (cs := #[.int .i64 0, .bool false, .slice none 0 0, .int .i64 0, .int .i64 0, .int .i64 0, .slice none 0 0]) (t := 42) ?hr ?_; (case hd => rfl); (case hg => rfl); (case hr => first | (go_simp; done) | (go_simp; rfl)); intro gb334 hg w10 hbox hb; have n0_ := Aside0.mk (Kd.R_below (by (with_reducible repeat (first | apply Kd.R_alloc | apply Kd.R_drewN | apply Kd.R_drew)); exact HO326.out) hb); have n1_ := Aside0.mk (Kd.R_below (by (with_reducible repeat (first | apply Kd.R_alloc | apply Kd.R_drewN | apply Kd.R_drew)); exact HO332.out) hb); have n2_ := Aside0.mk (below_step (by repeat (first | (with_reducible first | exact HB.out | apply below_alloc | apply pw_below_drewN | apply below_drew1) | exact HB.out)) hb); have n3_ := Aside0.mk (hbox); have n4_ := Aside0.mk ((by rw [hg]; exact (below_size (by repeat (first | (with_reducible first | exact HB.out | apply below_alloc | apply pw_below_drewN | apply below_drew1) | exact HB.out))) : w.heap.size ≤ gb334)); have n5_ := Aside0.mk ((by rw [hg]; exact (below_size (by repeat (first | (with_reducible first | exact HB.out | apply below_alloc | apply pw_below_drewN | apply below_drew1) | exact HB.out))) : w.heap.size ≤ gb334)); clear HO326; clear HO332; clear HB; have HO326 := n0_; have HO332 := n1_; have HB := n2_; have BK334 := n3_; have GW334 := n4_; have GE334 := n5_; clear n0_ n1_ n2_ n3_ n4_ n5_; clear hb hbox hg; have hcz11_0 : w10.cell? ⟨gb334, 0, none⟩ = some (.int .i64 0) := (blk_cell BK334.out 0).trans rfl; have hcz11_1 : w10.cell? ⟨gb334, 1, none⟩ = some (.bool false) := (blk_cell BK334.out 1).trans rfl; have hcz11_2 : w10.cell? ⟨gb334, 2, none⟩ = some (.slice none 0 0) := (blk_cell BK334.out 2).trans rfl; have hcz11_3 : w10.cell? ⟨gb334, 3, none⟩ = some (.int .i64 0) := (blk_cell BK334.out 3).trans rfl; have hcz11_4 : w10.cell? ⟨gb334, 4, none⟩ = some (.int .i64 0) := (blk_cell BK334.out 4).trans rfl; have hcz11_5 : w10.cell? ⟨gb334, 5, none⟩ = some (.int .i64 0) := (blk_cell BK334.out 5).trans rfl; have hcz11_6 : w10.cell? ⟨gb334, 6, none⟩ = some (.slice none 0 0) := (blk_cell BK334.out 6).trans rfl; have hfz11_0 := blk_frozen BK334.out 0; have hfz11_1 := blk_frozen BK334.out 1; have hfz11_2 := blk_frozen BK334.out 2; have hfz11_3 := blk_frozen BK334.out 3; have hfz11_4 := blk_frozen BK334.out 4; have hfz11_5 := blk_frozen BK334.out 5; have hfz11_6 := blk_frozen BK334.out 6; obtain ⟨Ao12, co12, eo12⟩ := Kd.R_slice HO326.out; subst eo12; obtain ⟨Ao13, co13, eo13⟩ := Kd.R_slice HO332.out; subst eo13) | (go_at_call 33; (with_reducible refine (judge_Judge.calls k _ _ l0 2 t335 t336 t337 t340 t341 t342 t343 t346 _ ?side1 ?side2 A6.out).mono ?_); (case side1 => exact Kd.C_below HR0.out (by repeat (first | (with_reducible first | exact HB.out | apply below_alloc | apply pw_below_drewN | apply below_drew1 | refine below_set ?_ GE334.out) | exact HB.out))); (case side2 => exact HC0.out); rintro e w14 ⟨v338, v344, rfl, ho0, ho1, hb⟩; have n0_ := Aside0.mk (Kd.R_elder' (by (with_reducible repeat (first | apply Kd.R_alloc | apply Kd.R_drewN | apply Kd.R_drew)); exact (Kd.R_mono (Kd.R_far (p := ⟨gb334, 6, none⟩) (Kd.R_far (p := ⟨gb334, 5, none⟩) (Kd.R_far (p := ⟨gb334, 4, none⟩) (Kd.R_far (p := ⟨gb334, 3, none⟩) (Kd.R_far (p := ⟨gb334, 2, none⟩) (Kd.R_far (p := ⟨gb334, 1, none⟩) (Kd.R_far (p := ⟨gb334, 0, none⟩) (Kd.R_types HO326.out BK334.out (by decide)) (fun _ hk => hk.2) (.int .i64 t322)) (fun _ hk => hk.2) (.bool t323)) (fun _ hk => hk.2) (.slice Ao12 t324.length co12)) (fun _ hk => hk.2) (.int .i64 t327)) (fun _ hk => hk.2) (.int .i64 t328)) (fun _ hk => hk.2) (.int .i64 t329)) (fun _ hk => hk.2) (.slice Ao13 t330.length co13)) (fun _ h_ => h_.1))) (Kd.R_base ho0) hb); have n1_ := Aside0.mk (Kd.R_elder' (by (with_reducible repeat (first | apply Kd.R_alloc | apply Kd.R_drewN | apply Kd.R_drew)); exact (Kd.R_mono (Kd.R_far (p := ⟨gb334, 6, none⟩) (Kd.R_far (p := ⟨gb334, 5, none⟩) (Kd.R_far (p := ⟨gb334, 4, none⟩) (Kd.R_far (p := ⟨gb334, 3, none⟩) (Kd.R_far (p := ⟨gb334, 2, none⟩) (Kd.R_far (p := ⟨gb334, 1, none⟩) (Kd.R_far (p := ⟨gb334, 0, none⟩) (Kd.R_types HO332.out BK334.out (by decide)) (fun _ hk => hk.2) (.int .i64 t322)) (fun _ hk => hk.2) (.bool t323)) (fun _ hk => hk.2) (.slice Ao12 t324.length co12)) (fun _ hk => hk.2) (.int .i64 t327)) (fun _ hk => hk.2) (.int .i64 t328)) (fun _ hk => hk.2) (.int .i64 t329)) (fun _ hk => hk.2) (.slice Ao13 t330.length co13)) (fun _ h_ => h_.1))) (Kd.R_base ho1) hb); have n2_ := Aside0.mk (Kd.R_lower (Kd.R_new' ho0 (Kd.R_lt (by (with_reducible repeat (first | apply Kd.R_alloc | apply Kd.R_drewN | apply Kd.R_drew)); exact (Kd.R_mono (Kd.R_far (p := ⟨gb334, 6, none⟩) (Kd.R_far (p := ⟨gb334, 5, none⟩) (Kd.R_far (p := ⟨gb334, 4, none⟩) (Kd.R_far (p := ⟨gb334, 3, none⟩) (Kd.R_far (p := ⟨gb334, 2, none⟩) (Kd.R_far (p := ⟨gb334, 1, none⟩) (Kd.R_far (p := ⟨gb334, 0, none⟩) (Kd.R_types HO326.out BK334.out (by decide)) (fun _ hk => hk.2) (.int .i64 t322)) (fun _ hk => hk.2) (.bool t323)) (fun _ hk => hk.2) (.slice Ao12 t324.length co12)) (fun _ hk => hk.2) (.int .i64 t327)) (fun _ hk => hk.2) (.int .i64 t328)) (fun _ hk => hk.2) (.int .i64 t329)) (fun _ hk => hk.2) (.slice Ao13 t330.length co13)) (fun _ h_ => h_.1))))) (below_size (by repeat (first | (with_reducible first | exact HB.out | apply below_alloc | apply pw_below_drewN | apply below_drew1 | refine below_set ?_ GE334.out) | exact HB.out)))); have n3_ := Aside0.mk (Kd.R_lower (Kd.R_new' ho1 (Kd.R_lt (by (with_reducible repeat (first | apply Kd.R_alloc | apply Kd.R_drewN | apply Kd.R_drew)); exact (Kd.R_mono (Kd.R_far (p := ⟨gb334, 6, none⟩) (Kd.R_far (p := ⟨gb334, 5, none⟩) (Kd.R_far (p := ⟨gb334, 4, none⟩) (Kd.R_far (p := ⟨gb334, 3, none⟩) (Kd.R_far (p := ⟨gb334, 2, none⟩) (Kd.R_far (p := ⟨gb334, 1, none⟩) (Kd.R_far (p := ⟨gb334, 0, none⟩) (Kd.R_types HO332.out BK334.out (by decide)) (fun _ hk => hk.2) (.int .i64 t322)) (fun _ hk => hk.2) (.bool t323)) (fun _ hk => hk.2) (.slice Ao12 t324.length co12)) (fun _ hk => hk.2) (.int .i64 t327)) (fun _ hk => hk.2) (.int .i64 t328)) (fun _ hk => hk.2) (.int .i64 t329)) (fun _ hk => hk.2) (.slice Ao13 t330.length co13)) (fun _ h_ => h_.1))))) (below_size (by repeat (first | (with_reducible first | exact HB.out | apply below_alloc | apply pw_below_drewN | apply below_drew1 | refine below_set ?_ GE334.out) | exact HB.out)))); have n4_ := Aside0.mk (blk_below (g := gb334) (o := .cells #[.int .i64 t322, .bool t323, .slice Ao12 t324.length co12, .int .i64 t327, .int .i64 t328, .int .i64 t329, .slice Ao13 t330.length co13] 42 (0, 0)) (by (with_reducible repeat (first | refine blk_drewN ?_ _ | refine blk_drew ?_ | refine blk_alloc ?_ _)); refine blk_put (cs := #[.int .i64 t322, .bool t323, .slice Ao12 t324.length co12, .int .i64 t327, .int .i64 t328, .int .i64 t329, .slice none 0 0]) ?_ 6 _ rfl; (with_reducible repeat (first | refine blk_drewN ?_ _ | refine blk_drew ?_ | refine blk_alloc ?_ _)); refine blk_put (cs := #[.int .i64 t322, .bool t323, .slice Ao12 t324.length co12, .int .i64 t327, .int .i64 t328, .int .i64 0, .slice none 0 0]) ?_ 5 _ rfl; (with_reducible repeat (first | refine blk_drewN ?_ _ | refine blk_drew ?_ | refine blk_alloc ?_ _)); refine blk_put (cs := #[.int .i64 t322, .bool t323, .slice Ao12 t324.length co12, .int .i64 t327, .int .i64 0, .int .i64 0, .slice none 0 0]) ?_ 4 _ rfl; (with_reducible repeat (first | refine blk_drewN ?_ _ | refine blk_drew ?_ | refine blk_alloc ?_ _)); refine blk_put (cs := #[.int .i64 t322, .bool t323, .slice Ao12 t324.length co12, .int .i64 0, .int .i64 0, .int .i64 0, .slice none 0 0]) ?_ 3 _ rfl; (with_reducible repeat (first | refine blk_drewN ?_ _ | refine blk_drew ?_ | refine blk_alloc ?_ _)); refine blk_put (cs := #[.int .i64 t322, .bool t323, .slice none 0 0, .int .i64 0, .int .i64 0, .int .i64 0, .slice none 0 0]) ?_ 2 _ rfl; (with_reducible repeat (first | refine blk_drewN ?_ _ | refine blk_drew ?_ | refine blk_alloc ?_ _)); refine blk_put (cs := #[.int .i64 t322, .bool false, .slice none 0 0, .int .i64 0, .int .i64 0, .int .i64 0, .slice none 0 0]) ?_ 1 _ rfl; (with_reducible repeat (first | refine blk_drewN ?_ _ | refine blk_drew ?_ | refine blk_alloc ?_ _)); refine blk_put (cs := #[.int .i64 0, .bool false, .slice none 0 0, .int .i64 0, .int .i64 0, .int .i64 0, .slice none 0 0]) ?_ 0 _ rfl; (with_reducible repeat (first | refine blk_drewN ?_ _ | refine blk_drew ?_ | refine blk_alloc ?_ _)); exact BK334.out) hb); have n5_ := Aside0.mk (below_step (by repeat (first | (with_reducible first | exact HB.out | apply below_alloc | apply pw_below_drewN | apply below_drew1 | refine below_set ?_ GE334.out) | exact HB.out)) hb); clear HO326; clear HO332; clear BK334; clear HB; have HO326 := n0_; have HO332 := n1_; have HO339 := n2_; have HO345 := n3_; have BK334 := n4_; have HB := n5_; clear n0_ n1_ n2_ n3_ n4_ n5_; (try clear hb); (try clear hb2); (try clear hk); (try clear hi); (try clear ho0); (try clear ho1)) | ((with_reducible refine gate_dst (N := 7) rfl ?_); (try (refine gate_guard (by rfl) ?_; dsimp only)); refine box_event ?hg (N := 7) ?hd (cs := #[.int .i64 0, .bool false, .slice none 0 0, .int .i64 0, .int .i64 0, .int .i64 0, .slice none 0 0]) (t := 42) ?hr ?_; (case hd => rfl); (case hg => rfl); (case hr => first | (go_simp; done) | (go_simp; rfl)); intro gb347 hg w15 hbox hb; have n0_ := Aside0.mk (Kd.R_below (by (with_reducible repeat (first | apply Kd.R_alloc | apply Kd.R_drewN | apply Kd.R_drew)); exact HO326.out) hb); have n1_ := Aside0.mk (Kd.R_below (by (with_reducible repeat (first | apply Kd.R_alloc | apply Kd.R_drewN | apply Kd.R_drew)); exact HO332.out) hb); have n2_ := Aside0.mk (Kd.R_below (by (with_reducible repeat (first | apply Kd.R_alloc | apply Kd.R_drewN | apply Kd.R_drew)); exact HO339.out) hb); have n3_ := Aside0.mk (Kd.R_below (by (with_reducible repeat (first | apply Kd.R_alloc | apply Kd.R_drewN | apply Kd.R_drew)); exact HO345.out) hb); have n4_ := Aside0.mk (blk_below (g := gb334) (o := .cells #[.int .i64 t322, .bool t323, .slice Ao12 t324.length co12, .int .i64 t327, .int .i64 t328, .int .i64 t329, .slice Ao13 t330.length co13] 42 (0, 0)) (by (with_reducible repeat (first | refine blk_drewN ?_ _ | refine blk_drew ?_ | refine blk_alloc ?_ _)); exact BK334.out) hb); have n5_ := Aside0.mk (below_step (by repeat (first | (with_reducible first | exact HB.out | apply below_alloc | apply pw_below_drewN | apply below_drew1 | refine below_set ?_ GE334.out) | exact HB.out)) hb); have n6_ := Aside0.mk (hbox); have n7_ := Aside0.mk ((by rw [hg]; exact (below_size (by repeat (first | (with_reducible first | exact HB.out | apply below_alloc | apply pw_below_drewN | apply below_drew1 | refine below_set ?_ GE334.out) | exact HB.out))) : w.heap.size ≤ gb347)); have n8_ := Aside0.mk ((by rw [hg]; exact (below_size (by repeat (first | (with_reducible first | exact HB.out | apply below_alloc | apply pw_below_drewN | apply below_drew1 | refine below_set ?_ GE334.out) | exact HB.out))) : w.heap.size ≤ gb347)); have n9_ := Aside0.mk ((by rw [hg]; exact Nat.ne_of_lt (blk_lt (g := gb334) (o := .cells #[.int .i64 t322, .bool t323, .slice Ao12 t324.length co12, .int .i64 t327, .int .i64 t328, .int .i64 t329, .slice Ao13 t330.length co13] 42 (0, 0)) (by (with_reducible repeat (first | refine blk_drewN ?_ _ | refine blk_drew ?_ | refine blk_alloc ?_ _)); exact BK334.out)) : gb334 ≠ gb347)); have n10_ := Aside0.mk ((by rw [hg]; exact Nat.ne_of_gt (blk_lt (g := gb334) (o := .cells #[.int .i64 t322, .bool t323, .slice Ao12 t324.length co12, .int .i64 t327, .int .i64 t328, .int .i64 t329, .slice Ao13 t330.length co13] 42 (0, 0)) (by (with_reducible repeat (first | refine blk_drewN ?_ _ | refine blk_drew ?_ | refine blk_alloc ?_ _)); exact BK334.out)) : gb347 ≠ gb334)); clear HO326; clear HO332; clear HO339; clear HO345; clear BK334; clear HB; have HO326 := n0_; have HO332 := n1_; have HO339 := n2_; have HO345 := n3_; have BK334 := n4_; have HB := n5_; have BK347 := n6_; have GW347 := n7_; have GE347 := n8_; have NB334_347 := n9_; have NB347_334 := n10_; clear n0_ n1_ n2_ n3_ n4_ n5_ n6_ n7_ n8_ n9_ n10_; clear hb hbox hg; have hnb16 := NB347_334.out; have hnc16 := NB334_347.out; have hcz17_0 : w15.cell? ⟨gb347, 0, none⟩ = some (.int .i64 0) := (blk_cell BK347.out 0).trans rfl; have hcz17_1 : w15.cell? ⟨gb347, 1, none⟩ = some (.bool false) := (blk_cell BK347.out 1).trans rfl; have hcz17_2 : w15.cell? ⟨gb347, 2, none⟩ = some (.slice none 0 0) := (blk_cell BK347.out 2).trans rfl; have hcz17_3 : w15.cell? ⟨gb347, 3, none⟩ = some (.int .i64 0) := (blk_cell BK347.out 3).trans rfl; have hcz17_4 : w15.cell? ⟨gb347, 4, none⟩ = some (.int .i64 0) := (blk_cell BK347.out 4).trans rfl; have hcz17_5 : w15.cell? ⟨gb347, 5, none⟩ = some (.int .i64 0) := (blk_cell BK347.out 5).trans rfl; have hcz17_6 : w15.cell? ⟨gb347, 6, none⟩ = some (.slice none 0 0) := (blk_cell BK347.out 6).trans rfl; have hfz17_0 := blk_frozen BK347.out 0; have hfz17_1 := blk_frozen BK347.out 1; have hfz17_2 := blk_frozen BK347.out 2; have hfz17_3 := blk_frozen BK347.out 3; have hfz17_4 := blk_frozen BK347.out 4; have hfz17_5 := blk_frozen BK347.out 5; have hfz17_6 := blk_frozen BK347.out 6; obtain ⟨Ao18, co18, eo18⟩ := Kd.R_slice HO339.out; subst eo18; obtain ⟨Ao19, co19, eo19⟩ := Kd.R_slice HO345.out; subst eo19))
    repeat (go_quiet (first | (go_at_call 28; (with_reducible refine (cartouchelaw12_shown.calls  t320 _ A2.out).mono ?_); rintro e w8 ⟨rfl, hb⟩; have n0_ := Aside0.mk (below_step (by repeat (first | (with_reducible first | exact HB.out | apply below_alloc | apply pw_below_drewN | apply below_drew1) | exact HB.out)) hb); clear HB; have HB := n0_; clear n0_; (try clear hb); (try clear hb2); (try clear hk); (try clear hi)) | (go_at_call 31; (with_reducible refine (cartouchelaw12_few.calls _ _ l0 true _ ?side1 ?side2 A3.out).mono ?_); (case side1 => repeat (first | exact (Kd.C_below HR0.out HB.out) | (with_reducible refine Kd.C_alloc ?_ _) | (with_reducible refine Kd.C_drewN ?_ _) | (with_reducible refine Kd.C_drew ?_))); (case side2 => exact HC0.out); rintro e w' ⟨rfl, ⟨nd, rfl⟩⟩; (try first | exact ⟨rfl, _, World.drewN_drewN _ _ _⟩ | exact ⟨rfl, _, Eq.trans (World.drewN_drewN _ _ _) (congrArg (World.drewN _) (Nat.add_assoc _ _ _))⟩)) | (go_at_call 33; (with_reducible refine (judge_Judge.calls k _ _ l0 1 t322 t323 t324 t327 t328 t329 t330 t333 _ ?side1 ?side2 A5.out).mono ?_); (case side1 => repeat (first | exact (Kd.C_below HR0.out (by repeat (first | (with_reducible first | exact HB.out | apply below_alloc | apply pw_below_drewN | apply below_drew1) | exact HB.out))) | (with_reducible refine Kd.C_alloc ?_ _) | (with_reducible refine Kd.C_drewN ?_ _) | (with_reducible refine Kd.C_drew ?_))); (case side2 => exact HC0.out); rintro e w9 ⟨v325, v331, rfl, ho0, ho1, hb⟩; have n0_ := Aside0.mk (Kd.R_lower ho0 (below_size (by repeat (first | (with_reducible first | exact HB.out | apply below_alloc | apply pw_below_drewN | apply below_drew1) | exact HB.out)))); have n1_ := Aside0.mk (Kd.R_lower ho1 (below_size (by repeat (first | (with_reducible first | exact HB.out | apply below_alloc | apply pw_below_drewN | apply below_drew1) | exact HB.out)))); have n2_ := Aside0.mk (below_step (by repeat (first | (with_reducible first | exact HB.out | apply below_alloc | apply pw_below_drewN | apply below_drew1) | exact HB.out)) hb); clear HB; have HO326 := n0_; have HO332 := n1_; have HB := n2_; clear n0_ n1_ n2_; (try clear hb); (try clear hb2); (try clear hk); (try clear hi); (try clear ho0); (try clear ho1)) | ((with_reducible refine gate_dst (N := 5) rfl ?_); (try (refine gate_guard (by rfl) ?_; dsimp only)); refine box_event ?hg (N := 5) ?hd (cs := #[.int .i64 0, .bool false, .slice none 0 0, .int .i64 0, .int .i64 0, .int .i64 0, .slice none 0 0]) (t := 42) ?hr ?_; (case hd => rfl); (case hg => rfl); (case hr => first | (go_simp; done) | (go_simp; rfl)); intro gb334 hg w10 hbox hb; have n0_ := Aside0.mk (Kd.R_below (by (with_reducible repeat (first | apply Kd.R_alloc | apply Kd.R_drewN | apply Kd.R_drew)); exact HO326.out) hb); have n1_ := Aside0.mk (Kd.R_below (by (with_reducible repeat (first | apply Kd.R_alloc | apply Kd.R_drewN | apply Kd.R_drew)); exact HO332.out) hb); have n2_ := Aside0.mk (below_step (by repeat (first | (with_reducible first | exact HB.out | apply below_alloc | apply pw_below_drewN | apply below_drew1) | exact HB.out)) hb); have n3_ := Aside0.mk (hbox); have n4_ := Aside0.mk ((by rw [hg]; exact (below_size (by repeat (first | (with_reducible first | exact HB.out | apply below_alloc | apply pw_below_drewN | apply below_drew1) | exact HB.out))) : w.heap.size ≤ gb334)); have n5_ := Aside0.mk ((by rw [hg]; exact (below_size (by repeat (first | (with_reducible first | exact HB.out | apply below_alloc | apply pw_below_drewN | apply below_drew1) | exact HB.out))) : w.heap.size ≤ gb334)); clear HO326; clear HO332; clear HB; have HO326 := n0_; have HO332 := n1_; have HB := n2_; have BK334 := n3_; have GW334 := n4_; have GE334 := n5_; clear n0_ n1_ n2_ n3_ n4_ n5_; clear hb hbox hg; have hcz11_0 : w10.cell? ⟨gb334, 0, none⟩ = some (.int .i64 0) := (blk_cell BK334.out 0).trans rfl; have hcz11_1 : w10.cell? ⟨gb334, 1, none⟩ = some (.bool false) := (blk_cell BK334.out 1).trans rfl; have hcz11_2 : w10.cell? ⟨gb334, 2, none⟩ = some (.slice none 0 0) := (blk_cell BK334.out 2).trans rfl; have hcz11_3 : w10.cell? ⟨gb334, 3, none⟩ = some (.int .i64 0) := (blk_cell BK334.out 3).trans rfl; have hcz11_4 : w10.cell? ⟨gb334, 4, none⟩ = some (.int .i64 0) := (blk_cell BK334.out 4).trans rfl; have hcz11_5 : w10.cell? ⟨gb334, 5, none⟩ = some (.int .i64 0) := (blk_cell BK334.out 5).trans rfl; have hcz11_6 : w10.cell? ⟨gb334, 6, none⟩ = some (.slice none 0 0) := (blk_cell BK334.out 6).trans rfl; have hfz11_0 := blk_frozen BK334.out 0; have hfz11_1 := blk_frozen BK334.out 1; have hfz11_2 := blk_frozen BK334.out 2; have hfz11_3 := blk_frozen BK334.out 3; have hfz11_4 := blk_frozen BK334.out 4; have hfz11_5 := blk_frozen BK334.out 5; have hfz11_6 := blk_frozen BK334.out 6; obtain ⟨Ao12, co12, eo12⟩ := Kd.R_slice HO326.out; subst eo12; obtain ⟨Ao13, co13, eo13⟩ := Kd.R_slice HO332.out; subst eo13) | (go_at_call 33; (with_reducible refine (judge_Judge.calls k _ _ l0 2 t335 t336 t337 t340 t341 t342 t343 t346 _ ?side1 ?side2 A6.out).mono ?_); (case side1 => exact Kd.C_below HR0.out (by repeat (first | (with_reducible first | exact HB.out | apply below_alloc | apply pw_below_drewN | apply below_drew1 | refine below_set ?_ GE334.out) | exact HB.out))); (case side2 => exact HC0.out); rintro e w14 ⟨v338, v344, rfl, ho0, ho1, hb⟩; have n0_ := Aside0.mk (Kd.R_elder' (by (with_reducible repeat (first | apply Kd.R_alloc | apply Kd.R_drewN | apply Kd.R_drew)); exact (Kd.R_mono (Kd.R_far (p := ⟨gb334, 6, none⟩) (Kd.R_far (p := ⟨gb334, 5, none⟩) (Kd.R_far (p := ⟨gb334, 4, none⟩) (Kd.R_far (p := ⟨gb334, 3, none⟩) (Kd.R_far (p := ⟨gb334, 2, none⟩) (Kd.R_far (p := ⟨gb334, 1, none⟩) (Kd.R_far (p := ⟨gb334, 0, none⟩) (Kd.R_types HO326.out BK334.out (by decide)) (fun _ hk => hk.2) (.int .i64 t322)) (fun _ hk => hk.2) (.bool t323)) (fun _ hk => hk.2) (.slice Ao12 t324.length co12)) (fun _ hk => hk.2) (.int .i64 t327)) (fun _ hk => hk.2) (.int .i64 t328)) (fun _ hk => hk.2) (.int .i64 t329)) (fun _ hk => hk.2) (.slice Ao13 t330.length co13)) (fun _ h_ => h_.1))) (Kd.R_base ho0) hb); have n1_ := Aside0.mk (Kd.R_elder' (by (with_reducible repeat (first | apply Kd.R_alloc | apply Kd.R_drewN | apply Kd.R_drew)); exact (Kd.R_mono (Kd.R_far (p := ⟨gb334, 6, none⟩) (Kd.R_far (p := ⟨gb334, 5, none⟩) (Kd.R_far (p := ⟨gb334, 4, none⟩) (Kd.R_far (p := ⟨gb334, 3, none⟩) (Kd.R_far (p := ⟨gb334, 2, none⟩) (Kd.R_far (p := ⟨gb334, 1, none⟩) (Kd.R_far (p := ⟨gb334, 0, none⟩) (Kd.R_types HO332.out BK334.out (by decide)) (fun _ hk => hk.2) (.int .i64 t322)) (fun _ hk => hk.2) (.bool t323)) (fun _ hk => hk.2) (.slice Ao12 t324.length co12)) (fun _ hk => hk.2) (.int .i64 t327)) (fun _ hk => hk.2) (.int .i64 t328)) (fun _ hk => hk.2) (.int .i64 t329)) (fun _ hk => hk.2) (.slice Ao13 t330.length co13)) (fun _ h_ => h_.1))) (Kd.R_base ho1) hb); have n2_ := Aside0.mk (Kd.R_lower (Kd.R_new' ho0 (Kd.R_lt (by (with_reducible repeat (first | apply Kd.R_alloc | apply Kd.R_drewN | apply Kd.R_drew)); exact (Kd.R_mono (Kd.R_far (p := ⟨gb334, 6, none⟩) (Kd.R_far (p := ⟨gb334, 5, none⟩) (Kd.R_far (p := ⟨gb334, 4, none⟩) (Kd.R_far (p := ⟨gb334, 3, none⟩) (Kd.R_far (p := ⟨gb334, 2, none⟩) (Kd.R_far (p := ⟨gb334, 1, none⟩) (Kd.R_far (p := ⟨gb334, 0, none⟩) (Kd.R_types HO326.out BK334.out (by decide)) (fun _ hk => hk.2) (.int .i64 t322)) (fun _ hk => hk.2) (.bool t323)) (fun _ hk => hk.2) (.slice Ao12 t324.length co12)) (fun _ hk => hk.2) (.int .i64 t327)) (fun _ hk => hk.2) (.int .i64 t328)) (fun _ hk => hk.2) (.int .i64 t329)) (fun _ hk => hk.2) (.slice Ao13 t330.length co13)) (fun _ h_ => h_.1))))) (below_size (by repeat (first | (with_reducible first | exact HB.out | apply below_alloc | apply pw_below_drewN | apply below_drew1 | refine below_set ?_ GE334.out) | exact HB.out)))); have n3_ := Aside0.mk (Kd.R_lower (Kd.R_new' ho1 (Kd.R_lt (by (with_reducible repeat (first | apply Kd.R_alloc | apply Kd.R_drewN | apply Kd.R_drew)); exact (Kd.R_mono (Kd.R_far (p := ⟨gb334, 6, none⟩) (Kd.R_far (p := ⟨gb334, 5, none⟩) (Kd.R_far (p := ⟨gb334, 4, none⟩) (Kd.R_far (p := ⟨gb334, 3, none⟩) (Kd.R_far (p := ⟨gb334, 2, none⟩) (Kd.R_far (p := ⟨gb334, 1, none⟩) (Kd.R_far (p := ⟨gb334, 0, none⟩) (Kd.R_types HO332.out BK334.out (by decide)) (fun _ hk => hk.2) (.int .i64 t322)) (fun _ hk => hk.2) (.bool t323)) (fun _ hk => hk.2) (.slice Ao12 t324.length co12)) (fun _ hk => hk.2) (.int .i64 t327)) (fun _ hk => hk.2) (.int .i64 t328)) (fun _ hk => hk.2) (.int .i64 t329)) (fun _ hk => hk.2) (.slice Ao13 t330.length co13)) (fun _ h_ => h_.1))))) (below_size (by repeat (first | (with_reducible first | exact HB.out | apply below_alloc | apply pw_below_drewN | apply below_drew1 | refine below_set ?_ GE334.out) | exact HB.out)))); have n4_ := Aside0.mk (blk_below (g := gb334) (o := .cells #[.int .i64 t322, .bool t323, .slice Ao12 t324.length co12, .int .i64 t327, .int .i64 t328, .int .i64 t329, .slice Ao13 t330.length co13] 42 (0, 0)) (by (with_reducible repeat (first | refine blk_drewN ?_ _ | refine blk_drew ?_ | refine blk_alloc ?_ _)); refine blk_put (cs := #[.int .i64 t322, .bool t323, .slice Ao12 t324.length co12, .int .i64 t327, .int .i64 t328, .int .i64 t329, .slice none 0 0]) ?_ 6 _ rfl; (with_reducible repeat (first | refine blk_drewN ?_ _ | refine blk_drew ?_ | refine blk_alloc ?_ _)); refine blk_put (cs := #[.int .i64 t322, .bool t323, .slice Ao12 t324.length co12, .int .i64 t327, .int .i64 t328, .int .i64 0, .slice none 0 0]) ?_ 5 _ rfl; (with_reducible repeat (first | refine blk_drewN ?_ _ | refine blk_drew ?_ | refine blk_alloc ?_ _)); refine blk_put (cs := #[.int .i64 t322, .bool t323, .slice Ao12 t324.length co12, .int .i64 t327, .int .i64 0, .int .i64 0, .slice none 0 0]) ?_ 4 _ rfl; (with_reducible repeat (first | refine blk_drewN ?_ _ | refine blk_drew ?_ | refine blk_alloc ?_ _)); refine blk_put (cs := #[.int .i64 t322, .bool t323, .slice Ao12 t324.length co12, .int .i64 0, .int .i64 0, .int .i64 0, .slice none 0 0]) ?_ 3 _ rfl; (with_reducible repeat (first | refine blk_drewN ?_ _ | refine blk_drew ?_ | refine blk_alloc ?_ _)); refine blk_put (cs := #[.int .i64 t322, .bool t323, .slice none 0 0, .int .i64 0, .int .i64 0, .int .i64 0, .slice none 0 0]) ?_ 2 _ rfl; (with_reducible repeat (first | refine blk_drewN ?_ _ | refine blk_drew ?_ | refine blk_alloc ?_ _)); refine blk_put (cs := #[.int .i64 t322, .bool false, .slice none 0 0, .int .i64 0, .int .i64 0, .int .i64 0, .slice none 0 0]) ?_ 1 _ rfl; (with_reducible repeat (first | refine blk_drewN ?_ _ | refine blk_drew ?_ | refine blk_alloc ?_ _)); refine blk_put (cs := #[.int .i64 0, .bool false, .slice none 0 0, .int .i64 0, .int .i64 0, .int .i64 0, .slice none 0 0]) ?_ 0 _ rfl; (with_reducible repeat (first | refine blk_drewN ?_ _ | refine blk_drew ?_ | refine blk_alloc ?_ _)); exact BK334.out) hb); have n5_ := Aside0.mk (below_step (by repeat (first | (with_reducible first | exact HB.out | apply below_alloc | apply pw_below_drewN | apply below_drew1 | refine below_set ?_ GE334.out) | exact HB.out)) hb); clear HO326; clear HO332; clear BK334; clear HB; have HO326 := n0_; have HO332 := n1_; have HO339 := n2_; have HO345 := n3_; have BK334 := n4_; have HB := n5_; clear n0_ n1_ n2_ n3_ n4_ n5_; (try clear hb); (try clear hb2); (try clear hk); (try clear hi); (try clear ho0); (try clear ho1)) | ((with_reducible refine gate_dst (N := 7) rfl ?_); (try (refine gate_guard (by rfl) ?_; dsimp only)); refine box_event ?hg (N := 7) ?hd (cs := #[.int .i64 0, .bool false, .slice none 0 0, .int .i64 0, .int .i64 0, .int .i64 0, .slice none 0 0]) (t := 42) ?hr ?_; (case hd => rfl); (case hg => rfl); (case hr => first | (go_simp; done) | (go_simp; rfl)); intro gb347 hg w15 hbox hb; have n0_ := Aside0.mk (Kd.R_below (by (with_reducible repeat (first | apply Kd.R_alloc | apply Kd.R_drewN | apply Kd.R_drew)); exact HO326.out) hb); have n1_ := Aside0.mk (Kd.R_below (by (with_reducible repeat (first | apply Kd.R_alloc | apply Kd.R_drewN | apply Kd.R_drew)); exact HO332.out) hb); have n2_ := Aside0.mk (Kd.R_below (by (with_reducible repeat (first | apply Kd.R_alloc | apply Kd.R_drewN | apply Kd.R_drew)); exact HO339.out) hb); have n3_ := Aside0.mk (Kd.R_below (by (with_reducible repeat (first | apply Kd.R_alloc | apply Kd.R_drewN | apply Kd.R_drew)); exact HO345.out) hb); have n4_ := Aside0.mk (blk_below (g := gb334) (o := .cells #[.int .i64 t322, .bool t323, .slice Ao12 t324.length co12, .int .i64 t327, .int .i64 t328, .int .i64 t329, .slice Ao13 t330.length co13] 42 (0, 0)) (by (with_reducible repeat (first | refine blk_drewN ?_ _ | refine blk_drew ?_ | refine blk_alloc ?_ _)); exact BK334.out) hb); have n5_ := Aside0.mk (below_step (by repeat (first | (with_reducible first | exact HB.out | apply below_alloc | apply pw_below_drewN | apply below_drew1 | refine below_set ?_ GE334.out) | exact HB.out)) hb); have n6_ := Aside0.mk (hbox); have n7_ := Aside0.mk ((by rw [hg]; exact (below_size (by repeat (first | (with_reducible first | exact HB.out | apply below_alloc | apply pw_below_drewN | apply below_drew1 | refine below_set ?_ GE334.out) | exact HB.out))) : w.heap.size ≤ gb347)); have n8_ := Aside0.mk ((by rw [hg]; exact (below_size (by repeat (first | (with_reducible first | exact HB.out | apply below_alloc | apply pw_below_drewN | apply below_drew1 | refine below_set ?_ GE334.out) | exact HB.out))) : w.heap.size ≤ gb347)); have n9_ := Aside0.mk ((by rw [hg]; exact Nat.ne_of_lt (blk_lt (g := gb334) (o := .cells #[.int .i64 t322, .bool t323, .slice Ao12 t324.length co12, .int .i64 t327, .int .i64 t328, .int .i64 t329, .slice Ao13 t330.length co13] 42 (0, 0)) (by (with_reducible repeat (first | refine blk_drewN ?_ _ | refine blk_drew ?_ | refine blk_alloc ?_ _)); exact BK334.out)) : gb334 ≠ gb347)); have n10_ := Aside0.mk ((by rw [hg]; exact Nat.ne_of_gt (blk_lt (g := gb334) (o := .cells #[.int .i64 t322, .bool t323, .slice Ao12 t324.length co12, .int .i64 t327, .int .i64 t328, .int .i64 t329, .slice Ao13 t330.length co13] 42 (0, 0)) (by (with_reducible repeat (first | refine blk_drewN ?_ _ | refine blk_drew ?_ | refine blk_alloc ?_ _)); exact BK334.out)) : gb347 ≠ gb334)); clear HO326; clear HO332; clear HO339; clear HO345; clear BK334; clear HB; have HO326 := n0_; have HO332 := n1_; have HO339 := n2_; have HO345 := n3_; have BK334 := n4_; have HB := n5_; have BK347 := n6_; have GW347 := n7_; have GE347 := n8_; have NB334_347 := n9_; have NB347_334 := n10_; clear n0_ n1_ n2_ n3_ n4_ n5_ n6_ n7_ n8_ n9_ n10_; clear hb hbox hg; have hnb16 := NB347_334.out; have hnc16 := NB334_347.out; have hcz17_0 : w15.cell? ⟨gb347, 0, none⟩ = some (.int .i64 0) := (blk_cell BK347.out 0).trans rfl; have hcz17_1 : w15.cell? ⟨gb347, 1, none⟩ = some (.bool false) := (blk_cell BK347.out 1).trans rfl; have hcz17_2 : w15.cell? ⟨gb347, 2, none⟩ = some (.slice none 0 0) := (blk_cell BK347.out 2).trans rfl; have hcz17_3 : w15.cell? ⟨gb347, 3, none⟩ = some (.int .i64 0) := (blk_cell BK347.out 3).trans rfl; have hcz17_4 : w15.cell? ⟨gb347, 4, none⟩ = some (.int .i64 0) := (blk_cell BK347.out 4).trans rfl; have hcz17_5 : w15.cell? ⟨gb347, 5, none⟩ = some (.int .i64 0) := (blk_cell BK347.out 5).trans rfl; have hcz17_6 : w15.cell? ⟨gb347, 6, none⟩ = some (.slice none 0 0) := (blk_cell BK347.out 6).trans rfl; have hfz17_0 := blk_frozen BK347.out 0; have hfz17_1 := blk_frozen BK347.out 1; have hfz17_2 := blk_frozen BK347.out 2; have hfz17_3 := blk_frozen BK347.out 3; have hfz17_4 := blk_frozen BK347.out 4; have hfz17_5 := blk_frozen BK347.out 5; have hfz17_6 := blk_frozen BK347.out 6; obtain ⟨Ao18, co18, eo18⟩ := Kd.R_slice HO339.out; subst eo18; obtain ⟨Ao19, co19, eo19⟩ := Kd.R_slice HO345.out; subst eo19)); go_upto_region 7 with (first | (go_at_call 28; (with_reducible refine (cartouchelaw12_shown.calls  t320 _ A2.out).mono ?_); rintro e w8 ⟨rfl, hb⟩; have n0_ := Aside0.mk (below_step (by repeat (first | (with_reducible first | exact HB.out | apply below_alloc | apply pw_below_drewN | apply below_drew1) | exact HB.out)) hb); clear HB; have HB := n0_; clear n0_; (try clear hb); (try clear hb2); (try clear hk); (try clear hi)) | (go_at_call 31; (with_reducible refine (cartouchelaw12_few.calls _ _ l0 true _ ?side1 ?side2 A3.out).mono ?_); (case side1 => repeat (first | exact (Kd.C_below HR0.out HB.out) | (with_reducible refine Kd.C_alloc ?_ _) | (with_reducible refine Kd.C_drewN ?_ _) | (with_reducible refine Kd.C_drew ?_))); (case side2 => exact HC0.out); rintro e w' ⟨rfl, ⟨nd, rfl⟩⟩; (try first | exact ⟨rfl, _, World.drewN_drewN _ _ _⟩ | exact ⟨rfl, _, Eq.trans (World.drewN_drewN _ _ _) (congrArg (World.drewN _) (Nat.add_assoc _ _ _))⟩)) | (go_at_call 33; (with_reducible refine (judge_Judge.calls k _ _ l0 1 t322 t323 t324 t327 t328 t329 t330 t333 _ ?side1 ?side2 A5.out).mono ?_); (case side1 => repeat (first | exact (Kd.C_below HR0.out (by repeat (first | (with_reducible first | exact HB.out | apply below_alloc | apply pw_below_drewN | apply below_drew1) | exact HB.out))) | (with_reducible refine Kd.C_alloc ?_ _) | (with_reducible refine Kd.C_drewN ?_ _) | (with_reducible refine Kd.C_drew ?_))); (case side2 => exact HC0.out); rintro e w9 ⟨v325, v331, rfl, ho0, ho1, hb⟩; have n0_ := Aside0.mk (Kd.R_lower ho0 (below_size (by repeat (first | (with_reducible first | exact HB.out | apply below_alloc | apply pw_below_drewN | apply below_drew1) | exact HB.out)))); have n1_ := Aside0.mk (Kd.R_lower ho1 (below_size (by repeat (first | (with_reducible first | exact HB.out | apply below_alloc | apply pw_below_drewN | apply below_drew1) | exact HB.out)))); have n2_ := Aside0.mk (below_step (by repeat (first | (with_reducible first | exact HB.out | apply below_alloc | apply pw_below_drewN | apply below_drew1) | exact HB.out)) hb); clear HB; have HO326 := n0_; have HO332 := n1_; have HB := n2_; clear n0_ n1_ n2_; (try clear hb); (try clear hb2); (try clear hk); (try clear hi); (try clear ho0); (try clear ho1)) | ((with_reducible refine gate_dst (N := 5) rfl ?_); (try (refine gate_guard (by rfl) ?_; dsimp only)); refine box_event ?hg (N := 5) ?hd (cs := #[.int .i64 0, .bool false, .slice none 0 0, .int .i64 0, .int .i64 0, .int .i64 0, .slice none 0 0]) (t := 42) ?hr ?_; (case hd => rfl); (case hg => rfl); (case hr => first | (go_simp; done) | (go_simp; rfl)); intro gb334 hg w10 hbox hb; have n0_ := Aside0.mk (Kd.R_below (by (with_reducible repeat (first | apply Kd.R_alloc | apply Kd.R_drewN | apply Kd.R_drew)); exact HO326.out) hb); have n1_ := Aside0.mk (Kd.R_below (by (with_reducible repeat (first | apply Kd.R_alloc | apply Kd.R_drewN | apply Kd.R_drew)); exact HO332.out) hb); have n2_ := Aside0.mk (below_step (by repeat (first | (with_reducible first | exact HB.out | apply below_alloc | apply pw_below_drewN | apply below_drew1) | exact HB.out)) hb); have n3_ := Aside0.mk (hbox); have n4_ := Aside0.mk ((by rw [hg]; exact (below_size (by repeat (first | (with_reducible first | exact HB.out | apply below_alloc | apply pw_below_drewN | apply below_drew1) | exact HB.out))) : w.heap.size ≤ gb334)); have n5_ := Aside0.mk ((by rw [hg]; exact (below_size (by repeat (first | (with_reducible first | exact HB.out | apply below_alloc | apply pw_below_drewN | apply below_drew1) | exact HB.out))) : w.heap.size ≤ gb334)); clear HO326; clear HO332; clear HB; have HO326 := n0_; have HO332 := n1_; have HB := n2_; have BK334 := n3_; have GW334 := n4_; have GE334 := n5_; clear n0_ n1_ n2_ n3_ n4_ n5_; clear hb hbox hg; have hcz11_0 : w10.cell? ⟨gb334, 0, none⟩ = some (.int .i64 0) := (blk_cell BK334.out 0).trans rfl; have hcz11_1 : w10.cell? ⟨gb334, 1, none⟩ = some (.bool false) := (blk_cell BK334.out 1).trans rfl; have hcz11_2 : w10.cell? ⟨gb334, 2, none⟩ = some (.slice none 0 0) := (blk_cell BK334.out 2).trans rfl; have hcz11_3 : w10.cell? ⟨gb334, 3, none⟩ = some (.int .i64 0) := (blk_cell BK334.out 3).trans rfl; have hcz11_4 : w10.cell? ⟨gb334, 4, none⟩ = some (.int .i64 0) := (blk_cell BK334.out 4).trans rfl; have hcz11_5 : w10.cell? ⟨gb334, 5, none⟩ = some (.int .i64 0) := (blk_cell BK334.out 5).trans rfl; have hcz11_6 : w10.cell? ⟨gb334, 6, none⟩ = some (.slice none 0 0) := (blk_cell BK334.out 6).trans rfl; have hfz11_0 := blk_frozen BK334.out 0; have hfz11_1 := blk_frozen BK334.out 1; have hfz11_2 := blk_frozen BK334.out 2; have hfz11_3 := blk_frozen BK334.out 3; have hfz11_4 := blk_frozen BK334.out 4; have hfz11_5 := blk_frozen BK334.out 5; have hfz11_6 := blk_frozen BK334.out 6; obtain ⟨Ao12, co12, eo12⟩ := Kd.R_slice HO326.out; subst eo12; obtain ⟨Ao13, co13, eo13⟩ := Kd.R_slice HO332.out; subst eo13) | (go_at_call 33; (with_reducible refine (judge_Judge.calls k _ _ l0 2 t335 t336 t337 t340 t341 t342 t343 t346 _ ?side1 ?side2 A6.out).mono ?_); (case side1 => exact Kd.C_below HR0.out (by repeat (first | (with_reducible first | exact HB.out | apply below_alloc | apply pw_below_drewN | apply below_drew1 | refine below_set ?_ GE334.out) | exact HB.out))); (case side2 => exact HC0.out); rintro e w14 ⟨v338, v344, rfl, ho0, ho1, hb⟩; have n0_ := Aside0.mk (Kd.R_elder' (by (with_reducible repeat (first | apply Kd.R_alloc | apply Kd.R_drewN | apply Kd.R_drew)); exact (Kd.R_mono (Kd.R_far (p := ⟨gb334, 6, none⟩) (Kd.R_far (p := ⟨gb334, 5, none⟩) (Kd.R_far (p := ⟨gb334, 4, none⟩) (Kd.R_far (p := ⟨gb334, 3, none⟩) (Kd.R_far (p := ⟨gb334, 2, none⟩) (Kd.R_far (p := ⟨gb334, 1, none⟩) (Kd.R_far (p := ⟨gb334, 0, none⟩) (Kd.R_types HO326.out BK334.out (by decide)) (fun _ hk => hk.2) (.int .i64 t322)) (fun _ hk => hk.2) (.bool t323)) (fun _ hk => hk.2) (.slice Ao12 t324.length co12)) (fun _ hk => hk.2) (.int .i64 t327)) (fun _ hk => hk.2) (.int .i64 t328)) (fun _ hk => hk.2) (.int .i64 t329)) (fun _ hk => hk.2) (.slice Ao13 t330.length co13)) (fun _ h_ => h_.1))) (Kd.R_base ho0) hb); have n1_ := Aside0.mk (Kd.R_elder' (by (with_reducible repeat (first | apply Kd.R_alloc | apply Kd.R_drewN | apply Kd.R_drew)); exact (Kd.R_mono (Kd.R_far (p := ⟨gb334, 6, none⟩) (Kd.R_far (p := ⟨gb334, 5, none⟩) (Kd.R_far (p := ⟨gb334, 4, none⟩) (Kd.R_far (p := ⟨gb334, 3, none⟩) (Kd.R_far (p := ⟨gb334, 2, none⟩) (Kd.R_far (p := ⟨gb334, 1, none⟩) (Kd.R_far (p := ⟨gb334, 0, none⟩) (Kd.R_types HO332.out BK334.out (by decide)) (fun _ hk => hk.2) (.int .i64 t322)) (fun _ hk => hk.2) (.bool t323)) (fun _ hk => hk.2) (.slice Ao12 t324.length co12)) (fun _ hk => hk.2) (.int .i64 t327)) (fun _ hk => hk.2) (.int .i64 t328)) (fun _ hk => hk.2) (.int .i64 t329)) (fun _ hk => hk.2) (.slice Ao13 t330.length co13)) (fun _ h_ => h_.1))) (Kd.R_base ho1) hb); have n2_ := Aside0.mk (Kd.R_lower (Kd.R_new' ho0 (Kd.R_lt (by (with_reducible repeat (first | apply Kd.R_alloc | apply Kd.R_drewN | apply Kd.R_drew)); exact (Kd.R_mono (Kd.R_far (p := ⟨gb334, 6, none⟩) (Kd.R_far (p := ⟨gb334, 5, none⟩) (Kd.R_far (p := ⟨gb334, 4, none⟩) (Kd.R_far (p := ⟨gb334, 3, none⟩) (Kd.R_far (p := ⟨gb334, 2, none⟩) (Kd.R_far (p := ⟨gb334, 1, none⟩) (Kd.R_far (p := ⟨gb334, 0, none⟩) (Kd.R_types HO326.out BK334.out (by decide)) (fun _ hk => hk.2) (.int .i64 t322)) (fun _ hk => hk.2) (.bool t323)) (fun _ hk => hk.2) (.slice Ao12 t324.length co12)) (fun _ hk => hk.2) (.int .i64 t327)) (fun _ hk => hk.2) (.int .i64 t328)) (fun _ hk => hk.2) (.int .i64 t329)) (fun _ hk => hk.2) (.slice Ao13 t330.length co13)) (fun _ h_ => h_.1))))) (below_size (by repeat (first | (with_reducible first | exact HB.out | apply below_alloc | apply pw_below_drewN | apply below_drew1 | refine below_set ?_ GE334.out) | exact HB.out)))); have n3_ := Aside0.mk (Kd.R_lower (Kd.R_new' ho1 (Kd.R_lt (by (with_reducible repeat (first | apply Kd.R_alloc | apply Kd.R_drewN | apply Kd.R_drew)); exact (Kd.R_mono (Kd.R_far (p := ⟨gb334, 6, none⟩) (Kd.R_far (p := ⟨gb334, 5, none⟩) (Kd.R_far (p := ⟨gb334, 4, none⟩) (Kd.R_far (p := ⟨gb334, 3, none⟩) (Kd.R_far (p := ⟨gb334, 2, none⟩) (Kd.R_far (p := ⟨gb334, 1, none⟩) (Kd.R_far (p := ⟨gb334, 0, none⟩) (Kd.R_types HO332.out BK334.out (by decide)) (fun _ hk => hk.2) (.int .i64 t322)) (fun _ hk => hk.2) (.bool t323)) (fun _ hk => hk.2) (.slice Ao12 t324.length co12)) (fun _ hk => hk.2) (.int .i64 t327)) (fun _ hk => hk.2) (.int .i64 t328)) (fun _ hk => hk.2) (.int .i64 t329)) (fun _ hk => hk.2) (.slice Ao13 t330.length co13)) (fun _ h_ => h_.1))))) (below_size (by repeat (first | (with_reducible first | exact HB.out | apply below_alloc | apply pw_below_drewN | apply below_drew1 | refine below_set ?_ GE334.out) | exact HB.out)))); have n4_ := Aside0.mk (blk_below (g := gb334) (o := .cells #[.int .i64 t322, .bool t323, .slice Ao12 t324.length co12, .int .i64 t327, .int .i64 t328, .int .i64 t329, .slice Ao13 t330.length co13] 42 (0, 0)) (by (with_reducible repeat (first | refine blk_drewN ?_ _ | refine blk_drew ?_ | refine blk_alloc ?_ _)); refine blk_put (cs := #[.int .i64 t322, .bool t323, .slice Ao12 t324.length co12, .int .i64 t327, .int .i64 t328, .int .i64 t329, .slice none 0 0]) ?_ 6 _ rfl; (with_reducible repeat (first | refine blk_drewN ?_ _ | refine blk_drew ?_ | refine blk_alloc ?_ _)); refine blk_put (cs := #[.int .i64 t322, .bool t323, .slice Ao12 t324.length co12, .int .i64 t327, .int .i64 t328, .int .i64 0, .slice none 0 0]) ?_ 5 _ rfl; (with_reducible repeat (first | refine blk_drewN ?_ _ | refine blk_drew ?_ | refine blk_alloc ?_ _)); refine blk_put (cs := #[.int .i64 t322, .bool t323, .slice Ao12 t324.length co12, .int .i64 t327, .int .i64 0, .int .i64 0, .slice none 0 0]) ?_ 4 _ rfl; (with_reducible repeat (first | refine blk_drewN ?_ _ | refine blk_drew ?_ | refine blk_alloc ?_ _)); refine blk_put (cs := #[.int .i64 t322, .bool t323, .slice Ao12 t324.length co12, .int .i64 0, .int .i64 0, .int .i64 0, .slice none 0 0]) ?_ 3 _ rfl; (with_reducible repeat (first | refine blk_drewN ?_ _ | refine blk_drew ?_ | refine blk_alloc ?_ _)); refine blk_put (cs := #[.int .i64 t322, .bool t323, .slice none 0 0, .int .i64 0, .int .i64 0, .int .i64 0, .slice none 0 0]) ?_ 2 _ rfl; (with_reducible repeat (first | refine blk_drewN ?_ _ | refine blk_drew ?_ | refine blk_alloc ?_ _)); refine blk_put (cs := #[.int .i64 t322, .bool false, .slice none 0 0, .int .i64 0, .int .i64 0, .int .i64 0, .slice none 0 0]) ?_ 1 _ rfl; (with_reducible repeat (first | refine blk_drewN ?_ _ | refine blk_drew ?_ | refine blk_alloc ?_ _)); refine blk_put (cs := #[.int .i64 0, .bool false, .slice none 0 0, .int .i64 0, .int .i64 0, .int .i64 0, .slice none 0 0]) ?_ 0 _ rfl; (with_reducible repeat (first | refine blk_drewN ?_ _ | refine blk_drew ?_ | refine blk_alloc ?_ _)); exact BK334.out) hb); have n5_ := Aside0.mk (below_step (by repeat (first | (with_reducible first | exact HB.out | apply below_alloc | apply pw_below_drewN | apply below_drew1 | refine below_set ?_ GE334.out) | exact HB.out)) hb); clear HO326; clear HO332; clear BK334; clear HB; have HO326 := n0_; have HO332 := n1_; have HO339 := n2_; have HO345 := n3_; have BK334 := n4_; have HB := n5_; clear n0_ n1_ n2_ n3_ n4_ n5_; (try clear hb); (try clear hb2); (try clear hk); (try clear hi); (try clear ho0); (try clear ho1)) | ((with_reducible refine gate_dst (N := 7) rfl ?_); (try (refine gate_guard (by rfl) ?_; dsimp only)); refine box_event ?hg (N := 7) ?hd (cs := #[.int .i64 0, .bool false, .slice none 0 0, .int .i64 0, .int .i64 0, .int .i64 0, .slice none 0 0]) (t := 42) ?hr ?_; (case hd => rfl); (case hg => rfl); (case hr => first | (go_simp; done) | (go_simp; rfl)); intro gb347 hg w15 hbox hb; have n0_ := Aside0.mk (Kd.R_below (by (with_reducible repeat (first | apply Kd.R_alloc | apply Kd.R_drewN | apply Kd.R_drew)); exact HO326.out) hb); have n1_ := Aside0.mk (Kd.R_below (by (with_reducible repeat (first | apply Kd.R_alloc | apply Kd.R_drewN | apply Kd.R_drew)); exact HO332.out) hb); have n2_ := Aside0.mk (Kd.R_below (by (with_reducible repeat (first | apply Kd.R_alloc | apply Kd.R_drewN | apply Kd.R_drew)); exact HO339.out) hb); have n3_ := Aside0.mk (Kd.R_below (by (with_reducible repeat (first | apply Kd.R_alloc | apply Kd.R_drewN | apply Kd.R_drew)); exact HO345.out) hb); have n4_ := Aside0.mk (blk_below (g := gb334) (o := .cells #[.int .i64 t322, .bool t323, .slice Ao12 t324.length co12, .int .i64 t327, .int .i64 t328, .int .i64 t329, .slice Ao13 t330.length co13] 42 (0, 0)) (by (with_reducible repeat (first | refine blk_drewN ?_ _ | refine blk_drew ?_ | refine blk_alloc ?_ _)); exact BK334.out) hb); have n5_ := Aside0.mk (below_step (by repeat (first | (with_reducible first | exact HB.out | apply below_alloc | apply pw_below_drewN | apply below_drew1 | refine below_set ?_ GE334.out) | exact HB.out)) hb); have n6_ := Aside0.mk (hbox); have n7_ := Aside0.mk ((by rw [hg]; exact (below_size (by repeat (first | (with_reducible first | exact HB.out | apply below_alloc | apply pw_below_drewN | apply below_drew1 | refine below_set ?_ GE334.out) | exact HB.out))) : w.heap.size ≤ gb347)); have n8_ := Aside0.mk ((by rw [hg]; exact (below_size (by repeat (first | (with_reducible first | exact HB.out | apply below_alloc | apply pw_below_drewN | apply below_drew1 | refine below_set ?_ GE334.out) | exact HB.out))) : w.heap.size ≤ gb347)); have n9_ := Aside0.mk ((by rw [hg]; exact Nat.ne_of_lt (blk_lt (g := gb334) (o := .cells #[.int .i64 t322, .bool t323, .slice Ao12 t324.length co12, .int .i64 t327, .int .i64 t328, .int .i64 t329, .slice Ao13 t330.length co13] 42 (0, 0)) (by (with_reducible repeat (first | refine blk_drewN ?_ _ | refine blk_drew ?_ | refine blk_alloc ?_ _)); exact BK334.out)) : gb334 ≠ gb347)); have n10_ := Aside0.mk ((by rw [hg]; exact Nat.ne_of_gt (blk_lt (g := gb334) (o := .cells #[.int .i64 t322, .bool t323, .slice Ao12 t324.length co12, .int .i64 t327, .int .i64 t328, .int .i64 t329, .slice Ao13 t330.length co13] 42 (0, 0)) (by (with_reducible repeat (first | refine blk_drewN ?_ _ | refine blk_drew ?_ | refine blk_alloc ?_ _)); exact BK334.out)) : gb347 ≠ gb334)); clear HO326; clear HO332; clear HO339; clear HO345; clear BK334; clear HB; have HO326 := n0_; have HO332 := n1_; have HO339 := n2_; have HO345 := n3_; have BK334 := n4_; have HB := n5_; have BK347 := n6_; have GW347 := n7_; have GE347 := n8_; have NB334_347 := n9_; have NB347_334 := n10_; clear n0_ n1_ n2_ n3_ n4_ n5_ n6_ n7_ n8_ n9_ n10_; clear hb hbox hg; have hnb16 := NB347_334.out; have hnc16 := NB334_347.out; have hcz17_0 : w15.cell? ⟨gb347, 0, none⟩ = some (.int .i64 0) := (blk_cell BK347.out 0).trans rfl; have hcz17_1 : w15.cell? ⟨gb347, 1, none⟩ = some (.bool false) := (blk_cell BK347.out 1).trans rfl; have hcz17_2 : w15.cell? ⟨gb347, 2, none⟩ = some (.slice none 0 0) := (blk_cell BK347.out 2).trans rfl; have hcz17_3 : w15.cell? ⟨gb347, 3, none⟩ = some (.int .i64 0) := (blk_cell BK347.out 3).trans rfl; have hcz17_4 : w15.cell? ⟨gb347, 4, none⟩ = some (.int .i64 0) := (blk_cell BK347.out 4).trans rfl; have hcz17_5 : w15.cell? ⟨gb347, 5, none⟩ = some (.int .i64 0) := (blk_cell BK347.out 5).trans rfl; have hcz17_6 : w15.cell? ⟨gb347, 6, none⟩ = some (.slice none 0 0) := (blk_cell BK347.out 6).trans rfl; have hfz17_0 := blk_frozen BK347.out 0; have hfz17_1 := blk_frozen BK347.out 1; have hfz17_2 := blk_frozen BK347.out 2; have hfz17_3 := blk_frozen BK347.out 3; have hfz17_4 := blk_frozen BK347.out 4; have hfz17_5 := blk_frozen BK347.out 5; have hfz17_6 := blk_frozen BK347.out 6; obtain ⟨Ao18, co18, eo18⟩ := Kd.R_slice HO339.out; subst eo18; obtain ⟨Ao19, co19, eo19⟩ := Kd.R_slice HO345.out; subst eo19)))
    (try simp only [Act.put, List.setIfInBounds_toArray, List.set_cons_zero, List.set_cons_succ])
    go_cut [44] (fun v44 wc => ∃ (kq : Nat) (x44_6 : Bool), v44 = .bool x44_6 ∧ Aside0 (cartouchelaw12_JudgeLevels.j0 kq l0 t320 x44_6 t322 t323 t324 t327 t328 t329 t330 = some r) ∧ Aside0 (kq ≤ k) ∧ Aside0 (Kd.R (Kd.int .i64) 3 wc w.heap.size (fun k_ => some k_ ≠ ((.slice Ao18 t337.length co18) : Value).ownBlock) (.slice Ao12 t324.length co12) t324) ∧ Aside0 (Kd.R k24 24 wc w.heap.size (fun k_ => some k_ ≠ ((.slice Ao19 t343.length co19) : Value).ownBlock) (.slice Ao13 t330.length co13) t330) ∧ Aside0 (Kd.R (Kd.int .i64) 3 wc w.heap.size (fun k_ => some k_ ≠ ((.slice Ao12 t324.length co12) : Value).ownBlock) (.slice Ao18 t337.length co18) t337) ∧ Aside0 (Kd.R k24 24 wc w.heap.size (fun k_ => some k_ ≠ ((.slice Ao13 t330.length co13) : Value).ownBlock) (.slice Ao19 t343.length co19) t343) ∧ Aside0 (wc.heap[gb334]? = some (.cells #[.int .i64 t322, .bool t323, (.slice Ao12 t324.length co12), .int .i64 t327, .int .i64 t328, .int .i64 t329, (.slice Ao13 t330.length co13)] 42 (0, 0))) ∧ Aside0 (wc.heap[gb347]? = some (.cells #[.int .i64 t335, .bool t336, (.slice Ao18 t337.length co18), .int .i64 t340, .int .i64 t341, .int .i64 t342, (.slice Ao19 t343.length co19)] 42 (0, 0))) ∧ Aside0 (Below w.heap.size w wc))
    case first =>
      have H := HC7.out
      clear HC7
      by_cases c20 : t333 = t346
      · rw [if_pos c20] at H
        have c20b0 : (t333 == t346) = true := beq_iff_eq.mpr c20
        have c20b1 : (t333 != t346) = false := bne_eq_false_iff_eq.mpr c20
        clear c20
        (first | rw [c20b0] | (simp only [i64_w, i32_w]; rw [c20b0]) | skip)
        by_cases c21 : t333 = 0
        · rw [if_pos c21] at H
          have c21b0 : (t333 == 0) = true := beq_iff_eq.mpr c21
          have c21b1 : (t333 != 0) = false := bne_eq_false_iff_eq.mpr c21
          clear c21
          by_cases c22 : t323 = true
          · subst c22
            have H1 : (cartouchelaw12_JudgeLevels.j0 k l0 t320 (!t336) t322 true t324 t327 t328 t329 t330) = some r := by rw [if_pos rfl] at H; exact H
            clear H
            have H := H1
            clear H1
            have H' := Aside0.mk H
            clear H
            have hnb23 := NB334_347.out
            have hnc23 := NB347_334.out
            have hcz24_0 : w15.cell? ⟨gb334, 0, none⟩ = some (.int .i64 t322) := (blk_cell BK334.out 0).trans rfl
            have hcz24_1 : w15.cell? ⟨gb334, 1, none⟩ = some (.bool true) := (blk_cell BK334.out 1).trans rfl
            have hcz24_2 : w15.cell? ⟨gb334, 2, none⟩ = some (.slice Ao12 t324.length co12) := (blk_cell BK334.out 2).trans rfl
            have hcz24_3 : w15.cell? ⟨gb334, 3, none⟩ = some (.int .i64 t327) := (blk_cell BK334.out 3).trans rfl
            have hcz24_4 : w15.cell? ⟨gb334, 4, none⟩ = some (.int .i64 t328) := (blk_cell BK334.out 4).trans rfl
            have hcz24_5 : w15.cell? ⟨gb334, 5, none⟩ = some (.int .i64 t329) := (blk_cell BK334.out 5).trans rfl
            have hcz24_6 : w15.cell? ⟨gb334, 6, none⟩ = some (.slice Ao13 t330.length co13) := (blk_cell BK334.out 6).trans rfl
            have hfz24_0 := blk_frozen BK334.out 0
            have hfz24_1 := blk_frozen BK334.out 1
            have hfz24_2 := blk_frozen BK334.out 2
            have hfz24_3 := blk_frozen BK334.out 3
            have hfz24_4 := blk_frozen BK334.out 4
            have hfz24_5 := blk_frozen BK334.out 5
            have hfz24_6 := blk_frozen BK334.out 6
            have hcz25_0 : w15.cell? ⟨gb347, 0, none⟩ = some (.int .i64 0) := (blk_cell BK347.out 0).trans rfl
            have hcz25_1 : w15.cell? ⟨gb347, 1, none⟩ = some (.bool false) := (blk_cell BK347.out 1).trans rfl
            have hcz25_2 : w15.cell? ⟨gb347, 2, none⟩ = some (.slice none 0 0) := (blk_cell BK347.out 2).trans rfl
            have hcz25_3 : w15.cell? ⟨gb347, 3, none⟩ = some (.int .i64 0) := (blk_cell BK347.out 3).trans rfl
            have hcz25_4 : w15.cell? ⟨gb347, 4, none⟩ = some (.int .i64 0) := (blk_cell BK347.out 4).trans rfl
            have hcz25_5 : w15.cell? ⟨gb347, 5, none⟩ = some (.int .i64 0) := (blk_cell BK347.out 5).trans rfl
            have hcz25_6 : w15.cell? ⟨gb347, 6, none⟩ = some (.slice none 0 0) := (blk_cell BK347.out 6).trans rfl
            have hfz25_0 := blk_frozen BK347.out 0
            have hfz25_1 := blk_frozen BK347.out 1
            have hfz25_2 := blk_frozen BK347.out 2
            have hfz25_3 := blk_frozen BK347.out 3
            have hfz25_4 := blk_frozen BK347.out 4
            have hfz25_5 := blk_frozen BK347.out 5
            have hfz25_6 := blk_frozen BK347.out 6
            go_wp2
            repeat (go_quiet (fail); try go_wp2)
            go_meet
            case rel => exact ⟨_, (!t336), (by first | rfl | (simp; done) | (simp [*]; done)), H', ⟨by first | omega | exact Nat.le_refl _⟩, ⟨by (with_reducible repeat (first | apply Kd.R_alloc | apply Kd.R_drewN | apply Kd.R_drew)); exact Kd.R_mono (Kd.R_far (p := ⟨gb347, 6, none⟩) (Kd.R_far (p := ⟨gb347, 5, none⟩) (Kd.R_far (p := ⟨gb347, 4, none⟩) (Kd.R_far (p := ⟨gb347, 3, none⟩) (Kd.R_far (p := ⟨gb347, 2, none⟩) (Kd.R_far (p := ⟨gb347, 1, none⟩) (Kd.R_far (p := ⟨gb347, 0, none⟩) (Kd.R_types HO326.out BK347.out (by decide)) (fun _ hk => hk.2) (.int .i64 t335)) (fun _ hk => hk.2) (.bool t336)) (fun _ hk => hk.2) (.slice Ao18 t337.length co18)) (fun _ hk => hk.2) (.int .i64 t340)) (fun _ hk => hk.2) (.int .i64 t341)) (fun _ hk => hk.2) (.int .i64 t342)) (fun _ hk => hk.2) (.slice Ao19 t343.length co19)) (fun _ hk => hk.1.2)⟩, ⟨by (with_reducible repeat (first | apply Kd.R_alloc | apply Kd.R_drewN | apply Kd.R_drew)); exact Kd.R_mono (Kd.R_far (p := ⟨gb347, 6, none⟩) (Kd.R_far (p := ⟨gb347, 5, none⟩) (Kd.R_far (p := ⟨gb347, 4, none⟩) (Kd.R_far (p := ⟨gb347, 3, none⟩) (Kd.R_far (p := ⟨gb347, 2, none⟩) (Kd.R_far (p := ⟨gb347, 1, none⟩) (Kd.R_far (p := ⟨gb347, 0, none⟩) (Kd.R_types HO332.out BK347.out (by decide)) (fun _ hk => hk.2) (.int .i64 t335)) (fun _ hk => hk.2) (.bool t336)) (fun _ hk => hk.2) (.slice Ao18 t337.length co18)) (fun _ hk => hk.2) (.int .i64 t340)) (fun _ hk => hk.2) (.int .i64 t341)) (fun _ hk => hk.2) (.int .i64 t342)) (fun _ hk => hk.2) (.slice Ao19 t343.length co19)) (fun _ hk => hk.1.2)⟩, ⟨by (with_reducible repeat (first | apply Kd.R_alloc | apply Kd.R_drewN | apply Kd.R_drew)); exact Kd.R_mono (Kd.R_far (p := ⟨gb347, 6, none⟩) (Kd.R_far (p := ⟨gb347, 5, none⟩) (Kd.R_far (p := ⟨gb347, 4, none⟩) (Kd.R_far (p := ⟨gb347, 3, none⟩) (Kd.R_far (p := ⟨gb347, 2, none⟩) (Kd.R_far (p := ⟨gb347, 1, none⟩) (Kd.R_far (p := ⟨gb347, 0, none⟩) (Kd.R_types HO339.out BK347.out (by decide)) (fun _ hk => hk.2) (.int .i64 t335)) (fun _ hk => hk.2) (.bool t336)) (fun _ hk => hk.2) (.slice Ao18 t337.length co18)) (fun _ hk => hk.2) (.int .i64 t340)) (fun _ hk => hk.2) (.int .i64 t341)) (fun _ hk => hk.2) (.int .i64 t342)) (fun _ hk => hk.2) (.slice Ao19 t343.length co19)) (fun _ hk => hk.1.2)⟩, ⟨by (with_reducible repeat (first | apply Kd.R_alloc | apply Kd.R_drewN | apply Kd.R_drew)); exact Kd.R_mono (Kd.R_far (p := ⟨gb347, 6, none⟩) (Kd.R_far (p := ⟨gb347, 5, none⟩) (Kd.R_far (p := ⟨gb347, 4, none⟩) (Kd.R_far (p := ⟨gb347, 3, none⟩) (Kd.R_far (p := ⟨gb347, 2, none⟩) (Kd.R_far (p := ⟨gb347, 1, none⟩) (Kd.R_far (p := ⟨gb347, 0, none⟩) (Kd.R_types HO345.out BK347.out (by decide)) (fun _ hk => hk.2) (.int .i64 t335)) (fun _ hk => hk.2) (.bool t336)) (fun _ hk => hk.2) (.slice Ao18 t337.length co18)) (fun _ hk => hk.2) (.int .i64 t340)) (fun _ hk => hk.2) (.int .i64 t341)) (fun _ hk => hk.2) (.int .i64 t342)) (fun _ hk => hk.2) (.slice Ao19 t343.length co19)) (fun _ hk => hk.1.2)⟩, ⟨by (with_reducible repeat (first | refine blk_drewN ?_ _ | refine blk_drew ?_ | refine blk_alloc ?_ _)); refine blk_far ?_ NB334_347.out _; (with_reducible repeat (first | refine blk_drewN ?_ _ | refine blk_drew ?_ | refine blk_alloc ?_ _)); refine blk_far ?_ NB334_347.out _; (with_reducible repeat (first | refine blk_drewN ?_ _ | refine blk_drew ?_ | refine blk_alloc ?_ _)); refine blk_far ?_ NB334_347.out _; (with_reducible repeat (first | refine blk_drewN ?_ _ | refine blk_drew ?_ | refine blk_alloc ?_ _)); refine blk_far ?_ NB334_347.out _; (with_reducible repeat (first | refine blk_drewN ?_ _ | refine blk_drew ?_ | refine blk_alloc ?_ _)); refine blk_far ?_ NB334_347.out _; (with_reducible repeat (first | refine blk_drewN ?_ _ | refine blk_drew ?_ | refine blk_alloc ?_ _)); refine blk_far ?_ NB334_347.out _; (with_reducible repeat (first | refine blk_drewN ?_ _ | refine blk_drew ?_ | refine blk_alloc ?_ _)); refine blk_far ?_ NB334_347.out _; (with_reducible repeat (first | refine blk_drewN ?_ _ | refine blk_drew ?_ | refine blk_alloc ?_ _)); exact BK334.out⟩, ⟨by (with_reducible repeat (first | refine blk_drewN ?_ _ | refine blk_drew ?_ | refine blk_alloc ?_ _)); refine blk_put (cs := #[.int .i64 t335, .bool t336, .slice Ao18 t337.length co18, .int .i64 t340, .int .i64 t341, .int .i64 t342, .slice none 0 0]) ?_ 6 _ rfl; (with_reducible repeat (first | refine blk_drewN ?_ _ | refine blk_drew ?_ | refine blk_alloc ?_ _)); refine blk_put (cs := #[.int .i64 t335, .bool t336, .slice Ao18 t337.length co18, .int .i64 t340, .int .i64 t341, .int .i64 0, .slice none 0 0]) ?_ 5 _ rfl; (with_reducible repeat (first | refine blk_drewN ?_ _ | refine blk_drew ?_ | refine blk_alloc ?_ _)); refine blk_put (cs := #[.int .i64 t335, .bool t336, .slice Ao18 t337.length co18, .int .i64 t340, .int .i64 0, .int .i64 0, .slice none 0 0]) ?_ 4 _ rfl; (with_reducible repeat (first | refine blk_drewN ?_ _ | refine blk_drew ?_ | refine blk_alloc ?_ _)); refine blk_put (cs := #[.int .i64 t335, .bool t336, .slice Ao18 t337.length co18, .int .i64 0, .int .i64 0, .int .i64 0, .slice none 0 0]) ?_ 3 _ rfl; (with_reducible repeat (first | refine blk_drewN ?_ _ | refine blk_drew ?_ | refine blk_alloc ?_ _)); refine blk_put (cs := #[.int .i64 t335, .bool t336, .slice none 0 0, .int .i64 0, .int .i64 0, .int .i64 0, .slice none 0 0]) ?_ 2 _ rfl; (with_reducible repeat (first | refine blk_drewN ?_ _ | refine blk_drew ?_ | refine blk_alloc ?_ _)); refine blk_put (cs := #[.int .i64 t335, .bool false, .slice none 0 0, .int .i64 0, .int .i64 0, .int .i64 0, .slice none 0 0]) ?_ 1 _ rfl; (with_reducible repeat (first | refine blk_drewN ?_ _ | refine blk_drew ?_ | refine blk_alloc ?_ _)); refine blk_put (cs := #[.int .i64 0, .bool false, .slice none 0 0, .int .i64 0, .int .i64 0, .int .i64 0, .slice none 0 0]) ?_ 0 _ rfl; (with_reducible repeat (first | refine blk_drewN ?_ _ | refine blk_drew ?_ | refine blk_alloc ?_ _)); exact BK347.out⟩, ⟨by repeat (first | (with_reducible first | exact HB.out | apply below_alloc | apply pw_below_drewN | apply below_drew1 | refine below_set ?_ GE334.out | refine below_set ?_ GE347.out) | exact HB.out)⟩⟩
          · replace c22 := Bool.eq_false_iff.mpr c22
            subst c22
            have H1 : (cartouchelaw12_JudgeLevels.j0 k l0 t320 false t322 false t324 t327 t328 t329 t330) = some r := by rw [if_neg (show ¬ (false = true) by decide)] at H; exact H
            clear H
            have H := H1
            clear H1
            have H' := Aside0.mk H
            clear H
            have hnb26 := NB334_347.out
            have hnc26 := NB347_334.out
            have hcz27_0 : w15.cell? ⟨gb334, 0, none⟩ = some (.int .i64 t322) := (blk_cell BK334.out 0).trans rfl
            have hcz27_1 : w15.cell? ⟨gb334, 1, none⟩ = some (.bool false) := (blk_cell BK334.out 1).trans rfl
            have hcz27_2 : w15.cell? ⟨gb334, 2, none⟩ = some (.slice Ao12 t324.length co12) := (blk_cell BK334.out 2).trans rfl
            have hcz27_3 : w15.cell? ⟨gb334, 3, none⟩ = some (.int .i64 t327) := (blk_cell BK334.out 3).trans rfl
            have hcz27_4 : w15.cell? ⟨gb334, 4, none⟩ = some (.int .i64 t328) := (blk_cell BK334.out 4).trans rfl
            have hcz27_5 : w15.cell? ⟨gb334, 5, none⟩ = some (.int .i64 t329) := (blk_cell BK334.out 5).trans rfl
            have hcz27_6 : w15.cell? ⟨gb334, 6, none⟩ = some (.slice Ao13 t330.length co13) := (blk_cell BK334.out 6).trans rfl
            have hfz27_0 := blk_frozen BK334.out 0
            have hfz27_1 := blk_frozen BK334.out 1
            have hfz27_2 := blk_frozen BK334.out 2
            have hfz27_3 := blk_frozen BK334.out 3
            have hfz27_4 := blk_frozen BK334.out 4
            have hfz27_5 := blk_frozen BK334.out 5
            have hfz27_6 := blk_frozen BK334.out 6
            go_wp2
            repeat (go_quiet (fail); try go_wp2)
            go_meet
            case rel => exact ⟨_, (false), (by first | rfl | (simp; done) | (simp [*]; done)), H', ⟨by first | omega | exact Nat.le_refl _⟩, ⟨by (with_reducible repeat (first | apply Kd.R_alloc | apply Kd.R_drewN | apply Kd.R_drew)); exact Kd.R_mono (Kd.R_far (p := ⟨gb347, 6, none⟩) (Kd.R_far (p := ⟨gb347, 5, none⟩) (Kd.R_far (p := ⟨gb347, 4, none⟩) (Kd.R_far (p := ⟨gb347, 3, none⟩) (Kd.R_far (p := ⟨gb347, 2, none⟩) (Kd.R_far (p := ⟨gb347, 1, none⟩) (Kd.R_far (p := ⟨gb347, 0, none⟩) (Kd.R_types HO326.out BK347.out (by decide)) (fun _ hk => hk.2) (.int .i64 t335)) (fun _ hk => hk.2) (.bool t336)) (fun _ hk => hk.2) (.slice Ao18 t337.length co18)) (fun _ hk => hk.2) (.int .i64 t340)) (fun _ hk => hk.2) (.int .i64 t341)) (fun _ hk => hk.2) (.int .i64 t342)) (fun _ hk => hk.2) (.slice Ao19 t343.length co19)) (fun _ hk => hk.1.2)⟩, ⟨by (with_reducible repeat (first | apply Kd.R_alloc | apply Kd.R_drewN | apply Kd.R_drew)); exact Kd.R_mono (Kd.R_far (p := ⟨gb347, 6, none⟩) (Kd.R_far (p := ⟨gb347, 5, none⟩) (Kd.R_far (p := ⟨gb347, 4, none⟩) (Kd.R_far (p := ⟨gb347, 3, none⟩) (Kd.R_far (p := ⟨gb347, 2, none⟩) (Kd.R_far (p := ⟨gb347, 1, none⟩) (Kd.R_far (p := ⟨gb347, 0, none⟩) (Kd.R_types HO332.out BK347.out (by decide)) (fun _ hk => hk.2) (.int .i64 t335)) (fun _ hk => hk.2) (.bool t336)) (fun _ hk => hk.2) (.slice Ao18 t337.length co18)) (fun _ hk => hk.2) (.int .i64 t340)) (fun _ hk => hk.2) (.int .i64 t341)) (fun _ hk => hk.2) (.int .i64 t342)) (fun _ hk => hk.2) (.slice Ao19 t343.length co19)) (fun _ hk => hk.1.2)⟩, ⟨by (with_reducible repeat (first | apply Kd.R_alloc | apply Kd.R_drewN | apply Kd.R_drew)); exact Kd.R_mono (Kd.R_far (p := ⟨gb347, 6, none⟩) (Kd.R_far (p := ⟨gb347, 5, none⟩) (Kd.R_far (p := ⟨gb347, 4, none⟩) (Kd.R_far (p := ⟨gb347, 3, none⟩) (Kd.R_far (p := ⟨gb347, 2, none⟩) (Kd.R_far (p := ⟨gb347, 1, none⟩) (Kd.R_far (p := ⟨gb347, 0, none⟩) (Kd.R_types HO339.out BK347.out (by decide)) (fun _ hk => hk.2) (.int .i64 t335)) (fun _ hk => hk.2) (.bool t336)) (fun _ hk => hk.2) (.slice Ao18 t337.length co18)) (fun _ hk => hk.2) (.int .i64 t340)) (fun _ hk => hk.2) (.int .i64 t341)) (fun _ hk => hk.2) (.int .i64 t342)) (fun _ hk => hk.2) (.slice Ao19 t343.length co19)) (fun _ hk => hk.1.2)⟩, ⟨by (with_reducible repeat (first | apply Kd.R_alloc | apply Kd.R_drewN | apply Kd.R_drew)); exact Kd.R_mono (Kd.R_far (p := ⟨gb347, 6, none⟩) (Kd.R_far (p := ⟨gb347, 5, none⟩) (Kd.R_far (p := ⟨gb347, 4, none⟩) (Kd.R_far (p := ⟨gb347, 3, none⟩) (Kd.R_far (p := ⟨gb347, 2, none⟩) (Kd.R_far (p := ⟨gb347, 1, none⟩) (Kd.R_far (p := ⟨gb347, 0, none⟩) (Kd.R_types HO345.out BK347.out (by decide)) (fun _ hk => hk.2) (.int .i64 t335)) (fun _ hk => hk.2) (.bool t336)) (fun _ hk => hk.2) (.slice Ao18 t337.length co18)) (fun _ hk => hk.2) (.int .i64 t340)) (fun _ hk => hk.2) (.int .i64 t341)) (fun _ hk => hk.2) (.int .i64 t342)) (fun _ hk => hk.2) (.slice Ao19 t343.length co19)) (fun _ hk => hk.1.2)⟩, ⟨by (with_reducible repeat (first | refine blk_drewN ?_ _ | refine blk_drew ?_ | refine blk_alloc ?_ _)); refine blk_far ?_ NB334_347.out _; (with_reducible repeat (first | refine blk_drewN ?_ _ | refine blk_drew ?_ | refine blk_alloc ?_ _)); refine blk_far ?_ NB334_347.out _; (with_reducible repeat (first | refine blk_drewN ?_ _ | refine blk_drew ?_ | refine blk_alloc ?_ _)); refine blk_far ?_ NB334_347.out _; (with_reducible repeat (first | refine blk_drewN ?_ _ | refine blk_drew ?_ | refine blk_alloc ?_ _)); refine blk_far ?_ NB334_347.out _; (with_reducible repeat (first | refine blk_drewN ?_ _ | refine blk_drew ?_ | refine blk_alloc ?_ _)); refine blk_far ?_ NB334_347.out _; (with_reducible repeat (first | refine blk_drewN ?_ _ | refine blk_drew ?_ | refine blk_alloc ?_ _)); refine blk_far ?_ NB334_347.out _; (with_reducible repeat (first | refine blk_drewN ?_ _ | refine blk_drew ?_ | refine blk_alloc ?_ _)); refine blk_far ?_ NB334_347.out _; (with_reducible repeat (first | refine blk_drewN ?_ _ | refine blk_drew ?_ | refine blk_alloc ?_ _)); exact BK334.out⟩, ⟨by (with_reducible repeat (first | refine blk_drewN ?_ _ | refine blk_drew ?_ | refine blk_alloc ?_ _)); refine blk_put (cs := #[.int .i64 t335, .bool t336, .slice Ao18 t337.length co18, .int .i64 t340, .int .i64 t341, .int .i64 t342, .slice none 0 0]) ?_ 6 _ rfl; (with_reducible repeat (first | refine blk_drewN ?_ _ | refine blk_drew ?_ | refine blk_alloc ?_ _)); refine blk_put (cs := #[.int .i64 t335, .bool t336, .slice Ao18 t337.length co18, .int .i64 t340, .int .i64 t341, .int .i64 0, .slice none 0 0]) ?_ 5 _ rfl; (with_reducible repeat (first | refine blk_drewN ?_ _ | refine blk_drew ?_ | refine blk_alloc ?_ _)); refine blk_put (cs := #[.int .i64 t335, .bool t336, .slice Ao18 t337.length co18, .int .i64 t340, .int .i64 0, .int .i64 0, .slice none 0 0]) ?_ 4 _ rfl; (with_reducible repeat (first | refine blk_drewN ?_ _ | refine blk_drew ?_ | refine blk_alloc ?_ _)); refine blk_put (cs := #[.int .i64 t335, .bool t336, .slice Ao18 t337.length co18, .int .i64 0, .int .i64 0, .int .i64 0, .slice none 0 0]) ?_ 3 _ rfl; (with_reducible repeat (first | refine blk_drewN ?_ _ | refine blk_drew ?_ | refine blk_alloc ?_ _)); refine blk_put (cs := #[.int .i64 t335, .bool t336, .slice none 0 0, .int .i64 0, .int .i64 0, .int .i64 0, .slice none 0 0]) ?_ 2 _ rfl; (with_reducible repeat (first | refine blk_drewN ?_ _ | refine blk_drew ?_ | refine blk_alloc ?_ _)); refine blk_put (cs := #[.int .i64 t335, .bool false, .slice none 0 0, .int .i64 0, .int .i64 0, .int .i64 0, .slice none 0 0]) ?_ 1 _ rfl; (with_reducible repeat (first | refine blk_drewN ?_ _ | refine blk_drew ?_ | refine blk_alloc ?_ _)); refine blk_put (cs := #[.int .i64 0, .bool false, .slice none 0 0, .int .i64 0, .int .i64 0, .int .i64 0, .slice none 0 0]) ?_ 0 _ rfl; (with_reducible repeat (first | refine blk_drewN ?_ _ | refine blk_drew ?_ | refine blk_alloc ?_ _)); exact BK347.out⟩, ⟨by repeat (first | (with_reducible first | exact HB.out | apply below_alloc | apply pw_below_drewN | apply below_drew1 | refine below_set ?_ GE334.out | refine below_set ?_ GE347.out) | exact HB.out)⟩⟩
        · rw [if_neg c21] at H
          have c21b0 : (t333 == 0) = false := beq_eq_false_iff_ne.mpr c21
          have c21b1 : (t333 != 0) = true := bne_iff_ne.mpr c21
          have H' := Aside0.mk H
          clear H
          go_wp2
          repeat (go_quiet (fail); try go_wp2)
          go_meet
          case rel => exact ⟨_, (false), (by first | rfl | (simp; done) | (simp [*]; done)), H', ⟨by first | omega | exact Nat.le_refl _⟩, ⟨by (with_reducible repeat (first | apply Kd.R_alloc | apply Kd.R_drewN | apply Kd.R_drew)); exact Kd.R_mono (Kd.R_far (p := ⟨gb347, 6, none⟩) (Kd.R_far (p := ⟨gb347, 5, none⟩) (Kd.R_far (p := ⟨gb347, 4, none⟩) (Kd.R_far (p := ⟨gb347, 3, none⟩) (Kd.R_far (p := ⟨gb347, 2, none⟩) (Kd.R_far (p := ⟨gb347, 1, none⟩) (Kd.R_far (p := ⟨gb347, 0, none⟩) (Kd.R_types HO326.out BK347.out (by decide)) (fun _ hk => hk.2) (.int .i64 t335)) (fun _ hk => hk.2) (.bool t336)) (fun _ hk => hk.2) (.slice Ao18 t337.length co18)) (fun _ hk => hk.2) (.int .i64 t340)) (fun _ hk => hk.2) (.int .i64 t341)) (fun _ hk => hk.2) (.int .i64 t342)) (fun _ hk => hk.2) (.slice Ao19 t343.length co19)) (fun _ hk => hk.1.2)⟩, ⟨by (with_reducible repeat (first | apply Kd.R_alloc | apply Kd.R_drewN | apply Kd.R_drew)); exact Kd.R_mono (Kd.R_far (p := ⟨gb347, 6, none⟩) (Kd.R_far (p := ⟨gb347, 5, none⟩) (Kd.R_far (p := ⟨gb347, 4, none⟩) (Kd.R_far (p := ⟨gb347, 3, none⟩) (Kd.R_far (p := ⟨gb347, 2, none⟩) (Kd.R_far (p := ⟨gb347, 1, none⟩) (Kd.R_far (p := ⟨gb347, 0, none⟩) (Kd.R_types HO332.out BK347.out (by decide)) (fun _ hk => hk.2) (.int .i64 t335)) (fun _ hk => hk.2) (.bool t336)) (fun _ hk => hk.2) (.slice Ao18 t337.length co18)) (fun _ hk => hk.2) (.int .i64 t340)) (fun _ hk => hk.2) (.int .i64 t341)) (fun _ hk => hk.2) (.int .i64 t342)) (fun _ hk => hk.2) (.slice Ao19 t343.length co19)) (fun _ hk => hk.1.2)⟩, ⟨by (with_reducible repeat (first | apply Kd.R_alloc | apply Kd.R_drewN | apply Kd.R_drew)); exact Kd.R_mono (Kd.R_far (p := ⟨gb347, 6, none⟩) (Kd.R_far (p := ⟨gb347, 5, none⟩) (Kd.R_far (p := ⟨gb347, 4, none⟩) (Kd.R_far (p := ⟨gb347, 3, none⟩) (Kd.R_far (p := ⟨gb347, 2, none⟩) (Kd.R_far (p := ⟨gb347, 1, none⟩) (Kd.R_far (p := ⟨gb347, 0, none⟩) (Kd.R_types HO339.out BK347.out (by decide)) (fun _ hk => hk.2) (.int .i64 t335)) (fun _ hk => hk.2) (.bool t336)) (fun _ hk => hk.2) (.slice Ao18 t337.length co18)) (fun _ hk => hk.2) (.int .i64 t340)) (fun _ hk => hk.2) (.int .i64 t341)) (fun _ hk => hk.2) (.int .i64 t342)) (fun _ hk => hk.2) (.slice Ao19 t343.length co19)) (fun _ hk => hk.1.2)⟩, ⟨by (with_reducible repeat (first | apply Kd.R_alloc | apply Kd.R_drewN | apply Kd.R_drew)); exact Kd.R_mono (Kd.R_far (p := ⟨gb347, 6, none⟩) (Kd.R_far (p := ⟨gb347, 5, none⟩) (Kd.R_far (p := ⟨gb347, 4, none⟩) (Kd.R_far (p := ⟨gb347, 3, none⟩) (Kd.R_far (p := ⟨gb347, 2, none⟩) (Kd.R_far (p := ⟨gb347, 1, none⟩) (Kd.R_far (p := ⟨gb347, 0, none⟩) (Kd.R_types HO345.out BK347.out (by decide)) (fun _ hk => hk.2) (.int .i64 t335)) (fun _ hk => hk.2) (.bool t336)) (fun _ hk => hk.2) (.slice Ao18 t337.length co18)) (fun _ hk => hk.2) (.int .i64 t340)) (fun _ hk => hk.2) (.int .i64 t341)) (fun _ hk => hk.2) (.int .i64 t342)) (fun _ hk => hk.2) (.slice Ao19 t343.length co19)) (fun _ hk => hk.1.2)⟩, ⟨by (with_reducible repeat (first | refine blk_drewN ?_ _ | refine blk_drew ?_ | refine blk_alloc ?_ _)); refine blk_far ?_ NB334_347.out _; (with_reducible repeat (first | refine blk_drewN ?_ _ | refine blk_drew ?_ | refine blk_alloc ?_ _)); refine blk_far ?_ NB334_347.out _; (with_reducible repeat (first | refine blk_drewN ?_ _ | refine blk_drew ?_ | refine blk_alloc ?_ _)); refine blk_far ?_ NB334_347.out _; (with_reducible repeat (first | refine blk_drewN ?_ _ | refine blk_drew ?_ | refine blk_alloc ?_ _)); refine blk_far ?_ NB334_347.out _; (with_reducible repeat (first | refine blk_drewN ?_ _ | refine blk_drew ?_ | refine blk_alloc ?_ _)); refine blk_far ?_ NB334_347.out _; (with_reducible repeat (first | refine blk_drewN ?_ _ | refine blk_drew ?_ | refine blk_alloc ?_ _)); refine blk_far ?_ NB334_347.out _; (with_reducible repeat (first | refine blk_drewN ?_ _ | refine blk_drew ?_ | refine blk_alloc ?_ _)); refine blk_far ?_ NB334_347.out _; (with_reducible repeat (first | refine blk_drewN ?_ _ | refine blk_drew ?_ | refine blk_alloc ?_ _)); exact BK334.out⟩, ⟨by (with_reducible repeat (first | refine blk_drewN ?_ _ | refine blk_drew ?_ | refine blk_alloc ?_ _)); refine blk_put (cs := #[.int .i64 t335, .bool t336, .slice Ao18 t337.length co18, .int .i64 t340, .int .i64 t341, .int .i64 t342, .slice none 0 0]) ?_ 6 _ rfl; (with_reducible repeat (first | refine blk_drewN ?_ _ | refine blk_drew ?_ | refine blk_alloc ?_ _)); refine blk_put (cs := #[.int .i64 t335, .bool t336, .slice Ao18 t337.length co18, .int .i64 t340, .int .i64 t341, .int .i64 0, .slice none 0 0]) ?_ 5 _ rfl; (with_reducible repeat (first | refine blk_drewN ?_ _ | refine blk_drew ?_ | refine blk_alloc ?_ _)); refine blk_put (cs := #[.int .i64 t335, .bool t336, .slice Ao18 t337.length co18, .int .i64 t340, .int .i64 0, .int .i64 0, .slice none 0 0]) ?_ 4 _ rfl; (with_reducible repeat (first | refine blk_drewN ?_ _ | refine blk_drew ?_ | refine blk_alloc ?_ _)); refine blk_put (cs := #[.int .i64 t335, .bool t336, .slice Ao18 t337.length co18, .int .i64 0, .int .i64 0, .int .i64 0, .slice none 0 0]) ?_ 3 _ rfl; (with_reducible repeat (first | refine blk_drewN ?_ _ | refine blk_drew ?_ | refine blk_alloc ?_ _)); refine blk_put (cs := #[.int .i64 t335, .bool t336, .slice none 0 0, .int .i64 0, .int .i64 0, .int .i64 0, .slice none 0 0]) ?_ 2 _ rfl; (with_reducible repeat (first | refine blk_drewN ?_ _ | refine blk_drew ?_ | refine blk_alloc ?_ _)); refine blk_put (cs := #[.int .i64 t335, .bool false, .slice none 0 0, .int .i64 0, .int .i64 0, .int .i64 0, .slice none 0 0]) ?_ 1 _ rfl; (with_reducible repeat (first | refine blk_drewN ?_ _ | refine blk_drew ?_ | refine blk_alloc ?_ _)); refine blk_put (cs := #[.int .i64 0, .bool false, .slice none 0 0, .int .i64 0, .int .i64 0, .int .i64 0, .slice none 0 0]) ?_ 0 _ rfl; (with_reducible repeat (first | refine blk_drewN ?_ _ | refine blk_drew ?_ | refine blk_alloc ?_ _)); exact BK347.out⟩, ⟨by repeat (first | (with_reducible first | exact HB.out | apply below_alloc | apply pw_below_drewN | apply below_drew1 | refine below_set ?_ GE334.out | refine below_set ?_ GE347.out) | exact HB.out)⟩⟩
      · rw [if_neg c20] at H
        have c20b0 : (t333 == t346) = false := beq_eq_false_iff_ne.mpr c20
        have c20b1 : (t333 != t346) = true := bne_iff_ne.mpr c20
        (first | rw [c20b0] | (simp only [i64_w, i32_w]; rw [c20b0]) | skip)
        have H' := Aside0.mk H
        clear H
        go_wp2
        repeat (go_quiet (fail); try go_wp2)
        go_meet
        case rel => exact ⟨_, (true), (by first | rfl | (simp; done) | (simp [*]; done)), H', ⟨by first | omega | exact Nat.le_refl _⟩, ⟨by (with_reducible repeat (first | apply Kd.R_alloc | apply Kd.R_drewN | apply Kd.R_drew)); exact Kd.R_mono (Kd.R_far (p := ⟨gb347, 6, none⟩) (Kd.R_far (p := ⟨gb347, 5, none⟩) (Kd.R_far (p := ⟨gb347, 4, none⟩) (Kd.R_far (p := ⟨gb347, 3, none⟩) (Kd.R_far (p := ⟨gb347, 2, none⟩) (Kd.R_far (p := ⟨gb347, 1, none⟩) (Kd.R_far (p := ⟨gb347, 0, none⟩) (Kd.R_types HO326.out BK347.out (by decide)) (fun _ hk => hk.2) (.int .i64 t335)) (fun _ hk => hk.2) (.bool t336)) (fun _ hk => hk.2) (.slice Ao18 t337.length co18)) (fun _ hk => hk.2) (.int .i64 t340)) (fun _ hk => hk.2) (.int .i64 t341)) (fun _ hk => hk.2) (.int .i64 t342)) (fun _ hk => hk.2) (.slice Ao19 t343.length co19)) (fun _ hk => hk.1.2)⟩, ⟨by (with_reducible repeat (first | apply Kd.R_alloc | apply Kd.R_drewN | apply Kd.R_drew)); exact Kd.R_mono (Kd.R_far (p := ⟨gb347, 6, none⟩) (Kd.R_far (p := ⟨gb347, 5, none⟩) (Kd.R_far (p := ⟨gb347, 4, none⟩) (Kd.R_far (p := ⟨gb347, 3, none⟩) (Kd.R_far (p := ⟨gb347, 2, none⟩) (Kd.R_far (p := ⟨gb347, 1, none⟩) (Kd.R_far (p := ⟨gb347, 0, none⟩) (Kd.R_types HO332.out BK347.out (by decide)) (fun _ hk => hk.2) (.int .i64 t335)) (fun _ hk => hk.2) (.bool t336)) (fun _ hk => hk.2) (.slice Ao18 t337.length co18)) (fun _ hk => hk.2) (.int .i64 t340)) (fun _ hk => hk.2) (.int .i64 t341)) (fun _ hk => hk.2) (.int .i64 t342)) (fun _ hk => hk.2) (.slice Ao19 t343.length co19)) (fun _ hk => hk.1.2)⟩, ⟨by (with_reducible repeat (first | apply Kd.R_alloc | apply Kd.R_drewN | apply Kd.R_drew)); exact Kd.R_mono (Kd.R_far (p := ⟨gb347, 6, none⟩) (Kd.R_far (p := ⟨gb347, 5, none⟩) (Kd.R_far (p := ⟨gb347, 4, none⟩) (Kd.R_far (p := ⟨gb347, 3, none⟩) (Kd.R_far (p := ⟨gb347, 2, none⟩) (Kd.R_far (p := ⟨gb347, 1, none⟩) (Kd.R_far (p := ⟨gb347, 0, none⟩) (Kd.R_types HO339.out BK347.out (by decide)) (fun _ hk => hk.2) (.int .i64 t335)) (fun _ hk => hk.2) (.bool t336)) (fun _ hk => hk.2) (.slice Ao18 t337.length co18)) (fun _ hk => hk.2) (.int .i64 t340)) (fun _ hk => hk.2) (.int .i64 t341)) (fun _ hk => hk.2) (.int .i64 t342)) (fun _ hk => hk.2) (.slice Ao19 t343.length co19)) (fun _ hk => hk.1.2)⟩, ⟨by (with_reducible repeat (first | apply Kd.R_alloc | apply Kd.R_drewN | apply Kd.R_drew)); exact Kd.R_mono (Kd.R_far (p := ⟨gb347, 6, none⟩) (Kd.R_far (p := ⟨gb347, 5, none⟩) (Kd.R_far (p := ⟨gb347, 4, none⟩) (Kd.R_far (p := ⟨gb347, 3, none⟩) (Kd.R_far (p := ⟨gb347, 2, none⟩) (Kd.R_far (p := ⟨gb347, 1, none⟩) (Kd.R_far (p := ⟨gb347, 0, none⟩) (Kd.R_types HO345.out BK347.out (by decide)) (fun _ hk => hk.2) (.int .i64 t335)) (fun _ hk => hk.2) (.bool t336)) (fun _ hk => hk.2) (.slice Ao18 t337.length co18)) (fun _ hk => hk.2) (.int .i64 t340)) (fun _ hk => hk.2) (.int .i64 t341)) (fun _ hk => hk.2) (.int .i64 t342)) (fun _ hk => hk.2) (.slice Ao19 t343.length co19)) (fun _ hk => hk.1.2)⟩, ⟨by (with_reducible repeat (first | refine blk_drewN ?_ _ | refine blk_drew ?_ | refine blk_alloc ?_ _)); refine blk_far ?_ NB334_347.out _; (with_reducible repeat (first | refine blk_drewN ?_ _ | refine blk_drew ?_ | refine blk_alloc ?_ _)); refine blk_far ?_ NB334_347.out _; (with_reducible repeat (first | refine blk_drewN ?_ _ | refine blk_drew ?_ | refine blk_alloc ?_ _)); refine blk_far ?_ NB334_347.out _; (with_reducible repeat (first | refine blk_drewN ?_ _ | refine blk_drew ?_ | refine blk_alloc ?_ _)); refine blk_far ?_ NB334_347.out _; (with_reducible repeat (first | refine blk_drewN ?_ _ | refine blk_drew ?_ | refine blk_alloc ?_ _)); refine blk_far ?_ NB334_347.out _; (with_reducible repeat (first | refine blk_drewN ?_ _ | refine blk_drew ?_ | refine blk_alloc ?_ _)); refine blk_far ?_ NB334_347.out _; (with_reducible repeat (first | refine blk_drewN ?_ _ | refine blk_drew ?_ | refine blk_alloc ?_ _)); refine blk_far ?_ NB334_347.out _; (with_reducible repeat (first | refine blk_drewN ?_ _ | refine blk_drew ?_ | refine blk_alloc ?_ _)); exact BK334.out⟩, ⟨by (with_reducible repeat (first | refine blk_drewN ?_ _ | refine blk_drew ?_ | refine blk_alloc ?_ _)); refine blk_put (cs := #[.int .i64 t335, .bool t336, .slice Ao18 t337.length co18, .int .i64 t340, .int .i64 t341, .int .i64 t342, .slice none 0 0]) ?_ 6 _ rfl; (with_reducible repeat (first | refine blk_drewN ?_ _ | refine blk_drew ?_ | refine blk_alloc ?_ _)); refine blk_put (cs := #[.int .i64 t335, .bool t336, .slice Ao18 t337.length co18, .int .i64 t340, .int .i64 t341, .int .i64 0, .slice none 0 0]) ?_ 5 _ rfl; (with_reducible repeat (first | refine blk_drewN ?_ _ | refine blk_drew ?_ | refine blk_alloc ?_ _)); refine blk_put (cs := #[.int .i64 t335, .bool t336, .slice Ao18 t337.length co18, .int .i64 t340, .int .i64 0, .int .i64 0, .slice none 0 0]) ?_ 4 _ rfl; (with_reducible repeat (first | refine blk_drewN ?_ _ | refine blk_drew ?_ | refine blk_alloc ?_ _)); refine blk_put (cs := #[.int .i64 t335, .bool t336, .slice Ao18 t337.length co18, .int .i64 0, .int .i64 0, .int .i64 0, .slice none 0 0]) ?_ 3 _ rfl; (with_reducible repeat (first | refine blk_drewN ?_ _ | refine blk_drew ?_ | refine blk_alloc ?_ _)); refine blk_put (cs := #[.int .i64 t335, .bool t336, .slice none 0 0, .int .i64 0, .int .i64 0, .int .i64 0, .slice none 0 0]) ?_ 2 _ rfl; (with_reducible repeat (first | refine blk_drewN ?_ _ | refine blk_drew ?_ | refine blk_alloc ?_ _)); refine blk_put (cs := #[.int .i64 t335, .bool false, .slice none 0 0, .int .i64 0, .int .i64 0, .int .i64 0, .slice none 0 0]) ?_ 1 _ rfl; (with_reducible repeat (first | refine blk_drewN ?_ _ | refine blk_drew ?_ | refine blk_alloc ?_ _)); refine blk_put (cs := #[.int .i64 0, .bool false, .slice none 0 0, .int .i64 0, .int .i64 0, .int .i64 0, .slice none 0 0]) ?_ 0 _ rfl; (with_reducible repeat (first | refine blk_drewN ?_ _ | refine blk_drew ?_ | refine blk_alloc ?_ _)); exact BK347.out⟩, ⟨by repeat (first | (with_reducible first | exact HB.out | apply below_alloc | apply pw_below_drewN | apply below_drew1 | refine below_set ?_ GE334.out | refine below_set ?_ GE347.out) | exact HB.out)⟩⟩
    case rest =>
      clear HC7
      try clear c1
      try clear c2
      try clear p2
      try clear c4
      try clear c6
      try clear c16
      try clear c20
      try clear c20b0
      try clear c20b1
      try clear c21
      try clear c21b0
      try clear c21b1
      try clear c22
      try clear c23
      try clear c26
      try clear hcz11_0
      try clear hcz11_1
      try clear hcz11_2
      try clear hcz11_3
      try clear hcz11_4
      try clear hcz11_5
      try clear hcz11_6
      try clear hcz17_0
      try clear hcz17_1
      try clear hcz17_2
      try clear hcz17_3
      try clear hcz17_4
      try clear hcz17_5
      try clear hcz17_6
      try clear hcz24_0
      try clear hcz24_1
      try clear hcz24_2
      try clear hcz24_3
      try clear hcz24_4
      try clear hcz24_5
      try clear hcz24_6
      try clear hcz25_0
      try clear hcz25_1
      try clear hcz25_2
      try clear hcz25_3
      try clear hcz25_4
      try clear hcz25_5
      try clear hcz25_6
      try clear hcz27_0
      try clear hcz27_1
      try clear hcz27_2
      try clear hcz27_3
      try clear hcz27_4
      try clear hcz27_5
      try clear hcz27_6
      try clear hfz11_0
      try clear hfz11_1
      try clear hfz11_2
      try clear hfz11_3
      try clear hfz11_4
      try clear hfz11_5
      try clear hfz11_6
      try clear hfz17_0
      try clear hfz17_1
      try clear hfz17_2
      try clear hfz17_3
      try clear hfz17_4
      try clear hfz17_5
      try clear hfz17_6
      try clear hfz24_0
      try clear hfz24_1
      try clear hfz24_2
      try clear hfz24_3
      try clear hfz24_4
      try clear hfz24_5
      try clear hfz24_6
      try clear hfz25_0
      try clear hfz25_1
      try clear hfz25_2
      try clear hfz25_3
      try clear hfz25_4
      try clear hfz25_5
      try clear hfz25_6
      try clear hfz27_0
      try clear hfz27_1
      try clear hfz27_2
      try clear hfz27_3
      try clear hfz27_4
      try clear hfz27_5
      try clear hfz27_6
      obtain ⟨kq, x44_6, rfl, HA, HJ6, HO_335002, HO_335006, HO_348002, HO_348006, BK334, BK347, HB⟩ := hcut
      cases kq with
      | zero => exact absurd HA.out (by simp [cartouchelaw12_JudgeLevels.j0])
      | succ kj6 =>
        have H := HA.out
        clear HA
        simp only [cartouchelaw12_JudgeLevels.j0] at H
        by_cases c28 : x44_6 = true
        · subst c28
          have H1 : (some false) = some r := by rw [if_pos rfl] at H; exact H
          clear H
          have H := H1
          clear H1
          obtain rfl := Option.some.inj H
          go_wp2
          repeat (go_quiet (fail); try go_wp2)
          go_ret
          exact ⟨by first | rfl | (simp [errW_none, errW_some] <;> rfl) | (simp [*, errW_none, errW_some] <;> rfl), by repeat (first | (with_reducible first | exact HB.out | apply below_alloc | apply pw_below_drewN | apply below_drew1 | refine below_set ?_ GE334.out | refine below_set ?_ GE347.out) | exact HB.out)⟩
        · replace c28 := Bool.eq_false_iff.mpr c28
          subst c28
          have H1 : (if t323 = true then ((cartoucheref10_Nodes.f kj6 l0).bind fun t348 => (cartouchelaw12_JudgeLevels.l0 kj6 t320 t348 0 t322 t323 t324 t327 t328 t329 t330)) else (some t320)) = some r := by rw [if_neg (show ¬ (false = true) by decide)] at H; exact H
          clear H
          have H := H1
          clear H1
          by_cases c29 : t323 = true
          · subst c29
            have H1 : ((cartoucheref10_Nodes.f kj6 l0).bind fun t348 => (cartouchelaw12_JudgeLevels.l0 kj6 t320 t348 0 t322 true t324 t327 t328 t329 t330)) = some r := by rw [if_pos rfl] at H; exact H
            clear H
            have H := H1
            clear H1
            replace H := Option.bind_eq_some_iff.mp H
            obtain ⟨t348, A300, H⟩ := H
            replace H : (cartouchelaw12_JudgeLevels.l0 kj6 t320 t348 0 t322 true t324 t327 t328 t329 t330) = some r := H
            have A30 := Aside0.mk A300
            clear A300
            have H' := Aside0.mk H
            clear H
            have hnb31 := NB334_347.out
            have hnc31 := NB347_334.out
            have hcz32_0 : wc.cell? ⟨gb334, 0, none⟩ = some (.int .i64 t322) := (blk_cell BK334.out 0).trans rfl
            have hcz32_1 : wc.cell? ⟨gb334, 1, none⟩ = some (.bool true) := (blk_cell BK334.out 1).trans rfl
            have hcz32_2 : wc.cell? ⟨gb334, 2, none⟩ = some (.slice Ao12 t324.length co12) := (blk_cell BK334.out 2).trans rfl
            have hcz32_3 : wc.cell? ⟨gb334, 3, none⟩ = some (.int .i64 t327) := (blk_cell BK334.out 3).trans rfl
            have hcz32_4 : wc.cell? ⟨gb334, 4, none⟩ = some (.int .i64 t328) := (blk_cell BK334.out 4).trans rfl
            have hcz32_5 : wc.cell? ⟨gb334, 5, none⟩ = some (.int .i64 t329) := (blk_cell BK334.out 5).trans rfl
            have hcz32_6 : wc.cell? ⟨gb334, 6, none⟩ = some (.slice Ao13 t330.length co13) := (blk_cell BK334.out 6).trans rfl
            have hfz32_0 := blk_frozen BK334.out 0
            have hfz32_1 := blk_frozen BK334.out 1
            have hfz32_2 := blk_frozen BK334.out 2
            have hfz32_3 := blk_frozen BK334.out 3
            have hfz32_4 := blk_frozen BK334.out 4
            have hfz32_5 := blk_frozen BK334.out 5
            have hfz32_6 := blk_frozen BK334.out 6
            go_wp2_with (first | (go_at_call 25; (with_reducible refine (cartoucheref10_Nodes.calls kj6 _ _ l0 t348 _ ?side1 ?side2 A30.out).mono ?_); (case side1 => repeat (first | exact (Kd.C_below HR0.out HB.out) | (with_reducible refine Kd.C_alloc ?_ _) | (with_reducible refine Kd.C_drewN ?_ _) | (with_reducible refine Kd.C_drew ?_))); (case side2 => exact HC0.out); rintro e w33 ⟨v349, rfl, ho0, hb⟩; have n0_ := Aside0.mk (Kd.R_elder' (by (with_reducible repeat (first | apply Kd.R_alloc | apply Kd.R_drewN | apply Kd.R_drew)); exact HO_335002.out) (Kd.R_base ho0) hb); have n1_ := Aside0.mk (Kd.R_below (by (with_reducible repeat (first | apply Kd.R_alloc | apply Kd.R_drewN | apply Kd.R_drew)); exact HO_335006.out) hb); have n2_ := Aside0.mk (Kd.R_elder' (by (with_reducible repeat (first | apply Kd.R_alloc | apply Kd.R_drewN | apply Kd.R_drew)); exact HO_348002.out) (Kd.R_base ho0) hb); have n3_ := Aside0.mk (Kd.R_below (by (with_reducible repeat (first | apply Kd.R_alloc | apply Kd.R_drewN | apply Kd.R_drew)); exact HO_348006.out) hb); have n4_ := Aside0.mk (Kd.R_lower (Kd.R_new' (Kd.R_new' ho0 (Kd.R_lt (by (with_reducible repeat (first | apply Kd.R_alloc | apply Kd.R_drewN | apply Kd.R_drew)); exact HO_335002.out))) (Kd.R_lt (by (with_reducible repeat (first | apply Kd.R_alloc | apply Kd.R_drewN | apply Kd.R_drew)); exact HO_348002.out))) (below_size (by repeat (first | (with_reducible first | exact HB.out | apply below_alloc | apply pw_below_drewN | apply below_drew1 | refine below_set ?_ GE334.out | refine below_set ?_ GE347.out) | exact HB.out)))); have n5_ := Aside0.mk (blk_below (g := gb334) (o := .cells #[.int .i64 t322, .bool true, .slice Ao12 t324.length co12, .int .i64 t327, .int .i64 t328, .int .i64 t329, .slice Ao13 t330.length co13] 42 (0, 0)) (by (with_reducible repeat (first | refine blk_drewN ?_ _ | refine blk_drew ?_ | refine blk_alloc ?_ _)); exact BK334.out) hb); have n6_ := Aside0.mk (blk_below (g := gb347) (o := .cells #[.int .i64 t335, .bool t336, .slice Ao18 t337.length co18, .int .i64 t340, .int .i64 t341, .int .i64 t342, .slice Ao19 t343.length co19] 42 (0, 0)) (by (with_reducible repeat (first | refine blk_drewN ?_ _ | refine blk_drew ?_ | refine blk_alloc ?_ _)); exact BK347.out) hb); have n7_ := Aside0.mk (below_step (by repeat (first | (with_reducible first | exact HB.out | apply below_alloc | apply pw_below_drewN | apply below_drew1 | refine below_set ?_ GE334.out | refine below_set ?_ GE347.out) | exact HB.out)) hb); clear HO_335002; clear HO_335006; clear HO_348002; clear HO_348006; clear BK334; clear BK347; clear HB; have HO_335002 := n0_; have HO_335006 := n1_; have HO_348002 := n2_; have HO_348006 := n3_; have HO350 := n4_; have BK334 := n5_; have BK347 := n6_; have HB := n7_; clear n0_ n1_ n2_ n3_ n4_ n5_ n6_ n7_; (try clear hb); (try clear hb2); (try clear hk); (try clear hi); (try clear ho0)))
            repeat (go_quiet (first | (go_at_call 25; (with_reducible refine (cartoucheref10_Nodes.calls kj6 _ _ l0 t348 _ ?side1 ?side2 A30.out).mono ?_); (case side1 => repeat (first | exact (Kd.C_below HR0.out HB.out) | (with_reducible refine Kd.C_alloc ?_ _) | (with_reducible refine Kd.C_drewN ?_ _) | (with_reducible refine Kd.C_drew ?_))); (case side2 => exact HC0.out); rintro e w33 ⟨v349, rfl, ho0, hb⟩; have n0_ := Aside0.mk (Kd.R_elder' (by (with_reducible repeat (first | apply Kd.R_alloc | apply Kd.R_drewN | apply Kd.R_drew)); exact HO_335002.out) (Kd.R_base ho0) hb); have n1_ := Aside0.mk (Kd.R_below (by (with_reducible repeat (first | apply Kd.R_alloc | apply Kd.R_drewN | apply Kd.R_drew)); exact HO_335006.out) hb); have n2_ := Aside0.mk (Kd.R_elder' (by (with_reducible repeat (first | apply Kd.R_alloc | apply Kd.R_drewN | apply Kd.R_drew)); exact HO_348002.out) (Kd.R_base ho0) hb); have n3_ := Aside0.mk (Kd.R_below (by (with_reducible repeat (first | apply Kd.R_alloc | apply Kd.R_drewN | apply Kd.R_drew)); exact HO_348006.out) hb); have n4_ := Aside0.mk (Kd.R_lower (Kd.R_new' (Kd.R_new' ho0 (Kd.R_lt (by (with_reducible repeat (first | apply Kd.R_alloc | apply Kd.R_drewN | apply Kd.R_drew)); exact HO_335002.out))) (Kd.R_lt (by (with_reducible repeat (first | apply Kd.R_alloc | apply Kd.R_drewN | apply Kd.R_drew)); exact HO_348002.out))) (below_size (by repeat (first | (with_reducible first | exact HB.out | apply below_alloc | apply pw_below_drewN | apply below_drew1 | refine below_set ?_ GE334.out | refine below_set ?_ GE347.out) | exact HB.out)))); have n5_ := Aside0.mk (blk_below (g := gb334) (o := .cells #[.int .i64 t322, .bool true, .slice Ao12 t324.length co12, .int .i64 t327, .int .i64 t328, .int .i64 t329, .slice Ao13 t330.length co13] 42 (0, 0)) (by (with_reducible repeat (first | refine blk_drewN ?_ _ | refine blk_drew ?_ | refine blk_alloc ?_ _)); exact BK334.out) hb); have n6_ := Aside0.mk (blk_below (g := gb347) (o := .cells #[.int .i64 t335, .bool t336, .slice Ao18 t337.length co18, .int .i64 t340, .int .i64 t341, .int .i64 t342, .slice Ao19 t343.length co19] 42 (0, 0)) (by (with_reducible repeat (first | refine blk_drewN ?_ _ | refine blk_drew ?_ | refine blk_alloc ?_ _)); exact BK347.out) hb); have n7_ := Aside0.mk (below_step (by repeat (first | (with_reducible first | exact HB.out | apply below_alloc | apply pw_below_drewN | apply below_drew1 | refine below_set ?_ GE334.out | refine below_set ?_ GE347.out) | exact HB.out)) hb); clear HO_335002; clear HO_335006; clear HO_348002; clear HO_348006; clear BK334; clear BK347; clear HB; have HO_335002 := n0_; have HO_335006 := n1_; have HO_348002 := n2_; have HO_348006 := n3_; have HO350 := n4_; have BK334 := n5_; have BK347 := n6_; have HB := n7_; clear n0_ n1_ n2_ n3_ n4_ n5_ n6_ n7_; (try clear hb); (try clear hb2); (try clear hk); (try clear hi); (try clear ho0))); try go_wp2_with (first | (go_at_call 25; (with_reducible refine (cartoucheref10_Nodes.calls kj6 _ _ l0 t348 _ ?side1 ?side2 A30.out).mono ?_); (case side1 => repeat (first | exact (Kd.C_below HR0.out HB.out) | (with_reducible refine Kd.C_alloc ?_ _) | (with_reducible refine Kd.C_drewN ?_ _) | (with_reducible refine Kd.C_drew ?_))); (case side2 => exact HC0.out); rintro e w33 ⟨v349, rfl, ho0, hb⟩; have n0_ := Aside0.mk (Kd.R_elder' (by (with_reducible repeat (first | apply Kd.R_alloc | apply Kd.R_drewN | apply Kd.R_drew)); exact HO_335002.out) (Kd.R_base ho0) hb); have n1_ := Aside0.mk (Kd.R_below (by (with_reducible repeat (first | apply Kd.R_alloc | apply Kd.R_drewN | apply Kd.R_drew)); exact HO_335006.out) hb); have n2_ := Aside0.mk (Kd.R_elder' (by (with_reducible repeat (first | apply Kd.R_alloc | apply Kd.R_drewN | apply Kd.R_drew)); exact HO_348002.out) (Kd.R_base ho0) hb); have n3_ := Aside0.mk (Kd.R_below (by (with_reducible repeat (first | apply Kd.R_alloc | apply Kd.R_drewN | apply Kd.R_drew)); exact HO_348006.out) hb); have n4_ := Aside0.mk (Kd.R_lower (Kd.R_new' (Kd.R_new' ho0 (Kd.R_lt (by (with_reducible repeat (first | apply Kd.R_alloc | apply Kd.R_drewN | apply Kd.R_drew)); exact HO_335002.out))) (Kd.R_lt (by (with_reducible repeat (first | apply Kd.R_alloc | apply Kd.R_drewN | apply Kd.R_drew)); exact HO_348002.out))) (below_size (by repeat (first | (with_reducible first | exact HB.out | apply below_alloc | apply pw_below_drewN | apply below_drew1 | refine below_set ?_ GE334.out | refine below_set ?_ GE347.out) | exact HB.out)))); have n5_ := Aside0.mk (blk_below (g := gb334) (o := .cells #[.int .i64 t322, .bool true, .slice Ao12 t324.length co12, .int .i64 t327, .int .i64 t328, .int .i64 t329, .slice Ao13 t330.length co13] 42 (0, 0)) (by (with_reducible repeat (first | refine blk_drewN ?_ _ | refine blk_drew ?_ | refine blk_alloc ?_ _)); exact BK334.out) hb); have n6_ := Aside0.mk (blk_below (g := gb347) (o := .cells #[.int .i64 t335, .bool t336, .slice Ao18 t337.length co18, .int .i64 t340, .int .i64 t341, .int .i64 t342, .slice Ao19 t343.length co19] 42 (0, 0)) (by (with_reducible repeat (first | refine blk_drewN ?_ _ | refine blk_drew ?_ | refine blk_alloc ?_ _)); exact BK347.out) hb); have n7_ := Aside0.mk (below_step (by repeat (first | (with_reducible first | exact HB.out | apply below_alloc | apply pw_below_drewN | apply below_drew1 | refine below_set ?_ GE334.out | refine below_set ?_ GE347.out) | exact HB.out)) hb); clear HO_335002; clear HO_335006; clear HO_348002; clear HO_348006; clear BK334; clear BK347; clear HB; have HO_335002 := n0_; have HO_335006 := n1_; have HO_348002 := n2_; have HO_348006 := n3_; have HO350 := n4_; have BK334 := n5_; have BK347 := n6_; have HB := n7_; clear n0_ n1_ n2_ n3_ n4_ n5_ n6_ n7_; (try clear hb); (try clear hb2); (try clear hk); (try clear hi); (try clear ho0))))
            go_loopg [10] kj6 (fun kq v10 w' => ∃ (x10_2 : Int), v10 = .int .i64 x10_2 ∧ Aside0 (cartouchelaw12_JudgeLevels.l0 kq t320 t348 x10_2 t322 true t324 t327 t328 t329 t330 = some r) ∧ Aside0 (kq ≤ kj6) ∧ Aside0 (Kd.R (Kd.int .i64) 3 w' w.heap.size (fun k_ => some k_ ≠ ((.slice Ao12 t324.length co12) : Value).ownBlock ∧ some k_ ≠ ((.slice Ao18 t337.length co18) : Value).ownBlock) v349 t348) ∧ Aside0 (Kd.R (Kd.int .i64) 3 w' w.heap.size (fun k_ => some k_ ≠ (v349 : Value).ownBlock ∧ some k_ ≠ ((.slice Ao18 t337.length co18) : Value).ownBlock) (.slice Ao12 t324.length co12) t324) ∧ Aside0 (Kd.R k24 24 w' w.heap.size (fun k_ => some k_ ≠ ((.slice Ao19 t343.length co19) : Value).ownBlock) (.slice Ao13 t330.length co13) t330) ∧ Aside0 (Kd.R (Kd.int .i64) 3 w' w.heap.size (fun k_ => some k_ ≠ (v349 : Value).ownBlock ∧ some k_ ≠ ((.slice Ao12 t324.length co12) : Value).ownBlock) (.slice Ao18 t337.length co18) t337) ∧ Aside0 (Kd.R k24 24 w' w.heap.size (fun k_ => some k_ ≠ ((.slice Ao13 t330.length co13) : Value).ownBlock) (.slice Ao19 t343.length co19) t343) ∧ Aside0 (w'.heap[gb334]? = some (.cells #[.int .i64 t322, .bool true, (.slice Ao12 t324.length co12), .int .i64 t327, .int .i64 t328, .int .i64 t329, (.slice Ao13 t330.length co13)] 42 (0, 0))) ∧ Aside0 (w'.heap[gb347]? = some (.cells #[.int .i64 t335, .bool t336, (.slice Ao18 t337.length co18), .int .i64 t340, .int .i64 t341, .int .i64 t342, (.slice Ao19 t343.length co19)] 42 (0, 0))) ∧ Aside0 (Below w.heap.size w w'))
            case atStart => exact ⟨(0), (by first | rfl | (simp; done) | (simp [*]; done)), H', ⟨Nat.le_refl _⟩, ⟨by (with_reducible repeat (first | apply Kd.R_alloc | apply Kd.R_drewN | apply Kd.R_drew)); exact Kd.R_mono HO350.out (fun _ hk => ⟨hk.1.2, hk.2⟩)⟩, ⟨by (with_reducible repeat (first | apply Kd.R_alloc | apply Kd.R_drewN | apply Kd.R_drew)); exact Kd.R_mono HO_335002.out (fun _ hk => ⟨hk.2, hk.1⟩)⟩, ⟨by (with_reducible repeat (first | apply Kd.R_alloc | apply Kd.R_drewN | apply Kd.R_drew)); exact HO_335006.out⟩, ⟨by (with_reducible repeat (first | apply Kd.R_alloc | apply Kd.R_drewN | apply Kd.R_drew)); exact Kd.R_mono HO_348002.out (fun _ hk => ⟨hk.2, hk.1⟩)⟩, ⟨by (with_reducible repeat (first | apply Kd.R_alloc | apply Kd.R_drewN | apply Kd.R_drew)); exact HO_348006.out⟩, ⟨by (with_reducible repeat (first | refine blk_drewN ?_ _ | refine blk_drew ?_ | refine blk_alloc ?_ _)); exact BK334.out⟩, ⟨by (with_reducible repeat (first | refine blk_drewN ?_ _ | refine blk_drew ?_ | refine blk_alloc ?_ _)); exact BK347.out⟩, ⟨by repeat (first | (with_reducible first | exact HB.out | apply below_alloc | apply pw_below_drewN | apply below_drew1 | refine below_set ?_ GE334.out | refine below_set ?_ GE347.out) | exact HB.out)⟩⟩
            case round =>
              clear H'
              try clear c1
              try clear c2
              try clear p2
              try clear c3
              try clear c4
              try clear c6
              try clear c16
              try clear c20
              try clear c20b0
              try clear c20b1
              try clear c21
              try clear c21b0
              try clear c21b1
              try clear c22
              try clear c23
              try clear c26
              try clear c28
              try clear c29
              try clear c31
              try clear hcz11_0
              try clear hcz11_1
              try clear hcz11_2
              try clear hcz11_3
              try clear hcz11_4
              try clear hcz11_5
              try clear hcz11_6
              try clear hcz17_0
              try clear hcz17_1
              try clear hcz17_2
              try clear hcz17_3
              try clear hcz17_4
              try clear hcz17_5
              try clear hcz17_6
              try clear hcz24_0
              try clear hcz24_1
              try clear hcz24_2
              try clear hcz24_3
              try clear hcz24_4
              try clear hcz24_5
              try clear hcz24_6
              try clear hcz25_0
              try clear hcz25_1
              try clear hcz25_2
              try clear hcz25_3
              try clear hcz25_4
              try clear hcz25_5
              try clear hcz25_6
              try clear hcz27_0
              try clear hcz27_1
              try clear hcz27_2
              try clear hcz27_3
              try clear hcz27_4
              try clear hcz27_5
              try clear hcz27_6
              try clear hcz32_0
              try clear hcz32_1
              try clear hcz32_2
              try clear hcz32_3
              try clear hcz32_4
              try clear hcz32_5
              try clear hcz32_6
              try clear hfz11_0
              try clear hfz11_1
              try clear hfz11_2
              try clear hfz11_3
              try clear hfz11_4
              try clear hfz11_5
              try clear hfz11_6
              try clear hfz17_0
              try clear hfz17_1
              try clear hfz17_2
              try clear hfz17_3
              try clear hfz17_4
              try clear hfz17_5
              try clear hfz17_6
              try clear hfz24_0
              try clear hfz24_1
              try clear hfz24_2
              try clear hfz24_3
              try clear hfz24_4
              try clear hfz24_5
              try clear hfz24_6
              try clear hfz25_0
              try clear hfz25_1
              try clear hfz25_2
              try clear hfz25_3
              try clear hfz25_4
              try clear hfz25_5
              try clear hfz25_6
              try clear hfz27_0
              try clear hfz27_1
              try clear hfz27_2
              try clear hfz27_3
              try clear hfz27_4
              try clear hfz27_5
              try clear hfz27_6
              try clear hfz32_0
              try clear hfz32_1
              try clear hfz32_2
              try clear hfz32_3
              try clear hfz32_4
              try clear hfz32_5
              try clear hfz32_6
              try clear p2
              obtain ⟨x10_2, rfl, HA, HK2, HO_9, HO_335002, HO_335006, HO_348002, HO_348006, BK334, BK347, HB⟩ := hrel
              cases gk with
              | zero => exact absurd HA.out (by simp [cartouchelaw12_JudgeLevels.l0])
              | succ k2 =>
                have H := HA.out
                clear HA
                simp only [cartouchelaw12_JudgeLevels.l0] at H
                by_cases c34 : x10_2 < (t348.length : Int)
                · rw [if_pos c34] at H
                  have c34b0 : decide (x10_2 < (t348.length : Int)) = true := decide_eq_true c34
                  clear c34
                  have H' := Aside0.mk H
                  clear H
                  obtain ⟨Ao35, co35, eo35⟩ := Kd.R_slice HO_9.out
                  subst eo35
                  go_wp2
                  repeat (go_quiet (fail); try go_wp2)
                  go_loopg [11, 12] k2 (fun kq v11 v12 w' => ∃ (x11_3 : Int) (x12_3 : Int), v11 = .int .i64 x11_3 ∧ v12 = .int .i64 x12_3 ∧ Aside0 (cartouchelaw12_JudgeLevels.l1 kq t320 t348 x10_2 x11_3 x12_3 t322 true t324 t327 t328 t329 t330 = some r) ∧ Aside0 (kq ≤ k2) ∧ Aside0 (Kd.R (Kd.int .i64) 3 w' w.heap.size (fun k_ => some k_ ≠ ((.slice Ao12 t324.length co12) : Value).ownBlock ∧ some k_ ≠ ((.slice Ao18 t337.length co18) : Value).ownBlock) (.slice Ao35 t348.length co35) t348) ∧ Aside0 (Kd.R (Kd.int .i64) 3 w' w.heap.size (fun k_ => some k_ ≠ ((.slice Ao35 t348.length co35) : Value).ownBlock ∧ some k_ ≠ ((.slice Ao18 t337.length co18) : Value).ownBlock) (.slice Ao12 t324.length co12) t324) ∧ Aside0 (Kd.R k24 24 w' w.heap.size (fun k_ => some k_ ≠ ((.slice Ao19 t343.length co19) : Value).ownBlock) (.slice Ao13 t330.length co13) t330) ∧ Aside0 (Kd.R (Kd.int .i64) 3 w' w.heap.size (fun k_ => some k_ ≠ ((.slice Ao35 t348.length co35) : Value).ownBlock ∧ some k_ ≠ ((.slice Ao12 t324.length co12) : Value).ownBlock) (.slice Ao18 t337.length co18) t337) ∧ Aside0 (Kd.R k24 24 w' w.heap.size (fun k_ => some k_ ≠ ((.slice Ao13 t330.length co13) : Value).ownBlock) (.slice Ao19 t343.length co19) t343) ∧ Aside0 (w'.heap[gb334]? = some (.cells #[.int .i64 t322, .bool true, (.slice Ao12 t324.length co12), .int .i64 t327, .int .i64 t328, .int .i64 t329, (.slice Ao13 t330.length co13)] 42 (0, 0))) ∧ Aside0 (w'.heap[gb347]? = some (.cells #[.int .i64 t335, .bool t336, (.slice Ao18 t337.length co18), .int .i64 t340, .int .i64 t341, .int .i64 t342, (.slice Ao19 t343.length co19)] 42 (0, 0))) ∧ Aside0 (Below w.heap.size w w'))
                  case atStart => exact ⟨(0), (0), (by first | rfl | (simp; done) | (simp [*]; done)), (by first | rfl | (simp; done) | (simp [*]; done)), H', ⟨Nat.le_refl _⟩, ⟨by (with_reducible repeat (first | apply Kd.R_alloc | apply Kd.R_drewN | apply Kd.R_drew)); exact HO_9.out⟩, ⟨by (with_reducible repeat (first | apply Kd.R_alloc | apply Kd.R_drewN | apply Kd.R_drew)); exact HO_335002.out⟩, ⟨by (with_reducible repeat (first | apply Kd.R_alloc | apply Kd.R_drewN | apply Kd.R_drew)); exact HO_335006.out⟩, ⟨by (with_reducible repeat (first | apply Kd.R_alloc | apply Kd.R_drewN | apply Kd.R_drew)); exact HO_348002.out⟩, ⟨by (with_reducible repeat (first | apply Kd.R_alloc | apply Kd.R_drewN | apply Kd.R_drew)); exact HO_348006.out⟩, ⟨by (with_reducible repeat (first | refine blk_drewN ?_ _ | refine blk_drew ?_ | refine blk_alloc ?_ _)); exact BK334.out⟩, ⟨by (with_reducible repeat (first | refine blk_drewN ?_ _ | refine blk_drew ?_ | refine blk_alloc ?_ _)); exact BK347.out⟩, ⟨by repeat (first | (with_reducible first | exact HB.out | apply below_alloc | apply pw_below_drewN | apply below_drew1 | refine below_set ?_ GE334.out | refine below_set ?_ GE347.out) | exact HB.out)⟩⟩
                  case round =>
                    clear H'
                    try clear c1
                    try clear c2
                    try clear p2
                    try clear c3
                    try clear c4
                    try clear c6
                    try clear c16
                    try clear c20
                    try clear c20b0
                    try clear c20b1
                    try clear c21
                    try clear c21b0
                    try clear c21b1
                    try clear c22
                    try clear c23
                    try clear c26
                    try clear c28
                    try clear c29
                    try clear c31
                    try clear c34
                    try clear c34b0
                    try clear hcz11_0
                    try clear hcz11_1
                    try clear hcz11_2
                    try clear hcz11_3
                    try clear hcz11_4
                    try clear hcz11_5
                    try clear hcz11_6
                    try clear hcz17_0
                    try clear hcz17_1
                    try clear hcz17_2
                    try clear hcz17_3
                    try clear hcz17_4
                    try clear hcz17_5
                    try clear hcz17_6
                    try clear hcz24_0
                    try clear hcz24_1
                    try clear hcz24_2
                    try clear hcz24_3
                    try clear hcz24_4
                    try clear hcz24_5
                    try clear hcz24_6
                    try clear hcz25_0
                    try clear hcz25_1
                    try clear hcz25_2
                    try clear hcz25_3
                    try clear hcz25_4
                    try clear hcz25_5
                    try clear hcz25_6
                    try clear hcz27_0
                    try clear hcz27_1
                    try clear hcz27_2
                    try clear hcz27_3
                    try clear hcz27_4
                    try clear hcz27_5
                    try clear hcz27_6
                    try clear hcz32_0
                    try clear hcz32_1
                    try clear hcz32_2
                    try clear hcz32_3
                    try clear hcz32_4
                    try clear hcz32_5
                    try clear hcz32_6
                    try clear hfz11_0
                    try clear hfz11_1
                    try clear hfz11_2
                    try clear hfz11_3
                    try clear hfz11_4
                    try clear hfz11_5
                    try clear hfz11_6
                    try clear hfz17_0
                    try clear hfz17_1
                    try clear hfz17_2
                    try clear hfz17_3
                    try clear hfz17_4
                    try clear hfz17_5
                    try clear hfz17_6
                    try clear hfz24_0
                    try clear hfz24_1
                    try clear hfz24_2
                    try clear hfz24_3
                    try clear hfz24_4
                    try clear hfz24_5
                    try clear hfz24_6
                    try clear hfz25_0
                    try clear hfz25_1
                    try clear hfz25_2
                    try clear hfz25_3
                    try clear hfz25_4
                    try clear hfz25_5
                    try clear hfz25_6
                    try clear hfz27_0
                    try clear hfz27_1
                    try clear hfz27_2
                    try clear hfz27_3
                    try clear hfz27_4
                    try clear hfz27_5
                    try clear hfz27_6
                    try clear hfz32_0
                    try clear hfz32_1
                    try clear hfz32_2
                    try clear hfz32_3
                    try clear hfz32_4
                    try clear hfz32_5
                    try clear hfz32_6
                    try clear p2
                    obtain ⟨x11_3, x12_3, rfl, rfl, HA, HK3, HO_9, HO_335002, HO_335006, HO_348002, HO_348006, BK334, BK347, HB⟩ := hrel
                    cases gk with
                    | zero => exact absurd HA.out (by simp [cartouchelaw12_JudgeLevels.l1])
                    | succ k3 =>
                      have H := HA.out
                      clear HA
                      simp only [cartouchelaw12_JudgeLevels.l1] at H
                      by_cases c36 : x12_3 < (t324.length : Int)
                      · rw [if_pos c36] at H
                        have c36b0 : decide (x12_3 < (t324.length : Int)) = true := decide_eq_true c36
                        clear c36
                        by_cases c37 : 0 ≤ x12_3
                        · rw [if_pos c37] at H
                          have c37b0 : decide (0 ≤ x12_3) = true := decide_eq_true c37
                          clear c37
                          by_cases c38 : 0 ≤ x10_2
                          · rw [if_pos c38] at H
                            have c38b0 : decide (0 ≤ x10_2) = true := decide_eq_true c38
                            clear c38
                            by_cases c39 : x10_2 < (t348.length : Int)
                            · rw [if_pos c39] at H
                              have c39b0 : decide (x10_2 < (t348.length : Int)) = true := decide_eq_true c39
                              clear c39
                              by_cases c40 : (rd t324 x12_3) = (rd t348 x10_2)
                              · rw [if_pos c40] at H
                                have c40b0 : ((rd t324 x12_3) == (rd t348 x10_2)) = true := beq_iff_eq.mpr c40
                                have c40b1 : ((rd t324 x12_3) != (rd t348 x10_2)) = false := bne_eq_false_iff_eq.mpr c40
                                clear c40
                                have H' := Aside0.mk H
                                clear H
                                have hnb41 := NB334_347.out
                                have hnc41 := NB347_334.out
                                have hcz42_0 : wr.cell? ⟨gb334, 0, none⟩ = some (.int .i64 t322) := (blk_cell BK334.out 0).trans rfl
                                have hcz42_1 : wr.cell? ⟨gb334, 1, none⟩ = some (.bool true) := (blk_cell BK334.out 1).trans rfl
                                have hcz42_2 : wr.cell? ⟨gb334, 2, none⟩ = some (.slice Ao12 t324.length co12) := (blk_cell BK334.out 2).trans rfl
                                have hcz42_3 : wr.cell? ⟨gb334, 3, none⟩ = some (.int .i64 t327) := (blk_cell BK334.out 3).trans rfl
                                have hcz42_4 : wr.cell? ⟨gb334, 4, none⟩ = some (.int .i64 t328) := (blk_cell BK334.out 4).trans rfl
                                have hcz42_5 : wr.cell? ⟨gb334, 5, none⟩ = some (.int .i64 t329) := (blk_cell BK334.out 5).trans rfl
                                have hcz42_6 : wr.cell? ⟨gb334, 6, none⟩ = some (.slice Ao13 t330.length co13) := (blk_cell BK334.out 6).trans rfl
                                have hfz42_0 := blk_frozen BK334.out 0
                                have hfz42_1 := blk_frozen BK334.out 1
                                have hfz42_2 := blk_frozen BK334.out 2
                                have hfz42_3 := blk_frozen BK334.out 3
                                have hfz42_4 := blk_frozen BK334.out 4
                                have hfz42_5 := blk_frozen BK334.out 5
                                have hfz42_6 := blk_frozen BK334.out 6
                                have p351 : 0 ≤ (x12_3 : Int) := of_decide_eq_true (by first | (with_reducible assumption) | assumption)
                                have q351 : x12_3 < (t324.length : Int) := of_decide_eq_true (by first | (with_reducible assumption) | assumption)
                                obtain ⟨ad351, e351, hx351_0⟩ := Kd.at_int (Kd.R_reads' HO_335002.out).2.2 x12_3 p351 q351
                                cases e351
                                replace p351 := eq_true p351
                                replace q351 := eq_true q351
                                have p352 : 0 ≤ (x10_2 : Int) := of_decide_eq_true (by first | (with_reducible assumption) | assumption)
                                have q352 : x10_2 < (t348.length : Int) := of_decide_eq_true (by first | (with_reducible assumption) | assumption)
                                obtain ⟨ad352, e352, hx352_0⟩ := Kd.at_int (Kd.R_reads' HO_9.out).2.2 x10_2 p352 q352
                                cases e352
                                replace p352 := eq_true p352
                                replace q352 := eq_true q352
                                go_wp2
                                repeat (go_quiet (fail); try go_wp2)
                                go_roundg k3
                                case measure => have := HJ6.out; have := HK2.out; have := HK3.out; omega
                                case rel => exact ⟨(wrap64 (x11_3 + 1)), (wrap64 (x12_3 + 1)), (by first | rfl | (simp; done) | (simp [*]; done)), (by first | rfl | (simp; done) | (simp [*]; done)), H', ⟨by have := HJ6.out; have := HK2.out; have := HK3.out; omega⟩, ⟨by (with_reducible repeat (first | apply Kd.R_alloc | apply Kd.R_drewN | apply Kd.R_drew)); exact HO_9.out⟩, ⟨by (with_reducible repeat (first | apply Kd.R_alloc | apply Kd.R_drewN | apply Kd.R_drew)); exact HO_335002.out⟩, ⟨by (with_reducible repeat (first | apply Kd.R_alloc | apply Kd.R_drewN | apply Kd.R_drew)); exact HO_335006.out⟩, ⟨by (with_reducible repeat (first | apply Kd.R_alloc | apply Kd.R_drewN | apply Kd.R_drew)); exact HO_348002.out⟩, ⟨by (with_reducible repeat (first | apply Kd.R_alloc | apply Kd.R_drewN | apply Kd.R_drew)); exact HO_348006.out⟩, ⟨by (with_reducible repeat (first | refine blk_drewN ?_ _ | refine blk_drew ?_ | refine blk_alloc ?_ _)); exact BK334.out⟩, ⟨by (with_reducible repeat (first | refine blk_drewN ?_ _ | refine blk_drew ?_ | refine blk_alloc ?_ _)); exact BK347.out⟩, ⟨by repeat (first | (with_reducible first | exact HB.out | apply below_alloc | apply pw_below_drewN | apply below_drew1 | refine below_set ?_ GE334.out | refine below_set ?_ GE347.out) | exact HB.out)⟩⟩
                              · rw [if_neg c40] at H
                                have c40b0 : ((rd t324 x12_3) == (rd t348 x10_2)) = false := beq_eq_false_iff_ne.mpr c40
                                have c40b1 : ((rd t324 x12_3) != (rd t348 x10_2)) = true := bne_iff_ne.mpr c40
                                have H' := Aside0.mk H
                                clear H
                                have hnb43 := NB334_347.out
                                have hnc43 := NB347_334.out
                                have hcz44_0 : wr.cell? ⟨gb334, 0, none⟩ = some (.int .i64 t322) := (blk_cell BK334.out 0).trans rfl
                                have hcz44_1 : wr.cell? ⟨gb334, 1, none⟩ = some (.bool true) := (blk_cell BK334.out 1).trans rfl
                                have hcz44_2 : wr.cell? ⟨gb334, 2, none⟩ = some (.slice Ao12 t324.length co12) := (blk_cell BK334.out 2).trans rfl
                                have hcz44_3 : wr.cell? ⟨gb334, 3, none⟩ = some (.int .i64 t327) := (blk_cell BK334.out 3).trans rfl
                                have hcz44_4 : wr.cell? ⟨gb334, 4, none⟩ = some (.int .i64 t328) := (blk_cell BK334.out 4).trans rfl
                                have hcz44_5 : wr.cell? ⟨gb334, 5, none⟩ = some (.int .i64 t329) := (blk_cell BK334.out 5).trans rfl
                                have hcz44_6 : wr.cell? ⟨gb334, 6, none⟩ = some (.slice Ao13 t330.length co13) := (blk_cell BK334.out 6).trans rfl
                                have hfz44_0 := blk_frozen BK334.out 0
                                have hfz44_1 := blk_frozen BK334.out 1
                                have hfz44_2 := blk_frozen BK334.out 2
                                have hfz44_3 := blk_frozen BK334.out 3
                                have hfz44_4 := blk_frozen BK334.out 4
                                have hfz44_5 := blk_frozen BK334.out 5
                                have hfz44_6 := blk_frozen BK334.out 6
                                have p351 : 0 ≤ (x12_3 : Int) := of_decide_eq_true (by first | (with_reducible assumption) | assumption)
                                have q351 : x12_3 < (t324.length : Int) := of_decide_eq_true (by first | (with_reducible assumption) | assumption)
                                obtain ⟨ad351, e351, hx351_0⟩ := Kd.at_int (Kd.R_reads' HO_335002.out).2.2 x12_3 p351 q351
                                cases e351
                                replace p351 := eq_true p351
                                replace q351 := eq_true q351
                                have p352 : 0 ≤ (x10_2 : Int) := of_decide_eq_true (by first | (with_reducible assumption) | assumption)
                                have q352 : x10_2 < (t348.length : Int) := of_decide_eq_true (by first | (with_reducible assumption) | assumption)
                                obtain ⟨ad352, e352, hx352_0⟩ := Kd.at_int (Kd.R_reads' HO_9.out).2.2 x10_2 p352 q352
                                cases e352
                                replace p352 := eq_true p352
                                replace q352 := eq_true q352
                                go_wp2
                                repeat (go_quiet (fail); try go_wp2)
                                go_roundg k3
                                case measure => have := HJ6.out; have := HK2.out; have := HK3.out; omega
                                case rel => exact ⟨(x11_3), (wrap64 (x12_3 + 1)), (by first | rfl | (simp; done) | (simp [*]; done)), (by first | rfl | (simp; done) | (simp [*]; done)), H', ⟨by have := HJ6.out; have := HK2.out; have := HK3.out; omega⟩, ⟨by (with_reducible repeat (first | apply Kd.R_alloc | apply Kd.R_drewN | apply Kd.R_drew)); exact HO_9.out⟩, ⟨by (with_reducible repeat (first | apply Kd.R_alloc | apply Kd.R_drewN | apply Kd.R_drew)); exact HO_335002.out⟩, ⟨by (with_reducible repeat (first | apply Kd.R_alloc | apply Kd.R_drewN | apply Kd.R_drew)); exact HO_335006.out⟩, ⟨by (with_reducible repeat (first | apply Kd.R_alloc | apply Kd.R_drewN | apply Kd.R_drew)); exact HO_348002.out⟩, ⟨by (with_reducible repeat (first | apply Kd.R_alloc | apply Kd.R_drewN | apply Kd.R_drew)); exact HO_348006.out⟩, ⟨by (with_reducible repeat (first | refine blk_drewN ?_ _ | refine blk_drew ?_ | refine blk_alloc ?_ _)); exact BK334.out⟩, ⟨by (with_reducible repeat (first | refine blk_drewN ?_ _ | refine blk_drew ?_ | refine blk_alloc ?_ _)); exact BK347.out⟩, ⟨by repeat (first | (with_reducible first | exact HB.out | apply below_alloc | apply pw_below_drewN | apply below_drew1 | refine below_set ?_ GE334.out | refine below_set ?_ GE347.out) | exact HB.out)⟩⟩
                            · rw [if_neg c39] at H
                              exact absurd H (by simp)
                          · rw [if_neg c38] at H
                            exact absurd H (by simp)
                        · rw [if_neg c37] at H
                          exact absurd H (by simp)
                      · rw [if_neg c36] at H
                        have c36b0 : decide (x12_3 < (t324.length : Int)) = false := decide_eq_false c36
                        clear c36
                        by_cases c45 : x11_3 = 1
                        · rw [if_pos c45] at H
                          have c45b0 : (x11_3 == 1) = true := beq_iff_eq.mpr c45
                          have c45b1 : (x11_3 != 1) = false := bne_eq_false_iff_eq.mpr c45
                          clear c45
                          have H' := Aside0.mk H
                          clear H
                          have hnb46 := NB334_347.out
                          have hnc46 := NB347_334.out
                          have hcz47_0 : wr.cell? ⟨gb334, 0, none⟩ = some (.int .i64 t322) := (blk_cell BK334.out 0).trans rfl
                          have hcz47_1 : wr.cell? ⟨gb334, 1, none⟩ = some (.bool true) := (blk_cell BK334.out 1).trans rfl
                          have hcz47_2 : wr.cell? ⟨gb334, 2, none⟩ = some (.slice Ao12 t324.length co12) := (blk_cell BK334.out 2).trans rfl
                          have hcz47_3 : wr.cell? ⟨gb334, 3, none⟩ = some (.int .i64 t327) := (blk_cell BK334.out 3).trans rfl
                          have hcz47_4 : wr.cell? ⟨gb334, 4, none⟩ = some (.int .i64 t328) := (blk_cell BK334.out 4).trans rfl
                          have hcz47_5 : wr.cell? ⟨gb334, 5, none⟩ = some (.int .i64 t329) := (blk_cell BK334.out 5).trans rfl
                          have hcz47_6 : wr.cell? ⟨gb334, 6, none⟩ = some (.slice Ao13 t330.length co13) := (blk_cell BK334.out 6).trans rfl
                          have hfz47_0 := blk_frozen BK334.out 0
                          have hfz47_1 := blk_frozen BK334.out 1
                          have hfz47_2 := blk_frozen BK334.out 2
                          have hfz47_3 := blk_frozen BK334.out 3
                          have hfz47_4 := blk_frozen BK334.out 4
                          have hfz47_5 := blk_frozen BK334.out 5
                          have hfz47_6 := blk_frozen BK334.out 6
                          go_wp2
                          repeat (go_quiet (fail); try go_wp2)
                          go_roundg k3
                          case measure => have := HJ6.out; have := HK2.out; have := HK3.out; omega
                          case rel => exact ⟨(wrap64 (x10_2 + 1)), (by first | rfl | (simp; done) | (simp [*]; done)), H', ⟨by have := HJ6.out; have := HK2.out; have := HK3.out; omega⟩, ⟨by (with_reducible repeat (first | apply Kd.R_alloc | apply Kd.R_drewN | apply Kd.R_drew)); exact HO_9.out⟩, ⟨by (with_reducible repeat (first | apply Kd.R_alloc | apply Kd.R_drewN | apply Kd.R_drew)); exact HO_335002.out⟩, ⟨by (with_reducible repeat (first | apply Kd.R_alloc | apply Kd.R_drewN | apply Kd.R_drew)); exact HO_335006.out⟩, ⟨by (with_reducible repeat (first | apply Kd.R_alloc | apply Kd.R_drewN | apply Kd.R_drew)); exact HO_348002.out⟩, ⟨by (with_reducible repeat (first | apply Kd.R_alloc | apply Kd.R_drewN | apply Kd.R_drew)); exact HO_348006.out⟩, ⟨by (with_reducible repeat (first | refine blk_drewN ?_ _ | refine blk_drew ?_ | refine blk_alloc ?_ _)); exact BK334.out⟩, ⟨by (with_reducible repeat (first | refine blk_drewN ?_ _ | refine blk_drew ?_ | refine blk_alloc ?_ _)); exact BK347.out⟩, ⟨by repeat (first | (with_reducible first | exact HB.out | apply below_alloc | apply pw_below_drewN | apply below_drew1 | refine below_set ?_ GE334.out | refine below_set ?_ GE347.out) | exact HB.out)⟩⟩
                        · rw [if_neg c45] at H
                          have c45b0 : (x11_3 == 1) = false := beq_eq_false_iff_ne.mpr c45
                          have c45b1 : (x11_3 != 1) = true := bne_iff_ne.mpr c45
                          obtain rfl := Option.some.inj H
                          have hnb48 := NB334_347.out
                          have hnc48 := NB347_334.out
                          have hcz49_0 : wr.cell? ⟨gb334, 0, none⟩ = some (.int .i64 t322) := (blk_cell BK334.out 0).trans rfl
                          have hcz49_1 : wr.cell? ⟨gb334, 1, none⟩ = some (.bool true) := (blk_cell BK334.out 1).trans rfl
                          have hcz49_2 : wr.cell? ⟨gb334, 2, none⟩ = some (.slice Ao12 t324.length co12) := (blk_cell BK334.out 2).trans rfl
                          have hcz49_3 : wr.cell? ⟨gb334, 3, none⟩ = some (.int .i64 t327) := (blk_cell BK334.out 3).trans rfl
                          have hcz49_4 : wr.cell? ⟨gb334, 4, none⟩ = some (.int .i64 t328) := (blk_cell BK334.out 4).trans rfl
                          have hcz49_5 : wr.cell? ⟨gb334, 5, none⟩ = some (.int .i64 t329) := (blk_cell BK334.out 5).trans rfl
                          have hcz49_6 : wr.cell? ⟨gb334, 6, none⟩ = some (.slice Ao13 t330.length co13) := (blk_cell BK334.out 6).trans rfl
                          have hfz49_0 := blk_frozen BK334.out 0
                          have hfz49_1 := blk_frozen BK334.out 1
                          have hfz49_2 := blk_frozen BK334.out 2
                          have hfz49_3 := blk_frozen BK334.out 3
                          have hfz49_4 := blk_frozen BK334.out 4
                          have hfz49_5 := blk_frozen BK334.out 5
                          have hfz49_6 := blk_frozen BK334.out 6
                          go_wp2
                          repeat (go_quiet (fail); try go_wp2)
                          go_ret
                          exact ⟨by first | rfl | (simp [errW_none, errW_some] <;> rfl) | (simp [*, errW_none, errW_some] <;> rfl), by repeat (first | (with_reducible first | exact HB.out | apply below_alloc | apply pw_below_drewN | apply below_drew1 | refine below_set ?_ GE334.out | refine below_set ?_ GE347.out) | exact HB.out)⟩
                · rw [if_neg c34] at H
                  have c34b0 : decide (x10_2 < (t348.length : Int)) = false := decide_eq_false c34
                  clear c34
                  by_cases c50 : t320 = true
                  · subst c50
                    have H1 : (some ((t324.length : Int) == (t348.length : Int))) = some r := by rw [if_pos rfl] at H; exact H
                    clear H
                    have H := H1
                    clear H1
                    obtain rfl := Option.some.inj H
                    obtain ⟨Ao51, co51, eo51⟩ := Kd.R_slice HO_9.out
                    subst eo51
                    have hnb52 := NB334_347.out
                    have hnc52 := NB347_334.out
                    have hcz53_0 : wr.cell? ⟨gb334, 0, none⟩ = some (.int .i64 t322) := (blk_cell BK334.out 0).trans rfl
                    have hcz53_1 : wr.cell? ⟨gb334, 1, none⟩ = some (.bool true) := (blk_cell BK334.out 1).trans rfl
                    have hcz53_2 : wr.cell? ⟨gb334, 2, none⟩ = some (.slice Ao12 t324.length co12) := (blk_cell BK334.out 2).trans rfl
                    have hcz53_3 : wr.cell? ⟨gb334, 3, none⟩ = some (.int .i64 t327) := (blk_cell BK334.out 3).trans rfl
                    have hcz53_4 : wr.cell? ⟨gb334, 4, none⟩ = some (.int .i64 t328) := (blk_cell BK334.out 4).trans rfl
                    have hcz53_5 : wr.cell? ⟨gb334, 5, none⟩ = some (.int .i64 t329) := (blk_cell BK334.out 5).trans rfl
                    have hcz53_6 : wr.cell? ⟨gb334, 6, none⟩ = some (.slice Ao13 t330.length co13) := (blk_cell BK334.out 6).trans rfl
                    have hfz53_0 := blk_frozen BK334.out 0
                    have hfz53_1 := blk_frozen BK334.out 1
                    have hfz53_2 := blk_frozen BK334.out 2
                    have hfz53_3 := blk_frozen BK334.out 3
                    have hfz53_4 := blk_frozen BK334.out 4
                    have hfz53_5 := blk_frozen BK334.out 5
                    have hfz53_6 := blk_frozen BK334.out 6
                    go_wp2
                    repeat (go_quiet (fail); try go_wp2)
                    go_ret
                    exact ⟨by first | rfl | (simp [errW_none, errW_some] <;> rfl) | (simp [*, errW_none, errW_some] <;> rfl), by repeat (first | (with_reducible first | exact HB.out | apply below_alloc | apply pw_below_drewN | apply below_drew1 | refine below_set ?_ GE334.out | refine below_set ?_ GE347.out) | exact HB.out)⟩
                  · replace c50 := Bool.eq_false_iff.mpr c50
                    subst c50
                    have H1 : (some false) = some r := by rw [if_neg (show ¬ (false = true) by decide)] at H; exact H
                    clear H
                    have H := H1
                    clear H1
                    obtain rfl := Option.some.inj H
                    obtain ⟨Ao54, co54, eo54⟩ := Kd.R_slice HO_9.out
                    subst eo54
                    go_wp2
                    repeat (go_quiet (fail); try go_wp2)
                    go_ret
                    exact ⟨by first | rfl | (simp [errW_none, errW_some] <;> rfl) | (simp [*, errW_none, errW_some] <;> rfl), by repeat (first | (with_reducible first | exact HB.out | apply below_alloc | apply pw_below_drewN | apply below_drew1 | refine below_set ?_ GE334.out | refine below_set ?_ GE347.out) | exact HB.out)⟩
          · replace c29 := Bool.eq_false_iff.mpr c29
            subst c29
            have H1 : (some t320) = some r := by rw [if_neg (show ¬ (false = true) by decide)] at H; exact H
            clear H
            have H := H1
            clear H1
            obtain rfl := Option.some.inj H
            have hnb55 := NB334_347.out
            have hnc55 := NB347_334.out
            have hcz56_0 : wc.cell? ⟨gb334, 0, none⟩ = some (.int .i64 t322) := (blk_cell BK334.out 0).trans rfl
            have hcz56_1 : wc.cell? ⟨gb334, 1, none⟩ = some (.bool false) := (blk_cell BK334.out 1).trans rfl
            have hcz56_2 : wc.cell? ⟨gb334, 2, none⟩ = some (.slice Ao12 t324.length co12) := (blk_cell BK334.out 2).trans rfl
            have hcz56_3 : wc.cell? ⟨gb334, 3, none⟩ = some (.int .i64 t327) := (blk_cell BK334.out 3).trans rfl
            have hcz56_4 : wc.cell? ⟨gb334, 4, none⟩ = some (.int .i64 t328) := (blk_cell BK334.out 4).trans rfl
            have hcz56_5 : wc.cell? ⟨gb334, 5, none⟩ = some (.int .i64 t329) := (blk_cell BK334.out 5).trans rfl
            have hcz56_6 : wc.cell? ⟨gb334, 6, none⟩ = some (.slice Ao13 t330.length co13) := (blk_cell BK334.out 6).trans rfl
            have hfz56_0 := blk_frozen BK334.out 0
            have hfz56_1 := blk_frozen BK334.out 1
            have hfz56_2 := blk_frozen BK334.out 2
            have hfz56_3 := blk_frozen BK334.out 3
            have hfz56_4 := blk_frozen BK334.out 4
            have hfz56_5 := blk_frozen BK334.out 5
            have hfz56_6 := blk_frozen BK334.out 6
            go_wp2
            repeat (go_quiet (fail); try go_wp2)
            go_ret
            exact ⟨by first | rfl | (simp [errW_none, errW_some] <;> rfl) | (simp [*, errW_none, errW_some] <;> rfl), by repeat (first | (with_reducible first | exact HB.out | apply below_alloc | apply pw_below_drewN | apply below_drew1 | refine below_set ?_ GE334.out | refine below_set ?_ GE347.out) | exact HB.out)⟩
  · replace c4 := Bool.eq_false_iff.mpr c4
    subst c4
    have H1 : (some t320) = some r := by rw [if_neg (show ¬ (false = true) by decide)] at H; exact H
    clear H
    have H := H1
    clear H1
    obtain rfl := Option.some.inj H
    go_enter Tryz.func6, Tryz.ntmps6
    go_wp2_with (first | (go_at_call 28; (with_reducible refine (cartouchelaw12_shown.calls  t320 _ A2.out).mono ?_); rintro e w57 ⟨rfl, hb⟩; have n0_ := Aside0.mk (below_step (by repeat (first | (with_reducible first | exact HB.out | apply below_alloc | apply pw_below_drewN | apply below_drew1) | exact HB.out)) hb); clear HB; have HB := n0_; clear n0_; (try clear hb); (try clear hb2); (try clear hk); (try clear hi)) | (go_at_call 31; (with_reducible refine (cartouchelaw12_few.calls _ _ l0 false _ ?side1 ?side2 A3.out).mono ?_); (case side1 => repeat (first | exact (Kd.C_below HR0.out HB.out) | (with_reducible refine Kd.C_alloc ?_ _) | (with_reducible refine Kd.C_drewN ?_ _) | (with_reducible refine Kd.C_drew ?_))); (case side2 => exact HC0.out); rintro e w' ⟨rfl, ⟨nd, rfl⟩⟩; (try first | exact ⟨rfl, _, World.drewN_drewN _ _ _⟩ | exact ⟨rfl, _, Eq.trans (World.drewN_drewN _ _ _) (congrArg (World.drewN _) (Nat.add_assoc _ _ _))⟩)))
    repeat (go_quiet (first | (go_at_call 28; (with_reducible refine (cartouchelaw12_shown.calls  t320 _ A2.out).mono ?_); rintro e w57 ⟨rfl, hb⟩; have n0_ := Aside0.mk (below_step (by repeat (first | (with_reducible first | exact HB.out | apply below_alloc | apply pw_below_drewN | apply below_drew1) | exact HB.out)) hb); clear HB; have HB := n0_; clear n0_; (try clear hb); (try clear hb2); (try clear hk); (try clear hi)) | (go_at_call 31; (with_reducible refine (cartouchelaw12_few.calls _ _ l0 false _ ?side1 ?side2 A3.out).mono ?_); (case side1 => repeat (first | exact (Kd.C_below HR0.out HB.out) | (with_reducible refine Kd.C_alloc ?_ _) | (with_reducible refine Kd.C_drewN ?_ _) | (with_reducible refine Kd.C_drew ?_))); (case side2 => exact HC0.out); rintro e w' ⟨rfl, ⟨nd, rfl⟩⟩; (try first | exact ⟨rfl, _, World.drewN_drewN _ _ _⟩ | exact ⟨rfl, _, Eq.trans (World.drewN_drewN _ _ _) (congrArg (World.drewN _) (Nat.add_assoc _ _ _))⟩))); try go_wp2_with (first | (go_at_call 28; (with_reducible refine (cartouchelaw12_shown.calls  t320 _ A2.out).mono ?_); rintro e w57 ⟨rfl, hb⟩; have n0_ := Aside0.mk (below_step (by repeat (first | (with_reducible first | exact HB.out | apply below_alloc | apply pw_below_drewN | apply below_drew1) | exact HB.out)) hb); clear HB; have HB := n0_; clear n0_; (try clear hb); (try clear hb2); (try clear hk); (try clear hi)) | (go_at_call 31; (with_reducible refine (cartouchelaw12_few.calls _ _ l0 false _ ?side1 ?side2 A3.out).mono ?_); (case side1 => repeat (first | exact (Kd.C_below HR0.out HB.out) | (with_reducible refine Kd.C_alloc ?_ _) | (with_reducible refine Kd.C_drewN ?_ _) | (with_reducible refine Kd.C_drew ?_))); (case side2 => exact HC0.out); rintro e w' ⟨rfl, ⟨nd, rfl⟩⟩; (try first | exact ⟨rfl, _, World.drewN_drewN _ _ _⟩ | exact ⟨rfl, _, Eq.trans (World.drewN_drewN _ _ _) (congrArg (World.drewN _) (Nat.add_assoc _ _ _))⟩))))
    go_ret
    exact ⟨by first | rfl | (simp [errW_none, errW_some] <;> rfl) | (simp [*, errW_none, errW_some] <;> rfl), by repeat (first | (with_reducible first | exact HB.out | apply below_alloc | apply pw_below_drewN | apply below_drew1) | exact HB.out)⟩

end Go.Proofs.YtebjiimlcnmfpaaGreatPr
