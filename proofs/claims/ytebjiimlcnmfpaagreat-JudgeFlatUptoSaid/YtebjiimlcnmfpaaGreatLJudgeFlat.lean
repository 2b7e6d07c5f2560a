/-
  The row of JudgeFlat, of the second form (arguments of a bulk that a machine bears): what the printed walk and the plain law say, as the statement says it.
-/
import Derived.Test.YtebjiimlcnmfpaaGreatPJudgeFlat
import Derived.Test.YtebjiimlcnmfpaaGreatPrCartouchelaw12JudgeFlat
import Derived.Test.YtebjiimlcnmfpaaGreatB22
import Derived.Test.YtebjiimlcnmfpaaGreatA8
import Derived.WalkKit
import Derived.ProofKit
import Derived.OpenShut
import Derived.ShutString
import Derived.ChangeOld
import Derived.Below
import Derived.JoinedCond
set_option linter.unusedVariables false
set_option linter.unusedSimpArgs false
namespace Go.Proofs.YtebjiimlcnmfpaaGreat.judgeFlat
open Go Go.ChangeShapes Go.WideShapes Go.ChangeAt Go.RowKit Go.Proofs.YtebjiimlcnmfpaaGreatPr
set_option linter.unusedVariables false
theorem own : ownKnob Tryz.prog.godebug = none := by kernel_rfl
theorem laidOut : laidOutB Tryz.prog = true := by kernel_rfl
set_option maxRecDepth 100000 in
theorem lifted (os : Os) (started : os.Started) (H : Type) (enc : TypeId × Value → H) (F : Stop.Interp) :
    ReturnsInHanded {} Tryz.checked os 4 .any ((Rows.OpenSpec.upto Rows.judgeFlatSpec).pre6 enc Tryz.prog Tryz.f4 Rows.judgeFlatUptoRow.domain false) (((Rows.OpenSpec.upto Rows.judgeFlatSpec).at F).post enc Tryz.prog Tryz.f4 false true false false) := by
  refine returnsInHanded_of_cond (C := Tryz.checked) (s := Rows.OpenSpec.upto Rows.judgeFlatSpec) (k := Rows.uptoSmall) rfl own started (by kernel_rfl) Tryz.func4
    (OpenSpec.witness (enc := enc) (C := Tryz.checked) (s := Rows.OpenSpec.upto Rows.judgeFlatSpec) (k := Rows.uptoSmall) rfl false ⟨#[], #[.slice none 0 0], []⟩ 8 (by kernel_rfl) (by kernel_rfl) (by kernel_rfl)
      (x := ([.nil], [], [])) (by kernel_rfl) rfl (by kernel_rfl)) ?_
  intro W base args ds gs before hval0 hW _ hk0 _
  have hk : Rows.uptoSmall H (ds ++ gs) = true := hk0
  have hval : ∀ (j : Nat) t v, Tryz.f4.params[j]? = some t → args[j]? = some v → Value.okWide Tryz.prog W .any base t v := hval0
  have hW' := hW
  obtain ⟨p, q, hA0, hV, rfl, hfz, hnd⟩ := hW
  have hA : DataW.TrodAll enc Tryz.prog W 0 (fun _ => true) true Tryz.f4.params.toList args.toList ds p := hA0
  rw [Tryz.params4] at hA hval
  obtain ⟨v0, vs0, d0, ds0, p0, q0, hargs, rfl, rfl, h0, r0⟩ := trodAll_cons hA
  obtain ⟨rfl, rfl, rfl⟩ := trodAll_nil r0
  obtain rfl : args = #[v0] := by cases args; simp_all
  obtain ⟨rfl, rfl⟩ := trodVars_none hV
  obtain ⟨a0, len0, cap0, rfl⟩ := okWide_slice Tryz.underlying34 (hval 0 34 v0 rfl rfl)
  have lt0 := trod_lts h0
  have hb : Rows.uptoBulk d0 ≤ 1048576 := by
    have := of_decide_eq_true hk
    simp only [Rows.uptoBulkAll, List.cons_append, List.nil_append, List.append_nil] at this
    omega
  have ho := h0
  obtain ⟨fuel, hf⟩ := ho
  simp only [Value.cells] at hf
  obtain ⟨l0, e0, z0, w0, qs0, s0, n0⟩ := cells_CS k80 StepS (fun s => s.f2.length) Tryz.underlying34 (by kernel_rfl) trod_stepB hf
  subst e0
  simp only at s0 n0
  clear hA0 hval0 hk hk0
  obtain ⟨n, hn⟩ := p_JudgeFlat l0 (by omega) (by omega)
  refine (cartouchelaw12_JudgeFlat.calls n a0 cap0 l0 true W w0 z0 hn).mono fun e W' ⟨he, bel⟩ => ?_
  subst he
  exact ⟨_, rfl, _, _, _, [], _, [], hW', trodAll_mk1 (shut_bool Tryz.underlying4 _), (trodAll_cons_mk (Below.trod laidOut (by kernel_rfl) (of_decide_eq_true (by kernel_rfl)) h0 bel lt0) trodAll_mk0), rfl, bel.frame _, fun h => by cases h⟩
set_option maxRecDepth 100000 in
theorem closed : joinedFacts Tryz.prog 4 Tryz.f4 (Rows.OpenSpec.upto Rows.judgeFlatSpec).bare Rows.judgeFlatUptoRow = true := by
  unfold joinedFacts
  rw [mayE, liftsF, makeF]
  kernel_rfl
theorem over : Rows.judgeFlatUptoRow.holds Tryz.pinned (Rows.OpenSpec.upto Rows.judgeFlatSpec) :=
  OpenClaim.holds_of_cond 4 Tryz.f4 rfl rfl rfl rfl rfl rfl rfl ⟨rfl, rfl, rfl, rfl, rfl⟩ rfl rfl rfl rfl rfl (by kernel_rfl) Tryz.func4 closed
    (of_decide_eq_true (by kernel_rfl)) (by unfold Func.isWrapper; first | (rw [if_pos (by decide +kernel)]; kernel_rfl) | (rw [if_neg (by decide +kernel)]; exact ⟨rfl, rfl⟩))
    (fun os started H enc _ F => lifted os started H enc F)
theorem proved : Rows.JudgeFlatUptoSaid := over
#print axioms proved
end Go.Proofs.YtebjiimlcnmfpaaGreat.judgeFlat
namespace Go.Proofs.YtebjiimlcnmfpaaGreat
/-- The row, under a short name, for the claim. -/
theorem judgeFlat_holds : Rows.JudgeFlatUptoSaid := judgeFlat.proved
end Go.Proofs.YtebjiimlcnmfpaaGreat
