/-
  The row of EdgesTell: what the printed walk and the plain law say, as the statement says it.
-/
import Derived.Test.YtebjiimlcnmfpaaGreatPEdgesTell
import Derived.Test.YtebjiimlcnmfpaaGreatPrCartouchelaw10EdgesTell
import Derived.Test.YtebjiimlcnmfpaaGreatB1
import Derived.Test.YtebjiimlcnmfpaaGreatA8
import Derived.WalkKit
import Derived.ProofKit
import Derived.OpenShut
import Derived.ShutString
import Derived.ChangeOld
import Derived.Below
import Derived.SizedLaws
set_option linter.unusedVariables false
set_option linter.unusedSimpArgs false
namespace Go.Proofs.YtebjiimlcnmfpaaGreat.edgesTell
open Go Go.ChangeShapes Go.WideShapes Go.ChangeAt Go.RowKit Go.Proofs.YtebjiimlcnmfpaaGreatPr
open Go.ChangeMaps (open_string shut_string)
set_option linter.unusedVariables false
theorem own : ownKnob Tryz.prog.godebug = none := by kernel_rfl
set_option maxRecDepth 100000 in
/-- What the parameter is made of. -/
theorem opn1 {H : Type} {enc : TypeId × Value → H} {base : Nat} {spare : Nat → Bool} {held : Bool} {W : World} {fuel : Nat} {cs : Array Value} {x : DataW H × List MemPlace} (h : DataW.trod enc Tryz.prog W base spare held fuel 24 cs.toList = some x) (hc : cs.size = 5) :
    ∃ (a0 : Int) (a1 : Int) (a2 : Int) (a3 : Int) (a4 : Int), cs = #[.int .i64 a0, .int .i64 a1, .int .i64 a2, .int .i64 a3, .int .i64 a4] := by
  obtain ⟨xs, n, _, _, _, hl, hg⟩ := DataW.trod_struct Tryz.underlying24 h
  obtain ⟨cl⟩ := cs
  match cl, hc with
  | [c0, c1, c2, c3, c4], _ =>
    match xs, hl with
    | [y0, y1, y2, y3, y4], _ =>
      have g0 := hg 0 _ rfl
      have g1 := hg 1 _ rfl
      have g2 := hg 2 _ rfl
      have g3 := hg 3 _ rfl
      have g4 := hg 4 _ rfl
      have q1 : Tryz.prog.cellsOf 3 = 1 := by kernel_rfl
      have q2 : Tryz.prog.cellsOf 9 = 1 := by kernel_rfl
      have q3 : Tryz.prog.cellsOf 4 = 1 := by kernel_rfl
      obtain ⟨b0, e0, _⟩ := DataW.trod_int (k := .i64) (by kernel_rfl) g0
      simp [q1, q2, q3] at e0
      subst e0
      obtain ⟨b1, e1, _⟩ := DataW.trod_int (k := .i64) (by kernel_rfl) g1
      simp [q1, q2, q3] at e1
      subst e1
      obtain ⟨b2, e2, _⟩ := DataW.trod_int (k := .i64) (by kernel_rfl) g2
      simp [q1, q2, q3] at e2
      subst e2
      obtain ⟨b3, e3, _⟩ := DataW.trod_int (k := .i64) (by kernel_rfl) g3
      simp [q1, q2, q3] at e3
      subst e3
      obtain ⟨b4, e4, _⟩ := DataW.trod_int (k := .i64) (by kernel_rfl) g4
      simp [q1, q2, q3] at e4
      subst e4
      exact ⟨b0, b1, b2, b3, b4, rfl⟩
theorem laidOut : laidOutB Tryz.prog = true := by kernel_rfl
set_option maxRecDepth 100000 in
theorem lifted (os : Os) (started : os.Started) (H : Type) (enc : TypeId × Value → H) :
    ReturnsInHanded {} Tryz.checked os 3 .any (Rows.edgesTellSpec.pre6 enc Tryz.prog Tryz.f3 Rows.edgesTellRow.domain false) (Rows.edgesTellSpec.post enc Tryz.prog Tryz.f3 false true false false) := by
  refine returnsInHanded_of_change_sized (C := Tryz.checked) own started (by kernel_rfl) Tryz.func3
    (ChangeSpec.witness6 (enc := enc) (C := Tryz.checked) false ⟨#[], #[.slice none 0 0, .agg #[.int .i64 0, .int .i64 0, .int .i64 0, .int .i64 0, .int .i64 0]], []⟩ 8 (by kernel_rfl) (by kernel_rfl) (by kernel_rfl) (by kernel_rfl)) ?_
  intro W base args ds gs before hval0 hW hcnd hsz0 _
  have hsz : (DataW.weightsEach Tryz.prog (Tryz.f3.params.toList ++ Rows.edgesTellSpec.plain.varTypes Tryz.prog) (ds ++ gs)).all (· ≤ reachBytes) = true := hsz0
  have hval : ∀ (j : Nat) t v, Tryz.f3.params[j]? = some t → args[j]? = some v → Value.okWide Tryz.prog W .any base t v := hval0
  have hW' := hW
  obtain ⟨p, q, hA0, hV, rfl, hfz, hnd⟩ := hW
  have hA : DataW.TrodAll enc Tryz.prog W 0 (fun _ => true) true Tryz.f3.params.toList args.toList ds p := hA0
  rw [Tryz.params3] at hA hval hsz
  obtain ⟨v0, vs0, d0, ds0, p0, q0, hargs, rfl, rfl, h0, r0⟩ := trodAll_cons hA
  obtain ⟨v1, vs1, d1, ds1, p1, q1, rfl, rfl, rfl, h1, r1⟩ := trodAll_cons r0
  obtain ⟨rfl, rfl, rfl⟩ := trodAll_nil r1
  obtain rfl : args = #[v0, v1] := by cases args; simp_all
  obtain ⟨rfl, rfl⟩ := trodVars_none hV
  obtain ⟨a0, len0, cap0, rfl⟩ := okWide_slice Tryz.underlying22 (hval 0 22 v0 rfl rfl)
  have lt0 := trod_lts h0
  obtain ⟨l0, e0, z0, w0, qs0, y0⟩ := trod_C k50 EvS (B := 48) hsz (j := 0) (t := 22) rfl rfl Tryz.underlying22 (by kernel_rfl) (by kernel_rfl) trod_evS h0
  subst e0
  obtain ⟨cs1, rfl, hcs1⟩ := okWide_struct Tryz.underlying24 (hval 1 24 v1 rfl rfl)
  have lt1 := trod_lts h1
  have ho1 := h1
  obtain ⟨fu1, hf1⟩ := ho1
  simp only [Value.cells] at hf1
  obtain ⟨a1_0, a1_1, a1_2, a1_3, a1_4, rfl⟩ := opn1 hf1 (hcs1.trans (by kernel_rfl))
  clear hA0 hval0 hsz0 hsz
  obtain ⟨n, hn⟩ := p_EdgesTell l0 a1_0 a1_1 a1_2 a1_3 a1_4 qs0 y0
  refine (cartouchelaw10_EdgesTell.calls n a0 cap0 l0 a1_0 a1_1 a1_2 a1_3 a1_4 true W w0 z0 hn).mono fun e W' ⟨he, bel⟩ => ?_
  subst he
  exact ⟨_, rfl, _, _, _, [], _, [], hW', trodAll_mk1 (shut_bool Tryz.underlying4 _), (trodAll_cons_mk (Below.trod laidOut (by kernel_rfl) (of_decide_eq_true (by kernel_rfl)) h0 bel lt0) (trodAll_cons_mk (Below.trod laidOut (by kernel_rfl) (of_decide_eq_true (by kernel_rfl)) h1 bel lt1) trodAll_mk0)), rfl, bel.frame _, fun h => by cases h⟩
set_option maxRecDepth 100000 in
theorem closed : joinedFacts Tryz.prog 3 Tryz.f3 Rows.edgesTellSpec Rows.edgesTellRow = true := by
  unfold joinedFacts
  rw [mayE, liftsF, makeF]
  kernel_rfl
theorem over : Rows.edgesTellRow.holds Tryz.pinned (OpenSpec.ofChange Rows.edgesTellSpec) :=
  OpenClaim.holds_of_wide 3 Tryz.f3 rfl rfl rfl rfl rfl rfl rfl ⟨rfl, rfl, rfl, rfl, rfl⟩ rfl rfl rfl rfl rfl (by kernel_rfl) Tryz.func3 closed
    (of_decide_eq_true (by kernel_rfl)) (by unfold Func.isWrapper; first | (rw [if_pos (by decide +kernel)]; kernel_rfl) | (rw [if_neg (by decide +kernel)]; exact ⟨rfl, rfl⟩))
    (fun os started H enc _ => lifted os started H enc)
theorem proved : Rows.EdgesTellSaid := over
#print axioms proved
end Go.Proofs.YtebjiimlcnmfpaaGreat.edgesTell
namespace Go.Proofs.YtebjiimlcnmfpaaGreat
/-- The row, under a short name, for the claim. -/
theorem edgesTell_holds : Rows.EdgesTellSaid := edgesTell.proved
end Go.Proofs.YtebjiimlcnmfpaaGreat
