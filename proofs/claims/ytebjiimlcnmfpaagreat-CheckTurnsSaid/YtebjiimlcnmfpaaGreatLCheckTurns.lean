/-
  The row of CheckTurns: what the printed walk and the plain law say, as the statement says it.
-/
import Derived.Test.YtebjiimlcnmfpaaGreatPCheckTurns
import Derived.Test.YtebjiimlcnmfpaaGreatPrCartouchelaw13CheckTurns
import Derived.Test.YtebjiimlcnmfpaaGreatB1
import Derived.Test.YtebjiimlcnmfpaaGreatA8
import Derived.Test.YtebjiimlcnmfpaaGreatB20
import Derived.WalkKit
import Derived.ProofKit
import Derived.OpenShut
import Derived.ShutString
import Derived.ChangeOld
import Derived.Below
import Derived.SizedLaws
set_option linter.unusedVariables false
set_option linter.unusedSimpArgs false
namespace Go.Proofs.YtebjiimlcnmfpaaGreat.checkTurns
open Go Go.ChangeShapes Go.WideShapes Go.ChangeAt Go.RowKit Go.Proofs.YtebjiimlcnmfpaaGreatPr
open Go.ChangeMaps (open_string shut_string)
set_option linter.unusedVariables false
theorem own : ownKnob Tryz.prog.godebug = none := by kernel_rfl
set_option maxRecDepth 100000 in
/-- What the parameter is made of. -/
theorem opn0 {H : Type} {enc : TypeId × Value → H} {base : Nat} {spare : Nat → Bool} {held : Bool} {W : World} {fuel : Nat} {cs : Array Value} {x : DataW H × List MemPlace} (h : DataW.trod enc Tryz.prog W base spare held fuel 62 cs.toList = some x) (hc : cs.size = 4) {ts : List TypeId} {ds : List (DataW H)} {j : Nat} (hsz : (DataW.weightsEach Tryz.prog ts ds).all (· ≤ reachBytes) = true) (hts : ts[j]? = some 62) (hd : ds[j]? = some x.1) :
    ∃ (a0 : Option Addr) (cap0 : Nat) (l0 : List S50) (a1 : Int) (a2 : Option Addr) (cap2 : Nat) (l2 : List S24) (a3 : Int), cs = #[.slice a0 l0.length cap0, .int .i64 a1, .slice a2 l2.length cap2, .int .i64 a3] ∧ (l0.length ≤ cap0 ∧ YtebjiimlcnmfpaaGreatW.PrintWords.Kd.C k50 W a0 l0.length l0 ∧ (∀ y ∈ l0, EvS y) ∧ l0.length * 48 ≤ 140737488351232) ∧ (l2.length ≤ cap2 ∧ YtebjiimlcnmfpaaGreatW.PrintWords.Kd.C k24 W a2 l2.length l2 ∧ (∀ y ∈ l2, EdgeS y) ∧ l2.length * 40 ≤ 140737488351232) := by
  obtain ⟨xs, n, _, hx, _, hl, hg⟩ := DataW.trod_struct Tryz.underlying62 h
  have hL := Light.of hsz hts (hd.trans (by rw [hx])) Tryz.underlying62
  obtain ⟨cl⟩ := cs
  match cl, hc with
  | [c0, c1, c2, c3], _ =>
    match xs, hl with
    | [y0, y1, y2, y3], _ =>
      have g0 := hg 0 _ rfl
      have g1 := hg 1 _ rfl
      have g2 := hg 2 _ rfl
      have g3 := hg 3 _ rfl
      have q1 : Tryz.prog.cellsOf 3 = 1 := by kernel_rfl
      have q2 : Tryz.prog.cellsOf 9 = 1 := by kernel_rfl
      have q3 : Tryz.prog.cellsOf 4 = 1 := by kernel_rfl
      have q_edges : Tryz.prog.cellsOf 28 = 1 := by kernel_rfl
      have q_ev : Tryz.prog.cellsOf 22 = 1 := by kernel_rfl
      have e0 : ∃ A N C, c0 = .slice A N C := by
        simp [q_ev] at g0
        rcases Go.Deep.open_slice Tryz.underlying22 g0 with ⟨hcs, _⟩ | ⟨a, len, cap', m, f, D, Pl, hcs, _⟩
        · exact ⟨_, _, _, by simpa using hcs⟩
        · exact ⟨_, _, _, by simpa using hcs⟩
      obtain ⟨A0, N0, C0, rfl⟩ := e0
      simp [q_ev] at g0
      obtain ⟨l0, e0, z0, w0, qs0, yy0⟩ := cells_CL k50 EvS (j := 0) (B := 48) hL rfl rfl Tryz.underlying22 (by kernel_rfl) (by kernel_rfl) trod_evS g0
      subst e0
      obtain ⟨b1, e1, _⟩ := DataW.trod_int (k := .i64) (by kernel_rfl) g1
      simp [q1, q2, q3] at e1
      subst e1
      have e2 : ∃ A N C, c2 = .slice A N C := by
        simp [q_edges] at g2
        rcases Go.Deep.open_slice Tryz.underlying28 g2 with ⟨hcs, _⟩ | ⟨a, len, cap', m, f, D, Pl, hcs, _⟩
        · exact ⟨_, _, _, by simpa using hcs⟩
        · exact ⟨_, _, _, by simpa using hcs⟩
      obtain ⟨A2, N2, C2, rfl⟩ := e2
      simp [q_edges] at g2
      obtain ⟨l2, e2, z2, w2, qs2, yy2⟩ := cells_CL k24 EdgeS (j := 2) (B := 40) hL rfl rfl Tryz.underlying28 (by kernel_rfl) (by kernel_rfl) trod_edgeS g2
      subst e2
      obtain ⟨b3, e3, _⟩ := DataW.trod_int (k := .i64) (by kernel_rfl) g3
      simp [q1, q2, q3] at e3
      subst e3
      exact ⟨A0, C0, l0, b1, A2, C2, l2, b3, rfl, ⟨z0, w0, qs0, yy0⟩, ⟨z2, w2, qs2, yy2⟩⟩
theorem laidOut : laidOutB Tryz.prog = true := by kernel_rfl
set_option maxRecDepth 100000 in
theorem lifted (os : Os) (started : os.Started) (H : Type) (enc : TypeId × Value → H) :
    ReturnsInHanded {} Tryz.checked os 13 .any (Rows.checkTurnsSpec.pre6 enc Tryz.prog Tryz.f13 Rows.checkTurnsRow.domain false) (Rows.checkTurnsSpec.post enc Tryz.prog Tryz.f13 false true false false) := by
  refine returnsInHanded_of_change_sized (C := Tryz.checked) own started (by kernel_rfl) Tryz.func13
    (ChangeSpec.witness6 (enc := enc) (C := Tryz.checked) false ⟨#[], #[.agg #[.slice none 0 0, .int .i64 0, .slice none 0 0, .int .i64 0]], []⟩ 8 (by kernel_rfl) (by kernel_rfl) (by kernel_rfl) (by kernel_rfl)) ?_
  intro W base args ds gs before hval0 hW hcnd hsz0 _
  have hsz : (DataW.weightsEach Tryz.prog (Tryz.f13.params.toList ++ Rows.checkTurnsSpec.plain.varTypes Tryz.prog) (ds ++ gs)).all (· ≤ reachBytes) = true := hsz0
  have hval : ∀ (j : Nat) t v, Tryz.f13.params[j]? = some t → args[j]? = some v → Value.okWide Tryz.prog W .any base t v := hval0
  have hW' := hW
  obtain ⟨p, q, hA0, hV, rfl, hfz, hnd⟩ := hW
  have hA : DataW.TrodAll enc Tryz.prog W 0 (fun _ => true) true Tryz.f13.params.toList args.toList ds p := hA0
  rw [Tryz.params13] at hA hval hsz
  obtain ⟨v0, vs0, d0, ds0, p0, q0, hargs, rfl, rfl, h0, r0⟩ := trodAll_cons hA
  obtain ⟨rfl, rfl, rfl⟩ := trodAll_nil r0
  obtain rfl : args = #[v0] := by cases args; simp_all
  obtain ⟨rfl, rfl⟩ := trodVars_none hV
  obtain ⟨cs0, rfl, hcs0⟩ := okWide_struct Tryz.underlying62 (hval 0 62 v0 rfl rfl)
  have lt0 := trod_lts h0
  have ho0 := h0
  obtain ⟨fu0, hf0⟩ := ho0
  simp only [Value.cells] at hf0
  obtain ⟨a0_0, cap0_0, l0_0, a0_1, a0_2, cap0_2, l0_2, a0_3, rfl, ⟨z0_0, w0_0, qs0_0, y0_0⟩, ⟨z0_2, w0_2, qs0_2, y0_2⟩⟩ := opn0 hf0 (hcs0.trans (by kernel_rfl)) hsz (j := 0) rfl rfl
  clear hA0 hval0 hsz0 hsz
  obtain ⟨n, hn⟩ := p_CheckTurns l0_0 a0_1 l0_2 a0_3 qs0_0 y0_0 qs0_2 y0_2
  refine (cartouchelaw13_CheckTurns.calls n a0_0 cap0_0 l0_0 a0_1 a0_2 cap0_2 l0_2 a0_3 true W w0_0 z0_0 w0_2 z0_2 hn).mono fun e W' ⟨he, bel⟩ => ?_
  subst he
  exact ⟨_, rfl, _, _, _, [], _, [], hW', trodAll_mk1 (shut_bool Tryz.underlying4 _), (trodAll_cons_mk (Below.trod laidOut (by kernel_rfl) (of_decide_eq_true (by kernel_rfl)) h0 bel lt0) trodAll_mk0), rfl, bel.frame _, fun h => by cases h⟩
set_option maxRecDepth 100000 in
theorem closed : joinedFacts Tryz.prog 13 Tryz.f13 Rows.checkTurnsSpec Rows.checkTurnsRow = true := by
  unfold joinedFacts
  rw [mayE, liftsF, makeF]
  kernel_rfl
theorem over : Rows.checkTurnsRow.holds Tryz.pinned (OpenSpec.ofChange Rows.checkTurnsSpec) :=
  OpenClaim.holds_of_wide 13 Tryz.f13 rfl rfl rfl rfl rfl rfl rfl ⟨rfl, rfl, rfl, rfl, rfl⟩ rfl rfl rfl rfl rfl (by kernel_rfl) Tryz.func13 closed
    (of_decide_eq_true (by kernel_rfl)) (by unfold Func.isWrapper; first | (rw [if_pos (by decide +kernel)]; kernel_rfl) | (rw [if_neg (by decide +kernel)]; exact ⟨rfl, rfl⟩))
    (fun os started H enc _ => lifted os started H enc)
theorem proved : Rows.CheckTurnsSaid := over
#print axioms proved
end Go.Proofs.YtebjiimlcnmfpaaGreat.checkTurns
namespace Go.Proofs.YtebjiimlcnmfpaaGreat
/-- The row, under a short name, for the claim. -/
theorem checkTurns_holds : Rows.CheckTurnsSaid := checkTurns.proved
end Go.Proofs.YtebjiimlcnmfpaaGreat
