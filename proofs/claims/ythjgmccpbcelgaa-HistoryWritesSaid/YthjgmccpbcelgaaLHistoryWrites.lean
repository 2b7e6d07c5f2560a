/-
  The row of HistoryWrites: what the printed walk and the plain law say, as the statement says it.
-/
import Derived.Test.YthjgmccpbcelgaaPHistoryWrites
import Derived.Test.YthjgmccpbcelgaaPr43
import Derived.Test.YthjgmccpbcelgaaB1
import Derived.Test.YthjgmccpbcelgaaA8
import Derived.WalkKit
import Derived.ProofKit
import Derived.OpenShut
import Derived.ShutString
import Derived.ChangeOld
import Derived.Below
import Derived.SizedLaws
set_option linter.unusedVariables false
set_option linter.unusedSimpArgs false
namespace Go.Proofs.Ythjgmccpbcelgaa.historyWrites
open Go Go.ChangeShapes Go.WideShapes Go.ChangeAt Go.RowKit Go.Proofs.YthjgmccpbcelgaaPr
open Go.ChangeMaps (open_string shut_string)
set_option linter.unusedVariables false
theorem own : ownKnob Try.prog.godebug = none := by kernel_rfl
set_option maxRecDepth 100000 in
/-- What the parameter is made of. -/
theorem opn0 {H : Type} {enc : TypeId × Value → H} {base : Nat} {spare : Nat → Bool} {held : Bool} {W : World} {fuel : Nat} {cs : Array Value} {x : DataW H × List MemPlace} (h : DataW.trod enc Try.prog W base spare held fuel 65 cs.toList = some x) (hc : cs.size = 5) :
    ∃ (a0 : Option Addr) (cap0 : Nat) (l0 : List S31) (a1 : ByteArray) (a2 : ByteArray) (a3 : Int) (a4 : Int), cs = #[.slice a0 l0.length cap0, .string a1, .string a2, .int .i64 a3, .int .i64 a4] ∧ (l0.length ≤ cap0 ∧ YthjgmccpbcelgaaW.PrintWords.Kd.C k31 W a0 l0.length l0 ∧ ∀ y ∈ l0, EvS y) := by
  obtain ⟨xs, n, _, _, _, hl, hg⟩ := DataW.trod_struct Try.underlying65 h
  obtain ⟨cl⟩ := cs
  match cl, hc with
  | [c0, c1, c2, c3, c4], _ =>
    match xs, hl with
    | [y0, y1, y2, y3, y4], _ =>
      have g0 := hg 0 _ rfl
      have g1 := hg 1 _ rfl
      have g2 := hg 2 _ rfl
      have g3 := hg 3 _ rfl
      have g4 := hg 4 _ rfl
      have q1 : Try.prog.cellsOf 3 = 1 := by kernel_rfl
      have q2 : Try.prog.cellsOf 9 = 1 := by kernel_rfl
      have q3 : Try.prog.cellsOf 4 = 1 := by kernel_rfl
      have q_ev : Try.prog.cellsOf 22 = 1 := by kernel_rfl
      have e0 : ∃ A N C, c0 = .slice A N C := by
        simp [q_ev] at g0
        rcases Go.Deep.open_slice Try.underlying22 g0 with ⟨hcs, _⟩ | ⟨a, len, cap', m, f, D, Pl, hcs, _⟩
        · exact ⟨_, _, _, by simpa using hcs⟩
        · exact ⟨_, _, _, by simpa using hcs⟩
      obtain ⟨A0, N0, C0, rfl⟩ := e0
      simp [q_ev] at g0
      obtain ⟨l0, e0, z0, w0, qs0⟩ := cells_C k31 EvS Try.underlying22 (by kernel_rfl) trod_evS g0
      subst e0
      obtain ⟨b1, e1, _⟩ := DataW.trod_string (by kernel_rfl) g1
      simp [q1, q2, q3] at e1
      subst e1
      obtain ⟨b2, e2, _⟩ := DataW.trod_string (by kernel_rfl) g2
      simp [q1, q2, q3] at e2
      subst e2
      obtain ⟨b3, e3, _⟩ := DataW.trod_int (k := .i64) (by kernel_rfl) g3
      simp [q1, q2, q3] at e3
      subst e3
      obtain ⟨b4, e4, _⟩ := DataW.trod_int (k := .i64) (by kernel_rfl) g4
      simp [q1, q2, q3] at e4
      subst e4
      exact ⟨A0, C0, l0, b1, b2, b3, b4, rfl, ⟨z0, w0, qs0⟩⟩
theorem laidOut : laidOutB Try.prog = true := by kernel_rfl
set_option maxRecDepth 100000 in
theorem lifted (os : Os) (started : os.Started) (H : Type) (enc : TypeId × Value → H) :
    ReturnsInHanded {} Try.checked os 17 .any (Rows.historyWritesSpec.pre6 enc Try.prog Try.f17 Rows.historyWritesRow.domain false) (Rows.historyWritesSpec.post enc Try.prog Try.f17 false true false false) := by
  refine returnsInHanded_of_change_sized (C := Try.checked) own started (by kernel_rfl) Try.func17
    (ChangeSpec.witness6 (enc := enc) (C := Try.checked) false ⟨#[], #[.agg #[.slice none 0 0, .string ByteArray.empty, .string ByteArray.empty, .int .i64 0, .int .i64 0]], []⟩ 8 (by kernel_rfl) (by kernel_rfl) (by kernel_rfl) (by kernel_rfl)) ?_
  intro W base args ds gs before hval0 hW hcnd hsz0 _
  have hsz : (DataW.weightsEach Try.prog (Try.f17.params.toList ++ Rows.historyWritesSpec.plain.varTypes Try.prog) (ds ++ gs)).all (· ≤ reachBytes) = true := hsz0
  have hval : ∀ (j : Nat) t v, Try.f17.params[j]? = some t → args[j]? = some v → Value.okWide Try.prog W .any base t v := hval0
  have hW' := hW
  obtain ⟨p, q, hA0, hV, rfl, hfz, hnd⟩ := hW
  have hA : DataW.TrodAll enc Try.prog W 0 (fun _ => true) true Try.f17.params.toList args.toList ds p := hA0
  rw [Try.params17] at hA hval hsz
  obtain ⟨v0, vs0, d0, ds0, p0, q0, hargs, rfl, rfl, h0, r0⟩ := trodAll_cons hA
  obtain ⟨rfl, rfl, rfl⟩ := trodAll_nil r0
  obtain rfl : args = #[v0] := by cases args; simp_all
  obtain ⟨rfl, rfl⟩ := trodVars_none hV
  obtain ⟨cs0, rfl, hcs0⟩ := okWide_struct Try.underlying65 (hval 0 65 v0 rfl rfl)
  have lt0 := trod_lts h0
  have ho0 := h0
  obtain ⟨fu0, hf0⟩ := ho0
  simp only [Value.cells] at hf0
  obtain ⟨a0_0, cap0_0, l0_0, a0_1, a0_2, a0_3, a0_4, rfl, ⟨z0_0, w0_0, qs0_0⟩⟩ := opn0 hf0 (hcs0.trans (by kernel_rfl))
  clear hA0 hval0 hsz0 hsz
  obtain ⟨n, hn⟩ := p_HistoryWrites l0_0 a0_1 a0_2 a0_3 a0_4 qs0_0
  refine (cartouchelaw08_HistoryWrites.calls n a0_0 cap0_0 l0_0 a0_1 a0_2 a0_3 a0_4 true W w0_0 z0_0 hn).mono fun e W' ⟨he, bel⟩ => ?_
  subst he
  exact ⟨_, rfl, _, _, _, [], _, [], hW', trodAll_mk1 (shut_bool Try.underlying4 _), (trodAll_cons_mk (Below.trod laidOut (by kernel_rfl) (of_decide_eq_true (by kernel_rfl)) h0 bel lt0) trodAll_mk0), rfl, bel.frame _, fun h => by cases h⟩
set_option maxRecDepth 100000 in
theorem closed : joinedFacts Try.prog 17 Try.f17 Rows.historyWritesSpec Rows.historyWritesRow = true := by
  unfold joinedFacts
  rw [mayE, liftsF, makeF]
  kernel_rfl
theorem over : Rows.historyWritesRow.holds Try.pinned (OpenSpec.ofChange Rows.historyWritesSpec) :=
  OpenClaim.holds_of_wide 17 Try.f17 rfl rfl rfl rfl rfl rfl rfl ⟨rfl, rfl, rfl, rfl, rfl⟩ rfl rfl rfl rfl rfl (by kernel_rfl) Try.func17 closed
    (of_decide_eq_true (by kernel_rfl)) (by unfold Func.isWrapper; first | (rw [if_pos (by decide +kernel)]; kernel_rfl) | (rw [if_neg (by decide +kernel)]; exact ⟨rfl, rfl⟩))
    (fun os started H enc _ => lifted os started H enc)
theorem proved : Rows.HistoryWritesSaid := over
#print axioms proved
end Go.Proofs.Ythjgmccpbcelgaa.historyWrites
namespace Go.Proofs.Ythjgmccpbcelgaa
/-- The row, under a short name, for the claim. -/
theorem historyWrites_holds : Rows.HistoryWritesSaid := historyWrites.proved
end Go.Proofs.Ythjgmccpbcelgaa
