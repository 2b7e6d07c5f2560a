/-
  The row of JudgeTells: what the printed walk and the plain law say, as the statement says it.
-/
import Derived.Test.YtebjiimlcnmfpaaGreatPJudgeTells
import Derived.Test.YtebjiimlcnmfpaaGreatB1
import Derived.Test.YtebjiimlcnmfpaaGreatA8
import Derived.Test.YtebjiimlcnmfpaaGreatB20
import Derived.WalkKit
import Derived.ProofKit
import Derived.OpenShut
import Derived.ShutString
import Derived.ChangeOld
import Derived.Below
import Derived.SizedLaws
set_option linter.unusedVariables false
set_option linter.unusedSimpArgs false
namespace Go.Proofs.YtebjiimlcnmfpaaGreat.judgeTells
open Go Go.ChangeShapes Go.WideShapes Go.ChangeAt Go.RowKit Go.Proofs.YtebjiimlcnmfpaaGreatPr
open Go.ChangeMaps (open_string shut_string)
set_option linter.unusedVariables false
theorem own : ownKnob Tryz.prog.godebug = none := by kernel_rfl
set_option maxRecDepth 100000 in
/-- What the parameter is made of. -/
theorem opn2 {H : Type} {enc : TypeId × Value → H} {base : Nat} {spare : Nat → Bool} {held : Bool} {W : World} {fuel : Nat} {cs : Array Value} {x : DataW H × List MemPlace} (h : DataW.trod enc Tryz.prog W base spare held fuel 42 cs.toList = some x) (hc : cs.size = 7) {ts : List TypeId} {ds : List (DataW H)} {j : Nat} (hsz : (DataW.weightsEach Tryz.prog ts ds).all (· ≤ reachBytes) = true) (hts : ts[j]? = some 42) (hd : ds[j]? = some x.1) :
    ∃ (a0 : Int) (a1 : Bool) (a2 : Option Addr) (cap2 : Nat) (l2 : List Int) (a3 : Int) (a4 : Int) (a5 : Int) (a6 : Option Addr) (cap6 : Nat) (l6 : List S24), cs = #[.int .i64 a0, .bool a1, .slice a2 l2.length cap2, .int .i64 a3, .int .i64 a4, .int .i64 a5, .slice a6 l6.length cap6] ∧ (l2.length ≤ cap2 ∧ YtebjiimlcnmfpaaGreatW.PrintWords.Kd.C (YtebjiimlcnmfpaaGreatW.PrintWords.Kd.int .i64) W a2 l2.length l2 ∧ (∀ y ∈ l2, IntS y) ∧ l2.length * 8 ≤ 140737488351232) ∧ (l6.length ≤ cap6 ∧ YtebjiimlcnmfpaaGreatW.PrintWords.Kd.C k24 W a6 l6.length l6 ∧ (∀ y ∈ l6, EdgeS y) ∧ l6.length * 40 ≤ 140737488351232) := by
  obtain ⟨xs, n, _, hx, _, hl, hg⟩ := DataW.trod_struct Tryz.underlying42 h
  have hL := Light.of hsz hts (hd.trans (by rw [hx])) Tryz.underlying42
  obtain ⟨cl⟩ := cs
  match cl, hc with
  | [c0, c1, c2, c3, c4, c5, c6], _ =>
    match xs, hl with
    | [y0, y1, y2, y3, y4], _ =>
      have g0 := hg 0 _ rfl
      have g1 := hg 1 _ rfl
      have g2 := hg 2 _ rfl
      have g3 := hg 3 _ rfl
      have g4 := hg 4 _ rfl
      have q1 : Tryz.prog.cellsOf 3 = 1 := by kernel_rfl
      have q2 : Tryz.prog.cellsOf 9 = 1 := by kernel_rfl
      have q3 : Tryz.prog.cellsOf 4 = 1 := by kernel_rfl
      have q_bad : Tryz.prog.cellsOf 40 = 3 := by kernel_rfl
      have q_edges : Tryz.prog.cellsOf 28 = 1 := by kernel_rfl
      have q_ints : Tryz.prog.cellsOf 31 = 1 := by kernel_rfl
      obtain ⟨b0, e0, _⟩ := DataW.trod_int (k := .i64) (by kernel_rfl) g0
      simp [q1, q2, q3] at e0
      subst e0
      obtain ⟨b1, e1, _⟩ := DataW.trod_bool (by kernel_rfl) g1
      simp [q1, q2, q3] at e1
      subst e1
      have e2 : ∃ A N C, c2 = .slice A N C := by
        simp [q_ints] at g2
        rcases Go.Deep.open_slice Tryz.underlying31 g2 with ⟨hcs, _⟩ | ⟨a, len, cap', m, f, D, Pl, hcs, _⟩
        · exact ⟨_, _, _, by simpa using hcs⟩
        · exact ⟨_, _, _, by simpa using hcs⟩
      obtain ⟨A2, N2, C2, rfl⟩ := e2
      simp [q_ints] at g2
      obtain ⟨l2, e2, z2, w2, qs2, yy2⟩ := cells_CL (YtebjiimlcnmfpaaGreatW.PrintWords.Kd.int .i64) IntS (j := 2) (B := 8) hL rfl rfl Tryz.underlying31 (by kernel_rfl) (by kernel_rfl) trod_intS g2
      subst e2
      simp [q_bad] at g3
      obtain ⟨xb, nb, _, _, _, hlb, hgb⟩ := DataW.trod_struct Tryz.underlying40 g3
      obtain ⟨zb0, hz0⟩ : ∃ z, xb[0]? = some z := ⟨_, List.getElem?_eq_getElem (by simp [hlb])⟩
      have gb0 := hgb 0 _ rfl
      rw [hz0] at gb0
      obtain ⟨b3, e3, _⟩ := DataW.trod_int (k := .i64) (by kernel_rfl) gb0
      simp [q1] at e3
      subst e3
      obtain ⟨zb1, hz1⟩ : ∃ z, xb[1]? = some z := ⟨_, List.getElem?_eq_getElem (by simp [hlb])⟩
      have gb1 := hgb 1 _ rfl
      rw [hz1] at gb1
      obtain ⟨b4, e4, _⟩ := DataW.trod_int (k := .i64) (by kernel_rfl) gb1
      simp [q1] at e4
      subst e4
      obtain ⟨zb2, hz2⟩ : ∃ z, xb[2]? = some z := ⟨_, List.getElem?_eq_getElem (by simp [hlb])⟩
      have gb2 := hgb 2 _ rfl
      rw [hz2] at gb2
      obtain ⟨b5, e5, _⟩ := DataW.trod_int (k := .i64) (by kernel_rfl) gb2
      simp [q1] at e5
      subst e5
      have e6 : ∃ A N C, c6 = .slice A N C := by
        simp [q_edges] at g4
        rcases Go.Deep.open_slice Tryz.underlying28 g4 with ⟨hcs, _⟩ | ⟨a, len, cap', m, f, D, Pl, hcs, _⟩
        · exact ⟨_, _, _, by simpa using hcs⟩
        · exact ⟨_, _, _, by simpa using hcs⟩
      obtain ⟨A6, N6, C6, rfl⟩ := e6
      simp [q_edges] at g4
      obtain ⟨l6, e6, z6, w6, qs6, yy6⟩ := cells_CL k24 EdgeS (j := 4) (B := 40) hL rfl rfl Tryz.underlying28 (by kernel_rfl) (by kernel_rfl) trod_edgeS g4
      subst e6
      exact ⟨b0, b1, A2, C2, l2, b3, b4, b5, A6, C6, l6, rfl, ⟨z2, w2, qs2, yy2⟩, ⟨z6, w6, qs6, yy6⟩⟩
theorem laidOut : laidOutB Tryz.prog = true := by kernel_rfl
set_option maxRecDepth 100000 in
theorem lifted (os : Os) (started : os.Started) (H : Type) (enc : TypeId × Value → H) :
    ReturnsInHanded {} Tryz.checked os 16 .any (Rows.judgeTellsSpec.pre6 enc Tryz.prog Tryz.f16 Rows.judgeTellsRow.domain false) (Rows.judgeTellsSpec.post enc Tryz.prog Tryz.f16 false true false false) := by
  refine returnsInHanded_of_change_sized (C := Tryz.checked) own started (by kernel_rfl) Tryz.func16
    (ChangeSpec.witness6 (enc := enc) (C := Tryz.checked) false ⟨#[], #[.slice none 0 0, .int .i64 0, .agg #[.int .i64 0, .bool false, .slice none 0 0, .int .i64 0, .int .i64 0, .int .i64 0, .slice none 0 0]], []⟩ 8 (by kernel_rfl) (by kernel_rfl) (by kernel_rfl) (by kernel_rfl)) ?_
  intro W base args ds gs before hval0 hW hcnd hsz0 _
  have hsz : (DataW.weightsEach Tryz.prog (Tryz.f16.params.toList ++ Rows.judgeTellsSpec.plain.varTypes Tryz.prog) (ds ++ gs)).all (· ≤ reachBytes) = true := hsz0
  have hval : ∀ (j : Nat) t v, Tryz.f16.params[j]? = some t → args[j]? = some v → Value.okWide Tryz.prog W .any base t v := hval0
  have hW' := hW
  obtain ⟨p, q, hA0, hV, rfl, hfz, hnd⟩ := hW
  have hA : DataW.TrodAll enc Tryz.prog W 0 (fun _ => true) true Tryz.f16.params.toList args.toList ds p := hA0
  rw [Tryz.params16] at hA hval hsz
  obtain ⟨v0, vs0, d0, ds0, p0, q0, hargs, rfl, rfl, h0, r0⟩ := trodAll_cons hA
  obtain ⟨v1, vs1, d1, ds1, p1, q1, rfl, rfl, rfl, h1, r1⟩ := trodAll_cons r0
  obtain ⟨v2, vs2, d2, ds2, p2, q2, rfl, rfl, rfl, h2, r2⟩ := trodAll_cons r1
  obtain ⟨rfl, rfl, rfl⟩ := trodAll_nil r2
  obtain rfl : args = #[v0, v1, v2] := by cases args; simp_all
  obtain ⟨rfl, rfl⟩ := trodVars_none hV
  obtain ⟨a0, len0, cap0, rfl⟩ := okWide_slice Tryz.underlying22 (hval 0 22 v0 rfl rfl)
  have lt0 := trod_lts h0
  obtain ⟨l0, e0, z0, w0, qs0, y0⟩ := trod_C k50 EvS (B := 48) hsz (j := 0) (t := 22) rfl rfl Tryz.underlying22 (by kernel_rfl) (by kernel_rfl) trod_evS h0
  subst e0
  obtain ⟨a1, rfl, rfl, rfl, w1⟩ := open_int Tryz.underlying3 (hval 1 3 v1 rfl rfl) h1
  obtain ⟨cs2, rfl, hcs2⟩ := okWide_struct Tryz.underlying42 (hval 2 42 v2 rfl rfl)
  have lt2 := trod_lts h2
  have ho2 := h2
  obtain ⟨fu2, hf2⟩ := ho2
  simp only [Value.cells] at hf2
  obtain ⟨a2_0, a2_1, a2_2, cap2_2, l2_2, a2_3, a2_4, a2_5, a2_6, cap2_6, l2_6, rfl, ⟨z2_2, w2_2, qs2_2, y2_2⟩, ⟨z2_6, w2_6, qs2_6, y2_6⟩⟩ := opn2 hf2 (hcs2.trans (by kernel_rfl)) hsz (j := 2) rfl rfl
  clear hA0 hval0 hsz0 hsz
  refine (h_JudgeTells W a0 cap0 l0 a1 a2_0 a2_1 a2_2 cap2_2 l2_2 a2_3 a2_4 a2_5 a2_6 cap2_6 l2_6 w0 z0 w2_2 z2_2 w2_6 z2_6 qs0 y0 y2_2 y2_6).mono fun e W' ⟨he, bel⟩ => ?_
  subst he
  exact ⟨_, rfl, _, _, _, [], _, [], hW', trodAll_mk1 (shut_bool Tryz.underlying4 _), (trodAll_cons_mk (Below.trod laidOut (by kernel_rfl) (of_decide_eq_true (by kernel_rfl)) h0 bel lt0) (trodAll_cons_mk (shut_int Tryz.underlying3 w1) (trodAll_cons_mk (Below.trod laidOut (by kernel_rfl) (of_decide_eq_true (by kernel_rfl)) h2 bel lt2) trodAll_mk0))), rfl, bel.frame _, fun h => by cases h⟩
set_option maxRecDepth 100000 in
theorem closed : joinedFacts Tryz.prog 16 Tryz.f16 Rows.judgeTellsSpec Rows.judgeTellsRow = true := by
  unfold joinedFacts
  rw [mayE, liftsF, makeF]
  kernel_rfl
theorem over : Rows.judgeTellsRow.holds Tryz.pinned (OpenSpec.ofChange Rows.judgeTellsSpec) :=
  OpenClaim.holds_of_wide 16 Tryz.f16 rfl rfl rfl rfl rfl rfl rfl ⟨rfl, rfl, rfl, rfl, rfl⟩ rfl rfl rfl rfl rfl (by kernel_rfl) Tryz.func16 closed
    (of_decide_eq_true (by kernel_rfl)) (by unfold Func.isWrapper; first | (rw [if_pos (by decide +kernel)]; kernel_rfl) | (rw [if_neg (by decide +kernel)]; exact ⟨rfl, rfl⟩))
    (fun os started H enc _ => lifted os started H enc)
theorem proved : Rows.JudgeTellsSaid := over
#print axioms proved
end Go.Proofs.YtebjiimlcnmfpaaGreat.judgeTells
namespace Go.Proofs.YtebjiimlcnmfpaaGreat
/-- The row, under a short name, for the claim. -/
theorem judgeTells_holds : Rows.JudgeTellsSaid := judgeTells.proved
end Go.Proofs.YtebjiimlcnmfpaaGreat
