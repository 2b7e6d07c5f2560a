/-
  A slice that is an argument, with what its elements weigh together (for statements of the second form).
-/
import Derived.Test.YtebjiimlcnmfpaaGreatB1
set_option linter.unusedVariables false
set_option linter.unusedSimpArgs false
namespace Go.Proofs.YtebjiimlcnmfpaaGreatPr
open Go.Proofs.YtebjiimlcnmfpaaGreat
section
open Go Go.RowKit Go.Proofs Go.ChangeShapes Go.WideShapes Go.Deep
set_option linter.unusedSimpArgs false
set_option linter.unusedVariables false
variable {H : Type} {enc : TypeId × Value → H} {P : Program} {w : World} {base : Nat} {spare : Nat → Bool} {held : Bool}

theorem bulk_one (d : DataW H) : 1 ≤ Rows.uptoBulk d := by
  cases d with
  | lit l => cases l <;> simp [Rows.uptoBulk]
  | nil => simp [Rows.uptoBulk]
  | ptr d => simp [Rows.uptoBulk]
  | slice elems spare => simp [Rows.uptoBulk]
  | agg parts => simp [Rows.uptoBulk]
  | iface t d => simp [Rows.uptoBulk]
  | map entries => simp [Rows.uptoBulk]
  | held h => simp [Rows.uptoBulk]
theorem bulk_len (l : List (DataW H)) : l.length ≤ Rows.uptoBulkAll l := by
  induction l with
  | nil => simp [Rows.uptoBulkAll]
  | cons x r ih => have := bulk_one x; simp only [Rows.uptoBulkAll, List.length_cons]; omega
theorem bulk_sum {α : Type} (m : α → Nat) (D : Nat → DataW H) : ∀ (l : List α) (k : Nat), (∀ i x, l[i]? = some x → m x ≤ Rows.uptoBulk (D (k + i))) → (l.map m).sum ≤ Rows.uptoBulkAll ((List.range' k l.length).map D)
  | [], k, _ => by simp
  | x :: r, k, h => by
    have ih := bulk_sum m D r (k + 1) (fun i y hy => by
      have := h (i + 1) y (by simpa using hy)
      rwa [show k + (i + 1) = k + 1 + i by omega] at this)
    have h0 := h 0 x rfl
    have e : List.range' k (x :: r).length = k :: List.range' (k + 1) r.length := rfl
    rw [e, List.map_cons, List.map_cons, List.sum_cons]
    simp only [Rows.uptoBulkAll]
    rw [Nat.add_zero] at h0
    omega
theorem cells_CS {α : Type} (d : YtebjiimlcnmfpaaGreatW.PrintWords.Kd α) (Q : α → Prop) (mm : α → Nat) {t e : TypeId} {A : Option Addr} {n cap fuel : Nat} {x : DataW H × List MemPlace}
    (ht : P.underlying t = some (.slice e)) (hC : P.cellsOf e = d.sz)
    (hk : ∀ m cs x, DataW.trod enc P w base spare held m e cs = some x → cs.length = d.sz → ∃ v, d.K w v cs ∧ Q v ∧ mm v ≤ Rows.uptoBulk x.1)
    (h : DataW.trod enc P w base spare held fuel t [.slice A n cap] = some x) : ∃ l : List α, l.length = n ∧ n ≤ cap ∧ YtebjiimlcnmfpaaGreatW.PrintWords.Kd.C d w A l.length l ∧ (∀ y ∈ l, Q y) ∧ (l.map mm).sum + 1 ≤ Rows.uptoBulk x.1 ∧ l.length + 1 ≤ Rows.uptoBulk x.1 := by
  rcases open_slice ht h with ⟨hcs, hx⟩ | ⟨a, len, cap', m, f, D, Pl, hcs, hb, hl, hm, hmm, hx, hi⟩
  · simp at hcs
    obtain ⟨rfl, rfl, rfl⟩ := hcs
    exact ⟨[], rfl, Nat.le_refl _, ⟨rfl, by simp, fun hn => by simp at hn⟩, fun y hy => (by cases hy), by simpa using bulk_one x.1, by simpa using bulk_one x.1⟩
  · simp at hcs
    obtain ⟨rfl, rfl, rfl⟩ := hcs
    have hnm : n ≤ m := by rw [hmm]; split <;> omega
    have hch : ∀ i, i < n → ∃ y, ((Q y ∧ mm y ≤ Rows.uptoBulk (D i)) ∧ ∃ cs, cs.length = d.sz ∧ d.K w y cs ∧ ∀ j u, cs[j]? = some u → w.cell? (a.add (i * d.sz + j)) = some u) := fun i hin => by
      obtain ⟨cs', hc, ht'⟩ := hi i (by omega)
      rw [hC] at hc
      obtain ⟨_, hcl, hat⟩ := World.cells?_some hc
      obtain ⟨v, hR, hQ, hM⟩ := hk f cs' _ ht' hcl
      refine ⟨v, ⟨hQ, hM⟩, cs', hcl, hR, fun j u hu => ?_⟩
      have hj : j < d.sz := by rw [← hcl]; exact (List.getElem?_eq_some_iff.1 hu).1
      rw [← Go.Deep.add_add, hat j hj, hu]
    obtain ⟨l, hl', hg⟩ := choose_row _ n hch
    have hs := bulk_sum mm D l 0 (fun i y hy => by rw [Nat.zero_add]; exact (hg i y hy).1.2)
    have hll := bulk_len ((List.range n).map D)
    rw [List.length_map, List.length_range] at hll
    rw [hl', ← List.range_eq_range'] at hs
    subst hx
    refine ⟨l, hl', hl, ⟨rfl, by simp only [maxLen] at hm; omega, fun hn => ⟨a, rfl, fun j p hp => ?_⟩⟩, fun y hy => ?_, ?_, ?_⟩
    · obtain ⟨_, cs, h1, h2, h3⟩ := hg j p hp
      exact ⟨cs, h1, h2, h3⟩
    · obtain ⟨i, hi', rfl⟩ := List.getElem_of_mem hy
      exact (hg i _ (List.getElem?_eq_getElem hi')).1.1
    · simp only [Rows.uptoBulk]; omega
    · simp only [Rows.uptoBulk]; omega
end
set_option maxRecDepth 100000 in
/-- A step, and how many edges it has. -/
theorem trod_stepB {H : Type} {enc : TypeId × Value → H} {base : Nat} {spare : Nat → Bool} {held : Bool} {W : World} (m : Nat) (cs : List Value) (x : DataW H × List MemPlace)
    (h : DataW.trod enc Tryz.prog W base spare held m 80 cs = some x) (hc : cs.length = k80.sz) : ∃ v, k80.K W v cs ∧ StepS v ∧ v.f2.length ≤ Rows.uptoBulk x.1 := by
  obtain ⟨xs, n, _, hx, _, hl, hg⟩ := DataW.trod_struct (Tryz.underlying80) h
  have hc3 : cs.length = 3 := hc.trans (by first | rfl | kernel_rfl)
  clear hc
  match cs, hc3 with
  | [c0, c1, c2], _ =>
    have g0 := hg 0 _ rfl
    have g1 := hg 1 _ rfl
    have g2 := hg 2 _ rfl
    match xs, hl with
    | [y0, y1, y2], _ =>
      obtain ⟨a0, e0, _, w0⟩ := DataW.trod_int (k := .i64) (by kernel_rfl) g0
      obtain ⟨a1, e1, _, w1⟩ := DataW.trod_int (k := .i64) (by kernel_rfl) g1
      have h1 : Tryz.prog.cellsOf 3 = 1 := by kernel_rfl
      have h2 : Tryz.prog.cellsOf 28 = 1 := by kernel_rfl
      simp [h1] at e0 e1
      subst e0; subst e1
      have e2 : ∃ A N C, c2 = .slice A N C := by
        simp [h1, h2] at g2
        rcases Go.Deep.open_slice Tryz.underlying28 g2 with ⟨hcs, _⟩ | ⟨a, len, cap', m, f, D, Pl, hcs, _⟩
        · exact ⟨_, _, _, by simpa using hcs⟩
        · exact ⟨_, _, _, by simpa using hcs⟩
      obtain ⟨A2, N2, C2, rfl⟩ := e2
      simp [h1, h2] at g2
      obtain ⟨l2, z1, z2, z3, _, _, z4⟩ := cells_CS k24 EdgeS (fun _ => 0) Tryz.underlying28 (by kernel_rfl) (fun m cs x h hc => by obtain ⟨v, h1, h2⟩ := trod_edgeS m cs x h hc; exact ⟨v, h1, h2, Nat.zero_le _⟩) g2
      subst z1
      refine ⟨⟨a0, a1, l2⟩, k80_mk W ⟨a0, a1, l2⟩ z2 z3, ⟨w0, w1, z3.2.1⟩, ?_⟩
      subst hx
      show l2.length ≤ _
      simp only [Rows.uptoBulk, Rows.uptoBulkAll, List.map_cons, List.map_nil]
      omega
end Go.Proofs.YtebjiimlcnmfpaaGreatPr
