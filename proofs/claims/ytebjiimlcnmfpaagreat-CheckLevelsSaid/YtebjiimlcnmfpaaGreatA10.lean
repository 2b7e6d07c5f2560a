/-
  The program's edges.of: its closures.
-/
import Derived.Test.YtebjiimlcnmfpaaGreatA3
import Derived.Test.YtebjiimlcnmfpaaGreatA4
import Derived.Test.YtebjiimlcnmfpaaGreatWWords
import Derived.Deep.RegionLaw
set_option linter.unusedVariables false
set_option linter.unusedSimpArgs false
namespace Go.Proofs.YtebjiimlcnmfpaaGreat
section
open Go Go.RowKit Go.Proofs Go.Shelf
attribute [local go_sem] Ext.alloc Ext.alloc2 Ext.alloc3 Ext.alloc4 Ext.drewN_alloc Ext.drewN_alloc2 Ext.drew_alloc Ext.drew Ext.drewN toList_beq
attribute [-go_sem] Builtin.append_

structure Edge where
  kind : Int
  from_ : Int
  to_ : Int
  i : Int
  j : Int
deriving DecidableEq
def Edge.z : Edge := ⟨0, 0, 0, 0, 0⟩
def Edge.cs (x : Edge) : List Value := [.int .i64 x.kind, .int .i64 x.from_, .int .i64 x.to_, .int .i64 x.i, .int .i64 x.j]
theorem infoEdge : (Tryz.prog.info? 24).map (fun i => (i.zero, i.size, i.bytes)) = some (some (.agg #[.int .i64 0, .int .i64 0, .int .i64 0, .int .i64 0, .int .i64 0]), 5, 40) := by kernel_rfl

/-- All blocks but bo and the row of v are as they were. -/
structure ButRow (bo : Nat) (v : Value) (W W' : World) : Prop where
  os : W'.os = W.os
  tape : W'.tape = W.tape
  output : W'.output = W.output
  size : W.heap.size ≤ W'.heap.size
  block : ∀ g, g < W.heap.size → g ≠ bo → some g ≠ v.ownBlock → W'.heap[g]? = W.heap[g]?

set_option maxHeartbeats 1000000 in
theorem e_put0 (W : World) (b o n cap bh bo i k : Nat) (kind : Int) (l : List Ev) (hE : Evs W (some ⟨b, o, none⟩) n l) (hh : W.cell? ⟨bh, 0, none⟩ = some (.slice (some ⟨b, o, none⟩) n cap)) (hi : i < n) (hk : k < n) (hne : (nth l i).txn = (nth l k).txn) :
    Calls Tryz.prog 86 #[.int .i64 kind, .int .i64 i, .int .i64 k, .pointer (some ⟨bh, 0, none⟩), .pointer (some ⟨bo, 0, none⟩)] W fun e w' => e = .returned (.tuple #[]) ∧ ∃ q, w' = W.drewN q := by
  have hX := Ext.refl W
  have hbig := hE.big
  obtain ⟨b', o', e', h0, h1, h2, h3⟩ := hE.opn (by omega)
  cases e'
  have hti := h1 W i hX hi
  have htk := h1 W k hX hk
  rw [hne] at hti
  clear hE h0 h1 h2 h3 hne
  go_enter Tryz.func86, Tryz.ntmps86
  go_wp2
  go_quiet (fail)
  go_wp2
  go_end0
  exact ⟨rfl, _, rfl⟩

theorem put_but {W w1 : World} {bo : Nat} {t : TypeId} {v : Value} {cs : Array Value} (hg : W.grownBy w1 v.ownBlock) (h0 : Blk w1 bo t cs) (u : Value) : ButRow bo v W (w1.setCell ⟨bo, 0, none⟩ u) :=
  ⟨hg.os, hg.tape, hg.output, by have := hg.size; simpa [World.setCell] using this, fun g hlt hne hr => by
    rw [Below.heap_setCell w1 ⟨bo, 0, none⟩ u g hne]
    exact hg.block g hlt hr⟩
theorem own_not {w : World} {base bo : Nat} {e : TypeId} {sz : Nat} {v : Value} {n : Nat} {xs : List Value} (h : w.ownsRow base e sz v n xs) (hb : bo < base) : ∀ k, v.ownBlock = some k → k ≠ bo := fun k hk e => by
  have := own_block h k hk
  omega
theorem own_set {w : World} {base bo : Nat} {e : TypeId} {sz : Nat} {v : Value} {n : Nat} {xs : List Value} (h : w.ownsRow base e sz v n xs) (hb : bo < base) (j : Nat) (u : Value) : (w.setCell ⟨bo, j, none⟩ u).ownsRow base e sz v n xs :=
  YtebjiimlcnmfpaaGreatW.PrintWords.own_move h fun k hk => Below.heap_setCell w ⟨bo, j, none⟩ u k (own_not h hb k hk)

set_option maxRecDepth 100000 in
set_option maxHeartbeats 8000000 in
theorem e_put1 (W : World) (b o n cap bh bo i k base : Nat) (kind : Int) (l : List Ev) (v : Value) (pre : List Edge) (hE : Evs W (some ⟨b, o, none⟩) n l) (hh : W.cell? ⟨bh, 0, none⟩ = some (.slice (some ⟨b, o, none⟩) n cap)) (hi : i < n) (hk : k < n) (hne : (nth l i).txn ≠ (nth l k).txn)
    (ho : Blk W bo 28 #[v]) (hown : W.ownsRow base 24 5 v pre.length (pre.flatMap Edge.cs)) (hb0 : bo < base) (hb1 : base ≤ W.heap.size) (hpl : pre.length ≤ 1000000) :
    Calls Tryz.prog 86 #[.int .i64 kind, .int .i64 i, .int .i64 k, .pointer (some ⟨bh, 0, none⟩), .pointer (some ⟨bo, 0, none⟩)] W fun e w' => e = .returned (.tuple #[]) ∧ ∃ v', Blk w' bo 28 #[v'] ∧
      w'.ownsRow base 24 5 v' (pre ++ [(⟨kind, (nth l i).txn, (nth l k).txn, i, k⟩ : Edge)]).length ((pre ++ [(⟨kind, (nth l i).txn, (nth l k).txn, i, k⟩ : Edge)]).flatMap Edge.cs) ∧ ButRow bo v W w' := by
  have hX := Ext.refl W
  have hbig := hE.big
  obtain ⟨i0, hi0, hz0, hz1, hz2⟩ := info_parts infoEdge
  obtain ⟨b', o', e', h0, h1, h2, h3⟩ := hE.opn (by omega)
  cases e'
  have hti := h1 W i hX hi
  have htk := h1 W k hX hk
  obtain ⟨A0, c0, rfl⟩ := YtebjiimlcnmfpaaGreatW.PrintWords.own_slice hown
  have hov := ho.cell0
  have hb : ((nth l i).txn == (nth l k).txn) = false := beq_eq_false_iff_ne.2 hne
  have HO := hid ho
  have HW := hid hown
  have hal : ∀ (m : Nat) (ob : Obj), ((W.drewN m).alloc ob).cell? ⟨bo, 0, none⟩ = some (.slice A0 pre.length c0) := fun m ob => ((show Blk (W.drewN m) bo 28 #[.slice A0 pre.length c0] from ho).alloc ob).cell0
  have HN : Hid (some bo ≠ (Value.slice A0 pre.length c0).ownBlock) := hid (fun e => by have := own_block hown bo e.symm; omega)
  clear hE h0 h1 h2 h3 hne ho hown
  go_enter Tryz.func86, Tryz.ntmps86
  go_wp2
  go_quiet (fail)
  go_wp2
  go_region_law (refine YtebjiimlcnmfpaaGreatW.PrintWords.step_append_cells base (by rfl) (.tmp 19) (.tmp 34) 28 24 _ 5 40 rfl Tryz.underlying28 infoEdge rfl (by decide) (by decide) (.slice A0 pre.length c0) pre.length (pre.flatMap Edge.cs) [.int .i64 kind, .int .i64 (nth l i).txn, .int .i64 (nth l k).txn, .int .i64 i, .int .i64 k] (by rfl) (by rfl) rfl (by intro u hu; simp at hu; rcases hu with rfl | rfl | rfl | rfl | rfl <;> rfl) (by exact HW.out) (Below.refl _ _) (by exact hb1) (by omega) ?_; intro v1 w1 hown1 hbel1 hgrow1 hat1; obtain ⟨A1, c1, rfl⟩ := YtebjiimlcnmfpaaGreatW.PrintWords.own_slice hown1; have q0 : Blk w1 bo 28 #[.slice A0 pre.length c0] := Blk.grown (w := W) HO.out ⟨hgrow1.os, hgrow1.tape, hgrow1.output, hgrow1.size, hgrow1.block⟩ HN.out; have q1 := q0.cell0; have q2 := q0.frozen 0)
  all_goals
    go_wp2
    go_end0
    have e1 : pre.flatMap Edge.cs ++ [.int .i64 kind, .int .i64 (nth l i).txn, .int .i64 (nth l k).txn, .int .i64 i, .int .i64 k] = (pre ++ [(⟨kind, (nth l i).txn, (nth l k).txn, i, k⟩ : Edge)]).flatMap Edge.cs := by simp [Edge.cs]
    have e2 : pre.length + 1 = (pre ++ [(⟨kind, (nth l i).txn, (nth l k).txn, i, k⟩ : Edge)]).length := by simp
    refine ⟨rfl, _, q0.set0 _, ?_, put_but (W := W) ⟨hgrow1.os, hgrow1.tape, hgrow1.output, hgrow1.size, hgrow1.block⟩ q0 _⟩
    rw [← e1, ← e2]
    exact own_set hown1 hb0 _ _
end
end Go.Proofs.YtebjiimlcnmfpaaGreat
