/-
  check.Ahead's parts: edges of steps, values sorted, places
-/
import Derived.RangeFuncBox
import Derived.RangeFuncLeaves
import Derived.OwnWalkIn
import Derived.TacticsInMore
import Derived.LoopNIn
import Derived.LoopIn
import Derived.Maps.AppendAt
import Derived.Sort.OwnSorted
import Derived.Test.YtebjiimlcnmfpaaGreatA20
import Derived.Test.YtebjiimlcnmfpaaGreatA21
/-! The program's ring.Forward. -/
set_option linter.unusedVariables false
set_option linter.unusedSimpArgs false
namespace Go.Proofs.YtebjiimlcnmfpaaGreat
section
section
section
open Go Go.RowKit Go.Proofs Go.Shelf Go.Maps
attribute [local go_sem] Ext.alloc Ext.alloc2 Ext.alloc3 Ext.alloc4 Ext.drewN_alloc Ext.drewN_alloc2 Ext.drew_alloc Ext.drew Ext.drewN toList_beq

end
end
end
end Go.Proofs.YtebjiimlcnmfpaaGreat

/-! slices.Equal at numbers and at edges. -/
namespace Go.Proofs.YtebjiimlcnmfpaaGreat
section
section
open Go Go.RowKit Go.Proofs Go.Shelf
set_option linter.unusedSimpArgs false
set_option linter.unusedVariables false
attribute [local go_sem] Ext.alloc Ext.alloc2 Ext.alloc3 Ext.alloc4 Ext.drewN_alloc Ext.drewN_alloc2 Ext.drew_alloc Ext.drew Ext.drewN toList_beq

theorem take_eq_step' {α : Type} {a b : List α} {z : α} {k : Nat} (h : a.take k = b.take k) (ha : k < a.length) (hb : k < b.length) (he : a.getD k z = b.getD k z) : a.take (k + 1) = b.take (k + 1) := by
  rw [List.take_succ_eq_append_getElem ha, List.take_succ_eq_append_getElem hb, h]
  simp only [List.getD_eq_getElem?_getD, List.getElem?_eq_getElem ha, List.getElem?_eq_getElem hb, Option.getD_some] at he
  rw [he]
set_option maxRecDepth 100000 in
set_option maxHeartbeats 2000000 in
theorem eq_ints (w : World) (A B : Option Addr) (n m ca cb : Nat) (a b : List Int) (hA : Nums w A n a) (hB : Nums w B m b) :
    Calls Tryz.prog 76 #[.slice A n ca, .slice B m cb] w fun e w' => e = .returned (.bool (decide (a = b))) ∧ Ext w w' := by
  have hX := Ext.refl w
  have hbig := hA.big
  have hla := hid (Sl.len hA)
  have hlb := hid (Sl.len hB)
  by_cases hnm : n = m
  · subst hnm
    go_enter Tryz.func76, Tryz.ntmps76
    go_wp2
    go_loopw [13] (fun i W => Ext w W ∧ ∃ (k : Nat), k ≤ n ∧ i = .int .i64 k ∧ Hid (a.take k = b.take k)) (fun i _ => n - (RowKit.intOf i).toNat)
    case atStart => exact ⟨hX, 0, by omega, rfl, hid (by simp)⟩
    case round =>
      obtain ⟨hW, k, hk1, rfl, hr⟩ := hrel
      by_cases hlt : k < n
      · obtain ⟨b1, o1, rfl, h0⟩ := Nums.opn hA (by omega)
        obtain ⟨b2, o2, rfl, g0⟩ := Nums.opn hB (by omega)
        have x0 := h0 wr k hW hlt
        have y0 := g0 wr k hW hlt
        clear h0 g0
        by_cases he : inth a k = inth b k
        · have HE := hid he
          rw [he] at x0
          clear he
          go_wp2
          go_quiet (fail)
          go_wp2
          exact ⟨⟨hW.drewN _, k + 1, by omega, by go_num, hid (take_eq_step' (z := 0) hr.out (by rw [hla.out]; exact hlt) (by rw [hlb.out]; exact hlt) HE.out)⟩, by simp [RowKit.intOf]; omega⟩
        · have hne : a ≠ b := fun e => he (by rw [e])
          have HN := hid hne
          have d0 : (inth a k == inth b k) = false := beq_eq_false_iff_ne.2 he
          clear he hne
          go_wp2
          go_quiet (fail)
          go_wp2
          go_ret
          exact ⟨ret_bool (by simp [HN.out]), hW.drewN _⟩
      · go_wp2
        go_ret
        refine ⟨ret_bool ?_, hW⟩
        have := hr.out
        rw [List.take_of_length_le (by rw [hla.out]; omega), List.take_of_length_le (by rw [hlb.out]; omega)] at this
        simp [this]
  · have hne : a ≠ b := fun e => hnm (by rw [← hla.out, ← hlb.out, e])
    have HN := hid hne
    have hnm2 : ((n : Int) == (m : Int)) = false := by simp; omega
    clear hne
    go_enter Tryz.func76, Tryz.ntmps76
    go_wp2
    go_ret
    exact ⟨ret_bool (by simp [HN.out]), hX⟩
set_option maxRecDepth 100000 in
set_option maxHeartbeats 2000000 in
theorem eq_edges (w : World) (A B : Option Addr) (n m ca cb : Nat) (a b : List Edge) (hA : Edgs w A n a) (hB : Edgs w B m b) :
    Calls Tryz.prog 83 #[.slice A n ca, .slice B m cb] w fun e w' => e = .returned (.bool (decide (a = b))) ∧ Ext w w' := by
  have hX := Ext.refl w
  have hbig := hA.big
  have hla := hid (Sl.len hA)
  have hlb := hid (Sl.len hB)
  by_cases hnm : n = m
  · subst hnm
    go_enter Tryz.func83, Tryz.ntmps83
    go_wp2
    go_loopw [13] (fun i W => Ext w W ∧ ∃ (k : Nat), k ≤ n ∧ i = .int .i64 k ∧ Hid (a.take k = b.take k)) (fun i _ => n - (RowKit.intOf i).toNat)
    case atStart => exact ⟨hX, 0, by omega, rfl, hid (by simp)⟩
    case round =>
      obtain ⟨hW, k, hk1, rfl, hr⟩ := hrel
      by_cases hlt : k < n
      · obtain ⟨b1, o1, rfl, h0, h1, h2, h3, h4⟩ := Edgs.opn hA (by omega)
        obtain ⟨b2, o2, rfl, g0, g1, g2, g3, g4⟩ := Edgs.opn hB (by omega)
        have x0 := h0 wr k hW hlt
        have y0 := g0 wr k hW hlt
        have x1 := h1 wr k hW hlt
        have y1 := g1 wr k hW hlt
        have x2 := h2 wr k hW hlt
        have y2 := g2 wr k hW hlt
        have x3 := h3 wr k hW hlt
        have y3 := g3 wr k hW hlt
        have x4 := h4 wr k hW hlt
        have y4 := g4 wr k hW hlt
        clear h0 h1 h2 h3 h4 g0 g1 g2 g3 g4
        by_cases he : enth a k = enth b k
        · have HE := hid he
          rw [he] at x0 x1 x2 x3 x4
          clear he
          go_wp2
          go_quiet (fail)
          go_wp2
          exact ⟨⟨hW.drewN _, k + 1, by omega, by go_num, hid (take_eq_step' (z := Edge.z) hr.out (by rw [hla.out]; exact hlt) (by rw [hlb.out]; exact hlt) HE.out)⟩, by simp [RowKit.intOf]; omega⟩
        · have hne : a ≠ b := fun e => he (by rw [e])
          have HN := hid hne
          have hd : ((enth a k).kind ≠ (enth b k).kind) ∨ ((enth a k).kind = (enth b k).kind ∧ (enth a k).from_ ≠ (enth b k).from_) ∨ ((enth a k).kind = (enth b k).kind ∧ (enth a k).from_ = (enth b k).from_ ∧ (enth a k).to_ ≠ (enth b k).to_) ∨ ((enth a k).kind = (enth b k).kind ∧ (enth a k).from_ = (enth b k).from_ ∧ (enth a k).to_ = (enth b k).to_ ∧ (enth a k).i ≠ (enth b k).i) ∨ ((enth a k).kind = (enth b k).kind ∧ (enth a k).from_ = (enth b k).from_ ∧ (enth a k).to_ = (enth b k).to_ ∧ (enth a k).i = (enth b k).i ∧ (enth a k).j ≠ (enth b k).j) := by
            by_cases q0 : (enth a k).kind = (enth b k).kind
            case neg => exact .inl q0
            by_cases q1 : (enth a k).from_ = (enth b k).from_
            case neg => exact .inr (.inl ⟨q0, q1⟩)
            by_cases q2 : (enth a k).to_ = (enth b k).to_
            case neg => exact .inr (.inr (.inl ⟨q0, q1, q2⟩))
            by_cases q3 : (enth a k).i = (enth b k).i
            case neg => exact .inr (.inr (.inr (.inl ⟨q0, q1, q2, q3⟩)))
            by_cases q4 : (enth a k).j = (enth b k).j
            case neg => exact .inr (.inr (.inr (.inr (⟨q0, q1, q2, q3, q4⟩))))
            exfalso; apply he
            cases hx : enth a k; cases hy : enth b k
            rw [hx, hy] at q0 q1 q2 q3 q4
            simp_all
          clear he hne
          rcases hd with q0 | ⟨q0, q1⟩ | ⟨q0, q1, q2⟩ | ⟨q0, q1, q2, q3⟩ | ⟨q0, q1, q2, q3, q4⟩
          · have d : ((enth a k).kind == (enth b k).kind) = false := beq_eq_false_iff_ne.2 q0
            go_wp2
            go_quiet (fail)
            go_wp2
            go_ret
            exact ⟨ret_bool (by simp [HN.out]), hW.drewN _⟩
          · have d : ((enth a k).from_ == (enth b k).from_) = false := beq_eq_false_iff_ne.2 q1
            go_wp2
            go_quiet (fail)
            go_wp2
            go_ret
            exact ⟨ret_bool (by simp [HN.out]), hW.drewN _⟩
          · have d : ((enth a k).to_ == (enth b k).to_) = false := beq_eq_false_iff_ne.2 q2
            go_wp2
            go_quiet (fail)
            go_wp2
            go_ret
            exact ⟨ret_bool (by simp [HN.out]), hW.drewN _⟩
          · have d : ((enth a k).i == (enth b k).i) = false := beq_eq_false_iff_ne.2 q3
            go_wp2
            go_quiet (fail)
            go_wp2
            go_ret
            exact ⟨ret_bool (by simp [HN.out]), hW.drewN _⟩
          · have d : ((enth a k).j == (enth b k).j) = false := beq_eq_false_iff_ne.2 q4
            go_wp2
            go_quiet (fail)
            go_wp2
            go_ret
            exact ⟨ret_bool (by simp [HN.out]), hW.drewN _⟩
      · go_wp2
        go_ret
        refine ⟨ret_bool ?_, hW⟩
        have := hr.out
        rw [List.take_of_length_le (by rw [hla.out]; omega), List.take_of_length_le (by rw [hlb.out]; omega)] at this
        simp [this]
  · have hne : a ≠ b := fun e => hnm (by rw [← hla.out, ← hlb.out, e])
    have HN := hid hne
    have hnm2 : ((n : Int) == (m : Int)) = false := by simp; omega
    clear hne
    go_enter Tryz.func83, Tryz.ntmps83
    go_wp2
    go_ret
    exact ⟨ret_bool (by simp [HN.out]), hX⟩
end
end
end Go.Proofs.YtebjiimlcnmfpaaGreat

/-! slices.Sorted(slices.Values(s)) at this program, at numbers. -/
namespace Go.Proofs.YtebjiimlcnmfpaaGreat
section
section
open Go Go.RowKit Go.Proofs Go.Shelf Go.Sort
set_option linter.unusedSimpArgs false
set_option linter.unusedVariables false
attribute [local go_sem] Oper.semAt_some

/-- What has come when k rounds are over. -/
def upto (zs : List Int) (k : Nat) : List Int := (List.range k).map (inth zs)
/-- The slice value sv holds the numbers zs, in a block below n₀; or it has none. -/
def Below.ints (n₀ : Nat) (W : World) (sv : Value) (zs : List Int) : Prop :=
  (∃ p cap, sv = .slice p 0 cap ∧ zs = []) ∨ ∃ b off cap, sv = .slice (some ⟨b, off, none⟩) zs.length cap ∧ b < n₀ ∧ ∀ j, j < zs.length → W.cell? ⟨b, off + j, none⟩ = some (.int .i64 (inth zs j))
end
end
end Go.Proofs.YtebjiimlcnmfpaaGreat
