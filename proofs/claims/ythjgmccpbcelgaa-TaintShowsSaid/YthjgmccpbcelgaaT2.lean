/-
  Contracts of chapter 9: all that are wrong, and the first one.
-/
import Derived.Test.YthjgmccpbcelgaaProg
import Derived.Test.YthjgmccpbcelgaaT1
namespace Go.Proofs.Ythjgmccpbcelgaa
open Go Go.RowKit Go.Proofs
set_option linter.unusedSimpArgs false
set_option linter.unusedVariables false
attribute [local go_sem] Ext.alloc Ext.drew Ext.drewN toList_beq

def RBads (w : World) (l : List Bad) (e : Ending) (w' : World) : Prop := ∃ A cap, e = .returned (.slice A l.length cap) ∧ Bads w' A l.length l ∧ Ext w w'
theorem infoBad : (Try.prog.info? 28).map (fun i => (i.zero, i.size, i.bytes)) = some (some (.agg #[.int .i64 0, .int .i64 0, .int .i64 0]), 3, 24) := by kernel_rfl

set_option maxRecDepth 100000 in
set_option maxHeartbeats 2000000 in
theorem t_all (w : World) (A : Option Addr) (n cap : Nat) (l : List Ev) (hE : Evs w A n l) (hn : n ≤ 1000) :
    Calls Try.prog 35 #[.slice A n cap] w (RBads w (bads l)) := by
  have hX := Ext.refl w
  have hbig := hE.big
  have hl := hid hE.len
  have HE := hid hE
  obtain ⟨i0, hi, hz0, hz1, hz2⟩ := info_parts infoBad
  clear hE
  go_enter Try.func35, Try.ntmps35
  go_wp2
  go_loopw [3, 8] (fun out i W => Ext w W ∧ ∃ (k : Nat) (pre : List Bad), k ≤ n ∧ i = .int .i64 k ∧ W.ownsRow w.heap.size 28 3 out pre.length (pre.flatMap Bad.cs) ∧ pre.length ≤ k ∧ Hid (pre ++ badsFrom l (n - k) k = bads l)) (fun _ i _ => n - (intOf i).toNat)
  case atStart => exact ⟨hX, 0, [], by omega, rfl, World.ownsRow_nil _ _ _ _, by simp, hid (by unfold bads; rw [hl.out]; rfl)⟩
  case round =>
    obtain ⟨hW, k, pre, hk1, rfl, hown, hpl, hr⟩ := hrel
    by_cases hlt : k < n
    · have hst : Hid (badsFrom l (n - k) k = if (badAt l k).kind = 0 then badsFrom l (n - (k + 1)) (k + 1) else badAt l k :: badsFrom l (n - (k + 1)) (k + 1)) := hid (by rw [show n - k = (n - (k + 1)) + 1 by omega]; rfl)
      by_cases hz : badAt l k = Bad.z
      · have HZ := hid hz
        go_wp2_with (go_at_call 33; refine (t_at _ _ _ _ _ _ (HE.out.ext hW)).mono ?_; rintro e w1 ⟨rfl, hx1⟩)
        go_roundw
        case rel =>
          refine ⟨Ext.alloc (hW.trans hx1) _, k + 1, pre, by omega, by go_num, (own_ext hown hW.le hx1).alloc _, by omega, hid ?_⟩
          rw [← hr.out, hst.out, if_pos (by rw [HZ.out]; rfl)]
        case measure => simp [intOf]; omega
      · have hk0 : ¬ (badAt l k).kind = 0 := fun e => hz ((bad_zero _ _).1 e)
        have hk1' : ((badAt l k).kind == 0) = false := beq_eq_false_iff_ne.2 hk0
        have HK := hid hk0
        clear hk0 hz
        go_wp2_with (first
          | (go_at_call 33; refine (t_at _ _ _ _ _ _ (HE.out.ext hW)).mono ?_; rintro e w1 ⟨rfl, hx1⟩; have hown1 := own_ext hown hW.le hx1; have hsz1 := hW.le; have hsz2 := hx1.le; have hX1 := hW.trans hx1)
          | (at_builtin; refine wpList_append_own _ rfl _ _ 37 rfl w.heap.size 28 i0 (.agg #[.int .i64 0, .int .i64 0, .int .i64 0]) 3 24 Try.underlying37 hi hz0 hz1 hz2 rfl (by decide) _ _ _ rfl ((hown1.alloc _).alloc _) ⟨w1.heap.size + 1, 0, none⟩ 1 1 [.int .i64 (badAt l k).kind, .int .i64 (badAt l k).i, .int .i64 (badAt l k).j] rfl rfl (new_cells (by simp)) (by intro u hu; simp at hu; rcases hu with rfl | rfl | rfl <;> rfl) (by unfold maxLen; omega) (by omega) (by simp; omega) ?_; intro v' w2 hown2 hgrow _))
        have e1 : pre.flatMap Bad.cs ++ [.int .i64 (badAt l k).kind, .int .i64 (badAt l k).i, .int .i64 (badAt l k).j] = (pre ++ [badAt l k]).flatMap Bad.cs := by simp [Bad.cs]
        have e2 : pre.length + 1 = (pre ++ [badAt l k]).length := by simp
        rw [e1, e2] at hown2
        have hW2 : Ext w w2 := Ext.grown (Ext.alloc (Ext.alloc hX1 _) _) hgrow (own_block hown1)
        clear e1 e2
        go_wp2
        go_roundw
        case rel =>
          refine ⟨hW2, k + 1, pre ++ [badAt l k], by omega, by go_num, hown2, by simp; omega, hid ?_⟩
          rw [← hr.out, hst.out, if_neg HK.out]; simp
        case measure => simp [intOf]; omega
    · go_wp2
      have hb : pre = bads l := by rw [← hr.out, show n - k = 0 by omega]; simp [badsFrom]
      obtain ⟨A', c', e', hs'⟩ := sl_of_own (l := pre) (c := Bad.cs) (z := Bad.z) (hc := fun _ => rfl) hown (by omega)
      subst hb
      go_ret
      exact ⟨A', c', by rw [← e']; rfl, hs', hW⟩

theorem bads_len (l : List Ev) : (bads l).length ≤ l.length := by
  have h : ∀ m i, (badsFrom l m i).length ≤ m := by
    intro m
    induction m with
    | zero => intro i; simp [badsFrom]
    | succ m ih =>
      intro i
      have := ih (i + 1)
      unfold badsFrom
      split <;> simp <;> omega
  exact h _ _

def firstBad (l : List Ev) : Bad := bnth (bads l) 0

set_option maxRecDepth 100000 in
set_option maxHeartbeats 2000000 in
theorem t_first (w : World) (A : Option Addr) (n cap : Nat) (l : List Ev) (hE : Evs w A n l) (hn : n ≤ 1000) :
    Calls Try.prog 38 #[.slice A n cap] w fun e w' => e = .returned (.tuple #[.agg #[.int .i64 (firstBad l).kind, .int .i64 (firstBad l).i, .int .i64 (firstBad l).j], .bool (decide (bads l ≠ []))]) ∧ Ext w w' := by
  have hX := Ext.refl w
  have hbig := hE.big
  by_cases hb : bads l = []
  · have hfin : Hid (firstBad l = Bad.z ∧ decide (bads l ≠ []) = false ∧ (bads l).length = 0) := hid (by simp [firstBad, bnth, hb])
    go_enter Try.func38, Try.ntmps38
    go_wp2_with (go_at_call 35; refine (t_all _ _ _ _ _ (hE.ext (by repeat (first | assumption | apply Ext.alloc | apply Ext.drewN | apply Ext.drew | (refine Ext.setCell (by simp <;> omega) ?_ _)))) hn).mono ?_; rintro e w1 ⟨A1, c1, rfl, hs1, hx1⟩; rw [hfin.out.2.2]; have b1 := (Blk.new w 28 #[.int .i64 0, .int .i64 0, .int .i64 0]).ext hx1; obtain ⟨p0, p1, p2⟩ := b1.cells3; have f0 := b1.frozen; have hX1 := Ext.trans (a := w) (by repeat (first | assumption | apply Ext.alloc | apply Ext.drewN | apply Ext.drew | (refine Ext.setCell (by simp <;> omega) ?_ _))) hx1)
    have b9 : Blk _ w.heap.size 28 #[.int .i64 0, .int .i64 0, .int .i64 0] := ((b1.set 0 (.int .i64 0)).set 1 (.int .i64 0)).set 2 (.int .i64 0)
    obtain ⟨q0, q1, q2⟩ := b9.cells3
    refine bodyPost_ret (v := .tuple #[.agg #[.int .i64 0, .int .i64 0, .int .i64 0], .bool false]) (by simp [results, Try.results38, go_sem, q0, q1, q2]) rfl ⟨?_, (by repeat (first | assumption | apply Ext.alloc | apply Ext.drewN | apply Ext.drew | (refine Ext.setCell (by simp <;> omega) ?_ _)))⟩
    rw [hfin.out.1, hfin.out.2.1]; rfl
  · have hfin : Hid (decide (bads l ≠ []) = true) := hid (by simp [hb])
    have hpos : 0 < (bads l).length := List.length_pos_iff.2 hb
    have hle : (bads l).length ≤ 1000 := by have := bads_len l; have := hE.len; omega
    clear hb
    go_enter Try.func38, Try.ntmps38
    go_wp2_with (go_at_call 35; refine (t_all _ _ _ _ _ (hE.ext (by repeat (first | assumption | apply Ext.alloc | apply Ext.drewN | apply Ext.drew | (refine Ext.setCell (by simp <;> omega) ?_ _)))) hn).mono ?_; rintro e w1 ⟨A1, c1, rfl, hs1, hx1⟩; obtain ⟨b, o, rfl, h0, h1, h2⟩ := Bads.opn hs1 hpos; have hr1 := Ext.refl w1; have g0 := h0 w1 0 hr1 hpos; have g1 := h1 w1 0 hr1 hpos; have g2 := h2 w1 0 hr1 hpos; simp only [Nat.zero_mul, Nat.add_zero] at g0 g1 g2; clear h0 h1 h2; have b1 := (Blk.new w 28 #[.int .i64 0, .int .i64 0, .int .i64 0]).ext hx1; obtain ⟨p0, p1, p2⟩ := b1.cells3; have f0 := b1.frozen; have hX1 := Ext.trans (a := w) (by repeat (first | assumption | apply Ext.alloc | apply Ext.drewN | apply Ext.drew | (refine Ext.setCell (by simp <;> omega) ?_ _))) hx1)
    have b9 : Blk _ w.heap.size 28 #[.int .i64 (bnth (bads l) 0).kind, .int .i64 (bnth (bads l) 0).i, .int .i64 (bnth (bads l) 0).j] := ((b1.set 0 (.int .i64 (bnth (bads l) 0).kind)).set 1 (.int .i64 (bnth (bads l) 0).i)).set 2 (.int .i64 (bnth (bads l) 0).j)
    obtain ⟨q0, q1, q2⟩ := b9.cells3
    refine bodyPost_ret (v := .tuple #[.agg #[.int .i64 (bnth (bads l) 0).kind, .int .i64 (bnth (bads l) 0).i, .int .i64 (bnth (bads l) 0).j], .bool true]) (by simp [results, Try.results38, go_sem, q0, q1, q2]) rfl ⟨?_, (by repeat (first | assumption | apply Ext.alloc | apply Ext.drewN | apply Ext.drew | (refine Ext.setCell (by simp <;> omega) ?_ _)))⟩
    rw [hfin.out]; rfl

end Go.Proofs.Ythjgmccpbcelgaa
