/-
  The program's chapter 9.
-/
import Derived.Test.YtebjiimlcnmfpaaProg
import Derived.Test.YtebjiimlcnmfpaaA2
import Derived.Test.YtebjiimlcnmfpaaA1
/-! Contracts of the program's functions of chapter 9. -/
set_option linter.unusedVariables false
set_option linter.unusedSimpArgs false
namespace Go.Proofs.Ytebjiimlcnmfpaa
section
open Go Go.RowKit Go.Proofs
set_option linter.unusedSimpArgs false
set_option linter.unusedVariables false
attribute [local go_sem] Ext.alloc Ext.alloc2 Ext.alloc3 Ext.alloc4 Ext.drewN_alloc Ext.drewN_alloc2 Ext.drew_alloc Ext.drew Ext.drewN toList_beq

set_option maxHeartbeats 1000000 in
theorem t_counts (w : World) (A : Option Addr) (n cap : Nat) (l : List Ev) (i : Int) (hE : Evs w A n l) :
    Calls Try.prog 59 #[.slice A n cap, .int .i64 i] w fun e w' => e = .returned (.bool (counts l i)) ∧ Ext w w' := by
  have hX := Ext.refl w
  have hbig := hE.big
  have hl := hid hE.len
  by_cases hi0 : i < 0
  · go_enter Try.func59, Try.ntmps59
    go_wp2
    go_ret
    exact ⟨ret_bool (by simp [counts, show ¬ 0 ≤ i by omega]), hX⟩
  · obtain ⟨k, rfl⟩ := Int.eq_ofNat_of_zero_le (show 0 ≤ i by omega)
    by_cases hkn : k < n
    · obtain ⟨b, o, rfl, h0, h1, h2, h3⟩ := hE.opn (by omega)
      obtain ⟨q1, q2, q3, q4⟩ := findL_of (l := l) (k := k) (by rw [hl.out]; exact hkn)
      by_cases hk : (nth l k).kind = 2
      · have hk' : ((nth l k).kind == 2) = true := beq_iff_eq.2 hk
        have hk'' : ((nth l k).kind != 2) = false := by simp [hk]
        have HK := hid hk
        have HQ := hid (⟨q3, q4⟩ : _ ∧ _)
        clear hk q3 q4 q2 hi0
        go_enter Try.func59, Try.ntmps59
        go_wp2_with (go_at_call 43; refine (h_find _ _ _ _ _ _ (hE.ext (by repeat (first | assumption | apply Ext.alloc | apply Ext.drewN | apply Ext.drew | (refine Ext.setCell (by simp <;> omega) ?_ _))))).mono ?_; rintro e w1 ⟨rfl, hx1⟩; have hX1 := hX.trans hx1)
        · go_ret
          refine ⟨ret_bool ?_, (by repeat (first | assumption | apply Ext.alloc | apply Ext.drewN | apply Ext.drew | (refine Ext.setCell (by simp <;> omega) ?_ _)))⟩
          have hc : comOf l (nth l k).txn = true := by rw [← HQ.out.1]; assumption
          obtain ⟨e1, e2, e3⟩ := comOf_end hc
          rw [HQ.out.2, if_neg (by omega)]
          simp [counts, hl.out, HK.out, hc, hkn]
        · go_ret
          refine ⟨ret_bool ?_, (by repeat (first | assumption | apply Ext.alloc | apply Ext.drewN | apply Ext.drew | (refine Ext.setCell (by simp <;> omega) ?_ _)))⟩
          have hc : ¬ comOf l (nth l k).txn = true := by rw [← HQ.out.1]; assumption
          simp [counts, HK.out, hc]
      · have hk' : ((nth l k).kind == 2) = false := beq_eq_false_iff_ne.2 hk
        have hk'' : ((nth l k).kind != 2) = true := by simp [hk]
        have HK := hid hk
        clear hk
        go_enter Try.func59, Try.ntmps59
        go_wp2
        go_ret
        exact ⟨ret_bool (by simp [counts, HK.out]), hX⟩
    · go_enter Try.func59, Try.ntmps59
      go_wp2
      go_ret
      exact ⟨ret_bool (by simp [counts, hl.out, hkn]), hX⟩

set_option maxHeartbeats 1000000 in
theorem t_outer (w : World) (A : Option Addr) (n cap : Nat) (l : List Ev) (i : Int) (hE : Evs w A n l) :
    Calls Try.prog 40 #[.slice A n cap, .int .i64 i] w fun e w' => e = .returned (.bool (outer l i)) ∧ Ext w w' := by
  have hX := Ext.refl w
  have hbig := hE.big
  have hS : ∀ x : After w, Ext w x.v := fun x => x.h
  cases hc : counts l i
  · have HC := hid hc
    have HC1 := hid (fun (W : World) (x : Ext w W) => (by have h := t_counts W A n cap l i (hE.ext x); rwa [hc] at h : Calls Try.prog 59 #[.slice A n cap, .int .i64 i] W fun e w' => e = .returned (.bool false) ∧ Ext W w'))
    clear hc
    go_enter Try.func40, Try.ntmps40
    go_wp2
    refine wp_region_ext_lit (by kernel_rfl) (by kernel_rfl) ?_
    repeat (go_big_quiet_step (((go_at_call 59; exact Calls.quietX (HC1.out _ (hS _))))))
    refine wpQuiet_nil ?_
    rintro V1 ⟨x1, hx1⟩
    have hV1 := x1.h
    rw [← hx1] at hV1
    clear hx1 x1
    go_wp2
    go_ret
    exact ⟨ret_bool (by simp [outer, HC.out]), hV1⟩
  · have HC := hid hc
    obtain ⟨k, rfl⟩ := Int.eq_ofNat_of_zero_le (show 0 ≤ i by simp [counts] at hc; omega)
    have hkn : k < n := by have := hE.len; simp [counts] at hc; omega
    obtain ⟨b, o, rfl, h0, h1, h2, h3⟩ := hE.opn (by omega)
    have HC1 := hid (fun (W : World) (x : Ext w W) => (by have h := t_counts W _ n cap l k (hE.ext x); rwa [hc] at h : Calls Try.prog 59 #[.slice (some ⟨b, o, none⟩) n cap, .int .i64 k] W fun e w' => e = .returned (.bool true) ∧ Ext W w'))
    clear hc
    go_enter Try.func40, Try.ntmps40
    go_wp2
    refine wp_region_ext_lit (by kernel_rfl) (by kernel_rfl) ?_
    repeat (go_big_quiet_step ((first | (go_at_call 59; exact Calls.quietX (HC1.out _ (hS _))) | (go_at_call 58; exact Calls.quietX (h_last _ _ _ _ _ _ _ _ (hE.ext (hS _)))))))
    refine wpQuiet_nil ?_
    rintro V1 ⟨x1, hx1⟩
    have hV1 := x1.h
    rw [← hx1] at hV1
    clear hx1 x1
    go_wp2
    go_ret
    exact ⟨ret_bool (by simp [outer, HC.out]), hV1⟩

/-- The event at a place, boxed; nothing is wrong. -/
abbrev AtPost (l : List Ev) (w : World) (i : Int) : Ending → World → Prop := fun e w' => e = .returned (.agg #[.int .i64 (badAt l i).kind, .int .i64 (badAt l i).i, .int .i64 (badAt l i).j]) ∧ Ext w w'

end
end Go.Proofs.Ytebjiimlcnmfpaa

/-! Contracts of chapter 9: all that are wrong, and the first one. -/
namespace Go.Proofs.Ytebjiimlcnmfpaa
section
open Go Go.RowKit Go.Proofs
set_option linter.unusedSimpArgs false
set_option linter.unusedVariables false
attribute [local go_sem] Ext.alloc Ext.alloc2 Ext.alloc3 Ext.alloc4 Ext.drewN_alloc Ext.drewN_alloc2 Ext.drew_alloc Ext.drew Ext.drewN toList_beq

def RBads (w : World) (l : List Bad) (e : Ending) (w' : World) : Prop := ∃ A cap, e = .returned (.slice A l.length cap) ∧ Bads w' A l.length l ∧ Ext w w'
theorem infoBad : (Try.prog.info? 51).map (fun i => (i.zero, i.size, i.bytes)) = some (some (.agg #[.int .i64 0, .int .i64 0, .int .i64 0]), 3, 24) := by kernel_rfl

theorem bads_len (l : List Ev) : (bads l).length ≤ l.length := by
  have h : ∀ m i, (badsFrom l m i).length ≤ m := by
    intro m
    induction m with
    | zero => intro i; simp [badsFrom]
    | succ m ih =>
      intro i
      have := ih (i + 1)
      unfold badsFrom
      split <;> simp <;> omega
  exact h _ _

def firstBad (l : List Ev) : Bad := bnth (bads l) 0

end
end Go.Proofs.Ytebjiimlcnmfpaa
