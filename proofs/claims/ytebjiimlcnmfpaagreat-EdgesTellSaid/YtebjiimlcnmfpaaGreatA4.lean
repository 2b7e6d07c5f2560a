/-
  The program's chapter 9.
-/
import Derived.Test.YtebjiimlcnmfpaaGreatProg
import Derived.Test.YtebjiimlcnmfpaaGreatA2
import Derived.Test.YtebjiimlcnmfpaaGreatA1
/-! Contracts of the program's functions of chapter 9. -/
set_option linter.unusedVariables false
set_option linter.unusedSimpArgs false
namespace Go.Proofs.YtebjiimlcnmfpaaGreat
section
open Go Go.RowKit Go.Proofs
set_option linter.unusedSimpArgs false
set_option linter.unusedVariables false
attribute [local go_sem] Ext.alloc Ext.alloc2 Ext.alloc3 Ext.alloc4 Ext.drewN_alloc Ext.drewN_alloc2 Ext.drew_alloc Ext.drew Ext.drewN toList_beq

set_option maxHeartbeats 1000000 in
theorem t_counts (w : World) (A : Option Addr) (n cap : Nat) (l : List Ev) (i : Int) (hE : Evs w A n l) :
    Calls Tryz.prog 124 #[.slice A n cap, .int .i64 i] w fun e w' => e = .returned (.bool (counts l i)) ∧ Ext w w' := by
  have hX := Ext.refl w
  have hbig := hE.big
  have hl := hid hE.len
  by_cases hi0 : i < 0
  · go_enter Tryz.func124, Tryz.ntmps124
    go_wp2
    go_ret
    exact ⟨ret_bool (by simp [counts, show ¬ 0 ≤ i by omega]), hX⟩
  · obtain ⟨k, rfl⟩ := Int.eq_ofNat_of_zero_le (show 0 ≤ i by omega)
    by_cases hkn : k < n
    · obtain ⟨b, o, rfl, h0, h1, h2, h3⟩ := hE.opn (by omega)
      obtain ⟨q1, q2, q3, q4⟩ := findL_of (l := l) (k := k) (by rw [hl.out]; exact hkn)
      by_cases hk : (nth l k).kind = 2
      · have hk' : ((nth l k).kind == 2) = true := beq_iff_eq.2 hk
        have hk'' : ((nth l k).kind != 2) = false := by simp [hk]
        have HK := hid hk
        have HQ := hid (⟨q3, q4⟩ : _ ∧ _)
        clear hk q3 q4 q2 hi0
        go_enter Tryz.func124, Tryz.ntmps124
        go_wp2_with (go_at_call 98; refine (h_find _ _ _ _ _ _ (hE.ext (by repeat (first | assumption | apply Ext.alloc | apply Ext.drewN | apply Ext.drew | (refine Ext.setCell (by simp <;> omega) ?_ _))))).mono ?_; rintro e w1 ⟨rfl, hx1⟩; have hX1 := hX.trans hx1)
        · go_ret
          refine ⟨ret_bool ?_, (by repeat (first | assumption | apply Ext.alloc | apply Ext.drewN | apply Ext.drew | (refine Ext.setCell (by simp <;> omega) ?_ _)))⟩
          have hc : comOf l (nth l k).txn = true := by rw [← HQ.out.1]; assumption
          obtain ⟨e1, e2, e3⟩ := comOf_end hc
          rw [HQ.out.2, if_neg (by omega)]
          simp [counts, hl.out, HK.out, hc, hkn]
        · go_ret
          refine ⟨ret_bool ?_, (by repeat (first | assumption | apply Ext.alloc | apply Ext.drewN | apply Ext.drew | (refine Ext.setCell (by simp <;> omega) ?_ _)))⟩
          have hc : ¬ comOf l (nth l k).txn = true := by rw [← HQ.out.1]; assumption
          simp [counts, HK.out, hc]
      · have hk' : ((nth l k).kind == 2) = false := beq_eq_false_iff_ne.2 hk
        have hk'' : ((nth l k).kind != 2) = true := by simp [hk]
        have HK := hid hk
        clear hk
        go_enter Tryz.func124, Tryz.ntmps124
        go_wp2
        go_ret
        exact ⟨ret_bool (by simp [counts, HK.out]), hX⟩
    · go_enter Tryz.func124, Tryz.ntmps124
      go_wp2
      go_ret
      exact ⟨ret_bool (by simp [counts, hl.out, hkn]), hX⟩

set_option maxHeartbeats 1000000 in
theorem t_outer (w : World) (A : Option Addr) (n cap : Nat) (l : List Ev) (i : Int) (hE : Evs w A n l) :
    Calls Tryz.prog 88 #[.slice A n cap, .int .i64 i] w fun e w' => e = .returned (.bool (outer l i)) ∧ Ext w w' := by
  have hX := Ext.refl w
  have hbig := hE.big
  have hS : ∀ x : After w, Ext w x.v := fun x => x.h
  cases hc : counts l i
  · have HC := hid hc
    have HC1 := hid (fun (W : World) (x : Ext w W) => (by have h := t_counts W A n cap l i (hE.ext x); rwa [hc] at h : Calls Tryz.prog 124 #[.slice A n cap, .int .i64 i] W fun e w' => e = .returned (.bool false) ∧ Ext W w'))
    clear hc
    go_enter Tryz.func88, Tryz.ntmps88
    go_wp2
    refine wp_region_ext_lit (by kernel_rfl) (by kernel_rfl) ?_
    repeat (go_big_quiet_step (((go_at_call 124; exact Calls.quietX (HC1.out _ (hS _))))))
    refine wpQuiet_nil ?_
    rintro V1 ⟨x1, hx1⟩
    have hV1 := x1.h
    rw [← hx1] at hV1
    clear hx1 x1
    go_wp2
    go_ret
    exact ⟨ret_bool (by simp [outer, HC.out]), hV1⟩
  · have HC := hid hc
    obtain ⟨k, rfl⟩ := Int.eq_ofNat_of_zero_le (show 0 ≤ i by simp [counts] at hc; omega)
    have hkn : k < n := by have := hE.len; simp [counts] at hc; omega
    obtain ⟨b, o, rfl, h0, h1, h2, h3⟩ := hE.opn (by omega)
    have HC1 := hid (fun (W : World) (x : Ext w W) => (by have h := t_counts W _ n cap l k (hE.ext x); rwa [hc] at h : Calls Tryz.prog 124 #[.slice (some ⟨b, o, none⟩) n cap, .int .i64 k] W fun e w' => e = .returned (.bool true) ∧ Ext W w'))
    clear hc
    go_enter Tryz.func88, Tryz.ntmps88
    go_wp2
    refine wp_region_ext_lit (by kernel_rfl) (by kernel_rfl) ?_
    repeat (go_big_quiet_step ((first | (go_at_call 124; exact Calls.quietX (HC1.out _ (hS _))) | (go_at_call 123; exact Calls.quietX (h_last _ _ _ _ _ _ _ _ (hE.ext (hS _)))))))
    refine wpQuiet_nil ?_
    rintro V1 ⟨x1, hx1⟩
    have hV1 := x1.h
    rw [← hx1] at hV1
    clear hx1 x1
    go_wp2
    go_ret
    exact ⟨ret_bool (by simp [outer, HC.out]), hV1⟩

end
end Go.Proofs.YtebjiimlcnmfpaaGreat

/-! Contracts of chapter 9: all that are wrong, and the first one. -/
namespace Go.Proofs.YtebjiimlcnmfpaaGreat
section
open Go Go.RowKit Go.Proofs
set_option linter.unusedSimpArgs false
set_option linter.unusedVariables false
attribute [local go_sem] Ext.alloc Ext.alloc2 Ext.alloc3 Ext.alloc4 Ext.drewN_alloc Ext.drewN_alloc2 Ext.drew_alloc Ext.drew Ext.drewN toList_beq

end
end Go.Proofs.YtebjiimlcnmfpaaGreat
