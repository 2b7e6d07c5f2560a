/-
  Contracts: which events may be; a transaction found; the reference's well formed histories.
-/
import Derived.Test.YthjgmccpbcelgaaProg
import Derived.Test.YthjgmccpbcelgaaR08a
namespace Go.Proofs.Ythjgmccpbcelgaa
open Go Go.RowKit Go.Proofs
set_option linter.unusedSimpArgs false
set_option linter.unusedVariables false
attribute [local go_sem] Ext.alloc Ext.alloc2 Ext.alloc3 Ext.alloc4 Ext.drewN_alloc Ext.drewN_alloc2 Ext.drew_alloc Ext.drew Ext.drewN toList_beq

set_option maxHeartbeats 1000000 in
theorem r06_may (w : World) (x : Ev) :
    Calls Try.prog 77 #[.agg #[.int .i64 x.kind, .int .i64 x.txn, .string x.key, .string x.val]] w fun e w' => e = .returned (.bool (may x)) ∧ Ext w w' := by
  have hX := Ext.refl w
  go_enter Try.func77, Try.ntmps77
  go_wp2
  all_goals
    go_ret
    refine ⟨ret_bool ?_, hX.alloc _⟩
    rw [Bool.eq_iff_iff, may_iff, MayP]
    clear hX
    simp_all [toList_nil_iff_emptyBytes]
    try omega

theorem r08_firstN (w : World) (A : Option Addr) (n cap : Nat) (l : List Ev) (txn : Int) (hE : Evs w A n l) :
    Calls Try.prog 78 #[.slice A n cap, .int .i64 txn, .int .i64 (n : Int)] w fun e w' => e = .returned (.int .i64 (firstOf l txn)) ∧ w' = w := by
  have h := r08_first w A n cap l txn n hE (by omega) (by omega)
  rwa [Int.toNat_natCast, List.take_of_length_le (by rw [hE.len]; omega)] at h
theorem r08_endN (w : World) (A : Option Addr) (n cap : Nat) (l : List Ev) (txn : Int) (hE : Evs w A n l) :
    Calls Try.prog 79 #[.slice A n cap, .int .i64 txn, .int .i64 (n : Int)] w fun e w' => e = .returned (.int .i64 (endOf l txn)) ∧ w' = w := by
  have h := r08_end w A n cap l txn n hE (by omega) (by omega)
  rwa [Int.toNat_natCast, List.take_of_length_le (by rw [hE.len]; omega)] at h

set_option maxHeartbeats 1000000 in
theorem r08_find (w : World) (A : Option Addr) (n cap : Nat) (l : List Ev) (txn : Int) (hE : Evs w A n l) :
    Calls Try.prog 34 #[.slice A n cap, .int .i64 txn] w fun e w' => e = .returned (.tuple #[.agg #[.int .i64 (findL l txn).1.txn, .int .i64 (findL l txn).1.from_, .int .i64 (findL l txn).1.till, .bool (findL l txn).1.com], .bool (findL l txn).2]) ∧ Ext w w' := by
  have hX := Ext.refl w
  have hbig := hE.big
  have hr : -1 ≤ endOf l txn ∧ endOf l txn < (n : Int) := by have := idx_lt (endsOf txn) l; rwa [hE.len] at this
  have hf1 := idx_lt (isOf txn) l
  have hE0 := fun (o : Obj) => hE.ext (hX.alloc o)
  by_cases hf : firstOf l txn < 0
  · have hfin : Hid (findL l txn = (Life.z, false)) := hid (by unfold findL; rw [if_pos hf])
    clear hr hf1
    go_enter Try.func34, Try.ntmps34
    go_wp2_with (go_at_call 78; refine (r08_firstN _ _ _ _ _ _ (hE0 _)).mono ?_; rintro e w' ⟨rfl, rfl⟩)
    refine bodyPost_ret (v := .tuple #[.agg #[.int .i64 0, .int .i64 0, .int .i64 0, .bool false], .bool false]) (by simp [results, Try.results34, go_sem]) rfl ⟨?_, (by repeat (first | assumption | apply Ext.alloc | apply Ext.drewN | apply Ext.drew | (refine Ext.setCell (by simp <;> omega) ?_ _)))⟩
    rw [hfin.out]; rfl
  · by_cases he : endOf l txn < 0
    · have hfin : Hid (findL l txn = (⟨txn, firstOf l txn, n, false⟩, true)) := hid (by unfold findL; rw [if_neg hf, if_pos he, hE.len])
      have hf' : 0 ≤ firstOf l txn := by omega
      clear hr hf1 hf
      go_enter Try.func34, Try.ntmps34
      go_wp2_with (first | (go_at_call 78; refine (r08_firstN _ _ _ _ _ _ (hE0 _)).mono ?_; rintro e w' ⟨rfl, rfl⟩) | (go_at_call 79; refine (r08_endN _ _ _ _ _ _ (hE0 _)).mono ?_; rintro e w' ⟨rfl, rfl⟩))
      refine bodyPost_ret (v := .tuple #[.agg #[.int .i64 txn, .int .i64 (firstOf l txn), .int .i64 n, .bool false], .bool true]) (by simp [results, Try.results34, go_sem]) rfl ⟨?_, (by repeat (first | assumption | apply Ext.alloc | apply Ext.drewN | apply Ext.drew | (refine Ext.setCell (by simp <;> omega) ?_ _)))⟩
      rw [hfin.out]
    · obtain ⟨t, ht⟩ := Int.eq_ofNat_of_zero_le (show 0 ≤ endOf l txn by omega)
      have htn : t < n := by rw [ht] at hr; omega
      have hfin : Hid (findL l txn = (⟨txn, firstOf l txn, t, (nth l t).kind == 4⟩, true)) := hid (by unfold findL; rw [if_neg hf, if_neg he, ht, Int.toNat_natCast])
      have hf' : 0 ≤ firstOf l txn := by omega
      have HT := hid ht
      obtain ⟨b, o, rfl, h0, h1, h2, h3⟩ := hE.opn (by omega)
      clear hr hf1 hf he ht
      go_enter Try.func34, Try.ntmps34
      go_wp2_with (first | (go_at_call 78; refine (r08_firstN _ _ _ _ _ _ (hE0 _)).mono ?_; rintro e w' ⟨rfl, rfl⟩) | (go_at_call 79; refine (r08_endN _ _ _ _ _ _ (hE0 _)).mono ?_; rintro e w' ⟨rfl, rfl⟩; rw [HT.out]))
      refine bodyPost_ret (v := .tuple #[.agg #[.int .i64 txn, .int .i64 (firstOf l txn), .int .i64 t, .bool ((nth l t).kind == 4)], .bool true]) (by simp [results, Try.results34, go_sem]) rfl ⟨?_, (by repeat (first | assumption | apply Ext.alloc | apply Ext.drewN | apply Ext.drew | (refine Ext.setCell (by simp <;> omega) ?_ _)))⟩
      rw [hfin.out]

end Go.Proofs.Ythjgmccpbcelgaa
