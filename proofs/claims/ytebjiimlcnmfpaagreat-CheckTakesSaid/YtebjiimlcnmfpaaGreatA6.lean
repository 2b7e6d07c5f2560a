/-
  Reference 09.
-/
import Derived.Test.YtebjiimlcnmfpaaGreatProg
import Derived.Test.YtebjiimlcnmfpaaGreatA3
import Derived.Test.YtebjiimlcnmfpaaGreatA1
/-! Contracts of the reference's functions of chapter 9. -/
set_option linter.unusedVariables false
set_option linter.unusedSimpArgs false
namespace Go.Proofs.YtebjiimlcnmfpaaGreat
section
open Go Go.RowKit Go.Proofs
set_option linter.unusedSimpArgs false
set_option linter.unusedVariables false
attribute [local go_sem] Ext.alloc Ext.alloc2 Ext.alloc3 Ext.alloc4 Ext.drewN_alloc Ext.drewN_alloc2 Ext.drew_alloc Ext.drew Ext.drewN toList_beq

set_option maxRecDepth 100000 in
set_option maxHeartbeats 1000000 in
theorem r09_counts (w : World) (A : Option Addr) (n cap : Nat) (l : List Ev) (i : Int) (hE : Evs w A n l) :
    Calls Tryz.prog 93 #[.slice A n cap, .int .i64 i] w fun e w' => e = .returned (.bool (counts l i)) ∧ w' = w := by
  have hX := Ext.refl w
  have hbig := hE.big
  have hl := hid hE.len
  by_cases hi0 : i < 0
  · go_enter Tryz.func93, Tryz.ntmps93
    go_wp2
    go_ret
    exact ⟨ret_bool (by simp [counts, show ¬ 0 ≤ i by omega]), rfl⟩
  · obtain ⟨k, rfl⟩ := Int.eq_ofNat_of_zero_le (show 0 ≤ i by omega)
    by_cases hkn : k < n
    · have hr : -1 ≤ endOf l (nth l k).txn ∧ endOf l (nth l k).txn < (n : Int) := by have := idx_lt (endsOf (nth l k).txn) l; rwa [hE.len] at this
      by_cases hk : (nth l k).kind = 2
      · have hk' : ((nth l k).kind == 2) = true := beq_iff_eq.2 hk
        have hk'' : ((nth l k).kind != 2) = false := by simp [hk]
        have HK := hid hk
        by_cases he : endOf l (nth l k).txn ≤ k
        · have hfin : Hid (counts l k = false) := hid (by simp [counts, he])
          obtain ⟨b, o, rfl, h0, h1, h2, h3⟩ := hE.opn (by omega)
          have he' : decide ((k : Int) < endOf l (nth l k).txn) = false := by simp; omega
          clear hk hi0 hr
          go_enter Tryz.func93, Tryz.ntmps93
          go_wp2_with (go_at_call 62; refine (r08_endN _ _ _ _ _ _ (hE.ext (by repeat (first | assumption | apply Ext.alloc | apply Ext.drewN | apply Ext.drew | (refine Ext.setCell (by simp <;> omega) ?_ _))))).mono ?_; rintro e w1 ⟨rfl, rfl⟩)
          go_ret
          exact ⟨ret_bool hfin.out.symm, rfl⟩
        · obtain ⟨t, ht⟩ := Int.eq_ofNat_of_zero_le (show 0 ≤ endOf l (nth l k).txn by omega)
          have htn : t < n := by omega
          have hkt : k < t := by omega
          have hfin : Hid (counts l k = ((nth l t).kind == 4)) := hid (by
            simp [counts, comOf, hl.out, HK.out, ht, hkn, hkt])
          have HE := hid (by have h := fun (W : World) (x : Ext w W) => r08_endN W A n cap l (nth l k).txn (hE.ext x); rwa [ht] at h : ∀ W, Ext w W → Calls Tryz.prog 62 #[.slice A n cap, .int .i64 (nth l k).txn, .int .i64 (n : Int)] W fun e w' => e = .returned (.int .i64 (t : Int)) ∧ w' = W)
          obtain ⟨b, o, rfl, h0, h1, h2, h3⟩ := hE.opn (by omega)
          clear hk hi0 hr ht he
          go_enter Tryz.func93, Tryz.ntmps93
          go_wp2_with (go_at_call 62; refine (HE.out _ (by repeat (first | assumption | apply Ext.alloc | apply Ext.drewN | apply Ext.drew | (refine Ext.setCell (by simp <;> omega) ?_ _)))).mono ?_; rintro e w1 ⟨rfl, rfl⟩)
          all_goals
            go_ret
            exact ⟨ret_bool (by rw [hfin.out]), rfl⟩
      · have hk' : ((nth l k).kind == 2) = false := beq_eq_false_iff_ne.2 hk
        have hk'' : ((nth l k).kind != 2) = true := by simp [hk]
        have HK := hid hk
        obtain ⟨b, o, rfl, h0, h1, h2, h3⟩ := hE.opn (by omega)
        clear hk
        go_enter Tryz.func93, Tryz.ntmps93
        go_wp2
        go_ret
        exact ⟨ret_bool (by simp [counts, HK.out]), rfl⟩
    · go_enter Tryz.func93, Tryz.ntmps93
      go_wp2
      go_ret
      exact ⟨ret_bool (by simp [counts, hl.out, hkn]), rfl⟩

set_option maxRecDepth 100000 in
set_option maxHeartbeats 1000000 in
theorem r09_outer (w : World) (A : Option Addr) (n cap : Nat) (l : List Ev) (i : Int) (hE : Evs w A n l) :
    Calls Tryz.prog 51 #[.slice A n cap, .int .i64 i] w fun e w' => e = .returned (.bool (outer l i)) ∧ Ext w w' := by
  have hX := Ext.refl w
  have hbig := hE.big
  have hS : ∀ x : After w, Ext w x.v := fun x => x.h
  cases hc : counts l i
  · have HC := hid hc
    have HC1 := hid (by have h := r09_counts w A n cap l i hE; rwa [hc] at h : Calls Tryz.prog 93 #[.slice A n cap, .int .i64 i] w fun e w' => e = .returned (.bool false) ∧ w' = w)
    clear hc
    go_enter Tryz.func51, Tryz.ntmps51
    go_wp2_with (go_at_call 93; refine HC1.out.mono ?_; rintro e w1 ⟨rfl, rfl⟩)
    refine wp_region_ext_lit (by kernel_rfl) (by kernel_rfl) ?_
    repeat (go_big_quiet_step (fail))
    refine wpQuiet_nil ?_
    rintro V1 ⟨x1, hx1⟩
    have hV1 := x1.h
    rw [← hx1] at hV1
    clear hx1 x1
    go_wp2
    go_ret
    exact ⟨ret_bool (by simp [outer, HC.out]), hV1⟩
  · have HC := hid hc
    obtain ⟨k, rfl⟩ := Int.eq_ofNat_of_zero_le (show 0 ≤ i by simp [counts] at hc; omega)
    have hkn : k < n := by have := hE.len; simp [counts] at hc; omega
    have HC1 := hid (by have h := r09_counts w A n cap l k hE; rwa [hc] at h : Calls Tryz.prog 93 #[.slice A n cap, .int .i64 k] w fun e w' => e = .returned (.bool true) ∧ w' = w)
    obtain ⟨b, o, rfl, h0, h1, h2, h3⟩ := hE.opn (by omega)
    clear hc
    go_enter Tryz.func51, Tryz.ntmps51
    go_wp2_with (go_at_call 93; refine HC1.out.mono ?_; rintro e w1 ⟨rfl, rfl⟩)
    refine wp_region_ext_lit (by kernel_rfl) (by kernel_rfl) ?_
    repeat (go_big_quiet_step ((go_at_call 92; exact Calls.quietX_same (r08_last _ _ _ _ _ _ _ _ (hE.ext (hS _))))))
    refine wpQuiet_nil ?_
    rintro V1 ⟨x1, hx1⟩
    have hV1 := x1.h
    rw [← hx1] at hV1
    clear hx1 x1
    go_wp2
    go_ret
    exact ⟨ret_bool (by simp [outer, HC.out]), hV1⟩

set_option maxRecDepth 100000 in
set_option maxHeartbeats 2000000 in
theorem r09_at0 (w : World) (A : Option Addr) (n cap : Nat) (l : List Ev) (i : Int) (hE : Evs w A n l) (hc : counts l i = false) :
    Calls Tryz.prog 73 #[.slice A n cap, .int .i64 i] w fun e w' => e = .returned (.agg #[.int .i64 (badAt l i).kind, .int .i64 (badAt l i).i, .int .i64 (badAt l i).j]) ∧ Ext w w' := by
  have hX := Ext.refl w
  have HC1 := hid (fun (W : World) (x : Ext w W) => (by have h := r09_counts W A n cap l i (hE.ext x); rwa [hc] at h : Calls Tryz.prog 93 #[.slice A n cap, .int .i64 i] W fun e w' => e = .returned (.bool false) ∧ w' = W))
  have hfin : Hid (badAt l i = Bad.z) := hid (by unfold badAt; rw [if_pos hc])
  clear hc
  go_enter Tryz.func73, Tryz.ntmps73
  go_wp2_with (go_at_call 93; refine (HC1.out _ (by repeat (first | assumption | apply Ext.alloc | apply Ext.drewN | apply Ext.drew | (refine Ext.setCell (by simp <;> omega) ?_ _)))).mono ?_; rintro e w1 ⟨rfl, rfl⟩)
  refine bodyPost_ret (v := .agg #[.int .i64 (0), .int .i64 (0), .int .i64 (0)]) (by simp [results, Tryz.results73, go_sem]) rfl ⟨?_, (by repeat (first | assumption | apply Ext.alloc | apply Ext.drewN | apply Ext.drew | (refine Ext.setCell (by simp <;> omega) ?_ _)))⟩; rw [hfin.out]; rfl

set_option maxRecDepth 100000 in
set_option maxHeartbeats 2000000 in
theorem r09_at1 (w : World) (A : Option Addr) (n cap k kk : Nat) (l : List Ev) (hE : Evs w A n l) (hk : k < n) (hc : counts l k = true) (hL : lastOf l (nth l k).txn (nth l k).key k = (kk : Int)) (hkk : kk < n) :
    Calls Tryz.prog 73 #[.slice A n cap, .int .i64 k] w fun e w' => e = .returned (.agg #[.int .i64 (badAt l k).kind, .int .i64 (badAt l k).i, .int .i64 (badAt l k).j]) ∧ Ext w w' := by
  have hX := Ext.refl w
  have hbig := hE.big
  have HC1 := hid (fun (W : World) (x : Ext w W) => (by have h := r09_counts W A n cap l k (hE.ext x); rwa [hc] at h : Calls Tryz.prog 93 #[.slice A n cap, .int .i64 k] W fun e w' => e = .returned (.bool true) ∧ w' = W))
  have HL1 := hid (fun (W : World) (x : Ext w W) => (by have h := r08_last W A n cap l (nth l k).txn k (nth l k).key (hE.ext x); rwa [hL] at h : Calls Tryz.prog 92 #[.slice A n cap, .int .i64 (nth l k).txn, .string (nth l k).key, .int .i64 k] W fun e w' => e = .returned (.int .i64 (kk : Int)) ∧ w' = W))
  have hb : badAt l k = ownBad l k kk := by unfold badAt; rw [if_neg (by rw [hc]; simp)]; simp only [Int.toNat_natCast]; rw [hL, if_pos (by omega)]
  obtain ⟨b, o, rfl, h0, h1, h2, h3⟩ := hE.opn (by omega)
  clear hc hL
  by_cases hv : (nth l k).val = (nth l kk).val
  · have hfin : Hid (badAt l k = Bad.z) := hid (by rw [hb]; simp [ownBad, hv])
    have hv' : ((nth l kk).val.toList == (nth l k).val.toList) = true := by rw [hv]; simp
    have HV := hid hv
    clear hb hv
    go_enter Tryz.func73, Tryz.ntmps73
    go_wp2_with (first | (go_at_call 93; refine (HC1.out _ (by repeat (first | assumption | apply Ext.alloc | apply Ext.drewN | apply Ext.drew | (refine Ext.setCell (by simp <;> omega) ?_ _)))).mono ?_; rintro e w1 ⟨rfl, rfl⟩) | (go_at_call 92; refine (HL1.out _ (by repeat (first | assumption | apply Ext.alloc | apply Ext.drewN | apply Ext.drew | (refine Ext.setCell (by simp <;> omega) ?_ _)))).mono ?_; rintro e w1 ⟨rfl, rfl⟩))
    go_quiet (fail)
    go_wp2
    refine bodyPost_ret (v := .agg #[.int .i64 (0), .int .i64 (0), .int .i64 (0)]) (by simp [results, Tryz.results73, go_sem]) rfl ⟨?_, (by repeat (first | assumption | apply Ext.alloc | apply Ext.drewN | apply Ext.drew | (refine Ext.setCell (by simp <;> omega) ?_ _)))⟩; rw [hfin.out]; rfl
  · have hfin : Hid (badAt l k = ⟨3, k, kk⟩) := hid (by rw [hb]; simp [ownBad, hv])
    have hv' : ((nth l kk).val.toList == (nth l k).val.toList) = false := by rw [toList_beq]; simp; exact fun h => hv h.symm
    have HV := hid hv
    clear hb hv
    go_enter Tryz.func73, Tryz.ntmps73
    go_wp2_with (first | (go_at_call 93; refine (HC1.out _ (by repeat (first | assumption | apply Ext.alloc | apply Ext.drewN | apply Ext.drew | (refine Ext.setCell (by simp <;> omega) ?_ _)))).mono ?_; rintro e w1 ⟨rfl, rfl⟩) | (go_at_call 92; refine (HL1.out _ (by repeat (first | assumption | apply Ext.alloc | apply Ext.drewN | apply Ext.drew | (refine Ext.setCell (by simp <;> omega) ?_ _)))).mono ?_; rintro e w1 ⟨rfl, rfl⟩))
    go_quiet (fail)
    go_wp2
    refine bodyPost_ret (v := .agg #[.int .i64 (3), .int .i64 (k), .int .i64 (kk)]) (by simp [results, Tryz.results73, go_sem]) rfl ⟨?_, (by repeat (first | assumption | apply Ext.alloc | apply Ext.drewN | apply Ext.drew | (refine Ext.setCell (by simp <;> omega) ?_ _)))⟩; rw [hfin.out]

set_option maxRecDepth 100000 in
set_option maxHeartbeats 2000000 in
theorem r09_at2 (w : World) (A : Option Addr) (n cap k : Nat) (L : Int) (l : List Ev) (hE : Evs w A n l) (hk : k < n) (hc : counts l k = true) (hL : lastOf l (nth l k).txn (nth l k).key k = L) (hL0 : L < 0) (hv : (nth l k).val = ByteArray.empty ∨ ((nth l k).val ≠ ByteArray.empty ∧ writer l (nth l k).key (nth l k).val < 0)) :
    Calls Tryz.prog 73 #[.slice A n cap, .int .i64 k] w fun e w' => e = .returned (.agg #[.int .i64 (badAt l k).kind, .int .i64 (badAt l k).i, .int .i64 (badAt l k).j]) ∧ Ext w w' := by
  have hX := Ext.refl w
  have hbig := hE.big
  have HC1 := hid (fun (W : World) (x : Ext w W) => (by have h := r09_counts W A n cap l k (hE.ext x); rwa [hc] at h : Calls Tryz.prog 93 #[.slice A n cap, .int .i64 k] W fun e w' => e = .returned (.bool true) ∧ w' = W))
  have HL1 := hid (fun (W : World) (x : Ext w W) => (by have h := r08_last W A n cap l (nth l k).txn k (nth l k).key (hE.ext x); rwa [hL] at h : Calls Tryz.prog 92 #[.slice A n cap, .int .i64 (nth l k).txn, .string (nth l k).key, .int .i64 k] W fun e w' => e = .returned (.int .i64 L) ∧ w' = W))
  have HW1 := hid (fun (W : World) (x : Ext w W) => r08_writer W A n cap l (nth l k).key (nth l k).val (hE.ext x))
  have hfin : Hid (badAt l k = Bad.z) := hid (by
    unfold badAt; rw [if_neg (by rw [hc]; simp)]; simp only [Int.toNat_natCast]; rw [hL, if_neg (by omega)]
    rcases hv with hv | ⟨hv, hw⟩
    · rw [if_pos hv]
    · rw [if_neg hv, if_pos hw])
  obtain ⟨b, o, rfl, h0, h1, h2, h3⟩ := hE.opn (by omega)
  clear hc hL
  rcases hv with hv | ⟨hv, hw⟩
  · have hv1 : (nth l k).val.toList = [] := (toList_nil_iff_emptyBytes _).2 hv
    have hv2 : (nth l k).val.toList.isEmpty = true := by rw [hv1]; rfl
    have HV := hid hv
    clear hv
    go_enter Tryz.func73, Tryz.ntmps73
    go_wp2_with (first | (go_at_call 93; refine (HC1.out _ (by repeat (first | assumption | apply Ext.alloc | apply Ext.drewN | apply Ext.drew | (refine Ext.setCell (by simp <;> omega) ?_ _)))).mono ?_; rintro e w1 ⟨rfl, rfl⟩) | (go_at_call 92; refine (HL1.out _ (by repeat (first | assumption | apply Ext.alloc | apply Ext.drewN | apply Ext.drew | (refine Ext.setCell (by simp <;> omega) ?_ _)))).mono ?_; rintro e w1 ⟨rfl, rfl⟩) | (go_at_call 58; refine (HW1.out _ (by repeat (first | assumption | apply Ext.alloc | apply Ext.drewN | apply Ext.drew | (refine Ext.setCell (by simp <;> omega) ?_ _)))).mono ?_; rintro e w1 ⟨rfl, rfl⟩))
    refine bodyPost_ret (v := .agg #[.int .i64 (0), .int .i64 (0), .int .i64 (0)]) (by simp [results, Tryz.results73, go_sem]) rfl ⟨?_, (by repeat (first | assumption | apply Ext.alloc | apply Ext.drewN | apply Ext.drew | (refine Ext.setCell (by simp <;> omega) ?_ _)))⟩; rw [hfin.out]; rfl
  · have hv1 : ¬ (nth l k).val.toList = [] := by rw [toList_nil_iff_emptyBytes]; exact hv
    have hv2 : (nth l k).val.toList.isEmpty = false := by simpa using hv1
    have HV := hid hv
    clear hv
    go_enter Tryz.func73, Tryz.ntmps73
    go_wp2_with (first | (go_at_call 93; refine (HC1.out _ (by repeat (first | assumption | apply Ext.alloc | apply Ext.drewN | apply Ext.drew | (refine Ext.setCell (by simp <;> omega) ?_ _)))).mono ?_; rintro e w1 ⟨rfl, rfl⟩) | (go_at_call 92; refine (HL1.out _ (by repeat (first | assumption | apply Ext.alloc | apply Ext.drewN | apply Ext.drew | (refine Ext.setCell (by simp <;> omega) ?_ _)))).mono ?_; rintro e w1 ⟨rfl, rfl⟩) | (go_at_call 58; refine (HW1.out _ (by repeat (first | assumption | apply Ext.alloc | apply Ext.drewN | apply Ext.drew | (refine Ext.setCell (by simp <;> omega) ?_ _)))).mono ?_; rintro e w1 ⟨rfl, rfl⟩))
    refine bodyPost_ret (v := .agg #[.int .i64 (0), .int .i64 (0), .int .i64 (0)]) (by simp [results, Tryz.results73, go_sem]) rfl ⟨?_, (by repeat (first | assumption | apply Ext.alloc | apply Ext.drewN | apply Ext.drew | (refine Ext.setCell (by simp <;> omega) ?_ _)))⟩; rw [hfin.out]; rfl

set_option maxRecDepth 100000 in
set_option maxHeartbeats 4000000 in
theorem r09_at3 (w : World) (A : Option Addr) (n cap k u : Nat) (L : Int) (l : List Ev) (hE : Evs w A n l) (hk : k < n) (hc : counts l k = true) (hL : lastOf l (nth l k).txn (nth l k).key k = L) (hL0 : L < 0) (hv : (nth l k).val ≠ ByteArray.empty) (hw : writer l (nth l k).key (nth l k).val = (u : Int)) (hu : u < n) :
    Calls Tryz.prog 73 #[.slice A n cap, .int .i64 k] w fun e w' => e = .returned (.agg #[.int .i64 (badAt l k).kind, .int .i64 (badAt l k).i, .int .i64 (badAt l k).j]) ∧ Ext w w' := by
  have hX := Ext.refl w
  have hbig := hE.big
  have hS : ∀ x : After w, Ext w x.v := fun x => x.h
  have HC1 := hid (fun (W : World) (x : Ext w W) => (by have h := r09_counts W A n cap l k (hE.ext x); rwa [hc] at h : Calls Tryz.prog 93 #[.slice A n cap, .int .i64 k] W fun e w' => e = .returned (.bool true) ∧ w' = W))
  have HL1 := hid (fun (W : World) (x : Ext w W) => (by have h := r08_last W A n cap l (nth l k).txn k (nth l k).key (hE.ext x); rwa [hL] at h : Calls Tryz.prog 92 #[.slice A n cap, .int .i64 (nth l k).txn, .string (nth l k).key, .int .i64 k] W fun e w' => e = .returned (.int .i64 L) ∧ w' = W))
  have HW1 := hid (fun (W : World) (x : Ext w W) => (by have h := r08_writer W A n cap l (nth l k).key (nth l k).val (hE.ext x); rwa [hw] at h : Calls Tryz.prog 58 #[.slice A n cap, .string (nth l k).key, .string (nth l k).val] W fun e w' => e = .returned (.int .i64 (u : Int)) ∧ w' = W))
  have hb : badAt l k = badW l k u := by
    unfold badAt; rw [if_neg (by rw [hc]; simp)]; simp only [Int.toNat_natCast]; rw [hL, if_neg (by omega), if_neg hv, hw, if_neg (by omega)]
  have hv1 : ¬ (nth l k).val.toList = [] := by rw [toList_nil_iff_emptyBytes]; exact hv
  have hv2 : (nth l k).val.toList.isEmpty = false := by simpa using hv1
  have HV := hid hv
  have hr : -1 ≤ endOf l (nth l u).txn ∧ endOf l (nth l u).txn < (n : Int) := by have := idx_lt (endsOf (nth l u).txn) l; rwa [hE.len] at this
  have HN := hid (fun (W : World) (x : Ext w W) => r08_endN W A n cap l (nth l u).txn (hE.ext x))
  clear hc hL hw hv
  by_cases ht : (nth l u).txn = (nth l k).txn
  · have hfin : Hid (badAt l k = ⟨4, k, u⟩) := hid (by rw [hb]; unfold badW; simp only [Int.toNat_natCast]; rw [if_pos ht])
    have ht1 : ((nth l u).txn == (nth l k).txn) = true := beq_iff_eq.2 ht
    have HT := hid ht
    obtain ⟨b, o, rfl, h0, h1, h2, h3⟩ := hE.opn (by omega)
    clear ht hb hr
    go_enter Tryz.func73, Tryz.ntmps73
    go_wp2_with (first | (go_at_call 93; refine (HC1.out _ (by repeat (first | assumption | apply Ext.alloc | apply Ext.drewN | apply Ext.drew | (refine Ext.setCell (by simp <;> omega) ?_ _)))).mono ?_; rintro e w1 ⟨rfl, rfl⟩) | (go_at_call 92; refine (HL1.out _ (by repeat (first | assumption | apply Ext.alloc | apply Ext.drewN | apply Ext.drew | (refine Ext.setCell (by simp <;> omega) ?_ _)))).mono ?_; rintro e w1 ⟨rfl, rfl⟩) | (go_at_call 58; refine (HW1.out _ (by repeat (first | assumption | apply Ext.alloc | apply Ext.drewN | apply Ext.drew | (refine Ext.setCell (by simp <;> omega) ?_ _)))).mono ?_; rintro e w1 ⟨rfl, rfl⟩))
    go_quiet (fail)
    go_wp2
    refine bodyPost_ret (v := .agg #[.int .i64 (4), .int .i64 (k), .int .i64 (u)]) (by simp [results, Tryz.results73, go_sem]) rfl ⟨?_, (by repeat (first | assumption | apply Ext.alloc | apply Ext.drewN | apply Ext.drew | (refine Ext.setCell (by simp <;> omega) ?_ _)))⟩; rw [hfin.out]
  · have ht1 : ((nth l u).txn == (nth l k).txn) = false := beq_eq_false_iff_ne.2 ht
    have HT := hid ht
    by_cases he : endOf l (nth l u).txn < 0
    · have hfin : Hid (badAt l k = ⟨1, k, u⟩) := hid (by rw [hb]; unfold badW; simp only [Int.toNat_natCast]; rw [if_neg ht, if_pos (by simp [comOf]; omega)])
      obtain ⟨b, o, rfl, h0, h1, h2, h3⟩ := hE.opn (by omega)
      clear ht hb hr
      go_enter Tryz.func73, Tryz.ntmps73
      go_wp2_with (first | (go_at_call 93; refine (HC1.out _ (by repeat (first | assumption | apply Ext.alloc | apply Ext.drewN | apply Ext.drew | (refine Ext.setCell (by simp <;> omega) ?_ _)))).mono ?_; rintro e w1 ⟨rfl, rfl⟩) | (go_at_call 92; refine (HL1.out _ (by repeat (first | assumption | apply Ext.alloc | apply Ext.drewN | apply Ext.drew | (refine Ext.setCell (by simp <;> omega) ?_ _)))).mono ?_; rintro e w1 ⟨rfl, rfl⟩) | (go_at_call 58; refine (HW1.out _ (by repeat (first | assumption | apply Ext.alloc | apply Ext.drewN | apply Ext.drew | (refine Ext.setCell (by simp <;> omega) ?_ _)))).mono ?_; rintro e w1 ⟨rfl, rfl⟩))
      go_quiet (fail)
      go_wp2_with (go_at_call 62; refine (HN.out _ (by repeat (first | assumption | apply Ext.alloc | apply Ext.drewN | apply Ext.drew | (refine Ext.setCell (by simp <;> omega) ?_ _)))).mono ?_; rintro e w1 ⟨rfl, rfl⟩)
      refine bodyPost_ret (v := .agg #[.int .i64 (1), .int .i64 (k), .int .i64 (u)]) (by simp [results, Tryz.results73, go_sem]) rfl ⟨?_, (by repeat (first | assumption | apply Ext.alloc | apply Ext.drewN | apply Ext.drew | (refine Ext.setCell (by simp <;> omega) ?_ _)))⟩; rw [hfin.out]
    · obtain ⟨t, htt⟩ := Int.eq_ofNat_of_zero_le (show 0 ≤ endOf l (nth l u).txn by omega)
      have htn : t < n := by omega
      have HN2 := hid (by have h := HN.out; rwa [htt] at h : ∀ W, Ext w W → Calls Tryz.prog 62 #[.slice A n cap, .int .i64 (nth l u).txn, .int .i64 (n : Int)] W fun e w' => e = .returned (.int .i64 (t : Int)) ∧ w' = W)
      have hcm : comOf l (nth l u).txn = ((nth l t).kind == 4) := by simp [comOf, htt]
      by_cases hk4 : (nth l t).kind = 4
      · have hk4a : ((nth l t).kind == 4) = true := beq_iff_eq.2 hk4
        have hk4b : ((nth l t).kind != 4) = false := by simp [hk4]
        have hfin : Hid (badAt l k = if lastOf l (nth l u).txn (nth l k).key t = u then Bad.z else ⟨2, k, lastOf l (nth l u).txn (nth l k).key t⟩) := hid (by
          rw [hb]; unfold badW; simp only [Int.toNat_natCast]; rw [if_neg ht, if_neg (by rw [hcm, hk4]; simp), htt])
        have HK4 := hid hk4
        have HM1 := hid (fun (W : World) (x : Ext w W) => r08_last W A n cap l (nth l u).txn t (nth l k).key (hE.ext x))
        obtain ⟨b, o, rfl, h0, h1, h2, h3⟩ := hE.opn (by omega)
        have hEq := fun (o1 o2 : Obj) (m : Nat) (x : After (((w.alloc o1).alloc o2).drewN m)) => Ext.trans (((hX.alloc o1).alloc o2).drewN m) x.h
        have hCl := fun (o1 : Obj) (m : Nat) (x : After (((w.alloc o1).alloc (.cells #[.int .i64 (nth l k).kind, .int .i64 (nth l k).txn, .string (nth l k).key, .string (nth l k).val] 50)).drewN m)) => x.h.cell (((Blk.new (w.alloc o1) 50 #[.int .i64 (nth l k).kind, .int .i64 (nth l k).txn, .string (nth l k).key, .string (nth l k).val]).drewN m).cells4.2.2.1)
        simp only [World.size_alloc] at hCl
        clear ht hb hr hk4 hcm htt he
        by_cases hlast : lastOf l (nth l u).txn (nth l k).key t = u
        · have hl1 : (lastOf l (nth l u).txn (nth l k).key t == u) = true := beq_iff_eq.2 hlast
          have hl2 : (lastOf l (nth l u).txn (nth l k).key t != u) = false := by simp [hlast]
          have HLa := hid hlast
          clear hlast
          go_enter Tryz.func73, Tryz.ntmps73
          go_wp2_with (first | (go_at_call 93; refine (HC1.out _ (by repeat (first | assumption | apply Ext.alloc | apply Ext.drewN | apply Ext.drew | (refine Ext.setCell (by simp <;> omega) ?_ _)))).mono ?_; rintro e w1 ⟨rfl, rfl⟩) | (go_at_call 92; refine (HL1.out _ (by repeat (first | assumption | apply Ext.alloc | apply Ext.drewN | apply Ext.drew | (refine Ext.setCell (by simp <;> omega) ?_ _)))).mono ?_; rintro e w1 ⟨rfl, rfl⟩) | (go_at_call 58; refine (HW1.out _ (by repeat (first | assumption | apply Ext.alloc | apply Ext.drewN | apply Ext.drew | (refine Ext.setCell (by simp <;> omega) ?_ _)))).mono ?_; rintro e w1 ⟨rfl, rfl⟩))
          go_quiet (fail)
          go_wp2_with (go_at_call 62; refine (HN2.out _ (by repeat (first | assumption | apply Ext.alloc | apply Ext.drewN | apply Ext.drew | (refine Ext.setCell (by simp <;> omega) ?_ _)))).mono ?_; rintro e w1 ⟨rfl, rfl⟩)
          refine wp_region_ext_lit (by kernel_rfl) (by kernel_rfl) ?_
          repeat (go_big_quiet_step ((go_at_call 92; exact Calls.quietX_same (HM1.out _ (hEq _ _ _ _)))))
          refine wpQuiet_nil ?_
          rintro V1 ⟨x1, hx1⟩
          have hV1 := x1.h
          rw [← hx1] at hV1
          clear hx1 x1
          obtain ⟨p0, p1, p2⟩ := (((Blk.new w 40 #[.int .i64 0, .int .i64 0, .int .i64 0]).alloc _).drewN _ |>.ext hV1).cells3
          have f0 := (((Blk.new w 40 #[.int .i64 0, .int .i64 0, .int .i64 0]).alloc _).drewN _ |>.ext hV1).frozen
          have hXV := hEq _ _ _ ⟨V1, hV1⟩
          go_wp2
          have b9 : Blk _ w.heap.size 40 #[.int .i64 (0), .int .i64 (0), .int .i64 (0)] := (((((Blk.new w 40 #[.int .i64 0, .int .i64 0, .int .i64 0]).alloc _).drewN _ |>.ext hV1).set 0 (.int .i64 (0))).set 1 (.int .i64 (0))).set 2 (.int .i64 (0))
          obtain ⟨q0, q1, q2⟩ := b9.cells3
          refine bodyPost_ret (v := .agg #[.int .i64 (0), .int .i64 (0), .int .i64 (0)]) (by simp [results, Tryz.results73, go_sem, q0, q1, q2]) rfl ⟨?_, (by repeat (first | assumption | apply Ext.alloc | apply Ext.drewN | apply Ext.drew | (refine Ext.setCell (by simp <;> omega) ?_ _)))⟩
          rw [hfin.out, if_pos HLa.out]; rfl
        · have hl1 : (lastOf l (nth l u).txn (nth l k).key t == u) = false := beq_eq_false_iff_ne.2 hlast
          have hl2 : (lastOf l (nth l u).txn (nth l k).key t != u) = true := by simp [hlast]
          have HLa := hid hlast
          clear hlast
          go_enter Tryz.func73, Tryz.ntmps73
          go_wp2_with (first | (go_at_call 93; refine (HC1.out _ (by repeat (first | assumption | apply Ext.alloc | apply Ext.drewN | apply Ext.drew | (refine Ext.setCell (by simp <;> omega) ?_ _)))).mono ?_; rintro e w1 ⟨rfl, rfl⟩) | (go_at_call 92; refine (HL1.out _ (by repeat (first | assumption | apply Ext.alloc | apply Ext.drewN | apply Ext.drew | (refine Ext.setCell (by simp <;> omega) ?_ _)))).mono ?_; rintro e w1 ⟨rfl, rfl⟩) | (go_at_call 58; refine (HW1.out _ (by repeat (first | assumption | apply Ext.alloc | apply Ext.drewN | apply Ext.drew | (refine Ext.setCell (by simp <;> omega) ?_ _)))).mono ?_; rintro e w1 ⟨rfl, rfl⟩))
          go_quiet (fail)
          go_wp2_with (go_at_call 62; refine (HN2.out _ (by repeat (first | assumption | apply Ext.alloc | apply Ext.drewN | apply Ext.drew | (refine Ext.setCell (by simp <;> omega) ?_ _)))).mono ?_; rintro e w1 ⟨rfl, rfl⟩)
          refine wp_region_ext_lit (by kernel_rfl) (by kernel_rfl) ?_
          repeat (go_big_quiet_step ((go_at_call 92; exact Calls.quietX_same (HM1.out _ (hEq _ _ _ _)))))
          refine wpQuiet_nil ?_
          rintro V1 ⟨x1, hx1⟩
          have hV1 := x1.h
          rw [← hx1] at hV1
          clear hx1 x1
          obtain ⟨p0, p1, p2⟩ := (((Blk.new w 40 #[.int .i64 0, .int .i64 0, .int .i64 0]).alloc _).drewN _ |>.ext hV1).cells3
          have f0 := (((Blk.new w 40 #[.int .i64 0, .int .i64 0, .int .i64 0]).alloc _).drewN _ |>.ext hV1).frozen
          have hXV := hEq _ _ _ ⟨V1, hV1⟩
          go_wp2
          have b9 : Blk _ w.heap.size 40 #[.int .i64 (2), .int .i64 (k), .int .i64 (lastOf l (nth l u).txn (nth l k).key t)] := (((((Blk.new w 40 #[.int .i64 0, .int .i64 0, .int .i64 0]).alloc _).drewN _ |>.ext hV1).set 0 (.int .i64 (2))).set 1 (.int .i64 (k))).set 2 (.int .i64 (lastOf l (nth l u).txn (nth l k).key t))
          obtain ⟨q0, q1, q2⟩ := b9.cells3
          refine bodyPost_ret (v := .agg #[.int .i64 (2), .int .i64 (k), .int .i64 (lastOf l (nth l u).txn (nth l k).key t)]) (by simp [results, Tryz.results73, go_sem, q0, q1, q2]) rfl ⟨?_, (by repeat (first | assumption | apply Ext.alloc | apply Ext.drewN | apply Ext.drew | (refine Ext.setCell (by simp <;> omega) ?_ _)))⟩
          rw [hfin.out, if_neg HLa.out]
      · have hk4a : ((nth l t).kind == 4) = false := beq_eq_false_iff_ne.2 hk4
        have hk4b : ((nth l t).kind != 4) = true := by simp [hk4]
        have hfin : Hid (badAt l k = ⟨1, k, u⟩) := hid (by rw [hb]; unfold badW; simp only [Int.toNat_natCast]; rw [if_neg ht, if_pos (by rw [hcm, hk4a])])
        have HK4 := hid hk4
        obtain ⟨b, o, rfl, h0, h1, h2, h3⟩ := hE.opn (by omega)
        clear ht hb hr hk4 hcm htt he
        go_enter Tryz.func73, Tryz.ntmps73
        go_wp2_with (first | (go_at_call 93; refine (HC1.out _ (by repeat (first | assumption | apply Ext.alloc | apply Ext.drewN | apply Ext.drew | (refine Ext.setCell (by simp <;> omega) ?_ _)))).mono ?_; rintro e w1 ⟨rfl, rfl⟩) | (go_at_call 92; refine (HL1.out _ (by repeat (first | assumption | apply Ext.alloc | apply Ext.drewN | apply Ext.drew | (refine Ext.setCell (by simp <;> omega) ?_ _)))).mono ?_; rintro e w1 ⟨rfl, rfl⟩) | (go_at_call 58; refine (HW1.out _ (by repeat (first | assumption | apply Ext.alloc | apply Ext.drewN | apply Ext.drew | (refine Ext.setCell (by simp <;> omega) ?_ _)))).mono ?_; rintro e w1 ⟨rfl, rfl⟩))
        go_quiet (fail)
        go_wp2_with (go_at_call 62; refine (HN2.out _ (by repeat (first | assumption | apply Ext.alloc | apply Ext.drewN | apply Ext.drew | (refine Ext.setCell (by simp <;> omega) ?_ _)))).mono ?_; rintro e w1 ⟨rfl, rfl⟩)
        refine bodyPost_ret (v := .agg #[.int .i64 (1), .int .i64 (k), .int .i64 (u)]) (by simp [results, Tryz.results73, go_sem]) rfl ⟨?_, (by repeat (first | assumption | apply Ext.alloc | apply Ext.drewN | apply Ext.drew | (refine Ext.setCell (by simp <;> omega) ?_ _)))⟩; rw [hfin.out]

end
end Go.Proofs.YtebjiimlcnmfpaaGreat

/-! Contracts of the reference's functions of chapter 9: at every place; all; are two rows the same? -/
namespace Go.Proofs.YtebjiimlcnmfpaaGreat
section
open Go Go.RowKit Go.Proofs
set_option linter.unusedSimpArgs false
set_option linter.unusedVariables false
attribute [local go_sem] Ext.alloc Ext.alloc2 Ext.alloc3 Ext.alloc4 Ext.drewN_alloc Ext.drewN_alloc2 Ext.drew_alloc Ext.drew Ext.drewN toList_beq

theorem r09_at (w : World) (A : Option Addr) (n cap : Nat) (l : List Ev) (i : Int) (hE : Evs w A n l) :
    Calls Tryz.prog 73 #[.slice A n cap, .int .i64 i] w fun e w' => e = .returned (.agg #[.int .i64 (badAt l i).kind, .int .i64 (badAt l i).i, .int .i64 (badAt l i).j]) ∧ Ext w w' := by
  cases hc : counts l i
  · exact r09_at0 w A n cap l i hE hc
  · have hc' := hc
    simp only [counts, Bool.and_eq_true, decide_eq_true_eq] at hc'
    obtain ⟨h0, h1, _⟩ := hc'
    obtain ⟨k, rfl⟩ := Int.eq_ofNat_of_zero_le h0
    have hk : k < n := by have := hE.len; omega
    have hr := lastIdx_range (wroteBy (nth l k).txn (nth l k).key) (l.take (k : Int).toNat) 0 (-1) (by omega)
    have hl2 : (l.take (k : Int).toNat).length ≤ k := by simp; omega
    by_cases hL : lastOf l (nth l k).txn (nth l k).key k < 0
    · by_cases hv : (nth l k).val = ByteArray.empty
      · exact r09_at2 w A n cap k _ l hE hk hc rfl hL (.inl hv)
      · by_cases hw : writer l (nth l k).key (nth l k).val < 0
        · exact r09_at2 w A n cap k _ l hE hk hc rfl hL (.inr ⟨hv, hw⟩)
        · obtain ⟨u, hu⟩ := Int.eq_ofNat_of_zero_le (show 0 ≤ writer l (nth l k).key (nth l k).val by omega)
          have := idx_lt (writes (nth l k).key (nth l k).val) l
          have e : writer l (nth l k).key (nth l k).val = idx (writes (nth l k).key (nth l k).val) l 0 := rfl
          exact r09_at3 w A n cap k u _ l hE hk hc rfl hL hv hu (by have := hE.len; omega)
    · obtain ⟨kk, hkk⟩ := Int.eq_ofNat_of_zero_le (show 0 ≤ lastOf l (nth l k).txn (nth l k).key k by omega)
      have e : lastOf l (nth l k).txn (nth l k).key k = lastIdx (wroteBy (nth l k).txn (nth l k).key) (l.take (k : Int).toNat) 0 (-1) := rfl
      exact r09_at1 w A n cap k kk l hE hk hc hkk (by omega)

end
end Go.Proofs.YtebjiimlcnmfpaaGreat
