/-
  The program's chapter 9.
-/
import Derived.Test.YtebjiimlcnmfpaaGreatProg
import Derived.Test.YtebjiimlcnmfpaaGreatA2
import Derived.Test.YtebjiimlcnmfpaaGreatA1
/-! Contracts of the program's functions of chapter 9. -/
set_option linter.unusedVariables false
set_option linter.unusedSimpArgs false
namespace Go.Proofs.YtebjiimlcnmfpaaGreat
section
open Go Go.RowKit Go.Proofs
set_option linter.unusedSimpArgs false
set_option linter.unusedVariables false
attribute [local go_sem] Ext.alloc Ext.alloc2 Ext.alloc3 Ext.alloc4 Ext.drewN_alloc Ext.drewN_alloc2 Ext.drew_alloc Ext.drew Ext.drewN toList_beq

set_option maxHeartbeats 1000000 in
theorem t_counts (w : World) (A : Option Addr) (n cap : Nat) (l : List Ev) (i : Int) (hE : Evs w A n l) :
    Calls Tryz.prog 124 #[.slice A n cap, .int .i64 i] w fun e w' => e = .returned (.bool (counts l i)) ∧ Ext w w' := by
  have hX := Ext.refl w
  have hbig := hE.big
  have hl := hid hE.len
  by_cases hi0 : i < 0
  · go_enter Tryz.func124, Tryz.ntmps124
    go_wp2
    go_ret
    exact ⟨ret_bool (by simp [counts, show ¬ 0 ≤ i by omega]), hX⟩
  · obtain ⟨k, rfl⟩ := Int.eq_ofNat_of_zero_le (show 0 ≤ i by omega)
    by_cases hkn : k < n
    · obtain ⟨b, o, rfl, h0, h1, h2, h3⟩ := hE.opn (by omega)
      obtain ⟨q1, q2, q3, q4⟩ := findL_of (l := l) (k := k) (by rw [hl.out]; exact hkn)
      by_cases hk : (nth l k).kind = 2
      · have hk' : ((nth l k).kind == 2) = true := beq_iff_eq.2 hk
        have hk'' : ((nth l k).kind != 2) = false := by simp [hk]
        have HK := hid hk
        have HQ := hid (⟨q3, q4⟩ : _ ∧ _)
        clear hk q3 q4 q2 hi0
        go_enter Tryz.func124, Tryz.ntmps124
        go_wp2_with (go_at_call 98; refine (h_find _ _ _ _ _ _ (hE.ext (by repeat (first | assumption | apply Ext.alloc | apply Ext.drewN | apply Ext.drew | (refine Ext.setCell (by simp <;> omega) ?_ _))))).mono ?_; rintro e w1 ⟨rfl, hx1⟩; have hX1 := hX.trans hx1)
        · go_ret
          refine ⟨ret_bool ?_, (by repeat (first | assumption | apply Ext.alloc | apply Ext.drewN | apply Ext.drew | (refine Ext.setCell (by simp <;> omega) ?_ _)))⟩
          have hc : comOf l (nth l k).txn = true := by rw [← HQ.out.1]; assumption
          obtain ⟨e1, e2, e3⟩ := comOf_end hc
          rw [HQ.out.2, if_neg (by omega)]
          simp [counts, hl.out, HK.out, hc, hkn]
        · go_ret
          refine ⟨ret_bool ?_, (by repeat (first | assumption | apply Ext.alloc | apply Ext.drewN | apply Ext.drew | (refine Ext.setCell (by simp <;> omega) ?_ _)))⟩
          have hc : ¬ comOf l (nth l k).txn = true := by rw [← HQ.out.1]; assumption
          simp [counts, HK.out, hc]
      · have hk' : ((nth l k).kind == 2) = false := beq_eq_false_iff_ne.2 hk
        have hk'' : ((nth l k).kind != 2) = true := by simp [hk]
        have HK := hid hk
        clear hk
        go_enter Tryz.func124, Tryz.ntmps124
        go_wp2
        go_ret
        exact ⟨ret_bool (by simp [counts, HK.out]), hX⟩
    · go_enter Tryz.func124, Tryz.ntmps124
      go_wp2
      go_ret
      exact ⟨ret_bool (by simp [counts, hl.out, hkn]), hX⟩

set_option maxHeartbeats 1000000 in
theorem t_own (w : World) (A : Option Addr) (n cap i k : Nat) (l : List Ev) (hE : Evs w A n l) (hi : i < n) (hk : k < n) :
    Calls Tryz.prog 147 #[.slice A n cap, .int .i64 i, .int .i64 k] w fun e w' => e = .returned (.agg #[.int .i64 (ownBad l i k).kind, .int .i64 (ownBad l i k).i, .int .i64 (ownBad l i k).j]) ∧ Ext w w' := by
  have hX := Ext.refl w
  have hbig := hE.big
  obtain ⟨b, o, rfl, h0, h1, h2, h3⟩ := hE.opn (by omega)
  by_cases hv : (nth l i).val = (nth l k).val
  · have hfin : Hid (ownBad l i k = Bad.z) := hid (by simp [ownBad, hv])
    have hv' : ((nth l i).val.toList == (nth l k).val.toList) = true := by rw [hv]; simp
    go_enter Tryz.func147, Tryz.ntmps147
    go_wp2
    go_quiet (fail)
    go_wp2
    refine bodyPost_ret (v := .agg #[.int .i64 0, .int .i64 0, .int .i64 0]) (by simp [results, Tryz.results147, go_sem]) rfl ⟨?_, (by repeat (first | assumption | apply Ext.alloc | apply Ext.drewN | apply Ext.drew | (refine Ext.setCell (by simp <;> omega) ?_ _)))⟩
    rw [hfin.out]; rfl
  · have hfin : Hid (ownBad l i k = ⟨3, i, k⟩) := hid (by simp [ownBad, hv])
    have hv' : ((nth l i).val.toList == (nth l k).val.toList) = false := by rw [toList_beq]; simp [hv]
    go_enter Tryz.func147, Tryz.ntmps147
    go_wp2
    go_quiet (fail)
    go_wp2
    refine bodyPost_ret (v := .agg #[.int .i64 3, .int .i64 i, .int .i64 k]) (by simp [results, Tryz.results147, go_sem]) rfl ⟨?_, (by repeat (first | assumption | apply Ext.alloc | apply Ext.drewN | apply Ext.drew | (refine Ext.setCell (by simp <;> omega) ?_ _)))⟩
    rw [hfin.out]

set_option maxHeartbeats 1000000 in
theorem t_outer (w : World) (A : Option Addr) (n cap : Nat) (l : List Ev) (i : Int) (hE : Evs w A n l) :
    Calls Tryz.prog 88 #[.slice A n cap, .int .i64 i] w fun e w' => e = .returned (.bool (outer l i)) ∧ Ext w w' := by
  have hX := Ext.refl w
  have hbig := hE.big
  have hS : ∀ x : After w, Ext w x.v := fun x => x.h
  cases hc : counts l i
  · have HC := hid hc
    have HC1 := hid (fun (W : World) (x : Ext w W) => (by have h := t_counts W A n cap l i (hE.ext x); rwa [hc] at h : Calls Tryz.prog 124 #[.slice A n cap, .int .i64 i] W fun e w' => e = .returned (.bool false) ∧ Ext W w'))
    clear hc
    go_enter Tryz.func88, Tryz.ntmps88
    go_wp2
    refine wp_region_ext_lit (by kernel_rfl) (by kernel_rfl) ?_
    repeat (go_big_quiet_step (((go_at_call 124; exact Calls.quietX (HC1.out _ (hS _))))))
    refine wpQuiet_nil ?_
    rintro V1 ⟨x1, hx1⟩
    have hV1 := x1.h
    rw [← hx1] at hV1
    clear hx1 x1
    go_wp2
    go_ret
    exact ⟨ret_bool (by simp [outer, HC.out]), hV1⟩
  · have HC := hid hc
    obtain ⟨k, rfl⟩ := Int.eq_ofNat_of_zero_le (show 0 ≤ i by simp [counts] at hc; omega)
    have hkn : k < n := by have := hE.len; simp [counts] at hc; omega
    obtain ⟨b, o, rfl, h0, h1, h2, h3⟩ := hE.opn (by omega)
    have HC1 := hid (fun (W : World) (x : Ext w W) => (by have h := t_counts W _ n cap l k (hE.ext x); rwa [hc] at h : Calls Tryz.prog 124 #[.slice (some ⟨b, o, none⟩) n cap, .int .i64 k] W fun e w' => e = .returned (.bool true) ∧ Ext W w'))
    clear hc
    go_enter Tryz.func88, Tryz.ntmps88
    go_wp2
    refine wp_region_ext_lit (by kernel_rfl) (by kernel_rfl) ?_
    repeat (go_big_quiet_step ((first | (go_at_call 124; exact Calls.quietX (HC1.out _ (hS _))) | (go_at_call 123; exact Calls.quietX (h_last _ _ _ _ _ _ _ _ (hE.ext (hS _)))))))
    refine wpQuiet_nil ?_
    rintro V1 ⟨x1, hx1⟩
    have hV1 := x1.h
    rw [← hx1] at hV1
    clear hx1 x1
    go_wp2
    go_ret
    exact ⟨ret_bool (by simp [outer, HC.out]), hV1⟩

/-- The event at a place, boxed; nothing is wrong. -/
abbrev AtPost (l : List Ev) (w : World) (i : Int) : Ending → World → Prop := fun e w' => e = .returned (.agg #[.int .i64 (badAt l i).kind, .int .i64 (badAt l i).i, .int .i64 (badAt l i).j]) ∧ Ext w w'

set_option maxHeartbeats 2000000 in
theorem t_at0 (w : World) (A : Option Addr) (n cap : Nat) (l : List Ev) (i : Int) (hE : Evs w A n l) (hc : counts l i = false) :
    Calls Tryz.prog 108 #[.slice A n cap, .int .i64 i] w (AtPost l w i) := by
  have hX := Ext.refl w
  have hbig := hE.big
  have HC1 := hid (fun (W : World) (x : Ext w W) => (by have h := t_counts W A n cap l i (hE.ext x); rwa [hc] at h : Calls Tryz.prog 124 #[.slice A n cap, .int .i64 i] W fun e w' => e = .returned (.bool false) ∧ Ext W w'))
  have hfin : Hid (badAt l i = Bad.z) := hid (by unfold badAt; rw [if_pos hc])
  clear hc
  go_enter Tryz.func108, Tryz.ntmps108
  go_wp2_with (go_at_call 124; refine (HC1.out _ (by repeat (first | assumption | apply Ext.alloc | apply Ext.drewN | apply Ext.drew | (refine Ext.setCell (by simp <;> omega) ?_ _)))).mono ?_; rintro e w1 ⟨rfl, hx1⟩; have hX1 := Ext.trans (a := w) (by repeat (first | assumption | apply Ext.alloc | apply Ext.drewN | apply Ext.drew | (refine Ext.setCell (by simp <;> omega) ?_ _))) hx1; have b1 := (Blk.new w 40 #[.int .i64 0, .int .i64 0, .int .i64 0]).ext hx1; obtain ⟨p0, p1, p2⟩ := b1.cells3; have f0 := b1.frozen)
  have b5 : Blk _ w.heap.size 40 #[.int .i64 0, .int .i64 0, .int .i64 0] := ((b1.set 0 (.int .i64 0)).set 1 (.int .i64 0)).set 2 (.int .i64 0)
  obtain ⟨q0, q1, q2⟩ := b5.cells3
  refine bodyPost_ret (v := .agg #[.int .i64 0, .int .i64 0, .int .i64 0]) (by simp [results, Tryz.results108, go_sem, q0, q1, q2]) rfl ⟨?_, (by repeat (first | assumption | apply Ext.alloc | apply Ext.drewN | apply Ext.drew | (refine Ext.setCell (by simp <;> omega) ?_ _)))⟩
  rw [hfin.out]; rfl

set_option maxHeartbeats 2000000 in
theorem t_at1 (w : World) (A : Option Addr) (n cap k kk : Nat) (l : List Ev) (hE : Evs w A n l) (hk : k < n) (hc : counts l k = true) (hL : lastOf l (nth l k).txn (nth l k).key k = (kk : Int)) (hkk : kk < n) :
    Calls Tryz.prog 108 #[.slice A n cap, .int .i64 k] w (AtPost l w k) := by
  have hX := Ext.refl w
  have hbig := hE.big
  have HC1 := hid (fun (W : World) (x : Ext w W) => (by have h := t_counts W A n cap l k (hE.ext x); rwa [hc] at h : Calls Tryz.prog 124 #[.slice A n cap, .int .i64 k] W fun e w' => e = .returned (.bool true) ∧ Ext W w'))
  have HL1 := hid (fun (W : World) (x : Ext w W) => (by have h := h_last W A n cap l (nth l k).txn k (nth l k).key (hE.ext x); rwa [hL] at h : Calls Tryz.prog 123 #[.slice A n cap, .int .i64 (nth l k).txn, .string (nth l k).key, .int .i64 k] W fun e w' => e = .returned (.int .i64 (kk : Int)) ∧ Ext W w'))
  have HO1 := hid (fun (W : World) (x : Ext w W) => t_own W A n cap k kk l (hE.ext x) hk hkk)
  have hfin : Hid (badAt l k = ownBad l k kk) := hid (by unfold badAt; rw [if_neg (by rw [hc]; simp)]; simp only [Int.toNat_natCast]; rw [hL, if_pos (by omega)])
  obtain ⟨b, o, rfl, h0, h1, h2, h3⟩ := hE.opn (by omega)
  clear hc hL
  go_enter Tryz.func108, Tryz.ntmps108
  go_wp2_with (first
    | (go_at_call 124; refine (HC1.out _ (by repeat (first | assumption | apply Ext.alloc | apply Ext.drewN | apply Ext.drew | (refine Ext.setCell (by simp <;> omega) ?_ _)))).mono ?_; rintro e w1 ⟨rfl, hx1⟩; have hX1 := Ext.trans (a := w) (by repeat (first | assumption | apply Ext.alloc | apply Ext.drewN | apply Ext.drew | (refine Ext.setCell (by simp <;> omega) ?_ _))) hx1; have b1 := hid ((Blk.new w 40 #[.int .i64 0, .int .i64 0, .int .i64 0]).ext hx1); have b2 := hid (Blk.new w1 50 #[.int .i64 (nth l k).kind, .int .i64 (nth l k).txn, .string (nth l k).key, .string (nth l k).val]))
    | (go_at_call 123; refine (HL1.out _ (by repeat (first | assumption | apply Ext.alloc | apply Ext.drewN | apply Ext.drew | (refine Ext.setCell (by simp <;> omega) ?_ _)))).mono ?_; rintro e w2 ⟨rfl, hx2⟩; have hX2 := Ext.trans (a := w) (by repeat (first | assumption | apply Ext.alloc | apply Ext.drewN | apply Ext.drew | (refine Ext.setCell (by simp <;> omega) ?_ _))) hx2; have b3 := hid ((b1.out.alloc (.cells #[.int .i64 (nth l k).kind, .int .i64 (nth l k).txn, .string (nth l k).key, .string (nth l k).val] 50)).ext hx2); have b4 := hid (b2.out.ext hx2); obtain ⟨p0, p1, p2⟩ := b3.out.cells3; have f0 := b3.out.frozen; obtain ⟨x0, x1, x2, x3⟩ := b4.out.cells4)
    | (go_at_call 147; refine (HO1.out _ (by repeat (first | assumption | apply Ext.alloc | apply Ext.drewN | apply Ext.drew | (refine Ext.setCell (by simp <;> omega) ?_ _)))).mono ?_; rintro e w3 ⟨rfl, hx3⟩; have hX3 := Ext.trans (a := w) (by repeat (first | assumption | apply Ext.alloc | apply Ext.drewN | apply Ext.drew | (refine Ext.setCell (by simp <;> omega) ?_ _))) hx3; have b5 := b3.out.ext hx3; clear p0 p1 p2 f0; obtain ⟨p0, p1, p2⟩ := b5.cells3; have f0 := b5.frozen))
  have b9 : Blk _ w.heap.size 40 #[.int .i64 ((ownBad l k kk).kind), .int .i64 ((ownBad l k kk).i), .int .i64 ((ownBad l k kk).j)] := ((b5.set 0 (.int .i64 ((ownBad l k kk).kind))).set 1 (.int .i64 ((ownBad l k kk).i))).set 2 (.int .i64 ((ownBad l k kk).j))
  obtain ⟨q0, q1, q2⟩ := b9.cells3
  refine bodyPost_ret (v := .agg #[.int .i64 ((ownBad l k kk).kind), .int .i64 ((ownBad l k kk).i), .int .i64 ((ownBad l k kk).j)]) (by simp [results, Tryz.results108, go_sem, q0, q1, q2]) rfl ⟨?_, (by repeat (first | assumption | apply Ext.alloc | apply Ext.drewN | apply Ext.drew | (refine Ext.setCell (by simp <;> omega) ?_ _)))⟩
  rw [hfin.out]

set_option maxHeartbeats 2000000 in
theorem t_at2 (w : World) (A : Option Addr) (n cap k : Nat) (L : Int) (l : List Ev) (hE : Evs w A n l) (hk : k < n) (hc : counts l k = true) (hL : lastOf l (nth l k).txn (nth l k).key k = L) (hL0 : L < 0) (hv : (nth l k).val = ByteArray.empty ∨ ((nth l k).val ≠ ByteArray.empty ∧ writer l (nth l k).key (nth l k).val < 0)) :
    Calls Tryz.prog 108 #[.slice A n cap, .int .i64 k] w (AtPost l w k) := by
  have hX := Ext.refl w
  have hbig := hE.big
  have HC1 := hid (fun (W : World) (x : Ext w W) => (by have h := t_counts W A n cap l k (hE.ext x); rwa [hc] at h : Calls Tryz.prog 124 #[.slice A n cap, .int .i64 k] W fun e w' => e = .returned (.bool true) ∧ Ext W w'))
  have HL1 := hid (fun (W : World) (x : Ext w W) => (by have h := h_last W A n cap l (nth l k).txn k (nth l k).key (hE.ext x); rwa [hL] at h : Calls Tryz.prog 123 #[.slice A n cap, .int .i64 (nth l k).txn, .string (nth l k).key, .int .i64 k] W fun e w' => e = .returned (.int .i64 L) ∧ Ext W w'))
  have HW1 := hid (fun (W : World) (x : Ext w W) => h_writer W A n cap l (nth l k).key (nth l k).val (hE.ext x))
  have hfin : Hid (badAt l k = Bad.z) := hid (by
    unfold badAt; rw [if_neg (by rw [hc]; simp)]; simp only [Int.toNat_natCast]; rw [hL, if_neg (by omega)]
    rcases hv with hv | ⟨hv, hw⟩
    · rw [if_pos hv]
    · rw [if_neg hv, if_pos hw])
  obtain ⟨b, o, rfl, h0, h1, h2, h3⟩ := hE.opn (by omega)
  clear hc hL
  rcases hv with hv | ⟨hv, hw⟩
  · have hv1 : (nth l k).val.toList = [] := (toList_nil_iff_emptyBytes _).2 hv
    have hv2 : (nth l k).val.toList.isEmpty = true := by rw [hv1]; rfl
    have HV := hid hv
    clear hv
    go_enter Tryz.func108, Tryz.ntmps108
    go_wp2_with (first
      | (go_at_call 124; refine (HC1.out _ (by repeat (first | assumption | apply Ext.alloc | apply Ext.drewN | apply Ext.drew | (refine Ext.setCell (by simp <;> omega) ?_ _)))).mono ?_; rintro e w1 ⟨rfl, hx1⟩; have hX1 := Ext.trans (a := w) (by repeat (first | assumption | apply Ext.alloc | apply Ext.drewN | apply Ext.drew | (refine Ext.setCell (by simp <;> omega) ?_ _))) hx1; have b1 := hid ((Blk.new w 40 #[.int .i64 0, .int .i64 0, .int .i64 0]).ext hx1); have b2 := hid (Blk.new w1 50 #[.int .i64 (nth l k).kind, .int .i64 (nth l k).txn, .string (nth l k).key, .string (nth l k).val]))
      | (go_at_call 123; refine (HL1.out _ (by repeat (first | assumption | apply Ext.alloc | apply Ext.drewN | apply Ext.drew | (refine Ext.setCell (by simp <;> omega) ?_ _)))).mono ?_; rintro e w2 ⟨rfl, hx2⟩; have hX2 := Ext.trans (a := w) (by repeat (first | assumption | apply Ext.alloc | apply Ext.drewN | apply Ext.drew | (refine Ext.setCell (by simp <;> omega) ?_ _))) hx2; have b3 := hid ((b1.out.alloc (.cells #[.int .i64 (nth l k).kind, .int .i64 (nth l k).txn, .string (nth l k).key, .string (nth l k).val] 50)).ext hx2); have b4 := hid (b2.out.ext hx2); obtain ⟨p0, p1, p2⟩ := b3.out.cells3; have f0 := b3.out.frozen; obtain ⟨x0, x1, x2, x3⟩ := b4.out.cells4)
      | (go_at_call 99; refine (HW1.out _ (by repeat (first | assumption | apply Ext.alloc | apply Ext.drewN | apply Ext.drew | (refine Ext.setCell (by simp <;> omega) ?_ _)))).mono ?_; rintro e w3 ⟨rfl, hx3⟩; have hX3 := Ext.trans (a := w) (by repeat (first | assumption | apply Ext.alloc | apply Ext.drewN | apply Ext.drew | (refine Ext.setCell (by simp <;> omega) ?_ _))) hx3; clear p0 p1 p2 f0 x0 x1 x2 x3; have b5 := hid (b3.out.ext hx3); have b6 := hid (b4.out.ext hx3); obtain ⟨p0, p1, p2⟩ := b5.out.cells3; have f0 := b5.out.frozen; obtain ⟨x0, x1, x2, x3⟩ := b6.out.cells4))
    have b9 : Blk _ w.heap.size 40 #[.int .i64 (0), .int .i64 (0), .int .i64 (0)] := ((b5.out.set 0 (.int .i64 (0))).set 1 (.int .i64 (0))).set 2 (.int .i64 (0))
    obtain ⟨q0, q1, q2⟩ := b9.cells3
    refine bodyPost_ret (v := .agg #[.int .i64 (0), .int .i64 (0), .int .i64 (0)]) (by simp [results, Tryz.results108, go_sem, q0, q1, q2]) rfl ⟨?_, (by repeat (first | assumption | apply Ext.alloc | apply Ext.drewN | apply Ext.drew | (refine Ext.setCell (by simp <;> omega) ?_ _)))⟩
    rw [hfin.out]; rfl
  · have hv1 : ¬ (nth l k).val.toList = [] := by rw [toList_nil_iff_emptyBytes]; exact hv
    have hv2 : (nth l k).val.toList.isEmpty = false := by simpa using hv1
    have HV := hid hv
    clear hv
    go_enter Tryz.func108, Tryz.ntmps108
    go_wp2_with (first
      | (go_at_call 124; refine (HC1.out _ (by repeat (first | assumption | apply Ext.alloc | apply Ext.drewN | apply Ext.drew | (refine Ext.setCell (by simp <;> omega) ?_ _)))).mono ?_; rintro e w1 ⟨rfl, hx1⟩; have hX1 := Ext.trans (a := w) (by repeat (first | assumption | apply Ext.alloc | apply Ext.drewN | apply Ext.drew | (refine Ext.setCell (by simp <;> omega) ?_ _))) hx1; have b1 := hid ((Blk.new w 40 #[.int .i64 0, .int .i64 0, .int .i64 0]).ext hx1); have b2 := hid (Blk.new w1 50 #[.int .i64 (nth l k).kind, .int .i64 (nth l k).txn, .string (nth l k).key, .string (nth l k).val]))
      | (go_at_call 123; refine (HL1.out _ (by repeat (first | assumption | apply Ext.alloc | apply Ext.drewN | apply Ext.drew | (refine Ext.setCell (by simp <;> omega) ?_ _)))).mono ?_; rintro e w2 ⟨rfl, hx2⟩; have hX2 := Ext.trans (a := w) (by repeat (first | assumption | apply Ext.alloc | apply Ext.drewN | apply Ext.drew | (refine Ext.setCell (by simp <;> omega) ?_ _))) hx2; have b3 := hid ((b1.out.alloc (.cells #[.int .i64 (nth l k).kind, .int .i64 (nth l k).txn, .string (nth l k).key, .string (nth l k).val] 50)).ext hx2); have b4 := hid (b2.out.ext hx2); obtain ⟨p0, p1, p2⟩ := b3.out.cells3; have f0 := b3.out.frozen; obtain ⟨x0, x1, x2, x3⟩ := b4.out.cells4)
      | (go_at_call 99; refine (HW1.out _ (by repeat (first | assumption | apply Ext.alloc | apply Ext.drewN | apply Ext.drew | (refine Ext.setCell (by simp <;> omega) ?_ _)))).mono ?_; rintro e w3 ⟨rfl, hx3⟩; have hX3 := Ext.trans (a := w) (by repeat (first | assumption | apply Ext.alloc | apply Ext.drewN | apply Ext.drew | (refine Ext.setCell (by simp <;> omega) ?_ _))) hx3; clear p0 p1 p2 f0 x0 x1 x2 x3; have b5 := hid (b3.out.ext hx3); have b6 := hid (b4.out.ext hx3); obtain ⟨p0, p1, p2⟩ := b5.out.cells3; have f0 := b5.out.frozen; obtain ⟨x0, x1, x2, x3⟩ := b6.out.cells4))
    have b9 : Blk _ w.heap.size 40 #[.int .i64 (0), .int .i64 (0), .int .i64 (0)] := ((b5.out.set 0 (.int .i64 (0))).set 1 (.int .i64 (0))).set 2 (.int .i64 (0))
    obtain ⟨q0, q1, q2⟩ := b9.cells3
    refine bodyPost_ret (v := .agg #[.int .i64 (0), .int .i64 (0), .int .i64 (0)]) (by simp [results, Tryz.results108, go_sem, q0, q1, q2]) rfl ⟨?_, (by repeat (first | assumption | apply Ext.alloc | apply Ext.drewN | apply Ext.drew | (refine Ext.setCell (by simp <;> omega) ?_ _)))⟩
    rw [hfin.out]; rfl

set_option maxHeartbeats 2000000 in
theorem t_at3 (w : World) (A : Option Addr) (n cap k u : Nat) (L : Int) (l : List Ev) (hE : Evs w A n l) (hk : k < n) (hc : counts l k = true) (hL : lastOf l (nth l k).txn (nth l k).key k = L) (hL0 : L < 0) (hv : (nth l k).val ≠ ByteArray.empty) (hw : writer l (nth l k).key (nth l k).val = (u : Int)) (hu : u < n) :
    Calls Tryz.prog 108 #[.slice A n cap, .int .i64 k] w (AtPost l w k) := by
  have hX := Ext.refl w
  have hbig := hE.big
  have hS : ∀ {V : World}, Ext w V → ∀ x : After V, Ext w x.v := fun h x => h.trans x.h
  have HC1 := hid (fun (W : World) (x : Ext w W) => (by have h := t_counts W A n cap l k (hE.ext x); rwa [hc] at h : Calls Tryz.prog 124 #[.slice A n cap, .int .i64 k] W fun e w' => e = .returned (.bool true) ∧ Ext W w'))
  have HL1 := hid (fun (W : World) (x : Ext w W) => (by have h := h_last W A n cap l (nth l k).txn k (nth l k).key (hE.ext x); rwa [hL] at h : Calls Tryz.prog 123 #[.slice A n cap, .int .i64 (nth l k).txn, .string (nth l k).key, .int .i64 k] W fun e w' => e = .returned (.int .i64 L) ∧ Ext W w'))
  have HW1 := hid (fun (W : World) (x : Ext w W) => (by have h := h_writer W A n cap l (nth l k).key (nth l k).val (hE.ext x); rwa [hw] at h : Calls Tryz.prog 99 #[.slice A n cap, .string (nth l k).key, .string (nth l k).val] W fun e w' => e = .returned (.int .i64 (u : Int)) ∧ Ext W w'))
  obtain ⟨g1, g2, g3, g4⟩ := findL_of (l := l) (k := u) (by rw [hE.len]; exact hu)
  have hb : badAt l k = badW l k u := by
    unfold badAt; rw [if_neg (by rw [hc]; simp)]; simp only [Int.toNat_natCast]; rw [hL, if_neg (by omega), if_neg hv, hw, if_neg (by omega)]
  have hv1 : ¬ (nth l k).val.toList = [] := by rw [toList_nil_iff_emptyBytes]; exact hv
  have hv2 : (nth l k).val.toList.isEmpty = false := by simpa using hv1
  have HV := hid hv
  obtain ⟨b, o, rfl, h0, h1, h2, h3⟩ := hE.opn (by omega)
  clear hc hL hw hv
  by_cases ht : (nth l u).txn = (nth l k).txn
  · have hfin : Hid (badAt l k = ⟨4, k, u⟩) := hid (by rw [hb]; unfold badW; simp only [Int.toNat_natCast]; rw [if_pos ht])
    have ht1 : ((nth l u).txn == (nth l k).txn) = true := beq_iff_eq.2 ht
    have HT := hid ht
    clear ht g1 g2 g3 g4 hb
    go_enter Tryz.func108, Tryz.ntmps108
    go_wp2_with (first
      | (go_at_call 124; refine (HC1.out _ (by repeat (first | assumption | apply Ext.alloc | apply Ext.drewN | apply Ext.drew | (refine Ext.setCell (by simp <;> omega) ?_ _)))).mono ?_; rintro e w1 ⟨rfl, hx1⟩; have hX1 := Ext.trans (a := w) (by repeat (first | assumption | apply Ext.alloc | apply Ext.drewN | apply Ext.drew | (refine Ext.setCell (by simp <;> omega) ?_ _))) hx1; have b1 := hid ((Blk.new w 40 #[.int .i64 0, .int .i64 0, .int .i64 0]).ext hx1); have b2 := hid (Blk.new w1 50 #[.int .i64 (nth l k).kind, .int .i64 (nth l k).txn, .string (nth l k).key, .string (nth l k).val]))
      | (go_at_call 123; refine (HL1.out _ (by repeat (first | assumption | apply Ext.alloc | apply Ext.drewN | apply Ext.drew | (refine Ext.setCell (by simp <;> omega) ?_ _)))).mono ?_; rintro e w2 ⟨rfl, hx2⟩; have hX2 := Ext.trans (a := w) (by repeat (first | assumption | apply Ext.alloc | apply Ext.drewN | apply Ext.drew | (refine Ext.setCell (by simp <;> omega) ?_ _))) hx2; have b3 := hid ((b1.out.alloc (.cells #[.int .i64 (nth l k).kind, .int .i64 (nth l k).txn, .string (nth l k).key, .string (nth l k).val] 50)).ext hx2); have b4 := hid (b2.out.ext hx2); obtain ⟨p0, p1, p2⟩ := b3.out.cells3; have f0 := b3.out.frozen; obtain ⟨x0, x1, x2, x3⟩ := b4.out.cells4)
      | (go_at_call 99; refine (HW1.out _ (by repeat (first | assumption | apply Ext.alloc | apply Ext.drewN | apply Ext.drew | (refine Ext.setCell (by simp <;> omega) ?_ _)))).mono ?_; rintro e w3 ⟨rfl, hx3⟩; have hX3 := Ext.trans (a := w) (by repeat (first | assumption | apply Ext.alloc | apply Ext.drewN | apply Ext.drew | (refine Ext.setCell (by simp <;> omega) ?_ _))) hx3; clear p0 p1 p2 f0 x0 x1 x2 x3; have b5 := hid (b3.out.ext hx3); have b6 := hid (b4.out.ext hx3); obtain ⟨p0, p1, p2⟩ := b5.out.cells3; have f0 := b5.out.frozen; obtain ⟨x0, x1, x2, x3⟩ := b6.out.cells4))
    have hS1 := fun (x : After w3) => hS hX3 x
    have z1 := fun (x : After w3) => x.h.cell x1
    refine wp_region_ext_lit (by kernel_rfl) (by kernel_rfl) ?_
    repeat (go_big_quiet_step (fail))
    refine wpQuiet_nil ?_
    rintro V1 ⟨x1, hx1⟩
    have hV1 := x1.h
    rw [← hx1] at hV1
    clear hx1 x1
    have hXV := hX3.trans hV1
    clear p0 p1 p2 f0
    obtain ⟨p0, p1, p2⟩ := (b5.out.ext hV1).cells3
    have f0 := (b5.out.ext hV1).frozen
    go_wp2
    have b9 : Blk _ w.heap.size 40 #[.int .i64 (4), .int .i64 (k), .int .i64 (u)] := (((b5.out.ext hV1).set 0 (.int .i64 (4))).set 1 (.int .i64 (k))).set 2 (.int .i64 (u))
    obtain ⟨q0, q1, q2⟩ := b9.cells3
    refine bodyPost_ret (v := .agg #[.int .i64 (4), .int .i64 (k), .int .i64 (u)]) (by simp [results, Tryz.results108, go_sem, q0, q1, q2]) rfl ⟨?_, (by repeat (first | assumption | apply Ext.alloc | apply Ext.drewN | apply Ext.drew | (refine Ext.setCell (by simp <;> omega) ?_ _)))⟩
    rw [hfin.out]
  · have ht1 : ((nth l u).txn == (nth l k).txn) = false := beq_eq_false_iff_ne.2 ht
    by_cases hcm : comOf l (nth l u).txn = false
    · have hfin : Hid (badAt l k = ⟨1, k, u⟩) := hid (by rw [hb]; unfold badW; simp only [Int.toNat_natCast]; rw [if_neg ht, if_pos hcm])
      have HF1 := hid (fun (W : World) (x : Ext w W) => (by have h := h_find W _ n cap l (nth l u).txn (hE.ext x); rwa [g1, g2, g3, hcm] at h : Calls Tryz.prog 98 #[.slice (some ⟨b, o, none⟩) n cap, .int .i64 (nth l u).txn] W fun e w' => e = .returned (.tuple #[.agg #[.int .i64 (nth l u).txn, .int .i64 (findL l (nth l u).txn).1.from_, .int .i64 (findL l (nth l u).txn).1.till, .bool false], .bool true]) ∧ Ext W w'))
      have HT := hid ht
      clear ht hb g1 g2 g3 g4 hcm
      go_enter Tryz.func108, Tryz.ntmps108
      go_wp2_with (first
        | (go_at_call 124; refine (HC1.out _ (by repeat (first | assumption | apply Ext.alloc | apply Ext.drewN | apply Ext.drew | (refine Ext.setCell (by simp <;> omega) ?_ _)))).mono ?_; rintro e w1 ⟨rfl, hx1⟩; have hX1 := Ext.trans (a := w) (by repeat (first | assumption | apply Ext.alloc | apply Ext.drewN | apply Ext.drew | (refine Ext.setCell (by simp <;> omega) ?_ _))) hx1; have b1 := hid ((Blk.new w 40 #[.int .i64 0, .int .i64 0, .int .i64 0]).ext hx1); have b2 := hid (Blk.new w1 50 #[.int .i64 (nth l k).kind, .int .i64 (nth l k).txn, .string (nth l k).key, .string (nth l k).val]))
        | (go_at_call 123; refine (HL1.out _ (by repeat (first | assumption | apply Ext.alloc | apply Ext.drewN | apply Ext.drew | (refine Ext.setCell (by simp <;> omega) ?_ _)))).mono ?_; rintro e w2 ⟨rfl, hx2⟩; have hX2 := Ext.trans (a := w) (by repeat (first | assumption | apply Ext.alloc | apply Ext.drewN | apply Ext.drew | (refine Ext.setCell (by simp <;> omega) ?_ _))) hx2; have b3 := hid ((b1.out.alloc (.cells #[.int .i64 (nth l k).kind, .int .i64 (nth l k).txn, .string (nth l k).key, .string (nth l k).val] 50)).ext hx2); have b4 := hid (b2.out.ext hx2); obtain ⟨p0, p1, p2⟩ := b3.out.cells3; have f0 := b3.out.frozen; obtain ⟨x0, x1, x2, x3⟩ := b4.out.cells4)
        | (go_at_call 99; refine (HW1.out _ (by repeat (first | assumption | apply Ext.alloc | apply Ext.drewN | apply Ext.drew | (refine Ext.setCell (by simp <;> omega) ?_ _)))).mono ?_; rintro e w3 ⟨rfl, hx3⟩; have hX3 := Ext.trans (a := w) (by repeat (first | assumption | apply Ext.alloc | apply Ext.drewN | apply Ext.drew | (refine Ext.setCell (by simp <;> omega) ?_ _))) hx3; clear p0 p1 p2 f0 x0 x1 x2 x3; have b5 := hid (b3.out.ext hx3); have b6 := hid (b4.out.ext hx3); obtain ⟨p0, p1, p2⟩ := b5.out.cells3; have f0 := b5.out.frozen; obtain ⟨x0, x1, x2, x3⟩ := b6.out.cells4))
      have hS1 := fun (x : After w3) => hS hX3 x
      have z1 := fun (x : After w3) => x.h.cell x1
      refine wp_region_ext_lit (by kernel_rfl) (by kernel_rfl) ?_
      repeat (go_big_quiet_step (fail))
      refine wpQuiet_nil ?_
      rintro V1 ⟨x1, hx1⟩
      have hV1 := x1.h
      rw [← hx1] at hV1
      clear hx1 x1
      have hXV := hX3.trans hV1
      clear p0 p1 p2 f0 x0 x1 x2 x3
      go_wp2_with (go_at_call 98; refine (HF1.out _ (by repeat (first | assumption | apply Ext.alloc | apply Ext.drewN | apply Ext.drew | (refine Ext.setCell (by simp <;> omega) ?_ _)))).mono ?_; rintro e w4 ⟨rfl, hx4⟩; have hX4 := Ext.trans (a := w) (by repeat (first | assumption | apply Ext.alloc | apply Ext.drewN | apply Ext.drew | (refine Ext.setCell (by simp <;> omega) ?_ _))) hx4; have b7 := hid (b5.out.ext (Ext.trans hV1 hx4)); have b8 := hid (b6.out.ext (Ext.trans hV1 hx4)); obtain ⟨p0, p1, p2⟩ := b7.out.cells3; have f0 := b7.out.frozen; obtain ⟨x0, x1, x2, x3⟩ := b8.out.cells4; have hz7 := b7.out.lt; have hz8 := b8.out.lt)
      have b9 : Blk _ w.heap.size 40 #[.int .i64 (1), .int .i64 (k), .int .i64 (u)] := ((b7.out.set 0 (.int .i64 (1))).set 1 (.int .i64 (k))).set 2 (.int .i64 (u))
      have c9 := b9.alloc (.cells #[.int .i64 (nth l u).txn, .int .i64 (findL l (nth l u).txn).1.from_, .int .i64 (findL l (nth l u).txn).1.till, .bool false] 52)
      obtain ⟨q0, q1, q2⟩ := c9.cells3
      refine bodyPost_ret (v := .agg #[.int .i64 (1), .int .i64 (k), .int .i64 (u)]) (by simp [results, Tryz.results108, go_sem, q0, q1, q2]) rfl ⟨?_, (by repeat (first | assumption | apply Ext.alloc | apply Ext.drewN | apply Ext.drew | (refine Ext.setCell (by simp <;> omega) ?_ _)))⟩
      rw [hfin.out]
    · have hcm' : comOf l (nth l u).txn = true := by simpa using hcm
      obtain ⟨e1, e2, e3⟩ := comOf_end hcm'
      have HF1 := hid (fun (W : World) (x : Ext w W) => (by have h := h_find W _ n cap l (nth l u).txn (hE.ext x); rwa [g1, g2, g3, hcm', g4, if_neg (by omega)] at h : Calls Tryz.prog 98 #[.slice (some ⟨b, o, none⟩) n cap, .int .i64 (nth l u).txn] W fun e w' => e = .returned (.tuple #[.agg #[.int .i64 (nth l u).txn, .int .i64 (findL l (nth l u).txn).1.from_, .int .i64 (endOf l (nth l u).txn), .bool true], .bool true]) ∧ Ext W w'))
      have HM1 := hid (fun (W : World) (x : Ext w W) => h_last W _ n cap l (nth l u).txn (endOf l (nth l u).txn) (nth l k).key (hE.ext x))
      have HT := hid ht
      have hfin : Hid (badAt l k = if lastOf l (nth l u).txn (nth l k).key (endOf l (nth l u).txn) = u then Bad.z else ⟨2, k, lastOf l (nth l u).txn (nth l k).key (endOf l (nth l u).txn)⟩) := hid (by
        rw [hb]; unfold badW; simp only [Int.toNat_natCast]; rw [if_neg ht, if_neg hcm])
      clear ht hb g1 g2 g3 g4 hcm hcm' e1 e2 e3
      go_enter Tryz.func108, Tryz.ntmps108
      go_wp2_with (first
        | (go_at_call 124; refine (HC1.out _ (by repeat (first | assumption | apply Ext.alloc | apply Ext.drewN | apply Ext.drew | (refine Ext.setCell (by simp <;> omega) ?_ _)))).mono ?_; rintro e w1 ⟨rfl, hx1⟩; have hX1 := Ext.trans (a := w) (by repeat (first | assumption | apply Ext.alloc | apply Ext.drewN | apply Ext.drew | (refine Ext.setCell (by simp <;> omega) ?_ _))) hx1; have b1 := hid ((Blk.new w 40 #[.int .i64 0, .int .i64 0, .int .i64 0]).ext hx1); have b2 := hid (Blk.new w1 50 #[.int .i64 (nth l k).kind, .int .i64 (nth l k).txn, .string (nth l k).key, .string (nth l k).val]))
        | (go_at_call 123; refine (HL1.out _ (by repeat (first | assumption | apply Ext.alloc | apply Ext.drewN | apply Ext.drew | (refine Ext.setCell (by simp <;> omega) ?_ _)))).mono ?_; rintro e w2 ⟨rfl, hx2⟩; have hX2 := Ext.trans (a := w) (by repeat (first | assumption | apply Ext.alloc | apply Ext.drewN | apply Ext.drew | (refine Ext.setCell (by simp <;> omega) ?_ _))) hx2; have b3 := hid ((b1.out.alloc (.cells #[.int .i64 (nth l k).kind, .int .i64 (nth l k).txn, .string (nth l k).key, .string (nth l k).val] 50)).ext hx2); have b4 := hid (b2.out.ext hx2); obtain ⟨p0, p1, p2⟩ := b3.out.cells3; have f0 := b3.out.frozen; obtain ⟨x0, x1, x2, x3⟩ := b4.out.cells4)
        | (go_at_call 99; refine (HW1.out _ (by repeat (first | assumption | apply Ext.alloc | apply Ext.drewN | apply Ext.drew | (refine Ext.setCell (by simp <;> omega) ?_ _)))).mono ?_; rintro e w3 ⟨rfl, hx3⟩; have hX3 := Ext.trans (a := w) (by repeat (first | assumption | apply Ext.alloc | apply Ext.drewN | apply Ext.drew | (refine Ext.setCell (by simp <;> omega) ?_ _))) hx3; clear p0 p1 p2 f0 x0 x1 x2 x3; have b5 := hid (b3.out.ext hx3); have b6 := hid (b4.out.ext hx3); obtain ⟨p0, p1, p2⟩ := b5.out.cells3; have f0 := b5.out.frozen; obtain ⟨x0, x1, x2, x3⟩ := b6.out.cells4))
      have hS1 := fun (x : After w3) => hS hX3 x
      have z1 := fun (x : After w3) => x.h.cell x1
      refine wp_region_ext_lit (by kernel_rfl) (by kernel_rfl) ?_
      repeat (go_big_quiet_step (fail))
      refine wpQuiet_nil ?_
      rintro V1 ⟨x1, hx1⟩
      have hV1 := x1.h
      rw [← hx1] at hV1
      clear hx1 x1
      have hXV := hX3.trans hV1
      clear p0 p1 p2 f0 x0 x1 x2 x3
      go_wp2_with (first | (go_at_call 98; refine (HF1.out _ (by repeat (first | assumption | apply Ext.alloc | apply Ext.drewN | apply Ext.drew | (refine Ext.setCell (by simp <;> omega) ?_ _)))).mono ?_; rintro e w4 ⟨rfl, hx4⟩; have hX4 := Ext.trans (a := w) (by repeat (first | assumption | apply Ext.alloc | apply Ext.drewN | apply Ext.drew | (refine Ext.setCell (by simp <;> omega) ?_ _))) hx4; have b7 := hid (b5.out.ext (Ext.trans hV1 hx4)); have b8 := hid (b6.out.ext (Ext.trans hV1 hx4)); obtain ⟨p0, p1, p2⟩ := b7.out.cells3; have f0 := b7.out.frozen; obtain ⟨x0, x1, x2, x3⟩ := b8.out.cells4; have hz7 := b7.out.lt; have hz8 := b8.out.lt) | (go_at_call 123; refine (HM1.out _ (by repeat (first | assumption | apply Ext.alloc | apply Ext.drewN | apply Ext.drew | (refine Ext.setCell (by simp <;> omega) ?_ _)))).mono ?_; rintro e w5 ⟨rfl, hx5⟩; have hX5 := Ext.trans (a := w) (by repeat (first | assumption | apply Ext.alloc | apply Ext.drewN | apply Ext.drew | (refine Ext.setCell (by simp <;> omega) ?_ _))) hx5; clear p0 p1 p2 f0; have c7 := hid ((b7.out.alloc _).ext hx5); obtain ⟨p0, p1, p2⟩ := c7.out.cells3; have f0 := c7.out.frozen))
      · have hlast : ¬ lastOf l (nth l u).txn (nth l k).key (endOf l (nth l u).txn) = u := bne_iff_ne.1 (by assumption)
        have b9 : Blk _ w.heap.size 40 #[.int .i64 (2), .int .i64 (k), .int .i64 (lastOf l (nth l u).txn (nth l k).key (endOf l (nth l u).txn))] := ((c7.out.set 0 (.int .i64 (2))).set 1 (.int .i64 (k))).set 2 (.int .i64 (lastOf l (nth l u).txn (nth l k).key (endOf l (nth l u).txn)))
        obtain ⟨q0, q1, q2⟩ := b9.cells3
        refine bodyPost_ret (v := .agg #[.int .i64 (2), .int .i64 (k), .int .i64 (lastOf l (nth l u).txn (nth l k).key (endOf l (nth l u).txn))]) (by simp [results, Tryz.results108, go_sem, q0, q1, q2]) rfl ⟨?_, (by repeat (first | assumption | apply Ext.alloc | apply Ext.drewN | apply Ext.drew | (refine Ext.setCell (by simp <;> omega) ?_ _)))⟩
        rw [hfin.out, if_neg hlast]
      · have hlast : lastOf l (nth l u).txn (nth l k).key (endOf l (nth l u).txn) = u := bne_eq_false_iff_eq.1 (by assumption)
        have b9 : Blk _ w.heap.size 40 #[.int .i64 (0), .int .i64 (0), .int .i64 (0)] := ((c7.out.set 0 (.int .i64 (0))).set 1 (.int .i64 (0))).set 2 (.int .i64 (0))
        obtain ⟨q0, q1, q2⟩ := b9.cells3
        refine bodyPost_ret (v := .agg #[.int .i64 (0), .int .i64 (0), .int .i64 (0)]) (by simp [results, Tryz.results108, go_sem, q0, q1, q2]) rfl ⟨?_, (by repeat (first | assumption | apply Ext.alloc | apply Ext.drewN | apply Ext.drew | (refine Ext.setCell (by simp <;> omega) ?_ _)))⟩
        rw [hfin.out, if_pos hlast]; rfl

theorem t_at (w : World) (A : Option Addr) (n cap : Nat) (l : List Ev) (i : Int) (hE : Evs w A n l) :
    Calls Tryz.prog 108 #[.slice A n cap, .int .i64 i] w (AtPost l w i) := by
  cases hc : counts l i
  · exact t_at0 w A n cap l i hE hc
  · have hc' := hc
    simp only [counts, Bool.and_eq_true, decide_eq_true_eq] at hc'
    obtain ⟨h0, h1, _⟩ := hc'
    obtain ⟨k, rfl⟩ := Int.eq_ofNat_of_zero_le h0
    have hk : k < n := by have := hE.len; omega
    have hr := lastIdx_range (wroteBy (nth l k).txn (nth l k).key) (l.take (k : Int).toNat) 0 (-1) (by omega)
    have hl2 : (l.take (k : Int).toNat).length ≤ k := by simp; omega
    by_cases hL : lastOf l (nth l k).txn (nth l k).key k < 0
    · by_cases hv : (nth l k).val = ByteArray.empty
      · exact t_at2 w A n cap k _ l hE hk hc rfl hL (.inl hv)
      · by_cases hw : writer l (nth l k).key (nth l k).val < 0
        · exact t_at2 w A n cap k _ l hE hk hc rfl hL (.inr ⟨hv, hw⟩)
        · obtain ⟨u, hu⟩ := Int.eq_ofNat_of_zero_le (show 0 ≤ writer l (nth l k).key (nth l k).val by omega)
          have := idx_lt (writes (nth l k).key (nth l k).val) l
          have e : writer l (nth l k).key (nth l k).val = idx (writes (nth l k).key (nth l k).val) l 0 := rfl
          exact t_at3 w A n cap k u _ l hE hk hc rfl hL hv hu (by have := hE.len; omega)
    · obtain ⟨kk, hkk⟩ := Int.eq_ofNat_of_zero_le (show 0 ≤ lastOf l (nth l k).txn (nth l k).key k by omega)
      have e : lastOf l (nth l k).txn (nth l k).key k = lastIdx (wroteBy (nth l k).txn (nth l k).key) (l.take (k : Int).toNat) 0 (-1) := rfl
      exact t_at1 w A n cap k kk l hE hk hc hkk (by omega)

end
end Go.Proofs.YtebjiimlcnmfpaaGreat

/-! Contracts of chapter 9: all that are wrong, and the first one. -/
namespace Go.Proofs.YtebjiimlcnmfpaaGreat
section
open Go Go.RowKit Go.Proofs
set_option linter.unusedSimpArgs false
set_option linter.unusedVariables false
attribute [local go_sem] Ext.alloc Ext.alloc2 Ext.alloc3 Ext.alloc4 Ext.drewN_alloc Ext.drewN_alloc2 Ext.drew_alloc Ext.drew Ext.drewN toList_beq

end
end Go.Proofs.YtebjiimlcnmfpaaGreat
