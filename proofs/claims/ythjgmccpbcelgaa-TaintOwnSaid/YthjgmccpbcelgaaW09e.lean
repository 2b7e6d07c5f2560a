/-
  TaintOwn: the walk.
-/
import Derived.Test.YthjgmccpbcelgaaW09d
namespace Go.Proofs.Ythjgmccpbcelgaa
open Go Go.RowKit Go.Proofs
set_option linter.unusedSimpArgs false
set_option linter.unusedVariables false
attribute [local go_sem] Ext.alloc Ext.alloc2 Ext.alloc3 Ext.alloc4 Ext.drewN_alloc Ext.drewN_alloc2 Ext.drew_alloc Ext.drew Ext.drewN toList_beq

set_option maxRecDepth 100000 in
set_option maxHeartbeats 4000000 in
theorem w09_own (w : World) (A : Option Addr) (n cap : Nat) (l : List Ev) (i : Int) (hE : Evs w A n l) :
    Calls Try.prog 7 #[.slice A n cap, .int .i64 i] w fun e w' => e = .returned (.bool true) ∧ Ext w w' := by
  have hX := Ext.refl w
  have hbig := hE.big
  have hl := hid hE.len
  have HE := hid hE
  by_cases hn : n ≤ 300
  · have hd : decide (n ≤ 300) = true := by simp [hn]
    by_cases hi0 : i < 0
    · clear hE
      go_enter Try.func7, Try.ntmps7
      go_wp2_with (first
        | (go_at_call 30; refine (w09_shown _).mono ?_; rintro e w1 ⟨rfl, hx1⟩)
        | (go_at_call 31; refine (w09_few _ _ _ _).mono ?_; rintro e w2 ⟨rfl, hx2⟩; rw [hd]; have hX2 := hx1.trans hx2))
      go_ret
      exact ⟨rfl, hX2⟩
    · obtain ⟨k, rfl⟩ := Int.eq_ofNat_of_zero_le (show 0 ≤ i by omega)
      clear hi0
      by_cases hk : k < n
      · obtain ⟨b, o, rfl, h0, h1, h2, h3⟩ := hE.opn (by omega)
        clear hE
        have his := (findL_of (l := l) (k := k) (by rw [hl.out]; exact hk)).1
        by_cases h2' : (nth l k).kind = 2
        · by_cases hc1 : (findL l (nth l k).txn).1.com = true
          · by_cases hc2 : (k : Int) < (findL l (nth l k).txn).1.till
            · have hcn := hid (counts_find (l := l) (by rw [hl.out]; exact hk) h2' hc1 hc2)
              by_cases hL : lastOf l (nth l k).txn (nth l k).key k < 0
              · obtain ⟨L, hL'⟩ : ∃ L, lastOf l (nth l k).txn (nth l k).key k = L := ⟨_, rfl⟩
                rw [hL'] at hL
                have HL1 := hid (fun (W : World) (x : Ext w W) => (by have h := r08_last W _ n cap l (nth l k).txn k (nth l k).key (HE.out.ext x); rwa [hL'] at h : Calls Try.prog 42 #[.slice (some ⟨b, o, none⟩) n cap, .int .i64 (nth l k).txn, .string (nth l k).key, .int .i64 k] W fun e w' => e = .returned (.int .i64 (L)) ∧ w' = W))
                go_enter Try.func7, Try.ntmps7
                go_wp2_with (first
                  | (go_at_call 30; refine (w09_shown _).mono ?_; rintro e w1 ⟨rfl, hx1⟩)
                  | (go_at_call 31; refine (w09_few _ _ _ _).mono ?_; rintro e w2 ⟨rfl, hx2⟩; rw [hd]; have hX2 := hx1.trans hx2)
                  | (go_at_call 34; refine (r08_find _ _ _ _ _ _ (HE.out.ext hX2)).mono ?_; rintro e w3 ⟨rfl, hx3⟩; rw [hc1, his]; have hX3 := hX2.trans hx3))
                have hS := fun x : After (w3.alloc (.cells #[.int .i64 (findL l (nth l k).txn).1.txn, .int .i64 (findL l (nth l k).txn).1.from_, .int .i64 (findL l (nth l k).txn).1.till, .bool true] 33)) => (hX3.alloc _).trans x.h
                refine wp_region_ext_lit (by kernel_rfl) (by kernel_rfl) ?_
                repeat (go_big_quiet_step ((go_at_call 42; exact Calls.quietX_same (HL1.out _ (hS _)))))
                refine wpQuiet_nil ?_
                rintro V1 ⟨x1, hx1⟩
                have hV1 := x1.h
                rw [← hx1] at hV1
                clear hx1 x1
                obtain ⟨p0, p1, p2, p3⟩ := ((Blk.new w3 33 #[.int .i64 (findL l (nth l k).txn).1.txn, .int .i64 (findL l (nth l k).txn).1.from_, .int .i64 (findL l (nth l k).txn).1.till, .bool true]).ext hV1).cells4
                have hXV := (hX3.alloc _).trans hV1
                go_wp2
                go_ret
                exact ⟨rfl, hXV⟩
              · obtain ⟨u, hu⟩ := Int.eq_ofNat_of_zero_le (show 0 ≤ lastOf l (nth l k).txn (nth l k).key k by omega)
                have hun : u < n := by
                  have hr := lastIdx_range (wroteBy (nth l k).txn (nth l k).key) (l.take (k : Int).toNat) 0 (-1) (by omega)
                  have hl2 : (l.take (k : Int).toNat).length ≤ k := by simp; omega
                  have e : lastOf l (nth l k).txn (nth l k).key k = lastIdx (wroteBy (nth l k).txn (nth l k).key) (l.take (k : Int).toNat) 0 (-1) := rfl
                  omega
                have hb : Hid (badAt l k = ownBad l k u) := hid (by simp only [badAt, Int.toNat_natCast]; rw [if_neg (by rw [hcn.out]; simp), if_pos (by rw [hu]; omega), hu])
                have ho : Hid (outer l k = false) := hid (by simp [outer, hu])
                clear hL
                by_cases hv : (nth l k).val = (nth l u).val
                · have hv' : decide ((nth l u).val = (nth l k).val) = true := by rw [hv]; simp
                  have hz2 : (badAt l k).kind = 0 ∧ (badAt l k).i = 0 ∧ (badAt l k).j = 0 := by rw [hb.out]; simp [ownBad, hv, Bad.z]
                  have HZ := hid hz2
                  have hv3 : (nth l u).val = (nth l k).val := hv.symm
                  clear hz2 hv
                  have HL1 := hid (fun (W : World) (x : Ext w W) => (by have h := r08_last W _ n cap l (nth l k).txn k (nth l k).key (HE.out.ext x); rwa [hu] at h : Calls Try.prog 42 #[.slice (some ⟨b, o, none⟩) n cap, .int .i64 (nth l k).txn, .string (nth l k).key, .int .i64 k] W fun e w' => e = .returned (.int .i64 (u)) ∧ w' = W))
                  go_enter Try.func7, Try.ntmps7
                  go_wp2_with (first
                    | (go_at_call 30; refine (w09_shown _).mono ?_; rintro e w1 ⟨rfl, hx1⟩)
                    | (go_at_call 31; refine (w09_few _ _ _ _).mono ?_; rintro e w2 ⟨rfl, hx2⟩; rw [hd]; have hX2 := hx1.trans hx2)
                    | (go_at_call 34; refine (r08_find _ _ _ _ _ _ (HE.out.ext hX2)).mono ?_; rintro e w3 ⟨rfl, hx3⟩; rw [hc1, his]; have hX3 := hX2.trans hx3))
                  have hS := fun x : After (w3.alloc (.cells #[.int .i64 (findL l (nth l k).txn).1.txn, .int .i64 (findL l (nth l k).txn).1.from_, .int .i64 (findL l (nth l k).txn).1.till, .bool true] 33)) => (hX3.alloc _).trans x.h
                  refine wp_region_ext_lit (by kernel_rfl) (by kernel_rfl) ?_
                  repeat (go_big_quiet_step ((go_at_call 42; exact Calls.quietX_same (HL1.out _ (hS _)))))
                  refine wpQuiet_nil ?_
                  rintro V1 ⟨x1, hx1⟩
                  have hV1 := x1.h
                  rw [← hx1] at hV1
                  clear hx1 x1
                  obtain ⟨p0, p1, p2, p3⟩ := ((Blk.new w3 33 #[.int .i64 (findL l (nth l k).txn).1.txn, .int .i64 (findL l (nth l k).txn).1.from_, .int .i64 (findL l (nth l k).txn).1.till, .bool true]).ext hV1).cells4
                  have hXV := (hX3.alloc _).trans hV1
                  go_wp2_with (go_at_call 33; refine (t_at _ _ _ _ _ _ (HE.out.ext hXV)).mono ?_; rintro e w7 ⟨rfl, hx7⟩; rw [HZ.out.1, HZ.out.2.1, HZ.out.2.2]; have hX7 := hXV.trans hx7)
                  go_quiet (fail)
                  go_wp2
                  go_ret
                  exact ⟨rfl, (hX7.alloc _).drewN _⟩
                · have hv' : decide ((nth l u).val = (nth l k).val) = false := decide_eq_false fun h => hv h.symm
                  have hz2 : (badAt l k).kind = 3 ∧ (badAt l k).i = k ∧ (badAt l k).j = u := by rw [hb.out]; simp [ownBad, hv]
                  have HZ := hid hz2
                  have hv3 : (nth l u).val ≠ (nth l k).val := fun h => hv h.symm
                  clear hz2
                  have HL1 := hid (fun (W : World) (x : Ext w W) => (by have h := r08_last W _ n cap l (nth l k).txn k (nth l k).key (HE.out.ext x); rwa [hu] at h : Calls Try.prog 42 #[.slice (some ⟨b, o, none⟩) n cap, .int .i64 (nth l k).txn, .string (nth l k).key, .int .i64 k] W fun e w' => e = .returned (.int .i64 (u)) ∧ w' = W))
                  go_enter Try.func7, Try.ntmps7
                  go_wp2_with (first
                    | (go_at_call 30; refine (w09_shown _).mono ?_; rintro e w1 ⟨rfl, hx1⟩)
                    | (go_at_call 31; refine (w09_few _ _ _ _).mono ?_; rintro e w2 ⟨rfl, hx2⟩; rw [hd]; have hX2 := hx1.trans hx2)
                    | (go_at_call 34; refine (r08_find _ _ _ _ _ _ (HE.out.ext hX2)).mono ?_; rintro e w3 ⟨rfl, hx3⟩; rw [hc1, his]; have hX3 := hX2.trans hx3))
                  have hS := fun x : After (w3.alloc (.cells #[.int .i64 (findL l (nth l k).txn).1.txn, .int .i64 (findL l (nth l k).txn).1.from_, .int .i64 (findL l (nth l k).txn).1.till, .bool true] 33)) => (hX3.alloc _).trans x.h
                  refine wp_region_ext_lit (by kernel_rfl) (by kernel_rfl) ?_
                  repeat (go_big_quiet_step ((go_at_call 42; exact Calls.quietX_same (HL1.out _ (hS _)))))
                  refine wpQuiet_nil ?_
                  rintro V1 ⟨x1, hx1⟩
                  have hV1 := x1.h
                  rw [← hx1] at hV1
                  clear hx1 x1
                  obtain ⟨p0, p1, p2, p3⟩ := ((Blk.new w3 33 #[.int .i64 (findL l (nth l k).txn).1.txn, .int .i64 (findL l (nth l k).txn).1.from_, .int .i64 (findL l (nth l k).txn).1.till, .bool true]).ext hV1).cells4
                  have hXV := (hX3.alloc _).trans hV1
                  go_wp2_with (go_at_call 33; refine (t_at _ _ _ _ _ _ (HE.out.ext hXV)).mono ?_; rintro e w7 ⟨rfl, hx7⟩; rw [HZ.out.1, HZ.out.2.1, HZ.out.2.2]; have hX7 := hXV.trans hx7)
                  go_quiet (fail)
                  go_wp2_with (go_at_call 40; refine (t_outer _ _ _ _ _ _ (HE.out.ext ((hX7.alloc _).drewN _))).mono ?_; rintro e w9 ⟨rfl, hx9⟩; rw [ho.out]; have hX9 := ((hX7.alloc _).drewN _).trans hx9)
                  go_ret
                  exact ⟨rfl, hX9⟩
            · skip
              have HL1 := hid (fun (W : World) (x : Ext w W) => (by have h := r08_last W _ n cap l (nth l k).txn k (nth l k).key (HE.out.ext x); exact h : Calls Try.prog 42 #[.slice (some ⟨b, o, none⟩) n cap, .int .i64 (nth l k).txn, .string (nth l k).key, .int .i64 k] W fun e w' => e = .returned (.int .i64 (lastOf l (nth l k).txn (nth l k).key k)) ∧ w' = W))
              go_enter Try.func7, Try.ntmps7
              go_wp2_with (first
                | (go_at_call 30; refine (w09_shown _).mono ?_; rintro e w1 ⟨rfl, hx1⟩)
                | (go_at_call 31; refine (w09_few _ _ _ _).mono ?_; rintro e w2 ⟨rfl, hx2⟩; rw [hd]; have hX2 := hx1.trans hx2)
                | (go_at_call 34; refine (r08_find _ _ _ _ _ _ (HE.out.ext hX2)).mono ?_; rintro e w3 ⟨rfl, hx3⟩; rw [hc1, his]; have hX3 := hX2.trans hx3))
              have hS := fun x : After (w3.alloc (.cells #[.int .i64 (findL l (nth l k).txn).1.txn, .int .i64 (findL l (nth l k).txn).1.from_, .int .i64 (findL l (nth l k).txn).1.till, .bool true] 33)) => (hX3.alloc _).trans x.h
              refine wp_region_ext_lit (by kernel_rfl) (by kernel_rfl) ?_
              repeat (go_big_quiet_step ((go_at_call 42; exact Calls.quietX_same (HL1.out _ (hS _)))))
              refine wpQuiet_nil ?_
              rintro V1 ⟨x1, hx1⟩
              have hV1 := x1.h
              rw [← hx1] at hV1
              clear hx1 x1
              obtain ⟨p0, p1, p2, p3⟩ := ((Blk.new w3 33 #[.int .i64 (findL l (nth l k).txn).1.txn, .int .i64 (findL l (nth l k).txn).1.from_, .int .i64 (findL l (nth l k).txn).1.till, .bool true]).ext hV1).cells4
              have hXV := (hX3.alloc _).trans hV1
              go_wp2
              go_ret
              exact ⟨rfl, hXV⟩
          · have hc3 : (findL l (nth l k).txn).1.com = false := by simpa using hc1
            clear hc1
            have HL1 := hid (fun (W : World) (x : Ext w W) => (by have h := r08_last W _ n cap l (nth l k).txn k (nth l k).key (HE.out.ext x); exact h : Calls Try.prog 42 #[.slice (some ⟨b, o, none⟩) n cap, .int .i64 (nth l k).txn, .string (nth l k).key, .int .i64 k] W fun e w' => e = .returned (.int .i64 (lastOf l (nth l k).txn (nth l k).key k)) ∧ w' = W))
            go_enter Try.func7, Try.ntmps7
            go_wp2_with (first
              | (go_at_call 30; refine (w09_shown _).mono ?_; rintro e w1 ⟨rfl, hx1⟩)
              | (go_at_call 31; refine (w09_few _ _ _ _).mono ?_; rintro e w2 ⟨rfl, hx2⟩; rw [hd]; have hX2 := hx1.trans hx2)
              | (go_at_call 34; refine (r08_find _ _ _ _ _ _ (HE.out.ext hX2)).mono ?_; rintro e w3 ⟨rfl, hx3⟩; rw [hc3, his]; have hX3 := hX2.trans hx3))
            have hS := fun x : After (w3.alloc (.cells #[.int .i64 (findL l (nth l k).txn).1.txn, .int .i64 (findL l (nth l k).txn).1.from_, .int .i64 (findL l (nth l k).txn).1.till, .bool false] 33)) => (hX3.alloc _).trans x.h
            refine wp_region_ext_lit (by kernel_rfl) (by kernel_rfl) ?_
            repeat (go_big_quiet_step ((go_at_call 42; exact Calls.quietX_same (HL1.out _ (hS _)))))
            refine wpQuiet_nil ?_
            rintro V1 ⟨x1, hx1⟩
            have hV1 := x1.h
            rw [← hx1] at hV1
            clear hx1 x1
            obtain ⟨p0, p1, p2, p3⟩ := ((Blk.new w3 33 #[.int .i64 (findL l (nth l k).txn).1.txn, .int .i64 (findL l (nth l k).txn).1.from_, .int .i64 (findL l (nth l k).txn).1.till, .bool false]).ext hV1).cells4
            have hXV := (hX3.alloc _).trans hV1
            go_wp2
            go_ret
            exact ⟨rfl, hXV⟩
        · have hq : ((nth l k).kind == 2) = false := beq_eq_false_iff_ne.2 h2'
          have hq2 : ((nth l k).kind != 2) = true := by simp [h2']
          clear h2'
          go_enter Try.func7, Try.ntmps7
          go_wp2_with (first
            | (go_at_call 30; refine (w09_shown _).mono ?_; rintro e w1 ⟨rfl, hx1⟩)
            | (go_at_call 31; refine (w09_few _ _ _ _).mono ?_; rintro e w2 ⟨rfl, hx2⟩; rw [hd]; have hX2 := hx1.trans hx2))
          go_ret
          exact ⟨rfl, hX2⟩
      · clear hE
        go_enter Try.func7, Try.ntmps7
        go_wp2_with (first
          | (go_at_call 30; refine (w09_shown _).mono ?_; rintro e w1 ⟨rfl, hx1⟩)
          | (go_at_call 31; refine (w09_few _ _ _ _).mono ?_; rintro e w2 ⟨rfl, hx2⟩; rw [hd]; have hX2 := hx1.trans hx2))
        go_ret
        exact ⟨rfl, hX2⟩
  · have hd : decide (n ≤ 300) = false := by simp [hn]
    clear hE
    go_enter Try.func7, Try.ntmps7
    go_wp2_with (first
      | (go_at_call 30; refine (w09_shown _).mono ?_; rintro e w1 ⟨rfl, hx1⟩)
      | (go_at_call 31; refine (w09_few _ _ _ _).mono ?_; rintro e w2 ⟨rfl, hx2⟩; rw [hd]; have hX2 := hx1.trans hx2))
    go_ret
    exact ⟨rfl, hX2⟩
end Go.Proofs.Ythjgmccpbcelgaa
