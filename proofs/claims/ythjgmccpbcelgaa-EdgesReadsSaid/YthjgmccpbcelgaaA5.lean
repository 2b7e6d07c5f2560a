/-
  Reference 08.
-/
import Derived.Test.YthjgmccpbcelgaaProg
import Derived.Test.YthjgmccpbcelgaaA1
/-! Contracts of the reference's functions of chapter 8 that look for one place. -/
set_option linter.unusedVariables false
set_option linter.unusedSimpArgs false
namespace Go.Proofs.Ythjgmccpbcelgaa
section
open Go Go.RowKit Go.Proofs
set_option linter.unusedSimpArgs false
set_option linter.unusedVariables false
attribute [local go_sem] Ext.alloc Ext.alloc2 Ext.alloc3 Ext.alloc4 Ext.drewN_alloc Ext.drewN_alloc2 Ext.drew_alloc Ext.drew Ext.drewN toList_beq

set_option maxHeartbeats 400000 in
theorem r08_first (w : World) (A : Option Addr) (n cap : Nat) (l : List Ev) (txn upto : Int) (hE : Evs w A n l) (hu0 : 0 ≤ upto) (hu : upto ≤ n) :
    Calls Try.prog 78 #[.slice A n cap, .int .i64 txn, .int .i64 upto] w fun e w' => e = .returned (.int .i64 (firstOf (l.take upto.toNat) txn)) ∧ w' = w := by
  obtain ⟨u, rfl⟩ := Int.eq_ofNat_of_zero_le hu0
  have hun : u ≤ n := by omega
  clear hu hu0
  have hl := hid hE.len
  have hbig := hE.big
  have hX := Ext.refl w
  go_enter Try.func78, Try.ntmps78
  go_wp2
  go_loop [7] (fun i => ∃ k : Nat, k ≤ u ∧ i = .int .i64 k ∧ Hid (idx (isOf txn) ((l.take u).drop k) k = (firstOf (l.take u) txn))) (fun i => u - (intOf i).toNat)
  case atStart => exact ⟨0, by omega, rfl, hid rfl⟩
  case round =>
    obtain ⟨k, hk1, rfl, hr⟩ := hrel
    by_cases hlt : k < u
    · have hkn : k < n := by omega
      obtain ⟨b, o, rfl, h0, h1, h2, h3⟩ := hE.opn (by omega)
      have hs := hid (drop_step (l.take u) Ev.z (k := k) (by rw [List.length_take, hl.out]; omega))
      have hg : Hid ((l.take u).getD k Ev.z = nth l k) := hid (by simp [nth, List.getD_eq_getElem?_getD, List.getElem?_take, hlt])
      go_wp2
      all_goals first
        | (go_ret
           refine ⟨ret_int ?_, rfl⟩
           rw [← hr.out, hs.out, idx_cons, hg.out]
           clear hr hs hg h0 h1 h2 h3 hE hl hX
           simp_all [isOf])
        | (go_round
           case rel =>
             refine ⟨k + 1, by omega, by go_num, hid ?_⟩
             rw [← hr.out, hs.out, idx_cons, hg.out]
             clear hr hs hg h0 h1 h2 h3 hE hl hX
             simp_all [isOf]
           case measure => simp [intOf]; omega)
    · go_wp2
      go_ret
      refine ⟨ret_int ?_, rfl⟩
      rw [← hr.out, drop_end _ (by rw [List.length_take, hl.out]; omega)]
      rfl

set_option maxHeartbeats 400000 in
theorem r08_end (w : World) (A : Option Addr) (n cap : Nat) (l : List Ev) (txn upto : Int) (hE : Evs w A n l) (hu0 : 0 ≤ upto) (hu : upto ≤ n) :
    Calls Try.prog 79 #[.slice A n cap, .int .i64 txn, .int .i64 upto] w fun e w' => e = .returned (.int .i64 (endOf (l.take upto.toNat) txn)) ∧ w' = w := by
  obtain ⟨u, rfl⟩ := Int.eq_ofNat_of_zero_le hu0
  have hun : u ≤ n := by omega
  clear hu hu0
  have hl := hid hE.len
  have hbig := hE.big
  have hX := Ext.refl w
  go_enter Try.func79, Try.ntmps79
  go_wp2
  go_loop [7] (fun i => ∃ k : Nat, k ≤ u ∧ i = .int .i64 k ∧ Hid (idx (endsOf txn) ((l.take u).drop k) k = (endOf (l.take u) txn))) (fun i => u - (intOf i).toNat)
  case atStart => exact ⟨0, by omega, rfl, hid rfl⟩
  case round =>
    obtain ⟨k, hk1, rfl, hr⟩ := hrel
    by_cases hlt : k < u
    · have hkn : k < n := by omega
      obtain ⟨b, o, rfl, h0, h1, h2, h3⟩ := hE.opn (by omega)
      have hs := hid (drop_step (l.take u) Ev.z (k := k) (by rw [List.length_take, hl.out]; omega))
      have hg : Hid ((l.take u).getD k Ev.z = nth l k) := hid (by simp [nth, List.getD_eq_getElem?_getD, List.getElem?_take, hlt])
      go_wp2
      all_goals first
        | (go_ret
           refine ⟨ret_int ?_, rfl⟩
           rw [← hr.out, hs.out, idx_cons, hg.out]
           clear hr hs hg h0 h1 h2 h3 hE hl hX
           simp_all [endsOf, ends])
        | (go_round
           case rel =>
             refine ⟨k + 1, by omega, by go_num, hid ?_⟩
             rw [← hr.out, hs.out, idx_cons, hg.out]
             clear hr hs hg h0 h1 h2 h3 hE hl hX
             simp_all [endsOf, ends]
           case measure => simp [intOf]; omega)
    · go_wp2
      go_ret
      refine ⟨ret_int ?_, rfl⟩
      rw [← hr.out, drop_end _ (by rw [List.length_take, hl.out]; omega)]
      rfl

set_option maxHeartbeats 400000 in
theorem r08_writer (w : World) (A : Option Addr) (n cap : Nat) (l : List Ev) (key val : ByteArray) (hE : Evs w A n l) :
    Calls Try.prog 62 #[.slice A n cap, .string key, .string val] w fun e w' => e = .returned (.int .i64 (writer l key val)) ∧ w' = w := by
  have hl := hid hE.len
  have hbig := hE.big
  have hX := Ext.refl w
  go_enter Try.func62, Try.ntmps62
  go_wp2
  go_loop [7] (fun i => ∃ k : Nat, k ≤ n ∧ i = .int .i64 k ∧ Hid (idx (writes key val) (l.drop k) k = (writer l key val))) (fun i => n - (intOf i).toNat)
  case atStart => exact ⟨0, by omega, rfl, hid rfl⟩
  case round =>
    obtain ⟨k, hk1, rfl, hr⟩ := hrel
    by_cases hlt : k < n
    · have hkn : k < n := by omega
      obtain ⟨b, o, rfl, h0, h1, h2, h3⟩ := hE.opn (by omega)
      have hs := hid (drop_step l Ev.z (k := k) (by rw [hl.out]; omega))
      have hg : Hid (l.getD k Ev.z = nth l k) := hid (by rfl)
      go_wp2
      all_goals first
        | (go_ret
           refine ⟨ret_int ?_, rfl⟩
           rw [← hr.out, hs.out, idx_cons, hg.out]
           clear hr hs hg h0 h1 h2 h3 hE hl hX
           simp_all [writes])
        | (go_round
           case rel =>
             refine ⟨k + 1, by omega, by go_num, hid ?_⟩
             rw [← hr.out, hs.out, idx_cons, hg.out]
             clear hr hs hg h0 h1 h2 h3 hE hl hX
             simp_all [writes]
           case measure => simp [intOf]; omega)
    · go_wp2
      go_ret
      refine ⟨ret_int ?_, rfl⟩
      rw [← hr.out, drop_end _ (by rw [hl.out]; omega)]
      rfl

set_option maxHeartbeats 400000 in
theorem r08_last (w : World) (A : Option Addr) (n cap : Nat) (l : List Ev) (txn before : Int) (key : ByteArray) (hE : Evs w A n l) :
    Calls Try.prog 42 #[.slice A n cap, .int .i64 txn, .string key, .int .i64 before] w fun e w' => e = .returned (.int .i64 (lastOf l txn key before)) ∧ w' = w := by
  have hl := hid hE.len
  have hbig := hE.big
  have hX := Ext.refl w
  go_enter Try.func42, Try.ntmps42
  go_wp2
  go_loop [9, 10] (fun d i => ∃ (k : Nat) (q : Int), k ≤ n ∧ i = .int .i64 k ∧ d = .int .i64 q ∧ Hid (lastIdx (wroteBy txn key) ((l.take before.toNat).drop k) k q = lastOf l txn key before)) (fun _ i => n - (intOf i).toNat)
  case atStart => exact ⟨0, -1, by omega, rfl, rfl, hid rfl⟩
  case round =>
    obtain ⟨k, q, hk1, rfl, rfl, hr⟩ := hrel
    by_cases hlt : k < n
    · by_cases hb : (k : Int) < before
      · obtain ⟨b, o, rfl, h0, h1, h2, h3⟩ := hE.opn (by omega)
        have hs := hid (drop_step (l.take before.toNat) Ev.z (k := k) (by rw [List.length_take, hl.out]; omega))
        have hg : Hid ((l.take before.toNat).getD k Ev.z = nth l k) := hid (by simp [nth, List.getD_eq_getElem?_getD, List.getElem?_take, show k < before.toNat by omega])
        go_wp2
        all_goals
          go_round
          case rel =>
            refine ⟨k + 1, _, by omega, by go_num, rfl, hid ?_⟩
            rw [← hr.out, hs.out, lastIdx_cons, hg.out]
            clear hr hs hg h0 h1 h2 h3 hE hl hX
            simp_all [wroteBy]
          case measure => simp [intOf]; omega
      · go_wp2
        go_ret
        refine ⟨ret_int ?_, rfl⟩
        rw [← hr.out, drop_end _ (by rw [List.length_take]; omega)]
        rfl
    · go_wp2
      go_ret
      refine ⟨ret_int ?_, rfl⟩
      rw [← hr.out, drop_end _ (by rw [List.length_take, hl.out]; omega)]
      rfl

end
end Go.Proofs.Ythjgmccpbcelgaa

/-! Contracts: which events may be; a transaction found; the reference's well formed histories. -/
namespace Go.Proofs.Ythjgmccpbcelgaa
section
open Go Go.RowKit Go.Proofs
set_option linter.unusedSimpArgs false
set_option linter.unusedVariables false
attribute [local go_sem] Ext.alloc Ext.alloc2 Ext.alloc3 Ext.alloc4 Ext.drewN_alloc Ext.drewN_alloc2 Ext.drew_alloc Ext.drew Ext.drewN toList_beq

set_option maxHeartbeats 1000000 in
theorem r06_may (w : World) (x : Ev) :
    Calls Try.prog 77 #[.agg #[.int .i64 x.kind, .int .i64 x.txn, .string x.key, .string x.val]] w fun e w' => e = .returned (.bool (may x)) ∧ Ext w w' := by
  have hX := Ext.refl w
  go_enter Try.func77, Try.ntmps77
  go_wp2
  all_goals
    go_ret
    refine ⟨ret_bool ?_, hX.alloc _⟩
    rw [Bool.eq_iff_iff, may_iff, MayP]
    clear hX
    simp_all [toList_nil_iff_emptyBytes]
    try omega

theorem r08_firstN (w : World) (A : Option Addr) (n cap : Nat) (l : List Ev) (txn : Int) (hE : Evs w A n l) :
    Calls Try.prog 78 #[.slice A n cap, .int .i64 txn, .int .i64 (n : Int)] w fun e w' => e = .returned (.int .i64 (firstOf l txn)) ∧ w' = w := by
  have h := r08_first w A n cap l txn n hE (by omega) (by omega)
  rwa [Int.toNat_natCast, List.take_of_length_le (by rw [hE.len]; omega)] at h
theorem r08_endN (w : World) (A : Option Addr) (n cap : Nat) (l : List Ev) (txn : Int) (hE : Evs w A n l) :
    Calls Try.prog 79 #[.slice A n cap, .int .i64 txn, .int .i64 (n : Int)] w fun e w' => e = .returned (.int .i64 (endOf l txn)) ∧ w' = w := by
  have h := r08_end w A n cap l txn n hE (by omega) (by omega)
  rwa [Int.toNat_natCast, List.take_of_length_le (by rw [hE.len]; omega)] at h

set_option maxHeartbeats 1000000 in
theorem r08_find (w : World) (A : Option Addr) (n cap : Nat) (l : List Ev) (txn : Int) (hE : Evs w A n l) :
    Calls Try.prog 34 #[.slice A n cap, .int .i64 txn] w fun e w' => e = .returned (.tuple #[.agg #[.int .i64 (findL l txn).1.txn, .int .i64 (findL l txn).1.from_, .int .i64 (findL l txn).1.till, .bool (findL l txn).1.com], .bool (findL l txn).2]) ∧ Ext w w' := by
  have hX := Ext.refl w
  have hbig := hE.big
  have hr : -1 ≤ endOf l txn ∧ endOf l txn < (n : Int) := by have := idx_lt (endsOf txn) l; rwa [hE.len] at this
  have hf1 := idx_lt (isOf txn) l
  have hE0 := fun (o : Obj) => hE.ext (hX.alloc o)
  by_cases hf : firstOf l txn < 0
  · have hfin : Hid (findL l txn = (Life.z, false)) := hid (by unfold findL; rw [if_pos hf])
    clear hr hf1
    go_enter Try.func34, Try.ntmps34
    go_wp2_with (go_at_call 78; refine (r08_firstN _ _ _ _ _ _ (hE0 _)).mono ?_; rintro e w' ⟨rfl, rfl⟩)
    refine bodyPost_ret (v := .tuple #[.agg #[.int .i64 0, .int .i64 0, .int .i64 0, .bool false], .bool false]) (by simp [results, Try.results34, go_sem]) rfl ⟨?_, (by repeat (first | assumption | apply Ext.alloc | apply Ext.drewN | apply Ext.drew | (refine Ext.setCell (by simp <;> omega) ?_ _)))⟩
    rw [hfin.out]; rfl
  · by_cases he : endOf l txn < 0
    · have hfin : Hid (findL l txn = (⟨txn, firstOf l txn, n, false⟩, true)) := hid (by unfold findL; rw [if_neg hf, if_pos he, hE.len])
      have hf' : 0 ≤ firstOf l txn := by omega
      clear hr hf1 hf
      go_enter Try.func34, Try.ntmps34
      go_wp2_with (first | (go_at_call 78; refine (r08_firstN _ _ _ _ _ _ (hE0 _)).mono ?_; rintro e w' ⟨rfl, rfl⟩) | (go_at_call 79; refine (r08_endN _ _ _ _ _ _ (hE0 _)).mono ?_; rintro e w' ⟨rfl, rfl⟩))
      refine bodyPost_ret (v := .tuple #[.agg #[.int .i64 txn, .int .i64 (firstOf l txn), .int .i64 n, .bool false], .bool true]) (by simp [results, Try.results34, go_sem]) rfl ⟨?_, (by repeat (first | assumption | apply Ext.alloc | apply Ext.drewN | apply Ext.drew | (refine Ext.setCell (by simp <;> omega) ?_ _)))⟩
      rw [hfin.out]
    · obtain ⟨t, ht⟩ := Int.eq_ofNat_of_zero_le (show 0 ≤ endOf l txn by omega)
      have htn : t < n := by rw [ht] at hr; omega
      have hfin : Hid (findL l txn = (⟨txn, firstOf l txn, t, (nth l t).kind == 4⟩, true)) := hid (by unfold findL; rw [if_neg hf, if_neg he, ht, Int.toNat_natCast])
      have hf' : 0 ≤ firstOf l txn := by omega
      have HT := hid ht
      obtain ⟨b, o, rfl, h0, h1, h2, h3⟩ := hE.opn (by omega)
      clear hr hf1 hf he ht
      go_enter Try.func34, Try.ntmps34
      go_wp2_with (first | (go_at_call 78; refine (r08_firstN _ _ _ _ _ _ (hE0 _)).mono ?_; rintro e w' ⟨rfl, rfl⟩) | (go_at_call 79; refine (r08_endN _ _ _ _ _ _ (hE0 _)).mono ?_; rintro e w' ⟨rfl, rfl⟩; rw [HT.out]))
      refine bodyPost_ret (v := .tuple #[.agg #[.int .i64 txn, .int .i64 (firstOf l txn), .int .i64 t, .bool ((nth l t).kind == 4)], .bool true]) (by simp [results, Try.results34, go_sem]) rfl ⟨?_, (by repeat (first | assumption | apply Ext.alloc | apply Ext.drewN | apply Ext.drew | (refine Ext.setCell (by simp <;> omega) ?_ _)))⟩
      rw [hfin.out]

end
end Go.Proofs.Ythjgmccpbcelgaa

/-! Contract: the reference's well formed histories. -/
namespace Go.Proofs.Ythjgmccpbcelgaa
section
open Go Go.RowKit Go.Proofs
set_option linter.unusedSimpArgs false
set_option linter.unusedVariables false
attribute [local go_sem] Ext.alloc Ext.alloc2 Ext.alloc3 Ext.alloc4 Ext.drewN_alloc Ext.drewN_alloc2 Ext.drew_alloc Ext.drew Ext.drewN toList_beq

set_option maxRecDepth 100000 in
set_option maxHeartbeats 4000000 in
theorem r08_formed (w : World) (A : Option Addr) (n cap : Nat) (l : List Ev) (hE : Evs w A n l) :
    Calls Try.prog 32 #[.slice A n cap] w fun e w' => e = .returned (.tuple #[.int .i64 (formed l).1, .int .i64 (formed l).2]) ∧ Ext w w' := by
  have hX := Ext.refl w
  have hbig := hE.big
  have hl := hid hE.len
  by_cases hn : 256 < n
  · have hfin : Hid (formed l = (0, 4)) := hid (by unfold formed; rw [if_pos (by rw [hE.len]; exact hn)])
    go_enter Try.func32, Try.ntmps32
    go_wp2
    go_ret2
    exact ⟨by rw [hfin.out]; rfl, hX⟩
  · have hn' : n ≤ 256 := by omega
    clear hn
    go_enter Try.func32, Try.ntmps32
    go_wp2
    go_loopw [4] (fun i W => Ext w W ∧ ∃ k : Nat, k ≤ n ∧ i = .int .i64 k ∧ Hid (FE (stepErr l) n k)) (fun i _ => n - (intOf i).toNat)
    case atStart => exact ⟨hX, 0, by omega, rfl, hid (FE.zero _ _)⟩
    case round =>
      obtain ⟨hW, k, hk1, rfl, hr⟩ := hrel
      obtain ⟨wo, rfl⟩ : ∃ wo : World, wo = wr := ⟨_, rfl⟩
      by_cases hlt : k < n
      · obtain ⟨b, o, rfl, h0, h1, h2, h3⟩ := hE.opn (by omega)
        have hE1 := fun (W : World) (x : Ext w W) => hE.ext x
        have HE1 := hid hE1
        clear hE1
        have hse : Hid (stepErr l k = stepErr l k) := hid rfl
        go_wp2_with (first
          | (go_at_call 77; refine (r06_may _ (nth l k)).mono ?_; rintro e w1 ⟨rfl, hx1⟩; have hX1 := Ext.trans (Ext.alloc hW _) hx1; have HB := hid ((Blk.new wo 31 #[.int .i64 (nth l k).kind, .int .i64 (nth l k).txn, .string (nth l k).key, .string (nth l k).val]).ext hx1); obtain ⟨y0, y1, y2, y3⟩ := HB.out.cells4)
          | (go_at_call 78; refine (r08_first _ _ _ _ _ _ _ (HE1.out _ (by assumption)) (by omega) (by omega)).mono ?_; rintro e w2 ⟨rfl, rfl⟩)
          | (go_at_call 79; refine (r08_end _ _ _ _ _ _ _ (HE1.out _ (by assumption)) (by omega) (by omega)).mono ?_; rintro e w2 ⟨rfl, rfl⟩)
          | (go_at_call 62; refine (r08_writer _ _ _ _ _ _ _ (HE1.out _ (by assumption))).mono ?_; rintro e w2 ⟨rfl, rfl⟩))
        all_goals first
          | (go_ret2
             refine ⟨formed_leaf hl.out hn' hr.out hlt (by decide) ?_, by assumption⟩
             clear h0 h1 h2 h3 HE1 hE hr hl hX
             simp_all [stepErr, toList_nil_iff_emptyBytes, le0_false, lt0_false]
             done)
          | (go_roundw
             case rel =>
               refine ⟨by assumption, k + 1, by omega, by go_num, hid (hr.out.step hlt ?_)⟩
               clear h0 h1 h2 h3 HE1 hE hr hl hX
               simp_all [stepErr, toList_nil_iff_emptyBytes, le0_false, lt0_false]
               done
             case measure => simp [intOf]; omega)
          | skip
        go_loopw [8] (fun i W => Ext w W ∧ Blk W wo.heap.size 31 #[.int .i64 (nth l k).kind, .int .i64 (nth l k).txn, .string (nth l k).key, .string (nth l k).val] ∧ ∃ j : Nat, j ≤ k ∧ i = .int .i64 j ∧ Hid (((l.take k).drop j).any (twice (nth l k)) = (l.take k).any (twice (nth l k)))) (fun i _ => k - (intOf i).toNat)
        case atStart => exact ⟨by assumption, HB.out, 0, by omega, rfl, hid rfl⟩
        case round =>
          obtain ⟨hW2, hB2, j, hj1, rfl, hr2⟩ := hrel
          clear y0 y1 y2 y3
          obtain ⟨y0, y1, y2, y3⟩ := hB2.cells4
          by_cases hjk : j < k
          · have hs := hid (drop_step (l.take k) Ev.z (k := j) (by rw [List.length_take, hl.out]; omega))
            have hg : Hid ((l.take k).getD j Ev.z = nth l j) := hid (by simp [nth, List.getD_eq_getElem?_getD, List.getElem?_take, hjk])
            have hjn : j < n := by omega
            by_cases hq : (nth l j).kind = 3
            · have hq' : ((nth l j).kind == 3) = true := beq_iff_eq.2 hq
              have HQ := hid hq
              clear hq
              go_wp2
              go_quiet (fail)
              go_wp2
              · have hv : (nth l j).val = (nth l k).val := by assumption
                have hany : (l.take k).any (twice (nth l k)) = true := by
                  rw [← hr2.out, hs.out, List.any_cons, hg.out]; simp [twice, HQ.out, hv]
                go_ret2
                refine ⟨formed_leaf hl.out hn' hr.out hlt (by decide) ?_, hW2.drewN _⟩
                clear h0 h1 h2 h3 HE1 hE hr hl hX
                simp_all [stepErr, toList_nil_iff_emptyBytes, le0_false, lt0_false]
              · have hv : ¬ (nth l j).val = (nth l k).val := by assumption
                go_roundw
                case rel => exact ⟨hW2.drewN _, hB2.drewN _, j + 1, by omega, by go_num, hid (by rw [← hr2.out, hs.out, List.any_cons, hg.out]; simp [twice, hv])⟩
                case measure => simp [intOf]; omega
            · have hq' : ((nth l j).kind == 3) = false := beq_eq_false_iff_ne.2 hq
              have HQ := hid hq
              clear hq
              go_wp2
              go_quiet (fail)
              go_wp2
              go_roundw
              case rel => exact ⟨hW2.drewN _, hB2.drewN _, j + 1, by omega, by go_num, hid (by rw [← hr2.out, hs.out, List.any_cons, hg.out]; simp [twice, HQ.out])⟩
              case measure => simp [intOf]; omega
          · have hany : (l.take k).any (twice (nth l k)) = false := by
              rw [← hr2.out, drop_end _ (by rw [List.length_take, hl.out]; omega)]; rfl
            have HA := hid hany
            clear hany
            have hk3 : (nth l k).kind = 3 := by
              have h : ((nth l k).kind == 3) = true := by assumption
              exact beq_iff_eq.1 h
            have hk2 : ((nth l k).kind == 2) = false := by rw [hk3]; rfl
            have HK := hid hk3
            clear hk3
            go_wp2
            go_roundw
            case rel =>
              refine ⟨hW2, k + 1, by omega, by go_num, hid (hr.out.step hlt ?_)⟩
              have hany := HA.out
              have hk3 := HK.out
              clear h0 h1 h2 h3 HE1 hE hr hl hX HA HK
              simp_all [stepErr, toList_nil_iff_emptyBytes, le0_false, lt0_false]
            case measure => simp [intOf]; omega
      · have hst := hid (hr.out.end (by omega))
        clear hr
        go_wp2
        go_loopw [9] (fun i W => Ext w W ∧ ∃ j : Nat, j ≤ n ∧ i = .int .i64 j ∧ Hid (FE (openErr l) n j)) (fun i _ => n - (intOf i).toNat)
        case atStart => exact ⟨hW, 0, by omega, rfl, hid (FE.zero _ _)⟩
        case round =>
          obtain ⟨hW2, j, hj1, rfl, hr2⟩ := hrel
          by_cases hjn : j < n
          · obtain ⟨b, o, rfl, h0, h1, h2, h3⟩ := hE.opn (by omega)
            have hE1 := fun (W : World) (x : Ext w W) => hE.ext x
            have HE1 := hid hE1
            clear hE1
            go_wp2_with (go_at_call 79; refine (r08_endN _ _ _ _ _ _ (HE1.out _ (by assumption))).mono ?_; rintro e w2 ⟨rfl, rfl⟩)
            · go_ret2
              have he : endOf l (nth l j).txn < 0 := by assumption
              exact ⟨formed_leaf2 hl.out hn' hst.out hr2.out hjn (by decide) (by simp [openErr, he]), hW2⟩
            · go_roundw
              have he : 0 ≤ endOf l (nth l j).txn := by assumption
              case rel => exact ⟨hW2, j + 1, by omega, by go_num, hid (hr2.out.step hjn (by simp [openErr, lt0_false he]))⟩
              case measure => simp [intOf]; omega
          · go_wp2
            go_ret2
            exact ⟨formed_leaf3 hl.out hn' hst.out hr2.out (by omega), hW2⟩

end
end Go.Proofs.Ythjgmccpbcelgaa
