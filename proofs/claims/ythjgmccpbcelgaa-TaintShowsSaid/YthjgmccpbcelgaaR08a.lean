/-
  Contracts of the reference's functions of chapter 8 that look for one place.
-/
import Derived.Test.YthjgmccpbcelgaaProg
import Derived.Test.YthjgmccpbcelgaaSpec
namespace Go.Proofs.Ythjgmccpbcelgaa
open Go Go.RowKit Go.Proofs
set_option linter.unusedSimpArgs false
set_option linter.unusedVariables false
attribute [local go_sem] Ext.alloc Ext.alloc2 Ext.alloc3 Ext.alloc4 Ext.drewN_alloc Ext.drewN_alloc2 Ext.drew_alloc Ext.drew Ext.drewN toList_beq

set_option maxHeartbeats 400000 in
theorem r08_first (w : World) (A : Option Addr) (n cap : Nat) (l : List Ev) (txn upto : Int) (hE : Evs w A n l) (hu0 : 0 ≤ upto) (hu : upto ≤ n) :
    Calls Try.prog 78 #[.slice A n cap, .int .i64 txn, .int .i64 upto] w fun e w' => e = .returned (.int .i64 (firstOf (l.take upto.toNat) txn)) ∧ w' = w := by
  obtain ⟨u, rfl⟩ := Int.eq_ofNat_of_zero_le hu0
  have hun : u ≤ n := by omega
  clear hu hu0
  have hl := hid hE.len
  have hbig := hE.big
  have hX := Ext.refl w
  go_enter Try.func78, Try.ntmps78
  go_wp2
  go_loop [7] (fun i => ∃ k : Nat, k ≤ u ∧ i = .int .i64 k ∧ Hid (idx (isOf txn) ((l.take u).drop k) k = (firstOf (l.take u) txn))) (fun i => u - (intOf i).toNat)
  case atStart => exact ⟨0, by omega, rfl, hid rfl⟩
  case round =>
    obtain ⟨k, hk1, rfl, hr⟩ := hrel
    by_cases hlt : k < u
    · have hkn : k < n := by omega
      obtain ⟨b, o, rfl, h0, h1, h2, h3⟩ := hE.opn (by omega)
      have hs := hid (drop_step (l.take u) Ev.z (k := k) (by rw [List.length_take, hl.out]; omega))
      have hg : Hid ((l.take u).getD k Ev.z = nth l k) := hid (by simp [nth, List.getD_eq_getElem?_getD, List.getElem?_take, hlt])
      go_wp2
      all_goals first
        | (go_ret
           refine ⟨ret_int ?_, rfl⟩
           rw [← hr.out, hs.out, idx_cons, hg.out]
           clear hr hs hg h0 h1 h2 h3 hE hl hX
           simp_all [isOf])
        | (go_round
           case rel =>
             refine ⟨k + 1, by omega, by go_num, hid ?_⟩
             rw [← hr.out, hs.out, idx_cons, hg.out]
             clear hr hs hg h0 h1 h2 h3 hE hl hX
             simp_all [isOf]
           case measure => simp [intOf]; omega)
    · go_wp2
      go_ret
      refine ⟨ret_int ?_, rfl⟩
      rw [← hr.out, drop_end _ (by rw [List.length_take, hl.out]; omega)]
      rfl

set_option maxHeartbeats 400000 in
theorem r08_end (w : World) (A : Option Addr) (n cap : Nat) (l : List Ev) (txn upto : Int) (hE : Evs w A n l) (hu0 : 0 ≤ upto) (hu : upto ≤ n) :
    Calls Try.prog 79 #[.slice A n cap, .int .i64 txn, .int .i64 upto] w fun e w' => e = .returned (.int .i64 (endOf (l.take upto.toNat) txn)) ∧ w' = w := by
  obtain ⟨u, rfl⟩ := Int.eq_ofNat_of_zero_le hu0
  have hun : u ≤ n := by omega
  clear hu hu0
  have hl := hid hE.len
  have hbig := hE.big
  have hX := Ext.refl w
  go_enter Try.func79, Try.ntmps79
  go_wp2
  go_loop [7] (fun i => ∃ k : Nat, k ≤ u ∧ i = .int .i64 k ∧ Hid (idx (endsOf txn) ((l.take u).drop k) k = (endOf (l.take u) txn))) (fun i => u - (intOf i).toNat)
  case atStart => exact ⟨0, by omega, rfl, hid rfl⟩
  case round =>
    obtain ⟨k, hk1, rfl, hr⟩ := hrel
    by_cases hlt : k < u
    · have hkn : k < n := by omega
      obtain ⟨b, o, rfl, h0, h1, h2, h3⟩ := hE.opn (by omega)
      have hs := hid (drop_step (l.take u) Ev.z (k := k) (by rw [List.length_take, hl.out]; omega))
      have hg : Hid ((l.take u).getD k Ev.z = nth l k) := hid (by simp [nth, List.getD_eq_getElem?_getD, List.getElem?_take, hlt])
      go_wp2
      all_goals first
        | (go_ret
           refine ⟨ret_int ?_, rfl⟩
           rw [← hr.out, hs.out, idx_cons, hg.out]
           clear hr hs hg h0 h1 h2 h3 hE hl hX
           simp_all [endsOf, ends])
        | (go_round
           case rel =>
             refine ⟨k + 1, by omega, by go_num, hid ?_⟩
             rw [← hr.out, hs.out, idx_cons, hg.out]
             clear hr hs hg h0 h1 h2 h3 hE hl hX
             simp_all [endsOf, ends]
           case measure => simp [intOf]; omega)
    · go_wp2
      go_ret
      refine ⟨ret_int ?_, rfl⟩
      rw [← hr.out, drop_end _ (by rw [List.length_take, hl.out]; omega)]
      rfl

set_option maxHeartbeats 400000 in
theorem r08_writer (w : World) (A : Option Addr) (n cap : Nat) (l : List Ev) (key val : ByteArray) (hE : Evs w A n l) :
    Calls Try.prog 62 #[.slice A n cap, .string key, .string val] w fun e w' => e = .returned (.int .i64 (writer l key val)) ∧ w' = w := by
  have hl := hid hE.len
  have hbig := hE.big
  have hX := Ext.refl w
  go_enter Try.func62, Try.ntmps62
  go_wp2
  go_loop [7] (fun i => ∃ k : Nat, k ≤ n ∧ i = .int .i64 k ∧ Hid (idx (writes key val) (l.drop k) k = (writer l key val))) (fun i => n - (intOf i).toNat)
  case atStart => exact ⟨0, by omega, rfl, hid rfl⟩
  case round =>
    obtain ⟨k, hk1, rfl, hr⟩ := hrel
    by_cases hlt : k < n
    · have hkn : k < n := by omega
      obtain ⟨b, o, rfl, h0, h1, h2, h3⟩ := hE.opn (by omega)
      have hs := hid (drop_step l Ev.z (k := k) (by rw [hl.out]; omega))
      have hg : Hid (l.getD k Ev.z = nth l k) := hid (by rfl)
      go_wp2
      all_goals first
        | (go_ret
           refine ⟨ret_int ?_, rfl⟩
           rw [← hr.out, hs.out, idx_cons, hg.out]
           clear hr hs hg h0 h1 h2 h3 hE hl hX
           simp_all [writes])
        | (go_round
           case rel =>
             refine ⟨k + 1, by omega, by go_num, hid ?_⟩
             rw [← hr.out, hs.out, idx_cons, hg.out]
             clear hr hs hg h0 h1 h2 h3 hE hl hX
             simp_all [writes]
           case measure => simp [intOf]; omega)
    · go_wp2
      go_ret
      refine ⟨ret_int ?_, rfl⟩
      rw [← hr.out, drop_end _ (by rw [hl.out]; omega)]
      rfl

set_option maxHeartbeats 400000 in
theorem r08_last (w : World) (A : Option Addr) (n cap : Nat) (l : List Ev) (txn before : Int) (key : ByteArray) (hE : Evs w A n l) :
    Calls Try.prog 42 #[.slice A n cap, .int .i64 txn, .string key, .int .i64 before] w fun e w' => e = .returned (.int .i64 (lastOf l txn key before)) ∧ w' = w := by
  have hl := hid hE.len
  have hbig := hE.big
  have hX := Ext.refl w
  go_enter Try.func42, Try.ntmps42
  go_wp2
  go_loop [9, 10] (fun d i => ∃ (k : Nat) (q : Int), k ≤ n ∧ i = .int .i64 k ∧ d = .int .i64 q ∧ Hid (lastIdx (wroteBy txn key) ((l.take before.toNat).drop k) k q = lastOf l txn key before)) (fun _ i => n - (intOf i).toNat)
  case atStart => exact ⟨0, -1, by omega, rfl, rfl, hid rfl⟩
  case round =>
    obtain ⟨k, q, hk1, rfl, rfl, hr⟩ := hrel
    by_cases hlt : k < n
    · by_cases hb : (k : Int) < before
      · obtain ⟨b, o, rfl, h0, h1, h2, h3⟩ := hE.opn (by omega)
        have hs := hid (drop_step (l.take before.toNat) Ev.z (k := k) (by rw [List.length_take, hl.out]; omega))
        have hg : Hid ((l.take before.toNat).getD k Ev.z = nth l k) := hid (by simp [nth, List.getD_eq_getElem?_getD, List.getElem?_take, show k < before.toNat by omega])
        go_wp2
        all_goals
          go_round
          case rel =>
            refine ⟨k + 1, _, by omega, by go_num, rfl, hid ?_⟩
            rw [← hr.out, hs.out, lastIdx_cons, hg.out]
            clear hr hs hg h0 h1 h2 h3 hE hl hX
            simp_all [wroteBy]
          case measure => simp [intOf]; omega
      · go_wp2
        go_ret
        refine ⟨ret_int ?_, rfl⟩
        rw [← hr.out, drop_end _ (by rw [List.length_take]; omega)]
        rfl
    · go_wp2
      go_ret
      refine ⟨ret_int ?_, rfl⟩
      rw [← hr.out, drop_end _ (by rw [List.length_take, hl.out]; omega)]
      rfl

end Go.Proofs.Ythjgmccpbcelgaa
