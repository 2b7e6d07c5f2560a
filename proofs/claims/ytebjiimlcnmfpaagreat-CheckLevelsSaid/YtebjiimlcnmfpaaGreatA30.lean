/-
  The program's edges.Nodes: the committed transactions, sorted.
-/
import Derived.Lib.OwnBridge
import Derived.Lib.QuietBelow
import Derived.Test.YtebjiimlcnmfpaaGreatA20
import Derived.Test.YtebjiimlcnmfpaaGreatA3
import Derived.Test.YtebjiimlcnmfpaaGreatB1
set_option linter.unusedVariables false
set_option linter.unusedSimpArgs false
namespace Go.Proofs.YtebjiimlcnmfpaaGreat
section
open Go Go.RowKit Go.Proofs Go.Shelf Go.Sort
set_option linter.unusedSimpArgs false
set_option linter.unusedVariables false
attribute [local go_sem] Ext.alloc Ext.alloc2 Ext.alloc3 Ext.alloc4 Ext.drewN_alloc Ext.drewN_alloc2 Ext.drew_alloc Ext.drew Ext.drewN toList_beq
attribute [-go_sem] Builtin.append_

theorem ext_grow (w : World) (os : Array Obj) : Ext w (grow w os) := below_regrown w w.drawn os
theorem i_flat (l : List Int) : l.flatMap intCs = l.map (Value.int .i64) := by rw [List.map_eq_flatMap]; rfl
/-- slices.Sort at a row of the call's own. -/
theorem sortInt_own (w W : World) (hw : Ext w W) (v : Value) (zs : List Int) (hsz : zs.length < 4611686018427387904) (h : W.ownsRow w.heap.size 3 1 v zs.length (zs.flatMap intCs)) :
    Calls Tryz.prog 53 #[v] W fun e w' => e = .returned (.tuple #[]) ∧ w'.ownsRow w.heap.size 3 1 v zs.length ((zs.mergeSort fun x y => decide (x ≤ y)).flatMap intCs) ∧ Ext w w' := by
  rw [i_flat] at h
  by_cases hv : v = .slice none 0 0
  · subst hv
    have hz : zs.length = 0 := by
      obtain ⟨_, ⟨_, h0⟩ | ⟨g, cap, cur, he, _⟩⟩ := h
      · exact h0
      · cases he
    obtain rfl : zs = [] := List.length_eq_zero_iff.1 hz
    refine (AnyM.slices_Sort_int_none sortInt none 0 W).mono ?_
    rintro e w' ⟨rfl, rfl⟩
    exact ⟨rfl, by simpa using h, hw⟩
  · obtain ⟨g, cap, rfl, hb, hlt, hn, hm, hl, hH⟩ := Go.Lib.holds_of_ownsRow (enc := Value.int .i64) h hv
    refine (AnyM.slices_Sort_int sortInt g 0 cap zs W hH hlt hsz).mono ?_
    rintro e w' ⟨rfl, n, os, rfl⟩
    have h2 := Go.Lib.ownsRow_putRow (q := n) (k := zs.length) (ys := zs.mergeSort fun x y => decide (x ≤ y)) h (List.length_mergeSort _) (Nat.le_refl _)
    rw [List.take_of_length_le (by rw [List.length_mergeSort]; omega), ← i_flat] at h2
    have h3 : Ext w (putRow (Value.int .i64) (Sort.ahead W n) g 0 (zs.mergeSort fun x y => decide (x ≤ y)).toArray) := Go.Lib.below_putRow hw hb
    exact ⟨rfl, own_ext h2 h3.le (ext_grow _ os), h3.trans (ext_grow _ os)⟩

/-- A sort of numbers that differ. -/
theorem msort_eq {zs : List Int} (h : zs.Nodup) : (zs.mergeSort fun x y => decide (x ≤ y)) = Rg.sortD zs := by
  have hpm := List.mergeSort_perm zs (fun x y => decide (x ≤ y))
  have hso := List.pairwise_mergeSort (le := fun x y : Int => decide (x ≤ y)) (fun a b c h1 h2 => by simp only [decide_eq_true_eq] at *; omega) (fun a b => by simp only [Bool.or_eq_true, decide_eq_true_eq]; omega) zs
  refine Rg.rising_eq ((hso.and (hpm.symm.nodup h)).imp fun {a b} hab => ?_) (Rg.sortD_rising zs) fun x => ?_
  · have h1 : a ≤ b := of_decide_eq_true hab.1
    have h2 := hab.2
    omega
  · rw [hpm.mem_iff, Rg.mem_sortD]
theorem lives_txns (l : List Ev) : ((lives l).map Life.txn).Nodup := by
  refine List.pairwise_map.2 ?_
  have h := List.Pairwise.and_mem.1 (livesFrom_nodup l l.length 0).1
  refine h.imp fun {a b} hab e => ?_
  obtain ⟨ha, hb, hlt⟩ := hab
  have hta : ∀ x ∈ lives l, ∃ j : Nat, firstOf l x.txn = j ∧ x.from_ = j := fun x hx => by
    obtain ⟨j, hj, h1, h2, h3⟩ := mem_lives hx
    obtain ⟨j', _, _, _, hx'⟩ := (mem_livesFrom l _ _ x).1 hx
    have e1 : x.txn = (nth l j').txn := by
      rw [hx']
      unfold lifeOf
      split <;> rfl
    have e2 : x.from_ = (j' : Int) := by
      rw [hx']
      unfold lifeOf
      split <;> rfl
    have : j' = j := by rw [h3] at e2; omega
    subst this
    exact ⟨j', by rw [e1, h1], h3⟩
  obtain ⟨j, h1, h2⟩ := hta a ha
  obtain ⟨k, h3, h4⟩ := hta b hb
  rw [e] at h1
  have : (j : Int) = k := h1.symm.trans h3
  omega
/-- The committed transactions, rising. -/
def nodesS (l : List Ev) : List Int := Rg.sortD (((lives l).filter Life.com).map Life.txn)
theorem coms_nodup (l : List Ev) : (((lives l).filter Life.com).map Life.txn).Nodup :=
  List.Pairwise.sublist (List.Sublist.map _ List.filter_sublist) (lives_txns l)
theorem nodesS_len (l : List Ev) : (nodesS l).length ≤ l.length := by
  unfold nodesS
  have h0 := Rg.sortD_len (((lives l).filter Life.com).map Life.txn)
  rw [List.length_map] at h0
  have := List.length_filter_le Life.com (lives l)
  have := lives_len l
  omega
set_option maxRecDepth 100000 in
set_option maxHeartbeats 4000000 in
theorem e_nodes (w : World) (A : Option Addr) (n cap : Nat) (l : List Ev) (hE : Evs w A n l) (hn : n ≤ 1000) (hc : n ≤ cap) :
    Calls Tryz.prog 24 #[.slice A n cap] w fun e w' => ∃ v, e = .returned v ∧ w'.ownsRow w.heap.size 3 1 v (nodesS l).length ((nodesS l).flatMap intCs) ∧ Ext w w' := by
  have hX := Ext.refl w
  have hl := hid hE.len
  have HE := hid hE
  clear hE
  go_enter Tryz.func24, Tryz.ntmps24
  go_wp2_with (go_at_call 52; refine (h_lives _ _ _ _ l HE.out hn hc).mono ?_; rintro e w1 ⟨A1, c1, rfl, hL1, hx1⟩)
  have hll : (lives l).length ≤ 1000 := by have := lives_len l; have := hl.out; omega
  have HL := hid hL1
  clear hL1
  obtain ⟨ls, hls⟩ : ∃ ls, lives l = ls := ⟨_, rfl⟩
  have hN : nodesS l = ((ls.filter Life.com).map Life.txn).mergeSort fun x y => decide (x ≤ y) := by unfold nodesS; rw [← hls, msort_eq (coms_nodup l)]
  have HN := hid hN
  clear hN
  rw [hls] at HL hll ⊢
  clear hls
  go_loopw [3, 9] (fun out i W => Ext w1 W ∧ ∃ (k : Nat) (pre : List Int), k ≤ ls.length ∧ i = .int .i64 k ∧ W.ownsRow w1.heap.size 3 1 out pre.length (pre.flatMap intCs) ∧ pre.length ≤ k ∧ Hid (pre = ((ls.take k).filter Life.com).map Life.txn)) (fun _ i _ => ls.length - (RowKit.intOf i).toNat)
  case atStart => exact ⟨Ext.refl _, 0, [], by omega, rfl, World.ownsRow_nil _ _ _ _, by simp, hid (by simp)⟩
  case round =>
    obtain ⟨hW, k, pre, hk1, rfl, hown, hpl, hr⟩ := hrel
    by_cases hlt : k < ls.length
    · obtain ⟨b, o, rfl, h0, h1, h2, h3⟩ := HL.out.opn (by omega)
      have hst : Hid (((ls.take (k + 1)).filter Life.com).map Life.txn = ((ls.take k).filter Life.com).map Life.txn ++ (if (lnth ls k).com = true then [(lnth ls k).txn] else [])) := hid (by
        rw [List.take_succ_eq_append_getElem hlt, List.filter_append, List.map_append]
        congr 1
        rw [show ls[k] = lnth ls k by simp [lnth, List.getD_eq_getElem?_getD, hlt]]
        by_cases hcm : (lnth ls k).com = true
        · rw [if_pos hcm]; simp [hcm]
        · rw [if_neg hcm]; simp [hcm])
      have c0 := h0 wr k hW hlt
      have c1' := h1 wr k hW hlt
      have c2 := h2 wr k hW hlt
      have c3 := h3 wr k hW hlt
      clear h0 h1 h2 h3
      obtain ⟨cb, hcb⟩ : ∃ cb, (lnth ls k).com = cb := ⟨_, rfl⟩
      rw [hcb] at hst c3
      clear hcb
      cases cb
      · have hWa := hW.alloc (.cells #[.int .i64 (lnth ls k).txn, .int .i64 (lnth ls k).from_, .int .i64 (lnth ls k).till, .bool false] 52)
        go_wp2
        exact ⟨⟨hWa, k + 1, pre, by omega, by go_num, hown.alloc _, by omega, hid (by rw [hst.out, if_neg (by simp), hr.out, List.append_nil])⟩, by simp [RowKit.intOf]; omega⟩
      · have hWa := hW.alloc (.cells #[.int .i64 (lnth ls k).txn, .int .i64 (lnth ls k).from_, .int .i64 (lnth ls k).till, .bool true] 52)
        obtain ⟨v', w5, hrun, hown5, hgrow, _⟩ := app_int (hown.alloc (.cells #[.int .i64 (lnth ls k).txn, .int .i64 (lnth ls k).from_, .int .i64 (lnth ls k).till, .bool true] 52)) hWa.le (by omega) 31 (lnth ls k).txn
        rw [World.size_alloc] at hrun
        have hW5 : Ext w1 w5 := Ext.grown hWa hgrow (own_block hown)
        go_wp2
        exact ⟨⟨hW5, k + 1, _, by omega, by go_num, hown5, by simp; omega, hid (by rw [hst.out, if_pos rfl, hr.out])⟩, by simp [RowKit.intOf]; omega⟩
    · have hpre : pre = (ls.filter Life.com).map Life.txn := by rw [hr.out, List.take_of_length_le (by omega)]
      have HS := hid (sortInt_own w1 wr hW _ pre (by omega) hown)
      go_wp2_with (go_at_call 53; (with_reducible refine HS.out.mono ?_); rintro e w6 ⟨rfl, hown6, hx6⟩)
      go_ret
      refine ⟨_, rfl, ?_, hx1.trans hx6⟩
      rw [HN.out, ← hpre, List.length_mergeSort]
      exact own_base hown6 hx1.le
end
end Go.Proofs.YtebjiimlcnmfpaaGreat
