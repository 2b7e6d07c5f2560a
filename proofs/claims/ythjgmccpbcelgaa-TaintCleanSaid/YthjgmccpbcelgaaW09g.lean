/-
  TaintClean: the walk.
-/
import Derived.Test.YthjgmccpbcelgaaW09a
namespace Go.Proofs.Ythjgmccpbcelgaa
open Go Go.RowKit Go.Proofs
set_option linter.unusedSimpArgs false
set_option linter.unusedVariables false
attribute [local go_sem] Ext.alloc Ext.alloc2 Ext.alloc3 Ext.alloc4 Ext.drewN_alloc Ext.drewN_alloc2 Ext.drew_alloc Ext.drew Ext.drewN toList_beq

def noReads (l : List Ev) : List Ev := l.filter fun x => x.kind != 2
theorem noReads_step {l : List Ev} {k : Nat} (h : k < l.length) : noReads (l.take (k + 1)) = noReads (l.take k) ++ (if (nth l k).kind = 2 then [] else [nth l k]) := by
  unfold noReads
  rw [List.take_succ_eq_append_getElem h, List.filter_append]
  congr 1
  rw [show l[k] = nth l k by simp [nth, List.getD_eq_getElem?_getD, h]]
  by_cases e : (nth l k).kind = 2 <;> simp [e]
theorem noReads_bads (l : List Ev) : bads (noReads l) = [] := by
  have hk : ∀ i : Int, (badAt (noReads l) i).kind = 0 := fun i => by
    have hc : counts (noReads l) i = false := by
      cases hc : counts (noReads l) i with
      | false => rfl
      | true =>
        simp only [counts, Bool.and_eq_true, decide_eq_true_eq, beq_iff_eq] at hc
        obtain ⟨h0, h1, h2, _⟩ := hc
        have hi : i.toNat < (noReads l).length := by omega
        have hm : nth (noReads l) i.toNat ∈ noReads l := by
          rw [show nth (noReads l) i.toNat = (noReads l)[i.toNat] by simp [nth, List.getD_eq_getElem?_getD, hi]]
          exact List.getElem_mem hi
        have := (List.mem_filter.1 hm).2
        simp [h2] at this
    unfold badAt; rw [if_pos hc]; rfl
  have h : ∀ m i, badsFrom (noReads l) m i = [] := by
    intro m
    induction m with
    | zero => intro i; rfl
    | succ m ih =>
      intro i
      unfold badsFrom
      rw [if_pos (hk i)]
      exact ih _
  exact h _ _
theorem first_clean {l : List Ev} {k : Nat} (hv : (nth l k).val = ByteArray.empty) (ho : outer l k = true) : badAt l k = Bad.z := by
  simp only [outer, Bool.and_eq_true, decide_eq_true_eq, Int.toNat_natCast] at ho
  unfold badAt
  simp only [Int.toNat_natCast]
  rw [if_neg (by rw [ho.1]; simp), if_neg (by omega), if_pos hv]

attribute [-go_sem] Builtin.append_

theorem infoEv : (Try.prog.info? 31).map (fun i => (i.zero, i.size, i.bytes)) = some (some (.agg #[.int .i64 0, .int .i64 0, .string ByteArray.empty, .string ByteArray.empty]), 4, 48) := by kernel_rfl

set_option maxRecDepth 100000 in
set_option maxHeartbeats 4000000 in
theorem w09_clean (w : World) (A : Option Addr) (n cap : Nat) (l : List Ev) (hE : Evs w A n l) :
    Calls Try.prog 6 #[.slice A n cap] w fun e w' => e = .returned (.bool true) ∧ Ext w w' := by
  have hX := Ext.refl w
  have hbig := hE.big
  have hl := hid hE.len
  have HE := hid hE
  obtain ⟨i0, hi, hz0, hz1, hz2⟩ := info_parts infoEv
  by_cases hn : n ≤ 300
  · have hd : decide (n ≤ 300) = true := by simp [hn]
    clear hE
    go_enter Try.func6, Try.ntmps6
    go_wp2_with (first
      | (go_at_call 30; refine (w09_shown _).mono ?_; rintro e w1 ⟨rfl, hx1⟩)
      | (go_at_call 31; refine (w09_few _ _ _ _).mono ?_; rintro e w2 ⟨rfl, hx2⟩; rw [hd]; have hX2 := hx1.trans hx2))
    go_loopw [5, 6] (fun out i W => Ext w2 W ∧ ∃ (k : Nat) (pre : List Ev), k ≤ n ∧ i = .int .i64 k ∧ W.ownsRow w2.heap.size 31 4 out pre.length (pre.flatMap Ev.cs) ∧ pre.length ≤ k ∧ Hid (pre = noReads (l.take k))) (fun _ i _ => n - (intOf i).toNat)
    case atStart => exact ⟨Ext.refl _, 0, [], by omega, rfl, World.ownsRow_nil _ _ _ _, by simp, hid (by simp [noReads])⟩
    case round =>
      obtain ⟨hW, k, pre, hk1, rfl, hown, hpl, hr⟩ := hrel
      have hX3 := hX2.trans hW
      by_cases hlt : k < n
      · obtain ⟨b, o, rfl, h0, h1, h2, h3⟩ := HE.out.opn (by omega)
        have hst := hid (noReads_step (l := l) (k := k) (by rw [hl.out]; exact hlt))
        by_cases hz : (nth l k).kind = 2
        · have hz1' : ((nth l k).kind == 2) = true := by simp [hz]
          have hz2' : ((nth l k).kind != 2) = false := by simp [hz]
          have HZ := hid hz
          clear hz
          go_wp2
          go_roundw
          case rel => exact ⟨hW, k + 1, pre, by omega, by go_num, hown, by omega, hid (by rw [hst.out, if_pos HZ.out, hr.out]; simp)⟩
          case measure => simp [intOf]; omega
        · have hz1' : ((nth l k).kind == 2) = false := by simp [hz]
          have hz2' : ((nth l k).kind != 2) = true := by simp [hz]
          have HZ := hid hz
          clear hz
          go_wp2
          go_wp2
          obtain ⟨v', w4, hrun, hown2, hgrow, _⟩ := run_append_own (P := Try.prog) _ w2.heap.size 22 22 31 i0 (.agg #[.int .i64 0, .int .i64 0, .string ByteArray.empty, .string ByteArray.empty]) 4 48 Try.underlying22 hi hz0 hz1 hz2 rfl (by decide) _ _ _ (hown.alloc (.cells #[.int .i64 (nth l k).kind, .int .i64 (nth l k).txn, .string (nth l k).key, .string (nth l k).val] 31)) ⟨wr.heap.size, 0, none⟩ 1 1 [.int .i64 (nth l k).kind, .int .i64 (nth l k).txn, .string (nth l k).key, .string (nth l k).val] rfl (new_cells rfl) (by intro u hu; simp at hu; rcases hu with rfl | rfl | rfl | rfl <;> rfl) (by unfold maxLen; omega) (by omega) (by have := hW.le; simp; omega)
          rw [hrun]
          have e1 : pre.flatMap Ev.cs ++ [.int .i64 (nth l k).kind, .int .i64 (nth l k).txn, .string (nth l k).key, .string (nth l k).val] = (pre ++ [nth l k]).flatMap Ev.cs := by simp [Ev.cs]
          have e2 : pre.length + 1 = (pre ++ [nth l k]).length := by simp
          rw [e1, e2] at hown2
          have hW2 : Ext w2 w4 := Ext.grown (Ext.alloc hW _) hgrow (own_block hown)
          clear e1 e2
          go_wp2
          go_roundw
          case rel => exact ⟨hW2, k + 1, pre ++ [nth l k], by omega, by go_num, hown2, by simp; omega, hid (by rw [hst.out, if_neg HZ.out, hr.out])⟩
          case measure => simp [intOf]; omega
      · obtain rfl : k = n := by omega
        obtain ⟨A', c', e', hs'⟩ := sl_of_own (l := pre) (c := Ev.cs) (z := Ev.z) (hc := fun _ => rfl) hown (by omega)
        have hs2 : Evs _ A' pre.length pre := hs'
        have hb0 : Hid ((bads pre).length = 0) := hid (by rw [hr.out, noReads_bads]; rfl)
        subst e'
        clear hown hs'
        go_wp2_with (go_at_call 35; refine (t_all _ _ _ _ _ hs2 (by omega)).mono ?_; rintro e w5 ⟨B, cb, rfl, hsb, hx5⟩; rw [hb0.out]; have hX5 := hX3.trans hx5)
        go_loopw [8] (fun i W => Ext w W ∧ ∃ j : Nat, j ≤ k ∧ i = .int .i64 j) (fun i _ => k - (intOf i).toNat)
        case atStart => exact ⟨hX5, 0, by omega, rfl⟩
        case round =>
          obtain ⟨hW2, j, hj1, rfl⟩ := hrel
          by_cases hlt2 : j < k
          · obtain ⟨b, o, rfl, h0, h1, h2, h3⟩ := HE.out.opn (by omega)
            by_cases hz : (nth l j).kind = 2
            · by_cases hv : (nth l j).val = ByteArray.empty
              · have hv1 : (nth l j).val.toList = [] := (toList_nil_iff_emptyBytes _).2 hv
                have hv2 : (nth l j).val.toList.isEmpty = true := by rw [hv1]; rfl
                by_cases ho : outer l j = true
                · have hz3 := first_clean hv ho
                  have HZ : Hid ((badAt l j).kind = 0 ∧ (badAt l j).i = 0 ∧ (badAt l j).j = 0) := hid (by rw [hz3]; exact ⟨rfl, rfl, rfl⟩)
                  have HO := hid ho
                  clear hz3 ho
                  go_wp2_with (first
                    | (go_at_call 40; refine (t_outer _ _ _ _ _ _ (HE.out.ext hW2)).mono ?_; rintro e w6 ⟨rfl, hx6⟩; rw [HO.out]; have hX6 := hW2.trans hx6)
                    | (go_at_call 33; refine (t_at _ _ _ _ _ _ (HE.out.ext hX6)).mono ?_; rintro e w7 ⟨rfl, hx7⟩; rw [HZ.out.1, HZ.out.2.1, HZ.out.2.2]; have hX7 := hX6.trans hx7))
                  go_roundw
                  case rel => exact ⟨hX7, j + 1, by omega, by go_num⟩
                  case measure => simp [intOf]; omega
                · have HO : Hid (outer l j = false) := hid (by simpa using ho)
                  clear ho
                  go_wp2_with (go_at_call 40; refine (t_outer _ _ _ _ _ _ (HE.out.ext hW2)).mono ?_; rintro e w6 ⟨rfl, hx6⟩; rw [HO.out]; have hX6 := hW2.trans hx6)
                  go_roundw
                  case rel => exact ⟨hX6, j + 1, by omega, by go_num⟩
                  case measure => simp [intOf]; omega
              · have hv1 : ¬ (nth l j).val.toList = [] := by rw [toList_nil_iff_emptyBytes]; exact hv
                have hv2 : (nth l j).val.toList.isEmpty = false := by simpa using hv1
                clear hv
                go_wp2
                go_roundw
                case rel => exact ⟨hW2, j + 1, by omega, by go_num⟩
                case measure => simp [intOf]; omega
            · have hz1' : ((nth l j).kind == 2) = false := by simp [hz]
              clear hz
              go_wp2
              go_roundw
              case rel => exact ⟨hW2, j + 1, by omega, by go_num⟩
              case measure => simp [intOf]; omega
          · go_wp2
            go_ret
            exact ⟨rfl, hW2⟩
  · have hd : decide (n ≤ 300) = false := by simp [hn]
    clear hE
    go_enter Try.func6, Try.ntmps6
    go_wp2_with (first
      | (go_at_call 30; refine (w09_shown _).mono ?_; rintro e w1 ⟨rfl, hx1⟩)
      | (go_at_call 31; refine (w09_few _ _ _ _).mono ?_; rintro e w2 ⟨rfl, hx2⟩; rw [hd]))
    go_ret
    exact ⟨rfl, hx1.trans hx2⟩
end Go.Proofs.Ythjgmccpbcelgaa
