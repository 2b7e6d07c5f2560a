/-
  Contracts of the reference's functions of chapter 9: at every place; all; are two rows the same?
-/
import Derived.Test.YthjgmccpbcelgaaProg
import Derived.Test.YthjgmccpbcelgaaR09
namespace Go.Proofs.Ythjgmccpbcelgaa
open Go Go.RowKit Go.Proofs
set_option linter.unusedSimpArgs false
set_option linter.unusedVariables false
attribute [local go_sem] Ext.alloc Ext.alloc2 Ext.alloc3 Ext.alloc4 Ext.drewN_alloc Ext.drewN_alloc2 Ext.drew_alloc Ext.drew Ext.drewN toList_beq

theorem r09_at (w : World) (A : Option Addr) (n cap : Nat) (l : List Ev) (i : Int) (hE : Evs w A n l) :
    Calls Try.prog 39 #[.slice A n cap, .int .i64 i] w fun e w' => e = .returned (.agg #[.int .i64 (badAt l i).kind, .int .i64 (badAt l i).i, .int .i64 (badAt l i).j]) ∧ Ext w w' := by
  cases hc : counts l i
  · exact r09_at0 w A n cap l i hE hc
  · have hc' := hc
    simp only [counts, Bool.and_eq_true, decide_eq_true_eq] at hc'
    obtain ⟨h0, h1, _⟩ := hc'
    obtain ⟨k, rfl⟩ := Int.eq_ofNat_of_zero_le h0
    have hk : k < n := by have := hE.len; omega
    have hr := lastIdx_range (wroteBy (nth l k).txn (nth l k).key) (l.take (k : Int).toNat) 0 (-1) (by omega)
    have hl2 : (l.take (k : Int).toNat).length ≤ k := by simp; omega
    by_cases hL : lastOf l (nth l k).txn (nth l k).key k < 0
    · by_cases hv : (nth l k).val = ByteArray.empty
      · exact r09_at2 w A n cap k _ l hE hk hc rfl hL (.inl hv)
      · by_cases hw : writer l (nth l k).key (nth l k).val < 0
        · exact r09_at2 w A n cap k _ l hE hk hc rfl hL (.inr ⟨hv, hw⟩)
        · obtain ⟨u, hu⟩ := Int.eq_ofNat_of_zero_le (show 0 ≤ writer l (nth l k).key (nth l k).val by omega)
          have := idx_lt (writes (nth l k).key (nth l k).val) l
          have e : writer l (nth l k).key (nth l k).val = idx (writes (nth l k).key (nth l k).val) l 0 := rfl
          exact r09_at3 w A n cap k u _ l hE hk hc rfl hL hv hu (by have := hE.len; omega)
    · obtain ⟨kk, hkk⟩ := Int.eq_ofNat_of_zero_le (show 0 ≤ lastOf l (nth l k).txn (nth l k).key k by omega)
      have e : lastOf l (nth l k).txn (nth l k).key k = lastIdx (wroteBy (nth l k).txn (nth l k).key) (l.take (k : Int).toNat) 0 (-1) := rfl
      exact r09_at1 w A n cap k kk l hE hk hc hkk (by omega)

def RBadsR (w : World) (l : List Bad) (e : Ending) (w' : World) : Prop := ∃ A cap, e = .returned (.slice A l.length cap) ∧ Bads w' A l.length l ∧ Ext w w'
theorem infoBadR : (Try.prog.info? 28).map (fun i => (i.zero, i.size, i.bytes)) = some (some (.agg #[.int .i64 0, .int .i64 0, .int .i64 0]), 3, 24) := by kernel_rfl

set_option maxRecDepth 100000 in
set_option maxHeartbeats 2000000 in
theorem r09_all (w : World) (A : Option Addr) (n cap : Nat) (l : List Ev) (hE : Evs w A n l) (hn : n ≤ 1000) :
    Calls Try.prog 36 #[.slice A n cap] w (RBadsR w (bads l)) := by
  have hX := Ext.refl w
  have hbig := hE.big
  have hl := hid hE.len
  have HE := hid hE
  obtain ⟨i0, hi, hz0, hz1, hz2⟩ := info_parts infoBadR
  clear hE
  go_enter Try.func36, Try.ntmps36
  go_wp2
  go_loopw [3, 4] (fun out i W => Ext w W ∧ ∃ (k : Nat) (pre : List Bad), k ≤ n ∧ i = .int .i64 k ∧ W.ownsRow w.heap.size 28 3 out pre.length (pre.flatMap Bad.cs) ∧ pre.length ≤ k ∧ Hid (pre ++ badsFrom l (n - k) k = bads l)) (fun _ i _ => n - (intOf i).toNat)
  case atStart => exact ⟨hX, 0, [], by omega, rfl, World.ownsRow_nil _ _ _ _, by simp, hid (by unfold bads; rw [hl.out]; rfl)⟩
  case round =>
    obtain ⟨hW, k, pre, hk1, rfl, hown, hpl, hr⟩ := hrel
    by_cases hlt : k < n
    · have hst : Hid (badsFrom l (n - k) k = if (badAt l k).kind = 0 then badsFrom l (n - (k + 1)) (k + 1) else badAt l k :: badsFrom l (n - (k + 1)) (k + 1)) := hid (by rw [show n - k = (n - (k + 1)) + 1 by omega]; rfl)
      by_cases hz : (badAt l k).kind = 0
      · have HZ := hid hz
        go_wp2_with (go_at_call 39; refine (r09_at _ _ _ _ _ _ (HE.out.ext hW)).mono ?_; rintro e w1 ⟨rfl, hx1⟩)
        go_roundw
        case rel =>
          refine ⟨Ext.alloc (hW.trans hx1) _, k + 1, pre, by omega, by go_num, (own_ext hown hW.le hx1).alloc _, by omega, hid ?_⟩
          rw [← hr.out, hst.out, if_pos HZ.out]
        case measure => simp [intOf]; omega
      · have hk1' : ((badAt l k).kind == 0) = false := beq_eq_false_iff_ne.2 hz
        have hk2' : ((badAt l k).kind != 0) = true := by simp [hz]
        have HK := hid hz
        clear hz
        go_wp2_with (first
          | (go_at_call 39; refine (r09_at _ _ _ _ _ _ (HE.out.ext hW)).mono ?_; rintro e w1 ⟨rfl, hx1⟩; have hown1 := own_ext hown hW.le hx1; have hsz1 := hW.le; have hsz2 := hx1.le; have hX1 := hW.trans hx1)
          | (at_builtin; refine wpList_append_own _ rfl _ _ 37 rfl w.heap.size 28 i0 (.agg #[.int .i64 0, .int .i64 0, .int .i64 0]) 3 24 Try.underlying37 hi hz0 hz1 hz2 rfl (by decide) _ _ _ rfl ((hown1.alloc _).alloc _) ⟨w1.heap.size + 1, 0, none⟩ 1 1 [.int .i64 (badAt l k).kind, .int .i64 (badAt l k).i, .int .i64 (badAt l k).j] rfl rfl (new_cells (by simp)) (by intro u hu; simp at hu; rcases hu with rfl | rfl | rfl <;> rfl) (by unfold maxLen; omega) (by omega) (by simp; omega) ?_; intro v' w2 hown2 hgrow _))
        have e1 : pre.flatMap Bad.cs ++ [.int .i64 (badAt l k).kind, .int .i64 (badAt l k).i, .int .i64 (badAt l k).j] = (pre ++ [badAt l k]).flatMap Bad.cs := by simp [Bad.cs]
        have e2 : pre.length + 1 = (pre ++ [badAt l k]).length := by simp
        rw [e1, e2] at hown2
        have hW2 : Ext w w2 := Ext.grown (Ext.alloc (Ext.alloc hX1 _) _) hgrow (own_block hown1)
        clear e1 e2
        go_wp2
        go_roundw
        case rel =>
          refine ⟨hW2, k + 1, pre ++ [badAt l k], by omega, by go_num, hown2, by simp; omega, hid ?_⟩
          rw [← hr.out, hst.out, if_neg HK.out]; simp
        case measure => simp [intOf]; omega
    · go_wp2
      have hb : pre = bads l := by rw [← hr.out, show n - k = 0 by omega]; simp [badsFrom]
      obtain ⟨A', c', e', hs'⟩ := sl_of_own (l := pre) (c := Bad.cs) (z := Bad.z) (hc := fun _ => rfl) hown (by omega)
      subst hb
      go_ret
      exact ⟨A', c', by rw [← e']; rfl, hs', hW⟩

theorem take_eq_step {α : Type} [DecidableEq α] {a b : List α} {z : α} {k : Nat} (h : a.take k = b.take k) (ha : k < a.length) (hb : k < b.length) (he : a.getD k z = b.getD k z) : a.take (k + 1) = b.take (k + 1) := by
  rw [List.take_succ_eq_append_getElem ha, List.take_succ_eq_append_getElem hb, h]
  simp only [List.getD_eq_getElem?_getD, List.getElem?_eq_getElem ha, List.getElem?_eq_getElem hb, Option.getD_some] at he
  rw [he]

set_option maxRecDepth 100000 in
set_option maxHeartbeats 2000000 in
theorem r09_same (w : World) (A B : Option Addr) (n m ca cb : Nat) (a b : List Bad) (hA : Bads w A n a) (hB : Bads w B m b) :
    Calls Try.prog 37 #[.slice A n ca, .slice B m cb] w fun e w' => e = .returned (.bool (decide (a = b))) ∧ Ext w w' := by
  have hX := Ext.refl w
  have hbig := hA.big
  have hla := hid (Sl.len hA)
  have hlb := hid (Sl.len hB)
  by_cases hnm : n = m
  · subst hnm
    go_enter Try.func37, Try.ntmps37
    go_wp2
    go_loopw [5] (fun i W => Ext w W ∧ ∃ (k : Nat), k ≤ n ∧ i = .int .i64 k ∧ Hid (a.take k = b.take k)) (fun i _ => n - (intOf i).toNat)
    case atStart => exact ⟨hX, 0, by omega, rfl, hid (by simp)⟩
    case round =>
      obtain ⟨hW, k, hk1, rfl, hr⟩ := hrel
      by_cases hlt : k < n
      · obtain ⟨b1, o1, rfl, h0, h1, h2⟩ := Bads.opn hA (by omega)
        obtain ⟨b2, o2, rfl, g0, g1, g2⟩ := Bads.opn hB (by omega)
        by_cases he : bnth a k = bnth b k
        · have HE := hid he
          have q0 : (bnth a k).kind = (bnth b k).kind := by rw [he]
          have q1 : (bnth a k).i = (bnth b k).i := by rw [he]
          have q2 : (bnth a k).j = (bnth b k).j := by rw [he]
          clear he
          go_wp2
          go_quiet (fail)
          go_wp2
          go_roundw
          case rel => exact ⟨hW.drewN _, k + 1, by omega, by go_num, hid (take_eq_step (z := Bad.z) hr.out (by rw [hla.out]; exact hlt) (by rw [hlb.out]; exact hlt) HE.out)⟩
          case measure => simp [intOf]; omega
        · have hne : a ≠ b := fun e => he (by rw [e])
          have HN := hid hne
          have hd : (bnth a k).kind ≠ (bnth b k).kind ∨ ((bnth a k).kind = (bnth b k).kind ∧ (bnth a k).i ≠ (bnth b k).i) ∨ ((bnth a k).kind = (bnth b k).kind ∧ (bnth a k).i = (bnth b k).i ∧ (bnth a k).j ≠ (bnth b k).j) := by
            by_cases q0 : (bnth a k).kind = (bnth b k).kind
            · by_cases q1 : (bnth a k).i = (bnth b k).i
              · by_cases q2 : (bnth a k).j = (bnth b k).j
                · exfalso; apply he
                  cases hx : bnth a k; cases hy : bnth b k
                  rw [hx, hy] at q0 q1 q2
                  simp_all
                · exact .inr (.inr ⟨q0, q1, q2⟩)
              · exact .inr (.inl ⟨q0, q1⟩)
            · exact .inl q0
          clear he hne
          rcases hd with q0 | ⟨q0, q1⟩ | ⟨q0, q1, q2⟩
          · have d0 : ((bnth a k).kind == (bnth b k).kind) = false := beq_eq_false_iff_ne.2 q0
            go_wp2
            go_quiet (fail)
            go_wp2
            go_ret
            exact ⟨ret_bool (by simp [HN.out]), hW.drewN _⟩
          · have d1 : ((bnth a k).i == (bnth b k).i) = false := beq_eq_false_iff_ne.2 q1
            go_wp2
            go_quiet (fail)
            go_wp2
            go_ret
            exact ⟨ret_bool (by simp [HN.out]), hW.drewN _⟩
          · have d2 : ((bnth a k).j == (bnth b k).j) = false := beq_eq_false_iff_ne.2 q2
            go_wp2
            go_quiet (fail)
            go_wp2
            go_ret
            exact ⟨ret_bool (by simp [HN.out]), hW.drewN _⟩
      · go_wp2
        go_ret
        refine ⟨ret_bool ?_, hW⟩
        have := hr.out
        rw [List.take_of_length_le (by rw [hla.out]; omega), List.take_of_length_le (by rw [hlb.out]; omega)] at this
        simp [this]
  · have hne : a ≠ b := fun e => hnm (by rw [← hla.out, ← hlb.out, e])
    have HN := hid hne
    have h1 : ((n : Int) == (m : Int)) = false := beq_eq_false_iff_ne.2 (by omega)
    have h2 : ((n : Int) != (m : Int)) = true := bne_iff_ne.2 (by omega)
    have h3 : (n == m) = false := beq_eq_false_iff_ne.2 hnm
    have h4 : (n != m) = true := bne_iff_ne.2 hnm
    have HH := hid hnm
    clear hne hnm
    go_enter Try.func37, Try.ntmps37
    go_wp2
    go_ret
    exact ⟨ret_bool (by simp [HN.out]), hX⟩

end Go.Proofs.Ythjgmccpbcelgaa
