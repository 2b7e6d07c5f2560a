/-
  TaintAborts and TaintOwn: the walks.
-/
import Derived.Test.YthjgmccpbcelgaaW09a
namespace Go.Proofs.Ythjgmccpbcelgaa
open Go Go.RowKit Go.Proofs
set_option linter.unusedSimpArgs false
set_option linter.unusedVariables false
attribute [local go_sem] Ext.alloc Ext.alloc2 Ext.alloc3 Ext.alloc4 Ext.drewN_alloc Ext.drewN_alloc2 Ext.drew_alloc Ext.drew Ext.drewN toList_beq

/-- What the walk of both laws asks of a transaction's life. -/
theorem counts_find {l : List Ev} {k : Nat} (hk : k < l.length) (h2 : (nth l k).kind = 2) (hc : (findL l (nth l k).txn).1.com = true) (ht : (k : Int) < (findL l (nth l k).txn).1.till) : counts l k = true := by
  obtain ⟨_, _, e1, e2⟩ := findL_of hk
  rw [e1] at hc
  rw [e2, if_neg (by have := comOf_end hc; omega)] at ht
  simp [counts, hk, h2, hc, ht]
theorem counts_not {l : List Ev} {k : Nat} (hk : k < l.length) (h : ¬ ((findL l (nth l k).txn).1.com = true ∧ (k : Int) < (findL l (nth l k).txn).1.till)) : counts l k = false := by
  obtain ⟨_, _, e1, e2⟩ := findL_of hk
  rw [e1, e2] at h
  cases hcnt : counts l k with
  | false => rfl
  | true =>
    exfalso; apply h
    simp [counts] at hcnt
    obtain ⟨_, _, hc, hlt⟩ := hcnt
    exact ⟨hc, by rw [if_neg (by have := comOf_end hc; omega)]; exact hlt⟩

set_option maxRecDepth 100000 in
set_option maxHeartbeats 2000000 in
theorem w09_aborts (w : World) (A : Option Addr) (n cap : Nat) (l : List Ev) (i : Int) (hE : Evs w A n l) :
    Calls Try.prog 8 #[.slice A n cap, .int .i64 i] w fun e w' => e = .returned (.bool true) ∧ Ext w w' := by
  have hX := Ext.refl w
  have hbig := hE.big
  have hl := hid hE.len
  have HE := hid hE
  by_cases hn : n ≤ 300
  · have hd : decide (n ≤ 300) = true := by simp [hn]
    by_cases hi0 : i < 0
    · clear hE
      go_enter Try.func8, Try.ntmps8
      go_wp2_with (first
        | (go_at_call 30; refine (w09_shown _).mono ?_; rintro e w1 ⟨rfl, hx1⟩)
        | (go_at_call 31; refine (w09_few _ _ _ _).mono ?_; rintro e w2 ⟨rfl, hx2⟩; rw [hd]))
      go_ret
      exact ⟨rfl, hx1.trans hx2⟩
    · obtain ⟨k, rfl⟩ := Int.eq_ofNat_of_zero_le (show 0 ≤ i by omega)
      clear hi0
      by_cases hk : k < n
      · obtain ⟨b, o, rfl, h0, h1, h2, h3⟩ := hE.opn (by omega)
        clear hE
        by_cases hc : (findL l (nth l k).txn).1.com = true ∧ (k : Int) < (findL l (nth l k).txn).1.till
        · obtain ⟨hc1, hc2⟩ := hc
          go_enter Try.func8, Try.ntmps8
          go_wp2_with (first
            | (go_at_call 30; refine (w09_shown _).mono ?_; rintro e w1 ⟨rfl, hx1⟩)
            | (go_at_call 31; refine (w09_few _ _ _ _).mono ?_; rintro e w2 ⟨rfl, hx2⟩; rw [hd]; have hX2 := hx1.trans hx2)
            | (go_at_call 34; refine (r08_find _ _ _ _ _ _ (HE.out.ext hX2)).mono ?_; rintro e w3 ⟨rfl, hx3⟩; rw [hc1]; have hX3 := hX2.trans hx3))
          go_ret
          exact ⟨rfl, hX3.alloc _⟩
        · have hcn := counts_not (l := l) (by rw [hl.out]; exact hk) hc
          have hz : Hid (badAt l k = Bad.z ∧ outer l k = false) := hid ⟨by simp [badAt, hcn], by simp [outer, hcn]⟩
          have hz2 : (badAt l k).kind = 0 ∧ (badAt l k).i = 0 ∧ (badAt l k).j = 0 := by rw [hz.out.1]; exact ⟨rfl, rfl, rfl⟩
          have HZ := hid hz2
          clear hcn hz2
          by_cases hc1 : (findL l (nth l k).txn).1.com = true
          · have hc2 : ¬ ((k : Int) < (findL l (nth l k).txn).1.till) := fun h => hc ⟨hc1, h⟩
            clear hc
            go_enter Try.func8, Try.ntmps8
            go_wp2_with (first
              | (go_at_call 30; refine (w09_shown _).mono ?_; rintro e w1 ⟨rfl, hx1⟩)
              | (go_at_call 31; refine (w09_few _ _ _ _).mono ?_; rintro e w2 ⟨rfl, hx2⟩; rw [hd]; have hX2 := hx1.trans hx2)
              | (go_at_call 34; refine (r08_find _ _ _ _ _ _ (HE.out.ext hX2)).mono ?_; rintro e w3 ⟨rfl, hx3⟩; rw [hc1]; have hX3 := hX2.trans hx3)
              | (go_at_call 33; refine (t_at _ _ _ _ _ _ (HE.out.ext (hX3.alloc _))).mono ?_; rintro e w7 ⟨rfl, hx7⟩; rw [HZ.out.1, HZ.out.2.1, HZ.out.2.2]; have hX7 := (hX3.alloc _).trans hx7)
              | (go_at_call 40; refine (t_outer _ _ _ _ _ _ (HE.out.ext hX7)).mono ?_; rintro e w9 ⟨rfl, hx9⟩; rw [hz.out.2]; have hX9 := hX7.trans hx9))
            go_ret
            exact ⟨rfl, hX9⟩
          · have hc3 : (findL l (nth l k).txn).1.com = false := by simpa using hc1
            clear hc hc1
            go_enter Try.func8, Try.ntmps8
            go_wp2_with (first
              | (go_at_call 30; refine (w09_shown _).mono ?_; rintro e w1 ⟨rfl, hx1⟩)
              | (go_at_call 31; refine (w09_few _ _ _ _).mono ?_; rintro e w2 ⟨rfl, hx2⟩; rw [hd]; have hX2 := hx1.trans hx2)
              | (go_at_call 34; refine (r08_find _ _ _ _ _ _ (HE.out.ext hX2)).mono ?_; rintro e w3 ⟨rfl, hx3⟩; rw [hc3]; have hX3 := hX2.trans hx3)
              | (go_at_call 33; refine (t_at _ _ _ _ _ _ (HE.out.ext (hX3.alloc _))).mono ?_; rintro e w7 ⟨rfl, hx7⟩; rw [HZ.out.1, HZ.out.2.1, HZ.out.2.2]; have hX7 := (hX3.alloc _).trans hx7)
              | (go_at_call 40; refine (t_outer _ _ _ _ _ _ (HE.out.ext hX7)).mono ?_; rintro e w9 ⟨rfl, hx9⟩; rw [hz.out.2]; have hX9 := hX7.trans hx9))
            go_ret
            exact ⟨rfl, hX9⟩
      · clear hE
        go_enter Try.func8, Try.ntmps8
        go_wp2_with (first
          | (go_at_call 30; refine (w09_shown _).mono ?_; rintro e w1 ⟨rfl, hx1⟩)
          | (go_at_call 31; refine (w09_few _ _ _ _).mono ?_; rintro e w2 ⟨rfl, hx2⟩; rw [hd]))
        go_ret
        exact ⟨rfl, hx1.trans hx2⟩
  · have hd : decide (n ≤ 300) = false := by simp [hn]
    clear hE
    go_enter Try.func8, Try.ntmps8
    go_wp2_with (first
      | (go_at_call 30; refine (w09_shown _).mono ?_; rintro e w1 ⟨rfl, hx1⟩)
      | (go_at_call 31; refine (w09_few _ _ _ _).mono ?_; rintro e w2 ⟨rfl, hx2⟩; rw [hd]))
    go_ret
    exact ⟨rfl, hx1.trans hx2⟩
end Go.Proofs.Ythjgmccpbcelgaa
