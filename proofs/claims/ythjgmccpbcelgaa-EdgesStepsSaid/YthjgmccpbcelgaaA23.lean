/-
  The law EdgesSteps, walked by hand.
-/
import Derived.Test.YthjgmccpbcelgaaB9
import Derived.Test.YthjgmccpbcelgaaPr50
set_option linter.unusedVariables false
set_option linter.unusedSimpArgs false
namespace Go.Proofs.YthjgmccpbcelgaaPr
open Go.Proofs.Ythjgmccpbcelgaa
section
open Go Go.RowKit Go.Proofs Go.Shelf
set_option linter.unusedSimpArgs false
set_option linter.unusedVariables false
attribute [local go_sem] Ext.alloc Ext.alloc2 Ext.alloc3 Ext.alloc4 Ext.drewN_alloc Ext.drewN_alloc2 Ext.drew_alloc Ext.drew Ext.drewN toList_beq
attribute [-go_sem] Builtin.append_

theorem shown10_60' : cartouchelaw10_shown.f 60 = some true := by kernel_rfl
/-- What a step of the spec is made of. -/
theorem oneE_mem {lev : Int} {l : List Go.Proofs.Ythjgmccpbcelgaa.Edge} {t : SE} (h : t ∈ l.flatMap (oneE lev l)) : ∃ e, (lev = 1 ∨ lev = 2 ∧ e.kind ≠ 3) ∧ (t = ⟨e.from_, e.to_, [e]⟩ ∨ ∃ f, lev = 2 ∧ f.kind = 3 ∧ f.from_ = e.to_ ∧ t = ⟨e.from_, f.to_, [e, f]⟩) := by
  obtain ⟨e, _, he⟩ := List.mem_flatMap.1 h
  unfold oneE at he
  split at he
  · rename_i hc
    refine ⟨e, hc, ?_⟩
    rcases List.mem_cons.1 he with rfl | he
    · exact .inl rfl
    · unfold twoE at he
      obtain ⟨f, hf, rfl⟩ := List.mem_map.1 he
      have := of_decide_eq_true (List.mem_filter.1 hf).2
      exact .inr ⟨f, this.1, this.2.1, this.2.2, rfl⟩
  · cases he
theorem oneE_no {lev : Int} (h1 : lev ≠ 1) (h2 : lev ≠ 2) (l : List Go.Proofs.Ythjgmccpbcelgaa.Edge) : l.flatMap (oneE lev l) = [] := by
  rw [List.flatMap_eq_nil_iff]
  intro e _
  unfold oneE
  rw [if_neg]
  rintro (h | ⟨h, _⟩)
  · exact h1 h
  · exact h2 h
theorem oneE_one (l : List Go.Proofs.Ythjgmccpbcelgaa.Edge) : (l.flatMap (oneE 1 l)).length = l.length := by
  have h : ∀ m : List Go.Proofs.Ythjgmccpbcelgaa.Edge, (m.flatMap (oneE 1 l)).length = m.length := fun m => by
    induction m with
    | nil => rfl
    | cons x r ih =>
      rw [List.flatMap_cons, List.length_append, ih]
      have : oneE 1 l x = [⟨x.from_, x.to_, [x]⟩] := by unfold oneE twoE; rw [if_pos (.inl rfl)]; simp
      rw [this, List.length_cons, List.length_cons, List.length_nil]
      omega
  exact h l
theorem oneE_len (lev : Int) (l : List Go.Proofs.Ythjgmccpbcelgaa.Edge) : (l.flatMap (oneE lev l)).length ≤ l.length * (l.length + 1) := by
  have h : ∀ m : List Go.Proofs.Ythjgmccpbcelgaa.Edge, (m.flatMap (oneE lev l)).length ≤ m.length * (l.length + 1) := fun m => by
    induction m with
    | nil => simp
    | cons x r ih =>
      have : (oneE lev l x).length ≤ l.length + 1 := by
        unfold oneE
        split
        · have := twoE_len lev l x
          simp at this ⊢
          omega
        · simp
      rw [List.flatMap_cons, List.length_append, List.length_cons, Nat.succ_mul]
      omega
  exact h l
set_option maxRecDepth 100000 in
set_option maxHeartbeats 4000000 in
theorem stepsLaw (w : World) (A : Option Addr) (cap : Nat) (lev : Int) (L : List S76) (hC : YthjgmccpbcelgaaW.PrintWords.Kd.C k76 w A L.length L) (hcap : L.length ≤ cap) (hn : L.length * 40 ≤ 140737488351232) :
    Calls Try.prog 27 #[.int .i64 lev, .slice A L.length cap] w fun e w' => e = .returned (.bool true) ∧ Ext w w' := by
  have hX := Ext.refl w
  have HE := hid (edgs_of hC (by omega))
  clear hC
  obtain ⟨l, hl⟩ : ∃ l, L.map toEd = l := ⟨_, rfl⟩
  have hll : L.length = l.length := by rw [← hl]; simp
  rw [hl] at HE
  rw [hll] at HE hcap ⊢
  clear hl hll hn
  go_enter Try.func27, Try.ntmps27
  by_cases hs : (200 : Int) < (l.length : Int)
  · go_wp2_with (go_at_call 65; (with_reducible refine (cartouchelaw10_shown.calls 60 true _ shown10_60').mono ?_); rintro e w1 ⟨rfl, hx1⟩; have hX1 : Ext w w1 := hX.trans hx1)
    go_ret
    exact ⟨rfl, hX1⟩
  · have hmul : l.length * (l.length + 1) ≤ 200 * 201 := Nat.mul_le_mul (by omega) (by omega)
    have hm40 : (l.length * (l.length + 1)) * 40 ≤ 140737488351232 := by omega
    by_cases h1 : lev = 1
    · subst h1
      go_wp2_with first
        | (go_at_call 65; (with_reducible refine (cartouchelaw10_shown.calls 60 true _ shown10_60').mono ?_); rintro e w1 ⟨rfl, hx1⟩; have hX1 : Ext w w1 := hX.trans hx1; have HE1 := hid (HE.out.ext hX1))
        | (go_at_call 74; (with_reducible refine (e_steps w1 A l.length cap 1 l HE1.out hm40).mono ?_); rintro e w2 ⟨v, pre, rfl, hp, hI⟩; have hX2 := hX1.trans hI.ext; have hp' := hid hp; have hI' := hid hI; (obtain ⟨A6, c6, rfl, hS⟩ := sl_of_own (l := pre.map BE.s) (c := Stp.cs) (z := Stp.z) (hc := fun _ => rfl) hI.out (by have h9 : (pre.map BE.t).length ≤ l.length * (l.length + 1) := (by rw [hp]; exact oneE_len 1 l); simp at h9 ⊢; omega)); rw [List.length_map]; clear hp hI)
      have hpl0 : Hid (pre.length ≤ 40200) := hid (by
        have h9 : (pre.map BE.t).length ≤ l.length * (l.length + 1) := by rw [hp'.out]; exact oneE_len 1 l
        simp at h9
        omega)
      go_loopw [7] (fun i W => ∃ k : Nat, k ≤ pre.length ∧ i = .int .i64 k ∧ Ext w2 W) (fun i _ => pre.length - (RowKit.intOf i).toNat)
      case atStart => exact ⟨0, by omega, rfl, Ext.refl _⟩
      case round =>
        obtain ⟨k, hk1, rfl, hW2⟩ := hrel
        have hW := hX2.trans hW2
        have hXr := Ext.refl wr
        by_cases hlt : k < pre.length
        · obtain ⟨bq, hbq⟩ : ∃ bq, pre[k] = bq := ⟨_, rfl⟩
          have hmem : bq ∈ pre := by rw [← hbq]; exact List.getElem_mem _
          obtain ⟨g, o, rfl, q0, q1, q2⟩ := Stps.opn (l := pre.map BE.s) hS (by simp; omega)
          have c0 := q0 wr k hW2 (by simpa using hlt)
          have c1 := q1 wr k hW2 (by simpa using hlt)
          have c2 := q2 wr k hW2 (by simpa using hlt)
          have hsn : snth (pre.map BE.s) k = bq.s := by unfold snth; simp [List.getElem?_eq_getElem hlt, hbq]
          rw [hsn] at c0 c1 c2
          obtain ⟨f1, f2, f3⟩ := hI'.out.all bq hmem
          rw [f1] at c0
          rw [f2] at c1
          have f3' := own_ext f3 (by have := hI'.out.ext.le; omega) hW2
          obtain ⟨e0, hcond, hkind⟩ := oneE_mem (t := bq.t) (lev := 1) (l := l) (by rw [← hp'.out]; exact List.mem_map.2 ⟨bq, hmem, rfl⟩)
          rcases hkind with ht | ⟨f0, hlv, hf3, hff, ht⟩
          · rw [ht] at c0 c1 f3'
            obtain ⟨A7, c7, he7, hS7⟩ := sl_of_own (l := [e0]) (c := Go.Proofs.Ythjgmccpbcelgaa.Edge.cs) (z := Go.Proofs.Ythjgmccpbcelgaa.Edge.z) (hc := fun _ => rfl) f3' (by simp)
            rw [he7] at c2
            obtain ⟨g7, o7, rfl, t0, t1, t2, t3, t4⟩ := Edgs.opn (l := [e0]) hS7 (by simp)
            have s0 := t0 wr 0 hXr (by simp)
            have s1 := t1 wr 0 hXr (by simp)
            have s2 := t2 wr 0 hXr (by simp)
            simp only [Nat.zero_mul, Nat.add_zero, show enth [e0] 0 = e0 from rfl, List.length_cons, List.length_nil, Nat.zero_add] at s0 s1 s2 c2
            clear q0 q1 q2 t0 t1 t2 t3 t4
            clear hS7 he7 f3 f3' hS f1 f2 hsn hmem hbq hI' hp' HE1 HE hX1 hx1 hW
            dsimp only at c0 c1
            skip
            go_wp2
            go_quiet (fail)
            go_wp2
            go_quiet (fail)
            go_wp2
            have hwk : wrap64 ((k : Int) + 1) = ((k + 1 : Nat) : Int) := by have := hpl0.out; unfold wrap64; omega
            exact ⟨⟨k + 1, by omega, by rw [hwk], (by repeat (first | assumption | apply Ext.alloc | apply Ext.drewN | apply Ext.drew | (refine Ext.setCell (by simp <;> omega) ?_ _)))⟩, by rw [hwk]; simp [RowKit.intOf]; omega⟩
          · exact absurd hlv (by decide)
        · go_wp2
          go_ret
          have hpl : pre.length = l.length := by
            have := congrArg List.length hp'.out
            rw [oneE_one] at this
            simpa using this
          exact ⟨ret_bool (by rw [hpl]; simp), (by repeat (first | assumption | apply Ext.alloc | apply Ext.drewN | apply Ext.drew | (refine Ext.setCell (by simp <;> omega) ?_ _)))⟩
    · by_cases h2 : lev = 2
      · subst h2
        go_wp2_with first
          | (go_at_call 65; (with_reducible refine (cartouchelaw10_shown.calls 60 true _ shown10_60').mono ?_); rintro e w1 ⟨rfl, hx1⟩; have hX1 : Ext w w1 := hX.trans hx1; have HE1 := hid (HE.out.ext hX1))
          | (go_at_call 74; (with_reducible refine (e_steps w1 A l.length cap 2 l HE1.out hm40).mono ?_); rintro e w2 ⟨v, pre, rfl, hp, hI⟩; have hX2 := hX1.trans hI.ext; have hp' := hid hp; have hI' := hid hI; (obtain ⟨A6, c6, rfl, hS⟩ := sl_of_own (l := pre.map BE.s) (c := Stp.cs) (z := Stp.z) (hc := fun _ => rfl) hI.out (by have h9 : (pre.map BE.t).length ≤ l.length * (l.length + 1) := (by rw [hp]; exact oneE_len 2 l); simp at h9 ⊢; omega)); rw [List.length_map]; clear hp hI)
        have hpl0 : Hid (pre.length ≤ 40200) := hid (by
          have h9 : (pre.map BE.t).length ≤ l.length * (l.length + 1) := by rw [hp'.out]; exact oneE_len 2 l
          simp at h9
          omega)
        go_loopw [7] (fun i W => ∃ k : Nat, k ≤ pre.length ∧ i = .int .i64 k ∧ Ext w2 W) (fun i _ => pre.length - (RowKit.intOf i).toNat)
        case atStart => exact ⟨0, by omega, rfl, Ext.refl _⟩
        case round =>
          obtain ⟨k, hk1, rfl, hW2⟩ := hrel
          have hW := hX2.trans hW2
          have hXr := Ext.refl wr
          by_cases hlt : k < pre.length
          · obtain ⟨bq, hbq⟩ : ∃ bq, pre[k] = bq := ⟨_, rfl⟩
            have hmem : bq ∈ pre := by rw [← hbq]; exact List.getElem_mem _
            obtain ⟨g, o, rfl, q0, q1, q2⟩ := Stps.opn (l := pre.map BE.s) hS (by simp; omega)
            have c0 := q0 wr k hW2 (by simpa using hlt)
            have c1 := q1 wr k hW2 (by simpa using hlt)
            have c2 := q2 wr k hW2 (by simpa using hlt)
            have hsn : snth (pre.map BE.s) k = bq.s := by unfold snth; simp [List.getElem?_eq_getElem hlt, hbq]
            rw [hsn] at c0 c1 c2
            obtain ⟨f1, f2, f3⟩ := hI'.out.all bq hmem
            rw [f1] at c0
            rw [f2] at c1
            have f3' := own_ext f3 (by have := hI'.out.ext.le; omega) hW2
            obtain ⟨e0, hcond, hkind⟩ := oneE_mem (t := bq.t) (lev := 2) (l := l) (by rw [← hp'.out]; exact List.mem_map.2 ⟨bq, hmem, rfl⟩)
            rcases hkind with ht | ⟨f0, hlv, hf3, hff, ht⟩
            · rw [ht] at c0 c1 f3'
              obtain ⟨A7, c7, he7, hS7⟩ := sl_of_own (l := [e0]) (c := Go.Proofs.Ythjgmccpbcelgaa.Edge.cs) (z := Go.Proofs.Ythjgmccpbcelgaa.Edge.z) (hc := fun _ => rfl) f3' (by simp)
              rw [he7] at c2
              obtain ⟨g7, o7, rfl, t0, t1, t2, t3, t4⟩ := Edgs.opn (l := [e0]) hS7 (by simp)
              have s0 := t0 wr 0 hXr (by simp)
              have s1 := t1 wr 0 hXr (by simp)
              have s2 := t2 wr 0 hXr (by simp)
              simp only [Nat.zero_mul, Nat.add_zero, show enth [e0] 0 = e0 from rfl, List.length_cons, List.length_nil, Nat.zero_add] at s0 s1 s2 c2
              clear q0 q1 q2 t0 t1 t2 t3 t4
              clear hS7 he7 f3 f3' hS f1 f2 hsn hmem hbq hI' hp' HE1 HE hX1 hx1 hW
              dsimp only at c0 c1
              have hk3 : e0.kind ≠ 3 := hcond.elim (fun h => absurd h (by decide)) (fun h => h.2)
              have hb3 : (e0.kind == 3) = false := by simp [hk3]
              clear hcond
              go_wp2
              go_quiet (fail)
              go_wp2
              go_quiet (fail)
              go_wp2
              have hwk : wrap64 ((k : Int) + 1) = ((k + 1 : Nat) : Int) := by have := hpl0.out; unfold wrap64; omega
              exact ⟨⟨k + 1, by omega, by rw [hwk], (by repeat (first | assumption | apply Ext.alloc | apply Ext.drewN | apply Ext.drew | (refine Ext.setCell (by simp <;> omega) ?_ _)))⟩, by rw [hwk]; simp [RowKit.intOf]; omega⟩
            · rw [ht] at c0 c1 f3'
              obtain ⟨A7, c7, he7, hS7⟩ := sl_of_own (l := [e0, f0]) (c := Go.Proofs.Ythjgmccpbcelgaa.Edge.cs) (z := Go.Proofs.Ythjgmccpbcelgaa.Edge.z) (hc := fun _ => rfl) f3' (by simp)
              rw [he7] at c2
              obtain ⟨g7, o7, rfl, t0, t1, t2, t3, t4⟩ := Edgs.opn (l := [e0, f0]) hS7 (by simp)
              have s0 := t0 wr 0 hXr (by simp)
              have s1 := t1 wr 0 hXr (by simp)
              have s2 := t2 wr 0 hXr (by simp)
              have s3 := t0 wr 1 hXr (by simp)
              have s4 := t1 wr 1 hXr (by simp)
              have s5 := t2 wr 1 hXr (by simp)
              simp only [Nat.zero_mul, Nat.one_mul, Nat.add_zero, show enth [e0, f0] 0 = e0 from rfl, show enth [e0, f0] 1 = f0 from rfl, List.length_cons, List.length_nil, Nat.zero_add] at s0 s1 s2 s3 s4 s5 c2
              rw [hf3] at s3
              rw [hff] at s4
              clear q0 q1 q2 t0 t1 t2 t3 t4
              clear hS7 he7 f3 f3' hS f1 f2 hsn hmem hbq hI' hp' HE1 HE hX1 hx1 hW
              dsimp only at c0 c1
              have hk3 : e0.kind ≠ 3 := hcond.elim (fun h => absurd h (by decide)) (fun h => h.2)
              have hb3 : (e0.kind == 3) = false := by simp [hk3]
              clear hcond
              go_wp2
              go_quiet (fail)
              go_wp2
              go_quiet (fail)
              go_wp2
              have hwk : wrap64 ((k : Int) + 1) = ((k + 1 : Nat) : Int) := by have := hpl0.out; unfold wrap64; omega
              exact ⟨⟨k + 1, by omega, by rw [hwk], (by repeat (first | assumption | apply Ext.alloc | apply Ext.drewN | apply Ext.drew | (refine Ext.setCell (by simp <;> omega) ?_ _)))⟩, by rw [hwk]; simp [RowKit.intOf]; omega⟩
          · go_wp2
            go_ret
            exact ⟨rfl, (by repeat (first | assumption | apply Ext.alloc | apply Ext.drewN | apply Ext.drew | (refine Ext.setCell (by simp <;> omega) ?_ _)))⟩
      · have hz : Hid (l.flatMap (oneE lev l) = []) := hid (oneE_no h1 h2 l)
        have hb1 : (lev != 1) = true := by simp [h1]
        have hb2 : (lev != 2) = true := by simp [h2]
        go_wp2_with first
          | (go_at_call 65; (with_reducible refine (cartouchelaw10_shown.calls 60 true _ shown10_60').mono ?_); rintro e w1 ⟨rfl, hx1⟩; have hX1 : Ext w w1 := hX.trans hx1; have HE1 := hid (HE.out.ext hX1))
          | (go_at_call 74; (with_reducible refine (e_steps w1 A l.length cap lev l HE1.out hm40).mono ?_); rintro e w2 ⟨v, pre, rfl, hp, hI⟩; have hX2 := hX1.trans hI.ext; have hp' := hid hp; have hI' := hid hI; (obtain ⟨A6, c6, rfl, hS⟩ := sl_of_own (l := pre.map BE.s) (c := Stp.cs) (z := Stp.z) (hc := fun _ => rfl) hI.out (by have h9 : (pre.map BE.t).length ≤ l.length * (l.length + 1) := (by rw [hp]; exact oneE_len lev l); simp at h9 ⊢; omega)); rw [List.length_map]; clear hp hI)
        go_ret
        have hpl : pre.length = 0 := by
          have := congrArg List.length (hp'.out.trans hz.out)
          simpa using this
        exact ⟨ret_bool (by rw [hpl]; rfl), (by repeat (first | assumption | apply Ext.alloc | apply Ext.drewN | apply Ext.drew | (refine Ext.setCell (by simp <;> omega) ?_ _)))⟩
end
end Go.Proofs.YthjgmccpbcelgaaPr
