/-
  The program's chapter 8: which histories are well formed; lives; DeleteFunc at lives.
-/
import Derived.Test.YthjgmccpbcelgaaA2
import Derived.Test.YthjgmccpbcelgaaA1
import Derived.Test.YthjgmccpbcelgaaProg
/-! The program's history.over: has a transaction one of some events, and has it ended? -/
set_option linter.unusedVariables false
set_option linter.unusedSimpArgs false
namespace Go.Proofs.Ythjgmccpbcelgaa
section
open Go Go.RowKit Go.Proofs Go.Shelf
set_option linter.unusedSimpArgs false
set_option linter.unusedVariables false
attribute [local go_sem] Ext.alloc Ext.alloc2 Ext.alloc3 Ext.alloc4 Ext.drewN_alloc Ext.drewN_alloc2 Ext.drew_alloc Ext.drew Ext.drewN toList_beq Oper.semAt_some

def anyOf (pre : List (Ev × Nat)) : Bool := !pre.isEmpty
def doneOf (pre : List (Ev × Nat)) : Bool := pre.any fun p => ends p.1

theorem anyOf_snoc (pre : List (Ev × Nat)) (x : Ev × Nat) : anyOf (pre ++ [x]) = true := by simp [anyOf]
theorem doneOf_snoc (pre : List (Ev × Nat)) (x : Ev × Nat) : doneOf (pre ++ [x]) = (doneOf pre || ends x.1) := by simp [doneOf]

theorem ofs_mem {txn : Int} {l : List Ev} {x : Ev × Nat} : x ∈ ofs txn l ↔ x.2 < l.length ∧ nth l x.2 = x.1 ∧ x.1.txn = txn := by
  unfold ofs
  rw [List.mem_filter, List.mem_zipIdx_iff_getElem?]
  constructor
  · rintro ⟨h1, h2⟩
    obtain ⟨h3, h4⟩ := List.getElem?_eq_some_iff.1 h1
    exact ⟨h3, by rw [nth_lt h3]; exact h4, by simpa [isOf] using h2⟩
  · rintro ⟨h1, h2, h3⟩
    refine ⟨?_, by simpa [isOf] using h3⟩
    rw [nth_lt h1] at h2
    rw [List.getElem?_eq_getElem h1, h2]

theorem anyOf_eq (l : List Ev) (txn : Int) : anyOf (ofs txn l) = decide (0 ≤ firstOf l txn) := by
  rcases idx_nth (isOf txn) l with ⟨h, h2⟩ | ⟨k, hk, h, h2, _⟩
  · have e : ofs txn l = [] := List.eq_nil_iff_forall_not_mem.2 fun x hx => by
      obtain ⟨a, b, c⟩ := ofs_mem.1 hx
      have := h2 _ a
      rw [b] at this
      simp [isOf, c] at this
    rw [e, show firstOf l txn = -1 from h]; rfl
  · have hm : (nth l k, k) ∈ ofs txn l := ofs_mem.2 ⟨hk, rfl, by simpa [isOf] using h2⟩
    rw [show firstOf l txn = k from h]
    cases he : ofs txn l with
    | nil => rw [he] at hm; cases hm
    | cons a b => simp [anyOf]
theorem doneOf_eq (l : List Ev) (txn : Int) : doneOf (ofs txn l) = decide (0 ≤ endOf l txn) := by
  rcases idx_nth (endsOf txn) l with ⟨h, h2⟩ | ⟨k, hk, h, h2, _⟩
  · rw [show endOf l txn = -1 from h]
    unfold doneOf
    rw [show decide (0 ≤ (-1 : Int)) = false by decide, List.any_eq_false]
    intro x hx
    obtain ⟨a, b, c⟩ := ofs_mem.1 hx
    have := h2 _ a
    rw [b] at this
    simpa [endsOf, c] using this
  · simp only [endsOf, Bool.and_eq_true, beq_iff_eq] at h2
    rw [show endOf l txn = k from h]
    unfold doneOf
    rw [show decide (0 ≤ (k : Int)) = true by simp, List.any_eq_true]
    exact ⟨(nth l k, k), ofs_mem.2 ⟨hk, rfl, h2.1⟩, h2.2⟩

set_option maxHeartbeats 2000000 in
theorem h_over_in (w : World) (A : Option Addr) (n cap : Nat) (l : List Ev) (txn : Int) (hE : Evs w A n l) :
    CallsIn Fence.wide 6 Try.prog 98 #[.slice A n cap, .int .i64 txn] w fun e w' => e = .returned (.tuple #[.bool (anyOf (ofs txn l)), .bool (doneOf (ofs txn l))]) ∧ Ext w w' := by
  refine callsIn_of_wp_marks Try.func98 rfl trivial ?_ rfl
  simp only [Try.ntmps98, List.size_toArray, List.length_cons, List.length_nil, Nat.reduceAdd, Nat.reduceSub, Array.replicate_succ, Array.replicate_zero, List.push_toArray, List.append_toArray, List.nil_append, List.cons_append]
  gi_wp2_with (refine ⟨trivial, ?_⟩; gi_at_call 105; refine (h_of _ _ _ _ _).mono ?_; rintro e w' ⟨rfl, rfl⟩)
  have hX := (((((Ext.refl w).alloc (.cells #[.bool false] 4)).alloc (.cells #[.bool false] 4)).alloc (.cells #[.slice A n cap] 22)).alloc (.cells #[.int .i64 txn] 3))
  have b0 := ((((Blk.new w 4 #[.bool false]).alloc (.cells #[.bool false] 4)).alloc (.cells #[.slice A n cap] 22)).alloc (.cells #[.int .i64 txn] 3))
  have b1 := (((Blk.new (w.alloc (.cells #[.bool false] 4)) 4 #[.bool false]).alloc (.cells #[.slice A n cap] 22)).alloc (.cells #[.int .i64 txn] 3))
  have b2 := ((Blk.new ((w.alloc (.cells #[.bool false] 4)).alloc (.cells #[.bool false] 4)) 22 #[.slice A n cap]).alloc (.cells #[.int .i64 txn] 3))
  have b3 := (Blk.new (((w.alloc (.cells #[.bool false] 4)).alloc (.cells #[.bool false] 4)).alloc (.cells #[.slice A n cap] 22)) 3 #[.int .i64 txn])
  simp only [World.size_alloc] at b0 b1 b2 b3
  obtain ⟨W0, hW0⟩ : ∃ W, ((((w.alloc (.cells #[.bool false] 4)).alloc (.cells #[.bool false] 4)).alloc (.cells #[.slice A n cap] 22)).alloc (.cells #[.int .i64 txn] 3)) = W := ⟨_, rfl⟩
  rw [hW0] at hX b0 b1 b2 b3 ⊢
  have hs0 : Hid (W0.heap.size = w.heap.size + 4) := hid (by rw [← hW0]; simp)
  clear hW0
  have hbs : ∀ b ∈ [w.heap.size + 1 + 1, w.heap.size + 1 + 1 + 1], b < W0.heap.size := by have := hs0.out; intro b hb; simp at hb; omega
  refine wpIn_rangeFunc_ownH rfl (by decide) (gf := 128) (lb := #[.pointer (some ⟨w.heap.size + 1 + 1, 0, none⟩), .pointer (some ⟨w.heap.size + 1 + 1 + 1, 0, none⟩)]) rfl trivial (enters_of Try.func128 (by kernel_rfl) rfl)
    (h_of1 w W0 A n cap _ _ l txn hE hX b2 b3) kpB_t (kpB_b hX.le hbs) (Below.refl _ _) (fun _ => rfl)
    (fun pre W => (Blk W w.heap.size 4 #[.bool (anyOf pre)] ∧ Blk W (w.heap.size + 1) 4 #[.bool (doneOf pre)]) ∧ Ext w W ∧ W0.heap.size ≤ W.heap.size)
    (fun _ _ _ => False)
    (OwnFrom.and (Own.from (own_and (blk_own _ _ _) (blk_own _ _ _)) _) (OwnFrom.and (ownFrom_ext hX.le) (ownFrom_size _ _)))
    (fun _ _ _ _ _ hs _ _ => hs)
    ⟨⟨b0, b1⟩, hX, Nat.le_refl _⟩
    (fun x a' W => ∃ Bx, W0.heap.size ≤ Bx ∧ Blk W Bx 31 #[.int .i64 x.1.kind, .int .i64 x.1.txn, .string x.1.key, .string x.1.val] ∧ a' = { tmps := #[.slice A n cap, .int .i64 txn, undef, undef, .bool false, .bool false, .pointer (some ⟨w.heap.size, 0, none⟩), .pointer (some ⟨w.heap.size + 1, 0, none⟩), undef, .pointer (some ⟨Bx, 0, none⟩), .slice A n cap, .int .i64 txn, .func (.func 128) #[] #[.pointer (some ⟨w.heap.size + 1 + 1, 0, none⟩), .pointer (some ⟨w.heap.size + 1 + 1 + 1, 0, none⟩)], .int .i64 (x.2 : Int), .agg (#[.int .i64 x.1.kind, .int .i64 x.1.txn, .string x.1.key, .string x.1.val]), undef, undef, undef, undef, undef, undef, undef], defers := [] })
    (fun x a' _ X Y row hs hg hr => by obtain ⟨Bx, h1, h2, h3⟩ := hs; exact ⟨Bx, h1, blk_own Bx 31 (fun (_ : Unit) => #[.int .i64 x.1.kind, .int .i64 x.1.txn, .string x.1.key, .string x.1.val]) () X Y row h2 hg (fun r e => (hr r e).2), h3⟩)
    ?assign ?body ?done ?stop
  case assign =>
    rintro lp pre x W K ⟨⟨c0, c1⟩, hW, hZ⟩ hK
    simp only [encEv]
    gi_wp2
    exact hK _ _ ((KeepsOthers.alloc _ _).from _) (kpB_alloc (kpB_refl _ _ _) hW (fun b hb => Nat.lt_of_lt_of_le (hbs b hb) hZ) _) ⟨⟨c0.alloc _, c1.alloc _⟩, hW.alloc _, by simp; omega⟩ ⟨W.heap.size, hZ, Blk.new W _ _, rfl⟩
  case body =>
    rintro lp pre x a' W hl ⟨r, hr⟩ ⟨⟨c0, c1⟩, hW, hZ⟩ ⟨Bx, hBx, cX, rfl⟩ hlt
    have hs1 := hs0.out
    have HS := hid hs1
    have hb3 : ∀ b' ∈ [w.heap.size + 1 + 1, w.heap.size + 1 + 1 + 1], b' < W.heap.size := fun b' hb => Nat.lt_of_lt_of_le (hbs b' hb) hZ
    by_cases hd : doneOf pre = true
    · rw [hd] at c1
      have k1 := c1.cell0
      have k0 := c0.cell0
      have f0 := c0.frozen 0
      have f1 := c1.frozen 0
      have HD := hid hd
      clear hd hs1
      gi_wp2_with (refine ⟨trivial, ?_⟩)
      have hs1 := HS.out
      refine ⟨((KeepsOthers.setCell _ _ _).trans (KeepsOthers.setCell _ _ _)).from _, kpB_set (kpB_set (kpB_refl _ _ _) (by simp <;> omega) (by intro b hb; simp at hb ⊢ <;> omega) _) (by simp <;> omega) (by intro b hb; simp at hb ⊢ <;> omega) _, ⟨?_, ?_⟩, (hW.setCell (by simp) _).setCell (by simp) _, by simpa [World.setCell] using hZ⟩
      · rw [anyOf_snoc]; exact (c0.set0 _).far (by simp) _
      · rw [doneOf_snoc, HD.out]; exact (c1.far (by simp) _).set0 _
    · have hd' : doneOf pre = false := by simpa using hd
      rw [hd'] at c1
      obtain ⟨x0, x1, x2, x3⟩ := cX.cells4
      have k1 := c1.cell0
      have HD := hid hd'
      clear hd hd' hs1
      gi_wp2_with (refine ⟨trivial, ?_⟩; gi_at_call 124; refine (CallsIn.inRound lp (callsIn_wide.2 (h_ends _ x.1))).mono ?_; rintro e w' ⟨rfl, hx1⟩; have c11 := c1.ext hx1; have c01 := c0.ext hx1; have k0 := c01.cell0; have f0 := c01.frozen 0; have k2 := c11.cell0; have f1 := c11.frozen 0)
      have hs1 := HS.out
      refine ⟨KeepsFrom.trans (keepsFrom_ext (KeepsFrom.refl _ _) hx1) (((KeepsOthers.setCell _ _ _).trans (KeepsOthers.setCell _ _ _)).from _), kpB_set (kpB_set (kpB_ext (kpB_refl _ _ _) hW hb3 hx1) (by simp <;> omega) (by intro b hb; simp at hb ⊢ <;> omega) _) (by simp <;> omega) (by intro b hb; simp at hb ⊢ <;> omega) _, ⟨?_, ?_⟩, ((hW.trans hx1).setCell (by simp) _).setCell (by simp) _, by simpa [World.setCell] using Nat.le_trans hZ hx1.le⟩
      · rw [anyOf_snoc]; exact (c01.set0 _).far (by simp) _
      · rw [doneOf_snoc, HD.out]; exact (c11.far (by simp) _).set0 _
  case done =>
    rintro D ys W hD rfl ⟨⟨c0, c1⟩, hW, hZ⟩ hK
    have k0 := c0.cell0
    have k1 := c1.cell0
    gi_wp2
    gi_region
    all_goals gi_wp2
    all_goals
      refine ⟨by simp, .inl ⟨_, _, rfl, run_takeDeferred ((KeepsOthers.drew W).same D _ hK rfl), ?_⟩⟩
      exact ⟨_, results_tmp2 rfl _ _ _, rfl, (hW.drew).grown (grownBy_putObj' _ D _) (fun k e => by cases e; have := hX.le; omega)⟩
  case stop =>
    rintro D c pre W _ _ h _
    exact h.elim

theorem h_over (w : World) (A : Option Addr) (n cap : Nat) (l : List Ev) (txn : Int) (hE : Evs w A n l) :
    Calls Try.prog 98 #[.slice A n cap, .int .i64 txn] w fun e w' => e = .returned (.tuple #[.bool (decide (0 ≤ firstOf l txn)), .bool (decide (0 ≤ endOf l txn))]) ∧ Ext w w' := by
  have h := callsIn_wide.1 (h_over_in w A n cap l txn hE)
  rwa [anyOf_eq, doneOf_eq] at h

end
end Go.Proofs.Ythjgmccpbcelgaa

/-! Contracts: event.keyed, event.May; slices.ContainsFunc at events; history.step's closure. -/
namespace Go.Proofs.Ythjgmccpbcelgaa
section
open Go Go.RowKit Go.Proofs
set_option linter.unusedSimpArgs false
set_option linter.unusedVariables false
attribute [local go_sem] Ext.alloc Ext.alloc2 Ext.alloc3 Ext.alloc4 Ext.drewN_alloc Ext.drewN_alloc2 Ext.drew_alloc Ext.drew Ext.drewN toList_beq

theorem e_keyed (w : World) (k : Int) :
    Calls Try.prog 138 #[.int .i64 k] w fun e w' => e = .returned (.bool (k == 2 || k == 3)) ∧ w' = w := by
  by_cases h2 : k = 2
  · subst h2
    go_enter Try.func138, Try.ntmps138
    go_wp2
    go_ret
    exact ⟨rfl, rfl⟩
  · have h2' : (k == 2) = false := beq_eq_false_iff_ne.2 h2
    go_enter Try.func138, Try.ntmps138
    go_wp2
    all_goals
      go_ret
      refine ⟨ret_bool ?_, rfl⟩
      simp_all

set_option maxHeartbeats 2000000 in
theorem e_may (w : World) (x : Ev) :
    Calls Try.prog 122 #[.agg #[.int .i64 x.kind, .int .i64 x.txn, .string x.key, .string x.val]] w fun e w' => e = .returned (.bool (may x)) ∧ Ext w w' := by
  have hX := Ext.refl w
  cases hk : (x.kind == 2 || x.kind == 3) with
  | false =>
    have HK := hid hk
    clear hk
    go_enter Try.func122, Try.ntmps122
    go_wp2_with (go_at_call 138; refine (e_keyed _ _).mono ?_; rintro e w1 ⟨rfl, rfl⟩; rw [HK.out])
    all_goals
      go_ret
      refine ⟨ret_bool ?_, (hX.alloc _).alloc _⟩
      rw [Bool.eq_iff_iff, may_iff, MayP]
      have HK' := HK.out
      clear hX HK
      simp_all [toList_nil_iff_emptyBytes]
      try (rw [← ByteArray.size_eq_zero_iff])
      try omega
  | true =>
    have HK := hid hk
    clear hk
    go_enter Try.func122, Try.ntmps122
    go_wp2_with (go_at_call 138; refine (e_keyed _ _).mono ?_; rintro e w1 ⟨rfl, rfl⟩; rw [HK.out])
    all_goals
      go_ret
      refine ⟨ret_bool ?_, (hX.alloc _).alloc _⟩
      rw [Bool.eq_iff_iff, may_iff, MayP]
      have HK' := HK.out
      clear hX HK
      simp_all [toList_nil_iff_emptyBytes]
      try (rw [← ByteArray.size_eq_zero_iff])
      try omega

theorem containsEv (g : Nat) (caps : Array Value) (p : Ev → Bool) (w : World) (A : Option Addr) (n cap : Nat) (l : List Ev) (hE : Evs w A n l)
    (eg : ∀ args w, (callFunc g args).run Try.prog w = .ok (.enter g args) w)
    (hg : ∀ (W : World) (x : Ev), Ext w W → Calls Try.prog g (#[.agg #[.int .i64 x.kind, .int .i64 x.txn, .string x.key, .string x.val]] ++ caps) W fun e w' => e = .returned (.bool (p x)) ∧ Ext W w') :
    Calls Try.prog 123 #[.slice A n cap, .func (.func g) #[] caps] w fun e w' => e = .returned (.bool (l.any p)) ∧ Ext w w' := by
  have hX := Ext.refl w
  have HI := hid (idxEv g caps p w A n cap l hE eg hg)
  have hv : Hid (decide (0 ≤ idx p l 0) = l.any p) := hid (by
    rcases idx_spec p l 0 with ⟨h, h2⟩ | ⟨k, hk, h, h2, _⟩
    · rw [show idx p l 0 = -1 from h, show decide (0 ≤ (-1 : Int)) = false by decide]
      symm; rw [List.any_eq_false]; intro x hx; rw [h2 x hx]; simp
    · rw [show idx p l 0 = ((0 + k : Nat) : Int) from h]
      symm; rw [show decide (0 ≤ ((0 + k : Nat) : Int)) = true by simp, List.any_eq_true]
      exact ⟨l[k], List.getElem_mem hk, h2⟩)
  clear hg eg
  go_enter Try.func123, Try.ntmps123
  go_wp2_with (go_at_call 103; refine HI.out.mono ?_; rintro e w1 ⟨rfl, hx1⟩)
  rw [hv.out]
  go_ret
  exact ⟨rfl, hx1⟩

theorem h_twice (w : World) (x y : Ev) (bx : Nat) (hb : ∀ W, Ext w W → W.cell? ⟨bx, 3, none⟩ = some (.string x.val)) :
    Calls Try.prog 121 #[.agg #[.int .i64 y.kind, .int .i64 y.txn, .string y.key, .string y.val], .pointer (some ⟨bx, 0, none⟩)] w fun e w' => e = .returned (.bool (twice x y)) ∧ Ext w w' := by
  have hX := Ext.refl w
  go_enter Try.func121, Try.ntmps121
  go_wp2
  all_goals
    go_ret
    refine ⟨ret_bool ?_, hX.alloc _⟩
    clear hX hb
    simp_all [twice]
end
end Go.Proofs.Ythjgmccpbcelgaa

/-! The program's history.step: what is wrong with an event at a place. -/
namespace Go.Proofs.Ythjgmccpbcelgaa
section
open Go Go.RowKit Go.Proofs
set_option linter.unusedSimpArgs false
set_option linter.unusedVariables false
attribute [local go_sem] Ext.alloc Ext.alloc2 Ext.alloc3 Ext.alloc4 Ext.drewN_alloc Ext.drewN_alloc2 Ext.drew_alloc Ext.drew Ext.drewN toList_beq

set_option maxRecDepth 100000 in
set_option maxHeartbeats 2000000 in
theorem h_step_a (w : World) (b o n cap k : Nat) (l : List Ev) (hE : Evs w (some ⟨b, o, none⟩) n l) (hk : k < n) (hc : n ≤ cap) (h1 : may (nth l k) = false) :
    Calls Try.prog 97 #[.slice (some ⟨b, o, none⟩) n cap, .int .i64 k] w fun e w' => e = .returned (.int .i64 (stepErr l k)) ∧ Ext w w' := by
  have hX := Ext.refl w
  have hbig := hE.big
  have HE := hid hE
  have HF : Hid (stepErr l k = 1) := hid (by unfold stepErr; rw [if_pos h1])
  have HO := hid (fun (W : World) (x : Ext w W) => (by have h := h_over W (some ⟨b, o, none⟩) k cap (l.take k) (nth l k).txn (Sl.take (hE.ext x) (by omega)); exact h : Calls Try.prog 98 #[.slice (some ⟨b, o, none⟩) k cap, .int .i64 (nth l k).txn] W fun e w' => e = .returned (.tuple #[.bool (decide (0 ≤ firstOf (l.take k) (nth l k).txn)), .bool (decide (0 ≤ endOf (l.take k) (nth l k).txn))]) ∧ Ext W w'))
  have HM := hid h1
  have hE' := hE
  obtain ⟨b', o', e', h0', h1', h2', h3'⟩ := hE.opn (by omega)
  cases e'
  clear hE hE' h1
  go_enter Try.func97, Try.ntmps97
  go_wp2
  have hS := fun x : After (w.alloc (.cells #[.int .i64 (nth l k).kind, .int .i64 (nth l k).txn, .string (nth l k).key, .string (nth l k).val] 31)) => (hX.alloc _).trans x.h
  have hCl := fun x : After (w.alloc (.cells #[.int .i64 (nth l k).kind, .int .i64 (nth l k).txn, .string (nth l k).key, .string (nth l k).val] 31)) => x.h.cell ((Blk.new w 31 #[.int .i64 (nth l k).kind, .int .i64 (nth l k).txn, .string (nth l k).key, .string (nth l k).val]).cells4.2.1)
  refine wp_region_ext_lit (by kernel_rfl) (by kernel_rfl) ?_
  repeat (go_big_quiet_step ((go_at_call 98; exact Calls.quietX (HO.out _ (hS _)))))
  refine wpQuiet_nil ?_
  rintro V1 ⟨x1, hx1⟩
  have hV1 := x1.h
  rw [← hx1] at hV1
  clear hx1 x1
  have b1 := (Blk.new w 31 #[.int .i64 (nth l k).kind, .int .i64 (nth l k).txn, .string (nth l k).key, .string (nth l k).val]).ext hV1
  obtain ⟨p0, p1, p2, p3⟩ := b1.cells4
  have hXV := (hX.alloc _).trans hV1
  clear hS hCl
  go_wp2_with (go_at_call 122; refine (e_may _ (nth l k)).mono ?_; rintro e w2 ⟨rfl, hx2⟩; rw [HM.out]; have hX2 := hXV.trans hx2; have b2 := b1.ext hx2; clear p0 p1 p2 p3; obtain ⟨p0, p1, p2, p3⟩ := b2.cells4)
  go_ret
  exact ⟨by rw [HF.out]; rfl, (by repeat (first | assumption | apply Ext.alloc | apply Ext.drewN | apply Ext.drew | (refine Ext.setCell (by simp <;> omega) ?_ _)))⟩

set_option maxRecDepth 100000 in
set_option maxHeartbeats 2000000 in
theorem h_step_b (w : World) (b o n cap k : Nat) (l : List Ev) (hE : Evs w (some ⟨b, o, none⟩) n l) (hk : k < n) (hc : n ≤ cap) (h1 : may (nth l k) = true) (hk1 : (nth l k).kind = 1) (h2 : 0 ≤ firstOf (l.take k) (nth l k).txn) :
    Calls Try.prog 97 #[.slice (some ⟨b, o, none⟩) n cap, .int .i64 k] w fun e w' => e = .returned (.int .i64 (stepErr l k)) ∧ Ext w w' := by
  have hX := Ext.refl w
  have hbig := hE.big
  have HE := hid hE
  have HF : Hid (stepErr l k = 8) := hid (by unfold stepErr; rw [if_neg (by rw [h1]; simp)]; rw [if_pos hk1, if_pos h2])
  have ha : decide (0 ≤ firstOf (l.take k) (nth l k).txn) = true := by simp [h2]
  have HO := hid (fun (W : World) (x : Ext w W) => (by have h := h_over W (some ⟨b, o, none⟩) k cap (l.take k) (nth l k).txn (Sl.take (hE.ext x) (by omega)); rwa [ha] at h : Calls Try.prog 98 #[.slice (some ⟨b, o, none⟩) k cap, .int .i64 (nth l k).txn] W fun e w' => e = .returned (.tuple #[.bool (true), .bool (decide (0 ≤ endOf (l.take k) (nth l k).txn))]) ∧ Ext W w'))
  have HM := hid h1
  have kb1 : ((nth l k).kind == 1) = true := by rw [hk1]; rfl
  have kb2 : ((nth l k).kind == 2) = false := by rw [hk1]; rfl
  have kb3 : ((nth l k).kind == 3) = false := by rw [hk1]; rfl
  clear hk1
  have hE' := hE
  obtain ⟨b', o', e', h0', h1', h2', h3'⟩ := hE.opn (by omega)
  cases e'
  clear hE hE' h1 ha h2
  go_enter Try.func97, Try.ntmps97
  go_wp2
  have hS := fun x : After (w.alloc (.cells #[.int .i64 (nth l k).kind, .int .i64 (nth l k).txn, .string (nth l k).key, .string (nth l k).val] 31)) => (hX.alloc _).trans x.h
  have hCl := fun x : After (w.alloc (.cells #[.int .i64 (nth l k).kind, .int .i64 (nth l k).txn, .string (nth l k).key, .string (nth l k).val] 31)) => x.h.cell ((Blk.new w 31 #[.int .i64 (nth l k).kind, .int .i64 (nth l k).txn, .string (nth l k).key, .string (nth l k).val]).cells4.2.1)
  refine wp_region_ext_lit (by kernel_rfl) (by kernel_rfl) ?_
  repeat (go_big_quiet_step ((go_at_call 98; exact Calls.quietX (HO.out _ (hS _)))))
  refine wpQuiet_nil ?_
  rintro V1 ⟨x1, hx1⟩
  have hV1 := x1.h
  rw [← hx1] at hV1
  clear hx1 x1
  have b1 := (Blk.new w 31 #[.int .i64 (nth l k).kind, .int .i64 (nth l k).txn, .string (nth l k).key, .string (nth l k).val]).ext hV1
  obtain ⟨p0, p1, p2, p3⟩ := b1.cells4
  have hXV := (hX.alloc _).trans hV1
  clear hS hCl
  go_wp2_with (go_at_call 122; refine (e_may _ (nth l k)).mono ?_; rintro e w2 ⟨rfl, hx2⟩; rw [HM.out]; have hX2 := hXV.trans hx2; have b2 := b1.ext hx2; clear p0 p1 p2 p3; obtain ⟨p0, p1, p2, p3⟩ := b2.cells4)
  go_ret
  exact ⟨by rw [HF.out]; rfl, (by repeat (first | assumption | apply Ext.alloc | apply Ext.drewN | apply Ext.drew | (refine Ext.setCell (by simp <;> omega) ?_ _)))⟩

set_option maxRecDepth 100000 in
set_option maxHeartbeats 2000000 in
theorem h_step_c (w : World) (b o n cap k : Nat) (l : List Ev) (hE : Evs w (some ⟨b, o, none⟩) n l) (hk : k < n) (hc : n ≤ cap) (h1 : may (nth l k) = true) (hk1 : (nth l k).kind = 1) (h2 : ¬ 0 ≤ firstOf (l.take k) (nth l k).txn) :
    Calls Try.prog 97 #[.slice (some ⟨b, o, none⟩) n cap, .int .i64 k] w fun e w' => e = .returned (.int .i64 (stepErr l k)) ∧ Ext w w' := by
  have hX := Ext.refl w
  have hbig := hE.big
  have HE := hid hE
  have HF : Hid (stepErr l k = 0) := hid (by unfold stepErr; rw [if_neg (by rw [h1]; simp)]; rw [if_pos hk1, if_neg h2])
  have ha : decide (0 ≤ firstOf (l.take k) (nth l k).txn) = false := by simp [h2]
  have HO := hid (fun (W : World) (x : Ext w W) => (by have h := h_over W (some ⟨b, o, none⟩) k cap (l.take k) (nth l k).txn (Sl.take (hE.ext x) (by omega)); rwa [ha] at h : Calls Try.prog 98 #[.slice (some ⟨b, o, none⟩) k cap, .int .i64 (nth l k).txn] W fun e w' => e = .returned (.tuple #[.bool (false), .bool (decide (0 ≤ endOf (l.take k) (nth l k).txn))]) ∧ Ext W w'))
  have HM := hid h1
  have kb1 : ((nth l k).kind == 1) = true := by rw [hk1]; rfl
  have kb2 : ((nth l k).kind == 2) = false := by rw [hk1]; rfl
  have kb3 : ((nth l k).kind == 3) = false := by rw [hk1]; rfl
  clear hk1
  have hE' := hE
  obtain ⟨b', o', e', h0', h1', h2', h3'⟩ := hE.opn (by omega)
  cases e'
  clear hE hE' h1 ha h2
  go_enter Try.func97, Try.ntmps97
  go_wp2
  have hS := fun x : After (w.alloc (.cells #[.int .i64 (nth l k).kind, .int .i64 (nth l k).txn, .string (nth l k).key, .string (nth l k).val] 31)) => (hX.alloc _).trans x.h
  have hCl := fun x : After (w.alloc (.cells #[.int .i64 (nth l k).kind, .int .i64 (nth l k).txn, .string (nth l k).key, .string (nth l k).val] 31)) => x.h.cell ((Blk.new w 31 #[.int .i64 (nth l k).kind, .int .i64 (nth l k).txn, .string (nth l k).key, .string (nth l k).val]).cells4.2.1)
  refine wp_region_ext_lit (by kernel_rfl) (by kernel_rfl) ?_
  repeat (go_big_quiet_step ((go_at_call 98; exact Calls.quietX (HO.out _ (hS _)))))
  refine wpQuiet_nil ?_
  rintro V1 ⟨x1, hx1⟩
  have hV1 := x1.h
  rw [← hx1] at hV1
  clear hx1 x1
  have b1 := (Blk.new w 31 #[.int .i64 (nth l k).kind, .int .i64 (nth l k).txn, .string (nth l k).key, .string (nth l k).val]).ext hV1
  obtain ⟨p0, p1, p2, p3⟩ := b1.cells4
  have hXV := (hX.alloc _).trans hV1
  clear hS hCl
  go_wp2_with (go_at_call 122; refine (e_may _ (nth l k)).mono ?_; rintro e w2 ⟨rfl, hx2⟩; rw [HM.out]; have hX2 := hXV.trans hx2; have b2 := b1.ext hx2; clear p0 p1 p2 p3; obtain ⟨p0, p1, p2, p3⟩ := b2.cells4)
  go_ret
  exact ⟨by rw [HF.out]; rfl, (by repeat (first | assumption | apply Ext.alloc | apply Ext.drewN | apply Ext.drew | (refine Ext.setCell (by simp <;> omega) ?_ _)))⟩

set_option maxRecDepth 100000 in
set_option maxHeartbeats 2000000 in
theorem h_step_d (w : World) (b o n cap k : Nat) (l : List Ev) (hE : Evs w (some ⟨b, o, none⟩) n l) (hk : k < n) (hc : n ≤ cap) (h1 : may (nth l k) = true) (hk1 : (nth l k).kind ≠ 1) (h2 : ¬ 0 ≤ firstOf (l.take k) (nth l k).txn) :
    Calls Try.prog 97 #[.slice (some ⟨b, o, none⟩) n cap, .int .i64 k] w fun e w' => e = .returned (.int .i64 (stepErr l k)) ∧ Ext w w' := by
  have hX := Ext.refl w
  have hbig := hE.big
  have HE := hid hE
  have HF : Hid (stepErr l k = 7) := hid (by unfold stepErr; rw [if_neg (by rw [h1]; simp)]; rw [if_neg hk1, if_pos (by omega)])
  have ha : decide (0 ≤ firstOf (l.take k) (nth l k).txn) = false := by simp [h2]
  have HO := hid (fun (W : World) (x : Ext w W) => (by have h := h_over W (some ⟨b, o, none⟩) k cap (l.take k) (nth l k).txn (Sl.take (hE.ext x) (by omega)); rwa [ha] at h : Calls Try.prog 98 #[.slice (some ⟨b, o, none⟩) k cap, .int .i64 (nth l k).txn] W fun e w' => e = .returned (.tuple #[.bool (false), .bool (decide (0 ≤ endOf (l.take k) (nth l k).txn))]) ∧ Ext W w'))
  have HM := hid h1
  have kb1 : ((nth l k).kind == 1) = false := beq_eq_false_iff_ne.2 hk1
  clear hk1
  have hE' := hE
  obtain ⟨b', o', e', h0', h1', h2', h3'⟩ := hE.opn (by omega)
  cases e'
  clear hE hE' h1 ha h2
  go_enter Try.func97, Try.ntmps97
  go_wp2
  have hS := fun x : After (w.alloc (.cells #[.int .i64 (nth l k).kind, .int .i64 (nth l k).txn, .string (nth l k).key, .string (nth l k).val] 31)) => (hX.alloc _).trans x.h
  have hCl := fun x : After (w.alloc (.cells #[.int .i64 (nth l k).kind, .int .i64 (nth l k).txn, .string (nth l k).key, .string (nth l k).val] 31)) => x.h.cell ((Blk.new w 31 #[.int .i64 (nth l k).kind, .int .i64 (nth l k).txn, .string (nth l k).key, .string (nth l k).val]).cells4.2.1)
  refine wp_region_ext_lit (by kernel_rfl) (by kernel_rfl) ?_
  repeat (go_big_quiet_step ((go_at_call 98; exact Calls.quietX (HO.out _ (hS _)))))
  refine wpQuiet_nil ?_
  rintro V1 ⟨x1, hx1⟩
  have hV1 := x1.h
  rw [← hx1] at hV1
  clear hx1 x1
  have b1 := (Blk.new w 31 #[.int .i64 (nth l k).kind, .int .i64 (nth l k).txn, .string (nth l k).key, .string (nth l k).val]).ext hV1
  obtain ⟨p0, p1, p2, p3⟩ := b1.cells4
  have hXV := (hX.alloc _).trans hV1
  clear hS hCl
  go_wp2_with (go_at_call 122; refine (e_may _ (nth l k)).mono ?_; rintro e w2 ⟨rfl, hx2⟩; rw [HM.out]; have hX2 := hXV.trans hx2; have b2 := b1.ext hx2; clear p0 p1 p2 p3; obtain ⟨p0, p1, p2, p3⟩ := b2.cells4)
  go_ret
  exact ⟨by rw [HF.out]; rfl, (by repeat (first | assumption | apply Ext.alloc | apply Ext.drewN | apply Ext.drew | (refine Ext.setCell (by simp <;> omega) ?_ _)))⟩

set_option maxRecDepth 100000 in
set_option maxHeartbeats 2000000 in
theorem h_step_e (w : World) (b o n cap k : Nat) (l : List Ev) (hE : Evs w (some ⟨b, o, none⟩) n l) (hk : k < n) (hc : n ≤ cap) (h1 : may (nth l k) = true) (hk1 : (nth l k).kind ≠ 1) (h2 : 0 ≤ firstOf (l.take k) (nth l k).txn) (h3 : 0 ≤ endOf (l.take k) (nth l k).txn) :
    Calls Try.prog 97 #[.slice (some ⟨b, o, none⟩) n cap, .int .i64 k] w fun e w' => e = .returned (.int .i64 (stepErr l k)) ∧ Ext w w' := by
  have hX := Ext.refl w
  have hbig := hE.big
  have HE := hid hE
  have HF : Hid (stepErr l k = 9) := hid (by unfold stepErr; rw [if_neg (by rw [h1]; simp)]; rw [if_neg hk1, if_neg (by omega), if_pos h3])
  have ha : decide (0 ≤ firstOf (l.take k) (nth l k).txn) = true := by simp [h2]
  have hdn : decide (0 ≤ endOf (l.take k) (nth l k).txn) = true := by simp [h3]
  have HO := hid (fun (W : World) (x : Ext w W) => (by have h := h_over W (some ⟨b, o, none⟩) k cap (l.take k) (nth l k).txn (Sl.take (hE.ext x) (by omega)); rwa [ha, hdn] at h : Calls Try.prog 98 #[.slice (some ⟨b, o, none⟩) k cap, .int .i64 (nth l k).txn] W fun e w' => e = .returned (.tuple #[.bool (true), .bool (true)]) ∧ Ext W w'))
  have HM := hid h1
  have kb1 : ((nth l k).kind == 1) = false := beq_eq_false_iff_ne.2 hk1
  clear hk1
  have hE' := hE
  obtain ⟨b', o', e', h0', h1', h2', h3'⟩ := hE.opn (by omega)
  cases e'
  clear hE hE' h1 ha h2 hdn h3
  go_enter Try.func97, Try.ntmps97
  go_wp2
  have hS := fun x : After (w.alloc (.cells #[.int .i64 (nth l k).kind, .int .i64 (nth l k).txn, .string (nth l k).key, .string (nth l k).val] 31)) => (hX.alloc _).trans x.h
  have hCl := fun x : After (w.alloc (.cells #[.int .i64 (nth l k).kind, .int .i64 (nth l k).txn, .string (nth l k).key, .string (nth l k).val] 31)) => x.h.cell ((Blk.new w 31 #[.int .i64 (nth l k).kind, .int .i64 (nth l k).txn, .string (nth l k).key, .string (nth l k).val]).cells4.2.1)
  refine wp_region_ext_lit (by kernel_rfl) (by kernel_rfl) ?_
  repeat (go_big_quiet_step ((go_at_call 98; exact Calls.quietX (HO.out _ (hS _)))))
  refine wpQuiet_nil ?_
  rintro V1 ⟨x1, hx1⟩
  have hV1 := x1.h
  rw [← hx1] at hV1
  clear hx1 x1
  have b1 := (Blk.new w 31 #[.int .i64 (nth l k).kind, .int .i64 (nth l k).txn, .string (nth l k).key, .string (nth l k).val]).ext hV1
  obtain ⟨p0, p1, p2, p3⟩ := b1.cells4
  have hXV := (hX.alloc _).trans hV1
  clear hS hCl
  go_wp2_with (go_at_call 122; refine (e_may _ (nth l k)).mono ?_; rintro e w2 ⟨rfl, hx2⟩; rw [HM.out]; have hX2 := hXV.trans hx2; have b2 := b1.ext hx2; clear p0 p1 p2 p3; obtain ⟨p0, p1, p2, p3⟩ := b2.cells4)
  go_ret
  exact ⟨by rw [HF.out]; rfl, (by repeat (first | assumption | apply Ext.alloc | apply Ext.drewN | apply Ext.drew | (refine Ext.setCell (by simp <;> omega) ?_ _)))⟩

set_option maxRecDepth 100000 in
set_option maxHeartbeats 2000000 in
theorem h_step_f (w : World) (b o n cap k : Nat) (l : List Ev) (hE : Evs w (some ⟨b, o, none⟩) n l) (hk : k < n) (hc : n ≤ cap) (h1 : may (nth l k) = true) (hk1 : (nth l k).kind ≠ 1) (h2 : 0 ≤ firstOf (l.take k) (nth l k).txn) (h3 : ¬ 0 ≤ endOf (l.take k) (nth l k).txn) (hk3 : (nth l k).kind = 3) (h4 : (l.take k).any (twice (nth l k)) = true) :
    Calls Try.prog 97 #[.slice (some ⟨b, o, none⟩) n cap, .int .i64 k] w fun e w' => e = .returned (.int .i64 (stepErr l k)) ∧ Ext w w' := by
  have hX := Ext.refl w
  have hbig := hE.big
  have HE := hid hE
  have HF : Hid (stepErr l k = 8) := hid (by unfold stepErr; rw [if_neg (by rw [h1]; simp)]; rw [if_neg hk1, if_neg (by omega), if_neg h3]; rw [if_pos ⟨hk3, h4⟩])
  have ha : decide (0 ≤ firstOf (l.take k) (nth l k).txn) = true := by simp [h2]
  have hdn : decide (0 ≤ endOf (l.take k) (nth l k).txn) = false := by simp [h3]
  have HO := hid (fun (W : World) (x : Ext w W) => (by have h := h_over W (some ⟨b, o, none⟩) k cap (l.take k) (nth l k).txn (Sl.take (hE.ext x) (by omega)); rwa [ha, hdn] at h : Calls Try.prog 98 #[.slice (some ⟨b, o, none⟩) k cap, .int .i64 (nth l k).txn] W fun e w' => e = .returned (.tuple #[.bool (true), .bool (false)]) ∧ Ext W w'))
  have HM := hid h1
  have kb1 : ((nth l k).kind == 1) = false := by rw [hk3]; rfl
  have kb2 : ((nth l k).kind == 2) = false := by rw [hk3]; rfl
  have kb3 : ((nth l k).kind == 3) = true := by rw [hk3]; rfl
  have HT := hid h4
  clear hk1 hk3
  have hE' := hE
  obtain ⟨b', o', e', h0', h1', h2', h3'⟩ := hE.opn (by omega)
  cases e'
  clear hE hE' h1 ha h2 hdn h3
  go_enter Try.func97, Try.ntmps97
  go_wp2
  have hS := fun x : After (w.alloc (.cells #[.int .i64 (nth l k).kind, .int .i64 (nth l k).txn, .string (nth l k).key, .string (nth l k).val] 31)) => (hX.alloc _).trans x.h
  have hCl := fun x : After (w.alloc (.cells #[.int .i64 (nth l k).kind, .int .i64 (nth l k).txn, .string (nth l k).key, .string (nth l k).val] 31)) => x.h.cell ((Blk.new w 31 #[.int .i64 (nth l k).kind, .int .i64 (nth l k).txn, .string (nth l k).key, .string (nth l k).val]).cells4.2.1)
  refine wp_region_ext_lit (by kernel_rfl) (by kernel_rfl) ?_
  repeat (go_big_quiet_step ((go_at_call 98; exact Calls.quietX (HO.out _ (hS _)))))
  refine wpQuiet_nil ?_
  rintro V1 ⟨x1, hx1⟩
  have hV1 := x1.h
  rw [← hx1] at hV1
  clear hx1 x1
  have b1 := (Blk.new w 31 #[.int .i64 (nth l k).kind, .int .i64 (nth l k).txn, .string (nth l k).key, .string (nth l k).val]).ext hV1
  obtain ⟨p0, p1, p2, p3⟩ := b1.cells4
  have hXV := (hX.alloc _).trans hV1
  clear hS hCl
  go_wp2_with (first
    | (go_at_call 122; refine (e_may _ (nth l k)).mono ?_; rintro e w2 ⟨rfl, hx2⟩; rw [HM.out]; have hX2 := hXV.trans hx2; have b2 := b1.ext hx2; clear p0 p1 p2 p3; obtain ⟨p0, p1, p2, p3⟩ := b2.cells4)
    | (go_at_call 123; refine (containsEv 121 #[.pointer (some ⟨w.heap.size, 0, none⟩)] (twice (nth l k)) _ _ _ _ _ (Sl.take (HE.out.ext hX2) (by omega)) (enters_of Try.func121 (by kernel_rfl) rfl) (fun W y hW => h_twice W (nth l k) y w.heap.size (fun V hV => (hW.trans hV).cell p3))).mono ?_; rintro e w3 ⟨rfl, hx3⟩; rw [HT.out]; have hX3 := hX2.trans hx3; have b3 := b2.ext hx3; clear p0 p1 p2 p3; obtain ⟨p0, p1, p2, p3⟩ := b3.cells4))
  go_ret
  exact ⟨by rw [HF.out]; rfl, (by repeat (first | assumption | apply Ext.alloc | apply Ext.drewN | apply Ext.drew | (refine Ext.setCell (by simp <;> omega) ?_ _)))⟩

set_option maxRecDepth 100000 in
set_option maxHeartbeats 2000000 in
theorem h_step_g (w : World) (b o n cap k : Nat) (l : List Ev) (hE : Evs w (some ⟨b, o, none⟩) n l) (hk : k < n) (hc : n ≤ cap) (h1 : may (nth l k) = true) (hk1 : (nth l k).kind ≠ 1) (h2 : 0 ≤ firstOf (l.take k) (nth l k).txn) (h3 : ¬ 0 ≤ endOf (l.take k) (nth l k).txn) (hk3 : (nth l k).kind = 3) (h4 : (l.take k).any (twice (nth l k)) = false) :
    Calls Try.prog 97 #[.slice (some ⟨b, o, none⟩) n cap, .int .i64 k] w fun e w' => e = .returned (.int .i64 (stepErr l k)) ∧ Ext w w' := by
  have hX := Ext.refl w
  have hbig := hE.big
  have HE := hid hE
  have HF : Hid (stepErr l k = 0) := hid (by unfold stepErr; rw [if_neg (by rw [h1]; simp)]; rw [if_neg hk1, if_neg (by omega), if_neg h3]; rw [if_neg (by rw [h4]; simp), if_neg (fun h => by omega)])
  have ha : decide (0 ≤ firstOf (l.take k) (nth l k).txn) = true := by simp [h2]
  have hdn : decide (0 ≤ endOf (l.take k) (nth l k).txn) = false := by simp [h3]
  have HO := hid (fun (W : World) (x : Ext w W) => (by have h := h_over W (some ⟨b, o, none⟩) k cap (l.take k) (nth l k).txn (Sl.take (hE.ext x) (by omega)); rwa [ha, hdn] at h : Calls Try.prog 98 #[.slice (some ⟨b, o, none⟩) k cap, .int .i64 (nth l k).txn] W fun e w' => e = .returned (.tuple #[.bool (true), .bool (false)]) ∧ Ext W w'))
  have HM := hid h1
  have kb1 : ((nth l k).kind == 1) = false := by rw [hk3]; rfl
  have kb2 : ((nth l k).kind == 2) = false := by rw [hk3]; rfl
  have kb3 : ((nth l k).kind == 3) = true := by rw [hk3]; rfl
  have HT := hid h4
  clear hk1 hk3
  have hE' := hE
  obtain ⟨b', o', e', h0', h1', h2', h3'⟩ := hE.opn (by omega)
  cases e'
  clear hE hE' h1 ha h2 hdn h3
  go_enter Try.func97, Try.ntmps97
  go_wp2
  have hS := fun x : After (w.alloc (.cells #[.int .i64 (nth l k).kind, .int .i64 (nth l k).txn, .string (nth l k).key, .string (nth l k).val] 31)) => (hX.alloc _).trans x.h
  have hCl := fun x : After (w.alloc (.cells #[.int .i64 (nth l k).kind, .int .i64 (nth l k).txn, .string (nth l k).key, .string (nth l k).val] 31)) => x.h.cell ((Blk.new w 31 #[.int .i64 (nth l k).kind, .int .i64 (nth l k).txn, .string (nth l k).key, .string (nth l k).val]).cells4.2.1)
  refine wp_region_ext_lit (by kernel_rfl) (by kernel_rfl) ?_
  repeat (go_big_quiet_step ((go_at_call 98; exact Calls.quietX (HO.out _ (hS _)))))
  refine wpQuiet_nil ?_
  rintro V1 ⟨x1, hx1⟩
  have hV1 := x1.h
  rw [← hx1] at hV1
  clear hx1 x1
  have b1 := (Blk.new w 31 #[.int .i64 (nth l k).kind, .int .i64 (nth l k).txn, .string (nth l k).key, .string (nth l k).val]).ext hV1
  obtain ⟨p0, p1, p2, p3⟩ := b1.cells4
  have hXV := (hX.alloc _).trans hV1
  clear hS hCl
  go_wp2_with (first
    | (go_at_call 122; refine (e_may _ (nth l k)).mono ?_; rintro e w2 ⟨rfl, hx2⟩; rw [HM.out]; have hX2 := hXV.trans hx2; have b2 := b1.ext hx2; clear p0 p1 p2 p3; obtain ⟨p0, p1, p2, p3⟩ := b2.cells4)
    | (go_at_call 123; refine (containsEv 121 #[.pointer (some ⟨w.heap.size, 0, none⟩)] (twice (nth l k)) _ _ _ _ _ (Sl.take (HE.out.ext hX2) (by omega)) (enters_of Try.func121 (by kernel_rfl) rfl) (fun W y hW => h_twice W (nth l k) y w.heap.size (fun V hV => (hW.trans hV).cell p3))).mono ?_; rintro e w3 ⟨rfl, hx3⟩; rw [HT.out]; have hX3 := hX2.trans hx3; have b3 := b2.ext hx3; clear p0 p1 p2 p3; obtain ⟨p0, p1, p2, p3⟩ := b3.cells4))
  go_ret
  exact ⟨by rw [HF.out]; rfl, (by repeat (first | assumption | apply Ext.alloc | apply Ext.drewN | apply Ext.drew | (refine Ext.setCell (by simp <;> omega) ?_ _)))⟩

set_option maxRecDepth 100000 in
set_option maxHeartbeats 2000000 in
theorem h_step_h (w : World) (b o n cap k : Nat) (l : List Ev) (hE : Evs w (some ⟨b, o, none⟩) n l) (hk : k < n) (hc : n ≤ cap) (h1 : may (nth l k) = true) (hk1 : (nth l k).kind ≠ 1) (h2 : 0 ≤ firstOf (l.take k) (nth l k).txn) (h3 : ¬ 0 ≤ endOf (l.take k) (nth l k).txn) (hk2 : (nth l k).kind = 2) (hv : (nth l k).val = ByteArray.empty) :
    Calls Try.prog 97 #[.slice (some ⟨b, o, none⟩) n cap, .int .i64 k] w fun e w' => e = .returned (.int .i64 (stepErr l k)) ∧ Ext w w' := by
  have hX := Ext.refl w
  have hbig := hE.big
  have HE := hid hE
  have HF : Hid (stepErr l k = 0) := hid (by unfold stepErr; rw [if_neg (by rw [h1]; simp)]; rw [if_neg hk1, if_neg (by omega), if_neg h3]; rw [if_neg (fun h => by omega), if_neg (fun h => h.2.1 (by rw [hv]; rfl))])
  have ha : decide (0 ≤ firstOf (l.take k) (nth l k).txn) = true := by simp [h2]
  have hdn : decide (0 ≤ endOf (l.take k) (nth l k).txn) = false := by simp [h3]
  have HO := hid (fun (W : World) (x : Ext w W) => (by have h := h_over W (some ⟨b, o, none⟩) k cap (l.take k) (nth l k).txn (Sl.take (hE.ext x) (by omega)); rwa [ha, hdn] at h : Calls Try.prog 98 #[.slice (some ⟨b, o, none⟩) k cap, .int .i64 (nth l k).txn] W fun e w' => e = .returned (.tuple #[.bool (true), .bool (false)]) ∧ Ext W w'))
  have HM := hid h1
  have kb1 : ((nth l k).kind == 1) = false := by rw [hk2]; rfl
  have kb2 : ((nth l k).kind == 2) = true := by rw [hk2]; rfl
  have kb3 : ((nth l k).kind == 3) = false := by rw [hk2]; rfl
  have hv1 : (nth l k).val.toList = [] := (toList_nil_iff_emptyBytes _).2 hv
  have hv2 : (nth l k).val.toList.isEmpty = true := by rw [hv1]; rfl
  clear hk1 hk2 hv
  have hE' := hE
  obtain ⟨b', o', e', h0', h1', h2', h3'⟩ := hE.opn (by omega)
  cases e'
  clear hE hE' h1 ha h2 hdn h3
  go_enter Try.func97, Try.ntmps97
  go_wp2
  have hS := fun x : After (w.alloc (.cells #[.int .i64 (nth l k).kind, .int .i64 (nth l k).txn, .string (nth l k).key, .string (nth l k).val] 31)) => (hX.alloc _).trans x.h
  have hCl := fun x : After (w.alloc (.cells #[.int .i64 (nth l k).kind, .int .i64 (nth l k).txn, .string (nth l k).key, .string (nth l k).val] 31)) => x.h.cell ((Blk.new w 31 #[.int .i64 (nth l k).kind, .int .i64 (nth l k).txn, .string (nth l k).key, .string (nth l k).val]).cells4.2.1)
  refine wp_region_ext_lit (by kernel_rfl) (by kernel_rfl) ?_
  repeat (go_big_quiet_step ((go_at_call 98; exact Calls.quietX (HO.out _ (hS _)))))
  refine wpQuiet_nil ?_
  rintro V1 ⟨x1, hx1⟩
  have hV1 := x1.h
  rw [← hx1] at hV1
  clear hx1 x1
  have b1 := (Blk.new w 31 #[.int .i64 (nth l k).kind, .int .i64 (nth l k).txn, .string (nth l k).key, .string (nth l k).val]).ext hV1
  obtain ⟨p0, p1, p2, p3⟩ := b1.cells4
  have hXV := (hX.alloc _).trans hV1
  clear hS hCl
  go_wp2_with (go_at_call 122; refine (e_may _ (nth l k)).mono ?_; rintro e w2 ⟨rfl, hx2⟩; rw [HM.out]; have hX2 := hXV.trans hx2; have b2 := b1.ext hx2; clear p0 p1 p2 p3; obtain ⟨p0, p1, p2, p3⟩ := b2.cells4)
  go_ret
  exact ⟨by rw [HF.out]; rfl, (by repeat (first | assumption | apply Ext.alloc | apply Ext.drewN | apply Ext.drew | (refine Ext.setCell (by simp <;> omega) ?_ _)))⟩

set_option maxRecDepth 100000 in
set_option maxHeartbeats 2000000 in
theorem h_step_i (w : World) (b o n cap k : Nat) (l : List Ev) (hE : Evs w (some ⟨b, o, none⟩) n l) (hk : k < n) (hc : n ≤ cap) (h1 : may (nth l k) = true) (hk1 : (nth l k).kind ≠ 1) (h2 : 0 ≤ firstOf (l.take k) (nth l k).txn) (h3 : ¬ 0 ≤ endOf (l.take k) (nth l k).txn) (hk2 : (nth l k).kind = 2) (hv : (nth l k).val ≠ ByteArray.empty) (hw : writer l (nth l k).key (nth l k).val < 0) :
    Calls Try.prog 97 #[.slice (some ⟨b, o, none⟩) n cap, .int .i64 k] w fun e w' => e = .returned (.int .i64 (stepErr l k)) ∧ Ext w w' := by
  have hX := Ext.refl w
  have hbig := hE.big
  have HE := hid hE
  have HF : Hid (stepErr l k = 7) := hid (by unfold stepErr; rw [if_neg (by rw [h1]; simp)]; rw [if_neg hk1, if_neg (by omega), if_neg h3]; rw [if_neg (fun h => by omega), if_pos ⟨hk2, fun h => hv (ByteArray.size_eq_zero_iff.1 h), hw⟩])
  have ha : decide (0 ≤ firstOf (l.take k) (nth l k).txn) = true := by simp [h2]
  have hdn : decide (0 ≤ endOf (l.take k) (nth l k).txn) = false := by simp [h3]
  have HO := hid (fun (W : World) (x : Ext w W) => (by have h := h_over W (some ⟨b, o, none⟩) k cap (l.take k) (nth l k).txn (Sl.take (hE.ext x) (by omega)); rwa [ha, hdn] at h : Calls Try.prog 98 #[.slice (some ⟨b, o, none⟩) k cap, .int .i64 (nth l k).txn] W fun e w' => e = .returned (.tuple #[.bool (true), .bool (false)]) ∧ Ext W w'))
  have HM := hid h1
  have kb1 : ((nth l k).kind == 1) = false := by rw [hk2]; rfl
  have kb2 : ((nth l k).kind == 2) = true := by rw [hk2]; rfl
  have kb3 : ((nth l k).kind == 3) = false := by rw [hk2]; rfl
  have hv1 : ¬ (nth l k).val.toList = [] := by rw [toList_nil_iff_emptyBytes]; exact hv
  have hv2 : (nth l k).val.toList.isEmpty = false := by simpa using hv1
  clear hk1 hk2
  have hE' := hE
  obtain ⟨b', o', e', h0', h1', h2', h3'⟩ := hE.opn (by omega)
  cases e'
  clear hE hE' h1 ha h2 hdn h3
  go_enter Try.func97, Try.ntmps97
  go_wp2
  have hS := fun x : After (w.alloc (.cells #[.int .i64 (nth l k).kind, .int .i64 (nth l k).txn, .string (nth l k).key, .string (nth l k).val] 31)) => (hX.alloc _).trans x.h
  have hCl := fun x : After (w.alloc (.cells #[.int .i64 (nth l k).kind, .int .i64 (nth l k).txn, .string (nth l k).key, .string (nth l k).val] 31)) => x.h.cell ((Blk.new w 31 #[.int .i64 (nth l k).kind, .int .i64 (nth l k).txn, .string (nth l k).key, .string (nth l k).val]).cells4.2.1)
  refine wp_region_ext_lit (by kernel_rfl) (by kernel_rfl) ?_
  repeat (go_big_quiet_step ((go_at_call 98; exact Calls.quietX (HO.out _ (hS _)))))
  refine wpQuiet_nil ?_
  rintro V1 ⟨x1, hx1⟩
  have hV1 := x1.h
  rw [← hx1] at hV1
  clear hx1 x1
  have b1 := (Blk.new w 31 #[.int .i64 (nth l k).kind, .int .i64 (nth l k).txn, .string (nth l k).key, .string (nth l k).val]).ext hV1
  obtain ⟨p0, p1, p2, p3⟩ := b1.cells4
  have hXV := (hX.alloc _).trans hV1
  clear hS hCl
  go_wp2_with (first
    | (go_at_call 122; refine (e_may _ (nth l k)).mono ?_; rintro e w2 ⟨rfl, hx2⟩; rw [HM.out]; have hX2 := hXV.trans hx2; have b2 := b1.ext hx2; clear p0 p1 p2 p3; obtain ⟨p0, p1, p2, p3⟩ := b2.cells4)
    | (go_at_call 61; refine (h_writer _ _ _ _ _ _ _ (HE.out.ext hX2)).mono ?_; rintro e w3 ⟨rfl, hx3⟩; have hX3 := hX2.trans hx3))
  go_ret
  exact ⟨by rw [HF.out]; rfl, (by repeat (first | assumption | apply Ext.alloc | apply Ext.drewN | apply Ext.drew | (refine Ext.setCell (by simp <;> omega) ?_ _)))⟩

set_option maxRecDepth 100000 in
set_option maxHeartbeats 2000000 in
theorem h_step_j (w : World) (b o n cap k : Nat) (l : List Ev) (hE : Evs w (some ⟨b, o, none⟩) n l) (hk : k < n) (hc : n ≤ cap) (h1 : may (nth l k) = true) (hk1 : (nth l k).kind ≠ 1) (h2 : 0 ≤ firstOf (l.take k) (nth l k).txn) (h3 : ¬ 0 ≤ endOf (l.take k) (nth l k).txn) (hk2 : (nth l k).kind = 2) (hv : (nth l k).val ≠ ByteArray.empty) (hw : ¬ writer l (nth l k).key (nth l k).val < 0) :
    Calls Try.prog 97 #[.slice (some ⟨b, o, none⟩) n cap, .int .i64 k] w fun e w' => e = .returned (.int .i64 (stepErr l k)) ∧ Ext w w' := by
  have hX := Ext.refl w
  have hbig := hE.big
  have HE := hid hE
  have HF : Hid (stepErr l k = 0) := hid (by unfold stepErr; rw [if_neg (by rw [h1]; simp)]; rw [if_neg hk1, if_neg (by omega), if_neg h3]; rw [if_neg (fun h => by omega), if_neg (fun h => hw h.2.2)])
  have ha : decide (0 ≤ firstOf (l.take k) (nth l k).txn) = true := by simp [h2]
  have hdn : decide (0 ≤ endOf (l.take k) (nth l k).txn) = false := by simp [h3]
  have HO := hid (fun (W : World) (x : Ext w W) => (by have h := h_over W (some ⟨b, o, none⟩) k cap (l.take k) (nth l k).txn (Sl.take (hE.ext x) (by omega)); rwa [ha, hdn] at h : Calls Try.prog 98 #[.slice (some ⟨b, o, none⟩) k cap, .int .i64 (nth l k).txn] W fun e w' => e = .returned (.tuple #[.bool (true), .bool (false)]) ∧ Ext W w'))
  have HM := hid h1
  have kb1 : ((nth l k).kind == 1) = false := by rw [hk2]; rfl
  have kb2 : ((nth l k).kind == 2) = true := by rw [hk2]; rfl
  have kb3 : ((nth l k).kind == 3) = false := by rw [hk2]; rfl
  have hv1 : ¬ (nth l k).val.toList = [] := by rw [toList_nil_iff_emptyBytes]; exact hv
  have hv2 : (nth l k).val.toList.isEmpty = false := by simpa using hv1
  clear hk1 hk2
  have hE' := hE
  obtain ⟨b', o', e', h0', h1', h2', h3'⟩ := hE.opn (by omega)
  cases e'
  clear hE hE' h1 ha h2 hdn h3
  go_enter Try.func97, Try.ntmps97
  go_wp2
  have hS := fun x : After (w.alloc (.cells #[.int .i64 (nth l k).kind, .int .i64 (nth l k).txn, .string (nth l k).key, .string (nth l k).val] 31)) => (hX.alloc _).trans x.h
  have hCl := fun x : After (w.alloc (.cells #[.int .i64 (nth l k).kind, .int .i64 (nth l k).txn, .string (nth l k).key, .string (nth l k).val] 31)) => x.h.cell ((Blk.new w 31 #[.int .i64 (nth l k).kind, .int .i64 (nth l k).txn, .string (nth l k).key, .string (nth l k).val]).cells4.2.1)
  refine wp_region_ext_lit (by kernel_rfl) (by kernel_rfl) ?_
  repeat (go_big_quiet_step ((go_at_call 98; exact Calls.quietX (HO.out _ (hS _)))))
  refine wpQuiet_nil ?_
  rintro V1 ⟨x1, hx1⟩
  have hV1 := x1.h
  rw [← hx1] at hV1
  clear hx1 x1
  have b1 := (Blk.new w 31 #[.int .i64 (nth l k).kind, .int .i64 (nth l k).txn, .string (nth l k).key, .string (nth l k).val]).ext hV1
  obtain ⟨p0, p1, p2, p3⟩ := b1.cells4
  have hXV := (hX.alloc _).trans hV1
  clear hS hCl
  go_wp2_with (first
    | (go_at_call 122; refine (e_may _ (nth l k)).mono ?_; rintro e w2 ⟨rfl, hx2⟩; rw [HM.out]; have hX2 := hXV.trans hx2; have b2 := b1.ext hx2; clear p0 p1 p2 p3; obtain ⟨p0, p1, p2, p3⟩ := b2.cells4)
    | (go_at_call 61; refine (h_writer _ _ _ _ _ _ _ (HE.out.ext hX2)).mono ?_; rintro e w3 ⟨rfl, hx3⟩; have hX3 := hX2.trans hx3))
  go_ret
  exact ⟨by rw [HF.out]; rfl, (by repeat (first | assumption | apply Ext.alloc | apply Ext.drewN | apply Ext.drew | (refine Ext.setCell (by simp <;> omega) ?_ _)))⟩

set_option maxRecDepth 100000 in
set_option maxHeartbeats 2000000 in
theorem h_step_k (w : World) (b o n cap k : Nat) (l : List Ev) (hE : Evs w (some ⟨b, o, none⟩) n l) (hk : k < n) (hc : n ≤ cap) (h1 : may (nth l k) = true) (hk1 : (nth l k).kind ≠ 1) (h2 : 0 ≤ firstOf (l.take k) (nth l k).txn) (h3 : ¬ 0 ≤ endOf (l.take k) (nth l k).txn) (hk2 : (nth l k).kind ≠ 2) (hk3 : (nth l k).kind ≠ 3) :
    Calls Try.prog 97 #[.slice (some ⟨b, o, none⟩) n cap, .int .i64 k] w fun e w' => e = .returned (.int .i64 (stepErr l k)) ∧ Ext w w' := by
  have hX := Ext.refl w
  have hbig := hE.big
  have HE := hid hE
  have HF : Hid (stepErr l k = 0) := hid (by unfold stepErr; rw [if_neg (by rw [h1]; simp)]; rw [if_neg hk1, if_neg (by omega), if_neg h3]; rw [if_neg (fun h => hk3 h.1), if_neg (fun h => hk2 h.1)])
  have ha : decide (0 ≤ firstOf (l.take k) (nth l k).txn) = true := by simp [h2]
  have hdn : decide (0 ≤ endOf (l.take k) (nth l k).txn) = false := by simp [h3]
  have HO := hid (fun (W : World) (x : Ext w W) => (by have h := h_over W (some ⟨b, o, none⟩) k cap (l.take k) (nth l k).txn (Sl.take (hE.ext x) (by omega)); rwa [ha, hdn] at h : Calls Try.prog 98 #[.slice (some ⟨b, o, none⟩) k cap, .int .i64 (nth l k).txn] W fun e w' => e = .returned (.tuple #[.bool (true), .bool (false)]) ∧ Ext W w'))
  have HM := hid h1
  have kb1 : ((nth l k).kind == 1) = false := beq_eq_false_iff_ne.2 hk1
  have kb2 : ((nth l k).kind == 2) = false := beq_eq_false_iff_ne.2 hk2
  have kb3 : ((nth l k).kind == 3) = false := beq_eq_false_iff_ne.2 hk3
  clear hk1 hk2 hk3
  have hE' := hE
  obtain ⟨b', o', e', h0', h1', h2', h3'⟩ := hE.opn (by omega)
  cases e'
  clear hE hE' h1 ha h2 hdn h3
  go_enter Try.func97, Try.ntmps97
  go_wp2
  have hS := fun x : After (w.alloc (.cells #[.int .i64 (nth l k).kind, .int .i64 (nth l k).txn, .string (nth l k).key, .string (nth l k).val] 31)) => (hX.alloc _).trans x.h
  have hCl := fun x : After (w.alloc (.cells #[.int .i64 (nth l k).kind, .int .i64 (nth l k).txn, .string (nth l k).key, .string (nth l k).val] 31)) => x.h.cell ((Blk.new w 31 #[.int .i64 (nth l k).kind, .int .i64 (nth l k).txn, .string (nth l k).key, .string (nth l k).val]).cells4.2.1)
  refine wp_region_ext_lit (by kernel_rfl) (by kernel_rfl) ?_
  repeat (go_big_quiet_step ((go_at_call 98; exact Calls.quietX (HO.out _ (hS _)))))
  refine wpQuiet_nil ?_
  rintro V1 ⟨x1, hx1⟩
  have hV1 := x1.h
  rw [← hx1] at hV1
  clear hx1 x1
  have b1 := (Blk.new w 31 #[.int .i64 (nth l k).kind, .int .i64 (nth l k).txn, .string (nth l k).key, .string (nth l k).val]).ext hV1
  obtain ⟨p0, p1, p2, p3⟩ := b1.cells4
  have hXV := (hX.alloc _).trans hV1
  clear hS hCl
  go_wp2_with (go_at_call 122; refine (e_may _ (nth l k)).mono ?_; rintro e w2 ⟨rfl, hx2⟩; rw [HM.out]; have hX2 := hXV.trans hx2; have b2 := b1.ext hx2; clear p0 p1 p2 p3; obtain ⟨p0, p1, p2, p3⟩ := b2.cells4)
  go_ret
  exact ⟨by rw [HF.out]; rfl, (by repeat (first | assumption | apply Ext.alloc | apply Ext.drewN | apply Ext.drew | (refine Ext.setCell (by simp <;> omega) ?_ _)))⟩

theorem h_step (w : World) (A : Option Addr) (n cap k : Nat) (l : List Ev) (hE : Evs w A n l) (hk : k < n) (hc : n ≤ cap) :
    Calls Try.prog 97 #[.slice A n cap, .int .i64 k] w fun e w' => e = .returned (.int .i64 (stepErr l k)) ∧ Ext w w' := by
  obtain ⟨b, o, rfl, _⟩ := hE.opn (by omega)
  cases h1 : may (nth l k) with
  | false => exact h_step_a w b o n cap k l hE hk hc h1
  | true =>
    by_cases hk1 : (nth l k).kind = 1
    · by_cases h2 : 0 ≤ firstOf (l.take k) (nth l k).txn
      · exact h_step_b w b o n cap k l hE hk hc h1 hk1 h2
      · exact h_step_c w b o n cap k l hE hk hc h1 hk1 h2
    · by_cases h2 : 0 ≤ firstOf (l.take k) (nth l k).txn
      · by_cases h3 : 0 ≤ endOf (l.take k) (nth l k).txn
        · exact h_step_e w b o n cap k l hE hk hc h1 hk1 h2 h3
        · by_cases hk3 : (nth l k).kind = 3
          · cases h4 : (l.take k).any (twice (nth l k)) with
            | true => exact h_step_f w b o n cap k l hE hk hc h1 hk1 h2 h3 hk3 h4
            | false => exact h_step_g w b o n cap k l hE hk hc h1 hk1 h2 h3 hk3 h4
          · by_cases hk2 : (nth l k).kind = 2
            · by_cases hv : (nth l k).val = ByteArray.empty
              · exact h_step_h w b o n cap k l hE hk hc h1 hk1 h2 h3 hk2 hv
              · by_cases hw : writer l (nth l k).key (nth l k).val < 0
                · exact h_step_i w b o n cap k l hE hk hc h1 hk1 h2 h3 hk2 hv hw
                · exact h_step_j w b o n cap k l hE hk hc h1 hk1 h2 h3 hk2 hv hw
            · exact h_step_k w b o n cap k l hE hk hc h1 hk1 h2 h3 hk2 hk3
      · exact h_step_d w b o n cap k l hE hk hc h1 hk1 h2
end
end Go.Proofs.Ythjgmccpbcelgaa

/-! The program's history.Formed. -/
namespace Go.Proofs.Ythjgmccpbcelgaa
section
open Go Go.RowKit Go.Proofs
set_option linter.unusedSimpArgs false
set_option linter.unusedVariables false
attribute [local go_sem] Ext.alloc Ext.alloc2 Ext.alloc3 Ext.alloc4 Ext.drewN_alloc Ext.drewN_alloc2 Ext.drew_alloc Ext.drew Ext.drewN toList_beq

set_option maxRecDepth 100000 in
set_option maxHeartbeats 4000000 in
theorem h_formed (w : World) (A : Option Addr) (n cap : Nat) (l : List Ev) (hE : Evs w A n l) (hc : n ≤ cap) :
    Calls Try.prog 58 #[.slice A n cap] w fun e w' => e = .returned (.tuple #[.int .i64 (formed l).1, .int .i64 (formed l).2]) ∧ Ext w w' := by
  have hX := Ext.refl w
  have hbig := hE.big
  have hl := hid hE.len
  have HE := hid hE
  by_cases hn : 256 < n
  · have hfin : Hid (formed l = (0, 4)) := hid (by unfold formed; rw [if_pos (by rw [hE.len]; exact hn)])
    go_enter Try.func58, Try.ntmps58
    go_wp2
    go_ret2
    exact ⟨by rw [hfin.out]; rfl, hX⟩
  · have hn' : n ≤ 256 := by omega
    clear hn hE
    go_enter Try.func58, Try.ntmps58
    go_wp2
    go_loopw [15] (fun i W => Ext w W ∧ ∃ k : Nat, k ≤ n ∧ i = .int .i64 k ∧ Hid (FE (stepErr l) n k)) (fun i _ => n - (intOf i).toNat)
    case atStart => exact ⟨hX, 0, by omega, rfl, hid (FE.zero _ _)⟩
    case round =>
      obtain ⟨hW, k, hk1, rfl, hr⟩ := hrel
      by_cases hlt : k < n
      · by_cases he : stepErr l k = 0
        · have HF := hid he
          clear he
          go_wp2_with (go_at_call 97; refine (h_step _ _ _ _ _ _ (HE.out.ext hW) hlt hc).mono ?_; rintro e w1 ⟨rfl, hx1⟩; rw [HF.out])
          go_roundw
          case rel => exact ⟨hW.trans hx1, k + 1, by omega, by go_num, hid (hr.out.step hlt HF.out)⟩
          case measure => simp [intOf]; omega
        · have he1 : (stepErr l k == 0) = false := beq_eq_false_iff_ne.2 he
          have he2 : (stepErr l k != 0) = true := by simp [he]
          have HF := hid he
          clear he
          go_wp2_with (go_at_call 97; refine (h_step _ _ _ _ _ _ (HE.out.ext hW) hlt hc).mono ?_; rintro e w1 ⟨rfl, hx1⟩)
          go_ret2
          exact ⟨formed_leaf hl.out hn' hr.out hlt HF.out rfl, hW.trans hx1⟩
      · have hst := hid (hr.out.end (by omega))
        clear hr
        go_wp2
        go_loopw [28] (fun i W => Ext w W ∧ ∃ j : Nat, j ≤ n ∧ i = .int .i64 j ∧ Hid (FE (openErr l) n j)) (fun i _ => n - (intOf i).toNat)
        case atStart => exact ⟨hW, 0, by omega, rfl, hid (FE.zero _ _)⟩
        case round =>
          obtain ⟨hW2, j, hj1, rfl, hr2⟩ := hrel
          by_cases hjn : j < n
          · obtain ⟨b, o, rfl, h0, h1, h2, h3⟩ := HE.out.opn (by omega)
            by_cases he : 0 ≤ endOf l (nth l j).txn
            · have HD : Hid (decide (0 ≤ endOf l (nth l j).txn) = true) := hid (by simp [he])
              have HO : Hid (openErr l j = 0) := hid (by simp [openErr]; omega)
              clear he
              go_wp2_with (go_at_call 98; refine (h_over _ _ _ _ _ _ (HE.out.ext (hW2.alloc _))).mono ?_; rintro e w2 ⟨rfl, hx2⟩; rw [HD.out])
              go_roundw
              case rel => exact ⟨(hW2.alloc _).trans hx2, j + 1, by omega, by go_num, hid (hr2.out.step hjn HO.out)⟩
              case measure => simp [intOf]; omega
            · have HD : Hid (decide (0 ≤ endOf l (nth l j).txn) = false) := hid (by simp [he])
              have HO : Hid (openErr l j = 9) := hid (by simp [openErr]; omega)
              clear he
              go_wp2_with (go_at_call 98; refine (h_over _ _ _ _ _ _ (HE.out.ext (hW2.alloc _))).mono ?_; rintro e w2 ⟨rfl, hx2⟩; rw [HD.out])
              go_ret2
              exact ⟨formed_leaf2 hl.out hn' hst.out hr2.out hjn (by decide) HO.out, (hW2.alloc _).trans hx2⟩
          · go_wp2
            go_ret2
            exact ⟨formed_leaf3 hl.out hn' hst.out hr2.out (by omega), hW2⟩

end
end Go.Proofs.Ythjgmccpbcelgaa

/-! The program's history.Lives. -/
namespace Go.Proofs.Ythjgmccpbcelgaa
section
open Go Go.RowKit Go.Proofs
set_option linter.unusedSimpArgs false
set_option linter.unusedVariables false
attribute [local go_sem] Ext.alloc Ext.alloc2 Ext.alloc3 Ext.alloc4 Ext.drewN_alloc Ext.drewN_alloc2 Ext.drew_alloc Ext.drew Ext.drewN toList_beq
attribute [-go_sem] Builtin.append_

def Life.cs (x : Life) : List Value := [.int .i64 x.txn, .int .i64 x.from_, .int .i64 x.till, .bool x.com]
def kLife : Kd Life := Kd.flat 4 Life.z Life.cs (fun _ => rfl)
abbrev Lifes (w : World) (A : Option Addr) (n : Nat) (l : List Life) : Prop := Sl kLife w A n l
def livesFrom (h : List Ev) : Nat → Nat → List Life
  | 0, _ => []
  | m + 1, i => if firstOf (h.take i) (nth h i).txn < 0 then lifeOf h i :: livesFrom h m (i + 1) else livesFrom h m (i + 1)
def lives (h : List Ev) : List Life := livesFrom h h.length 0
theorem livesFrom_len (h : List Ev) : ∀ m i, (livesFrom h m i).length ≤ m
  | 0, _ => by simp [livesFrom]
  | m + 1, i => by
    unfold livesFrom
    have := livesFrom_len h m (i + 1)
    split
    · simp; omega
    · omega
def RLifes (w : World) (l : List Life) (e : Ending) (w' : World) : Prop := ∃ A cap, e = .returned (.slice A l.length cap) ∧ Lifes w' A l.length l ∧ Ext w w'
def ROwnLifes (w : World) (l : List Life) (e : Ending) (w' : World) : Prop := ∃ v, e = .returned v ∧ w'.ownsRow w.heap.size 33 4 v l.length (l.flatMap Life.cs) ∧ Ext w w'
theorem infoLife : (Try.prog.info? 33).map (fun i => (i.zero, i.size, i.bytes)) = some (some (.agg #[.int .i64 0, .int .i64 0, .int .i64 0, .bool false]), 4, 32) := by kernel_rfl

set_option maxRecDepth 100000 in
set_option maxHeartbeats 2000000 in
theorem h_lives_own (w : World) (A : Option Addr) (n cap : Nat) (l : List Ev) (hE : Evs w A n l) (hn : n ≤ 1000) (hc : n ≤ cap) :
    Calls Try.prog 69 #[.slice A n cap] w (ROwnLifes w (lives l)) := by
  have hX := Ext.refl w
  have hbig := hE.big
  have hl := hid hE.len
  have HE := hid hE
  obtain ⟨i0, hi, hz0, hz1, hz2⟩ := info_parts infoLife
  clear hE
  go_enter Try.func69, Try.ntmps69
  go_wp2
  go_loopw [3, 10] (fun out i W => Ext w W ∧ ∃ (k : Nat) (pre : List Life), k ≤ n ∧ i = .int .i64 k ∧ W.ownsRow w.heap.size 33 4 out pre.length (pre.flatMap Life.cs) ∧ pre.length ≤ k ∧ Hid (pre ++ livesFrom l (n - k) k = lives l)) (fun _ i _ => n - (intOf i).toNat)
  case atStart => exact ⟨hX, 0, [], by omega, rfl, World.ownsRow_nil _ _ _ _, by simp, hid (by unfold lives; rw [hl.out]; rfl)⟩
  case round =>
    obtain ⟨hW, k, pre, hk1, rfl, hown, hpl, hr⟩ := hrel
    by_cases hlt : k < n
    · obtain ⟨b, o, rfl, h0, h1, h2, h3⟩ := HE.out.opn (by omega)
      have hst : Hid (livesFrom l (n - k) k = if firstOf (l.take k) (nth l k).txn < 0 then lifeOf l k :: livesFrom l (n - (k + 1)) (k + 1) else livesFrom l (n - (k + 1)) (k + 1)) := hid (by rw [show n - k = (n - (k + 1)) + 1 by omega]; rfl)
      have HO := hid (fun (W : World) (x : Ext w W) => h_over W (some ⟨b, o, none⟩) k cap (l.take k) (nth l k).txn (Sl.take (HE.out.ext x) (by omega)))
      have hS := fun x : After (wr.alloc (.cells #[.int .i64 (nth l k).kind, .int .i64 (nth l k).txn, .string (nth l k).key, .string (nth l k).val] 31)) => (hW.alloc _).trans x.h
      have hCl := fun x : After (wr.alloc (.cells #[.int .i64 (nth l k).kind, .int .i64 (nth l k).txn, .string (nth l k).key, .string (nth l k).val] 31)) => x.h.cell ((Blk.new wr 31 #[.int .i64 (nth l k).kind, .int .i64 (nth l k).txn, .string (nth l k).key, .string (nth l k).val]).cells4.2.1)
      by_cases hz : 0 ≤ firstOf (l.take k) (nth l k).txn
      · have HD : Hid (decide (0 ≤ firstOf (l.take k) (nth l k).txn) = true) := hid (by simp [hz])
        have HZ := hid hz
        clear hz
        go_wp2
        refine wp_region_ext_lit (by kernel_rfl) (by kernel_rfl) ?_
        repeat (go_big_quiet_step ((go_at_call 98; exact Calls.quietX (HO.out _ (hS _)))))
        refine wpQuiet_nil ?_
        rintro V1 ⟨x1, hx1⟩
        have hV1 := x1.h
        rw [← hx1] at hV1
        clear hx1 x1
        have hXV := (hW.alloc _).trans hV1
        have hown1 := own_ext (hown.alloc _) (by have := hW.le; simp; omega) hV1
        rw [HD.out]
        clear hS hCl
        go_wp2
        go_roundw
        case rel =>
          refine ⟨hXV, k + 1, pre, by omega, by go_num, hown1, by omega, hid ?_⟩
          rw [← hr.out, hst.out, if_neg (by have := HZ.out; omega)]
        case measure => simp [intOf]; omega
      · have HD : Hid (decide (0 ≤ firstOf (l.take k) (nth l k).txn) = false) := hid (by simp [hz])
        have HZ := hid hz
        clear hz
        go_wp2
        refine wp_region_ext_lit (by kernel_rfl) (by kernel_rfl) ?_
        repeat (go_big_quiet_step ((go_at_call 98; exact Calls.quietX (HO.out _ (hS _)))))
        refine wpQuiet_nil ?_
        rintro V1 ⟨x1, hx1⟩
        have hV1 := x1.h
        rw [← hx1] at hV1
        clear hx1 x1
        have hXV := (hW.alloc _).trans hV1
        have hown1 := own_ext (hown.alloc _) (by have := hW.le; simp; omega) hV1
        rw [HD.out]
        clear hS hCl
        go_wp2_with (go_at_call 107; refine (h_life _ _ _ _ _ _ (HE.out.ext hXV) hlt).mono ?_; rintro e w2 ⟨rfl, hx2⟩; have hX2 := hXV.trans hx2; have hown2 := own_ext hown1 (by have := hXV.le; omega) hx2)
        obtain ⟨v', w4, hrun, hown3, hgrow, _⟩ := run_append_own (P := Try.prog) _ w.heap.size 78 78 33 i0 (.agg #[.int .i64 0, .int .i64 0, .int .i64 0, .bool false]) 4 32 Try.underlying78 hi hz0 hz1 hz2 rfl (by decide) _ _ _ (hown2.alloc (.cells #[.int .i64 (lifeOf l k).txn, .int .i64 (lifeOf l k).from_, .int .i64 (lifeOf l k).till, .bool (lifeOf l k).com] 33)) ⟨w2.heap.size, 0, none⟩ 1 1 [.int .i64 (lifeOf l k).txn, .int .i64 (lifeOf l k).from_, .int .i64 (lifeOf l k).till, .bool (lifeOf l k).com] rfl (new_cells rfl) (by intro u hu; simp at hu; rcases hu with rfl | rfl | rfl | rfl <;> rfl) (by unfold maxLen; omega) (by omega) (by have := hX2.le; simp; omega)
        rw [hrun]
        have e1 : pre.flatMap Life.cs ++ [.int .i64 (lifeOf l k).txn, .int .i64 (lifeOf l k).from_, .int .i64 (lifeOf l k).till, .bool (lifeOf l k).com] = (pre ++ [lifeOf l k]).flatMap Life.cs := by simp [Life.cs]
        have e2 : pre.length + 1 = (pre ++ [lifeOf l k]).length := by simp
        rw [e1, e2] at hown3
        have hW2 : Ext w w4 := Ext.grown (Ext.alloc hX2 _) hgrow (own_block hown2)
        clear e1 e2
        go_wp2
        go_roundw
        case rel =>
          refine ⟨hW2, k + 1, pre ++ [lifeOf l k], by omega, by go_num, hown3, by simp; omega, hid ?_⟩
          rw [← hr.out, hst.out, if_pos (by have := HZ.out; omega)]; simp
        case measure => simp [intOf]; omega
    · go_wp2
      have hb : pre = lives l := by rw [← hr.out, show n - k = 0 by omega]; simp [livesFrom]
      subst hb
      go_ret
      exact ⟨_, rfl, hown, hW⟩

theorem lives_len (l : List Ev) : (lives l).length ≤ l.length := livesFrom_len l _ _

theorem h_lives (w : World) (A : Option Addr) (n cap : Nat) (l : List Ev) (hE : Evs w A n l) (hn : n ≤ 1000) (hc : n ≤ cap) :
    Calls Try.prog 69 #[.slice A n cap] w (RLifes w (lives l)) := by
  refine (h_lives_own w A n cap l hE hn hc).mono ?_
  rintro e w' ⟨v, rfl, hown, hx⟩
  obtain ⟨A', c', e', hs'⟩ := sl_of_own (l := lives l) (c := Life.cs) (z := Life.z) (hc := fun _ => rfl) hown (by have := lives_len l; have := hE.len; omega)
  subst e'
  exact ⟨A', c', rfl, hs', hx⟩

/-- What a row of lives holds, in words that the walk takes. -/
def lnth (l : List Life) (i : Nat) : Life := l.getD i Life.z
theorem Lifes.opn {w : World} {A : Option Addr} {n : Nat} {l : List Life} (h : Lifes w A n l) (hn : 0 < n) : ∃ b o, A = some ⟨b, o, none⟩ ∧
    (∀ W i, Ext w W → i < n → W.cell? ⟨b, o + i * 4, none⟩ = some (.int .i64 (lnth l i).txn)) ∧
    (∀ W i, Ext w W → i < n → W.cell? ⟨b, o + i * 4 + 1, none⟩ = some (.int .i64 (lnth l i).from_)) ∧
    (∀ W i, Ext w W → i < n → W.cell? ⟨b, o + i * 4 + 2, none⟩ = some (.int .i64 (lnth l i).till)) ∧
    (∀ W i, Ext w W → i < n → W.cell? ⟨b, o + i * 4 + 3, none⟩ = some (.bool (lnth l i).com)) := by
  obtain ⟨b, o, e, hg⟩ := h.get hn
  have hh : ∀ W i j u, Ext w W → i < n → (lnth l i).cs[j]? = some u → W.cell? ⟨b, o + i * 4 + j, none⟩ = some u := fun W i j u hx hi hu => by
    obtain ⟨cs, hR, hc⟩ := hg i hi
    have hcs : cs = (lnth l i).cs := hR
    exact hx.cell (hc j u (by rw [hcs]; exact hu))
  exact ⟨b, o, e, fun W i hx hi => hh W i 0 _ hx hi rfl, fun W i hx hi => hh W i 1 _ hx hi rfl, fun W i hx hi => hh W i 2 _ hx hi rfl, fun W i hx hi => hh W i 3 _ hx hi rfl⟩
end
end Go.Proofs.Ythjgmccpbcelgaa

/-! slices.IndexFunc at lives, for whatever function value. -/
namespace Go.Proofs.Ythjgmccpbcelgaa
section
open Go Go.RowKit Go.Proofs
set_option linter.unusedSimpArgs false
set_option linter.unusedVariables false
attribute [local go_sem] Ext.alloc Ext.alloc2 Ext.alloc3 Ext.alloc4 Ext.drewN_alloc Ext.drewN_alloc2 Ext.drew_alloc Ext.drew Ext.drewN toList_beq

set_option maxHeartbeats 1000000 in
theorem idxLife (g : Nat) (caps : Array Value) (p : Life → Bool) (w : World) (A : Option Addr) (n cap : Nat) (l : List Life) (hE : Lifes w A n l)
    (eg : ∀ args w, (callFunc g args).run Try.prog w = .ok (.enter g args) w)
    (hg : ∀ (W : World) (x : Life), Ext w W → Calls Try.prog g (#[.agg #[.int .i64 x.txn, .int .i64 x.from_, .int .i64 x.till, .bool x.com]] ++ caps) W fun e w' => e = .returned (.bool (p x)) ∧ Ext W w') :
    Calls Try.prog 125 #[.slice A n cap, .func (.func g) #[] caps] w fun e w' => e = .returned (.int .i64 (idx p l 0)) ∧ Ext w w' := by
  have hX := Ext.refl w
  have hl := hid (Sl.len hE)
  have hbig := hE.big
  have HG := hid hg
  clear hg
  go_enter Try.func125, Try.ntmps125
  go_wp2
  go_loopw [8] (fun i W => Ext w W ∧ ∃ k : Nat, k ≤ n ∧ i = .int .i64 k ∧ Hid (idx p (l.drop k) k = idx p l 0)) (fun i _ => n - (intOf i).toNat)
  case atStart => exact ⟨hX, 0, by omega, rfl, hid rfl⟩
  case round =>
    obtain ⟨hW, k, hk1, rfl, hr⟩ := hrel
    by_cases hlt : k < n
    · obtain ⟨b, o, rfl, h0, h1, h2, h3⟩ := Lifes.opn hE (by omega)
      have hs := hid (drop_step l Life.z (k := k) (by rw [hl.out]; omega))
      go_wp2
      refine (HG.out _ (lnth l k) hW).mono ?_
      rintro e w1 ⟨rfl, hx1⟩
      cases hp : p (lnth l k)
      · have hp' := hid hp; clear hp
        go_wp2
        go_roundw
        case rel => exact ⟨hW.trans hx1, k + 1, by omega, by go_num, hid (by rw [← hr.out, hs.out, idx_cons]; exact (if_neg (by rw [show l.getD k Life.z = lnth l k from rfl, hp'.out]; simp)).symm)⟩
        case measure => simp [intOf]; omega
      · have hp' := hid hp; clear hp
        go_wp2
        go_ret
        refine ⟨ret_int ?_, hW.trans hx1⟩
        rw [← hr.out, hs.out, idx_cons]
        exact (if_pos hp'.out).symm
    · go_wp2
      go_ret
      refine ⟨ret_int ?_, hW⟩
      rw [← hr.out, drop_end _ (by rw [hl.out]; omega)]
      rfl

end
end Go.Proofs.Ythjgmccpbcelgaa

/-! slices.DeleteFunc at lives, over a row of one's own. -/
namespace Go.Proofs.Ythjgmccpbcelgaa
section
open Go Go.RowKit Go.Proofs
set_option linter.unusedSimpArgs false
set_option linter.unusedVariables false
attribute [local go_sem] Ext.alloc Ext.alloc2 Ext.alloc3 Ext.alloc4 Ext.drewN_alloc Ext.drewN_alloc2 Ext.drew_alloc Ext.drew Ext.drewN toList_beq

theorem Below.setCells {B : Nat} {a : World} {g : Nat} (hg : B ≤ g) : ∀ (vs : List Value) (o : Nat) {w : World}, Below B a w → Below B a (w.setCells g o vs)
  | [], _, _, h => h
  | v :: r, o, w, h => Below.setCells hg r (o + 1) (h.setCell (p := ⟨g, o, none⟩) hg v)

/-- 'clear(s)', elements of several cells. -/
theorem run_clear_cells {P : Program} (w : World) (t e ty : TypeId) (z : Value) (ht : P.underlying t = some (.slice e)) (hv : ∀ w, (zeroValue e).run P w = .ok z w) (h1 : ∀ u ∈ z.cells.toList, u.oneCell' = true) (b o n c : Nat) (hn : 0 < n)
    (hc : ∀ j, j < n * z.cells.size → (w.cell? ⟨b, o + j, none⟩).isSome = true) (hf : ∀ j, j < n * z.cells.size → w.frozen? ⟨b, o + j, none⟩ = false) :
    ∃ zs : List Value, zs.length = n * z.cells.size ∧ (Builtin.clear_ #[t] ty #[.slice (some ⟨b, o, none⟩) n c]).run P w = .ok (.tuple #[]) (w.setCells b o zs) := by
  have hl : (Builtin.zeroCells z.cells n).toList.length = n * z.cells.size := by simp [Builtin.zeroCells]
  have hst := run_storeCells_cells (P := P) b o (Builtin.zeroCells z.cells n).toList 0 w (by rw [hl]; simpa using hc) (by rw [hl]; simpa using hf) (by
    intro v hv'
    simp only [Builtin.zeroCells, Array.toList_map, List.mem_map, Array.toList_range, List.mem_range] at hv'
    obtain ⟨i, hi, rfl⟩ := hv'
    have h0 : 0 < z.cells.size := by
      rcases Nat.eq_zero_or_pos z.cells.size with h0 | h0
      · rw [h0] at hi; omega
      · exact h0
    have hm : i % z.cells.size < z.cells.size := Nat.mod_lt _ h0
    rw [getElem!_pos z.cells _ hm]
    exact h1 _ (by simp))
  simp only [Nat.add_zero] at hst
  refine ⟨_, hl, ?_⟩
  obtain ⟨m, rfl⟩ : ∃ m, n = m + 1 := ⟨n - 1, by omega⟩
  simp [Builtin.clear_, run_underlying ht, hv, hst]

theorem zeroLife : ∀ w, (zeroValue 33).run Try.prog w = .ok (.agg #[.int .i64 0, .int .i64 0, .int .i64 0, .bool false]) w := by
  obtain ⟨i0, hi, hz0, _⟩ := info_parts infoLife
  intro w
  simp [zeroValue, typeInfo, hi, hz0]

def keeps (p : Life → Bool) (l : List Life) : List Life := l.filter fun x => !p x
theorem keeps_step {p : Life → Bool} {l : List Life} {k : Nat} (h : k < l.length) : keeps p (l.take (k + 1)) = keeps p (l.take k) ++ (if p (lnth l k) = true then [] else [lnth l k]) := by
  unfold keeps
  rw [List.take_succ_eq_append_getElem h, List.filter_append]
  congr 1
  rw [show l[k] = lnth l k by simp [lnth, List.getD_eq_getElem?_getD, h]]
  by_cases e : p (lnth l k) = true <;> simp [e]
theorem keeps_none {p : Life → Bool} {l : List Life} (h : ∀ x ∈ l, p x = false) : keeps p l = l := by
  unfold keeps; rw [List.filter_eq_self]; intro x hx; rw [h x hx]; rfl
theorem keeps_len (p : Life → Bool) (l : List Life) (k : Nat) : (keeps p (l.take k)).length ≤ k := by
  have := List.length_filter_le (fun x => !p x) (l.take k)
  unfold keeps
  simp at this ⊢; omega

/-- What the loop keeps: the row's first i elements are those kept of the first j; from j on all is as it was. -/
structure DelInv (p : Life → Bool) (l : List Life) (i j : Nat) (d : Nat → Life) : Prop where
  hij : i < j
  hj : j ≤ l.length
  len : (keeps p (l.take j)).length = i
  fst : ∀ q, q < i → d q = (keeps p (l.take j)).getD q Life.z
  rest : ∀ q, j ≤ q → q < l.length → d q = lnth l q
theorem DelInv.skip {p : Life → Bool} {l : List Life} {i j : Nat} {d : Nat → Life} (h : DelInv p l i j d) (hj : j < l.length) (hp : p (lnth l j) = true) : DelInv p l i (j + 1) d := by
  have e := keeps_step (p := p) hj
  rw [if_pos hp, List.append_nil] at e
  exact ⟨by have := h.hij; omega, hj, by rw [e]; exact h.len, by rw [e]; exact h.fst, fun q h1 h2 => h.rest q (by omega) h2⟩
theorem DelInv.keep {p : Life → Bool} {l : List Life} {i j : Nat} {d : Nat → Life} (h : DelInv p l i j d) (hj : j < l.length) (hp : p (lnth l j) = false) : DelInv p l (i + 1) (j + 1) (fun k => if k = i then lnth l j else d k) := by
  have e := keeps_step (p := p) hj
  rw [if_neg (by rw [hp]; simp)] at e
  have hl := h.len
  refine ⟨by have := h.hij; omega, hj, by rw [e]; simp [hl], fun q hq => ?_, fun q h1 h2 => ?_⟩
  · rw [e]
    by_cases e2 : q = i
    · subst e2
      simp [List.getD_eq_getElem?_getD, ← hl]
    · rw [if_neg e2, h.fst q (by omega)]
      simp [List.getD_eq_getElem?_getD, List.getElem?_append_left (show q < (keeps p (l.take j)).length by omega)]
  · have := h.hij
    show (if q = i then _ else _) = _
    rw [if_neg (by omega), h.rest q (by omega) h2]
theorem DelInv.start {p : Life → Bool} {l : List Life} {k : Nat} (hk : k < l.length) (hp : p (lnth l k) = true) (hq : ∀ j, j < k → p (lnth l j) = false) : DelInv p l k (k + 1) (fun i => lnth l i) := by
  have e := keeps_step (p := p) hk
  rw [if_pos hp, List.append_nil, keeps_none (l := l.take k) (by
    intro x hx
    obtain ⟨i, hi, rfl⟩ := List.mem_take_iff_getElem.1 hx
    have := hq i (by omega)
    rwa [show lnth l i = l[i]'(by omega) by simp [lnth, List.getD_eq_getElem?_getD, show i < l.length by omega]] at this)] at e
  refine ⟨by omega, hk, by rw [e]; simp; omega, fun q h1 => ?_, fun q _ _ => rfl⟩
  rw [e]
  simp [lnth, List.getD_eq_getElem?_getD, List.getElem?_take, h1]

set_option maxRecDepth 100000 in
set_option maxHeartbeats 4000000 in
theorem delLife (g : Nat) (caps : Array Value) (p : Life → Bool) (w : World) (B : Nat) (v : Value) (l : List Life) (hn : l.length ≤ 1000) (hB : B ≤ w.heap.size)
    (hown : w.ownsRow B 33 4 v l.length (l.flatMap Life.cs))
    (eg : ∀ args w, (callFunc g args).run Try.prog w = .ok (.enter g args) w)
    (hg : ∀ (W : World) (x : Life), Calls Try.prog g (#[.agg #[.int .i64 x.txn, .int .i64 x.from_, .int .i64 x.till, .bool x.com]] ++ caps) W fun e w' => e = .returned (.bool (p x)) ∧ Ext W w') :
    Calls Try.prog 99 #[v, .func (.func g) #[] caps] w fun e w' => ∃ v', e = .returned v' ∧ w'.ownsRow B 33 4 v' (keeps p l).length ((keeps p l).flatMap Life.cs) ∧ Below B w w' := by
  obtain ⟨A', c', e', hs'⟩ := sl_of_own (l := l) (c := Life.cs) (z := Life.z) (hc := fun _ => rfl) hown (by omega)
  have HI := hid (idxLife g caps p w A' l.length c' l hs' eg (fun W x _ => hg W x))
  have HG := hid hg
  have hX := Below.refl B w
  clear hg
  by_cases hno : ∀ x ∈ l, p x = false
  · have hi : Hid (idx p l 0 = -1) := hid (by
      rcases idx_spec p l 0 with ⟨h, _⟩ | ⟨k, hk, _, h2, _⟩
      · exact h
      · rw [hno _ (List.getElem_mem hk)] at h2; cases h2)
    have hk := hid (keeps_none hno)
    clear hno
    subst e'
    have HO := hid hown
    clear hown hs'
    go_enter Try.func99, Try.ntmps99
    go_wp2_with (go_at_call 125; refine HI.out.mono ?_; rintro e w1 ⟨rfl, hx1⟩; rw [hi.out])
    go_ret
    refine ⟨_, rfl, ?_, Below.mono hx1 hB⟩
    rw [hk.out]
    exact own_ext HO.out hB hx1
  · obtain ⟨k, hk, hi, hpk, hq⟩ : ∃ k : Nat, k < l.length ∧ idx p l 0 = k ∧ p (lnth l k) = true ∧ ∀ j, j < k → p (lnth l j) = false := by
      have hl : ∀ i, ∀ h : i < l.length, lnth l i = l[i] := fun i h => by simp [lnth, List.getD_eq_getElem?_getD, h]
      rcases idx_spec p l 0 with ⟨_, h⟩ | ⟨k, hk, h, h2, h3⟩
      · exact absurd h hno
      · exact ⟨k, hk, by simpa using h, by rw [hl k hk]; exact h2, fun j hj => by rw [hl j (by omega)]; exact h3 j hj⟩
    have HS := hid (DelInv.start hk hpk hq)
    rcases RowD.of_own (z := Life.z) hown (fun _ => rfl) with ⟨_, h0⟩ | ⟨gB, room, ex, h1, hgB, hlr, hrm, hrow⟩
    · rw [h0] at hk; simp at hk
    · rw [h1] at e'
      cases e'
      subst h1
      have HI2 := hid hi
      obtain ⟨n, hnl⟩ : ∃ n, l.length = n := ⟨_, rfl⟩
      have HN := hid hnl
      rw [hnl] at HI hrow hlr hk hn ⊢
      clear hno hi hpk hq hown hs' hnl
      have hm1 : ((k : Int) == -1) = false := beq_eq_false_iff_ne.2 (by omega)
      go_enter Try.func99, Try.ntmps99
      go_wp2_with (go_at_call 125; refine HI.out.mono ?_; rintro e w1 ⟨rfl, hx1⟩; rw [HI2.out])
      have hrow1 := hrow.ext hx1
      have hX1 := Below.mono hx1 hB
      go_loopw [5, 6] (fun iv jv W => Below B w W ∧ ∃ (i j : Nat) (d : Nat → Life), iv = .int .i64 i ∧ jv = .int .i64 j ∧ RowD Life.cs 4 W gB 33 n c' d ex ∧ Hid (DelInv p l i j d)) (fun _ j _ => n - (intOf j).toNat)
      case atStart => exact ⟨hX1, k, k + 1, _, rfl, by go_num, hrow1, HS⟩
      case round =>
        obtain ⟨hW, i, j, d, rfl, rfl, hr, hD⟩ := hrel
        have hij := hD.out.hij
        have hjn : j ≤ n := by have := hD.out.hj; have := HN.out; omega
        by_cases hlt : j < n
        · have hdj := hid (hD.out.rest j (Nat.le_refl _) (by rw [HN.out]; exact hlt))
          have k0 := hr.cell hlr hlt (show 0 < 4 by omega)
          have k1 := hr.cell hlr hlt (show 1 < 4 by omega)
          have k2 := hr.cell hlr hlt (show 2 < 4 by omega)
          have k3 := hr.cell hlr hlt (show 3 < 4 by omega)
          rw [hdj.out] at k0 k1 k2 k3
          simp only [Life.cs, List.getD_cons_zero, List.getD_cons_succ, Nat.add_zero] at k0 k1 k2 k3
          cases hp : p (lnth l j) with
          | true =>
            have HP := hid hp
            clear hp
            go_wp2
            refine (HG.out _ (lnth l j)).mono ?_
            rintro e w2 ⟨rfl, hx2⟩
            rw [HP.out]
            have hsz := hW.size
            have hW2 := (hW.alloc (by omega) (.cells #[.int .i64 (lnth l j).txn, .int .i64 (lnth l j).from_, .int .i64 (lnth l j).till, .bool (lnth l j).com] 33)).trans (Below.mono hx2 (by simp; omega))
            have hr2 := (hr.alloc _).ext hx2
            clear k0 k1 k2 k3
            go_wp2
            go_roundw
            case rel =>
              exact ⟨hW2, i, j + 1, d, rfl, by go_num, hr2, hid (hD.out.skip (by rw [HN.out]; exact hlt) HP.out)⟩
            case measure => simp [intOf]; omega
          | false =>
            have HP := hid hp
            clear hp
            go_wp2
            refine (HG.out _ (lnth l j)).mono ?_
            rintro e w2 ⟨rfl, hx2⟩
            rw [HP.out]
            have hsz := hW.size
            have hW2 := (hW.alloc (by omega) (.cells #[.int .i64 (lnth l j).txn, .int .i64 (lnth l j).from_, .int .i64 (lnth l j).till, .bool (lnth l j).com] 33)).trans (Below.mono hx2 (by simp; omega))
            have hr2 := (hr.alloc _).ext hx2
            obtain ⟨q0, q1, q2, q3⟩ := ((Blk.new wr 33 #[.int .i64 (lnth l j).txn, .int .i64 (lnth l j).from_, .int .i64 (lnth l j).till, .bool (lnth l j).com]).ext hx2).cells4
            have m0 := hr2.cell hlr (show i < n by omega) (show 0 < 4 by omega)
            have m1 := hr2.cell hlr (show i < n by omega) (show 1 < 4 by omega)
            have m2 := hr2.cell hlr (show i < n by omega) (show 2 < 4 by omega)
            have m3 := hr2.cell hlr (show i < n by omega) (show 3 < 4 by omega)
            simp only [Life.cs, List.getD_cons_zero, List.getD_cons_succ, Nat.add_zero] at m0 m1 m2 m3
            have mf := hr2.frozen
            have hlt3 : gB < wr.heap.size := hr.lt
            clear k0 k1 k2 k3
            go_wp2
            go_roundw
            case rel =>
              refine ⟨(((hW2.setCell (p := ⟨gB, _, none⟩) hgB _).setCell (p := ⟨gB, _, none⟩) hgB _).setCell (p := ⟨gB, _, none⟩) hgB _).setCell (p := ⟨gB, _, none⟩) hgB _, i + 1, j + 1, _, by go_num, by go_num, ?_, hid (hD.out.keep (by rw [HN.out]; exact hlt) HP.out)⟩
              exact hr2.put (fun _ => rfl) (show i < n by omega) (lnth l j)
            case measure => simp [intOf]; omega
        · go_wp2
          have hlen := hD.out.len
          have hjl := HN.out
          obtain rfl : j = n := by omega
          have hin := hij
          have hlr2 := Nat.mul_le_mul_right 4 hlr
          obtain ⟨zs, hzl, hrun⟩ := run_clear_cells (P := Try.prog) wr 78 33 0 (.agg #[.int .i64 0, .int .i64 0, .int .i64 0, .bool false]) Try.underlying78 (zeroLife) (by intro u hu; simp [Value.cells] at hu; rcases hu with rfl | rfl <;> rfl) gB (i * 4) (j - i) (c' - i) (by omega)
            (by
              intro q hq
              have := World.rowIs.cell hr (show i * 4 + q < c' * 4 by simp [Value.cells] at hq; omega)
              rw [this]; rfl)
            (fun q _ => hr.frozen _)
          have hrun' : (Builtin.clear_ #[78] 0 #[.slice (some ⟨gB, i * 4, none⟩) (j - i) (c' - i)]).run Try.prog wr = .ok (.tuple #[]) (wr.setCells gB (i * 4) zs) := hrun
          rw [hrun']
          have hW3 := Below.setCells hgB zs (i * 4) hW
          have hr3 := rowIs_setCells (f := fun _ => undef) zs (i * 4) wr _ hr
          have hr4 : RowD Life.cs 4 (wr.setCells gB (i * 4) zs) gB 33 i c' d (fun q => if i * 4 ≤ q ∧ q < i * 4 + zs.length then zs.getD (q - i * 4) undef else if q < j * 4 then (Life.cs (d (q / 4))).getD (q % 4) undef else ex q) := by
            refine World.rowIs.congr hr3 fun q _ => ?_
            by_cases e : q < i * 4
            · rw [if_neg (by omega), if_pos (by omega), if_pos e]
            · rw [if_neg e]
          have hl1 : l.take j = l := List.take_of_length_le (by omega)
          have hkl : (keeps p l).length = i := by rw [hl1] at hlen; exact hlen
          have hkd : ∀ q, q < i → d q = (keeps p l).getD q Life.z := fun q hq => by have := hD.out.fst q hq; rwa [hl1] at this
          have hfin := hr4.to_own (fun _ => rfl) Life.z hgB (Nat.le_refl i) (by omega) hrm (keeps p l) hkl hkd
          rw [← hkl] at hfin
          have HF := hid hfin
          have HKL := hid hkl
          clear hr3 hr4 hfin hkd hl1 hkl hrun hrun'
          go_wp2
          go_ret
          refine ⟨_, rfl, ?_, hW3⟩
          have := HF.out
          rw [HKL.out] at this ⊢
          exact this
end
end Go.Proofs.Ythjgmccpbcelgaa
