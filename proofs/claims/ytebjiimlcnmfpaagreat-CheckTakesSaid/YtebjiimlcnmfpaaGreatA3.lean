/-
  Scenes, joined
-/
import Derived.Shelf.SlSortCmp.NoneTotal
import Derived.Test.YtebjiimlcnmfpaaGreatA2
import Derived.Test.YtebjiimlcnmfpaaGreatA1
import Derived.Test.YtebjiimlcnmfpaaGreatProg
import Derived.Test.YtebjiimlcnmfpaaGreatLays
/-! The program's history.over: has a transaction one of some events, and has it ended? -/
set_option linter.unusedVariables false
set_option linter.unusedSimpArgs false
namespace Go.Proofs.YtebjiimlcnmfpaaGreat
section
open Go Go.RowKit Go.Proofs Go.Shelf
set_option linter.unusedSimpArgs false
set_option linter.unusedVariables false
attribute [local go_sem] Ext.alloc Ext.alloc2 Ext.alloc3 Ext.alloc4 Ext.drewN_alloc Ext.drewN_alloc2 Ext.drew_alloc Ext.drew Ext.drewN toList_beq Oper.semAt_some

def anyOf (pre : List (Ev × Nat)) : Bool := !pre.isEmpty
def doneOf (pre : List (Ev × Nat)) : Bool := pre.any fun p => ends p.1

theorem anyOf_snoc (pre : List (Ev × Nat)) (x : Ev × Nat) : anyOf (pre ++ [x]) = true := by simp [anyOf]
theorem doneOf_snoc (pre : List (Ev × Nat)) (x : Ev × Nat) : doneOf (pre ++ [x]) = (doneOf pre || ends x.1) := by simp [doneOf]

theorem ofs_mem {txn : Int} {l : List Ev} {x : Ev × Nat} : x ∈ ofs txn l ↔ x.2 < l.length ∧ nth l x.2 = x.1 ∧ x.1.txn = txn := by
  unfold ofs
  rw [List.mem_filter, List.mem_zipIdx_iff_getElem?]
  constructor
  · rintro ⟨h1, h2⟩
    obtain ⟨h3, h4⟩ := List.getElem?_eq_some_iff.1 h1
    exact ⟨h3, by rw [nth_lt h3]; exact h4, by simpa [isOf] using h2⟩
  · rintro ⟨h1, h2, h3⟩
    refine ⟨?_, by simpa [isOf] using h3⟩
    rw [nth_lt h1] at h2
    rw [List.getElem?_eq_getElem h1, h2]

theorem anyOf_eq (l : List Ev) (txn : Int) : anyOf (ofs txn l) = decide (0 ≤ firstOf l txn) := by
  rcases idx_nth (isOf txn) l with ⟨h, h2⟩ | ⟨k, hk, h, h2, _⟩
  · have e : ofs txn l = [] := List.eq_nil_iff_forall_not_mem.2 fun x hx => by
      obtain ⟨a, b, c⟩ := ofs_mem.1 hx
      have := h2 _ a
      rw [b] at this
      simp [isOf, c] at this
    rw [e, show firstOf l txn = -1 from h]; rfl
  · have hm : (nth l k, k) ∈ ofs txn l := ofs_mem.2 ⟨hk, rfl, by simpa [isOf] using h2⟩
    rw [show firstOf l txn = k from h]
    cases he : ofs txn l with
    | nil => rw [he] at hm; cases hm
    | cons a b => simp [anyOf]
theorem doneOf_eq (l : List Ev) (txn : Int) : doneOf (ofs txn l) = decide (0 ≤ endOf l txn) := by
  rcases idx_nth (endsOf txn) l with ⟨h, h2⟩ | ⟨k, hk, h, h2, _⟩
  · rw [show endOf l txn = -1 from h]
    unfold doneOf
    rw [show decide (0 ≤ (-1 : Int)) = false by decide, List.any_eq_false]
    intro x hx
    obtain ⟨a, b, c⟩ := ofs_mem.1 hx
    have := h2 _ a
    rw [b] at this
    simpa [endsOf, c] using this
  · simp only [endsOf, Bool.and_eq_true, beq_iff_eq] at h2
    rw [show endOf l txn = k from h]
    unfold doneOf
    rw [show decide (0 ≤ (k : Int)) = true by simp, List.any_eq_true]
    exact ⟨(nth l k, k), ofs_mem.2 ⟨hk, rfl, h2.1⟩, h2.2⟩

set_option maxHeartbeats 2000000 in
theorem h_over_in (w : World) (A : Option Addr) (n cap : Nat) (l : List Ev) (txn : Int) (hE : Evs w A n l) :
    CallsIn Fence.wide 6 Tryz.prog 94 #[.slice A n cap, .int .i64 txn] w fun e w' => e = .returned (.tuple #[.bool (anyOf (ofs txn l)), .bool (doneOf (ofs txn l))]) ∧ Ext w w' := by
  refine callsIn_of_wp_marks Tryz.func94 rfl trivial ?_ rfl
  simp only [Tryz.ntmps94, List.size_toArray, List.length_cons, List.length_nil, Nat.reduceAdd, Nat.reduceSub, Array.replicate_succ, Array.replicate_zero, List.push_toArray, List.append_toArray, List.nil_append, List.cons_append]
  gi_wp2_with (refine ⟨trivial, ?_⟩; gi_at_call 125; refine (h_of _ _ _ _ _).mono ?_; rintro e w' ⟨rfl, rfl⟩)
  have hX := (((((Ext.refl w).alloc (.cells #[.bool false] 4)).alloc (.cells #[.bool false] 4)).alloc (.cells #[.slice A n cap] 22)).alloc (.cells #[.int .i64 txn] 3))
  have b0 := ((((Blk.new w 4 #[.bool false]).alloc (.cells #[.bool false] 4)).alloc (.cells #[.slice A n cap] 22)).alloc (.cells #[.int .i64 txn] 3))
  have b1 := (((Blk.new (w.alloc (.cells #[.bool false] 4)) 4 #[.bool false]).alloc (.cells #[.slice A n cap] 22)).alloc (.cells #[.int .i64 txn] 3))
  have b2 := ((Blk.new ((w.alloc (.cells #[.bool false] 4)).alloc (.cells #[.bool false] 4)) 22 #[.slice A n cap]).alloc (.cells #[.int .i64 txn] 3))
  have b3 := (Blk.new (((w.alloc (.cells #[.bool false] 4)).alloc (.cells #[.bool false] 4)).alloc (.cells #[.slice A n cap] 22)) 3 #[.int .i64 txn])
  simp only [World.size_alloc] at b0 b1 b2 b3
  obtain ⟨W0, hW0⟩ : ∃ W, ((((w.alloc (.cells #[.bool false] 4)).alloc (.cells #[.bool false] 4)).alloc (.cells #[.slice A n cap] 22)).alloc (.cells #[.int .i64 txn] 3)) = W := ⟨_, rfl⟩
  rw [hW0] at hX b0 b1 b2 b3 ⊢
  have hs0 : Hid (W0.heap.size = w.heap.size + 4) := hid (by rw [← hW0]; simp)
  clear hW0
  have hbs : ∀ b ∈ [w.heap.size + 1 + 1, w.heap.size + 1 + 1 + 1], b < W0.heap.size := by have := hs0.out; intro b hb; simp at hb; omega
  refine wpIn_rangeFunc_ownH rfl (by decide) (gf := 153) (lb := #[.pointer (some ⟨w.heap.size + 1 + 1, 0, none⟩), .pointer (some ⟨w.heap.size + 1 + 1 + 1, 0, none⟩)]) rfl trivial (enters_of Tryz.func153 (by kernel_rfl) rfl)
    (h_of1 w W0 A n cap _ _ l txn hE hX b2 b3) kpB_t (kpB_b hX.le hbs) (Below.refl _ _) (fun _ => rfl)
    (fun pre W => (Blk W w.heap.size 4 #[.bool (anyOf pre)] ∧ Blk W (w.heap.size + 1) 4 #[.bool (doneOf pre)]) ∧ Ext w W ∧ W0.heap.size ≤ W.heap.size)
    (fun _ _ _ => False)
    (OwnFrom.and (Own.from (own_and (blk_own _ _ _) (blk_own _ _ _)) _) (OwnFrom.and (ownFrom_ext hX.le) (ownFrom_size _ _)))
    (fun _ _ _ _ _ hs _ _ => hs)
    ⟨⟨b0, b1⟩, hX, Nat.le_refl _⟩
    (fun x a' W => ∃ Bx, W0.heap.size ≤ Bx ∧ Blk W Bx 50 #[.int .i64 x.1.kind, .int .i64 x.1.txn, .string x.1.key, .string x.1.val] ∧ a' = { tmps := #[.slice A n cap, .int .i64 txn, undef, undef, .bool false, .bool false, .pointer (some ⟨w.heap.size, 0, none⟩), .pointer (some ⟨w.heap.size + 1, 0, none⟩), undef, .pointer (some ⟨Bx, 0, none⟩), .slice A n cap, .int .i64 txn, .func (.func 153) #[] #[.pointer (some ⟨w.heap.size + 1 + 1, 0, none⟩), .pointer (some ⟨w.heap.size + 1 + 1 + 1, 0, none⟩)], .int .i64 (x.2 : Int), .agg (#[.int .i64 x.1.kind, .int .i64 x.1.txn, .string x.1.key, .string x.1.val]), undef, undef, undef, undef, undef, undef, undef], defers := [] })
    (fun x a' _ X Y row hs hg hr => by obtain ⟨Bx, h1, h2, h3⟩ := hs; exact ⟨Bx, h1, blk_own Bx 50 (fun (_ : Unit) => #[.int .i64 x.1.kind, .int .i64 x.1.txn, .string x.1.key, .string x.1.val]) () X Y row h2 hg (fun r e => (hr r e).2), h3⟩)
    ?assign ?body ?done ?stop
  case assign =>
    rintro lp pre x W K ⟨⟨c0, c1⟩, hW, hZ⟩ hK
    simp only [encEv]
    gi_wp2
    exact hK _ _ ((KeepsOthers.alloc _ _).from _) (kpB_alloc (kpB_refl _ _ _) hW (fun b hb => Nat.lt_of_lt_of_le (hbs b hb) hZ) _) ⟨⟨c0.alloc _, c1.alloc _⟩, hW.alloc _, by simp; omega⟩ ⟨W.heap.size, hZ, Blk.new W _ _, rfl⟩
  case body =>
    rintro lp pre x a' W hl ⟨r, hr⟩ ⟨⟨c0, c1⟩, hW, hZ⟩ ⟨Bx, hBx, cX, rfl⟩ hlt
    have hs1 := hs0.out
    have HS := hid hs1
    have hb3 : ∀ b' ∈ [w.heap.size + 1 + 1, w.heap.size + 1 + 1 + 1], b' < W.heap.size := fun b' hb => Nat.lt_of_lt_of_le (hbs b' hb) hZ
    by_cases hd : doneOf pre = true
    · rw [hd] at c1
      have k1 := c1.cell0
      have k0 := c0.cell0
      have f0 := c0.frozen 0
      have f1 := c1.frozen 0
      have HD := hid hd
      clear hd hs1
      gi_wp2_with (refine ⟨trivial, ?_⟩)
      have hs1 := HS.out
      refine ⟨((KeepsOthers.setCell _ _ _).trans (KeepsOthers.setCell _ _ _)).from _, kpB_set (kpB_set (kpB_refl _ _ _) (by simp <;> omega) (by intro b hb; simp at hb ⊢ <;> omega) _) (by simp <;> omega) (by intro b hb; simp at hb ⊢ <;> omega) _, ⟨?_, ?_⟩, (hW.setCell (by simp) _).setCell (by simp) _, by simpa [World.setCell] using hZ⟩
      · rw [anyOf_snoc]; exact (c0.set0 _).far (by simp) _
      · rw [doneOf_snoc, HD.out]; exact (c1.far (by simp) _).set0 _
    · have hd' : doneOf pre = false := by simpa using hd
      rw [hd'] at c1
      obtain ⟨x0, x1, x2, x3⟩ := cX.cells4
      have k1 := c1.cell0
      have HD := hid hd'
      clear hd hd' hs1
      gi_wp2_with (refine ⟨trivial, ?_⟩; gi_at_call 126; refine (CallsIn.inRound lp (callsIn_wide.2 (h_ends _ x.1))).mono ?_; rintro e w' ⟨rfl, hx1⟩; have c11 := c1.ext hx1; have c01 := c0.ext hx1; have k0 := c01.cell0; have f0 := c01.frozen 0; have k2 := c11.cell0; have f1 := c11.frozen 0)
      have hs1 := HS.out
      refine ⟨KeepsFrom.trans (keepsFrom_ext (KeepsFrom.refl _ _) hx1) (((KeepsOthers.setCell _ _ _).trans (KeepsOthers.setCell _ _ _)).from _), kpB_set (kpB_set (kpB_ext (kpB_refl _ _ _) hW hb3 hx1) (by simp <;> omega) (by intro b hb; simp at hb ⊢ <;> omega) _) (by simp <;> omega) (by intro b hb; simp at hb ⊢ <;> omega) _, ⟨?_, ?_⟩, ((hW.trans hx1).setCell (by simp) _).setCell (by simp) _, by simpa [World.setCell] using Nat.le_trans hZ hx1.le⟩
      · rw [anyOf_snoc]; exact (c01.set0 _).far (by simp) _
      · rw [doneOf_snoc, HD.out]; exact (c11.far (by simp) _).set0 _
  case done =>
    rintro D ys W hD rfl ⟨⟨c0, c1⟩, hW, hZ⟩ hK
    have k0 := c0.cell0
    have k1 := c1.cell0
    gi_wp2
    gi_region
    all_goals gi_wp2
    all_goals
      refine ⟨by simp, .inl ⟨_, _, rfl, run_takeDeferred ((KeepsOthers.drew W).same D _ hK rfl), ?_⟩⟩
      exact ⟨_, results_tmp2 rfl _ _ _, rfl, (hW.drew).grown (grownBy_putObj' _ D _) (fun k e => by cases e; have := hX.le; omega)⟩
  case stop =>
    rintro D c pre W _ _ h _
    exact h.elim

theorem h_over (w : World) (A : Option Addr) (n cap : Nat) (l : List Ev) (txn : Int) (hE : Evs w A n l) :
    Calls Tryz.prog 94 #[.slice A n cap, .int .i64 txn] w fun e w' => e = .returned (.tuple #[.bool (decide (0 ≤ firstOf l txn)), .bool (decide (0 ≤ endOf l txn))]) ∧ Ext w w' := by
  have h := callsIn_wide.1 (h_over_in w A n cap l txn hE)
  rwa [anyOf_eq, doneOf_eq] at h

end
end Go.Proofs.YtebjiimlcnmfpaaGreat

/-! Contracts: event.keyed, event.May; slices.ContainsFunc at events; history.step's closure. -/
namespace Go.Proofs.YtebjiimlcnmfpaaGreat
section
open Go Go.RowKit Go.Proofs
set_option linter.unusedSimpArgs false
set_option linter.unusedVariables false
attribute [local go_sem] Ext.alloc Ext.alloc2 Ext.alloc3 Ext.alloc4 Ext.drewN_alloc Ext.drewN_alloc2 Ext.drew_alloc Ext.drew Ext.drewN toList_beq

theorem e_keyed (w : World) (k : Int) :
    Calls Tryz.prog 160 #[.int .i64 k] w fun e w' => e = .returned (.bool (k == 2 || k == 3)) ∧ w' = w := by
  by_cases h2 : k = 2
  · subst h2
    go_enter Tryz.func160, Tryz.ntmps160
    go_wp2
    go_ret
    exact ⟨rfl, rfl⟩
  · have h2' : (k == 2) = false := beq_eq_false_iff_ne.2 h2
    go_enter Tryz.func160, Tryz.ntmps160
    go_wp2
    all_goals
      go_ret
      refine ⟨ret_bool ?_, rfl⟩
      simp_all

set_option maxHeartbeats 2000000 in
theorem e_may (w : World) (x : Ev) :
    Calls Tryz.prog 142 #[.agg #[.int .i64 x.kind, .int .i64 x.txn, .string x.key, .string x.val]] w fun e w' => e = .returned (.bool (may x)) ∧ Ext w w' := by
  have hX := Ext.refl w
  cases hk : (x.kind == 2 || x.kind == 3) with
  | false =>
    have HK := hid hk
    clear hk
    go_enter Tryz.func142, Tryz.ntmps142
    go_wp2_with (go_at_call 160; refine (e_keyed _ _).mono ?_; rintro e w1 ⟨rfl, rfl⟩; rw [HK.out])
    all_goals
      go_ret
      refine ⟨ret_bool ?_, (hX.alloc _).alloc _⟩
      rw [Bool.eq_iff_iff, may_iff, MayP]
      have HK' := HK.out
      clear hX HK
      simp_all [toList_nil_iff_emptyBytes]
      try (rw [← ByteArray.size_eq_zero_iff])
      try omega
  | true =>
    have HK := hid hk
    clear hk
    go_enter Tryz.func142, Tryz.ntmps142
    go_wp2_with (go_at_call 160; refine (e_keyed _ _).mono ?_; rintro e w1 ⟨rfl, rfl⟩; rw [HK.out])
    all_goals
      go_ret
      refine ⟨ret_bool ?_, (hX.alloc _).alloc _⟩
      rw [Bool.eq_iff_iff, may_iff, MayP]
      have HK' := HK.out
      clear hX HK
      simp_all [toList_nil_iff_emptyBytes]
      try (rw [← ByteArray.size_eq_zero_iff])
      try omega

theorem containsEv (g : Nat) (caps : Array Value) (p : Ev → Bool) (w : World) (A : Option Addr) (n cap : Nat) (l : List Ev) (hE : Evs w A n l)
    (eg : ∀ args w, (callFunc g args).run Tryz.prog w = .ok (.enter g args) w)
    (hg : ∀ (W : World) (x : Ev), Ext w W → Calls Tryz.prog g (#[.agg #[.int .i64 x.kind, .int .i64 x.txn, .string x.key, .string x.val]] ++ caps) W fun e w' => e = .returned (.bool (p x)) ∧ Ext W w') :
    Calls Tryz.prog 143 #[.slice A n cap, .func (.func g) #[] caps] w fun e w' => e = .returned (.bool (l.any p)) ∧ Ext w w' := by
  have hX := Ext.refl w
  have HI := hid (idxEv g caps p w A n cap l hE eg hg)
  have hv : Hid (decide (0 ≤ idx p l 0) = l.any p) := hid (by
    rcases idx_spec p l 0 with ⟨h, h2⟩ | ⟨k, hk, h, h2, _⟩
    · rw [show idx p l 0 = -1 from h, show decide (0 ≤ (-1 : Int)) = false by decide]
      symm; rw [List.any_eq_false]; intro x hx; rw [h2 x hx]; simp
    · rw [show idx p l 0 = ((0 + k : Nat) : Int) from h]
      symm; rw [show decide (0 ≤ ((0 + k : Nat) : Int)) = true by simp, List.any_eq_true]
      exact ⟨l[k], List.getElem_mem hk, h2⟩)
  clear hg eg
  go_enter Tryz.func143, Tryz.ntmps143
  go_wp2_with (go_at_call 138; refine HI.out.mono ?_; rintro e w1 ⟨rfl, hx1⟩)
  rw [hv.out]
  go_ret
  exact ⟨rfl, hx1⟩

theorem h_twice (w : World) (x y : Ev) (bx : Nat) (hb : ∀ W, Ext w W → W.cell? ⟨bx, 3, none⟩ = some (.string x.val)) :
    Calls Tryz.prog 141 #[.agg #[.int .i64 y.kind, .int .i64 y.txn, .string y.key, .string y.val], .pointer (some ⟨bx, 0, none⟩)] w fun e w' => e = .returned (.bool (twice x y)) ∧ Ext w w' := by
  have hX := Ext.refl w
  go_enter Tryz.func141, Tryz.ntmps141
  go_wp2
  all_goals
    go_ret
    refine ⟨ret_bool ?_, hX.alloc _⟩
    clear hX hb
    simp_all [twice]
end
end Go.Proofs.YtebjiimlcnmfpaaGreat

/-! The program's history.step: what is wrong with an event at a place. -/
namespace Go.Proofs.YtebjiimlcnmfpaaGreat
section
open Go Go.RowKit Go.Proofs
set_option linter.unusedSimpArgs false
set_option linter.unusedVariables false
attribute [local go_sem] Ext.alloc Ext.alloc2 Ext.alloc3 Ext.alloc4 Ext.drewN_alloc Ext.drewN_alloc2 Ext.drew_alloc Ext.drew Ext.drewN toList_beq

set_option maxRecDepth 100000 in
set_option maxHeartbeats 2000000 in
theorem h_step_a (w : World) (b o n cap k : Nat) (l : List Ev) (hE : Evs w (some ⟨b, o, none⟩) n l) (hk : k < n) (hc : n ≤ cap) (h1 : may (nth l k) = false) :
    Calls Tryz.prog 100 #[.slice (some ⟨b, o, none⟩) n cap, .int .i64 k] w fun e w' => e = .returned (.int .i64 (stepErr l k)) ∧ Ext w w' := by
  have hX := Ext.refl w
  have hbig := hE.big
  have HE := hid hE
  have HF : Hid (stepErr l k = 1) := hid (by unfold stepErr; rw [if_pos h1])
  have HO := hid (fun (W : World) (x : Ext w W) => (by have h := h_over W (some ⟨b, o, none⟩) k cap (l.take k) (nth l k).txn (Sl.take (hE.ext x) (by omega)); exact h : Calls Tryz.prog 94 #[.slice (some ⟨b, o, none⟩) k cap, .int .i64 (nth l k).txn] W fun e w' => e = .returned (.tuple #[.bool (decide (0 ≤ firstOf (l.take k) (nth l k).txn)), .bool (decide (0 ≤ endOf (l.take k) (nth l k).txn))]) ∧ Ext W w'))
  have HM := hid h1
  have hE' := hE
  obtain ⟨b', o', e', h0', h1', h2', h3'⟩ := hE.opn (by omega)
  cases e'
  clear hE hE' h1
  go_enter Tryz.func100, Tryz.ntmps100
  go_wp2
  have hS := fun x : After (w.alloc (.cells #[.int .i64 (nth l k).kind, .int .i64 (nth l k).txn, .string (nth l k).key, .string (nth l k).val] 50)) => (hX.alloc _).trans x.h
  have hCl := fun x : After (w.alloc (.cells #[.int .i64 (nth l k).kind, .int .i64 (nth l k).txn, .string (nth l k).key, .string (nth l k).val] 50)) => x.h.cell ((Blk.new w 50 #[.int .i64 (nth l k).kind, .int .i64 (nth l k).txn, .string (nth l k).key, .string (nth l k).val]).cells4.2.1)
  refine wp_region_ext_lit (by kernel_rfl) (by kernel_rfl) ?_
  repeat (go_big_quiet_step ((go_at_call 94; exact Calls.quietX (HO.out _ (hS _)))))
  refine wpQuiet_nil ?_
  rintro V1 ⟨x1, hx1⟩
  have hV1 := x1.h
  rw [← hx1] at hV1
  clear hx1 x1
  have b1 := (Blk.new w 50 #[.int .i64 (nth l k).kind, .int .i64 (nth l k).txn, .string (nth l k).key, .string (nth l k).val]).ext hV1
  obtain ⟨p0, p1, p2, p3⟩ := b1.cells4
  have hXV := (hX.alloc _).trans hV1
  clear hS hCl
  go_wp2_with (go_at_call 142; refine (e_may _ (nth l k)).mono ?_; rintro e w2 ⟨rfl, hx2⟩; rw [HM.out]; have hX2 := hXV.trans hx2; have b2 := b1.ext hx2; clear p0 p1 p2 p3; obtain ⟨p0, p1, p2, p3⟩ := b2.cells4)
  go_ret
  exact ⟨by rw [HF.out]; rfl, (by repeat (first | assumption | apply Ext.alloc | apply Ext.drewN | apply Ext.drew | (refine Ext.setCell (by simp <;> omega) ?_ _)))⟩

set_option maxRecDepth 100000 in
set_option maxHeartbeats 2000000 in
theorem h_step_b (w : World) (b o n cap k : Nat) (l : List Ev) (hE : Evs w (some ⟨b, o, none⟩) n l) (hk : k < n) (hc : n ≤ cap) (h1 : may (nth l k) = true) (hk1 : (nth l k).kind = 1) (h2 : 0 ≤ firstOf (l.take k) (nth l k).txn) :
    Calls Tryz.prog 100 #[.slice (some ⟨b, o, none⟩) n cap, .int .i64 k] w fun e w' => e = .returned (.int .i64 (stepErr l k)) ∧ Ext w w' := by
  have hX := Ext.refl w
  have hbig := hE.big
  have HE := hid hE
  have HF : Hid (stepErr l k = 8) := hid (by unfold stepErr; rw [if_neg (by rw [h1]; simp)]; rw [if_pos hk1, if_pos h2])
  have ha : decide (0 ≤ firstOf (l.take k) (nth l k).txn) = true := by simp [h2]
  have HO := hid (fun (W : World) (x : Ext w W) => (by have h := h_over W (some ⟨b, o, none⟩) k cap (l.take k) (nth l k).txn (Sl.take (hE.ext x) (by omega)); rwa [ha] at h : Calls Tryz.prog 94 #[.slice (some ⟨b, o, none⟩) k cap, .int .i64 (nth l k).txn] W fun e w' => e = .returned (.tuple #[.bool (true), .bool (decide (0 ≤ endOf (l.take k) (nth l k).txn))]) ∧ Ext W w'))
  have HM := hid h1
  have kb1 : ((nth l k).kind == 1) = true := by rw [hk1]; rfl
  have kb2 : ((nth l k).kind == 2) = false := by rw [hk1]; rfl
  have kb3 : ((nth l k).kind == 3) = false := by rw [hk1]; rfl
  clear hk1
  have hE' := hE
  obtain ⟨b', o', e', h0', h1', h2', h3'⟩ := hE.opn (by omega)
  cases e'
  clear hE hE' h1 ha h2
  go_enter Tryz.func100, Tryz.ntmps100
  go_wp2
  have hS := fun x : After (w.alloc (.cells #[.int .i64 (nth l k).kind, .int .i64 (nth l k).txn, .string (nth l k).key, .string (nth l k).val] 50)) => (hX.alloc _).trans x.h
  have hCl := fun x : After (w.alloc (.cells #[.int .i64 (nth l k).kind, .int .i64 (nth l k).txn, .string (nth l k).key, .string (nth l k).val] 50)) => x.h.cell ((Blk.new w 50 #[.int .i64 (nth l k).kind, .int .i64 (nth l k).txn, .string (nth l k).key, .string (nth l k).val]).cells4.2.1)
  refine wp_region_ext_lit (by kernel_rfl) (by kernel_rfl) ?_
  repeat (go_big_quiet_step ((go_at_call 94; exact Calls.quietX (HO.out _ (hS _)))))
  refine wpQuiet_nil ?_
  rintro V1 ⟨x1, hx1⟩
  have hV1 := x1.h
  rw [← hx1] at hV1
  clear hx1 x1
  have b1 := (Blk.new w 50 #[.int .i64 (nth l k).kind, .int .i64 (nth l k).txn, .string (nth l k).key, .string (nth l k).val]).ext hV1
  obtain ⟨p0, p1, p2, p3⟩ := b1.cells4
  have hXV := (hX.alloc _).trans hV1
  clear hS hCl
  go_wp2_with (go_at_call 142; refine (e_may _ (nth l k)).mono ?_; rintro e w2 ⟨rfl, hx2⟩; rw [HM.out]; have hX2 := hXV.trans hx2; have b2 := b1.ext hx2; clear p0 p1 p2 p3; obtain ⟨p0, p1, p2, p3⟩ := b2.cells4)
  go_ret
  exact ⟨by rw [HF.out]; rfl, (by repeat (first | assumption | apply Ext.alloc | apply Ext.drewN | apply Ext.drew | (refine Ext.setCell (by simp <;> omega) ?_ _)))⟩

set_option maxRecDepth 100000 in
set_option maxHeartbeats 2000000 in
theorem h_step_c (w : World) (b o n cap k : Nat) (l : List Ev) (hE : Evs w (some ⟨b, o, none⟩) n l) (hk : k < n) (hc : n ≤ cap) (h1 : may (nth l k) = true) (hk1 : (nth l k).kind = 1) (h2 : ¬ 0 ≤ firstOf (l.take k) (nth l k).txn) :
    Calls Tryz.prog 100 #[.slice (some ⟨b, o, none⟩) n cap, .int .i64 k] w fun e w' => e = .returned (.int .i64 (stepErr l k)) ∧ Ext w w' := by
  have hX := Ext.refl w
  have hbig := hE.big
  have HE := hid hE
  have HF : Hid (stepErr l k = 0) := hid (by unfold stepErr; rw [if_neg (by rw [h1]; simp)]; rw [if_pos hk1, if_neg h2])
  have ha : decide (0 ≤ firstOf (l.take k) (nth l k).txn) = false := by simp [h2]
  have HO := hid (fun (W : World) (x : Ext w W) => (by have h := h_over W (some ⟨b, o, none⟩) k cap (l.take k) (nth l k).txn (Sl.take (hE.ext x) (by omega)); rwa [ha] at h : Calls Tryz.prog 94 #[.slice (some ⟨b, o, none⟩) k cap, .int .i64 (nth l k).txn] W fun e w' => e = .returned (.tuple #[.bool (false), .bool (decide (0 ≤ endOf (l.take k) (nth l k).txn))]) ∧ Ext W w'))
  have HM := hid h1
  have kb1 : ((nth l k).kind == 1) = true := by rw [hk1]; rfl
  have kb2 : ((nth l k).kind == 2) = false := by rw [hk1]; rfl
  have kb3 : ((nth l k).kind == 3) = false := by rw [hk1]; rfl
  clear hk1
  have hE' := hE
  obtain ⟨b', o', e', h0', h1', h2', h3'⟩ := hE.opn (by omega)
  cases e'
  clear hE hE' h1 ha h2
  go_enter Tryz.func100, Tryz.ntmps100
  go_wp2
  have hS := fun x : After (w.alloc (.cells #[.int .i64 (nth l k).kind, .int .i64 (nth l k).txn, .string (nth l k).key, .string (nth l k).val] 50)) => (hX.alloc _).trans x.h
  have hCl := fun x : After (w.alloc (.cells #[.int .i64 (nth l k).kind, .int .i64 (nth l k).txn, .string (nth l k).key, .string (nth l k).val] 50)) => x.h.cell ((Blk.new w 50 #[.int .i64 (nth l k).kind, .int .i64 (nth l k).txn, .string (nth l k).key, .string (nth l k).val]).cells4.2.1)
  refine wp_region_ext_lit (by kernel_rfl) (by kernel_rfl) ?_
  repeat (go_big_quiet_step ((go_at_call 94; exact Calls.quietX (HO.out _ (hS _)))))
  refine wpQuiet_nil ?_
  rintro V1 ⟨x1, hx1⟩
  have hV1 := x1.h
  rw [← hx1] at hV1
  clear hx1 x1
  have b1 := (Blk.new w 50 #[.int .i64 (nth l k).kind, .int .i64 (nth l k).txn, .string (nth l k).key, .string (nth l k).val]).ext hV1
  obtain ⟨p0, p1, p2, p3⟩ := b1.cells4
  have hXV := (hX.alloc _).trans hV1
  clear hS hCl
  go_wp2_with (go_at_call 142; refine (e_may _ (nth l k)).mono ?_; rintro e w2 ⟨rfl, hx2⟩; rw [HM.out]; have hX2 := hXV.trans hx2; have b2 := b1.ext hx2; clear p0 p1 p2 p3; obtain ⟨p0, p1, p2, p3⟩ := b2.cells4)
  go_ret
  exact ⟨by rw [HF.out]; rfl, (by repeat (first | assumption | apply Ext.alloc | apply Ext.drewN | apply Ext.drew | (refine Ext.setCell (by simp <;> omega) ?_ _)))⟩

set_option maxRecDepth 100000 in
set_option maxHeartbeats 2000000 in
theorem h_step_d (w : World) (b o n cap k : Nat) (l : List Ev) (hE : Evs w (some ⟨b, o, none⟩) n l) (hk : k < n) (hc : n ≤ cap) (h1 : may (nth l k) = true) (hk1 : (nth l k).kind ≠ 1) (h2 : ¬ 0 ≤ firstOf (l.take k) (nth l k).txn) :
    Calls Tryz.prog 100 #[.slice (some ⟨b, o, none⟩) n cap, .int .i64 k] w fun e w' => e = .returned (.int .i64 (stepErr l k)) ∧ Ext w w' := by
  have hX := Ext.refl w
  have hbig := hE.big
  have HE := hid hE
  have HF : Hid (stepErr l k = 7) := hid (by unfold stepErr; rw [if_neg (by rw [h1]; simp)]; rw [if_neg hk1, if_pos (by omega)])
  have ha : decide (0 ≤ firstOf (l.take k) (nth l k).txn) = false := by simp [h2]
  have HO := hid (fun (W : World) (x : Ext w W) => (by have h := h_over W (some ⟨b, o, none⟩) k cap (l.take k) (nth l k).txn (Sl.take (hE.ext x) (by omega)); rwa [ha] at h : Calls Tryz.prog 94 #[.slice (some ⟨b, o, none⟩) k cap, .int .i64 (nth l k).txn] W fun e w' => e = .returned (.tuple #[.bool (false), .bool (decide (0 ≤ endOf (l.take k) (nth l k).txn))]) ∧ Ext W w'))
  have HM := hid h1
  have kb1 : ((nth l k).kind == 1) = false := beq_eq_false_iff_ne.2 hk1
  clear hk1
  have hE' := hE
  obtain ⟨b', o', e', h0', h1', h2', h3'⟩ := hE.opn (by omega)
  cases e'
  clear hE hE' h1 ha h2
  go_enter Tryz.func100, Tryz.ntmps100
  go_wp2
  have hS := fun x : After (w.alloc (.cells #[.int .i64 (nth l k).kind, .int .i64 (nth l k).txn, .string (nth l k).key, .string (nth l k).val] 50)) => (hX.alloc _).trans x.h
  have hCl := fun x : After (w.alloc (.cells #[.int .i64 (nth l k).kind, .int .i64 (nth l k).txn, .string (nth l k).key, .string (nth l k).val] 50)) => x.h.cell ((Blk.new w 50 #[.int .i64 (nth l k).kind, .int .i64 (nth l k).txn, .string (nth l k).key, .string (nth l k).val]).cells4.2.1)
  refine wp_region_ext_lit (by kernel_rfl) (by kernel_rfl) ?_
  repeat (go_big_quiet_step ((go_at_call 94; exact Calls.quietX (HO.out _ (hS _)))))
  refine wpQuiet_nil ?_
  rintro V1 ⟨x1, hx1⟩
  have hV1 := x1.h
  rw [← hx1] at hV1
  clear hx1 x1
  have b1 := (Blk.new w 50 #[.int .i64 (nth l k).kind, .int .i64 (nth l k).txn, .string (nth l k).key, .string (nth l k).val]).ext hV1
  obtain ⟨p0, p1, p2, p3⟩ := b1.cells4
  have hXV := (hX.alloc _).trans hV1
  clear hS hCl
  go_wp2_with (go_at_call 142; refine (e_may _ (nth l k)).mono ?_; rintro e w2 ⟨rfl, hx2⟩; rw [HM.out]; have hX2 := hXV.trans hx2; have b2 := b1.ext hx2; clear p0 p1 p2 p3; obtain ⟨p0, p1, p2, p3⟩ := b2.cells4)
  go_ret
  exact ⟨by rw [HF.out]; rfl, (by repeat (first | assumption | apply Ext.alloc | apply Ext.drewN | apply Ext.drew | (refine Ext.setCell (by simp <;> omega) ?_ _)))⟩

set_option maxRecDepth 100000 in
set_option maxHeartbeats 2000000 in
theorem h_step_e (w : World) (b o n cap k : Nat) (l : List Ev) (hE : Evs w (some ⟨b, o, none⟩) n l) (hk : k < n) (hc : n ≤ cap) (h1 : may (nth l k) = true) (hk1 : (nth l k).kind ≠ 1) (h2 : 0 ≤ firstOf (l.take k) (nth l k).txn) (h3 : 0 ≤ endOf (l.take k) (nth l k).txn) :
    Calls Tryz.prog 100 #[.slice (some ⟨b, o, none⟩) n cap, .int .i64 k] w fun e w' => e = .returned (.int .i64 (stepErr l k)) ∧ Ext w w' := by
  have hX := Ext.refl w
  have hbig := hE.big
  have HE := hid hE
  have HF : Hid (stepErr l k = 9) := hid (by unfold stepErr; rw [if_neg (by rw [h1]; simp)]; rw [if_neg hk1, if_neg (by omega), if_pos h3])
  have ha : decide (0 ≤ firstOf (l.take k) (nth l k).txn) = true := by simp [h2]
  have hdn : decide (0 ≤ endOf (l.take k) (nth l k).txn) = true := by simp [h3]
  have HO := hid (fun (W : World) (x : Ext w W) => (by have h := h_over W (some ⟨b, o, none⟩) k cap (l.take k) (nth l k).txn (Sl.take (hE.ext x) (by omega)); rwa [ha, hdn] at h : Calls Tryz.prog 94 #[.slice (some ⟨b, o, none⟩) k cap, .int .i64 (nth l k).txn] W fun e w' => e = .returned (.tuple #[.bool (true), .bool (true)]) ∧ Ext W w'))
  have HM := hid h1
  have kb1 : ((nth l k).kind == 1) = false := beq_eq_false_iff_ne.2 hk1
  clear hk1
  have hE' := hE
  obtain ⟨b', o', e', h0', h1', h2', h3'⟩ := hE.opn (by omega)
  cases e'
  clear hE hE' h1 ha h2 hdn h3
  go_enter Tryz.func100, Tryz.ntmps100
  go_wp2
  have hS := fun x : After (w.alloc (.cells #[.int .i64 (nth l k).kind, .int .i64 (nth l k).txn, .string (nth l k).key, .string (nth l k).val] 50)) => (hX.alloc _).trans x.h
  have hCl := fun x : After (w.alloc (.cells #[.int .i64 (nth l k).kind, .int .i64 (nth l k).txn, .string (nth l k).key, .string (nth l k).val] 50)) => x.h.cell ((Blk.new w 50 #[.int .i64 (nth l k).kind, .int .i64 (nth l k).txn, .string (nth l k).key, .string (nth l k).val]).cells4.2.1)
  refine wp_region_ext_lit (by kernel_rfl) (by kernel_rfl) ?_
  repeat (go_big_quiet_step ((go_at_call 94; exact Calls.quietX (HO.out _ (hS _)))))
  refine wpQuiet_nil ?_
  rintro V1 ⟨x1, hx1⟩
  have hV1 := x1.h
  rw [← hx1] at hV1
  clear hx1 x1
  have b1 := (Blk.new w 50 #[.int .i64 (nth l k).kind, .int .i64 (nth l k).txn, .string (nth l k).key, .string (nth l k).val]).ext hV1
  obtain ⟨p0, p1, p2, p3⟩ := b1.cells4
  have hXV := (hX.alloc _).trans hV1
  clear hS hCl
  go_wp2_with (go_at_call 142; refine (e_may _ (nth l k)).mono ?_; rintro e w2 ⟨rfl, hx2⟩; rw [HM.out]; have hX2 := hXV.trans hx2; have b2 := b1.ext hx2; clear p0 p1 p2 p3; obtain ⟨p0, p1, p2, p3⟩ := b2.cells4)
  go_ret
  exact ⟨by rw [HF.out]; rfl, (by repeat (first | assumption | apply Ext.alloc | apply Ext.drewN | apply Ext.drew | (refine Ext.setCell (by simp <;> omega) ?_ _)))⟩

set_option maxRecDepth 100000 in
set_option maxHeartbeats 2000000 in
theorem h_step_f (w : World) (b o n cap k : Nat) (l : List Ev) (hE : Evs w (some ⟨b, o, none⟩) n l) (hk : k < n) (hc : n ≤ cap) (h1 : may (nth l k) = true) (hk1 : (nth l k).kind ≠ 1) (h2 : 0 ≤ firstOf (l.take k) (nth l k).txn) (h3 : ¬ 0 ≤ endOf (l.take k) (nth l k).txn) (hk3 : (nth l k).kind = 3) (h4 : (l.take k).any (twice (nth l k)) = true) :
    Calls Tryz.prog 100 #[.slice (some ⟨b, o, none⟩) n cap, .int .i64 k] w fun e w' => e = .returned (.int .i64 (stepErr l k)) ∧ Ext w w' := by
  have hX := Ext.refl w
  have hbig := hE.big
  have HE := hid hE
  have HF : Hid (stepErr l k = 8) := hid (by unfold stepErr; rw [if_neg (by rw [h1]; simp)]; rw [if_neg hk1, if_neg (by omega), if_neg h3]; rw [if_pos ⟨hk3, h4⟩])
  have ha : decide (0 ≤ firstOf (l.take k) (nth l k).txn) = true := by simp [h2]
  have hdn : decide (0 ≤ endOf (l.take k) (nth l k).txn) = false := by simp [h3]
  have HO := hid (fun (W : World) (x : Ext w W) => (by have h := h_over W (some ⟨b, o, none⟩) k cap (l.take k) (nth l k).txn (Sl.take (hE.ext x) (by omega)); rwa [ha, hdn] at h : Calls Tryz.prog 94 #[.slice (some ⟨b, o, none⟩) k cap, .int .i64 (nth l k).txn] W fun e w' => e = .returned (.tuple #[.bool (true), .bool (false)]) ∧ Ext W w'))
  have HM := hid h1
  have kb1 : ((nth l k).kind == 1) = false := by rw [hk3]; rfl
  have kb2 : ((nth l k).kind == 2) = false := by rw [hk3]; rfl
  have kb3 : ((nth l k).kind == 3) = true := by rw [hk3]; rfl
  have HT := hid h4
  clear hk1 hk3
  have hE' := hE
  obtain ⟨b', o', e', h0', h1', h2', h3'⟩ := hE.opn (by omega)
  cases e'
  clear hE hE' h1 ha h2 hdn h3
  go_enter Tryz.func100, Tryz.ntmps100
  go_wp2
  have hS := fun x : After (w.alloc (.cells #[.int .i64 (nth l k).kind, .int .i64 (nth l k).txn, .string (nth l k).key, .string (nth l k).val] 50)) => (hX.alloc _).trans x.h
  have hCl := fun x : After (w.alloc (.cells #[.int .i64 (nth l k).kind, .int .i64 (nth l k).txn, .string (nth l k).key, .string (nth l k).val] 50)) => x.h.cell ((Blk.new w 50 #[.int .i64 (nth l k).kind, .int .i64 (nth l k).txn, .string (nth l k).key, .string (nth l k).val]).cells4.2.1)
  refine wp_region_ext_lit (by kernel_rfl) (by kernel_rfl) ?_
  repeat (go_big_quiet_step ((go_at_call 94; exact Calls.quietX (HO.out _ (hS _)))))
  refine wpQuiet_nil ?_
  rintro V1 ⟨x1, hx1⟩
  have hV1 := x1.h
  rw [← hx1] at hV1
  clear hx1 x1
  have b1 := (Blk.new w 50 #[.int .i64 (nth l k).kind, .int .i64 (nth l k).txn, .string (nth l k).key, .string (nth l k).val]).ext hV1
  obtain ⟨p0, p1, p2, p3⟩ := b1.cells4
  have hXV := (hX.alloc _).trans hV1
  clear hS hCl
  go_wp2_with (first
    | (go_at_call 142; refine (e_may _ (nth l k)).mono ?_; rintro e w2 ⟨rfl, hx2⟩; rw [HM.out]; have hX2 := hXV.trans hx2; have b2 := b1.ext hx2; clear p0 p1 p2 p3; obtain ⟨p0, p1, p2, p3⟩ := b2.cells4)
    | (go_at_call 143; refine (containsEv 141 #[.pointer (some ⟨w.heap.size, 0, none⟩)] (twice (nth l k)) _ _ _ _ _ (Sl.take (HE.out.ext hX2) (by omega)) (enters_of Tryz.func141 (by kernel_rfl) rfl) (fun W y hW => h_twice W (nth l k) y w.heap.size (fun V hV => (hW.trans hV).cell p3))).mono ?_; rintro e w3 ⟨rfl, hx3⟩; rw [HT.out]; have hX3 := hX2.trans hx3; have b3 := b2.ext hx3; clear p0 p1 p2 p3; obtain ⟨p0, p1, p2, p3⟩ := b3.cells4))
  go_ret
  exact ⟨by rw [HF.out]; rfl, (by repeat (first | assumption | apply Ext.alloc | apply Ext.drewN | apply Ext.drew | (refine Ext.setCell (by simp <;> omega) ?_ _)))⟩

set_option maxRecDepth 100000 in
set_option maxHeartbeats 2000000 in
theorem h_step_g (w : World) (b o n cap k : Nat) (l : List Ev) (hE : Evs w (some ⟨b, o, none⟩) n l) (hk : k < n) (hc : n ≤ cap) (h1 : may (nth l k) = true) (hk1 : (nth l k).kind ≠ 1) (h2 : 0 ≤ firstOf (l.take k) (nth l k).txn) (h3 : ¬ 0 ≤ endOf (l.take k) (nth l k).txn) (hk3 : (nth l k).kind = 3) (h4 : (l.take k).any (twice (nth l k)) = false) :
    Calls Tryz.prog 100 #[.slice (some ⟨b, o, none⟩) n cap, .int .i64 k] w fun e w' => e = .returned (.int .i64 (stepErr l k)) ∧ Ext w w' := by
  have hX := Ext.refl w
  have hbig := hE.big
  have HE := hid hE
  have HF : Hid (stepErr l k = 0) := hid (by unfold stepErr; rw [if_neg (by rw [h1]; simp)]; rw [if_neg hk1, if_neg (by omega), if_neg h3]; rw [if_neg (by rw [h4]; simp), if_neg (fun h => by omega)])
  have ha : decide (0 ≤ firstOf (l.take k) (nth l k).txn) = true := by simp [h2]
  have hdn : decide (0 ≤ endOf (l.take k) (nth l k).txn) = false := by simp [h3]
  have HO := hid (fun (W : World) (x : Ext w W) => (by have h := h_over W (some ⟨b, o, none⟩) k cap (l.take k) (nth l k).txn (Sl.take (hE.ext x) (by omega)); rwa [ha, hdn] at h : Calls Tryz.prog 94 #[.slice (some ⟨b, o, none⟩) k cap, .int .i64 (nth l k).txn] W fun e w' => e = .returned (.tuple #[.bool (true), .bool (false)]) ∧ Ext W w'))
  have HM := hid h1
  have kb1 : ((nth l k).kind == 1) = false := by rw [hk3]; rfl
  have kb2 : ((nth l k).kind == 2) = false := by rw [hk3]; rfl
  have kb3 : ((nth l k).kind == 3) = true := by rw [hk3]; rfl
  have HT := hid h4
  clear hk1 hk3
  have hE' := hE
  obtain ⟨b', o', e', h0', h1', h2', h3'⟩ := hE.opn (by omega)
  cases e'
  clear hE hE' h1 ha h2 hdn h3
  go_enter Tryz.func100, Tryz.ntmps100
  go_wp2
  have hS := fun x : After (w.alloc (.cells #[.int .i64 (nth l k).kind, .int .i64 (nth l k).txn, .string (nth l k).key, .string (nth l k).val] 50)) => (hX.alloc _).trans x.h
  have hCl := fun x : After (w.alloc (.cells #[.int .i64 (nth l k).kind, .int .i64 (nth l k).txn, .string (nth l k).key, .string (nth l k).val] 50)) => x.h.cell ((Blk.new w 50 #[.int .i64 (nth l k).kind, .int .i64 (nth l k).txn, .string (nth l k).key, .string (nth l k).val]).cells4.2.1)
  refine wp_region_ext_lit (by kernel_rfl) (by kernel_rfl) ?_
  repeat (go_big_quiet_step ((go_at_call 94; exact Calls.quietX (HO.out _ (hS _)))))
  refine wpQuiet_nil ?_
  rintro V1 ⟨x1, hx1⟩
  have hV1 := x1.h
  rw [← hx1] at hV1
  clear hx1 x1
  have b1 := (Blk.new w 50 #[.int .i64 (nth l k).kind, .int .i64 (nth l k).txn, .string (nth l k).key, .string (nth l k).val]).ext hV1
  obtain ⟨p0, p1, p2, p3⟩ := b1.cells4
  have hXV := (hX.alloc _).trans hV1
  clear hS hCl
  go_wp2_with (first
    | (go_at_call 142; refine (e_may _ (nth l k)).mono ?_; rintro e w2 ⟨rfl, hx2⟩; rw [HM.out]; have hX2 := hXV.trans hx2; have b2 := b1.ext hx2; clear p0 p1 p2 p3; obtain ⟨p0, p1, p2, p3⟩ := b2.cells4)
    | (go_at_call 143; refine (containsEv 141 #[.pointer (some ⟨w.heap.size, 0, none⟩)] (twice (nth l k)) _ _ _ _ _ (Sl.take (HE.out.ext hX2) (by omega)) (enters_of Tryz.func141 (by kernel_rfl) rfl) (fun W y hW => h_twice W (nth l k) y w.heap.size (fun V hV => (hW.trans hV).cell p3))).mono ?_; rintro e w3 ⟨rfl, hx3⟩; rw [HT.out]; have hX3 := hX2.trans hx3; have b3 := b2.ext hx3; clear p0 p1 p2 p3; obtain ⟨p0, p1, p2, p3⟩ := b3.cells4))
  go_ret
  exact ⟨by rw [HF.out]; rfl, (by repeat (first | assumption | apply Ext.alloc | apply Ext.drewN | apply Ext.drew | (refine Ext.setCell (by simp <;> omega) ?_ _)))⟩

set_option maxRecDepth 100000 in
set_option maxHeartbeats 2000000 in
theorem h_step_h (w : World) (b o n cap k : Nat) (l : List Ev) (hE : Evs w (some ⟨b, o, none⟩) n l) (hk : k < n) (hc : n ≤ cap) (h1 : may (nth l k) = true) (hk1 : (nth l k).kind ≠ 1) (h2 : 0 ≤ firstOf (l.take k) (nth l k).txn) (h3 : ¬ 0 ≤ endOf (l.take k) (nth l k).txn) (hk2 : (nth l k).kind = 2) (hv : (nth l k).val = ByteArray.empty) :
    Calls Tryz.prog 100 #[.slice (some ⟨b, o, none⟩) n cap, .int .i64 k] w fun e w' => e = .returned (.int .i64 (stepErr l k)) ∧ Ext w w' := by
  have hX := Ext.refl w
  have hbig := hE.big
  have HE := hid hE
  have HF : Hid (stepErr l k = 0) := hid (by unfold stepErr; rw [if_neg (by rw [h1]; simp)]; rw [if_neg hk1, if_neg (by omega), if_neg h3]; rw [if_neg (fun h => by omega), if_neg (fun h => h.2.1 (by rw [hv]; rfl))])
  have ha : decide (0 ≤ firstOf (l.take k) (nth l k).txn) = true := by simp [h2]
  have hdn : decide (0 ≤ endOf (l.take k) (nth l k).txn) = false := by simp [h3]
  have HO := hid (fun (W : World) (x : Ext w W) => (by have h := h_over W (some ⟨b, o, none⟩) k cap (l.take k) (nth l k).txn (Sl.take (hE.ext x) (by omega)); rwa [ha, hdn] at h : Calls Tryz.prog 94 #[.slice (some ⟨b, o, none⟩) k cap, .int .i64 (nth l k).txn] W fun e w' => e = .returned (.tuple #[.bool (true), .bool (false)]) ∧ Ext W w'))
  have HM := hid h1
  have kb1 : ((nth l k).kind == 1) = false := by rw [hk2]; rfl
  have kb2 : ((nth l k).kind == 2) = true := by rw [hk2]; rfl
  have kb3 : ((nth l k).kind == 3) = false := by rw [hk2]; rfl
  have hv1 : (nth l k).val.toList = [] := (toList_nil_iff_emptyBytes _).2 hv
  have hv2 : (nth l k).val.toList.isEmpty = true := by rw [hv1]; rfl
  clear hk1 hk2 hv
  have hE' := hE
  obtain ⟨b', o', e', h0', h1', h2', h3'⟩ := hE.opn (by omega)
  cases e'
  clear hE hE' h1 ha h2 hdn h3
  go_enter Tryz.func100, Tryz.ntmps100
  go_wp2
  have hS := fun x : After (w.alloc (.cells #[.int .i64 (nth l k).kind, .int .i64 (nth l k).txn, .string (nth l k).key, .string (nth l k).val] 50)) => (hX.alloc _).trans x.h
  have hCl := fun x : After (w.alloc (.cells #[.int .i64 (nth l k).kind, .int .i64 (nth l k).txn, .string (nth l k).key, .string (nth l k).val] 50)) => x.h.cell ((Blk.new w 50 #[.int .i64 (nth l k).kind, .int .i64 (nth l k).txn, .string (nth l k).key, .string (nth l k).val]).cells4.2.1)
  refine wp_region_ext_lit (by kernel_rfl) (by kernel_rfl) ?_
  repeat (go_big_quiet_step ((go_at_call 94; exact Calls.quietX (HO.out _ (hS _)))))
  refine wpQuiet_nil ?_
  rintro V1 ⟨x1, hx1⟩
  have hV1 := x1.h
  rw [← hx1] at hV1
  clear hx1 x1
  have b1 := (Blk.new w 50 #[.int .i64 (nth l k).kind, .int .i64 (nth l k).txn, .string (nth l k).key, .string (nth l k).val]).ext hV1
  obtain ⟨p0, p1, p2, p3⟩ := b1.cells4
  have hXV := (hX.alloc _).trans hV1
  clear hS hCl
  go_wp2_with (go_at_call 142; refine (e_may _ (nth l k)).mono ?_; rintro e w2 ⟨rfl, hx2⟩; rw [HM.out]; have hX2 := hXV.trans hx2; have b2 := b1.ext hx2; clear p0 p1 p2 p3; obtain ⟨p0, p1, p2, p3⟩ := b2.cells4)
  go_ret
  exact ⟨by rw [HF.out]; rfl, (by repeat (first | assumption | apply Ext.alloc | apply Ext.drewN | apply Ext.drew | (refine Ext.setCell (by simp <;> omega) ?_ _)))⟩

set_option maxRecDepth 100000 in
set_option maxHeartbeats 2000000 in
theorem h_step_i (w : World) (b o n cap k : Nat) (l : List Ev) (hE : Evs w (some ⟨b, o, none⟩) n l) (hk : k < n) (hc : n ≤ cap) (h1 : may (nth l k) = true) (hk1 : (nth l k).kind ≠ 1) (h2 : 0 ≤ firstOf (l.take k) (nth l k).txn) (h3 : ¬ 0 ≤ endOf (l.take k) (nth l k).txn) (hk2 : (nth l k).kind = 2) (hv : (nth l k).val ≠ ByteArray.empty) (hw : writer l (nth l k).key (nth l k).val < 0) :
    Calls Tryz.prog 100 #[.slice (some ⟨b, o, none⟩) n cap, .int .i64 k] w fun e w' => e = .returned (.int .i64 (stepErr l k)) ∧ Ext w w' := by
  have hX := Ext.refl w
  have hbig := hE.big
  have HE := hid hE
  have HF : Hid (stepErr l k = 7) := hid (by unfold stepErr; rw [if_neg (by rw [h1]; simp)]; rw [if_neg hk1, if_neg (by omega), if_neg h3]; rw [if_neg (fun h => by omega), if_pos ⟨hk2, fun h => hv (ByteArray.size_eq_zero_iff.1 h), hw⟩])
  have ha : decide (0 ≤ firstOf (l.take k) (nth l k).txn) = true := by simp [h2]
  have hdn : decide (0 ≤ endOf (l.take k) (nth l k).txn) = false := by simp [h3]
  have HO := hid (fun (W : World) (x : Ext w W) => (by have h := h_over W (some ⟨b, o, none⟩) k cap (l.take k) (nth l k).txn (Sl.take (hE.ext x) (by omega)); rwa [ha, hdn] at h : Calls Tryz.prog 94 #[.slice (some ⟨b, o, none⟩) k cap, .int .i64 (nth l k).txn] W fun e w' => e = .returned (.tuple #[.bool (true), .bool (false)]) ∧ Ext W w'))
  have HM := hid h1
  have kb1 : ((nth l k).kind == 1) = false := by rw [hk2]; rfl
  have kb2 : ((nth l k).kind == 2) = true := by rw [hk2]; rfl
  have kb3 : ((nth l k).kind == 3) = false := by rw [hk2]; rfl
  have hv1 : ¬ (nth l k).val.toList = [] := by rw [toList_nil_iff_emptyBytes]; exact hv
  have hv2 : (nth l k).val.toList.isEmpty = false := by simpa using hv1
  clear hk1 hk2
  have hE' := hE
  obtain ⟨b', o', e', h0', h1', h2', h3'⟩ := hE.opn (by omega)
  cases e'
  clear hE hE' h1 ha h2 hdn h3
  go_enter Tryz.func100, Tryz.ntmps100
  go_wp2
  have hS := fun x : After (w.alloc (.cells #[.int .i64 (nth l k).kind, .int .i64 (nth l k).txn, .string (nth l k).key, .string (nth l k).val] 50)) => (hX.alloc _).trans x.h
  have hCl := fun x : After (w.alloc (.cells #[.int .i64 (nth l k).kind, .int .i64 (nth l k).txn, .string (nth l k).key, .string (nth l k).val] 50)) => x.h.cell ((Blk.new w 50 #[.int .i64 (nth l k).kind, .int .i64 (nth l k).txn, .string (nth l k).key, .string (nth l k).val]).cells4.2.1)
  refine wp_region_ext_lit (by kernel_rfl) (by kernel_rfl) ?_
  repeat (go_big_quiet_step ((go_at_call 94; exact Calls.quietX (HO.out _ (hS _)))))
  refine wpQuiet_nil ?_
  rintro V1 ⟨x1, hx1⟩
  have hV1 := x1.h
  rw [← hx1] at hV1
  clear hx1 x1
  have b1 := (Blk.new w 50 #[.int .i64 (nth l k).kind, .int .i64 (nth l k).txn, .string (nth l k).key, .string (nth l k).val]).ext hV1
  obtain ⟨p0, p1, p2, p3⟩ := b1.cells4
  have hXV := (hX.alloc _).trans hV1
  clear hS hCl
  go_wp2_with (first
    | (go_at_call 142; refine (e_may _ (nth l k)).mono ?_; rintro e w2 ⟨rfl, hx2⟩; rw [HM.out]; have hX2 := hXV.trans hx2; have b2 := b1.ext hx2; clear p0 p1 p2 p3; obtain ⟨p0, p1, p2, p3⟩ := b2.cells4)
    | (go_at_call 99; refine (h_writer _ _ _ _ _ _ _ (HE.out.ext hX2)).mono ?_; rintro e w3 ⟨rfl, hx3⟩; have hX3 := hX2.trans hx3))
  go_ret
  exact ⟨by rw [HF.out]; rfl, (by repeat (first | assumption | apply Ext.alloc | apply Ext.drewN | apply Ext.drew | (refine Ext.setCell (by simp <;> omega) ?_ _)))⟩

set_option maxRecDepth 100000 in
set_option maxHeartbeats 2000000 in
theorem h_step_j (w : World) (b o n cap k : Nat) (l : List Ev) (hE : Evs w (some ⟨b, o, none⟩) n l) (hk : k < n) (hc : n ≤ cap) (h1 : may (nth l k) = true) (hk1 : (nth l k).kind ≠ 1) (h2 : 0 ≤ firstOf (l.take k) (nth l k).txn) (h3 : ¬ 0 ≤ endOf (l.take k) (nth l k).txn) (hk2 : (nth l k).kind = 2) (hv : (nth l k).val ≠ ByteArray.empty) (hw : ¬ writer l (nth l k).key (nth l k).val < 0) :
    Calls Tryz.prog 100 #[.slice (some ⟨b, o, none⟩) n cap, .int .i64 k] w fun e w' => e = .returned (.int .i64 (stepErr l k)) ∧ Ext w w' := by
  have hX := Ext.refl w
  have hbig := hE.big
  have HE := hid hE
  have HF : Hid (stepErr l k = 0) := hid (by unfold stepErr; rw [if_neg (by rw [h1]; simp)]; rw [if_neg hk1, if_neg (by omega), if_neg h3]; rw [if_neg (fun h => by omega), if_neg (fun h => hw h.2.2)])
  have ha : decide (0 ≤ firstOf (l.take k) (nth l k).txn) = true := by simp [h2]
  have hdn : decide (0 ≤ endOf (l.take k) (nth l k).txn) = false := by simp [h3]
  have HO := hid (fun (W : World) (x : Ext w W) => (by have h := h_over W (some ⟨b, o, none⟩) k cap (l.take k) (nth l k).txn (Sl.take (hE.ext x) (by omega)); rwa [ha, hdn] at h : Calls Tryz.prog 94 #[.slice (some ⟨b, o, none⟩) k cap, .int .i64 (nth l k).txn] W fun e w' => e = .returned (.tuple #[.bool (true), .bool (false)]) ∧ Ext W w'))
  have HM := hid h1
  have kb1 : ((nth l k).kind == 1) = false := by rw [hk2]; rfl
  have kb2 : ((nth l k).kind == 2) = true := by rw [hk2]; rfl
  have kb3 : ((nth l k).kind == 3) = false := by rw [hk2]; rfl
  have hv1 : ¬ (nth l k).val.toList = [] := by rw [toList_nil_iff_emptyBytes]; exact hv
  have hv2 : (nth l k).val.toList.isEmpty = false := by simpa using hv1
  clear hk1 hk2
  have hE' := hE
  obtain ⟨b', o', e', h0', h1', h2', h3'⟩ := hE.opn (by omega)
  cases e'
  clear hE hE' h1 ha h2 hdn h3
  go_enter Tryz.func100, Tryz.ntmps100
  go_wp2
  have hS := fun x : After (w.alloc (.cells #[.int .i64 (nth l k).kind, .int .i64 (nth l k).txn, .string (nth l k).key, .string (nth l k).val] 50)) => (hX.alloc _).trans x.h
  have hCl := fun x : After (w.alloc (.cells #[.int .i64 (nth l k).kind, .int .i64 (nth l k).txn, .string (nth l k).key, .string (nth l k).val] 50)) => x.h.cell ((Blk.new w 50 #[.int .i64 (nth l k).kind, .int .i64 (nth l k).txn, .string (nth l k).key, .string (nth l k).val]).cells4.2.1)
  refine wp_region_ext_lit (by kernel_rfl) (by kernel_rfl) ?_
  repeat (go_big_quiet_step ((go_at_call 94; exact Calls.quietX (HO.out _ (hS _)))))
  refine wpQuiet_nil ?_
  rintro V1 ⟨x1, hx1⟩
  have hV1 := x1.h
  rw [← hx1] at hV1
  clear hx1 x1
  have b1 := (Blk.new w 50 #[.int .i64 (nth l k).kind, .int .i64 (nth l k).txn, .string (nth l k).key, .string (nth l k).val]).ext hV1
  obtain ⟨p0, p1, p2, p3⟩ := b1.cells4
  have hXV := (hX.alloc _).trans hV1
  clear hS hCl
  go_wp2_with (first
    | (go_at_call 142; refine (e_may _ (nth l k)).mono ?_; rintro e w2 ⟨rfl, hx2⟩; rw [HM.out]; have hX2 := hXV.trans hx2; have b2 := b1.ext hx2; clear p0 p1 p2 p3; obtain ⟨p0, p1, p2, p3⟩ := b2.cells4)
    | (go_at_call 99; refine (h_writer _ _ _ _ _ _ _ (HE.out.ext hX2)).mono ?_; rintro e w3 ⟨rfl, hx3⟩; have hX3 := hX2.trans hx3))
  go_ret
  exact ⟨by rw [HF.out]; rfl, (by repeat (first | assumption | apply Ext.alloc | apply Ext.drewN | apply Ext.drew | (refine Ext.setCell (by simp <;> omega) ?_ _)))⟩

set_option maxRecDepth 100000 in
set_option maxHeartbeats 2000000 in
theorem h_step_k (w : World) (b o n cap k : Nat) (l : List Ev) (hE : Evs w (some ⟨b, o, none⟩) n l) (hk : k < n) (hc : n ≤ cap) (h1 : may (nth l k) = true) (hk1 : (nth l k).kind ≠ 1) (h2 : 0 ≤ firstOf (l.take k) (nth l k).txn) (h3 : ¬ 0 ≤ endOf (l.take k) (nth l k).txn) (hk2 : (nth l k).kind ≠ 2) (hk3 : (nth l k).kind ≠ 3) :
    Calls Tryz.prog 100 #[.slice (some ⟨b, o, none⟩) n cap, .int .i64 k] w fun e w' => e = .returned (.int .i64 (stepErr l k)) ∧ Ext w w' := by
  have hX := Ext.refl w
  have hbig := hE.big
  have HE := hid hE
  have HF : Hid (stepErr l k = 0) := hid (by unfold stepErr; rw [if_neg (by rw [h1]; simp)]; rw [if_neg hk1, if_neg (by omega), if_neg h3]; rw [if_neg (fun h => hk3 h.1), if_neg (fun h => hk2 h.1)])
  have ha : decide (0 ≤ firstOf (l.take k) (nth l k).txn) = true := by simp [h2]
  have hdn : decide (0 ≤ endOf (l.take k) (nth l k).txn) = false := by simp [h3]
  have HO := hid (fun (W : World) (x : Ext w W) => (by have h := h_over W (some ⟨b, o, none⟩) k cap (l.take k) (nth l k).txn (Sl.take (hE.ext x) (by omega)); rwa [ha, hdn] at h : Calls Tryz.prog 94 #[.slice (some ⟨b, o, none⟩) k cap, .int .i64 (nth l k).txn] W fun e w' => e = .returned (.tuple #[.bool (true), .bool (false)]) ∧ Ext W w'))
  have HM := hid h1
  have kb1 : ((nth l k).kind == 1) = false := beq_eq_false_iff_ne.2 hk1
  have kb2 : ((nth l k).kind == 2) = false := beq_eq_false_iff_ne.2 hk2
  have kb3 : ((nth l k).kind == 3) = false := beq_eq_false_iff_ne.2 hk3
  clear hk1 hk2 hk3
  have hE' := hE
  obtain ⟨b', o', e', h0', h1', h2', h3'⟩ := hE.opn (by omega)
  cases e'
  clear hE hE' h1 ha h2 hdn h3
  go_enter Tryz.func100, Tryz.ntmps100
  go_wp2
  have hS := fun x : After (w.alloc (.cells #[.int .i64 (nth l k).kind, .int .i64 (nth l k).txn, .string (nth l k).key, .string (nth l k).val] 50)) => (hX.alloc _).trans x.h
  have hCl := fun x : After (w.alloc (.cells #[.int .i64 (nth l k).kind, .int .i64 (nth l k).txn, .string (nth l k).key, .string (nth l k).val] 50)) => x.h.cell ((Blk.new w 50 #[.int .i64 (nth l k).kind, .int .i64 (nth l k).txn, .string (nth l k).key, .string (nth l k).val]).cells4.2.1)
  refine wp_region_ext_lit (by kernel_rfl) (by kernel_rfl) ?_
  repeat (go_big_quiet_step ((go_at_call 94; exact Calls.quietX (HO.out _ (hS _)))))
  refine wpQuiet_nil ?_
  rintro V1 ⟨x1, hx1⟩
  have hV1 := x1.h
  rw [← hx1] at hV1
  clear hx1 x1
  have b1 := (Blk.new w 50 #[.int .i64 (nth l k).kind, .int .i64 (nth l k).txn, .string (nth l k).key, .string (nth l k).val]).ext hV1
  obtain ⟨p0, p1, p2, p3⟩ := b1.cells4
  have hXV := (hX.alloc _).trans hV1
  clear hS hCl
  go_wp2_with (go_at_call 142; refine (e_may _ (nth l k)).mono ?_; rintro e w2 ⟨rfl, hx2⟩; rw [HM.out]; have hX2 := hXV.trans hx2; have b2 := b1.ext hx2; clear p0 p1 p2 p3; obtain ⟨p0, p1, p2, p3⟩ := b2.cells4)
  go_ret
  exact ⟨by rw [HF.out]; rfl, (by repeat (first | assumption | apply Ext.alloc | apply Ext.drewN | apply Ext.drew | (refine Ext.setCell (by simp <;> omega) ?_ _)))⟩

theorem h_step (w : World) (A : Option Addr) (n cap k : Nat) (l : List Ev) (hE : Evs w A n l) (hk : k < n) (hc : n ≤ cap) :
    Calls Tryz.prog 100 #[.slice A n cap, .int .i64 k] w fun e w' => e = .returned (.int .i64 (stepErr l k)) ∧ Ext w w' := by
  obtain ⟨b, o, rfl, _⟩ := hE.opn (by omega)
  cases h1 : may (nth l k) with
  | false => exact h_step_a w b o n cap k l hE hk hc h1
  | true =>
    by_cases hk1 : (nth l k).kind = 1
    · by_cases h2 : 0 ≤ firstOf (l.take k) (nth l k).txn
      · exact h_step_b w b o n cap k l hE hk hc h1 hk1 h2
      · exact h_step_c w b o n cap k l hE hk hc h1 hk1 h2
    · by_cases h2 : 0 ≤ firstOf (l.take k) (nth l k).txn
      · by_cases h3 : 0 ≤ endOf (l.take k) (nth l k).txn
        · exact h_step_e w b o n cap k l hE hk hc h1 hk1 h2 h3
        · by_cases hk3 : (nth l k).kind = 3
          · cases h4 : (l.take k).any (twice (nth l k)) with
            | true => exact h_step_f w b o n cap k l hE hk hc h1 hk1 h2 h3 hk3 h4
            | false => exact h_step_g w b o n cap k l hE hk hc h1 hk1 h2 h3 hk3 h4
          · by_cases hk2 : (nth l k).kind = 2
            · by_cases hv : (nth l k).val = ByteArray.empty
              · exact h_step_h w b o n cap k l hE hk hc h1 hk1 h2 h3 hk2 hv
              · by_cases hw : writer l (nth l k).key (nth l k).val < 0
                · exact h_step_i w b o n cap k l hE hk hc h1 hk1 h2 h3 hk2 hv hw
                · exact h_step_j w b o n cap k l hE hk hc h1 hk1 h2 h3 hk2 hv hw
            · exact h_step_k w b o n cap k l hE hk hc h1 hk1 h2 h3 hk2 hk3
      · exact h_step_d w b o n cap k l hE hk hc h1 hk1 h2
end
end Go.Proofs.YtebjiimlcnmfpaaGreat

/-! The program's history.Formed. -/
namespace Go.Proofs.YtebjiimlcnmfpaaGreat
section
open Go Go.RowKit Go.Proofs
set_option linter.unusedSimpArgs false
set_option linter.unusedVariables false
attribute [local go_sem] Ext.alloc Ext.alloc2 Ext.alloc3 Ext.alloc4 Ext.drewN_alloc Ext.drewN_alloc2 Ext.drew_alloc Ext.drew Ext.drewN toList_beq

set_option maxRecDepth 100000 in
set_option maxHeartbeats 4000000 in
theorem h_formed (w : World) (A : Option Addr) (n cap : Nat) (l : List Ev) (hE : Evs w A n l) (hc : n ≤ cap) :
    Calls Tryz.prog 63 #[.slice A n cap] w fun e w' => e = .returned (.tuple #[.int .i64 (formed l).1, .int .i64 (formed l).2]) ∧ Ext w w' := by
  have hX := Ext.refl w
  have hbig := hE.big
  have hl := hid hE.len
  have HE := hid hE
  by_cases hn : 256 < n
  · have hfin : Hid (formed l = (0, 4)) := hid (by unfold formed; rw [if_pos (by rw [hE.len]; exact hn)])
    go_enter Tryz.func63, Tryz.ntmps63
    go_wp2
    go_ret2
    exact ⟨by rw [hfin.out]; rfl, hX⟩
  · have hn' : n ≤ 256 := by omega
    clear hn hE
    go_enter Tryz.func63, Tryz.ntmps63
    go_wp2
    go_loopw [15] (fun i W => Ext w W ∧ ∃ k : Nat, k ≤ n ∧ i = .int .i64 k ∧ Hid (FE (stepErr l) n k)) (fun i _ => n - (intOf i).toNat)
    case atStart => exact ⟨hX, 0, by omega, rfl, hid (FE.zero _ _)⟩
    case round =>
      obtain ⟨hW, k, hk1, rfl, hr⟩ := hrel
      by_cases hlt : k < n
      · by_cases he : stepErr l k = 0
        · have HF := hid he
          clear he
          go_wp2_with (go_at_call 100; refine (h_step _ _ _ _ _ _ (HE.out.ext hW) hlt hc).mono ?_; rintro e w1 ⟨rfl, hx1⟩; rw [HF.out])
          go_roundw
          case rel => exact ⟨hW.trans hx1, k + 1, by omega, by go_num, hid (hr.out.step hlt HF.out)⟩
          case measure => simp [intOf]; omega
        · have he1 : (stepErr l k == 0) = false := beq_eq_false_iff_ne.2 he
          have he2 : (stepErr l k != 0) = true := by simp [he]
          have HF := hid he
          clear he
          go_wp2_with (go_at_call 100; refine (h_step _ _ _ _ _ _ (HE.out.ext hW) hlt hc).mono ?_; rintro e w1 ⟨rfl, hx1⟩)
          go_ret2
          exact ⟨formed_leaf hl.out hn' hr.out hlt HF.out rfl, hW.trans hx1⟩
      · have hst := hid (hr.out.end (by omega))
        clear hr
        go_wp2
        go_loopw [28] (fun i W => Ext w W ∧ ∃ j : Nat, j ≤ n ∧ i = .int .i64 j ∧ Hid (FE (openErr l) n j)) (fun i _ => n - (intOf i).toNat)
        case atStart => exact ⟨hW, 0, by omega, rfl, hid (FE.zero _ _)⟩
        case round =>
          obtain ⟨hW2, j, hj1, rfl, hr2⟩ := hrel
          by_cases hjn : j < n
          · obtain ⟨b, o, rfl, h0, h1, h2, h3⟩ := HE.out.opn (by omega)
            by_cases he : 0 ≤ endOf l (nth l j).txn
            · have HD : Hid (decide (0 ≤ endOf l (nth l j).txn) = true) := hid (by simp [he])
              have HO : Hid (openErr l j = 0) := hid (by simp [openErr]; omega)
              clear he
              go_wp2_with (go_at_call 94; refine (h_over _ _ _ _ _ _ (HE.out.ext (hW2.alloc _))).mono ?_; rintro e w2 ⟨rfl, hx2⟩; rw [HD.out])
              go_roundw
              case rel => exact ⟨(hW2.alloc _).trans hx2, j + 1, by omega, by go_num, hid (hr2.out.step hjn HO.out)⟩
              case measure => simp [intOf]; omega
            · have HD : Hid (decide (0 ≤ endOf l (nth l j).txn) = false) := hid (by simp [he])
              have HO : Hid (openErr l j = 9) := hid (by simp [openErr]; omega)
              clear he
              go_wp2_with (go_at_call 94; refine (h_over _ _ _ _ _ _ (HE.out.ext (hW2.alloc _))).mono ?_; rintro e w2 ⟨rfl, hx2⟩; rw [HD.out])
              go_ret2
              exact ⟨formed_leaf2 hl.out hn' hst.out hr2.out hjn (by decide) HO.out, (hW2.alloc _).trans hx2⟩
          · go_wp2
            go_ret2
            exact ⟨formed_leaf3 hl.out hn' hst.out hr2.out (by omega), hW2⟩

end
end Go.Proofs.YtebjiimlcnmfpaaGreat

/-! The program's history.Lives. -/
namespace Go.Proofs.YtebjiimlcnmfpaaGreat
section
open Go Go.RowKit Go.Proofs
set_option linter.unusedSimpArgs false
set_option linter.unusedVariables false
attribute [local go_sem] Ext.alloc Ext.alloc2 Ext.alloc3 Ext.alloc4 Ext.drewN_alloc Ext.drewN_alloc2 Ext.drew_alloc Ext.drew Ext.drewN toList_beq
attribute [-go_sem] Builtin.append_

def Life.cs (x : Life) : List Value := [.int .i64 x.txn, .int .i64 x.from_, .int .i64 x.till, .bool x.com]
def kLife : Kd Life := Kd.flat 4 Life.z Life.cs (fun _ => rfl)
abbrev Lifes (w : World) (A : Option Addr) (n : Nat) (l : List Life) : Prop := Sl kLife w A n l
def livesFrom (h : List Ev) : Nat → Nat → List Life
  | 0, _ => []
  | m + 1, i => if firstOf (h.take i) (nth h i).txn < 0 then lifeOf h i :: livesFrom h m (i + 1) else livesFrom h m (i + 1)
def lives (h : List Ev) : List Life := livesFrom h h.length 0
theorem livesFrom_len (h : List Ev) : ∀ m i, (livesFrom h m i).length ≤ m
  | 0, _ => by simp [livesFrom]
  | m + 1, i => by
    unfold livesFrom
    have := livesFrom_len h m (i + 1)
    split
    · simp; omega
    · omega
def RLifes (w : World) (l : List Life) (e : Ending) (w' : World) : Prop := ∃ A cap, e = .returned (.slice A l.length cap) ∧ Lifes w' A l.length l ∧ Ext w w'
def ROwnLifes (w : World) (l : List Life) (e : Ending) (w' : World) : Prop := ∃ v, e = .returned v ∧ w'.ownsRow w.heap.size 52 4 v l.length (l.flatMap Life.cs) ∧ Ext w w'
theorem infoLife : (Tryz.prog.info? 52).map (fun i => (i.zero, i.size, i.bytes)) = some (some (.agg #[.int .i64 0, .int .i64 0, .int .i64 0, .bool false]), 4, 32) := by kernel_rfl

set_option maxRecDepth 100000 in
set_option maxHeartbeats 2000000 in
theorem h_lives_own (w : World) (A : Option Addr) (n cap : Nat) (l : List Ev) (hE : Evs w A n l) (hn : n ≤ 1000) (hc : n ≤ cap) :
    Calls Tryz.prog 52 #[.slice A n cap] w (ROwnLifes w (lives l)) := by
  have hX := Ext.refl w
  have hbig := hE.big
  have hl := hid hE.len
  have HE := hid hE
  obtain ⟨i0, hi, hz0, hz1, hz2⟩ := info_parts infoLife
  clear hE
  go_enter Tryz.func52, Tryz.ntmps52
  go_wp2
  go_loopw [3, 10] (fun out i W => Ext w W ∧ ∃ (k : Nat) (pre : List Life), k ≤ n ∧ i = .int .i64 k ∧ W.ownsRow w.heap.size 52 4 out pre.length (pre.flatMap Life.cs) ∧ pre.length ≤ k ∧ Hid (pre ++ livesFrom l (n - k) k = lives l)) (fun _ i _ => n - (intOf i).toNat)
  case atStart => exact ⟨hX, 0, [], by omega, rfl, World.ownsRow_nil _ _ _ _, by simp, hid (by unfold lives; rw [hl.out]; rfl)⟩
  case round =>
    obtain ⟨hW, k, pre, hk1, rfl, hown, hpl, hr⟩ := hrel
    by_cases hlt : k < n
    · obtain ⟨b, o, rfl, h0, h1, h2, h3⟩ := HE.out.opn (by omega)
      have hst : Hid (livesFrom l (n - k) k = if firstOf (l.take k) (nth l k).txn < 0 then lifeOf l k :: livesFrom l (n - (k + 1)) (k + 1) else livesFrom l (n - (k + 1)) (k + 1)) := hid (by rw [show n - k = (n - (k + 1)) + 1 by omega]; rfl)
      have HO := hid (fun (W : World) (x : Ext w W) => h_over W (some ⟨b, o, none⟩) k cap (l.take k) (nth l k).txn (Sl.take (HE.out.ext x) (by omega)))
      have hS := fun x : After (wr.alloc (.cells #[.int .i64 (nth l k).kind, .int .i64 (nth l k).txn, .string (nth l k).key, .string (nth l k).val] 50)) => (hW.alloc _).trans x.h
      have hCl := fun x : After (wr.alloc (.cells #[.int .i64 (nth l k).kind, .int .i64 (nth l k).txn, .string (nth l k).key, .string (nth l k).val] 50)) => x.h.cell ((Blk.new wr 50 #[.int .i64 (nth l k).kind, .int .i64 (nth l k).txn, .string (nth l k).key, .string (nth l k).val]).cells4.2.1)
      by_cases hz : 0 ≤ firstOf (l.take k) (nth l k).txn
      · have HD : Hid (decide (0 ≤ firstOf (l.take k) (nth l k).txn) = true) := hid (by simp [hz])
        have HZ := hid hz
        clear hz
        go_wp2
        refine wp_region_ext_lit (by kernel_rfl) (by kernel_rfl) ?_
        repeat (go_big_quiet_step ((go_at_call 94; exact Calls.quietX (HO.out _ (hS _)))))
        refine wpQuiet_nil ?_
        rintro V1 ⟨x1, hx1⟩
        have hV1 := x1.h
        rw [← hx1] at hV1
        clear hx1 x1
        have hXV := (hW.alloc _).trans hV1
        have hown1 := own_ext (hown.alloc _) (by have := hW.le; simp; omega) hV1
        rw [HD.out]
        clear hS hCl
        go_wp2
        go_roundw
        case rel =>
          refine ⟨hXV, k + 1, pre, by omega, by go_num, hown1, by omega, hid ?_⟩
          rw [← hr.out, hst.out, if_neg (by have := HZ.out; omega)]
        case measure => simp [intOf]; omega
      · have HD : Hid (decide (0 ≤ firstOf (l.take k) (nth l k).txn) = false) := hid (by simp [hz])
        have HZ := hid hz
        clear hz
        go_wp2
        refine wp_region_ext_lit (by kernel_rfl) (by kernel_rfl) ?_
        repeat (go_big_quiet_step ((go_at_call 94; exact Calls.quietX (HO.out _ (hS _)))))
        refine wpQuiet_nil ?_
        rintro V1 ⟨x1, hx1⟩
        have hV1 := x1.h
        rw [← hx1] at hV1
        clear hx1 x1
        have hXV := (hW.alloc _).trans hV1
        have hown1 := own_ext (hown.alloc _) (by have := hW.le; simp; omega) hV1
        rw [HD.out]
        clear hS hCl
        go_wp2_with (go_at_call 95; refine (h_life _ _ _ _ _ _ (HE.out.ext hXV) hlt).mono ?_; rintro e w2 ⟨rfl, hx2⟩; have hX2 := hXV.trans hx2; have hown2 := own_ext hown1 (by have := hXV.le; omega) hx2)
        obtain ⟨v', w4, hrun, hown3, hgrow, _⟩ := run_append_own (P := Tryz.prog) _ w.heap.size 47 47 52 i0 (.agg #[.int .i64 0, .int .i64 0, .int .i64 0, .bool false]) 4 32 Tryz.underlying47 hi hz0 hz1 hz2 rfl (by decide) _ _ _ (hown2.alloc (.cells #[.int .i64 (lifeOf l k).txn, .int .i64 (lifeOf l k).from_, .int .i64 (lifeOf l k).till, .bool (lifeOf l k).com] 52)) ⟨w2.heap.size, 0, none⟩ 1 1 [.int .i64 (lifeOf l k).txn, .int .i64 (lifeOf l k).from_, .int .i64 (lifeOf l k).till, .bool (lifeOf l k).com] rfl (new_cells rfl) (by intro u hu; simp at hu; rcases hu with rfl | rfl | rfl | rfl <;> rfl) (by unfold maxLen; omega) (by omega) (by have := hX2.le; simp; omega)
        rw [hrun]
        have e1 : pre.flatMap Life.cs ++ [.int .i64 (lifeOf l k).txn, .int .i64 (lifeOf l k).from_, .int .i64 (lifeOf l k).till, .bool (lifeOf l k).com] = (pre ++ [lifeOf l k]).flatMap Life.cs := by simp [Life.cs]
        have e2 : pre.length + 1 = (pre ++ [lifeOf l k]).length := by simp
        rw [e1, e2] at hown3
        have hW2 : Ext w w4 := Ext.grown (Ext.alloc hX2 _) hgrow (own_block hown2)
        clear e1 e2
        go_wp2
        go_roundw
        case rel =>
          refine ⟨hW2, k + 1, pre ++ [lifeOf l k], by omega, by go_num, hown3, by simp; omega, hid ?_⟩
          rw [← hr.out, hst.out, if_pos (by have := HZ.out; omega)]; simp
        case measure => simp [intOf]; omega
    · go_wp2
      have hb : pre = lives l := by rw [← hr.out, show n - k = 0 by omega]; simp [livesFrom]
      subst hb
      go_ret
      exact ⟨_, rfl, hown, hW⟩

theorem lives_len (l : List Ev) : (lives l).length ≤ l.length := livesFrom_len l _ _

theorem h_lives (w : World) (A : Option Addr) (n cap : Nat) (l : List Ev) (hE : Evs w A n l) (hn : n ≤ 1000) (hc : n ≤ cap) :
    Calls Tryz.prog 52 #[.slice A n cap] w (RLifes w (lives l)) := by
  refine (h_lives_own w A n cap l hE hn hc).mono ?_
  rintro e w' ⟨v, rfl, hown, hx⟩
  obtain ⟨A', c', e', hs'⟩ := sl_of_own (l := lives l) (c := Life.cs) (z := Life.z) (hc := fun _ => rfl) hown (by have := lives_len l; have := hE.len; omega)
  subst e'
  exact ⟨A', c', rfl, hs', hx⟩

/-- What a row of lives holds, in words that the walk takes. -/
def lnth (l : List Life) (i : Nat) : Life := l.getD i Life.z
theorem Lifes.opn {w : World} {A : Option Addr} {n : Nat} {l : List Life} (h : Lifes w A n l) (hn : 0 < n) : ∃ b o, A = some ⟨b, o, none⟩ ∧
    (∀ W i, Ext w W → i < n → W.cell? ⟨b, o + i * 4, none⟩ = some (.int .i64 (lnth l i).txn)) ∧
    (∀ W i, Ext w W → i < n → W.cell? ⟨b, o + i * 4 + 1, none⟩ = some (.int .i64 (lnth l i).from_)) ∧
    (∀ W i, Ext w W → i < n → W.cell? ⟨b, o + i * 4 + 2, none⟩ = some (.int .i64 (lnth l i).till)) ∧
    (∀ W i, Ext w W → i < n → W.cell? ⟨b, o + i * 4 + 3, none⟩ = some (.bool (lnth l i).com)) := by
  obtain ⟨b, o, e, hg⟩ := h.get hn
  have hh : ∀ W i j u, Ext w W → i < n → (lnth l i).cs[j]? = some u → W.cell? ⟨b, o + i * 4 + j, none⟩ = some u := fun W i j u hx hi hu => by
    obtain ⟨cs, hR, hc⟩ := hg i hi
    have hcs : cs = (lnth l i).cs := hR
    exact hx.cell (hc j u (by rw [hcs]; exact hu))
  exact ⟨b, o, e, fun W i hx hi => hh W i 0 _ hx hi rfl, fun W i hx hi => hh W i 1 _ hx hi rfl, fun W i hx hi => hh W i 2 _ hx hi rfl, fun W i hx hi => hh W i 3 _ hx hi rfl⟩
end
end Go.Proofs.YtebjiimlcnmfpaaGreat

/-! slices.IndexFunc at lives, for whatever function value. -/
namespace Go.Proofs.YtebjiimlcnmfpaaGreat
section
open Go Go.RowKit Go.Proofs
set_option linter.unusedSimpArgs false
set_option linter.unusedVariables false
attribute [local go_sem] Ext.alloc Ext.alloc2 Ext.alloc3 Ext.alloc4 Ext.drewN_alloc Ext.drewN_alloc2 Ext.drew_alloc Ext.drew Ext.drewN toList_beq

set_option maxHeartbeats 1000000 in
theorem idxLife (g : Nat) (caps : Array Value) (p : Life → Bool) (w : World) (A : Option Addr) (n cap : Nat) (l : List Life) (hE : Lifes w A n l)
    (eg : ∀ args w, (callFunc g args).run Tryz.prog w = .ok (.enter g args) w)
    (hg : ∀ (W : World) (x : Life), Ext w W → Calls Tryz.prog g (#[.agg #[.int .i64 x.txn, .int .i64 x.from_, .int .i64 x.till, .bool x.com]] ++ caps) W fun e w' => e = .returned (.bool (p x)) ∧ Ext W w') :
    Calls Tryz.prog 151 #[.slice A n cap, .func (.func g) #[] caps] w fun e w' => e = .returned (.int .i64 (idx p l 0)) ∧ Ext w w' := by
  have hX := Ext.refl w
  have hl := hid (Sl.len hE)
  have hbig := hE.big
  have HG := hid hg
  clear hg
  go_enter Tryz.func151, Tryz.ntmps151
  go_wp2
  go_loopw [8] (fun i W => Ext w W ∧ ∃ k : Nat, k ≤ n ∧ i = .int .i64 k ∧ Hid (idx p (l.drop k) k = idx p l 0)) (fun i _ => n - (intOf i).toNat)
  case atStart => exact ⟨hX, 0, by omega, rfl, hid rfl⟩
  case round =>
    obtain ⟨hW, k, hk1, rfl, hr⟩ := hrel
    by_cases hlt : k < n
    · obtain ⟨b, o, rfl, h0, h1, h2, h3⟩ := Lifes.opn hE (by omega)
      have hs := hid (drop_step l Life.z (k := k) (by rw [hl.out]; omega))
      go_wp2
      refine (HG.out _ (lnth l k) hW).mono ?_
      rintro e w1 ⟨rfl, hx1⟩
      cases hp : p (lnth l k)
      · have hp' := hid hp; clear hp
        go_wp2
        go_roundw
        case rel => exact ⟨hW.trans hx1, k + 1, by omega, by go_num, hid (by rw [← hr.out, hs.out, idx_cons]; exact (if_neg (by rw [show l.getD k Life.z = lnth l k from rfl, hp'.out]; simp)).symm)⟩
        case measure => simp [intOf]; omega
      · have hp' := hid hp; clear hp
        go_wp2
        go_ret
        refine ⟨ret_int ?_, hW.trans hx1⟩
        rw [← hr.out, hs.out, idx_cons]
        exact (if_pos hp'.out).symm
    · go_wp2
      go_ret
      refine ⟨ret_int ?_, hW⟩
      rw [← hr.out, drop_end _ (by rw [hl.out]; omega)]
      rfl

end
end Go.Proofs.YtebjiimlcnmfpaaGreat

/-! slices.DeleteFunc at lives, over a row of one's own. -/
namespace Go.Proofs.YtebjiimlcnmfpaaGreat
section
open Go Go.RowKit Go.Proofs
set_option linter.unusedSimpArgs false
set_option linter.unusedVariables false
attribute [local go_sem] Ext.alloc Ext.alloc2 Ext.alloc3 Ext.alloc4 Ext.drewN_alloc Ext.drewN_alloc2 Ext.drew_alloc Ext.drew Ext.drewN toList_beq

theorem Below.setCells {B : Nat} {a : World} {g : Nat} (hg : B ≤ g) : ∀ (vs : List Value) (o : Nat) {w : World}, Below B a w → Below B a (w.setCells g o vs)
  | [], _, _, h => h
  | v :: r, o, w, h => Below.setCells hg r (o + 1) (h.setCell (p := ⟨g, o, none⟩) hg v)

/-- 'clear(s)', elements of several cells. -/
theorem run_clear_cells {P : Program} (w : World) (t e ty : TypeId) (z : Value) (ht : P.underlying t = some (.slice e)) (hv : ∀ w, (zeroValue e).run P w = .ok z w) (h1 : ∀ u ∈ z.cells.toList, u.oneCell' = true) (b o n c : Nat) (hn : 0 < n)
    (hc : ∀ j, j < n * z.cells.size → (w.cell? ⟨b, o + j, none⟩).isSome = true) (hf : ∀ j, j < n * z.cells.size → w.frozen? ⟨b, o + j, none⟩ = false) :
    ∃ zs : List Value, zs.length = n * z.cells.size ∧ (Builtin.clear_ #[t] ty #[.slice (some ⟨b, o, none⟩) n c]).run P w = .ok (.tuple #[]) (w.setCells b o zs) := by
  have hl : (Builtin.zeroCells z.cells n).toList.length = n * z.cells.size := by simp [Builtin.zeroCells]
  have hst := run_storeCells_cells (P := P) b o (Builtin.zeroCells z.cells n).toList 0 w (by rw [hl]; simpa using hc) (by rw [hl]; simpa using hf) (by
    intro v hv'
    simp only [Builtin.zeroCells, Array.toList_map, List.mem_map, Array.toList_range, List.mem_range] at hv'
    obtain ⟨i, hi, rfl⟩ := hv'
    have h0 : 0 < z.cells.size := by
      rcases Nat.eq_zero_or_pos z.cells.size with h0 | h0
      · rw [h0] at hi; omega
      · exact h0
    have hm : i % z.cells.size < z.cells.size := Nat.mod_lt _ h0
    rw [getElem!_pos z.cells _ hm]
    exact h1 _ (by simp))
  simp only [Nat.add_zero] at hst
  refine ⟨_, hl, ?_⟩
  obtain ⟨m, rfl⟩ : ∃ m, n = m + 1 := ⟨n - 1, by omega⟩
  simp [Builtin.clear_, run_underlying ht, hv, hst]

theorem zeroLife : ∀ w, (zeroValue 52).run Tryz.prog w = .ok (.agg #[.int .i64 0, .int .i64 0, .int .i64 0, .bool false]) w := by
  obtain ⟨i0, hi, hz0, _⟩ := info_parts infoLife
  intro w
  simp [zeroValue, typeInfo, hi, hz0]

def keeps (p : Life → Bool) (l : List Life) : List Life := l.filter fun x => !p x
theorem keeps_step {p : Life → Bool} {l : List Life} {k : Nat} (h : k < l.length) : keeps p (l.take (k + 1)) = keeps p (l.take k) ++ (if p (lnth l k) = true then [] else [lnth l k]) := by
  unfold keeps
  rw [List.take_succ_eq_append_getElem h, List.filter_append]
  congr 1
  rw [show l[k] = lnth l k by simp [lnth, List.getD_eq_getElem?_getD, h]]
  by_cases e : p (lnth l k) = true <;> simp [e]
theorem keeps_none {p : Life → Bool} {l : List Life} (h : ∀ x ∈ l, p x = false) : keeps p l = l := by
  unfold keeps; rw [List.filter_eq_self]; intro x hx; rw [h x hx]; rfl
/-- What the loop keeps: the row's first i elements are those kept of the first j; from j on all is as it was. -/
structure DelInv (p : Life → Bool) (l : List Life) (i j : Nat) (d : Nat → Life) : Prop where
  hij : i < j
  hj : j ≤ l.length
  len : (keeps p (l.take j)).length = i
  fst : ∀ q, q < i → d q = (keeps p (l.take j)).getD q Life.z
  rest : ∀ q, j ≤ q → q < l.length → d q = lnth l q
theorem DelInv.skip {p : Life → Bool} {l : List Life} {i j : Nat} {d : Nat → Life} (h : DelInv p l i j d) (hj : j < l.length) (hp : p (lnth l j) = true) : DelInv p l i (j + 1) d := by
  have e := keeps_step (p := p) hj
  rw [if_pos hp, List.append_nil] at e
  exact ⟨by have := h.hij; omega, hj, by rw [e]; exact h.len, by rw [e]; exact h.fst, fun q h1 h2 => h.rest q (by omega) h2⟩
theorem DelInv.keep {p : Life → Bool} {l : List Life} {i j : Nat} {d : Nat → Life} (h : DelInv p l i j d) (hj : j < l.length) (hp : p (lnth l j) = false) : DelInv p l (i + 1) (j + 1) (fun k => if k = i then lnth l j else d k) := by
  have e := keeps_step (p := p) hj
  rw [if_neg (by rw [hp]; simp)] at e
  have hl := h.len
  refine ⟨by have := h.hij; omega, hj, by rw [e]; simp [hl], fun q hq => ?_, fun q h1 h2 => ?_⟩
  · rw [e]
    by_cases e2 : q = i
    · subst e2
      simp [List.getD_eq_getElem?_getD, ← hl]
    · rw [if_neg e2, h.fst q (by omega)]
      simp [List.getD_eq_getElem?_getD, List.getElem?_append_left (show q < (keeps p (l.take j)).length by omega)]
  · have := h.hij
    show (if q = i then _ else _) = _
    rw [if_neg (by omega), h.rest q (by omega) h2]
theorem DelInv.start {p : Life → Bool} {l : List Life} {k : Nat} (hk : k < l.length) (hp : p (lnth l k) = true) (hq : ∀ j, j < k → p (lnth l j) = false) : DelInv p l k (k + 1) (fun i => lnth l i) := by
  have e := keeps_step (p := p) hk
  rw [if_pos hp, List.append_nil, keeps_none (l := l.take k) (by
    intro x hx
    obtain ⟨i, hi, rfl⟩ := List.mem_take_iff_getElem.1 hx
    have := hq i (by omega)
    rwa [show lnth l i = l[i]'(by omega) by simp [lnth, List.getD_eq_getElem?_getD, show i < l.length by omega]] at this)] at e
  refine ⟨by omega, hk, by rw [e]; simp; omega, fun q h1 => ?_, fun q _ _ => rfl⟩
  rw [e]
  simp [lnth, List.getD_eq_getElem?_getD, List.getElem?_take, h1]

set_option maxRecDepth 100000 in
set_option maxHeartbeats 4000000 in
theorem delLife (g : Nat) (caps : Array Value) (p : Life → Bool) (w : World) (B : Nat) (v : Value) (l : List Life) (hn : l.length ≤ 1000) (hB : B ≤ w.heap.size)
    (hown : w.ownsRow B 52 4 v l.length (l.flatMap Life.cs))
    (eg : ∀ args w, (callFunc g args).run Tryz.prog w = .ok (.enter g args) w)
    (hg : ∀ (W : World) (x : Life), Calls Tryz.prog g (#[.agg #[.int .i64 x.txn, .int .i64 x.from_, .int .i64 x.till, .bool x.com]] ++ caps) W fun e w' => e = .returned (.bool (p x)) ∧ Ext W w') :
    Calls Tryz.prog 119 #[v, .func (.func g) #[] caps] w fun e w' => ∃ v', e = .returned v' ∧ w'.ownsRow B 52 4 v' (keeps p l).length ((keeps p l).flatMap Life.cs) ∧ Below B w w' := by
  obtain ⟨A', c', e', hs'⟩ := sl_of_own (l := l) (c := Life.cs) (z := Life.z) (hc := fun _ => rfl) hown (by omega)
  have HI := hid (idxLife g caps p w A' l.length c' l hs' eg (fun W x _ => hg W x))
  have HG := hid hg
  have hX := Below.refl B w
  clear hg
  by_cases hno : ∀ x ∈ l, p x = false
  · have hi : Hid (idx p l 0 = -1) := hid (by
      rcases idx_spec p l 0 with ⟨h, _⟩ | ⟨k, hk, _, h2, _⟩
      · exact h
      · rw [hno _ (List.getElem_mem hk)] at h2; cases h2)
    have hk := hid (keeps_none hno)
    clear hno
    subst e'
    have HO := hid hown
    clear hown hs'
    go_enter Tryz.func119, Tryz.ntmps119
    go_wp2_with (go_at_call 151; refine HI.out.mono ?_; rintro e w1 ⟨rfl, hx1⟩; rw [hi.out])
    go_ret
    refine ⟨_, rfl, ?_, Below.mono hx1 hB⟩
    rw [hk.out]
    exact own_ext HO.out hB hx1
  · obtain ⟨k, hk, hi, hpk, hq⟩ : ∃ k : Nat, k < l.length ∧ idx p l 0 = k ∧ p (lnth l k) = true ∧ ∀ j, j < k → p (lnth l j) = false := by
      have hl : ∀ i, ∀ h : i < l.length, lnth l i = l[i] := fun i h => by simp [lnth, List.getD_eq_getElem?_getD, h]
      rcases idx_spec p l 0 with ⟨_, h⟩ | ⟨k, hk, h, h2, h3⟩
      · exact absurd h hno
      · exact ⟨k, hk, by simpa using h, by rw [hl k hk]; exact h2, fun j hj => by rw [hl j (by omega)]; exact h3 j hj⟩
    have HS := hid (DelInv.start hk hpk hq)
    rcases RowD.of_own (z := Life.z) hown (fun _ => rfl) with ⟨_, h0⟩ | ⟨gB, room, ex, h1, hgB, hlr, hrm, hrow⟩
    · rw [h0] at hk; simp at hk
    · rw [h1] at e'
      cases e'
      subst h1
      have HI2 := hid hi
      obtain ⟨n, hnl⟩ : ∃ n, l.length = n := ⟨_, rfl⟩
      have HN := hid hnl
      rw [hnl] at HI hrow hlr hk hn ⊢
      clear hno hi hpk hq hown hs' hnl
      have hm1 : ((k : Int) == -1) = false := beq_eq_false_iff_ne.2 (by omega)
      go_enter Tryz.func119, Tryz.ntmps119
      go_wp2_with (go_at_call 151; refine HI.out.mono ?_; rintro e w1 ⟨rfl, hx1⟩; rw [HI2.out])
      have hrow1 := hrow.ext hx1
      have hX1 := Below.mono hx1 hB
      go_loopw [5, 6] (fun iv jv W => Below B w W ∧ ∃ (i j : Nat) (d : Nat → Life), iv = .int .i64 i ∧ jv = .int .i64 j ∧ RowD Life.cs 4 W gB 52 n c' d ex ∧ Hid (DelInv p l i j d)) (fun _ j _ => n - (intOf j).toNat)
      case atStart => exact ⟨hX1, k, k + 1, _, rfl, by go_num, hrow1, HS⟩
      case round =>
        obtain ⟨hW, i, j, d, rfl, rfl, hr, hD⟩ := hrel
        have hij := hD.out.hij
        have hjn : j ≤ n := by have := hD.out.hj; have := HN.out; omega
        by_cases hlt : j < n
        · have hdj := hid (hD.out.rest j (Nat.le_refl _) (by rw [HN.out]; exact hlt))
          have k0 := hr.cell hlr hlt (show 0 < 4 by omega)
          have k1 := hr.cell hlr hlt (show 1 < 4 by omega)
          have k2 := hr.cell hlr hlt (show 2 < 4 by omega)
          have k3 := hr.cell hlr hlt (show 3 < 4 by omega)
          rw [hdj.out] at k0 k1 k2 k3
          simp only [Life.cs, List.getD_cons_zero, List.getD_cons_succ, Nat.add_zero] at k0 k1 k2 k3
          cases hp : p (lnth l j) with
          | true =>
            have HP := hid hp
            clear hp
            go_wp2
            refine (HG.out _ (lnth l j)).mono ?_
            rintro e w2 ⟨rfl, hx2⟩
            rw [HP.out]
            have hsz := hW.size
            have hW2 := (hW.alloc (by omega) (.cells #[.int .i64 (lnth l j).txn, .int .i64 (lnth l j).from_, .int .i64 (lnth l j).till, .bool (lnth l j).com] 52)).trans (Below.mono hx2 (by simp; omega))
            have hr2 := (hr.alloc _).ext hx2
            clear k0 k1 k2 k3
            go_wp2
            go_roundw
            case rel =>
              exact ⟨hW2, i, j + 1, d, rfl, by go_num, hr2, hid (hD.out.skip (by rw [HN.out]; exact hlt) HP.out)⟩
            case measure => simp [intOf]; omega
          | false =>
            have HP := hid hp
            clear hp
            go_wp2
            refine (HG.out _ (lnth l j)).mono ?_
            rintro e w2 ⟨rfl, hx2⟩
            rw [HP.out]
            have hsz := hW.size
            have hW2 := (hW.alloc (by omega) (.cells #[.int .i64 (lnth l j).txn, .int .i64 (lnth l j).from_, .int .i64 (lnth l j).till, .bool (lnth l j).com] 52)).trans (Below.mono hx2 (by simp; omega))
            have hr2 := (hr.alloc _).ext hx2
            obtain ⟨q0, q1, q2, q3⟩ := ((Blk.new wr 52 #[.int .i64 (lnth l j).txn, .int .i64 (lnth l j).from_, .int .i64 (lnth l j).till, .bool (lnth l j).com]).ext hx2).cells4
            have m0 := hr2.cell hlr (show i < n by omega) (show 0 < 4 by omega)
            have m1 := hr2.cell hlr (show i < n by omega) (show 1 < 4 by omega)
            have m2 := hr2.cell hlr (show i < n by omega) (show 2 < 4 by omega)
            have m3 := hr2.cell hlr (show i < n by omega) (show 3 < 4 by omega)
            simp only [Life.cs, List.getD_cons_zero, List.getD_cons_succ, Nat.add_zero] at m0 m1 m2 m3
            have mf := hr2.frozen
            have hlt3 : gB < wr.heap.size := hr.lt
            clear k0 k1 k2 k3
            go_wp2
            go_roundw
            case rel =>
              refine ⟨(((hW2.setCell (p := ⟨gB, _, none⟩) hgB _).setCell (p := ⟨gB, _, none⟩) hgB _).setCell (p := ⟨gB, _, none⟩) hgB _).setCell (p := ⟨gB, _, none⟩) hgB _, i + 1, j + 1, _, by go_num, by go_num, ?_, hid (hD.out.keep (by rw [HN.out]; exact hlt) HP.out)⟩
              exact hr2.put (fun _ => rfl) (show i < n by omega) (lnth l j)
            case measure => simp [intOf]; omega
        · go_wp2
          have hlen := hD.out.len
          have hjl := HN.out
          obtain rfl : j = n := by omega
          have hin := hij
          have hlr2 := Nat.mul_le_mul_right 4 hlr
          obtain ⟨zs, hzl, hrun⟩ := run_clear_cells (P := Tryz.prog) wr 47 52 0 (.agg #[.int .i64 0, .int .i64 0, .int .i64 0, .bool false]) Tryz.underlying47 (zeroLife) (by intro u hu; simp [Value.cells] at hu; rcases hu with rfl | rfl <;> rfl) gB (i * 4) (j - i) (c' - i) (by omega)
            (by
              intro q hq
              have := World.rowIs.cell hr (show i * 4 + q < c' * 4 by simp [Value.cells] at hq; omega)
              rw [this]; rfl)
            (fun q _ => hr.frozen _)
          have hrun' : (Builtin.clear_ #[47] 0 #[.slice (some ⟨gB, i * 4, none⟩) (j - i) (c' - i)]).run Tryz.prog wr = .ok (.tuple #[]) (wr.setCells gB (i * 4) zs) := hrun
          rw [hrun']
          have hW3 := Below.setCells hgB zs (i * 4) hW
          have hr3 := rowIs_setCells (f := fun _ => undef) zs (i * 4) wr _ hr
          have hr4 : RowD Life.cs 4 (wr.setCells gB (i * 4) zs) gB 52 i c' d (fun q => if i * 4 ≤ q ∧ q < i * 4 + zs.length then zs.getD (q - i * 4) undef else if q < j * 4 then (Life.cs (d (q / 4))).getD (q % 4) undef else ex q) := by
            refine World.rowIs.congr hr3 fun q _ => ?_
            by_cases e : q < i * 4
            · rw [if_neg (by omega), if_pos (by omega), if_pos e]
            · rw [if_neg e]
          have hl1 : l.take j = l := List.take_of_length_le (by omega)
          have hkl : (keeps p l).length = i := by rw [hl1] at hlen; exact hlen
          have hkd : ∀ q, q < i → d q = (keeps p l).getD q Life.z := fun q hq => by have := hD.out.fst q hq; rwa [hl1] at this
          have hfin := hr4.to_own (fun _ => rfl) Life.z hgB (Nat.le_refl i) (by omega) hrm (keeps p l) hkl hkd
          rw [← hkl] at hfin
          have HF := hid hfin
          have HKL := hid hkl
          clear hr3 hr4 hfin hkd hl1 hkl hrun hrun'
          go_wp2
          go_ret
          refine ⟨_, rfl, ?_, hW3⟩
          have := HF.out
          rw [HKL.out] at this ⊢
          exact this
end
end Go.Proofs.YtebjiimlcnmfpaaGreat

/-! Contracts of the reference's functions of chapter 8 that look for one place. -/
namespace Go.Proofs.YtebjiimlcnmfpaaGreat
section
open Go Go.RowKit Go.Proofs
set_option linter.unusedSimpArgs false
set_option linter.unusedVariables false
attribute [local go_sem] Ext.alloc Ext.alloc2 Ext.alloc3 Ext.alloc4 Ext.drewN_alloc Ext.drewN_alloc2 Ext.drew_alloc Ext.drew Ext.drewN toList_beq

set_option maxHeartbeats 400000 in
theorem r08_first (w : World) (A : Option Addr) (n cap : Nat) (l : List Ev) (txn upto : Int) (hE : Evs w A n l) (hu0 : 0 ≤ upto) (hu : upto ≤ n) :
    Calls Tryz.prog 61 #[.slice A n cap, .int .i64 txn, .int .i64 upto] w fun e w' => e = .returned (.int .i64 (firstOf (l.take upto.toNat) txn)) ∧ w' = w := by
  obtain ⟨u, rfl⟩ := Int.eq_ofNat_of_zero_le hu0
  have hun : u ≤ n := by omega
  clear hu hu0
  have hl := hid hE.len
  have hbig := hE.big
  have hX := Ext.refl w
  go_enter Tryz.func61, Tryz.ntmps61
  go_wp2
  go_loop [7] (fun i => ∃ k : Nat, k ≤ u ∧ i = .int .i64 k ∧ Hid (idx (isOf txn) ((l.take u).drop k) k = (firstOf (l.take u) txn))) (fun i => u - (intOf i).toNat)
  case atStart => exact ⟨0, by omega, rfl, hid rfl⟩
  case round =>
    obtain ⟨k, hk1, rfl, hr⟩ := hrel
    by_cases hlt : k < u
    · have hkn : k < n := by omega
      obtain ⟨b, o, rfl, h0, h1, h2, h3⟩ := hE.opn (by omega)
      have hs := hid (drop_step (l.take u) Ev.z (k := k) (by rw [List.length_take, hl.out]; omega))
      have hg : Hid ((l.take u).getD k Ev.z = nth l k) := hid (by simp [nth, List.getD_eq_getElem?_getD, List.getElem?_take, hlt])
      go_wp2
      all_goals first
        | (go_ret
           refine ⟨ret_int ?_, rfl⟩
           rw [← hr.out, hs.out, idx_cons, hg.out]
           clear hr hs hg h0 h1 h2 h3 hE hl hX
           simp_all [isOf])
        | (go_round
           case rel =>
             refine ⟨k + 1, by omega, by go_num, hid ?_⟩
             rw [← hr.out, hs.out, idx_cons, hg.out]
             clear hr hs hg h0 h1 h2 h3 hE hl hX
             simp_all [isOf]
           case measure => simp [intOf]; omega)
    · go_wp2
      go_ret
      refine ⟨ret_int ?_, rfl⟩
      rw [← hr.out, drop_end _ (by rw [List.length_take, hl.out]; omega)]
      rfl

set_option maxHeartbeats 400000 in
theorem r08_end (w : World) (A : Option Addr) (n cap : Nat) (l : List Ev) (txn upto : Int) (hE : Evs w A n l) (hu0 : 0 ≤ upto) (hu : upto ≤ n) :
    Calls Tryz.prog 62 #[.slice A n cap, .int .i64 txn, .int .i64 upto] w fun e w' => e = .returned (.int .i64 (endOf (l.take upto.toNat) txn)) ∧ w' = w := by
  obtain ⟨u, rfl⟩ := Int.eq_ofNat_of_zero_le hu0
  have hun : u ≤ n := by omega
  clear hu hu0
  have hl := hid hE.len
  have hbig := hE.big
  have hX := Ext.refl w
  go_enter Tryz.func62, Tryz.ntmps62
  go_wp2
  go_loop [7] (fun i => ∃ k : Nat, k ≤ u ∧ i = .int .i64 k ∧ Hid (idx (endsOf txn) ((l.take u).drop k) k = (endOf (l.take u) txn))) (fun i => u - (intOf i).toNat)
  case atStart => exact ⟨0, by omega, rfl, hid rfl⟩
  case round =>
    obtain ⟨k, hk1, rfl, hr⟩ := hrel
    by_cases hlt : k < u
    · have hkn : k < n := by omega
      obtain ⟨b, o, rfl, h0, h1, h2, h3⟩ := hE.opn (by omega)
      have hs := hid (drop_step (l.take u) Ev.z (k := k) (by rw [List.length_take, hl.out]; omega))
      have hg : Hid ((l.take u).getD k Ev.z = nth l k) := hid (by simp [nth, List.getD_eq_getElem?_getD, List.getElem?_take, hlt])
      go_wp2
      all_goals first
        | (go_ret
           refine ⟨ret_int ?_, rfl⟩
           rw [← hr.out, hs.out, idx_cons, hg.out]
           clear hr hs hg h0 h1 h2 h3 hE hl hX
           simp_all [endsOf, ends])
        | (go_round
           case rel =>
             refine ⟨k + 1, by omega, by go_num, hid ?_⟩
             rw [← hr.out, hs.out, idx_cons, hg.out]
             clear hr hs hg h0 h1 h2 h3 hE hl hX
             simp_all [endsOf, ends]
           case measure => simp [intOf]; omega)
    · go_wp2
      go_ret
      refine ⟨ret_int ?_, rfl⟩
      rw [← hr.out, drop_end _ (by rw [List.length_take, hl.out]; omega)]
      rfl

set_option maxHeartbeats 400000 in
theorem r08_writer (w : World) (A : Option Addr) (n cap : Nat) (l : List Ev) (key val : ByteArray) (hE : Evs w A n l) :
    Calls Tryz.prog 58 #[.slice A n cap, .string key, .string val] w fun e w' => e = .returned (.int .i64 (writer l key val)) ∧ w' = w := by
  have hl := hid hE.len
  have hbig := hE.big
  have hX := Ext.refl w
  go_enter Tryz.func58, Tryz.ntmps58
  go_wp2
  go_loop [7] (fun i => ∃ k : Nat, k ≤ n ∧ i = .int .i64 k ∧ Hid (idx (writes key val) (l.drop k) k = (writer l key val))) (fun i => n - (intOf i).toNat)
  case atStart => exact ⟨0, by omega, rfl, hid rfl⟩
  case round =>
    obtain ⟨k, hk1, rfl, hr⟩ := hrel
    by_cases hlt : k < n
    · have hkn : k < n := by omega
      obtain ⟨b, o, rfl, h0, h1, h2, h3⟩ := hE.opn (by omega)
      have hs := hid (drop_step l Ev.z (k := k) (by rw [hl.out]; omega))
      have hg : Hid (l.getD k Ev.z = nth l k) := hid (by rfl)
      go_wp2
      all_goals first
        | (go_ret
           refine ⟨ret_int ?_, rfl⟩
           rw [← hr.out, hs.out, idx_cons, hg.out]
           clear hr hs hg h0 h1 h2 h3 hE hl hX
           simp_all [writes])
        | (go_round
           case rel =>
             refine ⟨k + 1, by omega, by go_num, hid ?_⟩
             rw [← hr.out, hs.out, idx_cons, hg.out]
             clear hr hs hg h0 h1 h2 h3 hE hl hX
             simp_all [writes]
           case measure => simp [intOf]; omega)
    · go_wp2
      go_ret
      refine ⟨ret_int ?_, rfl⟩
      rw [← hr.out, drop_end _ (by rw [hl.out]; omega)]
      rfl

set_option maxHeartbeats 400000 in
theorem r08_last (w : World) (A : Option Addr) (n cap : Nat) (l : List Ev) (txn before : Int) (key : ByteArray) (hE : Evs w A n l) :
    Calls Tryz.prog 92 #[.slice A n cap, .int .i64 txn, .string key, .int .i64 before] w fun e w' => e = .returned (.int .i64 (lastOf l txn key before)) ∧ w' = w := by
  have hl := hid hE.len
  have hbig := hE.big
  have hX := Ext.refl w
  go_enter Tryz.func92, Tryz.ntmps92
  go_wp2
  go_loop [9, 10] (fun d i => ∃ (k : Nat) (q : Int), k ≤ n ∧ i = .int .i64 k ∧ d = .int .i64 q ∧ Hid (lastIdx (wroteBy txn key) ((l.take before.toNat).drop k) k q = lastOf l txn key before)) (fun _ i => n - (intOf i).toNat)
  case atStart => exact ⟨0, -1, by omega, rfl, rfl, hid rfl⟩
  case round =>
    obtain ⟨k, q, hk1, rfl, rfl, hr⟩ := hrel
    by_cases hlt : k < n
    · by_cases hb : (k : Int) < before
      · obtain ⟨b, o, rfl, h0, h1, h2, h3⟩ := hE.opn (by omega)
        have hs := hid (drop_step (l.take before.toNat) Ev.z (k := k) (by rw [List.length_take, hl.out]; omega))
        have hg : Hid ((l.take before.toNat).getD k Ev.z = nth l k) := hid (by simp [nth, List.getD_eq_getElem?_getD, List.getElem?_take, show k < before.toNat by omega])
        go_wp2
        all_goals
          go_round
          case rel =>
            refine ⟨k + 1, _, by omega, by go_num, rfl, hid ?_⟩
            rw [← hr.out, hs.out, lastIdx_cons, hg.out]
            clear hr hs hg h0 h1 h2 h3 hE hl hX
            simp_all [wroteBy]
          case measure => simp [intOf]; omega
      · go_wp2
        go_ret
        refine ⟨ret_int ?_, rfl⟩
        rw [← hr.out, drop_end _ (by rw [List.length_take]; omega)]
        rfl
    · go_wp2
      go_ret
      refine ⟨ret_int ?_, rfl⟩
      rw [← hr.out, drop_end _ (by rw [List.length_take, hl.out]; omega)]
      rfl

end
end Go.Proofs.YtebjiimlcnmfpaaGreat

/-! Contracts: which events may be; a transaction found; the reference's well formed histories. -/
namespace Go.Proofs.YtebjiimlcnmfpaaGreat
section
open Go Go.RowKit Go.Proofs
set_option linter.unusedSimpArgs false
set_option linter.unusedVariables false
attribute [local go_sem] Ext.alloc Ext.alloc2 Ext.alloc3 Ext.alloc4 Ext.drewN_alloc Ext.drewN_alloc2 Ext.drew_alloc Ext.drew Ext.drewN toList_beq

set_option maxHeartbeats 1000000 in
theorem r06_may (w : World) (x : Ev) :
    Calls Tryz.prog 60 #[.agg #[.int .i64 x.kind, .int .i64 x.txn, .string x.key, .string x.val]] w fun e w' => e = .returned (.bool (may x)) ∧ Ext w w' := by
  have hX := Ext.refl w
  go_enter Tryz.func60, Tryz.ntmps60
  go_wp2
  all_goals
    go_ret
    refine ⟨ret_bool ?_, hX.alloc _⟩
    rw [Bool.eq_iff_iff, may_iff, MayP]
    clear hX
    simp_all [toList_nil_iff_emptyBytes]
    try omega

theorem r08_endN (w : World) (A : Option Addr) (n cap : Nat) (l : List Ev) (txn : Int) (hE : Evs w A n l) :
    Calls Tryz.prog 62 #[.slice A n cap, .int .i64 txn, .int .i64 (n : Int)] w fun e w' => e = .returned (.int .i64 (endOf l txn)) ∧ w' = w := by
  have h := r08_end w A n cap l txn n hE (by omega) (by omega)
  rwa [Int.toNat_natCast, List.take_of_length_le (by rw [hE.len]; omega)] at h

end
end Go.Proofs.YtebjiimlcnmfpaaGreat

/-! Contract: the reference's well formed histories. -/
namespace Go.Proofs.YtebjiimlcnmfpaaGreat
section
open Go Go.RowKit Go.Proofs
set_option linter.unusedSimpArgs false
set_option linter.unusedVariables false
attribute [local go_sem] Ext.alloc Ext.alloc2 Ext.alloc3 Ext.alloc4 Ext.drewN_alloc Ext.drewN_alloc2 Ext.drew_alloc Ext.drew Ext.drewN toList_beq

set_option maxRecDepth 100000 in
set_option maxHeartbeats 4000000 in
theorem r08_formed (w : World) (A : Option Addr) (n cap : Nat) (l : List Ev) (hE : Evs w A n l) :
    Calls Tryz.prog 32 #[.slice A n cap] w fun e w' => e = .returned (.tuple #[.int .i64 (formed l).1, .int .i64 (formed l).2]) ∧ Ext w w' := by
  have hX := Ext.refl w
  have hbig := hE.big
  have hl := hid hE.len
  by_cases hn : 256 < n
  · have hfin : Hid (formed l = (0, 4)) := hid (by unfold formed; rw [if_pos (by rw [hE.len]; exact hn)])
    go_enter Tryz.func32, Tryz.ntmps32
    go_wp2
    go_ret2
    exact ⟨by rw [hfin.out]; rfl, hX⟩
  · have hn' : n ≤ 256 := by omega
    clear hn
    go_enter Tryz.func32, Tryz.ntmps32
    go_wp2
    go_loopw [4] (fun i W => Ext w W ∧ ∃ k : Nat, k ≤ n ∧ i = .int .i64 k ∧ Hid (FE (stepErr l) n k)) (fun i _ => n - (intOf i).toNat)
    case atStart => exact ⟨hX, 0, by omega, rfl, hid (FE.zero _ _)⟩
    case round =>
      obtain ⟨hW, k, hk1, rfl, hr⟩ := hrel
      obtain ⟨wo, rfl⟩ : ∃ wo : World, wo = wr := ⟨_, rfl⟩
      by_cases hlt : k < n
      · obtain ⟨b, o, rfl, h0, h1, h2, h3⟩ := hE.opn (by omega)
        have hE1 := fun (W : World) (x : Ext w W) => hE.ext x
        have HE1 := hid hE1
        clear hE1
        have hse : Hid (stepErr l k = stepErr l k) := hid rfl
        go_wp2_with (first
          | (go_at_call 60; refine (r06_may _ (nth l k)).mono ?_; rintro e w1 ⟨rfl, hx1⟩; have hX1 := Ext.trans (Ext.alloc hW _) hx1; have HB := hid ((Blk.new wo 50 #[.int .i64 (nth l k).kind, .int .i64 (nth l k).txn, .string (nth l k).key, .string (nth l k).val]).ext hx1); obtain ⟨y0, y1, y2, y3⟩ := HB.out.cells4)
          | (go_at_call 61; refine (r08_first _ _ _ _ _ _ _ (HE1.out _ (by assumption)) (by omega) (by omega)).mono ?_; rintro e w2 ⟨rfl, rfl⟩)
          | (go_at_call 62; refine (r08_end _ _ _ _ _ _ _ (HE1.out _ (by assumption)) (by omega) (by omega)).mono ?_; rintro e w2 ⟨rfl, rfl⟩)
          | (go_at_call 58; refine (r08_writer _ _ _ _ _ _ _ (HE1.out _ (by assumption))).mono ?_; rintro e w2 ⟨rfl, rfl⟩))
        all_goals first
          | (go_ret2
             refine ⟨formed_leaf hl.out hn' hr.out hlt (by decide) ?_, by assumption⟩
             clear h0 h1 h2 h3 HE1 hE hr hl hX
             simp_all [stepErr, toList_nil_iff_emptyBytes, le0_false, lt0_false]
             done)
          | (go_roundw
             case rel =>
               refine ⟨by assumption, k + 1, by omega, by go_num, hid (hr.out.step hlt ?_)⟩
               clear h0 h1 h2 h3 HE1 hE hr hl hX
               simp_all [stepErr, toList_nil_iff_emptyBytes, le0_false, lt0_false]
               done
             case measure => simp [intOf]; omega)
          | skip
        go_loopw [8] (fun i W => Ext w W ∧ Blk W wo.heap.size 50 #[.int .i64 (nth l k).kind, .int .i64 (nth l k).txn, .string (nth l k).key, .string (nth l k).val] ∧ ∃ j : Nat, j ≤ k ∧ i = .int .i64 j ∧ Hid (((l.take k).drop j).any (twice (nth l k)) = (l.take k).any (twice (nth l k)))) (fun i _ => k - (intOf i).toNat)
        case atStart => exact ⟨by assumption, HB.out, 0, by omega, rfl, hid rfl⟩
        case round =>
          obtain ⟨hW2, hB2, j, hj1, rfl, hr2⟩ := hrel
          clear y0 y1 y2 y3
          obtain ⟨y0, y1, y2, y3⟩ := hB2.cells4
          by_cases hjk : j < k
          · have hs := hid (drop_step (l.take k) Ev.z (k := j) (by rw [List.length_take, hl.out]; omega))
            have hg : Hid ((l.take k).getD j Ev.z = nth l j) := hid (by simp [nth, List.getD_eq_getElem?_getD, List.getElem?_take, hjk])
            have hjn : j < n := by omega
            by_cases hq : (nth l j).kind = 3
            · have hq' : ((nth l j).kind == 3) = true := beq_iff_eq.2 hq
              have HQ := hid hq
              clear hq
              go_wp2
              go_quiet (fail)
              go_wp2
              · have hv : (nth l j).val = (nth l k).val := by assumption
                have hany : (l.take k).any (twice (nth l k)) = true := by
                  rw [← hr2.out, hs.out, List.any_cons, hg.out]; simp [twice, HQ.out, hv]
                go_ret2
                refine ⟨formed_leaf hl.out hn' hr.out hlt (by decide) ?_, hW2.drewN _⟩
                clear h0 h1 h2 h3 HE1 hE hr hl hX
                simp_all [stepErr, toList_nil_iff_emptyBytes, le0_false, lt0_false]
              · have hv : ¬ (nth l j).val = (nth l k).val := by assumption
                go_roundw
                case rel => exact ⟨hW2.drewN _, hB2.drewN _, j + 1, by omega, by go_num, hid (by rw [← hr2.out, hs.out, List.any_cons, hg.out]; simp [twice, hv])⟩
                case measure => simp [intOf]; omega
            · have hq' : ((nth l j).kind == 3) = false := beq_eq_false_iff_ne.2 hq
              have HQ := hid hq
              clear hq
              go_wp2
              go_quiet (fail)
              go_wp2
              go_roundw
              case rel => exact ⟨hW2.drewN _, hB2.drewN _, j + 1, by omega, by go_num, hid (by rw [← hr2.out, hs.out, List.any_cons, hg.out]; simp [twice, HQ.out])⟩
              case measure => simp [intOf]; omega
          · have hany : (l.take k).any (twice (nth l k)) = false := by
              rw [← hr2.out, drop_end _ (by rw [List.length_take, hl.out]; omega)]; rfl
            have HA := hid hany
            clear hany
            have hk3 : (nth l k).kind = 3 := by
              have h : ((nth l k).kind == 3) = true := by assumption
              exact beq_iff_eq.1 h
            have hk2 : ((nth l k).kind == 2) = false := by rw [hk3]; rfl
            have HK := hid hk3
            clear hk3
            go_wp2
            go_roundw
            case rel =>
              refine ⟨hW2, k + 1, by omega, by go_num, hid (hr.out.step hlt ?_)⟩
              have hany := HA.out
              have hk3 := HK.out
              clear h0 h1 h2 h3 HE1 hE hr hl hX HA HK
              simp_all [stepErr, toList_nil_iff_emptyBytes, le0_false, lt0_false]
            case measure => simp [intOf]; omega
      · have hst := hid (hr.out.end (by omega))
        clear hr
        go_wp2
        go_loopw [9] (fun i W => Ext w W ∧ ∃ j : Nat, j ≤ n ∧ i = .int .i64 j ∧ Hid (FE (openErr l) n j)) (fun i _ => n - (intOf i).toNat)
        case atStart => exact ⟨hW, 0, by omega, rfl, hid (FE.zero _ _)⟩
        case round =>
          obtain ⟨hW2, j, hj1, rfl, hr2⟩ := hrel
          by_cases hjn : j < n
          · obtain ⟨b, o, rfl, h0, h1, h2, h3⟩ := hE.opn (by omega)
            have hE1 := fun (W : World) (x : Ext w W) => hE.ext x
            have HE1 := hid hE1
            clear hE1
            go_wp2_with (go_at_call 62; refine (r08_endN _ _ _ _ _ _ (HE1.out _ (by assumption))).mono ?_; rintro e w2 ⟨rfl, rfl⟩)
            · go_ret2
              have he : endOf l (nth l j).txn < 0 := by assumption
              exact ⟨formed_leaf2 hl.out hn' hst.out hr2.out hjn (by decide) (by simp [openErr, he]), hW2⟩
            · go_roundw
              have he : 0 ≤ endOf l (nth l j).txn := by assumption
              case rel => exact ⟨hW2, j + 1, by omega, by go_num, hid (hr2.out.step hjn (by simp [openErr, lt0_false he]))⟩
              case measure => simp [intOf]; omega
          · go_wp2
            go_ret2
            exact ⟨formed_leaf3 hl.out hn' hst.out hr2.out (by omega), hW2⟩

end
end Go.Proofs.YtebjiimlcnmfpaaGreat

/-! A key's versions, on lists. -/
namespace Go.Proofs.YtebjiimlcnmfpaaGreat
section
open Go

/-- What is written of a key, last, by the transaction that is committed at place i. -/
def verAt (h : List Ev) (key : ByteArray) (i : Nat) : Option Int :=
  if (nth h i).kind = 4 ∧ endOf h (nth h i).txn = i ∧ 0 ≤ lastOf h (nth h i).txn key i then some (lastOf h (nth h i).txn key i) else none
def versions (h : List Ev) (key : ByteArray) : List Int := (List.range h.length).filterMap (verAt h key)
end
end Go.Proofs.YtebjiimlcnmfpaaGreat

/-! A key's versions: what the program makes of the lives that it has sorted. -/
namespace Go.Proofs.YtebjiimlcnmfpaaGreat
section
open Go

theorem keeps_le (p : Life → Bool) (l : List Life) : (keeps p l).length ≤ l.length := by unfold keeps; exact List.length_filter_le _ _
theorem lifeOf_till (h : List Ev) (k : Nat) : 0 ≤ (lifeOf h k).till ∧ (lifeOf h k).till ≤ h.length := by
  unfold lifeOf
  split
  · rename_i p hp
    have hm := List.mem_of_find?_eq_some hp
    unfold ofs at hm
    have h1 := (List.mem_filter.1 hm).1
    have h2 := List.snd_lt_of_mem_zipIdx h1
    simp
    omega
  · simp
theorem mem_livesFrom (h : List Ev) : ∀ (m i : Nat) (x : Life), x ∈ livesFrom h m i ↔ ∃ j, i ≤ j ∧ j < i + m ∧ firstOf (h.take j) (nth h j).txn < 0 ∧ x = lifeOf h j
  | 0, i, x => by simp [livesFrom]; omega
  | m + 1, i, x => by
    unfold livesFrom
    have ih := mem_livesFrom h m (i + 1) x
    constructor
    · intro hx
      split at hx
      · rcases List.mem_cons.1 hx with rfl | hx
        · exact ⟨i, by omega, by omega, by assumption, rfl⟩
        · obtain ⟨j, h1, h2, h3⟩ := ih.1 hx; exact ⟨j, by omega, by omega, h3⟩
      · obtain ⟨j, h1, h2, h3⟩ := ih.1 hx; exact ⟨j, by omega, by omega, h3⟩
    · rintro ⟨j, h1, h2, h3, rfl⟩
      by_cases e : j = i
      · subst e; rw [if_pos h3]; exact List.mem_cons_self
      · have := ih.2 ⟨j, by omega, by omega, h3, rfl⟩
        split
        · exact List.mem_cons_of_mem _ this
        · exact this
theorem till_keeps {p : Life → Bool} {l : List Ev} (hl : l.length ≤ 1000) : ∀ x ∈ keeps p (lives l), 0 ≤ x.till ∧ x.till ≤ 140737488355328 := by
  intro x hx
  unfold keeps at hx
  have h1 := (List.mem_filter.1 hx).1
  obtain ⟨j, _, _, _, rfl⟩ := (mem_livesFrom l _ _ x).1 h1
  have := lifeOf_till l j
  omega

/-- What is written of a key, last, by one of some lives. -/
def verOf (l : List Ev) (key : ByteArray) (x : Life) : Option Int := if 0 ≤ lastOf l x.txn key x.till then some (lastOf l x.txn key x.till) else none
end
end Go.Proofs.YtebjiimlcnmfpaaGreat

/-! A key's versions: the lives, sorted by their ends, are those that are committed place by place. -/
namespace Go.Proofs.YtebjiimlcnmfpaaGreat
section
open Go

/-- Places at which a transaction is committed. -/
def comAt (l : List Ev) (i : Nat) : Bool := (nth l i).kind == 4 && endOf l (nth l i).txn == (i : Int)
def coms (l : List Ev) : List Nat := (List.range l.length).filter (comAt l)
def lifeAt (l : List Ev) (i : Nat) : Life := (findL l (nth l i).txn).1

theorem endOf_place {l : List Ev} {t : Int} (h : 0 ≤ endOf l t) : ∃ e : Nat, endOf l t = e ∧ e < l.length ∧ (nth l e).txn = t ∧ ends (nth l e) = true := by
  rcases idx_nth (endsOf t) l with ⟨h1, _⟩ | ⟨e, he, he1, he2, _⟩
  · rw [endOf, h1] at h; omega
  · have : (nth l e).txn = t ∧ ends (nth l e) = true := by simpa [endsOf] using he2
    exact ⟨e, he1, he, this.1, this.2⟩
theorem mem_coms {l : List Ev} {i : Nat} (h : i ∈ coms l) : i < l.length ∧ (nth l i).kind = 4 ∧ endOf l (nth l i).txn = i := by
  unfold coms comAt at h
  have := List.mem_filter.1 h
  simp at this
  exact ⟨this.1, this.2.1, this.2.2⟩
theorem lifeAt_eq {l : List Ev} {i : Nat} (h : i ∈ coms l) : (lifeAt l i).txn = (nth l i).txn ∧ (lifeAt l i).till = i ∧ (lifeAt l i).com = true := by
  obtain ⟨h1, h2, h3⟩ := mem_coms h
  obtain ⟨_, a1, a2, a3⟩ := findL_of h1
  refine ⟨a1, ?_, ?_⟩
  · rw [lifeAt, a3, h3, if_neg (by omega)]
  · rw [lifeAt, a2]
    unfold comOf
    rw [h3]; simp [h2]

theorem lives_first {l : List Ev} {j : Nat} (hj : j < l.length) (h : firstOf (l.take j) (nth l j).txn < 0) : firstOf l (nth l j).txn = j := by
  rcases idx_nth (isOf (nth l j).txn) l with ⟨_, h2⟩ | ⟨f, hf, hf1, hf2, hf3⟩
  · have := h2 j hj; simp [isOf] at this
  · have hfj : f ≤ j := by
      rcases Nat.lt_or_ge j f with hlt | hge
      · have := hf3 j hlt; simp [isOf] at this
      · exact hge
    rcases Nat.lt_or_ge f j with hlt | hge
    · rcases idx_nth (isOf (nth l j).txn) (l.take j) with ⟨_, h2⟩ | ⟨q, _, hq, _⟩
      · have := h2 f (by simp; omega)
        rw [nth_take hlt, hf2] at this; cases this
      · rw [firstOf, hq] at h; omega
    · rw [firstOf, hf1]; omega
theorem first_none {l : List Ev} {t : Int} {f : Nat} (h : firstOf l t = f) : firstOf (l.take f) t < 0 := by
  rcases idx_nth (isOf t) l with ⟨h1, _⟩ | ⟨f', hf, hf1, hf2, hf3⟩
  · rw [firstOf, h1] at h; omega
  · obtain rfl : f' = f := by rw [firstOf, hf1] at h; omega
    rcases idx_nth (isOf t) (l.take f') with ⟨hq, _⟩ | ⟨q, hq0, hq, hq2, _⟩
    · rw [firstOf, hq]; omega
    · have hqf : q < f' := by simp at hq0; omega
      rw [nth_take hqf, hf3 q hqf] at hq2; cases hq2
/-- A life of a history is the one that Find tells. -/
theorem mem_lives {l : List Ev} {x : Life} (h : x ∈ lives l) : ∃ j, j < l.length ∧ firstOf l (nth l j).txn = j ∧ findL l (nth l j).txn = (x, true) ∧ x.from_ = j := by
  obtain ⟨j, _, h2, h3, rfl⟩ := (mem_livesFrom l _ _ x).1 h
  have hj : j < l.length := by omega
  have h4 := lives_first hj h3
  refine ⟨j, hj, h4, lifeOf_find l _ h4, ?_⟩
  unfold lifeOf
  split <;> rfl
theorem lives_mem {l : List Ev} {t : Int} {f : Nat} (h : firstOf l t = f) : (findL l t).1 ∈ lives l := by
  have h1 := firstOf_spec l t h
  refine (mem_livesFrom l _ _ _).2 ⟨f, by omega, by omega, ?_, ?_⟩
  · rw [h1.2]; exact first_none h
  · rw [lifeOf_find l t h]

theorem livesFrom_nodup (l : List Ev) : ∀ m i, (livesFrom l m i).Pairwise (fun a b => a.from_ < b.from_) ∧ ∀ x ∈ livesFrom l m i, (i : Int) ≤ x.from_
  | 0, _ => ⟨List.Pairwise.nil, fun x hx => by cases hx⟩
  | m + 1, i => by
    obtain ⟨h1, h2⟩ := livesFrom_nodup l m (i + 1)
    have h3 : (lifeOf l i).from_ = i := by unfold lifeOf; split <;> rfl
    unfold livesFrom
    split
    · refine ⟨List.Pairwise.cons (fun y hy => by have := h2 y hy; omega) h1, fun x hx => ?_⟩
      rcases List.mem_cons.1 hx with rfl | hx
      · omega
      · have := h2 x hx; omega
    · exact ⟨h1, fun x hx => by have := h2 x hx; omega⟩
theorem lives_nodup (l : List Ev) : (lives l).Nodup := (livesFrom_nodup l _ _).1.imp (fun h e => by rw [e] at h; omega)
theorem coms_sorted (l : List Ev) : (coms l).Pairwise (· < ·) := (List.pairwise_lt_range).filter _
theorem lifeAts_till (l : List Ev) : ((coms l).map (lifeAt l)).Pairwise (fun a b => a.till < b.till) := by
  rw [List.pairwise_map]
  refine (coms_sorted l).imp_of_mem fun {a b} ha hb h => ?_
  rw [(lifeAt_eq ha).2.1, (lifeAt_eq hb).2.1]
  omega
theorem coms_perm (l : List Ev) : (keeps (fun x => !x.com) (lives l)).Perm ((coms l).map (lifeAt l)) := by
  refine (List.perm_ext_iff_of_nodup ?_ ?_).2 fun x => ?_
  · exact (lives_nodup l).filter _
  · exact (lifeAts_till l).imp (fun h e => by rw [e] at h; omega)
  · constructor
    · intro hx
      have h1 := List.mem_filter.1 hx
      have hc : x.com = true := by simpa using h1.2
      obtain ⟨j, hj, h2, h3, _⟩ := mem_lives h1.1
      obtain ⟨_, a1, a2, a3⟩ := findL_of hj
      rw [h3] at a1 a2 a3
      simp only at a1 a2 a3
      rw [hc] at a2
      obtain ⟨b1, b2, b3⟩ := comOf_end a2.symm
      obtain ⟨e, c1, c2, c3, c4⟩ := endOf_place b1
      refine List.mem_map.2 ⟨e, ?_, ?_⟩
      · unfold coms comAt
        refine List.mem_filter.2 ⟨by simpa using c2, ?_⟩
        rw [c1] at b3
        rw [c3, c1]
        simpa using b3
      · unfold lifeAt
        rw [c3, h3]
    · intro hx
      obtain ⟨i, hi, rfl⟩ := List.mem_map.1 hx
      obtain ⟨h1, h2, h3⟩ := mem_coms hi
      have h4 := isOf_first h1
      refine List.mem_filter.2 ⟨?_, by simp [(lifeAt_eq hi).2.2]⟩
      exact lives_mem (f := (firstOf l (nth l i).txn).toNat) (by omega)
theorem fm_congr {α β : Type} {f g : α → Option β} : ∀ {l : List α}, (∀ x ∈ l, f x = g x) → l.filterMap f = l.filterMap g
  | [], _ => rfl
  | x :: r, h => by
    rw [List.filterMap_cons, List.filterMap_cons, h x List.mem_cons_self, fm_congr fun y hy => h y (List.mem_cons_of_mem _ hy)]
theorem vers_eq {l : List Ev} {n : Nat} {key : ByteArray} {ls : List Life} (hl : l.length = n) (hp : ls.Perm (keeps (fun x => !x.com) (lives l))) (hs : ls.Pairwise (fun a b => a.till ≤ b.till)) : ls.filterMap (verOf l key) = versions l key := by
  have hp2 := hp.trans (coms_perm l)
  have e : ls = (coms l).map (lifeAt l) := by
    refine List.Perm.eq_of_pairwise (le := fun a b : Life => a.till ≤ b.till) ?_ hs ((lifeAts_till l).imp (fun h => by omega)) hp2
    intro a b ha hb h1 h2
    have ha' := (hp2.mem_iff).1 ha
    obtain ⟨i, hi, rfl⟩ := List.mem_map.1 ha'
    obtain ⟨j, hj, rfl⟩ := List.mem_map.1 hb
    rw [(lifeAt_eq hi).2.1, (lifeAt_eq hj).2.1] at h1 h2
    obtain rfl : i = j := by omega
    rfl
  rw [e, List.filterMap_map]
  unfold versions coms
  rw [List.filterMap_filter]
  refine fm_congr fun i hi => ?_
  unfold verAt
  cases hc : comAt l i with
  | true =>
    have hi2 : i ∈ coms l := List.mem_filter.2 ⟨hi, hc⟩
    obtain ⟨h1, h2, h3⟩ := mem_coms hi2
    obtain ⟨a1, a2, _⟩ := lifeAt_eq hi2
    simp only [if_true, Function.comp_apply]
    unfold verOf
    rw [a1, a2]
    simp [h2, h3]
  | false =>
    unfold comAt at hc
    simp at hc
    rw [if_neg (by simp), if_neg (fun h => hc h.1 h.2.1)]
end
end Go.Proofs.YtebjiimlcnmfpaaGreat

/-! A row of one's own whose elements have several cells, ahead of slices.SortFunc and behind it. -/
namespace Go.Proofs.YtebjiimlcnmfpaaGreat
section
open Go Go.RowKit Go.Proofs Go.Shelf
set_option linter.unusedSimpArgs false
set_option linter.unusedVariables false

theorem flatK_list {α : Type} [Inhabited α] (enc : α → List Value) (k : Nat) (hk : ∀ x, (enc x).length = k) (l : List α) : (Go.Sort.flatK enc k l.toArray).toList = l.flatMap enc := by
  apply List.ext_getElem?
  intro t
  rw [Array.getElem?_toList]
  by_cases ht : t < l.length * k
  · have h0 : 0 < k := by
      rcases Nat.eq_zero_or_pos k with h0 | h0
      · subst h0; simp at ht
      · exact h0
    have hd : t / k < l.length := (Nat.div_lt_iff_lt_mul h0).2 ht
    have hm : t % k < k := Nat.mod_lt _ h0
    have h1 := flatMap_get k default enc hk l (t / k) (t % k) hd hm
    rw [Nat.div_add_mod' t k] at h1
    rw [h1]
    have h2 := Go.Sort.get_flatK enc k l.toArray t (by simpa using ht)
    have hs : t < (Go.Sort.flatK enc k l.toArray).size := by simpa [Go.Sort.flatK] using ht
    rw [getElem!_pos _ t hs] at h2
    rw [Array.getElem?_eq_getElem hs, h2]
    have e1 : (l.toArray)[t / k]! = l.getD (t / k) default := by simp [List.getD_eq_getElem?_getD, getElem!_pos, hd]
    rw [e1]
    have hm2 : t % k < (enc (l.getD (t / k) default)).length := by rw [hk]; exact hm
    rw [List.getElem?_eq_getElem hm2, getElem!_pos (enc (l.getD (t / k) default)) _ hm2]
  · rw [Array.getElem?_eq_none (by simp [Go.Sort.flatK]; omega), List.getElem?_eq_none (by rw [flatMap_len k enc hk]; omega)]

theorem holdsK_own {α : Type} [Inhabited α] {enc : α → List Value} {k : Nat} (hk : ∀ x, (enc x).length = k) {w : World} {g : Nat} {cur : Array Value} {e : TypeId} {l : List α} (hb : w.heap[g]? = some (.cells cur e (0, 0)))
    (ht : cur.toList.take (l.length * k) = l.flatMap enc) : Go.Sort.HoldsK enc k w g 0 l.toArray := by
  intro j hj
  have hj' : j < l.length * k := by simpa [Go.Sort.flatK] using hj
  refine ⟨?_, by simp [World.frozen?, hb]⟩
  have h1 : (cur.toList.take (l.length * k))[j]? = (Go.Sort.flatK enc k l.toArray).toList[j]? := by rw [ht, flatK_list enc k hk]
  rw [List.getElem?_take_of_lt hj'] at h1
  simp only [World.cell?, hb, Nat.zero_add]
  simp only [Option.isSome_none, Bool.false_eq_true, if_false]
  rw [← Array.getElem?_toList, h1, Array.getElem?_toList, Array.getElem?_eq_getElem hj, getElem!_pos (Go.Sort.flatK enc k l.toArray) j hj]
  rfl

theorem heap_sortedK {w : World} {g n : Nat} {os : Array Obj} {cur : Array Value} {e : TypeId} {fr : Nat × Nat} (F : Array Value) (hb : w.heap[g]? = some (.cells cur e fr)) :
    (Go.Sort.grow (Go.Sort.putRow id (Go.Sort.ahead w n) g 0 F) os).heap[g]? = some (.cells (Go.Sort.putCells id 0 F cur) e fr) := by
  have hg : g < w.heap.size := (Array.getElem?_eq_some_iff.1 hb).1
  rw [Go.Sort.heap_grow_old _ _ (by simpa using hg)]
  simp [Go.Sort.putRow, Go.Sort.mapBlock, Go.Sort.ahead, Array.getElem?_modify, hb, Go.Sort.onCells]
theorem grownBy_sortedK {w : World} {g n : Nat} {os : Array Obj} (F : Array Value) : w.grownBy (Go.Sort.grow (Go.Sort.putRow id (Go.Sort.ahead w n) g 0 F) os) (some g) := by
  refine ⟨rfl, rfl, rfl, by simp, fun k hk hne => ?_⟩
  rw [Go.Sort.heap_grow_old _ _ (by simpa using hk)]
  have : g ≠ k := fun e => hne (by rw [e])
  simp [Go.Sort.putRow, Go.Sort.mapBlock, Go.Sort.ahead, Array.getElem?_modify, this]
theorem take_putCellsK (cur F : Array Value) (h : F.size ≤ cur.size) : (Go.Sort.putCells id 0 F cur).toList.take F.size = F.toList := by
  apply List.ext_getElem?
  intro j
  by_cases hj : j < F.size
  · rw [List.getElem?_take_of_lt hj, Array.getElem?_toList, Array.getElem?_toList]
    simp [Go.Sort.putCells, hj, show j < cur.size by omega]
  · rw [List.getElem?_take_eq_none (by omega), List.getElem?_eq_none (by simp; omega)]
/-- Behind the sort the same slice owns the sorted list. -/
theorem ownsRow_sortedK {α : Type} [Inhabited α] {enc : α → List Value} {k : Nat} (hk : ∀ x, (enc x).length = k) {w : World} {base g cap n : Nat} {e : TypeId} {os : Array Obj} {cur : Array Value} {m : Nat} {ts : List α} (hl : ts.length = m) (hbase : base ≤ g) (hb : w.heap[g]? = some (.cells cur e (0, 0)))
    (h1 : m ≤ cap) (h2 : cap ≤ maxLen) (h3 : cur.size = cap * k) :
    (sortWorldK enc k w g 0 n ts.toArray os).ownsRow base e k (.slice (some ⟨g, 0, none⟩) m cap) m (ts.flatMap enc) := by
  have hF : (Go.Sort.flatK enc k ts.toArray).size = m * k := by simp [Go.Sort.flatK, hl]
  have hmc := Nat.mul_le_mul_right k h1
  refine ⟨by rw [flatMap_len k enc hk, hl], .inr ⟨g, cap, _, rfl, hbase, heap_sortedK _ hb, h1, h2, by simp [Go.Sort.putCells, h3], ?_⟩⟩
  have := take_putCellsK cur (Go.Sort.flatK enc k ts.toArray) (by omega)
  rw [hF, flatK_list enc k hk] at this
  exact this
end
end Go.Proofs.YtebjiimlcnmfpaaGreat

/-! slices.SortFunc over lives, by where they end. -/
namespace Go.Proofs.YtebjiimlcnmfpaaGreat
section
open Go Go.RowKit Go.Proofs Go.Shelf
set_option linter.unusedSimpArgs false
set_option linter.unusedVariables false

/-- Lives whose ends are places. -/
structure LifeQ where
  v : Life
  ok : 0 ≤ v.till ∧ v.till ≤ 140737488355328
instance : Inhabited LifeQ := ⟨⟨Life.z, by decide, by decide⟩⟩
def LifeQ.cs (x : LifeQ) : List Value := x.v.cs
def byTill (x y : LifeQ) : Int := x.v.till - y.v.till

set_option maxHeartbeats 1000000 in
theorem h_byTill (x y : LifeQ) (W : World) : Calls Tryz.prog 122 #[.agg x.cs.toArray, .agg y.cs.toArray] W fun e w' => e = .returned (.int .i64 (byTill x y)) ∧ ∃ q os', w' = Go.Sort.grow (W.drewN q) os' := by
  obtain ⟨⟨a0, a1, a2, a3⟩, hx⟩ := x
  obtain ⟨⟨b0, b1, b2, b3⟩, hy⟩ := y
  obtain ⟨hx1, hx2⟩ := hx
  obtain ⟨hy1, hy2⟩ := hy
  simp only at hx1 hx2 hy1 hy2
  show Calls Tryz.prog 122 #[.agg #[.int .i64 a0, .int .i64 a1, .int .i64 a2, .bool a3], .agg #[.int .i64 b0, .int .i64 b1, .int .i64 b2, .bool b3]] W fun e w' => e = .returned (.int .i64 (a2 - b2)) ∧ ∃ q os', w' = Go.Sort.grow (W.drewN q) os'
  go_enter Tryz.func122, Tryz.ntmps122
  go_wp2
  go_ret
  exact ⟨rfl, 0, _, by rw [Go.Sort.alloc_eq_grow, Go.Sort.alloc_eq_grow, Go.Sort.grow_grow]; rfl⟩

theorem lt_till (x y : LifeQ) : ltOf byTill x y = decide (x.v.till < y.v.till) := by
  unfold ltOf byTill
  exact decide_eq_decide.2 (by omega)
theorem swo_till : Go.Sort.SWO (ltOf byTill) where
  irrefl x := by rw [lt_till]; exact decide_eq_false (by omega)
  trans x y z h1 h2 := by
    rw [lt_till] at *
    have a1 := of_decide_eq_true h1
    have a2 := of_decide_eq_true h2
    exact decide_eq_true (by omega)
  ntrans x y z h1 h2 := by
    rw [lt_till] at *
    have a1 := of_decide_eq_false h1
    have a2 := of_decide_eq_false h2
    exact decide_eq_false (by omega)
theorem lifeQs : ∀ (l : List Life), (∀ x ∈ l, 0 ≤ x.till ∧ x.till ≤ 140737488355328) → ∃ d : List LifeQ, d.map LifeQ.v = l
  | [], _ => ⟨[], rfl⟩
  | x :: r, h => by
    obtain ⟨d, hd⟩ := lifeQs r fun y hy => h y (List.mem_cons_of_mem _ hy)
    exact ⟨⟨x, h x List.mem_cons_self⟩ :: d, by rw [List.map_cons, hd]⟩

theorem sortLifes (w : World) (B : Nat) (v : Value) (l : List Life) (hq : ∀ x ∈ l, 0 ≤ x.till ∧ x.till ≤ 140737488355328) (hB : B ≤ w.heap.size) (hn : l.length ≤ 1000) (hown : w.ownsRow B 52 4 v l.length (l.flatMap Life.cs)) :
    Calls Tryz.prog 121 #[v, .func (.func 122) #[] #[]] w fun e w' => e = .returned (.tuple #[]) ∧ ∃ l' : List Life, l'.Perm l ∧ l'.Pairwise (fun a b => a.till ≤ b.till) ∧ w'.ownsRow B 52 4 v l'.length (l'.flatMap Life.cs) ∧ Below B w w' := by
  obtain ⟨h1, ⟨rfl, h3⟩ | ⟨g, cap, cur, rfl, h3, h4, h5, h6, h7, h8⟩⟩ := hown
  · obtain rfl : l = [] := List.length_eq_zero_iff.1 h3
    refine (AnyF.slices_SortFunc_none sortLife none 0 (.func (.func 122) #[] #[]) w).mono ?_
    rintro e w' ⟨rfl, hw⟩
    rw [hw]
    exact ⟨rfl, [], List.Perm.refl _, List.Pairwise.nil, World.ownsRow_nil _ _ _ _, Below.refl _ _⟩
  · obtain ⟨d, hd1⟩ := lifeQs l hq
    have hdl : d.length = l.length := by rw [← hd1, List.length_map]
    have hdf : d.flatMap LifeQ.cs = l.flatMap Life.cs := by
      conv => rhs; rw [← hd1]
      rw [List.flatMap_map]; rfl
    have hH : Go.Sort.HoldsK LifeQ.cs 4 w g 0 d.toArray := holdsK_own (enc := LifeQ.cs) (k := 4) (fun _ => rfl) h4 (by rw [hdl, hdf]; exact h8)
    have hcon := AnyQ.slices_SortFunc sortLife 4 Tryz.isAgg52 Tryz.sizeOf52 LifeQ.cs (fun _ => rfl) (fun x v hv => by simp [LifeQ.cs, Life.cs] at hv; rcases hv with rfl | rfl | rfl | rfl <;> rfl) byTill swo_till 122 #[] g 0 cap d.toArray w
      (enters_of Tryz.func122 (by kernel_rfl) rfl) (fun _ _ _ _ x y => h_byTill x y _) hH (Array.getElem?_eq_some_iff.1 h4).1 (by simp; omega)
    have e1 : d.toArray.size = l.length := by simp [hdl]
    rw [e1] at hcon
    refine hcon.mono ?_
    rintro e w' ⟨rfl, d', n, os, ⟨p1, _, p3⟩, hs, rfl⟩
    have e2 : d'.size = l.length := by rw [p1, e1]
    have e3 : (d'.extract 0 l.length).toList = d'.toList := by rw [← e2]; simp
    have e4 : (d.toArray.extract 0 l.length).toList = d := by rw [← e1]; simp
    rw [e3, e4] at p3
    refine ⟨rfl, d'.toList.map LifeQ.v, ?_, ?_, ?_, ?_⟩
    · rw [← hd1]; exact p3.map _
    · rw [List.pairwise_map, List.pairwise_iff_getElem]
      intro i j hi hj hij
      have hi' : i < d'.size := by simpa using hi
      have hj' : j < d'.size := by simpa using hj
      have := hs i j (Nat.zero_le _) hij (by omega)
      rw [getElem!_pos d' i hi', getElem!_pos d' j hj'] at this
      rw [lt_till] at this
      have := of_decide_eq_false this
      simp only [Array.getElem_toList]
      omega
    · have e5 : (d'.toList.map LifeQ.v).flatMap Life.cs = d'.toList.flatMap LifeQ.cs := by rw [List.flatMap_map]; rfl
      have e6 : (d'.toList.map LifeQ.v).length = l.length := by simp [e2]
      rw [e5, e6]
      have := ownsRow_sortedK (enc := LifeQ.cs) (k := 4) (fun _ => rfl) (n := n) (os := os) (m := l.length) (ts := d'.toList) (by simp [e2]) h3 h4 h5 h6 h7
      exact this
    · have hg := grownBy_sortedK (w := w) (g := g) (n := n) (os := os) (Go.Sort.flatK LifeQ.cs 4 d')
      exact Below.grown (Below.refl _ _) hg hB (fun k hk => by cases hk; exact h3)
end
end Go.Proofs.YtebjiimlcnmfpaaGreat

/-! The program's history.Versions. -/
namespace Go.Proofs.YtebjiimlcnmfpaaGreat
section
open Go Go.RowKit Go.Proofs
set_option linter.unusedSimpArgs false
set_option linter.unusedVariables false
attribute [local go_sem] Ext.alloc Ext.alloc2 Ext.alloc3 Ext.alloc4 Ext.drewN_alloc Ext.drewN_alloc2 Ext.drew_alloc Ext.drew Ext.drewN toList_beq
attribute [-go_sem] Builtin.append_

set_option maxHeartbeats 400000 in
theorem h_gone (W : World) (x : Life) : Calls Tryz.prog 120 (#[.agg #[.int .i64 x.txn, .int .i64 x.from_, .int .i64 x.till, .bool x.com]] ++ #[]) W fun e w' => e = .returned (.bool (!x.com)) ∧ Ext W w' := by
  show Calls Tryz.prog 120 #[.agg #[.int .i64 x.txn, .int .i64 x.from_, .int .i64 x.till, .bool x.com]] W _
  have hX := Ext.refl W
  go_enter Tryz.func120, Tryz.ntmps120
  go_wp2
  go_ret
  exact ⟨rfl, (by repeat (first | assumption | apply Ext.alloc | apply Ext.drewN | apply Ext.drew | (refine Ext.setCell (by simp <;> omega) ?_ _)))⟩

theorem infoInt : (Tryz.prog.info? 3).map (fun i => (i.zero, i.size, i.bytes)) = some (some (.int .i64 0), 1, 8) := by kernel_rfl
theorem own_base {w : World} {base base' : Nat} {e : TypeId} {size n : Nat} {v : Value} {xs : List Value} (h : w.ownsRow base e size v n xs) (hb : base' ≤ base) : w.ownsRow base' e size v n xs := by
  obtain ⟨h1, h2 | ⟨g, cap, cur, h3, h4, h5⟩⟩ := h
  · exact ⟨h1, .inl h2⟩
  · exact ⟨h1, .inr ⟨g, cap, cur, h3, Nat.le_trans hb h4, h5⟩⟩
theorem lives_row {l : List Ev} {n : Nat} {W : World} {B : Nat} {v : Value} {ls : List Life} (hl : l.length = n) (hn : n ≤ 1000) (hp : ls.Perm (keeps (fun x => !x.com) (lives l))) (h : W.ownsRow B 52 4 v ls.length (ls.flatMap Life.cs)) :
    ls.length ≤ 1000 ∧ ∃ A c, v = .slice A ls.length c ∧ Hid (Lifes W A ls.length ls) := by
  have h1 := hp.length_eq
  have h2 := keeps_le (fun x => !x.com) (lives l)
  have h3 := lives_len l
  obtain ⟨A', c', e', hs'⟩ := sl_of_own (l := ls) (c := Life.cs) (z := Life.z) (hc := fun _ => rfl) h (by omega)
  exact ⟨by omega, A', c', e', hs'⟩
def intC (x : Int) : List Value := [.int .i64 x]

set_option maxRecDepth 100000 in
set_option maxHeartbeats 2000000 in
theorem h_versions (w : World) (A : Option Addr) (n cap : Nat) (l : List Ev) (key : ByteArray) (hE : Evs w A n l) (hn : n ≤ 1000) (hc : n ≤ cap) :
    Calls Tryz.prog 87 #[.slice A n cap, .string key] w fun e w' => ∃ v, e = .returned v ∧ w'.ownsRow w.heap.size 3 1 v (versions l key).length ((versions l key).flatMap intC) ∧ Ext w w' := by
  have hX := Ext.refl w
  have hbig := hE.big
  have hl := hid hE.len
  have HE := hid hE
  obtain ⟨i0, hi, hz0, hz1, hz2⟩ := info_parts infoInt
  clear hE
  go_enter Tryz.func87, Tryz.ntmps87
  go_wp2_with (first
    | (go_at_call 52; refine (h_lives_own _ _ _ _ l HE.out hn hc).mono ?_; rintro e w1 ⟨v1, rfl, hown1, hx1⟩)
    | (go_at_call 119; refine (delLife 120 #[] (fun x => !x.com) _ w.heap.size _ (lives l) (by have := lives_len l; have := hl.out; omega) hx1.le hown1 (enters_of Tryz.func120 (by kernel_rfl) rfl) (fun W x => h_gone W x)).mono ?_; rintro e w2 ⟨v2, rfl, hown2, hb2⟩; have hx2 : Ext w w2 := Below.trans hx1 hb2)
    | (go_at_call 121; refine (sortLifes _ w.heap.size _ (keeps (fun x => !x.com) (lives l)) (till_keeps (by have := hl.out; omega)) hx2.le (by have := keeps_le (fun x => !x.com) (lives l); have := lives_len l; have := hl.out; omega) hown2).mono ?_; rintro e w3 ⟨rfl, ls, hperm, hsort, hown3, hb3⟩; have hx3 : Ext w w3 := Below.trans hx2 hb3; have HP := hid hperm; have HS := hid hsort; clear hperm hsort; obtain ⟨hln, A', c', e', HL⟩ := lives_row hl.out hn HP.out hown3; subst e'))
  have HQ : Hid (∀ x ∈ ls, 0 ≤ x.till ∧ x.till ≤ 140737488355328) := hid fun x hx => till_keeps (by have := hl.out; omega) x (HP.out.mem_iff.1 hx)
  clear hown1 hown2 hown3 hx1 hx2 hb2 hb3
  go_loopw [6, 17] (fun out i W => Ext w3 W ∧ ∃ (k : Nat) (pre : List Int), k ≤ ls.length ∧ i = .int .i64 k ∧ W.ownsRow w3.heap.size 3 1 out pre.length (pre.flatMap intC) ∧ pre.length ≤ k ∧ Hid (pre = (ls.take k).filterMap (verOf l key))) (fun _ i _ => ls.length - (intOf i).toNat)
  case atStart => exact ⟨Ext.refl _, 0, [], by omega, rfl, World.ownsRow_nil _ _ _ _, by simp, hid (by simp)⟩
  case round =>
    obtain ⟨hW, k, pre, hk1, rfl, hown, hpl, hr⟩ := hrel
    by_cases hlt : k < ls.length
    · obtain ⟨b, o, rfl, h0, h1, h2, h3⟩ := HL.out.opn (by omega)
      have hst : Hid ((ls.take (k + 1)).filterMap (verOf l key) = (ls.take k).filterMap (verOf l key) ++ (verOf l key (lnth ls k)).toList) := hid (by
        rw [List.take_succ_eq_append_getElem hlt, List.filterMap_append]
        congr 1
        rw [show ls[k] = lnth ls k by simp [lnth, List.getD_eq_getElem?_getD, hlt]]
        cases h : verOf l key (lnth ls k) <;> simp [h])
      have hw3 : Ext w wr := hx3.trans hW
      by_cases hz : 0 ≤ lastOf l (lnth ls k).txn key (lnth ls k).till
      · have hv : Hid (verOf l key (lnth ls k) = some (lastOf l (lnth ls k).txn key (lnth ls k).till)) := hid (by unfold verOf; rw [if_pos hz])
        go_wp2_with (go_at_call 123; refine (h_last _ _ _ _ l _ _ _ (HE.out.ext (hw3.alloc _))).mono ?_; rintro e w4 ⟨rfl, hx4⟩; have hX4 := (hW.alloc (.cells #[.int .i64 (lnth ls k).txn, .int .i64 (lnth ls k).from_, .int .i64 (lnth ls k).till, .bool (lnth ls k).com] 52)).trans hx4; have hown4 := own_ext (hown.alloc (.cells #[.int .i64 (lnth ls k).txn, .int .i64 (lnth ls k).from_, .int .i64 (lnth ls k).till, .bool (lnth ls k).com] 52)) (by have := hW.le; simp; omega) hx4)
        obtain ⟨v', w5, hrun, hown5, hgrow, _⟩ := run_append_own (P := Tryz.prog) _ w3.heap.size 31 31 3 i0 (.int .i64 0) 1 8 Tryz.underlying31 hi hz0 hz1 hz2 rfl (by decide) _ _ _ (hown4.alloc (.cells #[.int .i64 (lastOf l (lnth ls k).txn key (lnth ls k).till)] 3)) ⟨w4.heap.size, 0, none⟩ 1 1 [.int .i64 (lastOf l (lnth ls k).txn key (lnth ls k).till)] rfl (new_cells rfl) (by intro u hu; simp at hu; subst hu; rfl) (by unfold maxLen; omega) (by omega) (by have := hX4.le; simp; omega)
        rw [hrun]
        have e1 : pre.flatMap intC ++ [.int .i64 (lastOf l (lnth ls k).txn key (lnth ls k).till)] = (pre ++ [lastOf l (lnth ls k).txn key (lnth ls k).till]).flatMap intC := by simp [intC]
        have e2 : pre.length + 1 = (pre ++ [lastOf l (lnth ls k).txn key (lnth ls k).till]).length := by simp
        rw [e1, e2] at hown5
        have hW5 : Ext w3 w5 := Ext.grown (Ext.alloc hX4 _) hgrow (own_block hown4)
        clear e1 e2
        go_wp2
        go_roundw
        case rel =>
          refine ⟨hW5, k + 1, pre ++ [lastOf l (lnth ls k).txn key (lnth ls k).till], by omega, by go_num, hown5, by simp; omega, hid ?_⟩
          rw [hst.out, hv.out, hr.out]; rfl
        case measure => simp [intOf]; omega
      · have hv : Hid (verOf l key (lnth ls k) = none) := hid (by unfold verOf; rw [if_neg hz])
        go_wp2_with (go_at_call 123; refine (h_last _ _ _ _ l _ _ _ (HE.out.ext (hw3.alloc _))).mono ?_; rintro e w4 ⟨rfl, hx4⟩; have hX4 := (hW.alloc (.cells #[.int .i64 (lnth ls k).txn, .int .i64 (lnth ls k).from_, .int .i64 (lnth ls k).till, .bool (lnth ls k).com] 52)).trans hx4; have hown4 := own_ext (hown.alloc (.cells #[.int .i64 (lnth ls k).txn, .int .i64 (lnth ls k).from_, .int .i64 (lnth ls k).till, .bool (lnth ls k).com] 52)) (by have := hW.le; simp; omega) hx4)
        go_roundw
        case rel =>
          refine ⟨hX4, k + 1, pre, by omega, by go_num, hown4, by omega, hid ?_⟩
          rw [hst.out, hv.out, hr.out]; simp
        case measure => simp [intOf]; omega
    · go_wp2
      have hb : pre = ls.filterMap (verOf l key) := by rw [hr.out, List.take_of_length_le (by omega)]
      have hb2 : pre = versions l key := by rw [hb]; exact vers_eq hl.out HP.out HS.out
      subst hb2
      go_ret
      exact ⟨_, rfl, own_base hown hx3.le, hx3.trans hW⟩
end
end Go.Proofs.YtebjiimlcnmfpaaGreat
