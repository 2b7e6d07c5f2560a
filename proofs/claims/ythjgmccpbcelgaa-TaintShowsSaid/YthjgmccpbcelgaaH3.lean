/-
  Contracts of the program's functions of chapter 8: a transaction's life, and who wrote a value.
-/
import Derived.Test.YthjgmccpbcelgaaProg
import Derived.Test.YthjgmccpbcelgaaOf
import Derived.Test.YthjgmccpbcelgaaH1
import Derived.Test.YthjgmccpbcelgaaIdx
import Derived.Test.YthjgmccpbcelgaaPl1
namespace Go.Proofs.Ythjgmccpbcelgaa
open Go Go.RowKit Go.Proofs Go.Shelf
set_option linter.unusedSimpArgs false
set_option linter.unusedVariables false
attribute [local go_sem] Ext.alloc Ext.drew Ext.drewN Oper.semAt_some toList_beq

set_option maxHeartbeats 1000000 in
theorem h_life_in (w : World) (A : Option Addr) (n cap k : Nat) (l : List Ev) (hE : Evs w A n l) (hk : k < n) :
    CallsIn Fence.wide 6 Try.prog 107 #[.slice A n cap, .int .i64 k] w fun e w' => e = .returned (.agg #[.int .i64 (lifeOf l k).txn, .int .i64 (lifeOf l k).from_, .int .i64 (lifeOf l k).till, .bool (lifeOf l k).com]) ∧ Ext w w' := by
  obtain ⟨b, o, rfl, h0, h1, h2, h3⟩ := hE.opn (by omega)
  have hl := hid hE.len
  have hbig := hE.big
  have hX0 := Ext.refl w
  refine callsIn_of_wp_marks Try.func107 rfl trivial ?_ rfl
  simp only [Try.ntmps107, List.size_toArray, List.length_cons, List.length_nil, Nat.reduceAdd, Nat.reduceSub, Array.replicate_succ, Array.replicate_zero, List.push_toArray, List.append_toArray, List.nil_append, List.cons_append]
  gi_wp2
  refine wpIn_scope_straight ?_
  gi_wp2
  refine wpIn_label ?_
  gi_wp2_with (refine ⟨trivial, ?_⟩; gi_at_call 105; refine (h_of _ _ _ _ _).mono ?_; rintro e w' ⟨rfl, rfl⟩)
  have hX := (((((Ext.refl w).alloc (.cells #[.int .i64 0, .int .i64 0, .int .i64 0, .bool false] 33)).alloc (.cells #[.int .i64 (nth l k).txn, .int .i64 k, .int .i64 n, .bool false] 33)).alloc (.cells #[.slice (some ⟨b, o, none⟩) n cap] 22)).alloc (.cells #[.int .i64 (nth l k).txn] 3))
  have b0 := ((((Blk.new w 33 #[.int .i64 0, .int .i64 0, .int .i64 0, .bool false]).alloc (.cells #[.int .i64 (nth l k).txn, .int .i64 k, .int .i64 n, .bool false] 33)).alloc (.cells #[.slice (some ⟨b, o, none⟩) n cap] 22)).alloc (.cells #[.int .i64 (nth l k).txn] 3))
  have b1 := (((Blk.new (w.alloc (.cells #[.int .i64 0, .int .i64 0, .int .i64 0, .bool false] 33)) 33 #[.int .i64 (nth l k).txn, .int .i64 k, .int .i64 n, .bool false]).alloc (.cells #[.slice (some ⟨b, o, none⟩) n cap] 22)).alloc (.cells #[.int .i64 (nth l k).txn] 3))
  have b2 := ((Blk.new ((w.alloc (.cells #[.int .i64 0, .int .i64 0, .int .i64 0, .bool false] 33)).alloc (.cells #[.int .i64 (nth l k).txn, .int .i64 k, .int .i64 n, .bool false] 33)) 22 #[.slice (some ⟨b, o, none⟩) n cap]).alloc (.cells #[.int .i64 (nth l k).txn] 3))
  have b3 := (Blk.new (((w.alloc (.cells #[.int .i64 0, .int .i64 0, .int .i64 0, .bool false] 33)).alloc (.cells #[.int .i64 (nth l k).txn, .int .i64 k, .int .i64 n, .bool false] 33)).alloc (.cells #[.slice (some ⟨b, o, none⟩) n cap] 22)) 3 #[.int .i64 (nth l k).txn])
  simp only [World.size_alloc] at b0 b1 b2 b3
  obtain ⟨W0, hW0⟩ : ∃ W, ((((w.alloc (.cells #[.int .i64 0, .int .i64 0, .int .i64 0, .bool false] 33)).alloc (.cells #[.int .i64 (nth l k).txn, .int .i64 k, .int .i64 n, .bool false] 33)).alloc (.cells #[.slice (some ⟨b, o, none⟩) n cap] 22)).alloc (.cells #[.int .i64 (nth l k).txn] 3)) = W := ⟨_, rfl⟩
  rw [hW0] at hX b0 b1 b2 b3 ⊢
  have hs0 : Hid (W0.heap.size = w.heap.size + 4) := hid (by rw [← hW0]; simp)
  clear hW0
  have hbs : ∀ b ∈ [w.heap.size + 1 + 1, w.heap.size + 1 + 1 + 1], b < W0.heap.size := by have := hs0.out; intro b hb; simp at hb; omega
  refine wpIn_rangeFunc_ownH rfl (by decide) (gf := 128) (lb := #[.pointer (some ⟨w.heap.size + 1 + 1, 0, none⟩), .pointer (some ⟨w.heap.size + 1 + 1 + 1, 0, none⟩)]) rfl trivial (enters_of Try.func128 (by kernel_rfl) rfl)
    (h_of1 w W0 _ n cap _ _ l (nth l k).txn hE hX b2 b3) kpB_t (kpB_b hX.le hbs) (Below.refl _ _) (fun _ => rfl)
    (fun pre W => (Blk W w.heap.size 33 #[.int .i64 0, .int .i64 0, .int .i64 0, .bool false] ∧ Blk W (w.heap.size + 1) 33 #[.int .i64 (nth l k).txn, .int .i64 k, .int .i64 n, .bool false]) ∧ (Ext w W ∧ W0.heap.size ≤ W.heap.size) ∧ Hid (∀ x ∈ pre, ends x.1 = false))
    (fun c pre W => (∃ q x, (c = .exit 0 ∧ pre = q ++ [x] ∧ (∀ y ∈ q, ends y.1 = false) ∧ ends x.1 = true) ∧ Blk W w.heap.size 33 #[.int .i64 0, .int .i64 0, .int .i64 0, .bool false] ∧ Blk W (w.heap.size + 1) 33 #[.int .i64 (nth l k).txn, .int .i64 k, .int .i64 (x.2 : Int), .bool (x.1.kind == 4)]) ∧ Ext w W)
    (OwnFrom.and (Own.from (own_and (blk_own _ _ _) (blk_own _ _ _)) _) (OwnFrom.and (OwnFrom.and (ownFrom_ext hX.le) (ownFrom_size _ _)) (ownFrom_pure _ _)))
    (fun c => OwnFrom.and (fun s X Y row hs hg hr => by
      obtain ⟨q, x, h1, h2, h3⟩ := hs
      exact ⟨q, x, h1, Own.from (blk_own _ _ (fun (_ : Unit) => _)) _ () X Y row h2 hg hr, Own.from (blk_own _ _ (fun (_ : Unit) => _)) _ () X Y row h3 hg hr⟩) (ownFrom_ext hX.le))
    ⟨⟨b0, b1⟩, ⟨hX, Nat.le_refl _⟩, hid (fun _ h => by cases h)⟩
    (fun x a' W => ∃ Bx, W0.heap.size ≤ Bx ∧ Blk W Bx 31 #[.int .i64 x.1.kind, .int .i64 x.1.txn, .string x.1.key, .string x.1.val] ∧ a' = { tmps := #[.slice (some ⟨b, o, none⟩) n cap, .int .i64 k, undef, undef, .pointer (some ⟨w.heap.size, 0, none⟩), .pointer (some ⟨w.heap.size + 1, 0, none⟩), .int .i64 (x.2 : Int), .pointer (some ⟨Bx, 0, none⟩), .slice (some ⟨b, o, none⟩) n cap, .int .i64 k, .pointer (some ⟨b, o + k * 4, none⟩), .pointer (some ⟨b, o + k * 4 + 1, none⟩), .int .i64 (nth l k).txn, .int .i64 k, .slice (some ⟨b, o, none⟩) n cap, .int .i64 n, .agg #[.int .i64 (nth l k).txn, .int .i64 k, .int .i64 n, .bool false], .slice (some ⟨b, o, none⟩) n cap, .pointer (some ⟨w.heap.size + 1, 0, none⟩), .int .i64 (nth l k).txn, .func (.func 128) #[] #[.pointer (some ⟨w.heap.size + 1 + 1, 0, none⟩), .pointer (some ⟨w.heap.size + 1 + 1 + 1, 0, none⟩)], .int .i64 (x.2 : Int), .agg #[.int .i64 x.1.kind, .int .i64 x.1.txn, .string x.1.key, .string x.1.val], undef, undef, undef, undef, undef, undef, undef, undef, undef], defers := [] })
    (fun x a' _ X Y row hs hg hr => by obtain ⟨Bx, h1, h2, h3⟩ := hs; exact ⟨Bx, h1, blk_own Bx 31 (fun (_ : Unit) => #[.int .i64 x.1.kind, .int .i64 x.1.txn, .string x.1.key, .string x.1.val]) () X Y row h2 hg (fun r e => (hr r e).2), h3⟩)
    ?assign ?body ?done ?stop
  case assign =>
    rintro lp pre x W K ⟨⟨c0, c1⟩, ⟨hW, hZ⟩, hq⟩ hK
    simp only [encEv]
    gi_wp2
    have hs1 := hs0.out
    exact hK _ _ ((KeepsOthers.alloc _ _).from _) (kpB_alloc (kpB_refl _ _ _) hW (fun b hb => Nat.lt_of_lt_of_le (hbs b hb) hZ) _) ⟨⟨c0.alloc _, c1.alloc _⟩, ⟨hW.alloc _, by simp; omega⟩, hq⟩ ⟨W.heap.size, hZ, Blk.new W _ _, rfl⟩
  case body =>
    rintro lp pre x a' W hl ⟨r, hr⟩ ⟨⟨c0, c1⟩, ⟨hW, hZ⟩, hq⟩ ⟨Bx, hBx, cX, rfl⟩ hlt
    obtain ⟨x0, x1, x2, x3⟩ := cX.cells4
    have k1 := c1.cells4
    have f1 := c1.frozen
    have HX := hid cX.cells4
    have hs1 := hs0.out
    have hne : Bx ≠ w.heap.size + 1 := by omega
    have hz1 := c1.lt
    clear hs1
    have hb3 : ∀ b' ∈ [w.heap.size + 1 + 1, w.heap.size + 1 + 1 + 1], b' < W.heap.size := fun b' hb => Nat.lt_of_lt_of_le (hbs b' hb) hZ
    by_cases he : ends x.1 = true
    · gi_wp2_with (refine ⟨trivial, ?_⟩; gi_at_call 124; refine (CallsIn.inRound lp (callsIn_wide.2 (h_ends _ x.1))).mono ?_; rintro e w' ⟨rfl, hx1⟩)
      have cX1 := cX.ext hx1
      have c11 := c1.ext hx1
      have c01 := c0.ext hx1
      clear x0 x1 x2 x3 k1 f1 HX
      obtain ⟨y0, y1, y2, y3⟩ := cX1.cells4
      obtain ⟨z0, z1, z2, z3⟩ := c11.cells4
      have f2 := c11.frozen 2
      have f3 := c11.frozen 3
      clear h0 h1 h2 h3
      gi_region
      all_goals gi_wp2
      all_goals
        have hs1 := hs0.out
        have cF := ((c11.set 2 (.int .i64 (x.2 : Int))).set 3 (.bool (x.1.kind == 4))).drew
        refine ⟨KeepsFrom.trans (keepsFrom_ext (KeepsFrom.refl _ _) hx1) (KeepsOthers.from (((KeepsOthers.setCell _ _ _).trans (KeepsOthers.setCell _ _ _)).trans (KeepsOthers.drew _)) _), ⟨pre, x, ⟨rfl, rfl, hq.out, he⟩, ((c01.far (by simp) _).far (by simp) _).drew, cF⟩, (((hW.trans hx1).setCell (by simp) _).setCell (by simp) _).drew⟩
    · have he' : ends x.1 = false := by simpa using he
      clear he
      gi_wp2_with (refine ⟨trivial, ?_⟩; gi_at_call 124; refine (CallsIn.inRound lp (callsIn_wide.2 (h_ends _ x.1))).mono ?_; rintro e w' ⟨rfl, hx1⟩)
      refine ⟨keepsFrom_ext (KeepsFrom.refl _ _) hx1, kpB_ext (kpB_refl _ _ _) hW hb3 hx1, ⟨c0.ext hx1, c1.ext hx1⟩, ⟨hW.trans hx1, Nat.le_trans hZ hx1.le⟩, hid ?_⟩
      intro y hy
      rcases List.mem_append.1 hy with h | h
      · exact hq.out y h
      · simp at h; rw [h]; exact he'
  case done =>
    rintro D ys W hD rfl ⟨⟨c0, c1⟩, ⟨hW, hZ⟩, hq⟩ hK
    have hs1 := hs0
    clear hs0
    have k0 := c0.cells4
    have k1 := c1.cells4
    have f0 := c0.frozen
    gi_wp2
    rw [Exit.noGoto_ret]
    have hs2 := hs1.out
    have hWl := hX.le
    have c4 : Blk ((((W.setCell ⟨w.heap.size, 0, none⟩ (.int .i64 (nth l k).txn)).setCell ⟨w.heap.size, 1, none⟩ (.int .i64 k)).setCell ⟨w.heap.size, 2, none⟩ (.int .i64 ((n : Int)))).setCell ⟨w.heap.size, 3, none⟩ (.bool (false))) w.heap.size 33 #[.int .i64 (nth l k).txn, .int .i64 k, .int .i64 ((n : Int)), .bool (false)] := (((c0.set 0 _).set 1 _).set 2 _).set 3 _
    have hK4 := ((((KeepsOthers.setCell W ⟨w.heap.size, 0, none⟩ (.int .i64 (nth l k).txn)).trans (KeepsOthers.setCell _ ⟨w.heap.size, 1, none⟩ (.int .i64 k))).trans (KeepsOthers.setCell _ ⟨w.heap.size, 2, none⟩ (.int .i64 ((n : Int))))).trans (KeepsOthers.setCell _ ⟨w.heap.size, 3, none⟩ (.bool (false)))).same D _ hK rfl
    have hW4 := (((hW.setCell (p := ⟨w.heap.size, 0, none⟩) (Nat.le_refl _) (.int .i64 (nth l k).txn)).setCell (p := ⟨w.heap.size, 1, none⟩) (Nat.le_refl _) (.int .i64 k)).setCell (p := ⟨w.heap.size, 2, none⟩) (Nat.le_refl _) (.int .i64 ((n : Int)))).setCell (p := ⟨w.heap.size, 3, none⟩) (Nat.le_refl _) (.bool (false))
    refine ⟨by simp, .inl ⟨_, _, rfl, run_takeDeferred hK4, ?_⟩⟩
    have c5 := c4.grown (grownBy_putObj' _ D (.deferred none)) (by simp; omega)
    have hW5 := hW4.grown (grownBy_putObj' _ D (.deferred none)) (fun k e => by cases e; omega)
    generalize World.putObj _ D (.deferred none) = W9 at c5 hW5 ⊢
    obtain ⟨p0, p1, p2, p3⟩ := c5.cells4
    refine ⟨.agg #[.int .i64 (nth l k).txn, .int .i64 k, .int .i64 ((n : Int)), .bool (false)], by simp [results, Try.results107, go_sem, p0, p1, p2, p3], ?_, hW5⟩
    have hlf : lifeOf l k = ⟨(nth l k).txn, k, (n : Int), false⟩ := by
      unfold lifeOf
      rw [find_none hq.out]
      simp [hE.len]
    rw [hlf]
  case stop =>
    rintro D c pre W hD hp ⟨⟨q, x, ⟨rfl, rfl, hq, he⟩, c0, c1⟩, hW⟩ hK
    have hs1 := hs0
    clear hs0
    have k0 := c0.cells4
    have k1 := c1.cells4
    have f0 := c0.frozen
    gi_wp2
    rw [Exit.noGoto_ret]
    have hs2 := hs1.out
    have hWl := hX.le
    have c4 : Blk ((((W.setCell ⟨w.heap.size, 0, none⟩ (.int .i64 (nth l k).txn)).setCell ⟨w.heap.size, 1, none⟩ (.int .i64 k)).setCell ⟨w.heap.size, 2, none⟩ (.int .i64 ((x.2 : Int)))).setCell ⟨w.heap.size, 3, none⟩ (.bool (x.1.kind == 4))) w.heap.size 33 #[.int .i64 (nth l k).txn, .int .i64 k, .int .i64 ((x.2 : Int)), .bool (x.1.kind == 4)] := (((c0.set 0 _).set 1 _).set 2 _).set 3 _
    have hK4 := ((((KeepsOthers.setCell W ⟨w.heap.size, 0, none⟩ (.int .i64 (nth l k).txn)).trans (KeepsOthers.setCell _ ⟨w.heap.size, 1, none⟩ (.int .i64 k))).trans (KeepsOthers.setCell _ ⟨w.heap.size, 2, none⟩ (.int .i64 ((x.2 : Int))))).trans (KeepsOthers.setCell _ ⟨w.heap.size, 3, none⟩ (.bool (x.1.kind == 4)))).same D _ hK rfl
    have hW4 := (((hW.setCell (p := ⟨w.heap.size, 0, none⟩) (Nat.le_refl _) (.int .i64 (nth l k).txn)).setCell (p := ⟨w.heap.size, 1, none⟩) (Nat.le_refl _) (.int .i64 k)).setCell (p := ⟨w.heap.size, 2, none⟩) (Nat.le_refl _) (.int .i64 ((x.2 : Int)))).setCell (p := ⟨w.heap.size, 3, none⟩) (Nat.le_refl _) (.bool (x.1.kind == 4))
    refine ⟨by simp, .inl ⟨_, _, rfl, run_takeDeferred hK4, ?_⟩⟩
    have c5 := c4.grown (grownBy_putObj' _ D (.deferred none)) (by simp; omega)
    have hW5 := hW4.grown (grownBy_putObj' _ D (.deferred none)) (fun k e => by cases e; omega)
    generalize World.putObj _ D (.deferred none) = W9 at c5 hW5 ⊢
    obtain ⟨p0, p1, p2, p3⟩ := c5.cells4
    refine ⟨.agg #[.int .i64 (nth l k).txn, .int .i64 k, .int .i64 ((x.2 : Int)), .bool (x.1.kind == 4)], by simp [results, Try.results107, go_sem, p0, p1, p2, p3], ?_, hW5⟩
    have hlf : lifeOf l k = ⟨(nth l k).txn, k, (x.2 : Int), x.1.kind == 4⟩ := by
      unfold lifeOf
      rw [find_prefix hp hq he]
    rw [hlf]

theorem h_life (w : World) (A : Option Addr) (n cap k : Nat) (l : List Ev) (hE : Evs w A n l) (hk : k < n) :
    Calls Try.prog 107 #[.slice A n cap, .int .i64 k] w fun e w' => e = .returned (.agg #[.int .i64 (lifeOf l k).txn, .int .i64 (lifeOf l k).from_, .int .i64 (lifeOf l k).till, .bool (lifeOf l k).com]) ∧ Ext w w' :=
  callsIn_wide.1 (h_life_in w A n cap k l hE hk)

set_option maxHeartbeats 400000 in
theorem h_find1 (w : World) (x : Ev) (bt : Nat) (txn : Int) (ht : w.cell? ⟨bt, 0, none⟩ = some (.int .i64 txn)) :
    Calls Try.prog 106 #[.agg #[.int .i64 x.kind, .int .i64 x.txn, .string x.key, .string x.val], .pointer (some ⟨bt, 0, none⟩)] w fun e w' => e = .returned (.bool (isOf txn x)) ∧ Ext w w' := by
  have hX := Ext.refl w
  have hc := fun (o : Obj) => (hX.alloc o).cell ht
  go_enter Try.func106, Try.ntmps106
  go_wp2
  go_ret
  exact ⟨ret_bool rfl, hX.alloc _⟩

set_option maxHeartbeats 1000000 in
theorem h_find (w : World) (A : Option Addr) (n cap : Nat) (l : List Ev) (txn : Int) (hE : Evs w A n l) :
    Calls Try.prog 64 #[.slice A n cap, .int .i64 txn] w fun e w' => e = .returned (.tuple #[.agg #[.int .i64 (findL l txn).1.txn, .int .i64 (findL l txn).1.from_, .int .i64 (findL l txn).1.till, .bool (findL l txn).1.com], .bool (findL l txn).2]) ∧ Ext w w' := by
  have hX := Ext.refl w
  have hbig := hE.big
  have hf1 : -1 ≤ firstOf l txn ∧ firstOf l txn < (n : Int) := by have := idx_lt (isOf txn) l; rwa [hE.len] at this
  have HC : ∀ (W : World), Ext ((w.alloc (.cells #[.int .i64 txn] 3)).alloc (.cells #[.int .i64 0, .int .i64 0, .int .i64 0, .bool false] 33)) W → ∀ x : Ev, Calls Try.prog 106 (#[.agg #[.int .i64 x.kind, .int .i64 x.txn, .string x.key, .string x.val]] ++ #[.pointer (some ⟨w.heap.size, 0, none⟩)]) W fun e w' => e = .returned (.bool (isOf txn x)) ∧ Ext W w' := fun W hW x =>
    h_find1 W x w.heap.size txn (hW.cell (((Blk.new w 3 #[.int .i64 txn]).alloc _).cell0))
  have HC1 := hid HC
  clear HC
  have HI := hid (idxEv 106 #[.pointer (some ⟨w.heap.size, 0, none⟩)] (isOf txn) ((w.alloc (.cells #[.int .i64 txn] 3)).alloc (.cells #[.int .i64 0, .int .i64 0, .int .i64 0, .bool false] 33)) A n cap l (hE.ext ((hX.alloc _).alloc _)) (enters_of Try.func106 (by kernel_rfl) rfl) (fun W x hW => HC1.out W hW x))
  by_cases hf : firstOf l txn < 0
  · have hfin : Hid (findL l txn = (Life.z, false)) := hid (by unfold findL; rw [if_pos hf])
    have hf2 : Hid (idx (isOf txn) l 0 = firstOf l txn) := hid rfl
    clear hf1
    go_enter Try.func64, Try.ntmps64
    go_wp2_with (go_at_call 103; refine HI.out.mono ?_; rintro e w1 ⟨rfl, hx1⟩; have b1 := ((Blk.new (w.alloc (.cells #[.int .i64 txn] 3)) 33 #[.int .i64 0, .int .i64 0, .int .i64 0, .bool false]).ext hx1); rw [World.size_alloc] at b1; have hX1 := Ext.trans ((hX.alloc _).alloc _) hx1; rw [hf2.out]; obtain ⟨p0, p1, p2, p3⟩ := b1.cells4; have f0 := b1.frozen)
    have b5 : Blk ((((w1.setCell ⟨w.heap.size + 1, 0, none⟩ (.int .i64 (0))).setCell ⟨w.heap.size + 1, 1, none⟩ (.int .i64 (0))).setCell ⟨w.heap.size + 1, 2, none⟩ (.int .i64 (0))).setCell ⟨w.heap.size + 1, 3, none⟩ (.bool (false))) (w.heap.size + 1) 33 #[.int .i64 (0), .int .i64 (0), .int .i64 (0), .bool (false)] := (((b1.set 0 _).set 1 _).set 2 _).set 3 _
    obtain ⟨q0, q1, q2, q3⟩ := b5.cells4
    refine bodyPost_ret (v := .tuple #[.agg #[.int .i64 (0), .int .i64 (0), .int .i64 (0), .bool (false)], .bool false]) (by simp [results, Try.results64, go_sem, q0, q1, q2, q3]) rfl ⟨?_, ((((hX1.setCell (by simp) _).setCell (by simp) _).setCell (by simp) _).setCell (by simp) _)⟩
    rw [hfin.out]; rfl
  · obtain ⟨k, hk⟩ := Int.eq_ofNat_of_zero_le (show 0 ≤ firstOf l txn by omega)
    have hfin : Hid (findL l txn = (lifeOf l k, true)) := hid (lifeOf_find l txn hk)
    have hf2 : Hid (idx (isOf txn) l 0 = (k : Int)) := hid hk
    have hkn : k < n := by omega
    clear hf1 hf hk
    go_enter Try.func64, Try.ntmps64
    go_wp2_with (first
      | (go_at_call 103; refine HI.out.mono ?_; rintro e w1 ⟨rfl, hx1⟩; have b1 := ((Blk.new (w.alloc (.cells #[.int .i64 txn] 3)) 33 #[.int .i64 0, .int .i64 0, .int .i64 0, .bool false]).ext hx1); rw [World.size_alloc] at b1; have hX1 := Ext.trans ((hX.alloc _).alloc _) hx1; rw [hf2.out]; obtain ⟨p0, p1, p2, p3⟩ := b1.cells4; have f0 := b1.frozen)
      | (go_at_call 107; refine (h_life _ _ _ _ _ _ (hE.ext (by assumption)) hkn).mono ?_; rintro e w2 ⟨rfl, hx2⟩; have b2 := b1.ext hx2; have hX2 := hX1.trans hx2; clear p0 p1 p2 p3 f0; obtain ⟨p0, p1, p2, p3⟩ := b2.cells4; have f0 := b2.frozen))
    have b5 : Blk ((((w2.setCell ⟨w.heap.size + 1, 0, none⟩ (.int .i64 ((lifeOf l k).txn))).setCell ⟨w.heap.size + 1, 1, none⟩ (.int .i64 ((lifeOf l k).from_))).setCell ⟨w.heap.size + 1, 2, none⟩ (.int .i64 ((lifeOf l k).till))).setCell ⟨w.heap.size + 1, 3, none⟩ (.bool ((lifeOf l k).com))) (w.heap.size + 1) 33 #[.int .i64 ((lifeOf l k).txn), .int .i64 ((lifeOf l k).from_), .int .i64 ((lifeOf l k).till), .bool ((lifeOf l k).com)] := (((b2.set 0 _).set 1 _).set 2 _).set 3 _
    obtain ⟨q0, q1, q2, q3⟩ := b5.cells4
    refine bodyPost_ret (v := .tuple #[.agg #[.int .i64 ((lifeOf l k).txn), .int .i64 ((lifeOf l k).from_), .int .i64 ((lifeOf l k).till), .bool ((lifeOf l k).com)], .bool true]) (by simp [results, Try.results64, go_sem, q0, q1, q2, q3]) rfl ⟨?_, ((((hX2.setCell (by simp) _).setCell (by simp) _).setCell (by simp) _).setCell (by simp) _)⟩
    rw [hfin.out]

theorem h_writer (w : World) (A : Option Addr) (n cap : Nat) (l : List Ev) (key val : ByteArray) (hE : Evs w A n l) :
    Calls Try.prog 61 #[.slice A n cap, .string key, .string val] w fun e w' => e = .returned (.int .i64 (writer l key val)) ∧ Ext w w' := by
  have hX := Ext.refl w
  have HC : ∀ (W : World) (x : Ev), Ext ((w.alloc (.cells #[.string key] 9)).alloc (.cells #[.string val] 9)) W → Calls Try.prog 104 (#[.agg #[.int .i64 x.kind, .int .i64 x.txn, .string x.key, .string x.val]] ++ #[.pointer (some ⟨w.heap.size, 0, none⟩), .pointer (some ⟨w.heap.size + 1, 0, none⟩)]) W fun e w' => e = .returned (.bool (writes key val x)) ∧ Ext W w' := fun W x hW =>
    h_writer1 W x w.heap.size (w.heap.size + 1) key val
      (fun V hV => (hW.trans hV).cell (((Blk.new w 9 #[.string key]).alloc _).cell0))
      (fun V hV => (hW.trans hV).cell (by have := (Blk.new (w.alloc (.cells #[.string key] 9)) 9 #[.string val]).cell0; rwa [World.size_alloc] at this))
  have HI := hid (idxEv 104 #[.pointer (some ⟨w.heap.size, 0, none⟩), .pointer (some ⟨w.heap.size + 1, 0, none⟩)] (writes key val) ((w.alloc (.cells #[.string key] 9)).alloc (.cells #[.string val] 9)) A n cap l (hE.ext ((hX.alloc _).alloc _)) (enters_of Try.func104 (by kernel_rfl) rfl) HC)
  clear HC
  go_enter Try.func61, Try.ntmps61
  go_wp2_with (go_at_call 103; refine HI.out.mono ?_; rintro e w1 ⟨rfl, hx1⟩)
  go_ret
  exact ⟨rfl, Ext.trans ((hX.alloc _).alloc _) hx1⟩

end Go.Proofs.Ythjgmccpbcelgaa
