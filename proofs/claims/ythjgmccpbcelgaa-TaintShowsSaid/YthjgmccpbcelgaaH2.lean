/-
  Contracts of the program's functions of chapter 8 that range over a transaction's events.
-/
import Derived.Test.YthjgmccpbcelgaaProg
import Derived.Test.YthjgmccpbcelgaaOf
import Derived.Test.YthjgmccpbcelgaaH1
import Derived.Test.YthjgmccpbcelgaaPl1
namespace Go.Proofs.Ythjgmccpbcelgaa
open Go Go.RowKit Go.Proofs Go.Shelf
set_option linter.unusedSimpArgs false
set_option linter.unusedVariables false
attribute [local go_sem] Ext.alloc Ext.drew Ext.drewN toList_beq Oper.semAt_some

set_option maxHeartbeats 1000000 in
theorem h_last_in (w : World) (A : Option Addr) (n cap : Nat) (l : List Ev) (txn before : Int) (key : ByteArray) (hE : Evs w A n l) :
    CallsIn Fence.wide 6 Try.prog 63 #[.slice A n cap, .int .i64 txn, .string key, .int .i64 before] w fun e w' => e = .returned (.int .i64 (lastFold key before (ofs txn l))) ∧ Ext w w' := by
  refine callsIn_of_wp_marks Try.func63 rfl trivial ?_ rfl
  simp only [Try.ntmps63, List.size_toArray, List.length_cons, List.length_nil, Nat.reduceAdd, Nat.reduceSub, Array.replicate_succ, Array.replicate_zero, List.push_toArray, List.append_toArray, List.nil_append, List.cons_append]
  gi_wp2_with (refine ⟨trivial, ?_⟩; gi_at_call 105; refine (h_of _ _ _ _ _).mono ?_; rintro e w' ⟨rfl, rfl⟩)
  have hX := ((((((Ext.refl w).alloc (.cells #[.string key] 9)).alloc (.cells #[.int .i64 before] 3)).alloc (.cells #[.int .i64 (-1)] 3)).alloc (.cells #[.slice A n cap] 22)).alloc (.cells #[.int .i64 txn] 3))
  have b0 := (((((Blk.new w 9 #[.string key]).alloc (.cells #[.int .i64 before] 3)).alloc (.cells #[.int .i64 (-1)] 3)).alloc (.cells #[.slice A n cap] 22)).alloc (.cells #[.int .i64 txn] 3))
  have b1 := ((((Blk.new (w.alloc (.cells #[.string key] 9)) 3 #[.int .i64 before]).alloc (.cells #[.int .i64 (-1)] 3)).alloc (.cells #[.slice A n cap] 22)).alloc (.cells #[.int .i64 txn] 3))
  have b2 := (((Blk.new ((w.alloc (.cells #[.string key] 9)).alloc (.cells #[.int .i64 before] 3)) 3 #[.int .i64 (-1)]).alloc (.cells #[.slice A n cap] 22)).alloc (.cells #[.int .i64 txn] 3))
  have b3 := ((Blk.new (((w.alloc (.cells #[.string key] 9)).alloc (.cells #[.int .i64 before] 3)).alloc (.cells #[.int .i64 (-1)] 3)) 22 #[.slice A n cap]).alloc (.cells #[.int .i64 txn] 3))
  have b4 := (Blk.new ((((w.alloc (.cells #[.string key] 9)).alloc (.cells #[.int .i64 before] 3)).alloc (.cells #[.int .i64 (-1)] 3)).alloc (.cells #[.slice A n cap] 22)) 3 #[.int .i64 txn])
  simp only [World.size_alloc] at b0 b1 b2 b3 b4
  obtain ⟨W0, hW0⟩ : ∃ W, (((((w.alloc (.cells #[.string key] 9)).alloc (.cells #[.int .i64 before] 3)).alloc (.cells #[.int .i64 (-1)] 3)).alloc (.cells #[.slice A n cap] 22)).alloc (.cells #[.int .i64 txn] 3)) = W := ⟨_, rfl⟩
  rw [hW0] at hX b0 b1 b2 b3 b4 ⊢
  have hs0 : Hid (W0.heap.size = w.heap.size + 5) := hid (by rw [← hW0]; simp)
  clear hW0
  have hbs : ∀ b ∈ [w.heap.size + 1 + 1 + 1, w.heap.size + 1 + 1 + 1 + 1], b < W0.heap.size := by have := hs0.out; intro b hb; simp at hb; omega
  refine wpIn_rangeFunc_ownH rfl (by decide) (gf := 128) (lb := #[.pointer (some ⟨w.heap.size + 1 + 1 + 1, 0, none⟩), .pointer (some ⟨w.heap.size + 1 + 1 + 1 + 1, 0, none⟩)]) rfl trivial (enters_of Try.func128 (by kernel_rfl) rfl)
    (h_of1 w W0 A n cap _ _ l txn hE hX b3 b4) kpB_t (kpB_b hX.le hbs) (Below.refl _ _) (fun _ => rfl)
    (fun pre W => (Blk W w.heap.size 9 #[.string key] ∧ Blk W (w.heap.size + 1) 3 #[.int .i64 before] ∧ Blk W (w.heap.size + 1 + 1) 3 #[.int .i64 (lastFold key before pre)]) ∧ Ext w W ∧ W0.heap.size ≤ W.heap.size)
    (fun _ _ _ => False)
    (OwnFrom.and (Own.from (own_and (blk_own _ _ _) (own_and (blk_own _ _ _) (blk_own _ _ _))) _) (OwnFrom.and (ownFrom_ext hX.le) (ownFrom_size _ _)))
    (fun _ _ _ _ _ hs _ _ => hs)
    ⟨⟨b0, b1, b2⟩, hX, Nat.le_refl _⟩
    (fun x a' W => ∃ Bx, W0.heap.size ≤ Bx ∧ Blk W Bx 31 #[.int .i64 x.1.kind, .int .i64 x.1.txn, .string x.1.key, .string x.1.val] ∧ a' = { tmps := #[.slice A n cap, .int .i64 txn, .string key, .int .i64 before, undef, undef, .pointer (some ⟨w.heap.size, 0, none⟩), .pointer (some ⟨w.heap.size + 1, 0, none⟩), .int .i64 0, .pointer (some ⟨w.heap.size + 1 + 1, 0, none⟩), .int .i64 (x.2 : Int), .pointer (some ⟨Bx, 0, none⟩), .slice A n cap, .int .i64 txn, .func (.func 128) #[] #[.pointer (some ⟨w.heap.size + 1 + 1 + 1, 0, none⟩), .pointer (some ⟨w.heap.size + 1 + 1 + 1 + 1, 0, none⟩)], .int .i64 (x.2 : Int), .agg (#[.int .i64 x.1.kind, .int .i64 x.1.txn, .string x.1.key, .string x.1.val]), undef, undef, undef, undef, undef, undef, undef, undef, undef, undef, undef, undef, undef, undef, undef, undef], defers := [] })
    (fun x a' _ X Y row hs hg hr => by obtain ⟨Bx, h1, h2, h3⟩ := hs; exact ⟨Bx, h1, blk_own Bx 31 (fun (_ : Unit) => #[.int .i64 x.1.kind, .int .i64 x.1.txn, .string x.1.key, .string x.1.val]) () X Y row h2 hg (fun r e => (hr r e).2), h3⟩)
    ?assign ?body ?done ?stop
  case assign =>
    rintro lp pre x W K ⟨⟨c0, c1, c2⟩, hW, hZ⟩ hK
    simp only [encEv]
    gi_wp2
    exact hK _ _ ((KeepsOthers.alloc _ _).from _) (kpB_alloc (kpB_refl _ _ _) hW (fun b hb => Nat.lt_of_lt_of_le (hbs b hb) hZ) _) ⟨⟨c0.alloc _, c1.alloc _, c2.alloc _⟩, hW.alloc _, by simp; omega⟩ ⟨W.heap.size, hZ, Blk.new W _ _, rfl⟩
  case body =>
    rintro lp pre x a' W hl ⟨r, hr⟩ ⟨⟨c0, c1, c2⟩, hW, hZ⟩ ⟨Bx, hBx, cX, rfl⟩ hlt
    have k1 := c1.cell0
    have k0 := c0.cell0
    obtain ⟨x0, x1, x2, x3⟩ := cX.cells4
    have k2 := c2.cell0
    have f2 := c2.frozen 0
    have hst := hid (lastFold_snoc key before pre x)
    gi_wp2
    · have h1 : (x.2 : Int) < before := by assumption
      have h2 : x.1.kind = 3 := by assumption
      have h4 : x.1.key = key := by assumption
      have hs1 := hs0.out
      refine ⟨(KeepsOthers.setCell _ _ _).from _, kpB_set (kpB_refl _ _ _) (by simp; omega) (by intro b hb; simp at hb ⊢; omega) _, ⟨c0.far (by simp; omega) _, c1.far (by simp) _, ?_⟩, hW.setCell (by simp; omega) _, by simpa [World.setCell] using hZ⟩
      rw [hst.out, lastStep, if_pos ⟨h1, h2, h4⟩]
      exact c2.set0 _
    · have h4 : ¬ x.1.key = key := by assumption
      refine ⟨KeepsFrom.refl _ _, kpB_refl _ _ _, ⟨c0, c1, ?_⟩, hW, hZ⟩
      rw [hst.out, lastStep, if_neg (fun h => h4 h.2.2)]
      exact c2
    · have h2 : ¬ x.1.kind = 3 := by assumption
      refine ⟨KeepsFrom.refl _ _, kpB_refl _ _ _, ⟨c0, c1, ?_⟩, hW, hZ⟩
      rw [hst.out, lastStep, if_neg (fun h => h2 h.2.1)]
      exact c2
    · have h1 : before ≤ (x.2 : Int) := by assumption
      refine ⟨KeepsFrom.refl _ _, kpB_refl _ _ _, ⟨c0, c1, ?_⟩, hW, hZ⟩
      rw [hst.out, lastStep, if_neg (fun h => by omega)]
      exact c2
  case done =>
    rintro D ys W hD rfl ⟨⟨c0, c1, c2⟩, hW, hZ⟩ hK
    have k2 := c2.cell0
    gi_wp2
    refine ⟨by simp, .inl ⟨_, _, rfl, run_takeDeferred hK, ?_⟩⟩
    exact ⟨_, results_tmp rfl _ _ _, rfl, hW.grown (grownBy_putObj' W D _) (fun k e => by cases e; have := hX.le; omega)⟩
  case stop =>
    rintro D c pre W _ _ h _
    exact h.elim

theorem h_last (w : World) (A : Option Addr) (n cap : Nat) (l : List Ev) (txn before : Int) (key : ByteArray) (hE : Evs w A n l) :
    Calls Try.prog 63 #[.slice A n cap, .int .i64 txn, .string key, .int .i64 before] w fun e w' => e = .returned (.int .i64 (lastOf l txn key before)) ∧ Ext w w' := by
  have h := callsIn_wide.1 (h_last_in w A n cap l txn before key hE)
  rwa [lastFold_eq] at h

end Go.Proofs.Ythjgmccpbcelgaa
