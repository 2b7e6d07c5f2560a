/-
  Steps of loops and of calls, joined
-/
import Derived.Test.YtebjiimlcnmfpaaGreatProg
import Derived.Test.YtebjiimlcnmfpaaGreatA1
/-! The iterator over a transaction's events. -/
set_option linter.unusedVariables false
set_option linter.unusedSimpArgs false
namespace Go.Proofs.YtebjiimlcnmfpaaGreat
section
open Go Go.RowKit Go.Proofs Go.Shelf
set_option linter.unusedSimpArgs false
set_option linter.unusedVariables false
attribute [local go_sem] Ext.alloc Ext.alloc2 Ext.alloc3 Ext.alloc4 Ext.drewN_alloc Ext.drewN_alloc2 Ext.drew_alloc Ext.drew Ext.drewN toList_beq Oper.semAt_some

def encEv (x : Ev × Nat) : Array Value := #[.int .i64 (x.2 : Int), .agg #[.int .i64 x.1.kind, .int .i64 x.1.txn, .string x.1.key, .string x.1.val]]

set_option maxHeartbeats 400000 in
theorem h_of (w : World) (A : Option Addr) (n cap : Nat) (txn : Int) :
    CallsIn Fence.wide 5 Tryz.prog 125 #[.slice A n cap, .int .i64 txn] w fun e w' => e = .returned (.func (.func 153) #[] #[.pointer (some ⟨w.heap.size, 0, none⟩), .pointer (some ⟨w.heap.size + 1, 0, none⟩)]) ∧ w' = (w.alloc (.cells #[.slice A n cap] 22)).alloc (.cells #[.int .i64 txn] 3) := by
  refine callsIn_wide.2 ?_
  go_enter Tryz.func125, Tryz.ntmps125
  go_wp2
  go_ret
  exact ⟨rfl, rfl⟩

set_option maxHeartbeats 1000000 in
theorem h_of1 (w wc : World) (A : Option Addr) (n cap bh bt : Nat) (l : List Ev) (txn : Int) (hE : Evs w A n l) (hwc : Ext w wc) (hh : Blk wc bh 22 #[.slice A n cap]) (ht : Blk wc bt 3 #[.int .i64 txn]) :
    Yields Tryz.prog 153 #[.pointer (some ⟨bh, 0, none⟩), .pointer (some ⟨bt, 0, none⟩)] encEv (ofs txn l) w [bh, bt] wc := by
  intro lp J Jx W0 hW0 hJ hJx hY hJ0
  have hl := hid hE.len
  have hbig := hE.big
  have hX : Ext w W0 := hwc.trans hW0
  have hcc := hid (⟨(hh.ext hW0), (ht.ext hW0)⟩ : Blk W0 bh _ _ ∧ Blk W0 bt _ _)
  have hc0 : W0.cell? ⟨bh, 0, none⟩ = some (.slice A n cap) := hcc.out.1.cell 0
  clear hh ht
  refine callsIn_of_wp Tryz.func153 rfl trivial ?_ rfl
  simp only [Tryz.ntmps153, List.size_toArray, List.length_cons, List.length_nil, Nat.reduceAdd, Nat.reduceSub, Array.replicate_succ, Array.replicate_zero, List.push_toArray, List.append_toArray, List.nil_append, List.cons_append]
  gi_wp2
  gi_loopw [8] (fun i W => Ext w W ∧ Hid (Blk W bh 22 #[.slice A n cap] ∧ Blk W bt 3 #[.int .i64 txn]) ∧ ∃ k : Nat, k ≤ n ∧ i = .int .i64 k ∧ J (ofs txn (l.take k)) W) (fun i _ => n - (intOf i).toNat)
  case atStart => exact ⟨hX, hcc, 0, by omega, rfl, hJ0⟩
  case round =>
    obtain ⟨hW, hbb, k, hk1, rfl, hJk⟩ := hrel
    have hct : wr.cell? ⟨bt, 0, none⟩ = some (.int .i64 txn) := hbb.out.2.cell 0
    have hbt := hbb.out.2.lt
    by_cases hlt : k < n
    · obtain ⟨b, o, rfl, h0, h1, h2, h3⟩ := hE.opn (by omega)
      have hst := ofs_step txn l (k := k) (by rw [hl.out]; exact hlt)
      by_cases hp : isOf txn (nth l k) = true
      · rw [if_pos hp] at hst
        have hst' := hid hst
        have hp' : ((nth l k).txn == txn) = true := hp
        have htx : (nth l k).txn = txn := by simpa using hp'
        clear hst
        have hJ1 := hJ _ _ (wr.alloc (.cells #[.int .i64 (nth l k).kind, .int .i64 txn, .string (nth l k).key, .string (nth l k).val] 50)) none hJk (World.grownBy_alloc _ _ _) (fun r e => by cases e)
        have hlen : Hid ((ofs txn (List.take k l)).length < (ofs txn l).length) := hid (by
          have := (ofs_prefix txn l (k := k + 1)).length_le
          rw [hst'.out] at this
          simp at this; omega)
        obtain ⟨fn, tmps, assign, body, hy, hR⟩ := hY _ (nth l k, k) _ hJ1 hlen.out
        have HR := hid hR
        clear hR hJ1
        dsimp only [encEv] at hy
        rw [htx] at hy
        clear hp
        gi_wp2
        refine HR.out.mono ?_
        rintro e W3 (⟨rfl, hJ3, hk3⟩ | ⟨rfl, hJx3⟩)
        · have hW3 : Ext w W3 := Below.trans (hW.alloc _) hk3.1
          have hb3 := hid (⟨(hk3.2 bh (by simp)).trans (hbb.out.1.alloc _), (hk3.2 bt (by simp)).trans (hbb.out.2.alloc _)⟩ : Blk W3 bh _ _ ∧ Blk W3 bt _ _)
          gi_wp2
          go_roundw
          case rel => exact ⟨hW3, hb3, k + 1, by omega, by go_num, by rw [hst'.out]; exact hJ3⟩
          case measure => simp [intOf]; omega
        · gi_wp2
          refine bodyPost_ret (results_none rfl _ _ _) rfl ?_
          exact ⟨⟨_, rfl⟩, .inr ⟨_, by rw [← hst'.out]; exact ofs_prefix _ _, hJx3⟩⟩
      · rw [if_neg hp, List.append_nil] at hst
        have hst' := hid hst
        have hp' : ((nth l k).txn == txn) = false := by simpa [isOf] using hp
        clear hst hp
        gi_wp2
        refine ⟨fun _ h => (by cases h), ?_⟩
        gi_wp2
        go_roundw
        case rel => exact ⟨hW.alloc _, hid ⟨hbb.out.1.alloc _, hbb.out.2.alloc _⟩, k + 1, by omega, by go_num, by rw [hst'.out]; exact hJ _ _ _ none hJk (World.grownBy_alloc _ _ _) (fun r e => by cases e)⟩
        case measure => simp [intOf]; omega
    · gi_wp2
      go_end0
      refine ⟨⟨_, rfl⟩, .inl ⟨_, rfl, ?_⟩⟩
      rw [← show l.take k = l from List.take_of_length_le (by rw [hl.out]; omega)]
      exact hJk

end
end Go.Proofs.YtebjiimlcnmfpaaGreat

/-! Contracts of the program's small functions of chapter 8. -/
namespace Go.Proofs.YtebjiimlcnmfpaaGreat
section
open Go Go.RowKit Go.Proofs
set_option linter.unusedSimpArgs false
set_option linter.unusedVariables false
attribute [local go_sem] Ext.alloc Ext.alloc2 Ext.alloc3 Ext.alloc4 Ext.drewN_alloc Ext.drewN_alloc2 Ext.drew_alloc Ext.drew Ext.drewN toList_beq

set_option maxHeartbeats 400000 in
theorem h_ends (w : World) (x : Ev) :
    Calls Tryz.prog 126 #[.agg #[.int .i64 x.kind, .int .i64 x.txn, .string x.key, .string x.val]] w fun e w' => e = .returned (.bool (ends x)) ∧ Ext w w' := by
  have hX := Ext.refl w
  go_enter Tryz.func126, Tryz.ntmps126
  go_wp2
  all_goals
    go_ret
    exact ⟨ret_bool (by simp [ends, *]), hX.alloc _⟩

set_option maxHeartbeats 400000 in
theorem h_writer1 (w : World) (x : Ev) (bk bv : Nat) (key val : ByteArray) (hk : ∀ W, Ext w W → W.cell? ⟨bk, 0, none⟩ = some (.string key)) (hv : ∀ W, Ext w W → W.cell? ⟨bv, 0, none⟩ = some (.string val)) :
    Calls Tryz.prog 140 #[.agg #[.int .i64 x.kind, .int .i64 x.txn, .string x.key, .string x.val], .pointer (some ⟨bk, 0, none⟩), .pointer (some ⟨bv, 0, none⟩)] w fun e w' => e = .returned (.bool (writes key val x)) ∧ Ext w w' := by
  have hX := Ext.refl w
  go_enter Tryz.func140, Tryz.ntmps140
  go_wp2
  all_goals
    go_ret
    exact ⟨ret_bool (by simp [writes, *]), hX.alloc _⟩

end
end Go.Proofs.YtebjiimlcnmfpaaGreat

/-! slices.IndexFunc, for whatever function value. -/
namespace Go.Proofs.YtebjiimlcnmfpaaGreat
section
open Go Go.RowKit Go.Proofs
set_option linter.unusedSimpArgs false
set_option linter.unusedVariables false
attribute [local go_sem] Ext.alloc Ext.alloc2 Ext.alloc3 Ext.alloc4 Ext.drewN_alloc Ext.drewN_alloc2 Ext.drew_alloc Ext.drew Ext.drewN toList_beq

set_option maxHeartbeats 1000000 in
theorem idxEv (g : Nat) (caps : Array Value) (p : Ev → Bool) (w : World) (A : Option Addr) (n cap : Nat) (l : List Ev) (hE : Evs w A n l)
    (eg : ∀ args w, (callFunc g args).run Tryz.prog w = .ok (.enter g args) w)
    (hg : ∀ (W : World) (x : Ev), Ext w W → Calls Tryz.prog g (#[.agg #[.int .i64 x.kind, .int .i64 x.txn, .string x.key, .string x.val]] ++ caps) W fun e w' => e = .returned (.bool (p x)) ∧ Ext W w') :
    Calls Tryz.prog 138 #[.slice A n cap, .func (.func g) #[] caps] w fun e w' => e = .returned (.int .i64 (idx p l 0)) ∧ Ext w w' := by
  have hX := Ext.refl w
  have hl := hid hE.len
  have hbig := hE.big
  have HG := hid hg
  clear hg
  go_enter Tryz.func138, Tryz.ntmps138
  go_wp2
  go_loopw [8] (fun i W => Ext w W ∧ ∃ k : Nat, k ≤ n ∧ i = .int .i64 k ∧ Hid (idx p (l.drop k) k = idx p l 0)) (fun i _ => n - (intOf i).toNat)
  case atStart => exact ⟨hX, 0, by omega, rfl, hid rfl⟩
  case round =>
    obtain ⟨hW, k, hk1, rfl, hr⟩ := hrel
    by_cases hlt : k < n
    · obtain ⟨b, o, rfl, h0, h1, h2, h3⟩ := hE.opn (by omega)
      have hs := hid (drop_step l Ev.z (k := k) (by rw [hl.out]; omega))
      go_wp2
      refine (HG.out _ (nth l k) hW).mono ?_
      rintro e w1 ⟨rfl, hx1⟩
      cases hp : p (nth l k)
      · have hp' := hid hp; clear hp
        go_wp2
        go_roundw
        case rel => exact ⟨hW.trans hx1, k + 1, by omega, by go_num, hid (by rw [← hr.out, hs.out, idx_cons]; exact (if_neg (by rw [show l.getD k Ev.z = nth l k from rfl, hp'.out]; simp)).symm)⟩
        case measure => simp [intOf]; omega
      · have hp' := hid hp; clear hp
        go_wp2
        go_ret
        refine ⟨ret_int ?_, hW.trans hx1⟩
        rw [← hr.out, hs.out, idx_cons]
        exact (if_pos hp'.out).symm
    · go_wp2
      go_ret
      refine ⟨ret_int ?_, hW⟩
      rw [← hr.out, drop_end _ (by rw [hl.out]; omega)]
      rfl

end
end Go.Proofs.YtebjiimlcnmfpaaGreat

/-! Contracts of the program's functions of chapter 8 that range over a transaction's events. -/
namespace Go.Proofs.YtebjiimlcnmfpaaGreat
section
open Go Go.RowKit Go.Proofs Go.Shelf
set_option linter.unusedSimpArgs false
set_option linter.unusedVariables false
attribute [local go_sem] Ext.alloc Ext.alloc2 Ext.alloc3 Ext.alloc4 Ext.drewN_alloc Ext.drewN_alloc2 Ext.drew_alloc Ext.drew Ext.drewN toList_beq Oper.semAt_some

set_option maxHeartbeats 1000000 in
theorem h_last_in (w : World) (A : Option Addr) (n cap : Nat) (l : List Ev) (txn before : Int) (key : ByteArray) (hE : Evs w A n l) :
    CallsIn Fence.wide 6 Tryz.prog 123 #[.slice A n cap, .int .i64 txn, .string key, .int .i64 before] w fun e w' => e = .returned (.int .i64 (lastFold key before (ofs txn l))) ∧ Ext w w' := by
  refine callsIn_of_wp_marks Tryz.func123 rfl trivial ?_ rfl
  simp only [Tryz.ntmps123, List.size_toArray, List.length_cons, List.length_nil, Nat.reduceAdd, Nat.reduceSub, Array.replicate_succ, Array.replicate_zero, List.push_toArray, List.append_toArray, List.nil_append, List.cons_append]
  gi_wp2_with (refine ⟨trivial, ?_⟩; gi_at_call 125; refine (h_of _ _ _ _ _).mono ?_; rintro e w' ⟨rfl, rfl⟩)
  have hX := ((((((Ext.refl w).alloc (.cells #[.string key] 9)).alloc (.cells #[.int .i64 before] 3)).alloc (.cells #[.int .i64 (-1)] 3)).alloc (.cells #[.slice A n cap] 22)).alloc (.cells #[.int .i64 txn] 3))
  have b0 := (((((Blk.new w 9 #[.string key]).alloc (.cells #[.int .i64 before] 3)).alloc (.cells #[.int .i64 (-1)] 3)).alloc (.cells #[.slice A n cap] 22)).alloc (.cells #[.int .i64 txn] 3))
  have b1 := ((((Blk.new (w.alloc (.cells #[.string key] 9)) 3 #[.int .i64 before]).alloc (.cells #[.int .i64 (-1)] 3)).alloc (.cells #[.slice A n cap] 22)).alloc (.cells #[.int .i64 txn] 3))
  have b2 := (((Blk.new ((w.alloc (.cells #[.string key] 9)).alloc (.cells #[.int .i64 before] 3)) 3 #[.int .i64 (-1)]).alloc (.cells #[.slice A n cap] 22)).alloc (.cells #[.int .i64 txn] 3))
  have b3 := ((Blk.new (((w.alloc (.cells #[.string key] 9)).alloc (.cells #[.int .i64 before] 3)).alloc (.cells #[.int .i64 (-1)] 3)) 22 #[.slice A n cap]).alloc (.cells #[.int .i64 txn] 3))
  have b4 := (Blk.new ((((w.alloc (.cells #[.string key] 9)).alloc (.cells #[.int .i64 before] 3)).alloc (.cells #[.int .i64 (-1)] 3)).alloc (.cells #[.slice A n cap] 22)) 3 #[.int .i64 txn])
  simp only [World.size_alloc] at b0 b1 b2 b3 b4
  obtain ⟨W0, hW0⟩ : ∃ W, (((((w.alloc (.cells #[.string key] 9)).alloc (.cells #[.int .i64 before] 3)).alloc (.cells #[.int .i64 (-1)] 3)).alloc (.cells #[.slice A n cap] 22)).alloc (.cells #[.int .i64 txn] 3)) = W := ⟨_, rfl⟩
  rw [hW0] at hX b0 b1 b2 b3 b4 ⊢
  have hs0 : Hid (W0.heap.size = w.heap.size + 5) := hid (by rw [← hW0]; simp)
  clear hW0
  have hbs : ∀ b ∈ [w.heap.size + 1 + 1 + 1, w.heap.size + 1 + 1 + 1 + 1], b < W0.heap.size := by have := hs0.out; intro b hb; simp at hb; omega
  refine wpIn_rangeFunc_ownH rfl (by decide) (gf := 153) (lb := #[.pointer (some ⟨w.heap.size + 1 + 1 + 1, 0, none⟩), .pointer (some ⟨w.heap.size + 1 + 1 + 1 + 1, 0, none⟩)]) rfl trivial (enters_of Tryz.func153 (by kernel_rfl) rfl)
    (h_of1 w W0 A n cap _ _ l txn hE hX b3 b4) kpB_t (kpB_b hX.le hbs) (Below.refl _ _) (fun _ => rfl)
    (fun pre W => (Blk W w.heap.size 9 #[.string key] ∧ Blk W (w.heap.size + 1) 3 #[.int .i64 before] ∧ Blk W (w.heap.size + 1 + 1) 3 #[.int .i64 (lastFold key before pre)]) ∧ Ext w W ∧ W0.heap.size ≤ W.heap.size)
    (fun _ _ _ => False)
    (OwnFrom.and (Own.from (own_and (blk_own _ _ _) (own_and (blk_own _ _ _) (blk_own _ _ _))) _) (OwnFrom.and (ownFrom_ext hX.le) (ownFrom_size _ _)))
    (fun _ _ _ _ _ hs _ _ => hs)
    ⟨⟨b0, b1, b2⟩, hX, Nat.le_refl _⟩
    (fun x a' W => ∃ Bx, W0.heap.size ≤ Bx ∧ Blk W Bx 50 #[.int .i64 x.1.kind, .int .i64 x.1.txn, .string x.1.key, .string x.1.val] ∧ a' = { tmps := #[.slice A n cap, .int .i64 txn, .string key, .int .i64 before, undef, undef, .pointer (some ⟨w.heap.size, 0, none⟩), .pointer (some ⟨w.heap.size + 1, 0, none⟩), .int .i64 0, .pointer (some ⟨w.heap.size + 1 + 1, 0, none⟩), .int .i64 (x.2 : Int), .pointer (some ⟨Bx, 0, none⟩), .slice A n cap, .int .i64 txn, .func (.func 153) #[] #[.pointer (some ⟨w.heap.size + 1 + 1 + 1, 0, none⟩), .pointer (some ⟨w.heap.size + 1 + 1 + 1 + 1, 0, none⟩)], .int .i64 (x.2 : Int), .agg (#[.int .i64 x.1.kind, .int .i64 x.1.txn, .string x.1.key, .string x.1.val]), undef, undef, undef, undef, undef, undef, undef, undef, undef, undef, undef, undef, undef, undef, undef, undef], defers := [] })
    (fun x a' _ X Y row hs hg hr => by obtain ⟨Bx, h1, h2, h3⟩ := hs; exact ⟨Bx, h1, blk_own Bx 50 (fun (_ : Unit) => #[.int .i64 x.1.kind, .int .i64 x.1.txn, .string x.1.key, .string x.1.val]) () X Y row h2 hg (fun r e => (hr r e).2), h3⟩)
    ?assign ?body ?done ?stop
  case assign =>
    rintro lp pre x W K ⟨⟨c0, c1, c2⟩, hW, hZ⟩ hK
    simp only [encEv]
    gi_wp2
    exact hK _ _ ((KeepsOthers.alloc _ _).from _) (kpB_alloc (kpB_refl _ _ _) hW (fun b hb => Nat.lt_of_lt_of_le (hbs b hb) hZ) _) ⟨⟨c0.alloc _, c1.alloc _, c2.alloc _⟩, hW.alloc _, by simp; omega⟩ ⟨W.heap.size, hZ, Blk.new W _ _, rfl⟩
  case body =>
    rintro lp pre x a' W hl ⟨r, hr⟩ ⟨⟨c0, c1, c2⟩, hW, hZ⟩ ⟨Bx, hBx, cX, rfl⟩ hlt
    have k1 := c1.cell0
    have k0 := c0.cell0
    obtain ⟨x0, x1, x2, x3⟩ := cX.cells4
    have k2 := c2.cell0
    have f2 := c2.frozen 0
    have hst := hid (lastFold_snoc key before pre x)
    gi_wp2
    · have h1 : (x.2 : Int) < before := by assumption
      have h2 : x.1.kind = 3 := by assumption
      have h4 : x.1.key = key := by assumption
      have hs1 := hs0.out
      refine ⟨(KeepsOthers.setCell _ _ _).from _, kpB_set (kpB_refl _ _ _) (by simp; omega) (by intro b hb; simp at hb ⊢; omega) _, ⟨c0.far (by simp; omega) _, c1.far (by simp) _, ?_⟩, hW.setCell (by simp; omega) _, by simpa [World.setCell] using hZ⟩
      rw [hst.out, lastStep, if_pos ⟨h1, h2, h4⟩]
      exact c2.set0 _
    · have h4 : ¬ x.1.key = key := by assumption
      refine ⟨KeepsFrom.refl _ _, kpB_refl _ _ _, ⟨c0, c1, ?_⟩, hW, hZ⟩
      rw [hst.out, lastStep, if_neg (fun h => h4 h.2.2)]
      exact c2
    · have h2 : ¬ x.1.kind = 3 := by assumption
      refine ⟨KeepsFrom.refl _ _, kpB_refl _ _ _, ⟨c0, c1, ?_⟩, hW, hZ⟩
      rw [hst.out, lastStep, if_neg (fun h => h2 h.2.1)]
      exact c2
    · have h1 : before ≤ (x.2 : Int) := by assumption
      refine ⟨KeepsFrom.refl _ _, kpB_refl _ _ _, ⟨c0, c1, ?_⟩, hW, hZ⟩
      rw [hst.out, lastStep, if_neg (fun h => by omega)]
      exact c2
  case done =>
    rintro D ys W hD rfl ⟨⟨c0, c1, c2⟩, hW, hZ⟩ hK
    have k2 := c2.cell0
    gi_wp2
    refine ⟨by simp, .inl ⟨_, _, rfl, run_takeDeferred hK, ?_⟩⟩
    exact ⟨_, results_tmp rfl _ _ _, rfl, hW.grown (grownBy_putObj' W D _) (fun k e => by cases e; have := hX.le; omega)⟩
  case stop =>
    rintro D c pre W _ _ h _
    exact h.elim

theorem h_last (w : World) (A : Option Addr) (n cap : Nat) (l : List Ev) (txn before : Int) (key : ByteArray) (hE : Evs w A n l) :
    Calls Tryz.prog 123 #[.slice A n cap, .int .i64 txn, .string key, .int .i64 before] w fun e w' => e = .returned (.int .i64 (lastOf l txn key before)) ∧ Ext w w' := by
  have h := callsIn_wide.1 (h_last_in w A n cap l txn before key hE)
  rwa [lastFold_eq] at h

end
end Go.Proofs.YtebjiimlcnmfpaaGreat

/-! Contracts of the program's functions of chapter 8: a transaction's life, and who wrote a value. -/
namespace Go.Proofs.YtebjiimlcnmfpaaGreat
section
open Go Go.RowKit Go.Proofs Go.Shelf
set_option linter.unusedSimpArgs false
set_option linter.unusedVariables false
attribute [local go_sem] Ext.alloc Ext.alloc2 Ext.alloc3 Ext.alloc4 Ext.drewN_alloc Ext.drewN_alloc2 Ext.drew_alloc Ext.drew Ext.drewN Oper.semAt_some toList_beq

set_option maxHeartbeats 1000000 in
theorem h_life_in (w : World) (A : Option Addr) (n cap k : Nat) (l : List Ev) (hE : Evs w A n l) (hk : k < n) :
    CallsIn Fence.wide 6 Tryz.prog 95 #[.slice A n cap, .int .i64 k] w fun e w' => e = .returned (.agg #[.int .i64 (lifeOf l k).txn, .int .i64 (lifeOf l k).from_, .int .i64 (lifeOf l k).till, .bool (lifeOf l k).com]) ∧ Ext w w' := by
  obtain ⟨b, o, rfl, h0, h1, h2, h3⟩ := hE.opn (by omega)
  have hl := hid hE.len
  have hbig := hE.big
  have hX0 := Ext.refl w
  refine callsIn_of_wp_marks Tryz.func95 rfl trivial ?_ rfl
  simp only [Tryz.ntmps95, List.size_toArray, List.length_cons, List.length_nil, Nat.reduceAdd, Nat.reduceSub, Array.replicate_succ, Array.replicate_zero, List.push_toArray, List.append_toArray, List.nil_append, List.cons_append]
  gi_wp2
  refine wpIn_scope_straight ?_
  gi_wp2
  refine wpIn_label ?_
  gi_wp2_with (refine ⟨trivial, ?_⟩; gi_at_call 125; refine (h_of _ _ _ _ _).mono ?_; rintro e w' ⟨rfl, rfl⟩)
  have hX := (((((Ext.refl w).alloc (.cells #[.int .i64 0, .int .i64 0, .int .i64 0, .bool false] 52)).alloc (.cells #[.int .i64 (nth l k).txn, .int .i64 k, .int .i64 n, .bool false] 52)).alloc (.cells #[.slice (some ⟨b, o, none⟩) n cap] 22)).alloc (.cells #[.int .i64 (nth l k).txn] 3))
  have b0 := ((((Blk.new w 52 #[.int .i64 0, .int .i64 0, .int .i64 0, .bool false]).alloc (.cells #[.int .i64 (nth l k).txn, .int .i64 k, .int .i64 n, .bool false] 52)).alloc (.cells #[.slice (some ⟨b, o, none⟩) n cap] 22)).alloc (.cells #[.int .i64 (nth l k).txn] 3))
  have b1 := (((Blk.new (w.alloc (.cells #[.int .i64 0, .int .i64 0, .int .i64 0, .bool false] 52)) 52 #[.int .i64 (nth l k).txn, .int .i64 k, .int .i64 n, .bool false]).alloc (.cells #[.slice (some ⟨b, o, none⟩) n cap] 22)).alloc (.cells #[.int .i64 (nth l k).txn] 3))
  have b2 := ((Blk.new ((w.alloc (.cells #[.int .i64 0, .int .i64 0, .int .i64 0, .bool false] 52)).alloc (.cells #[.int .i64 (nth l k).txn, .int .i64 k, .int .i64 n, .bool false] 52)) 22 #[.slice (some ⟨b, o, none⟩) n cap]).alloc (.cells #[.int .i64 (nth l k).txn] 3))
  have b3 := (Blk.new (((w.alloc (.cells #[.int .i64 0, .int .i64 0, .int .i64 0, .bool false] 52)).alloc (.cells #[.int .i64 (nth l k).txn, .int .i64 k, .int .i64 n, .bool false] 52)).alloc (.cells #[.slice (some ⟨b, o, none⟩) n cap] 22)) 3 #[.int .i64 (nth l k).txn])
  simp only [World.size_alloc] at b0 b1 b2 b3
  obtain ⟨W0, hW0⟩ : ∃ W, ((((w.alloc (.cells #[.int .i64 0, .int .i64 0, .int .i64 0, .bool false] 52)).alloc (.cells #[.int .i64 (nth l k).txn, .int .i64 k, .int .i64 n, .bool false] 52)).alloc (.cells #[.slice (some ⟨b, o, none⟩) n cap] 22)).alloc (.cells #[.int .i64 (nth l k).txn] 3)) = W := ⟨_, rfl⟩
  rw [hW0] at hX b0 b1 b2 b3 ⊢
  have hs0 : Hid (W0.heap.size = w.heap.size + 4) := hid (by rw [← hW0]; simp)
  clear hW0
  have hbs : ∀ b ∈ [w.heap.size + 1 + 1, w.heap.size + 1 + 1 + 1], b < W0.heap.size := by have := hs0.out; intro b hb; simp at hb; omega
  refine wpIn_rangeFunc_ownH rfl (by decide) (gf := 153) (lb := #[.pointer (some ⟨w.heap.size + 1 + 1, 0, none⟩), .pointer (some ⟨w.heap.size + 1 + 1 + 1, 0, none⟩)]) rfl trivial (enters_of Tryz.func153 (by kernel_rfl) rfl)
    (h_of1 w W0 _ n cap _ _ l (nth l k).txn hE hX b2 b3) kpB_t (kpB_b hX.le hbs) (Below.refl _ _) (fun _ => rfl)
    (fun pre W => (Blk W w.heap.size 52 #[.int .i64 0, .int .i64 0, .int .i64 0, .bool false] ∧ Blk W (w.heap.size + 1) 52 #[.int .i64 (nth l k).txn, .int .i64 k, .int .i64 n, .bool false]) ∧ (Ext w W ∧ W0.heap.size ≤ W.heap.size) ∧ Hid (∀ x ∈ pre, ends x.1 = false))
    (fun c pre W => (∃ q x, (c = .exit 0 ∧ pre = q ++ [x] ∧ (∀ y ∈ q, ends y.1 = false) ∧ ends x.1 = true) ∧ Blk W w.heap.size 52 #[.int .i64 0, .int .i64 0, .int .i64 0, .bool false] ∧ Blk W (w.heap.size + 1) 52 #[.int .i64 (nth l k).txn, .int .i64 k, .int .i64 (x.2 : Int), .bool (x.1.kind == 4)]) ∧ Ext w W)
    (OwnFrom.and (Own.from (own_and (blk_own _ _ _) (blk_own _ _ _)) _) (OwnFrom.and (OwnFrom.and (ownFrom_ext hX.le) (ownFrom_size _ _)) (ownFrom_pure _ _)))
    (fun c => OwnFrom.and (fun s X Y row hs hg hr => by
      obtain ⟨q, x, h1, h2, h3⟩ := hs
      exact ⟨q, x, h1, Own.from (blk_own _ _ (fun (_ : Unit) => _)) _ () X Y row h2 hg hr, Own.from (blk_own _ _ (fun (_ : Unit) => _)) _ () X Y row h3 hg hr⟩) (ownFrom_ext hX.le))
    ⟨⟨b0, b1⟩, ⟨hX, Nat.le_refl _⟩, hid (fun _ h => by cases h)⟩
    (fun x a' W => ∃ Bx, W0.heap.size ≤ Bx ∧ Blk W Bx 50 #[.int .i64 x.1.kind, .int .i64 x.1.txn, .string x.1.key, .string x.1.val] ∧ a' = { tmps := #[.slice (some ⟨b, o, none⟩) n cap, .int .i64 k, undef, undef, .pointer (some ⟨w.heap.size, 0, none⟩), .pointer (some ⟨w.heap.size + 1, 0, none⟩), .int .i64 (x.2 : Int), .pointer (some ⟨Bx, 0, none⟩), .slice (some ⟨b, o, none⟩) n cap, .int .i64 k, .pointer (some ⟨b, o + k * 4, none⟩), .pointer (some ⟨b, o + k * 4 + 1, none⟩), .int .i64 (nth l k).txn, .int .i64 k, .slice (some ⟨b, o, none⟩) n cap, .int .i64 n, .agg #[.int .i64 (nth l k).txn, .int .i64 k, .int .i64 n, .bool false], .slice (some ⟨b, o, none⟩) n cap, .pointer (some ⟨w.heap.size + 1, 0, none⟩), .int .i64 (nth l k).txn, .func (.func 153) #[] #[.pointer (some ⟨w.heap.size + 1 + 1, 0, none⟩), .pointer (some ⟨w.heap.size + 1 + 1 + 1, 0, none⟩)], .int .i64 (x.2 : Int), .agg #[.int .i64 x.1.kind, .int .i64 x.1.txn, .string x.1.key, .string x.1.val], undef, undef, undef, undef, undef, undef, undef, undef, undef], defers := [] })
    (fun x a' _ X Y row hs hg hr => by obtain ⟨Bx, h1, h2, h3⟩ := hs; exact ⟨Bx, h1, blk_own Bx 50 (fun (_ : Unit) => #[.int .i64 x.1.kind, .int .i64 x.1.txn, .string x.1.key, .string x.1.val]) () X Y row h2 hg (fun r e => (hr r e).2), h3⟩)
    ?assign ?body ?done ?stop
  case assign =>
    rintro lp pre x W K ⟨⟨c0, c1⟩, ⟨hW, hZ⟩, hq⟩ hK
    simp only [encEv]
    gi_wp2
    have hs1 := hs0.out
    exact hK _ _ ((KeepsOthers.alloc _ _).from _) (kpB_alloc (kpB_refl _ _ _) hW (fun b hb => Nat.lt_of_lt_of_le (hbs b hb) hZ) _) ⟨⟨c0.alloc _, c1.alloc _⟩, ⟨hW.alloc _, by simp; omega⟩, hq⟩ ⟨W.heap.size, hZ, Blk.new W _ _, rfl⟩
  case body =>
    rintro lp pre x a' W hl ⟨r, hr⟩ ⟨⟨c0, c1⟩, ⟨hW, hZ⟩, hq⟩ ⟨Bx, hBx, cX, rfl⟩ hlt
    obtain ⟨x0, x1, x2, x3⟩ := cX.cells4
    have k1 := c1.cells4
    have f1 := c1.frozen
    have HX := hid cX.cells4
    have hs1 := hs0.out
    have hne : Bx ≠ w.heap.size + 1 := by omega
    have hz1 := c1.lt
    clear hs1
    have hb3 : ∀ b' ∈ [w.heap.size + 1 + 1, w.heap.size + 1 + 1 + 1], b' < W.heap.size := fun b' hb => Nat.lt_of_lt_of_le (hbs b' hb) hZ
    by_cases he : ends x.1 = true
    · gi_wp2_with (refine ⟨trivial, ?_⟩; gi_at_call 126; refine (CallsIn.inRound lp (callsIn_wide.2 (h_ends _ x.1))).mono ?_; rintro e w' ⟨rfl, hx1⟩)
      have cX1 := cX.ext hx1
      have c11 := c1.ext hx1
      have c01 := c0.ext hx1
      clear x0 x1 x2 x3 k1 f1 HX
      obtain ⟨y0, y1, y2, y3⟩ := cX1.cells4
      obtain ⟨z0, z1, z2, z3⟩ := c11.cells4
      have f2 := c11.frozen 2
      have f3 := c11.frozen 3
      clear h0 h1 h2 h3
      gi_region
      all_goals gi_wp2
      all_goals
        have hs1 := hs0.out
        have cF := ((c11.set 2 (.int .i64 (x.2 : Int))).set 3 (.bool (x.1.kind == 4))).drew
        refine ⟨KeepsFrom.trans (keepsFrom_ext (KeepsFrom.refl _ _) hx1) (KeepsOthers.from (((KeepsOthers.setCell _ _ _).trans (KeepsOthers.setCell _ _ _)).trans (KeepsOthers.drew _)) _), ⟨pre, x, ⟨rfl, rfl, hq.out, he⟩, ((c01.far (by simp) _).far (by simp) _).drew, cF⟩, (((hW.trans hx1).setCell (by simp) _).setCell (by simp) _).drew⟩
    · have he' : ends x.1 = false := by simpa using he
      clear he
      gi_wp2_with (refine ⟨trivial, ?_⟩; gi_at_call 126; refine (CallsIn.inRound lp (callsIn_wide.2 (h_ends _ x.1))).mono ?_; rintro e w' ⟨rfl, hx1⟩)
      refine ⟨keepsFrom_ext (KeepsFrom.refl _ _) hx1, kpB_ext (kpB_refl _ _ _) hW hb3 hx1, ⟨c0.ext hx1, c1.ext hx1⟩, ⟨hW.trans hx1, Nat.le_trans hZ hx1.le⟩, hid ?_⟩
      intro y hy
      rcases List.mem_append.1 hy with h | h
      · exact hq.out y h
      · simp at h; rw [h]; exact he'
  case done =>
    rintro D ys W hD rfl ⟨⟨c0, c1⟩, ⟨hW, hZ⟩, hq⟩ hK
    have hs1 := hs0
    clear hs0
    have k0 := c0.cells4
    have k1 := c1.cells4
    have f0 := c0.frozen
    gi_wp2
    rw [Exit.noGoto_ret]
    have hs2 := hs1.out
    have hWl := hX.le
    have c4 : Blk ((((W.setCell ⟨w.heap.size, 0, none⟩ (.int .i64 (nth l k).txn)).setCell ⟨w.heap.size, 1, none⟩ (.int .i64 k)).setCell ⟨w.heap.size, 2, none⟩ (.int .i64 ((n : Int)))).setCell ⟨w.heap.size, 3, none⟩ (.bool (false))) w.heap.size 52 #[.int .i64 (nth l k).txn, .int .i64 k, .int .i64 ((n : Int)), .bool (false)] := (((c0.set 0 _).set 1 _).set 2 _).set 3 _
    have hK4 := ((((KeepsOthers.setCell W ⟨w.heap.size, 0, none⟩ (.int .i64 (nth l k).txn)).trans (KeepsOthers.setCell _ ⟨w.heap.size, 1, none⟩ (.int .i64 k))).trans (KeepsOthers.setCell _ ⟨w.heap.size, 2, none⟩ (.int .i64 ((n : Int))))).trans (KeepsOthers.setCell _ ⟨w.heap.size, 3, none⟩ (.bool (false)))).same D _ hK rfl
    have hW4 := (((hW.setCell (p := ⟨w.heap.size, 0, none⟩) (Nat.le_refl _) (.int .i64 (nth l k).txn)).setCell (p := ⟨w.heap.size, 1, none⟩) (Nat.le_refl _) (.int .i64 k)).setCell (p := ⟨w.heap.size, 2, none⟩) (Nat.le_refl _) (.int .i64 ((n : Int)))).setCell (p := ⟨w.heap.size, 3, none⟩) (Nat.le_refl _) (.bool (false))
    refine ⟨by simp, .inl ⟨_, _, rfl, run_takeDeferred hK4, ?_⟩⟩
    have c5 := c4.grown (grownBy_putObj' _ D (.deferred none)) (by simp; omega)
    have hW5 := hW4.grown (grownBy_putObj' _ D (.deferred none)) (fun k e => by cases e; omega)
    generalize World.putObj _ D (.deferred none) = W9 at c5 hW5 ⊢
    obtain ⟨p0, p1, p2, p3⟩ := c5.cells4
    refine ⟨.agg #[.int .i64 (nth l k).txn, .int .i64 k, .int .i64 ((n : Int)), .bool (false)], by simp [results, Tryz.results95, go_sem, p0, p1, p2, p3], ?_, hW5⟩
    have hlf : lifeOf l k = ⟨(nth l k).txn, k, (n : Int), false⟩ := by
      unfold lifeOf
      rw [find_none hq.out]
      simp [hE.len]
    rw [hlf]
  case stop =>
    rintro D c pre W hD hp ⟨⟨q, x, ⟨rfl, rfl, hq, he⟩, c0, c1⟩, hW⟩ hK
    have hs1 := hs0
    clear hs0
    have k0 := c0.cells4
    have k1 := c1.cells4
    have f0 := c0.frozen
    gi_wp2
    rw [Exit.noGoto_ret]
    have hs2 := hs1.out
    have hWl := hX.le
    have c4 : Blk ((((W.setCell ⟨w.heap.size, 0, none⟩ (.int .i64 (nth l k).txn)).setCell ⟨w.heap.size, 1, none⟩ (.int .i64 k)).setCell ⟨w.heap.size, 2, none⟩ (.int .i64 ((x.2 : Int)))).setCell ⟨w.heap.size, 3, none⟩ (.bool (x.1.kind == 4))) w.heap.size 52 #[.int .i64 (nth l k).txn, .int .i64 k, .int .i64 ((x.2 : Int)), .bool (x.1.kind == 4)] := (((c0.set 0 _).set 1 _).set 2 _).set 3 _
    have hK4 := ((((KeepsOthers.setCell W ⟨w.heap.size, 0, none⟩ (.int .i64 (nth l k).txn)).trans (KeepsOthers.setCell _ ⟨w.heap.size, 1, none⟩ (.int .i64 k))).trans (KeepsOthers.setCell _ ⟨w.heap.size, 2, none⟩ (.int .i64 ((x.2 : Int))))).trans (KeepsOthers.setCell _ ⟨w.heap.size, 3, none⟩ (.bool (x.1.kind == 4)))).same D _ hK rfl
    have hW4 := (((hW.setCell (p := ⟨w.heap.size, 0, none⟩) (Nat.le_refl _) (.int .i64 (nth l k).txn)).setCell (p := ⟨w.heap.size, 1, none⟩) (Nat.le_refl _) (.int .i64 k)).setCell (p := ⟨w.heap.size, 2, none⟩) (Nat.le_refl _) (.int .i64 ((x.2 : Int)))).setCell (p := ⟨w.heap.size, 3, none⟩) (Nat.le_refl _) (.bool (x.1.kind == 4))
    refine ⟨by simp, .inl ⟨_, _, rfl, run_takeDeferred hK4, ?_⟩⟩
    have c5 := c4.grown (grownBy_putObj' _ D (.deferred none)) (by simp; omega)
    have hW5 := hW4.grown (grownBy_putObj' _ D (.deferred none)) (fun k e => by cases e; omega)
    generalize World.putObj _ D (.deferred none) = W9 at c5 hW5 ⊢
    obtain ⟨p0, p1, p2, p3⟩ := c5.cells4
    refine ⟨.agg #[.int .i64 (nth l k).txn, .int .i64 k, .int .i64 ((x.2 : Int)), .bool (x.1.kind == 4)], by simp [results, Tryz.results95, go_sem, p0, p1, p2, p3], ?_, hW5⟩
    have hlf : lifeOf l k = ⟨(nth l k).txn, k, (x.2 : Int), x.1.kind == 4⟩ := by
      unfold lifeOf
      rw [find_prefix hp hq he]
    rw [hlf]

theorem h_life (w : World) (A : Option Addr) (n cap k : Nat) (l : List Ev) (hE : Evs w A n l) (hk : k < n) :
    Calls Tryz.prog 95 #[.slice A n cap, .int .i64 k] w fun e w' => e = .returned (.agg #[.int .i64 (lifeOf l k).txn, .int .i64 (lifeOf l k).from_, .int .i64 (lifeOf l k).till, .bool (lifeOf l k).com]) ∧ Ext w w' :=
  callsIn_wide.1 (h_life_in w A n cap k l hE hk)

set_option maxHeartbeats 400000 in
theorem h_find1 (w : World) (x : Ev) (bt : Nat) (txn : Int) (ht : w.cell? ⟨bt, 0, none⟩ = some (.int .i64 txn)) :
    Calls Tryz.prog 139 #[.agg #[.int .i64 x.kind, .int .i64 x.txn, .string x.key, .string x.val], .pointer (some ⟨bt, 0, none⟩)] w fun e w' => e = .returned (.bool (isOf txn x)) ∧ Ext w w' := by
  have hX := Ext.refl w
  have hc := fun (o : Obj) => (hX.alloc o).cell ht
  go_enter Tryz.func139, Tryz.ntmps139
  go_wp2
  go_ret
  exact ⟨ret_bool rfl, hX.alloc _⟩

set_option maxHeartbeats 1000000 in
theorem h_find (w : World) (A : Option Addr) (n cap : Nat) (l : List Ev) (txn : Int) (hE : Evs w A n l) :
    Calls Tryz.prog 98 #[.slice A n cap, .int .i64 txn] w fun e w' => e = .returned (.tuple #[.agg #[.int .i64 (findL l txn).1.txn, .int .i64 (findL l txn).1.from_, .int .i64 (findL l txn).1.till, .bool (findL l txn).1.com], .bool (findL l txn).2]) ∧ Ext w w' := by
  have hX := Ext.refl w
  have hbig := hE.big
  have hf1 : -1 ≤ firstOf l txn ∧ firstOf l txn < (n : Int) := by have := idx_lt (isOf txn) l; rwa [hE.len] at this
  have HC : ∀ (W : World), Ext ((w.alloc (.cells #[.int .i64 txn] 3)).alloc (.cells #[.int .i64 0, .int .i64 0, .int .i64 0, .bool false] 52)) W → ∀ x : Ev, Calls Tryz.prog 139 (#[.agg #[.int .i64 x.kind, .int .i64 x.txn, .string x.key, .string x.val]] ++ #[.pointer (some ⟨w.heap.size, 0, none⟩)]) W fun e w' => e = .returned (.bool (isOf txn x)) ∧ Ext W w' := fun W hW x =>
    h_find1 W x w.heap.size txn (hW.cell (((Blk.new w 3 #[.int .i64 txn]).alloc _).cell0))
  have HC1 := hid HC
  clear HC
  have HI := hid (idxEv 139 #[.pointer (some ⟨w.heap.size, 0, none⟩)] (isOf txn) ((w.alloc (.cells #[.int .i64 txn] 3)).alloc (.cells #[.int .i64 0, .int .i64 0, .int .i64 0, .bool false] 52)) A n cap l (hE.ext ((hX.alloc _).alloc _)) (enters_of Tryz.func139 (by kernel_rfl) rfl) (fun W x hW => HC1.out W hW x))
  by_cases hf : firstOf l txn < 0
  · have hfin : Hid (findL l txn = (Life.z, false)) := hid (by unfold findL; rw [if_pos hf])
    have hf2 : Hid (idx (isOf txn) l 0 = firstOf l txn) := hid rfl
    clear hf1
    go_enter Tryz.func98, Tryz.ntmps98
    go_wp2_with (go_at_call 138; refine HI.out.mono ?_; rintro e w1 ⟨rfl, hx1⟩; have b1 := ((Blk.new (w.alloc (.cells #[.int .i64 txn] 3)) 52 #[.int .i64 0, .int .i64 0, .int .i64 0, .bool false]).ext hx1); rw [World.size_alloc] at b1; have hX1 := Ext.trans ((hX.alloc _).alloc _) hx1; rw [hf2.out]; obtain ⟨p0, p1, p2, p3⟩ := b1.cells4; have f0 := b1.frozen)
    have b5 : Blk ((((w1.setCell ⟨w.heap.size + 1, 0, none⟩ (.int .i64 (0))).setCell ⟨w.heap.size + 1, 1, none⟩ (.int .i64 (0))).setCell ⟨w.heap.size + 1, 2, none⟩ (.int .i64 (0))).setCell ⟨w.heap.size + 1, 3, none⟩ (.bool (false))) (w.heap.size + 1) 52 #[.int .i64 (0), .int .i64 (0), .int .i64 (0), .bool (false)] := (((b1.set 0 _).set 1 _).set 2 _).set 3 _
    obtain ⟨q0, q1, q2, q3⟩ := b5.cells4
    refine bodyPost_ret (v := .tuple #[.agg #[.int .i64 (0), .int .i64 (0), .int .i64 (0), .bool (false)], .bool false]) (by simp [results, Tryz.results98, go_sem, q0, q1, q2, q3]) rfl ⟨?_, ((((hX1.setCell (by simp) _).setCell (by simp) _).setCell (by simp) _).setCell (by simp) _)⟩
    rw [hfin.out]; rfl
  · obtain ⟨k, hk⟩ := Int.eq_ofNat_of_zero_le (show 0 ≤ firstOf l txn by omega)
    have hfin : Hid (findL l txn = (lifeOf l k, true)) := hid (lifeOf_find l txn hk)
    have hf2 : Hid (idx (isOf txn) l 0 = (k : Int)) := hid hk
    have hkn : k < n := by omega
    clear hf1 hf hk
    go_enter Tryz.func98, Tryz.ntmps98
    go_wp2_with (first
      | (go_at_call 138; refine HI.out.mono ?_; rintro e w1 ⟨rfl, hx1⟩; have b1 := ((Blk.new (w.alloc (.cells #[.int .i64 txn] 3)) 52 #[.int .i64 0, .int .i64 0, .int .i64 0, .bool false]).ext hx1); rw [World.size_alloc] at b1; have hX1 := Ext.trans ((hX.alloc _).alloc _) hx1; rw [hf2.out]; obtain ⟨p0, p1, p2, p3⟩ := b1.cells4; have f0 := b1.frozen)
      | (go_at_call 95; refine (h_life _ _ _ _ _ _ (hE.ext (by assumption)) hkn).mono ?_; rintro e w2 ⟨rfl, hx2⟩; have b2 := b1.ext hx2; have hX2 := hX1.trans hx2; clear p0 p1 p2 p3 f0; obtain ⟨p0, p1, p2, p3⟩ := b2.cells4; have f0 := b2.frozen))
    have b5 : Blk ((((w2.setCell ⟨w.heap.size + 1, 0, none⟩ (.int .i64 ((lifeOf l k).txn))).setCell ⟨w.heap.size + 1, 1, none⟩ (.int .i64 ((lifeOf l k).from_))).setCell ⟨w.heap.size + 1, 2, none⟩ (.int .i64 ((lifeOf l k).till))).setCell ⟨w.heap.size + 1, 3, none⟩ (.bool ((lifeOf l k).com))) (w.heap.size + 1) 52 #[.int .i64 ((lifeOf l k).txn), .int .i64 ((lifeOf l k).from_), .int .i64 ((lifeOf l k).till), .bool ((lifeOf l k).com)] := (((b2.set 0 _).set 1 _).set 2 _).set 3 _
    obtain ⟨q0, q1, q2, q3⟩ := b5.cells4
    refine bodyPost_ret (v := .tuple #[.agg #[.int .i64 ((lifeOf l k).txn), .int .i64 ((lifeOf l k).from_), .int .i64 ((lifeOf l k).till), .bool ((lifeOf l k).com)], .bool true]) (by simp [results, Tryz.results98, go_sem, q0, q1, q2, q3]) rfl ⟨?_, ((((hX2.setCell (by simp) _).setCell (by simp) _).setCell (by simp) _).setCell (by simp) _)⟩
    rw [hfin.out]

theorem h_writer (w : World) (A : Option Addr) (n cap : Nat) (l : List Ev) (key val : ByteArray) (hE : Evs w A n l) :
    Calls Tryz.prog 99 #[.slice A n cap, .string key, .string val] w fun e w' => e = .returned (.int .i64 (writer l key val)) ∧ Ext w w' := by
  have hX := Ext.refl w
  have HC : ∀ (W : World) (x : Ev), Ext ((w.alloc (.cells #[.string key] 9)).alloc (.cells #[.string val] 9)) W → Calls Tryz.prog 140 (#[.agg #[.int .i64 x.kind, .int .i64 x.txn, .string x.key, .string x.val]] ++ #[.pointer (some ⟨w.heap.size, 0, none⟩), .pointer (some ⟨w.heap.size + 1, 0, none⟩)]) W fun e w' => e = .returned (.bool (writes key val x)) ∧ Ext W w' := fun W x hW =>
    h_writer1 W x w.heap.size (w.heap.size + 1) key val
      (fun V hV => (hW.trans hV).cell (((Blk.new w 9 #[.string key]).alloc _).cell0))
      (fun V hV => (hW.trans hV).cell (by have := (Blk.new (w.alloc (.cells #[.string key] 9)) 9 #[.string val]).cell0; rwa [World.size_alloc] at this))
  have HI := hid (idxEv 140 #[.pointer (some ⟨w.heap.size, 0, none⟩), .pointer (some ⟨w.heap.size + 1, 0, none⟩)] (writes key val) ((w.alloc (.cells #[.string key] 9)).alloc (.cells #[.string val] 9)) A n cap l (hE.ext ((hX.alloc _).alloc _)) (enters_of Tryz.func140 (by kernel_rfl) rfl) HC)
  clear HC
  go_enter Tryz.func99, Tryz.ntmps99
  go_wp2_with (go_at_call 138; refine HI.out.mono ?_; rintro e w1 ⟨rfl, hx1⟩)
  go_ret
  exact ⟨rfl, Ext.trans ((hX.alloc _).alloc _) hx1⟩

end
end Go.Proofs.YtebjiimlcnmfpaaGreat

/-! slices.IndexFunc at ints, for whatever function value; edges.of's search for a version. -/
namespace Go.Proofs.YtebjiimlcnmfpaaGreat
section
section
open Go Go.RowKit Go.Proofs Go.Shelf
attribute [local go_sem] Ext.alloc Ext.alloc2 Ext.alloc3 Ext.alloc4 Ext.drewN_alloc Ext.drewN_alloc2 Ext.drew_alloc Ext.drew Ext.drewN toList_beq

set_option maxHeartbeats 1000000 in
theorem idxInt (g : Nat) (caps : Array Value) (p : Int → Bool) (w : World) (A : Option Addr) (n cap : Nat) (l : List Int) (hE : Nums w A n l)
    (eg : ∀ args w, (callFunc g args).run Tryz.prog w = .ok (.enter g args) w)
    (hg : ∀ (W : World) (k : Nat), k < n → Ext w W → Calls Tryz.prog g (#[.int .i64 (inth l k)] ++ caps) W fun e w' => e = .returned (.bool (p (inth l k))) ∧ Ext W w') :
    Calls Tryz.prog 89 #[.slice A n cap, .func (.func g) #[] caps] w fun e w' => e = .returned (.int .i64 (idx p l 0)) ∧ Ext w w' := by
  have hX := Ext.refl w
  have hl := hid (Sl.len hE)
  have hbig := hE.big
  have HG := hid hg
  clear hg
  go_enter Tryz.func89, Tryz.ntmps89
  go_wp2
  go_loopw [8] (fun i W => Ext w W ∧ ∃ k : Nat, k ≤ n ∧ i = .int .i64 k ∧ Hid (idx p (l.drop k) k = idx p l 0)) (fun i _ => n - (intOf i).toNat)
  case atStart => exact ⟨hX, 0, by omega, rfl, hid rfl⟩
  case round =>
    obtain ⟨hW, k, hk1, rfl, hr⟩ := hrel
    by_cases hlt : k < n
    · obtain ⟨b, o, rfl, h0⟩ := hE.opn (by omega)
      have hs := hid (drop_step l (0 : Int) (k := k) (by rw [hl.out]; omega))
      go_wp2
      refine (HG.out _ k hlt hW).mono ?_
      rintro e w1 ⟨rfl, hx1⟩
      cases hp : p (inth l k)
      · have hp' := hid hp; clear hp
        go_wp2
        go_roundw
        case rel => exact ⟨hW.trans hx1, k + 1, by omega, by go_num, hid (by rw [← hr.out, hs.out, idx_cons]; exact (if_neg (by rw [show l.getD k (0 : Int) = inth l k from rfl, hp'.out]; simp)).symm)⟩
        case measure => simp [intOf]; omega
      · have hp' := hid hp; clear hp
        go_wp2
        go_ret
        refine ⟨ret_int ?_, hW.trans hx1⟩
        rw [← hr.out, hs.out, idx_cons]
        exact (if_pos hp'.out).symm
    · go_wp2
      go_ret
      refine ⟨ret_int ?_, hW⟩
      rw [← hr.out, drop_end _ (by rw [hl.out]; omega)]
      rfl

set_option maxHeartbeats 1000000 in
theorem e_same (W : World) (b o n cap bh bi i k : Nat) (l : List Ev) (hE : Evs W (some ⟨b, o, none⟩) n l) (hh : W.cell? ⟨bh, 0, none⟩ = some (.slice (some ⟨b, o, none⟩) n cap)) (hc : W.cell? ⟨bi, 0, none⟩ = some (.int .i64 (i : Int))) (hi : i < n) (hk : k < n) :
    Calls Tryz.prog 90 #[.int .i64 (k : Int), .pointer (some ⟨bh, 0, none⟩), .pointer (some ⟨bi, 0, none⟩)] W fun e w' => e = .returned (.bool (decide ((nth l k).val = (nth l i).val))) ∧ Ext W w' := by
  have hX := Ext.refl W
  have hbig := hE.big
  obtain ⟨b', o', e', h0, h1, h2, h3⟩ := hE.opn (by omega)
  cases e'
  have hti := h3 W i hX hi
  have htk := h3 W k hX hk
  clear hE h0 h1 h2 h3
  go_enter Tryz.func90, Tryz.ntmps90
  go_wp2
  go_quiet (fail)
  go_wp2
  go_ret
  exact ⟨rfl, (by repeat (first | assumption | apply Ext.alloc | apply Ext.drewN | apply Ext.drew | (refine Ext.setCell (by simp <;> omega) ?_ _)))⟩
end
end
end Go.Proofs.YtebjiimlcnmfpaaGreat
