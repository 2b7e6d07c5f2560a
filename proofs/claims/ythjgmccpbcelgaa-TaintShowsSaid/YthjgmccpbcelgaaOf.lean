/-
  The iterator over a transaction's events.
-/
import Derived.Test.YthjgmccpbcelgaaProg
import Derived.Test.YthjgmccpbcelgaaSpec
namespace Go.Proofs.Ythjgmccpbcelgaa
open Go Go.RowKit Go.Proofs Go.Shelf
set_option linter.unusedSimpArgs false
set_option linter.unusedVariables false
attribute [local go_sem] Ext.alloc Ext.drew Ext.drewN toList_beq Oper.semAt_some

def encEv (x : Ev × Nat) : Array Value := #[.int .i64 (x.2 : Int), .agg #[.int .i64 x.1.kind, .int .i64 x.1.txn, .string x.1.key, .string x.1.val]]

set_option maxHeartbeats 400000 in
theorem h_of (w : World) (A : Option Addr) (n cap : Nat) (txn : Int) :
    CallsIn Fence.wide 5 Try.prog 105 #[.slice A n cap, .int .i64 txn] w fun e w' => e = .returned (.func (.func 128) #[] #[.pointer (some ⟨w.heap.size, 0, none⟩), .pointer (some ⟨w.heap.size + 1, 0, none⟩)]) ∧ w' = (w.alloc (.cells #[.slice A n cap] 22)).alloc (.cells #[.int .i64 txn] 3) := by
  refine callsIn_wide.2 ?_
  go_enter Try.func105, Try.ntmps105
  go_wp2
  go_ret
  exact ⟨rfl, rfl⟩

set_option maxHeartbeats 1000000 in
theorem h_of1 (w wc : World) (A : Option Addr) (n cap bh bt : Nat) (l : List Ev) (txn : Int) (hE : Evs w A n l) (hwc : Ext w wc) (hh : Blk wc bh 22 #[.slice A n cap]) (ht : Blk wc bt 3 #[.int .i64 txn]) :
    Yields Try.prog 128 #[.pointer (some ⟨bh, 0, none⟩), .pointer (some ⟨bt, 0, none⟩)] encEv (ofs txn l) w [bh, bt] wc := by
  intro lp J Jx W0 hW0 hJ hJx hY hJ0
  have hl := hid hE.len
  have hbig := hE.big
  have hX : Ext w W0 := hwc.trans hW0
  have hcc := hid (⟨(hh.ext hW0), (ht.ext hW0)⟩ : Blk W0 bh _ _ ∧ Blk W0 bt _ _)
  have hc0 : W0.cell? ⟨bh, 0, none⟩ = some (.slice A n cap) := hcc.out.1.cell 0
  clear hh ht
  refine callsIn_of_wp Try.func128 rfl trivial ?_ rfl
  simp only [Try.ntmps128, List.size_toArray, List.length_cons, List.length_nil, Nat.reduceAdd, Nat.reduceSub, Array.replicate_succ, Array.replicate_zero, List.push_toArray, List.append_toArray, List.nil_append, List.cons_append]
  gi_wp2
  gi_loopw [8] (fun i W => Ext w W ∧ Hid (Blk W bh 22 #[.slice A n cap] ∧ Blk W bt 3 #[.int .i64 txn]) ∧ ∃ k : Nat, k ≤ n ∧ i = .int .i64 k ∧ J (ofs txn (l.take k)) W) (fun i _ => n - (intOf i).toNat)
  case atStart => exact ⟨hX, hcc, 0, by omega, rfl, hJ0⟩
  case round =>
    obtain ⟨hW, hbb, k, hk1, rfl, hJk⟩ := hrel
    have hct : wr.cell? ⟨bt, 0, none⟩ = some (.int .i64 txn) := hbb.out.2.cell 0
    have hbt := hbb.out.2.lt
    by_cases hlt : k < n
    · obtain ⟨b, o, rfl, h0, h1, h2, h3⟩ := hE.opn (by omega)
      have hst := ofs_step txn l (k := k) (by rw [hl.out]; exact hlt)
      by_cases hp : isOf txn (nth l k) = true
      · rw [if_pos hp] at hst
        have hst' := hid hst
        have hp' : ((nth l k).txn == txn) = true := hp
        have htx : (nth l k).txn = txn := by simpa using hp'
        clear hst
        have hJ1 := hJ _ _ (wr.alloc (.cells #[.int .i64 (nth l k).kind, .int .i64 txn, .string (nth l k).key, .string (nth l k).val] 31)) none hJk (World.grownBy_alloc _ _ _) (fun r e => by cases e)
        have hlen : Hid ((ofs txn (List.take k l)).length < (ofs txn l).length) := hid (by
          have := (ofs_prefix txn l (k := k + 1)).length_le
          rw [hst'.out] at this
          simp at this; omega)
        obtain ⟨fn, tmps, assign, body, hy, hR⟩ := hY _ (nth l k, k) _ hJ1 hlen.out
        have HR := hid hR
        clear hR hJ1
        dsimp only [encEv] at hy
        rw [htx] at hy
        clear hp
        gi_wp2
        refine HR.out.mono ?_
        rintro e W3 (⟨rfl, hJ3, hk3⟩ | ⟨rfl, hJx3⟩)
        · have hW3 : Ext w W3 := Below.trans (hW.alloc _) hk3.1
          have hb3 := hid (⟨(hk3.2 bh (by simp)).trans (hbb.out.1.alloc _), (hk3.2 bt (by simp)).trans (hbb.out.2.alloc _)⟩ : Blk W3 bh _ _ ∧ Blk W3 bt _ _)
          gi_wp2
          go_roundw
          case rel => exact ⟨hW3, hb3, k + 1, by omega, by go_num, by rw [hst'.out]; exact hJ3⟩
          case measure => simp [intOf]; omega
        · gi_wp2
          refine bodyPost_ret (results_none rfl _ _ _) rfl ?_
          exact ⟨⟨_, rfl⟩, .inr ⟨_, by rw [← hst'.out]; exact ofs_prefix _ _, hJx3⟩⟩
      · rw [if_neg hp, List.append_nil] at hst
        have hst' := hid hst
        have hp' : ((nth l k).txn == txn) = false := by simpa [isOf] using hp
        clear hst hp
        gi_wp2
        refine ⟨fun _ h => (by cases h), ?_⟩
        gi_wp2
        go_roundw
        case rel => exact ⟨hW.alloc _, hid ⟨hbb.out.1.alloc _, hbb.out.2.alloc _⟩, k + 1, by omega, by go_num, by rw [hst'.out]; exact hJ _ _ _ none hJk (World.grownBy_alloc _ _ _) (fun r e => by cases e)⟩
        case measure => simp [intOf]; omega
    · gi_wp2
      go_end0
      refine ⟨⟨_, rfl⟩, .inl ⟨_, rfl, ?_⟩⟩
      rw [← show l.take k = l from List.take_of_length_le (by rw [hl.out]; omega)]
      exact hJk

end Go.Proofs.Ythjgmccpbcelgaa
