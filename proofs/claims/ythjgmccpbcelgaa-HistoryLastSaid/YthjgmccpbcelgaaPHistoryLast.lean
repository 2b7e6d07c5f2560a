/-
  The plain law of HistoryLast: what a transaction wrote last ahead of a place is such a write, and none stands behind it there.
-/
import Derived.Test.YthjgmccpbcelgaaPr45
import Derived.Test.YthjgmccpbcelgaaS08
import Derived.Test.YthjgmccpbcelgaaC1
set_option linter.unusedVariables false
set_option linter.unusedSimpArgs false
namespace Go.Proofs.YthjgmccpbcelgaaPr
open Go.Proofs.Ythjgmccpbcelgaa
open Go Go.RowKit

theorem last_l0 (xs : List S31) (hn : xs.length ≤ 300) (t : Int) (key : ByteArray) (before : Int) : ∀ (d i : Nat), i + d = xs.length → (∀ j : Nat, i ≤ j → j < xs.length → (j : Int) < before → wroteBy t key (nth (evs xs) j) = false) → Evt (fun k => cartouchelaw08_HistoryLast.l0 k xs t key before true (i : Int)) true := by
  have fin : ∀ i : Nat, Evt (fun k => cartouchelaw08_HistoryLast.j2 k xs t key before true (i : Int) false) true := fun i => Evt.now1 fun k => by
    simp only [cartouchelaw08_HistoryLast.j2]
    rw [if_neg (by simp)]
  intro d
  induction d with
  | zero =>
    intro i hi _
    refine Evt.step (fun k => ?_) (fin i)
    simp only [cartouchelaw08_HistoryLast.l0]
    rw [show decide ((i : Int) < (xs.length : Int)) = false from decide_eq_false (by omega)]
    split <;> rfl
  | succ d ih =>
    intro i hi hno
    by_cases hb : (i : Int) < before
    · have h0 := ih (i + 1) (by omega) (fun j h1 h2 h3 => hno j (by omega) h2 h3)
      have hw := hno i (by omega) (by omega) hb
      have h2 : Evt (fun k => cartouchelaw08_HistoryLast.j2 k xs t key before true (i : Int) true) true := by
        refine Evt.step (fun k => ?_) h0
        simp only [cartouchelaw08_HistoryLast.j2]
        rw [if_pos (by trivial), if_pos (by omega), if_pos (by omega), rd_f0, rd_f1, rd_f2, wrap_succ (n := xs.length) (by omega) (by omega)]
        simp only [Int.toNat_natCast]
        by_cases q1 : (nth (evs xs) i).kind = 3
        · rw [if_pos q1]
          by_cases q2 : (nth (evs xs) i).txn = t
          · rw [if_pos q2]
            by_cases q3 : (nth (evs xs) i).key = key
            · simp [wroteBy, q1, q2, q3] at hw
            · rw [if_neg (fun h => q3 (ba_list.1 h))]
          · rw [if_neg q2]
        · rw [if_neg q1]
      refine Evt.step (fun k => ?_) h2
      simp only [cartouchelaw08_HistoryLast.l0]
      rw [if_pos hb, show decide ((i : Int) < (xs.length : Int)) = true from decide_eq_true (by omega)]
    · refine Evt.step (fun k => ?_) (fin i)
      simp only [cartouchelaw08_HistoryLast.l0]
      rw [if_neg hb]

theorem p_HistoryLast (l : List S31) (t : Int) (key : ByteArray) (before : Int) (_ : ∀ y ∈ l, EvS y) : ∃ k, cartouchelaw08_HistoryLast.f k l t key before = some true := by
  apply Evt.rounds
  have hlen := evs_len l
  by_cases q : l.length ≤ 300
  · have hn : l.length ≤ 140737488351232 := by omega
    have e0 : ∀ k, cartouchelaw08_HistoryLast.f k l t key before = cartouchelaw08_HistoryLast.j0 k l t key before true (lastOf (evs l) t key before) false := fun k => by
      unfold cartouchelaw08_HistoryLast.f cartouchelaw08_few.f history_Last.f
      rw [shown08, if_pos hn]
      simp only [Option.bind_some]
      rw [if_pos (by simp; omega)]
      unfold lastOf
      rcases last_nth (wroteBy t key) (evs l) before.toNat with ⟨h1, _⟩ | ⟨m, hm, hm2, h1, h2, _⟩
      · rw [h1, if_neg (by omega), if_neg (by omega), if_neg (by omega)]
      · have h2' : (nth (evs l) m).kind = 3 ∧ (nth (evs l) m).txn = t ∧ (nth (evs l) m).key = key := by simpa [wroteBy] using h2
        rw [h1, if_neg (by omega), if_neg (by omega), if_pos (by omega), if_neg (by omega), if_pos (by omega), if_pos (by omega), rd_f0, rd_f1, rd_f2]
        simp only [Int.toNat_natCast]
        rw [if_pos h2'.1, if_pos h2'.2.1, h2'.2.2]
        simp
    refine Evt.congr e0 ?_
    unfold lastOf
    rcases last_nth (wroteBy t key) (evs l) before.toNat with ⟨h1, h2⟩ | ⟨m, hm, hm2, h1, _, h2⟩
    · rw [h1]
      refine Evt.step (fun k => ?_) (last_l0 l q t key before l.length 0 (by omega) (fun j _ hj hb => h2 j (by omega) (by omega)))
      simp only [cartouchelaw08_HistoryLast.j0]
      rw [if_neg (by simp), show wrap64 (-1 + 1) = ((0 : Nat) : Int) by rw [wrap_id (by omega) (by omega)]; rfl]
    · rw [h1]
      refine Evt.step (fun k => ?_) (last_l0 l q t key before (l.length - (m + 1)) (m + 1) (by omega) (fun j hj hj2 hb => h2 j (by omega) (by omega) (by omega)))
      simp only [cartouchelaw08_HistoryLast.j0]
      rw [if_neg (by simp), wrap_succ (n := l.length) (by omega) (by omega)]
  · refine Evt.now fun k => ?_
    unfold cartouchelaw08_HistoryLast.f cartouchelaw08_few.f
    rw [shown08]
    simp only [Option.bind_some]
    rw [if_neg (by simp; omega)]
end Go.Proofs.YthjgmccpbcelgaaPr
