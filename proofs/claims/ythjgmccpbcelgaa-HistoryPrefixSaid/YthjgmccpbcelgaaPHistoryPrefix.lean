/-
  The plain law of HistoryPrefix: what is wrong with a beginning of a history without reads is what is wrong with it there, or that a transaction doesn't end.
-/
import Derived.Test.YthjgmccpbcelgaaPr44
import Derived.Test.YthjgmccpbcelgaaS08
import Derived.Test.YthjgmccpbcelgaaC1
set_option linter.unusedVariables false
set_option linter.unusedSimpArgs false
namespace Go.Proofs.YthjgmccpbcelgaaPr
open Go.Proofs.Ythjgmccpbcelgaa
open Go Go.RowKit

theorem evs_take (l : List S31) (n : Nat) : evs (l.take n) = (evs l).take n := List.map_take

theorem prefix_j2 (ks : List S31) (hk : ks.length ≤ 256) (hr : ∀ x ∈ evs ks, x.kind ≠ 2) (n : Nat) (hn : n ≤ ks.length) : Evt (fun k => cartouchelaw08_HistoryPrefix.j2 k (n : Int) true ks) true := by
  refine Evt.now1 fun k => ?_
  have hlen := evs_len ks
  simp only [cartouchelaw08_HistoryPrefix.j2]
  unfold history_Formed.f
  rw [if_pos (by omega)]
  simp only [Option.bind_some, Int.toNat_natCast]
  rw [if_pos (by omega), if_pos (by omega), if_pos (by rw [List.length_take]; omega), evs_take]
  simp only [Option.bind_some]
  have tl : ((evs ks).take n).length = n := by rw [List.length_take]; omega
  have good : (∀ j, j < n → stepErr (evs ks) j = 0) → (formed ((evs ks).take n)).1 = n ∧ ((formed ((evs ks).take n)).2 = 0 ∨ (formed ((evs ks).take n)).2 = 9) := fun h => by
    have := formed_steps (l := (evs ks).take n) (by omega) (fun j hj => by rw [stepErr_take hr (by omega) (by omega)]; exact h j (by omega))
    rw [tl] at this
    exact this
  have fin : (∀ j, j < n → stepErr (evs ks) j = 0) → (if (true : Bool) = true then (if (formed ((evs ks).take n)).1 = (n : Int) then (if (formed ((evs ks).take n)).2 = 0 then some true else some ((formed ((evs ks).take n)).2 == 9)) else some false) else some false) = some true := fun h => by
    obtain ⟨g1, g2⟩ := good h
    rw [if_pos (by trivial), if_pos g1]
    rcases g2 with g2 | g2
    · rw [if_pos g2]
    · rw [if_neg (by omega), g2]; rfl
  rcases formed_cases (l := evs ks) (by omega) with h | ⟨j, hj, h1, h2⟩
  · have h3 := fin (fun j hj => h j (by omega))
    obtain ⟨g1, _⟩ := formed_steps (l := evs ks) (by omega) h
    rw [if_neg (by rw [g1]; omega)]
    exact h3
  · have h3 := formed_at (by omega) hj h1 h2
    rw [h3]
    simp only
    by_cases q : j < n
    · rw [if_pos (by omega), if_neg h1, if_pos (by trivial)]
      have h4 := formed_at (l := (evs ks).take n) (j := j) (by omega) (by omega) (by rw [stepErr_take hr q (by omega)]; exact h1) (fun p hp => by rw [stepErr_take hr (by omega) (by omega)]; exact h2 p hp)
      rw [h4, stepErr_take hr q (by omega)]
      simp
    · rw [if_neg (by omega)]
      exact fin (fun p hp => h2 p (by omega))

theorem prefix_l0 (xs : List S31) (hn : xs.length ≤ 256) (n : Nat) : ∀ (d i : Nat) (ks : List S31), i + d = xs.length → ks.length ≤ i → (∀ x ∈ evs ks, x.kind ≠ 2) → Evt (fun k => cartouchelaw08_HistoryPrefix.l0 k xs (n : Int) true ks (i : Int)) true
  | 0, i, ks, hi, hk, hr => by
    by_cases q : ks.length < n
    · refine Evt.step (fun k => ?_) (prefix_j2 ks (by omega) hr ks.length (by omega))
      simp only [cartouchelaw08_HistoryPrefix.l0]
      rw [if_neg (by omega), if_pos (by omega)]
    · refine Evt.step (fun k => ?_) (prefix_j2 ks (by omega) hr n (by omega))
      simp only [cartouchelaw08_HistoryPrefix.l0]
      rw [if_neg (by omega), if_neg (by omega)]
  | d + 1, i, ks, hi, hk, hr => by
    by_cases q : (nth (evs xs) i).kind = 2
    · refine Evt.step (fun k => ?_) (prefix_l0 xs hn n d (i + 1) ks (by omega) (by omega) hr)
      simp only [cartouchelaw08_HistoryPrefix.l0]
      rw [if_pos (by omega), if_pos (by omega), rd_f0, wrap_succ (n := xs.length) (by omega) (by omega)]
      simp only [Int.toNat_natCast]
      rw [if_pos q]
    · refine Evt.step (fun k => ?_) (prefix_l0 xs hn n d (i + 1) (ks ++ [(⟨(rd_T31 xs i).f0, (rd_T31 xs i).f1, (rd_T31 xs i).f2, (rd_T31 xs i).f3⟩ : S31)]) (by omega) (by simp; omega) ?_)
      · simp only [cartouchelaw08_HistoryPrefix.l0]
        rw [if_pos (by omega), if_pos (by omega), wrap_succ (n := xs.length) (by omega) (by omega), if_neg (by rw [rd_f0]; simpa using q), if_pos (by omega)]
      · intro x hx
        unfold evs at hx
        rw [List.map_append] at hx
        rcases List.mem_append.1 hx with hx | hx
        · exact hr x hx
        · obtain rfl : x = _ := by simpa using hx
          show (rd_T31 xs i).f0 ≠ 2
          rw [rd_f0]; simpa using q

theorem p_HistoryPrefix (l : List S31) (n : Int) (_ : ∀ y ∈ l, EvS y) (hl : l.length * 48 ≤ 140737488351232) (_ : (Lit.int .i64 n).wf = true) : ∃ k, cartouchelaw08_HistoryPrefix.f k l n = some true := by
  apply Evt.rounds
  have out : ∀ b, b = true → Evt (fun k => cartouchelaw08_HistoryPrefix.j0 k l n true b) true := fun b hb => Evt.now1 fun k => by
    simp only [cartouchelaw08_HistoryPrefix.j0]
    rw [if_pos hb]
  have e : ∀ k, cartouchelaw08_HistoryPrefix.f k l n = if 0 ≤ n ∧ n ≤ (l.length : Int) ∧ l.length ≤ 256 then cartouchelaw08_HistoryPrefix.j0 k l n true false else cartouchelaw08_HistoryPrefix.j0 k l n true true := fun k => by
    unfold cartouchelaw08_HistoryPrefix.f cartouchelaw08_few.f
    rw [shown08]
    simp only [Option.bind_some]
    by_cases q0 : l.length ≤ 300
    · rw [if_pos (by simp; omega)]
      by_cases q1 : n < 0
      · rw [if_pos q1, if_neg (fun h => by omega)]
      · rw [if_neg q1]
        by_cases q2 : n > (l.length : Int)
        · rw [if_pos q2, if_neg (fun h => by omega)]
        · rw [if_neg q2]
          by_cases q3 : l.length ≤ 256
          · rw [if_pos ⟨by omega, by omega, q3⟩, show decide ((l.length : Int) > 256) = false from decide_eq_false (by omega)]
          · rw [if_neg (fun h => q3 h.2.2), show decide ((l.length : Int) > 256) = true from decide_eq_true (by omega)]
    · rw [if_neg (by simp; omega), if_neg (fun h => by omega)]
  refine Evt.congr e ?_
  split
  · rename_i hh
    obtain ⟨m, rfl⟩ := Int.eq_ofNat_of_zero_le hh.1
    refine Evt.step (fun k => ?_) (prefix_l0 l hh.2.2 m l.length 0 [] (by omega) (by simp) (fun x hx => by cases hx))
    simp only [cartouchelaw08_HistoryPrefix.j0]
    rw [if_neg (by simp)]
    rfl
  · exact out _ rfl
end Go.Proofs.YthjgmccpbcelgaaPr
