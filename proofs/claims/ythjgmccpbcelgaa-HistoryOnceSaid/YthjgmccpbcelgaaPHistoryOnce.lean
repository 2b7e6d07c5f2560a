/-
  The plain law of HistoryOnce: in a well formed history a value is written once, and each event stands between its transaction's one beginning and its one end.
-/
import Derived.Test.YthjgmccpbcelgaaPr46
import Derived.Test.YthjgmccpbcelgaaS08
import Derived.Test.YthjgmccpbcelgaaC1
set_option linter.unusedVariables false
set_option linter.unusedSimpArgs false
namespace Go.Proofs.YthjgmccpbcelgaaPr
open Go.Proofs.Ythjgmccpbcelgaa
open Go Go.RowKit

theorem once_l0 (xs : List S31) (hn : xs.length ≤ 300) (hw : Wf (evs xs)) : ∀ (d i : Nat), i + d = xs.length → Evt (fun k => cartouchelaw08_HistoryOnce.l0 k xs true (i : Int)) true
  | 0, i, hi => Evt.now1 fun k => by
      simp only [cartouchelaw08_HistoryOnce.l0]
      rw [if_neg (by omega)]
  | d + 1, i, hi => by
    have ih := once_l0 xs hn hw d (i + 1) (by omega)
    have hlen := evs_len xs
    have hi' : i < (evs xs).length := by omega
    obtain ⟨f, e, h1, h2, h3, h4, h5, h6, h7, _⟩ := hw.shape hi'
    have inner : ∀ (m j : Nat), j + m = i → Evt (fun k => cartouchelaw08_HistoryOnce.l1 k xs true (i : Int) (j : Int)) true := by
      intro m
      induction m with
      | zero =>
        intro j hj
        refine Evt.step (fun k => ?_) ih
        simp only [cartouchelaw08_HistoryOnce.l1]
        rw [if_neg (by omega), wrap_succ (n := xs.length) (by omega) (by omega)]
      | succ m ihm =>
        intro j hj
        refine Evt.step (fun k => ?_) (ihm (j + 1) (by omega))
        simp only [cartouchelaw08_HistoryOnce.l1]
        rw [if_pos (by omega), if_pos (by omega), if_pos (by omega), rd_f0, rd_f0, rd_f3, rd_f3, wrap_succ (n := xs.length) (by omega) (by omega)]
        simp only [Int.toNat_natCast]
        by_cases q1 : (nth (evs xs) i).kind = 3
        · rw [if_pos q1, if_pos (by omega), if_pos (by omega)]
          by_cases q2 : (nth (evs xs) j).kind = 3
          · rw [if_pos q2, if_neg (fun q => (hw.once hi' (show j < i by omega) q2 q1) (ba_list.1 q).symm)]
          · rw [if_neg q2]
        · rw [if_neg q1]
    have j2 : Evt (fun k => cartouchelaw08_HistoryOnce.j2 k xs true (i : Int) false) true := by
      refine Evt.step (fun k => ?_) (inner i 0 (by omega))
      simp only [cartouchelaw08_HistoryOnce.j2]
      rfl
    refine Evt.step (fun k => ?_) j2
    simp only [cartouchelaw08_HistoryOnce.l0]
    have hF : history_Find.f xs (nth (evs xs) i).txn = some ((nth (evs xs) i).txn, (f : Int), (e : Int), (nth (evs xs) e).kind == 4, true) := by
      unfold history_Find.f
      rw [if_pos (by omega), findL_shape h1 h2]
    have b1 : (((nth (evs xs) i).kind == 1) != ((i : Int) == (f : Int))) = false := by
      by_cases q : i = f
      · have := h6.2 q; subst q; simp [this]
      · have q' : (nth (evs xs) i).kind ≠ 1 := fun z => q (h6.1 z)
        have q2 : ((i : Int) == (f : Int)) = false := by simp; omega
        rw [q2]; simp [q']
    have b2 : ((decide ((nth (evs xs) i).kind ≥ 4)) != ((i : Int) == (e : Int))) = false := by
      by_cases q : i = e
      · have := h7.2 q; subst q; simp; omega
      · have q' : ¬ (nth (evs xs) i).kind ≥ 4 := fun z => q (h7.1 z)
        have q2 : ((i : Int) == (e : Int)) = false := by simp; omega
        rw [q2]; simp; omega
    rw [if_pos (by omega), if_pos (by omega), rd_f1, rd_f0]
    simp only [Int.toNat_natCast]
    rw [hF]
    simp only [Option.bind_some]
    rw [b1, b2, if_pos trivial, if_neg (by omega), if_neg (by omega), if_neg (by omega), if_neg (by simp)]

theorem p_HistoryOnce (l : List S31) (_ : ∀ y ∈ l, EvS y) (hl : l.length * 48 ≤ 140737488351232) : ∃ k, cartouchelaw08_HistoryOnce.f k l = some true := by
  apply Evt.rounds
  have hn : l.length ≤ 140737488351232 := by omega
  have out : ∀ b, b = true → Evt (fun k => cartouchelaw08_HistoryOnce.j0 k l true b) true := fun b hb => Evt.now1 fun k => by
    simp only [cartouchelaw08_HistoryOnce.j0]
    rw [if_pos hb]
  have e : ∀ k, cartouchelaw08_HistoryOnce.f k l = if l.length ≤ 300 then cartouchelaw08_HistoryOnce.j0 k l true ((formed (evs l)).2 != 0) else cartouchelaw08_HistoryOnce.j0 k l true true := fun k => by
    unfold cartouchelaw08_HistoryOnce.f cartouchelaw08_few.f history_Formed.f
    rw [shown08, if_pos hn]
    simp only [Option.bind_some]
    by_cases q : l.length ≤ 300
    · rw [if_pos q, if_pos (by simp; omega)]
    · rw [if_neg q, if_neg (by simp; omega)]
  refine Evt.congr e ?_
  by_cases q : l.length ≤ 300
  · simp only [if_pos q]
    by_cases q2 : (formed (evs l)).2 = 0
    · refine Evt.step (fun k => ?_) (once_l0 l q (formed_wf q2) l.length 0 (by omega))
      simp only [cartouchelaw08_HistoryOnce.j0]
      rw [if_neg (by simp [q2])]
      rfl
    · exact out _ (by simpa using q2)
  · simp only [if_neg q]
    exact out _ rfl
end Go.Proofs.YthjgmccpbcelgaaPr
