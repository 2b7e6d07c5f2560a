/-
  The plain law of HistoryGrows: a well formed history, with a transaction behind that only begins and ends, is well formed.
-/
import Derived.Test.YthjgmccpbcelgaaPr48
import Derived.Test.YthjgmccpbcelgaaS08
import Derived.Test.YthjgmccpbcelgaaC1
set_option linter.unusedVariables false
set_option linter.unusedSimpArgs false
namespace Go.Proofs.YthjgmccpbcelgaaPr
open Go.Proofs.Ythjgmccpbcelgaa
open Go Go.RowKit

theorem evs_append (a b : List S31) : evs (a ++ b) = evs a ++ evs b := List.map_append
theorem p_HistoryGrows (l : List S31) (t c : Int) (_ : ∀ y ∈ l, EvS y) (hl : l.length * 48 ≤ 140737488351232) (_ : (Lit.int .i64 t).wf = true) (_ : (Lit.int .i64 c).wf = true) : ∃ k, cartouchelaw08_HistoryGrows.f k l t c = some true := by
  apply Evt.rounds
  have hn : l.length ≤ 140737488351232 := by omega
  have hlen := evs_len l
  have out : ∀ b, b = true → Evt (fun k => cartouchelaw08_HistoryGrows.j0 k l t c true b) true := fun b hb => Evt.now1 fun k => by
    simp only [cartouchelaw08_HistoryGrows.j0]
    rw [if_pos hb]
  have e : ∀ k, cartouchelaw08_HistoryGrows.f k l t c = if l.length ≤ 254 ∧ (formed (evs l)).2 = 0 ∧ (findL (evs l) t).2 = false ∧ 1 ≤ t ∧ t ≤ 32 ∧ 4 ≤ c ∧ c ≤ 5 then cartouchelaw08_HistoryGrows.j0 k l t c true false else cartouchelaw08_HistoryGrows.j0 k l t c true true := fun k => by
    unfold cartouchelaw08_HistoryGrows.f cartouchelaw08_few.f history_Formed.f history_Find.f
    rw [shown08, if_pos hn, if_pos hn]
    simp only [Option.bind_some]
    by_cases q0 : l.length ≤ 300
    · rw [if_pos (by simp; omega)]
      by_cases q1 : (formed (evs l)).2 = 0
      · rw [if_pos q1]
        by_cases q2 : (findL (evs l) t).2 = true
        · rw [if_pos q2, if_neg (fun h => by have := h.2.2.1; rw [q2] at this; cases this)]
        · rw [if_neg q2]
          have q2' : (findL (evs l) t).2 = false := by simpa using q2
          by_cases q3 : t < 1
          · rw [if_pos q3, if_neg (fun h => by omega)]
          · rw [if_neg q3]
            by_cases q4 : t > 32
            · rw [if_pos q4, if_neg (fun h => by omega)]
            · rw [if_neg q4]
              by_cases q5 : c < 4
              · rw [if_pos q5, if_neg (fun h => by omega)]
              · rw [if_neg q5]
                by_cases q6 : c > 5
                · rw [if_pos q6, if_neg (fun h => by omega)]
                · rw [if_neg q6]
                  by_cases q7 : l.length ≤ 254
                  · rw [if_pos ⟨q7, q1, q2', by omega, by omega, by omega, by omega⟩, show decide ((l.length : Int) > 254) = false from decide_eq_false (by omega)]
                  · rw [if_neg (fun h => q7 h.1), show decide ((l.length : Int) > 254) = true from decide_eq_true (by omega)]
      · rw [if_neg q1, if_neg (fun h => q1 h.2.1)]
    · rw [if_neg (by simp; omega), if_neg (fun h => by omega)]
  refine Evt.congr e ?_
  split
  · rename_i hh
    obtain ⟨g1, g2, g3, g4, g5, g6, g7⟩ := hh
    have hw := formed_wf g2
    have hf : firstOf (evs l) t < 0 := by
      unfold findL at g3
      split at g3
      · assumption
      · split at g3 <;> cases g3
    obtain ⟨w1, w2, w3⟩ := hw.grows (c := c) hf g4 g5 (by omega) (by omega)
    have hev : evs (l ++ [(⟨1, t, (⟨#[]⟩ : ByteArray), (⟨#[]⟩ : ByteArray)⟩ : S31), (⟨c, t, (⟨#[]⟩ : ByteArray), (⟨#[]⟩ : ByteArray)⟩ : S31)]) = evs l ++ [⟨1, t, ⟨#[]⟩, ⟨#[]⟩⟩, ⟨c, t, ⟨#[]⟩, ⟨#[]⟩⟩] := by rw [evs_append]; rfl
    refine Evt.now1 fun k => ?_
    simp only [cartouchelaw08_HistoryGrows.j0]
    rw [if_neg (by simp)]
    simp only [Option.bind_some, List.nil_append, List.length_nil, Nat.zero_add]
    rw [if_pos (by omega), if_pos (by simp only [List.length_cons, List.length_nil]; omega)]
    unfold history_Formed.f history_Find.f
    rw [if_pos (by simp only [List.length_append, List.length_cons, List.length_nil]; omega), if_pos (by simp only [List.length_append, List.length_cons, List.length_nil]; omega), hev, wf_formed w1, findL_shape w2 w3]
    have hn1 : nth (evs l ++ [⟨1, t, ⟨#[]⟩, ⟨#[]⟩⟩, ⟨c, t, ⟨#[]⟩, ⟨#[]⟩⟩]) ((evs l).length + 1) = ⟨c, t, ⟨#[]⟩, ⟨#[]⟩⟩ := nth_append_right (i := 1)
    (try simp only [Option.bind_some])
    rw [hn1, hlen]
    have hwr : wrap64 ((l.length : Int) + 1) = ((l.length + 1 : Nat) : Int) := by unfold wrap64; omega
    rw [hwr]
    simp [hlen]
  · exact out _ rfl
end Go.Proofs.YthjgmccpbcelgaaPr
