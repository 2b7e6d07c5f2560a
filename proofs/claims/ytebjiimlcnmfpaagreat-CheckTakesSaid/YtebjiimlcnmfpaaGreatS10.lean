/-
  All edges of a history, in plain words.
-/
import Derived.Test.YtebjiimlcnmfpaaGreatPrEdgesAll
import Derived.Test.YtebjiimlcnmfpaaGreatB1
import Derived.Test.YtebjiimlcnmfpaaGreatA12
set_option linter.unusedVariables false
set_option linter.unusedSimpArgs false
namespace Go.Proofs.YtebjiimlcnmfpaaGreatPr
open Go.Proofs.YtebjiimlcnmfpaaGreat
open Go Go.RowKit

theorem insKey_len (x : List UInt8) : ∀ r, (insKey x r).length ≤ r.length + 1
  | [] => by simp [insKey]
  | y :: r => by
    have := insKey_len x r
    unfold insKey
    split
    · simp
    · split
      · simp
      · simp; omega
theorem keysFold_len : ∀ (r acc : List (List UInt8)), (keysFold acc r).length ≤ acc.length + r.length
  | [], acc => by simp [keysFold]
  | x :: r, acc => by
    have h1 := keysFold_len r (insKey x acc)
    have h2 := insKey_len x acc
    simp only [keysFold, List.length_cons]
    omega
theorem keysSpec_len (l : List Go.Proofs.YtebjiimlcnmfpaaGreat.Ev) : (keysSpec l).length ≤ l.length := by
  have := keysFold_len (Go.Proofs.YtebjiimlcnmfpaaGreat.keyBytes l) []
  have e : (Go.Proofs.YtebjiimlcnmfpaaGreat.keyBytes l).length ≤ l.length := by unfold Go.Proofs.YtebjiimlcnmfpaaGreat.keyBytes; rw [List.length_map]; exact List.length_filter_le _ _
  unfold keysSpec
  rw [List.length_nil] at this
  omega

def allE (xs : List S50) : List S24 := ((keysSpec (evs xs)).map toBA).flatMap (fun key => (ofE (evs xs) key).map ofEdge)
theorem all_l0 (xs : List S50) (hn : xs.length ≤ 300) (ks : List ByteArray) (hk : ks.length ≤ 300) : ∀ (d i : Nat) (acc : List S24), i + d = ks.length → acc.length ≤ i * 3000 →
    Evt (fun k => edges_All.l0 k xs acc ks (ks.length : Int) (i : Int)) (acc ++ (ks.drop i).flatMap (fun key => (ofE (evs xs) key).map ofEdge))
  | 0, i, acc, hi, ha => Evt.now1 fun k => by
    simp only [edges_All.l0]
    rw [if_neg (by omega), drop_end _ (by omega)]
    simp
  | d + 1, i, acc, hi, ha => by
    have hst := drop_step ks ByteArray.empty (k := i) (by omega)
    have hl := of_len (evs xs) (ks.getD i ByteArray.empty) (by rw [evs_len]; omega)
    have ih := all_l0 xs hn ks hk d (i + 1) (acc ++ (ofE (evs xs) (ks.getD i ByteArray.empty)).map ofEdge) (by omega) (by rw [List.length_append, List.length_map]; omega)
    rw [hst, List.flatMap_cons, ← List.append_assoc]
    refine Evt.step (fun k => ?_) ih
    simp only [edges_All.l0]
    have e : edges_of.f xs (YtebjiimlcnmfpaaGreatW.PrintWords.rdOf ByteArray.empty ks (i : Int)) = some ((ofE (evs xs) (ks.getD i ByteArray.empty)).map ofEdge) := by
      unfold edges_of.f
      rw [if_pos (by omega)]
      rfl
    rw [if_pos (by omega), if_pos (by omega), if_pos (by omega), e]
    simp only [Option.bind_some]
    rw [if_pos (by rw [List.length_map]; omega), wrap_succ (n := ks.length) (by omega) (by omega)]
theorem all_evt (xs : List S50) (hn : xs.length ≤ 300) (hS : ∀ y ∈ xs, EvS y) : Evt (fun k => edges_All.f k xs) (allE xs) := by
  have hk : ((keysSpec (evs xs)).map toBA).length ≤ 300 := by
    have := keysSpec_len (evs xs)
    rw [evs_len] at this
    rw [List.length_map]; omega
  refine Evt.congr (fun k => ?_) (all_l0 xs hn _ hk ((keysSpec (evs xs)).map toBA).length 0 [] (by omega) (by simp))
  unfold edges_All.f history_Keys.f
  rw [if_pos ⟨by omega, fun x hx => by have := (hS x hx).2.2.1; simp only [maxLen] at this; omega⟩]
  rfl
theorem allE_good {xs : List S50} {x : S24} (h : x ∈ allE xs) : ∃ e key, x = ofEdge e ∧ e ∈ ofE (evs xs) key := by
  obtain ⟨key, _, h⟩ := List.mem_flatMap.1 h
  obtain ⟨e, he, rfl⟩ := List.mem_map.1 h
  exact ⟨e, key, rfl, he⟩
theorem allE_len (xs : List S50) (hn : xs.length ≤ 300) : (allE xs).length ≤ 900000 := by
  have h := fm_len (fun key => (ofE (evs xs) key).map ofEdge) 3000 (fun key => by rw [List.length_map]; exact of_len _ _ (by rw [evs_len]; omega)) ((keysSpec (evs xs)).map toBA)
  have hk := keysSpec_len (evs xs)
  rw [evs_len] at hk
  rw [List.length_map] at h
  unfold allE
  omega
end Go.Proofs.YtebjiimlcnmfpaaGreatPr
