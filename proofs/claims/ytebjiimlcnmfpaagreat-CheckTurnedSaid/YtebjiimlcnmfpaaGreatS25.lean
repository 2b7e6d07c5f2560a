/-
  Ways along all edges of a history: where an edge holds there is one.
-/
import Derived.Test.YtebjiimlcnmfpaaGreatS15
import Derived.Test.YtebjiimlcnmfpaaGreatS09
import Derived.Test.YtebjiimlcnmfpaaGreatA16
set_option linter.unusedVariables false
set_option linter.unusedSimpArgs false
namespace Go.Proofs.YtebjiimlcnmfpaaGreatPr
open Go.Proofs.YtebjiimlcnmfpaaGreat
section
open Go Go.RowKit Go.Proofs Go.Shelf
set_option linter.unusedSimpArgs false
set_option linter.unusedVariables false

/-! ### ways along all edges -/
def allEd (xs : List S50) : List Go.Proofs.YtebjiimlcnmfpaaGreat.Edge := (allE xs).map toEd'
theorem mem_allEd {xs : List S50} {key : ByteArray} {e : Go.Proofs.YtebjiimlcnmfpaaGreat.Edge} {i : Nat} (hi : i < xs.length) (hk : (nth (evs xs) i).kind = 2 ∨ (nth (evs xs) i).kind = 3) (hkey : (nth (evs xs) i).key = key) (he : e ∈ ofE (evs xs) key) : e ∈ allEd xs := by
  unfold allEd allE
  refine List.mem_map.2 ⟨ofEdge e, List.mem_flatMap.2 ⟨key, List.mem_map.2 ⟨key.data.toList, ?_, toBA_self key⟩, List.mem_map.2 ⟨e, he, rfl⟩⟩, rfl⟩
  refine ((keysSpec_are (evs xs)).2 _).2 ?_
  unfold Go.Proofs.YtebjiimlcnmfpaaGreat.keyBytes
  refine List.mem_map.2 ⟨nth (evs xs) i, List.mem_filter.2 ⟨?_, ?_⟩, by rw [hkey]⟩
  · unfold nth
    rw [List.getD_eq_getElem?_getD, List.getElem?_eq_getElem (by rw [evs_len]; exact hi)]
    exact List.getElem_mem _
  · unfold Go.Proofs.YtebjiimlcnmfpaaGreat.keyed
    rcases hk with h | h <;> rw [h] <;> rfl
theorem Walk_sub {α : Type} {f g : α → Int} {l l' : List α} {a b : Int} {n : Nat} (h : Rg.Walk f g l a n b) (hs : ∀ s ∈ l, s ∈ l') : Rg.Walk f g l' a n b := by
  obtain ⟨r, h1, h2, h3⟩ := h
  exact ⟨r, h1, fun s hs' => hs s (h2 s hs'), h3⟩
theorem holds_walk {xs : List S50} (hw : Wf (evs xs)) (hb : ∀ i : Nat, i < xs.length → (badAt (evs xs) i).kind = 0) {e : Go.Proofs.YtebjiimlcnmfpaaGreat.Edge} (h : holdsP (evs xs) e) : ∃ n, Rg.Walk Go.Proofs.YtebjiimlcnmfpaaGreat.Edge.from_ Go.Proofs.YtebjiimlcnmfpaaGreat.Edge.to_ (allEd xs) e.from_ n e.to_ := by
  obtain ⟨hk, hway⟩ := holds_way hw (fun i hi => hb i (by rw [evs_len] at hi; exact hi)) h
  have hi : e.i.toNat < xs.length := by have h1 := h.2.2.2.1; have h2 := h.2.2.2.2.1; rw [evs_len] at h2; omega
  have hsub : ∀ s ∈ ofN (evs xs) (nth (evs xs) e.i.toNat).key, s ∈ allEd xs := fun s hs => mem_allEd hi hk rfl (List.mem_filter.1 hs).1
  rcases hway with ⟨_, n, hn⟩ | ⟨_, c, hc, n, hn⟩
  · exact ⟨n, Walk_sub hn hsub⟩
  · rcases hc with hc | ⟨x, hx, _, h1, h2⟩
    · rw [hc]; exact ⟨n, Walk_sub hn hsub⟩
    · refine ⟨1 + n, Rg.Walk.trans _ _ (b := c) ?_ (Walk_sub hn hsub)⟩
      have := Rg.Walk.one Go.Proofs.YtebjiimlcnmfpaaGreat.Edge.from_ Go.Proofs.YtebjiimlcnmfpaaGreat.Edge.to_ (mem_allEd hi hk rfl hx)
      rw [h1, h2] at this
      exact this
end
end Go.Proofs.YtebjiimlcnmfpaaGreatPr
