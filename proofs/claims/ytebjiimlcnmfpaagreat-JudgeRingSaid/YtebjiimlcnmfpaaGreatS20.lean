/-
  A ring's edges, one behind the other: they meet; at level 2 no two GOver stand together.
-/
import Derived.Test.YtebjiimlcnmfpaaGreatS16a
set_option linter.unusedVariables false
set_option linter.unusedSimpArgs false
namespace Go.Proofs.YtebjiimlcnmfpaaGreatPr
open Go.Proofs.YtebjiimlcnmfpaaGreat
open Go Go.RowKit

abbrev ef (e : S24) : Int := e.f1
abbrev et (e : S24) : Int := e.f2
abbrev flatE (r : List S80) : List S24 := r.flatMap (fun s => s.f2)
theorem chain_flat {lev : Int} {xs : List S50} : ∀ (r : List S80) (a b : Int), (∀ s ∈ r, s ∈ stepsH lev xs) → Rg.chain fr_ to_ r a b → Rg.chain ef et (flatE r) a b
  | [], a, b, _, hc => hc
  | s :: r, a, b, hr, hc => by
    have ih := chain_flat r (to_ s) b (fun y hy => hr y (List.mem_cons_of_mem _ hy)) hc.2
    have hc1 : fr_ s = a := hc.1
    rcases stepsH_is (hr s List.mem_cons_self) with ⟨e, he, rfl, _⟩ | ⟨_, e, he, f, hf, rfl, _, _, hef⟩
    · exact ⟨hc1, ih⟩
    · exact ⟨hc1, hef, ih⟩
theorem flat_mem {lev : Int} {xs : List S50} {r : List S80} (hr : ∀ s ∈ r, s ∈ stepsH lev xs) : ∀ e ∈ flatE r, e ∈ allE xs := fun e he => by
  obtain ⟨s, hs, h⟩ := List.mem_flatMap.1 he
  rcases stepsH_is (hr s hs) with ⟨x, hx, rfl, _⟩ | ⟨_, x, hx, f, hf, rfl, _, _, _⟩
  · obtain rfl := List.mem_singleton.1 h; exact hx
  · rcases List.mem_cons.1 h with rfl | h
    · exact hx
    · obtain rfl := List.mem_singleton.1 h; exact hf
theorem chain_idx {α : Type} {f g : α → Int} : ∀ (r : List α) (a b : Int), Rg.chain f g r a b → (∀ i (h : i + 1 < r.length), g r[i] = f r[i + 1]) ∧ (∀ h : 0 < r.length, f r[0] = a) ∧ ∀ h : 0 < r.length, g (r[r.length - 1]) = b
  | [], a, b, _ => ⟨fun i h => by simp at h, fun h => by simp at h, fun h => by simp at h⟩
  | [s], a, b, hc => ⟨fun i h => by simp at h, fun _ => hc.1, fun _ => hc.2⟩
  | s :: t :: r, a, b, hc => by
    obtain ⟨h1, h2, h3⟩ := chain_idx (t :: r) (g s) b hc.2
    refine ⟨fun i h => ?_, fun _ => hc.1, fun _ => ?_⟩
    · cases i with
      | zero => exact (h2 (by simp)).symm
      | succ i => exact h1 i (by simpa using h)
    · have := h3 (by simp)
      simpa using this
theorem alt_flat {xs : List S50} : ∀ (r : List S80), (∀ s ∈ r, s ∈ stepsH 2 xs) → (∀ h : 0 < (flatE r).length, (flatE r)[0].f0 ≠ 3) ∧ ∀ i (h : i + 1 < (flatE r).length), ¬ ((flatE r)[i].f0 = 3 ∧ (flatE r)[i + 1].f0 = 3)
  | [], _ => ⟨fun h => by simp [flatE] at h, fun i h => by simp [flatE] at h⟩
  | s :: r, hr => by
    obtain ⟨h1, h2⟩ := alt_flat r (fun y hy => hr y (List.mem_cons_of_mem _ hy))
    rcases stepsH_is (hr s List.mem_cons_self) with ⟨e, he, rfl, hl⟩ | ⟨_, e, he, f, hf, rfl, he3, _, hef⟩
    · have he3 : e.f0 ≠ 3 := by
        rcases hl with h | h
        · omega
        · exact h.2
      have hE : flatE ((⟨e.f1, e.f2, [e]⟩ : S80) :: r) = e :: flatE r := rfl
      simp only [hE]
      refine ⟨fun _ => he3, fun i h => ?_⟩
      cases i with
      | zero => exact fun z => he3 z.1
      | succ i => exact h2 i (by rw [List.length_cons] at h; omega)
    · have hE : flatE ((⟨e.f1, f.f2, [e, f]⟩ : S80) :: r) = e :: f :: flatE r := rfl
      simp only [hE]
      refine ⟨fun _ => he3, fun i h => ?_⟩
      match i, h with
      | 0, _ => exact fun z => he3 z.1
      | 1, h => exact fun z => h1 (by rw [List.length_cons, List.length_cons] at h; omega) z.2
      | i + 2, h => exact h2 i (by rw [List.length_cons, List.length_cons] at h; omega)
theorem stepsH_pos {lev : Int} {xs : List S50} {y : S80} (h : y ∈ stepsH lev xs) : 1 ≤ y.f2.length := by
  rcases stepsH_is h with ⟨e, _, rfl, _⟩ | ⟨_, e, _, f, _, rfl, _⟩ <;> simp
/-- Where there is no order there is a ring, of one edge at least. -/
theorem ring_pos {lev : Int} {xs : List S50} (h : Rg.order fr_ to_ (stepsH lev xs) (nodesS (evs xs)) = none) : 0 < ((Rg.ring fr_ to_ (stepsH lev xs)).1.flatMap (fun s => s.f2)).length := by
  obtain ⟨c, n, h1, h2⟩ := Rg.order_none fr_ to_ h
  have hr : (Rg.ring fr_ to_ (stepsH lev xs)).2 = true := by
    cases hb : (Rg.ring fr_ to_ (stepsH lev xs)).2 with
    | true => rfl
    | false => exact absurd h2 ((Rg.ring_false fr_ to_ hb).1 n c h1)
  obtain ⟨a, m, g1, _, _, g4, _⟩ := Rg.ring_true fr_ to_ hr
  have hm := Rg.ring_mem fr_ to_ (stepsH lev xs)
  cases hl : (Rg.ring fr_ to_ (stepsH lev xs)).1 with
  | nil => rw [hl] at g4; simp at g4; omega
  | cons s r =>
    rw [hl] at hm
    have := stepsH_pos (hm s List.mem_cons_self)
    rw [List.flatMap_cons, List.length_append]
    omega
theorem ring_alt {lev : Int} {xs : List S50} {r : List S80} (hr : ∀ s ∈ r, s ∈ stepsH lev xs) (h : lev = 2) : (∀ h : 0 < (flatE r).length, (flatE r)[0].f0 ≠ 3) ∧ ∀ i (h : i + 1 < (flatE r).length), ¬ ((flatE r)[i].f0 = 3 ∧ (flatE r)[i + 1].f0 = 3) := by
  subst h
  exact alt_flat r hr
theorem ring_gen {lev : Int} {xs : List S50} {r : List S80} (hr : ∀ s ∈ r, s ∈ stepsH lev xs) {a : Int} (hc : Rg.chain fr_ to_ r a a) : (∀ i (h : i + 1 < (flatE r).length), (flatE r)[i].f2 = (flatE r)[i + 1].f1) ∧ (∀ h : 0 < (flatE r).length, (flatE r)[0].f1 = a) ∧ (∀ h : 0 < (flatE r).length, (flatE r)[(flatE r).length - 1].f2 = a) ∧ (∀ e ∈ flatE r, e ∈ allE xs) ∧ (lev = 2 → (∀ h : 0 < (flatE r).length, (flatE r)[0].f0 ≠ 3) ∧ ∀ i (h : i + 1 < (flatE r).length), ¬ ((flatE r)[i].f0 = 3 ∧ (flatE r)[i + 1].f0 = 3)) := by
  obtain ⟨k1, k2, k3⟩ := chain_idx _ a a (chain_flat r a a hr hc)
  exact ⟨k1, k2, k3, flat_mem hr, ring_alt hr⟩
theorem ring_facts {xs : List S50} {lev : Int} (ho : Rg.order fr_ to_ (stepsH lev xs) (nodesS (evs xs)) = none) : ∃ E a, E = flatE (Rg.ring fr_ to_ (stepsH lev xs)).1 ∧ 0 < E.length ∧ (∀ i (h : i + 1 < E.length), E[i].f2 = E[i + 1].f1) ∧ (∀ h : 0 < E.length, E[0].f1 = a) ∧ (∀ h : 0 < E.length, E[E.length - 1].f2 = a) ∧ (∀ e ∈ E, e ∈ allE xs) ∧ (lev = 2 → (∀ h : 0 < E.length, E[0].f0 ≠ 3) ∧ ∀ i (h : i + 1 < E.length), ¬ (E[i].f0 = 3 ∧ E[i + 1].f0 = 3)) := by
  have hp := ring_pos ho
  have hmr : ∀ s ∈ (Rg.ring fr_ to_ (stepsH lev xs)).1, s ∈ stepsH lev xs := Rg.ring_mem fr_ to_ (stepsH lev xs)
  have hch : ∃ a, Rg.chain fr_ to_ (Rg.ring fr_ to_ (stepsH lev xs)).1 a a := by
    cases hq : (Rg.ring fr_ to_ (stepsH lev xs)).2 with
    | true =>
      obtain ⟨a, m, _, _, _, _, g, _⟩ := Rg.ring_true fr_ to_ hq
      exact ⟨a, g⟩
    | false =>
      obtain ⟨c, n, h1, h2⟩ := Rg.order_none fr_ to_ ho
      exact absurd h2 ((Rg.ring_false fr_ to_ hq).1 n c h1)
  obtain ⟨a, hch⟩ := hch
  exact ⟨_, a, rfl, hp, ring_gen hmr hch⟩
end Go.Proofs.YtebjiimlcnmfpaaGreatPr
