/-
  What the document's verdict shows is so: it is checked with OK.
-/
import Derived.Test.YtebjiimlcnmfpaaGreatS16a
import Derived.Test.YtebjiimlcnmfpaaGreatPrCartouchelaw13Few
import Derived.Test.YtebjiimlcnmfpaaGreatPrCartouchelaw13Shown
import Derived.Test.YtebjiimlcnmfpaaGreatB16
import Derived.Test.YtebjiimlcnmfpaaGreatS10
import Derived.Test.YtebjiimlcnmfpaaGreatS09
import Derived.Test.YtebjiimlcnmfpaaGreatA16
import Derived.Test.YtebjiimlcnmfpaaGreatS16
section
set_option linter.unusedVariables false
set_option linter.unusedSimpArgs false
namespace Go.Proofs.YtebjiimlcnmfpaaGreatPr
open Go.Proofs.YtebjiimlcnmfpaaGreat
open Go Go.RowKit

abbrev ef (e : S24) : Int := e.f1
abbrev et (e : S24) : Int := e.f2
abbrev flatE (r : List S80) : List S24 := r.flatMap (fun s => s.f2)
theorem chain_flat {lev : Int} {xs : List S50} : ∀ (r : List S80) (a b : Int), (∀ s ∈ r, s ∈ stepsH lev xs) → Rg.chain fr_ to_ r a b → Rg.chain ef et (flatE r) a b
  | [], a, b, _, hc => hc
  | s :: r, a, b, hr, hc => by
    have ih := chain_flat r (to_ s) b (fun y hy => hr y (List.mem_cons_of_mem _ hy)) hc.2
    have hc1 : fr_ s = a := hc.1
    rcases stepsH_is (hr s List.mem_cons_self) with ⟨e, he, rfl, _⟩ | ⟨_, e, he, f, hf, rfl, _, _, hef⟩
    · exact ⟨hc1, ih⟩
    · exact ⟨hc1, hef, ih⟩
theorem flat_mem {lev : Int} {xs : List S50} {r : List S80} (hr : ∀ s ∈ r, s ∈ stepsH lev xs) : ∀ e ∈ flatE r, e ∈ allE xs := fun e he => by
  obtain ⟨s, hs, h⟩ := List.mem_flatMap.1 he
  rcases stepsH_is (hr s hs) with ⟨x, hx, rfl, _⟩ | ⟨_, x, hx, f, hf, rfl, _, _, _⟩
  · obtain rfl := List.mem_singleton.1 h; exact hx
  · rcases List.mem_cons.1 h with rfl | h
    · exact hx
    · obtain rfl := List.mem_singleton.1 h; exact hf
theorem chain_idx {α : Type} {f g : α → Int} : ∀ (r : List α) (a b : Int), Rg.chain f g r a b → (∀ i (h : i + 1 < r.length), g r[i] = f r[i + 1]) ∧ (∀ h : 0 < r.length, f r[0] = a) ∧ ∀ h : 0 < r.length, g (r[r.length - 1]) = b
  | [], a, b, _ => ⟨fun i h => by simp at h, fun h => by simp at h, fun h => by simp at h⟩
  | [s], a, b, hc => ⟨fun i h => by simp at h, fun _ => hc.1, fun _ => hc.2⟩
  | s :: t :: r, a, b, hc => by
    obtain ⟨h1, h2, h3⟩ := chain_idx (t :: r) (g s) b hc.2
    refine ⟨fun i h => ?_, fun _ => hc.1, fun _ => ?_⟩
    · cases i with
      | zero => exact (h2 (by simp)).symm
      | succ i => exact h1 i (by simpa using h)
    · have := h3 (by simp)
      simpa using this
theorem alt_flat {xs : List S50} : ∀ (r : List S80), (∀ s ∈ r, s ∈ stepsH 2 xs) → (∀ h : 0 < (flatE r).length, (flatE r)[0].f0 ≠ 3) ∧ ∀ i (h : i + 1 < (flatE r).length), ¬ ((flatE r)[i].f0 = 3 ∧ (flatE r)[i + 1].f0 = 3)
  | [], _ => ⟨fun h => by simp [flatE] at h, fun i h => by simp [flatE] at h⟩
  | s :: r, hr => by
    obtain ⟨h1, h2⟩ := alt_flat r (fun y hy => hr y (List.mem_cons_of_mem _ hy))
    rcases stepsH_is (hr s List.mem_cons_self) with ⟨e, he, rfl, hl⟩ | ⟨_, e, he, f, hf, rfl, he3, _, hef⟩
    · have he3 : e.f0 ≠ 3 := by
        rcases hl with h | h
        · omega
        · exact h.2
      have hE : flatE ((⟨e.f1, e.f2, [e]⟩ : S80) :: r) = e :: flatE r := rfl
      simp only [hE]
      refine ⟨fun _ => he3, fun i h => ?_⟩
      cases i with
      | zero => exact fun z => he3 z.1
      | succ i => exact h2 i (by rw [List.length_cons] at h; omega)
    · have hE : flatE ((⟨e.f1, f.f2, [e, f]⟩ : S80) :: r) = e :: f :: flatE r := rfl
      simp only [hE]
      refine ⟨fun _ => he3, fun i h => ?_⟩
      match i, h with
      | 0, _ => exact fun z => he3 z.1
      | 1, h => exact fun z => h1 (by rw [List.length_cons, List.length_cons] at h; omega) z.2
      | i + 2, h => exact h2 i (by rw [List.length_cons, List.length_cons] at h; omega)
theorem stepsH_pos {lev : Int} {xs : List S50} {y : S80} (h : y ∈ stepsH lev xs) : 1 ≤ y.f2.length := by
  rcases stepsH_is h with ⟨e, _, rfl, _⟩ | ⟨_, e, _, f, _, rfl, _⟩ <;> simp
/-- Where there is no order there is a ring, of one edge at least. -/
theorem ring_pos {lev : Int} {xs : List S50} (h : Rg.order fr_ to_ (stepsH lev xs) (nodesS (evs xs)) = none) : 0 < ((Rg.ring fr_ to_ (stepsH lev xs)).1.flatMap (fun s => s.f2)).length := by
  obtain ⟨c, n, h1, h2⟩ := Rg.order_none fr_ to_ h
  have hr : (Rg.ring fr_ to_ (stepsH lev xs)).2 = true := by
    cases hb : (Rg.ring fr_ to_ (stepsH lev xs)).2 with
    | true => rfl
    | false => exact absurd h2 ((Rg.ring_false fr_ to_ hb).1 n c h1)
  obtain ⟨a, m, g1, _, _, g4, _⟩ := Rg.ring_true fr_ to_ hr
  have hm := Rg.ring_mem fr_ to_ (stepsH lev xs)
  cases hl : (Rg.ring fr_ to_ (stepsH lev xs)).1 with
  | nil => rw [hl] at g4; simp at g4; omega
  | cons s r =>
    rw [hl] at hm
    have := stepsH_pos (hm s List.mem_cons_self)
    rw [List.flatMap_cons, List.length_append]
    omega
theorem ring_alt {lev : Int} {xs : List S50} {r : List S80} (hr : ∀ s ∈ r, s ∈ stepsH lev xs) (h : lev = 2) : (∀ h : 0 < (flatE r).length, (flatE r)[0].f0 ≠ 3) ∧ ∀ i (h : i + 1 < (flatE r).length), ¬ ((flatE r)[i].f0 = 3 ∧ (flatE r)[i + 1].f0 = 3) := by
  subst h
  exact alt_flat r hr
theorem ring_gen {lev : Int} {xs : List S50} {r : List S80} (hr : ∀ s ∈ r, s ∈ stepsH lev xs) {a : Int} (hc : Rg.chain fr_ to_ r a a) : (∀ i (h : i + 1 < (flatE r).length), (flatE r)[i].f2 = (flatE r)[i + 1].f1) ∧ (∀ h : 0 < (flatE r).length, (flatE r)[0].f1 = a) ∧ (∀ h : 0 < (flatE r).length, (flatE r)[(flatE r).length - 1].f2 = a) ∧ (∀ e ∈ flatE r, e ∈ allE xs) ∧ (lev = 2 → (∀ h : 0 < (flatE r).length, (flatE r)[0].f0 ≠ 3) ∧ ∀ i (h : i + 1 < (flatE r).length), ¬ ((flatE r)[i].f0 = 3 ∧ (flatE r)[i + 1].f0 = 3)) := by
  obtain ⟨k1, k2, k3⟩ := chain_idx _ a a (chain_flat r a a hr hc)
  exact ⟨k1, k2, k3, flat_mem hr, ring_alt hr⟩
theorem ring_facts {xs : List S50} {lev : Int} (ho : Rg.order fr_ to_ (stepsH lev xs) (nodesS (evs xs)) = none) : ∃ E a, E = flatE (Rg.ring fr_ to_ (stepsH lev xs)).1 ∧ 0 < E.length ∧ (∀ i (h : i + 1 < E.length), E[i].f2 = E[i + 1].f1) ∧ (∀ h : 0 < E.length, E[0].f1 = a) ∧ (∀ h : 0 < E.length, E[E.length - 1].f2 = a) ∧ (∀ e ∈ E, e ∈ allE xs) ∧ (lev = 2 → (∀ h : 0 < E.length, E[0].f0 ≠ 3) ∧ ∀ i (h : i + 1 < E.length), ¬ (E[i].f0 = 3 ∧ E[i + 1].f0 = 3)) := by
  have hp := ring_pos ho
  have hmr : ∀ s ∈ (Rg.ring fr_ to_ (stepsH lev xs)).1, s ∈ stepsH lev xs := Rg.ring_mem fr_ to_ (stepsH lev xs)
  have hch : ∃ a, Rg.chain fr_ to_ (Rg.ring fr_ to_ (stepsH lev xs)).1 a a := by
    cases hq : (Rg.ring fr_ to_ (stepsH lev xs)).2 with
    | true =>
      obtain ⟨a, m, _, _, _, _, g, _⟩ := Rg.ring_true fr_ to_ hq
      exact ⟨a, g⟩
    | false =>
      obtain ⟨c, n, h1, h2⟩ := Rg.order_none fr_ to_ ho
      exact absurd h2 ((Rg.ring_false fr_ to_ hq).1 n c h1)
  obtain ⟨a, hch⟩ := hch
  exact ⟨_, a, rfl, hp, ring_gen hmr hch⟩
end Go.Proofs.YtebjiimlcnmfpaaGreatPr
end
section
section
set_option linter.unusedVariables false
set_option linter.unusedSimpArgs false
namespace Go.Proofs.YtebjiimlcnmfpaaGreatPr
open Go.Proofs.YtebjiimlcnmfpaaGreat
section
open Go Go.RowKit

theorem few3_l0 (xs : List S50) (hn : xs.length ≤ 140737488351232) : ∀ (d i : Nat), i + d = xs.length → ∃ b, Evt (fun k => cartouchelaw13_few.l0 k xs (i : Int)) b ∧ (b = true → xs.length ≤ 80 ∧ ∀ j, i ≤ j → j < xs.length → 0 ≤ (nth (evs xs) j).txn ∧ (nth (evs xs) j).txn ≤ 60)
  | 0, i, hi => ⟨decide ((xs.length : Int) ≤ 80), Evt.now1 fun k => by
      simp only [cartouchelaw13_few.l0]
      rw [if_neg (by omega)], fun h => ⟨by have := of_decide_eq_true h; omega, fun j h1 h2 => by omega⟩⟩
  | d + 1, i, hi => by
    obtain ⟨b, hb, hb2⟩ := few3_l0 xs hn d (i + 1) (by omega)
    have j1t : Evt (fun k => cartouchelaw13_few.j1 k xs (i : Int) true) false := Evt.now1 fun k => by
      simp only [cartouchelaw13_few.j1]
      rw [if_pos (by trivial)]
    have j1f : Evt (fun k => cartouchelaw13_few.j1 k xs (i : Int) false) b := by
      refine Evt.step (fun k => ?_) hb
      simp only [cartouchelaw13_few.j1]
      rw [if_neg (by simp), wrap_succ (n := xs.length) (by omega) hn]
    by_cases q : (rd_T50 xs i).f1 < 0
    · refine ⟨false, Evt.step (fun k => ?_) j1t, fun h => by cases h⟩
      simp only [cartouchelaw13_few.l0]
      rw [if_pos (by omega), if_pos (by omega), if_pos q]
    · by_cases q2 : (rd_T50 xs i).f1 > 60
      · refine ⟨false, Evt.step (fun k => ?_) j1t, fun h => by cases h⟩
        simp only [cartouchelaw13_few.l0]
        rw [if_pos (by omega), if_pos (by omega), if_neg q, decide_eq_true q2]
      · refine ⟨b, Evt.step (fun k => ?_) j1f, fun h => ⟨(hb2 h).1, fun j h1 h2 => ?_⟩⟩
        · simp only [cartouchelaw13_few.l0]
          rw [if_pos (by omega), if_pos (by omega), if_neg q, decide_eq_false q2]
        · by_cases e : j = i
          · subst e
            rw [rd_f1, Int.toNat_natCast] at q q2
            omega
          · exact (hb2 h).2 j (by omega) h2
theorem few3_evt (xs : List S50) (hn : xs.length ≤ 140737488351232) : ∃ b, Evt (fun k => cartouchelaw13_few.f k xs) b ∧ (b = true → xs.length ≤ 80 ∧ ∀ j, j < xs.length → 0 ≤ (nth (evs xs) j).txn ∧ (nth (evs xs) j).txn ≤ 60) := by
  obtain ⟨b, h1, h2⟩ := few3_l0 xs hn xs.length 0 (by omega)
  exact ⟨b, h1, fun h => ⟨(h2 h).1, fun j hj => (h2 h).2 j (by omega) hj⟩⟩


theorem shown13 : cartouchelaw13_shown.f = some true := by kernel_rfl

/-! ### orders -/
theorem aheadS_mk {xs : List S50} {lev : Int} {o : List Int} (h1 : o.mergeSort (fun x y => decide (x ≤ y)) = nodesS (evs xs)) (h2 : Rg.forward fr_ to_ (stepsH lev xs) o = true) : aheadS xs lev o = true := by
  unfold aheadS
  rw [Bool.and_eq_true]
  exact ⟨decide_eq_true h1, h2⟩
/-! ### rings -/
theorem roundS_iff {l : List Ev} {lev : Int} {rs : List Go.Proofs.YtebjiimlcnmfpaaGreat.Edge} : roundS l lev rs = true ↔ 0 < rs.length ∧ ∀ i, i < rs.length → roundAt l lev rs i = true := by
  unfold roundS
  rw [Bool.and_eq_true, decide_eq_true_eq, List.all_eq_true]
  exact and_congr_right fun _ => ⟨fun h i hi => h i (List.mem_range.2 hi), fun h i hi => h i (List.mem_range.1 hi)⟩
theorem roundAt_iff {l : List Ev} {lev : Int} {rs : List Go.Proofs.YtebjiimlcnmfpaaGreat.Edge} {i : Nat} : roundAt l lev rs i = true ↔ holds l (enth rs i) = true ∧ (enth rs i).to_ = (enth rs (nxt rs.length i)).from_ ∧ ¬ (lev = 2 ∧ (enth rs i).kind = 3 ∧ (enth rs (nxt rs.length i)).kind = 3) := by
  unfold roundAt
  rw [Bool.and_eq_true, Bool.and_eq_true, decide_eq_true_eq, Bool.not_eq_true', decide_eq_false_iff_not]
/-- A place of a ring that is told from its n-th edge on. -/
def turn (m n i : Nat) : Nat := if i + n < m then i + n else i + n - m
theorem check_f {l : List S50} {lev : Int} {acc : Bool} {o : List Int} {bk bi bj : Int} {rs : List S24} (hn : l.length ≤ 300) (hS : ∀ y ∈ l, EvS y) (ho : o.length * 8 ≤ 140737488351232) (hi : ∀ y ∈ o, IntS y) (hr : rs.length ≤ 140737488351232) : check_Check.f l lev acc o bk bi bj rs = some (checkS l lev acc o bk bi bj rs) := by
  unfold check_Check.f
  rw [if_pos ⟨hn, evsOk_iff.2 hS, ho, intsOk_iff.2 hi, hr⟩]
end
end Go.Proofs.YtebjiimlcnmfpaaGreatPr
end
section
section
/-! Rows of edges, read from memory by hand. -/
set_option linter.unusedVariables false
set_option linter.unusedSimpArgs false
namespace Go.Proofs.YtebjiimlcnmfpaaGreatPr
section
open Go.Proofs.YtebjiimlcnmfpaaGreat
section
open Go Go.RowKit Go.Proofs Go.Shelf
set_option linter.unusedSimpArgs false
set_option linter.unusedVariables false

end
end
end Go.Proofs.YtebjiimlcnmfpaaGreatPr

/-! Ways along all edges of a history: where an edge holds there is one. -/
namespace Go.Proofs.YtebjiimlcnmfpaaGreatPr
section
open Go.Proofs.YtebjiimlcnmfpaaGreat
section
open Go Go.RowKit Go.Proofs Go.Shelf
set_option linter.unusedSimpArgs false
set_option linter.unusedVariables false

/-! ### ways along all edges -/
end
end
end Go.Proofs.YtebjiimlcnmfpaaGreatPr

/-! A ring of edges that hold is a ring of steps: at level 1, and at level 2 where no two GOver stand together. -/
namespace Go.Proofs.YtebjiimlcnmfpaaGreatPr
section
open Go.Proofs.YtebjiimlcnmfpaaGreat
section
open Go Go.RowKit

section
variable {xs : List S50} {rs : List Go.Proofs.YtebjiimlcnmfpaaGreat.Edge} (hw : Wf (evs xs)) (hb : ∀ i : Nat, i < xs.length → (badAt (evs xs) i).kind = 0)
include hw hb
end
end
end
end Go.Proofs.YtebjiimlcnmfpaaGreatPr

/-! What a verdict that is checked with OK says. -/
namespace Go.Proofs.YtebjiimlcnmfpaaGreatPr
section
open Go.Proofs.YtebjiimlcnmfpaaGreat
open Go Go.RowKit

end
end Go.Proofs.YtebjiimlcnmfpaaGreatPr
end
section
set_option linter.unusedVariables false
set_option linter.unusedSimpArgs false
namespace Go.Proofs.YtebjiimlcnmfpaaGreatPr
open Go.Proofs.YtebjiimlcnmfpaaGreat
section
open Go Go.RowKit

theorem enth_map {E : List S24} {i : Nat} (h : i < E.length) : enth (E.map toEd) i = toEd E[i] := by
  unfold enth
  rw [List.getD_eq_getElem?_getD, List.getElem?_map, List.getElem?_eq_getElem h]; rfl
theorem ring_round {xs : List S50} (hf : (formed (evs xs)).2 = 0) {lev : Int} (ho : Rg.order fr_ to_ (stepsH lev xs) (nodesS (evs xs)) = none) : roundS (evs xs) lev ((flatE (Rg.ring fr_ to_ (stepsH lev xs)).1).map toEd) = true := by
  obtain ⟨E, a, hE, hp2, k1, k2, k3, hmem, halt⟩ := ring_facts ho
  rw [← hE]
  clear hE ho
  refine roundS_iff.2 ⟨by rw [List.length_map]; exact hp2, fun i hi => ?_⟩
  rw [List.length_map] at hi
  refine roundAt_iff.2 ?_
  rw [List.length_map, enth_map hi]
  refine ⟨?_, ?_⟩
  · obtain ⟨e, key, h1, h2⟩ := allE_good (hmem _ (List.getElem_mem hi))
    rw [h1]
    exact decide_eq_true (of_holds (formed_wf hf) h2)
  · by_cases e : i + 1 = E.length
    · have hx : nxt E.length i = 0 := by unfold nxt; rw [if_pos e]
      rw [hx, enth_map hp2]
      have hi2 : i = E.length - 1 := by omega
      subst hi2
      exact ⟨(k3 (by omega)).trans (k2 (by omega)).symm, fun z => (halt z.1).1 (by omega) z.2.2⟩
    · have hx : nxt E.length i = i + 1 := by unfold nxt; rw [if_neg e]
      rw [hx, enth_map (show i + 1 < E.length by omega)]
      exact ⟨k1 i (by omega), fun z => (halt z.1).2 i (by omega) z.2⟩
theorem order_ahead {xs : List S50} {lev : Int} {o : List Int} (h : Rg.order fr_ to_ (stepsH lev xs) (nodesS (evs xs)) = some o) : aheadS xs lev o = true := by
  obtain ⟨g1, g2, g3⟩ := Rg.order_some fr_ to_ h
  refine aheadS_mk (Rg.rising_eq ?_ (nodesS_rising _) (fun x => ?_)) (Rg.fwd_forward fr_ to_ g1 g3)
  · have hs : (o.mergeSort (fun x y => decide (x ≤ y))).Pairwise (fun a b => decide (a ≤ b) = true) := List.pairwise_mergeSort (fun a b c h1 h2 => by simp only [decide_eq_true_eq] at *; omega) (fun a b => by simp only [Bool.or_eq_true, decide_eq_true_eq]; omega) o
    have hn : (o.mergeSort (fun x y => decide (x ≤ y))).Nodup := (List.mergeSort_perm o _).nodup_iff.2 g1
    exact (hs.and hn).imp fun ⟨h1, h2⟩ => by have := of_decide_eq_true h1; omega
  · rw [(List.mergeSort_perm o _).mem_iff]
    exact g2 x
theorem bad_at {l : List Ev} {i : Int} (h : (badAt l i).kind ≠ 0) : (badAt l i).i = i := by
  generalize hb : badAt l i = b at h ⊢
  unfold badAt badW ownBad at hb
  repeat' split at hb
  all_goals
    subst hb
    first
      | rfl
      | exact absurd rfl h
theorem bads_head {xs : List S50} {b : S40} {r : List S40} (h : badsS xs = b :: r) : b.f0 ≠ 0 ∧ (badAt (evs xs) b.f1).kind = b.f0 ∧ (badAt (evs xs) b.f1).i = b.f1 ∧ (badAt (evs xs) b.f1).j = b.f2 := by
  have hm : b ∈ badsS xs := by rw [h]; exact List.mem_cons_self
  unfold badsS at hm
  obtain ⟨i, _, hi⟩ := List.mem_flatMap.1 hm
  unfold badOne at hi
  split at hi
  · cases hi
  · rename_i hk
    obtain rfl := List.mem_singleton.1 hi
    have e := bad_at hk
    refine ⟨hk, ?_⟩
    show (badAt (evs xs) (badAt (evs xs) i).i).kind = _ ∧ (badAt (evs xs) (badAt (evs xs) i).i).i = _ ∧ (badAt (evs xs) (badAt (evs xs) i).i).j = _
    rw [e]
    exact ⟨rfl, e, rfl⟩
/-- The verdict is checked with OK. -/
theorem jS_ok {xs : List S50} {lev : Int} (h : (jS xs lev).2.2.2.2.2.2.2 = 0) : checkS xs (jS xs lev).1 (jS xs lev).2.1 (jS xs lev).2.2.1 (jS xs lev).2.2.2.1 (jS xs lev).2.2.2.2.1 (jS xs lev).2.2.2.2.2.1 (jS xs lev).2.2.2.2.2.2.1 = 0 := by
  unfold jS at *
  by_cases c1 : lev < 1 ∨ lev > 2
  · rw [if_pos c1] at h; cases h
  rw [if_neg c1] at h ⊢
  by_cases hf : (formed (evs xs)).2 = 0
  · rw [if_pos hf] at h ⊢
    unfold jokS at *
    cases hb : badsS xs with
    | cons b r =>
      rw [hb] at h
      obtain ⟨h1, h2, h3, h4⟩ := bads_head hb
      simp only
      unfold checkS
      rw [if_neg (by omega), if_pos hf]
      refine if_pos ?_
      rw [if_neg (by simp)]
      unfold badV
      rw [if_neg (by simp), if_neg h1, if_pos (by rfl), h2, h3, h4]
      simp
    | nil =>
      rw [hb] at h
      simp only at h ⊢
      cases ho : Rg.order fr_ to_ (stepsH lev xs) (nodesS (evs xs)) with
      | some o =>
        simp only
        unfold checkS
        rw [if_neg (by omega), if_pos hf]
        refine if_pos ?_
        rw [if_pos rfl]
        unfold goodS
        rw [if_pos rfl, if_pos (by rfl), hb, if_pos (by rfl)]
        exact order_ahead ho
      | none =>
        simp only
        unfold checkS
        rw [if_neg (by omega), if_pos hf]
        refine if_pos ?_
        rw [if_neg (by simp)]
        unfold badV
        rw [if_neg (by simp), if_pos rfl]
        exact ring_round hf ho
  · rw [if_neg hf] at h
    exact absurd h hf
end
end Go.Proofs.YtebjiimlcnmfpaaGreatPr
end
end
end
