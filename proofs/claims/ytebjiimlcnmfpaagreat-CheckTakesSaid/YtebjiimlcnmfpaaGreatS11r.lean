/-
  What the references of chapter 11 compute: the shortest ring.
-/
import Derived.Test.YtebjiimlcnmfpaaGreatPrCartoucheref11Ring
import Derived.Test.YtebjiimlcnmfpaaGreatS11h
import Derived.Test.YtebjiimlcnmfpaaGreatB32
set_option linter.unusedVariables false
set_option linter.unusedSimpArgs false
namespace Go.Proofs.YtebjiimlcnmfpaaGreatPr
section
open Go.Proofs.YtebjiimlcnmfpaaGreat
open Go Go.RowKit
/-! ### at which numbers steps begin -/
theorem starts_evt (l : Stl) (hn : l.length ≤ 1000000) : Evt (fun _ => cartoucheref11_starts.f l) (Rg.froms fr_ l) := Evt.now fun _ => by
  unfold cartoucheref11_starts.f
  rw [if_pos hn]

/-! ### who reaches a number -/
abbrev levP (l : Stl) (t : Int) (n : Nat) (x : Int) : Bool := Rg.lev fr_ to_ l t n x
abbrev alongP (l : Stl) (t : Int) (m : Nat) (x : Int) : Stl := Rg.along fr_ to_ l t m x
def row (W : List (List Int)) (j : Nat) : List Int := W.getD j []
structure Lvl (l : Stl) (t : Int) (W : List (List Int)) (n : Nat) : Prop where
  len : W.length = n + 1
  mem : ∀ j, j ≤ n → ∀ x, x ∈ row W j ↔ levP l t j x = true
  short : ∀ j, j ≤ n → (row W j).length ≤ l.length + 1
theorem rd_row (W : List (List Int)) (j : Nat) : rd_L8 W (j : Int) = row W j := by unfold rd_L8 row; rw [Int.toNat_natCast]
structure Nxt (l : Stl) (w : List Int) (i : Nat) (nx : List Int) : Prop where
  mem : ∀ x, x ∈ nx ↔ ∃ s ∈ l.take i, s.f0 = x ∧ s.f1 ∈ w
  len : nx.length ≤ i
theorem Lvl.next {l : Stl} {t : Int} {W : List (List Int)} {n : Nat} (h : Lvl l t W n) {nx : List Int} (hx : Nxt l (row W n) l.length nx) : Lvl l t (W ++ [nx]) (n + 1) := by
  have hl := h.len
  have e1 : ∀ j, j ≤ n → row (W ++ [nx]) j = row W j := fun j hj => by
    unfold row
    rw [List.getD_eq_getElem?_getD, List.getD_eq_getElem?_getD, List.getElem?_append_left (by omega)]
  have e2 : row (W ++ [nx]) (n + 1) = nx := by
    unfold row
    rw [List.getD_eq_getElem?_getD, List.getElem?_append_right (by omega), hl]
    simp
  refine ⟨by simp [hl], fun j hj x => ?_, fun j hj => ?_⟩
  · by_cases e : j = n + 1
    · subst e
      rw [e2, hx.mem x, List.take_of_length_le (Nat.le_refl _)]
      simp only [levP, Rg.lev, List.any_eq_true, Bool.and_eq_true, decide_eq_true_eq]
      refine exists_congr fun s => and_congr_right fun _ => and_congr_right fun _ => h.mem n (Nat.le_refl _) _
    · rw [e1 j (by omega)]; exact h.mem j (by omega) x
  · by_cases e : j = n + 1
    · subst e; rw [e2]; have := hx.len; omega
    · rw [e1 j (by omega)]; exact h.short j (by omega)
theorem ways_l0 (l : Stl) (hn : l.length ≤ 1000000) (t : Int) (many : Nat) (hm : many ≤ 1000000) : ∀ (d n : Nat) (W : List (List Int)), n + d = many → Lvl l t W n → ∃ W', Evt (fun k => cartoucheref11_ways.l0 k l (many : Int) W (n : Int)) W' ∧ Lvl l t W' many := by
  intro d
  induction d with
  | zero =>
    intro n W h1 h2
    refine ⟨W, Evt.now1 fun k => ?_, by rw [show many = n by omega]; exact h2⟩
    simp only [cartoucheref11_ways.l0]
    rw [if_neg (by omega)]
  | succ d ih =>
    intro n W h1 h2
    -- the next row is what it is: choose it first
    have hex : ∃ nx, Nxt l (row W n) l.length nx ∧ ∀ R, Evt (fun k => cartoucheref11_ways.l0 k l (many : Int) (W ++ [nx]) ((n + 1 : Nat) : Int)) R → Evt (fun k => cartoucheref11_ways.l0 k l (many : Int) W (n : Int)) R := by
      have hloop : ∀ (d i : Nat) (nx : List Int), i + d = l.length → Nxt l (row W n) i nx → ∃ nx', Nxt l (row W n) l.length nx' ∧ ∀ R, Evt (fun k => cartoucheref11_ways.l0 k l (many : Int) (W ++ [nx']) ((n + 1 : Nat) : Int)) R → Evt (fun k => cartoucheref11_ways.l1 k l (many : Int) W (n : Int) nx (i : Int)) R := by
        intro d
        induction d with
        | zero =>
          intro i nx hi hx
          refine ⟨nx, by rw [show i = l.length by omega] at hx; exact hx, fun R hR => ?_⟩
          have := h2.len
          refine Evt.step (fun k => ?_) hR
          simp only [cartoucheref11_ways.l1]
          rw [if_neg (by omega), if_pos (by omega), wrap_succ (n := 1000001) (by omega) (by omega)]
        | succ d ih2 =>
          intro i nx hi hx
          have hlen := h2.len
          have hlx := hx.len
          have hmm : ∀ x, (∃ s ∈ l.take (i + 1), s.f0 = x ∧ s.f1 ∈ row W n) ↔ x ∈ nx ∨ ((sn l i).f0 = x ∧ (sn l i).f1 ∈ row W n) := fun x => by
            rw [hx.mem x, sn_take (by omega)]
            simp only [List.mem_append, List.mem_singleton]
            constructor
            · rintro ⟨s, h | h, hs⟩
              · exact .inl ⟨s, h, hs⟩
              · subst h; exact .inr hs
            · rintro (⟨s, h, hs⟩ | hs)
              · exact ⟨s, .inl h, hs⟩
              · exact ⟨_, .inr rfl, hs⟩
          have e1 := has_evt (row W n) (sn l i).f1 (by have := h2.short n (Nat.le_refl _); omega)
          have e2 := has_evt nx (sn l i).f0 (by omega)
          have go : ∀ (z : Bool) R, (if decide ((sn l i).f1 ∈ row W n) = true then !decide ((sn l i).f0 ∈ nx) else false) = z → Evt (fun k => cartoucheref11_ways.j2 k l (many : Int) W (n : Int) nx (i : Int) z) R → Evt (fun k => cartoucheref11_ways.l1 k l (many : Int) W (n : Int) nx (i : Int)) R := fun z R hz hR => by
            refine Evt.step (fun k => ?_) (Evt.bind (f := fun k (a : Bool) => (cartoucheref11_has.f k nx (sn l i).f0).bind fun b => if a = true then cartoucheref11_ways.j2 k l (many : Int) W (n : Int) nx (i : Int) (!b) else cartoucheref11_ways.j2 k l (many : Int) W (n : Int) nx (i : Int) false) e1 (Evt.bind (f := fun k (b : Bool) => if decide ((sn l i).f1 ∈ row W n) = true then cartoucheref11_ways.j2 k l (many : Int) W (n : Int) nx (i : Int) (!b) else cartoucheref11_ways.j2 k l (many : Int) W (n : Int) nx (i : Int) false) e2 (Evt.congr (fun k => ?_) hR)))
            · simp only [cartoucheref11_ways.l1]
              rw [if_pos (by omega), if_pos (by omega), if_pos (by omega), if_pos (by omega), rd_row, rd_sn]
            · rw [← hz]
              by_cases q : decide ((sn l i).f1 ∈ row W n) = true
              · rw [if_pos q, if_pos q]
              · rw [if_neg q, if_neg q]
          by_cases q1 : (sn l i).f1 ∈ row W n
          · by_cases q2 : (sn l i).f0 ∈ nx
            · obtain ⟨nx', g1, g2⟩ := ih2 (i + 1) nx (by omega) ⟨fun x => by
                rw [hmm x]
                exact ⟨.inl, fun h => h.elim id fun h => h.1 ▸ q2⟩, by omega⟩
              refine ⟨nx', g1, fun R hR => go false R (by simp [q1, q2]) (Evt.step (fun k => ?_) (g2 R hR))⟩
              simp only [cartoucheref11_ways.j2]
              rw [if_neg (by simp), wrap_succ (n := l.length) (by omega) (by omega)]
            · obtain ⟨nx', g1, g2⟩ := ih2 (i + 1) (nx ++ [(sn l i).f0]) (by omega) ⟨fun x => by
                rw [hmm x, List.mem_append, List.mem_singleton]
                exact ⟨fun h => h.elim .inl fun h => .inr ⟨h.symm, q1⟩, fun h => h.elim .inl fun h => .inr h.1.symm⟩, by simp; omega⟩
              refine ⟨nx', g1, fun R hR => go true R (by simp [q1, q2]) (Evt.step (fun k => ?_) (g2 R hR))⟩
              simp only [cartoucheref11_ways.j2]
              rw [if_pos (by trivial), if_pos (by omega), if_pos (by omega), if_pos (by omega), rd_sn, wrap_succ (n := l.length) (by omega) (by omega)]
          · obtain ⟨nx', g1, g2⟩ := ih2 (i + 1) nx (by omega) ⟨fun x => by
                rw [hmm x]
                exact ⟨.inl, fun h => h.elim id fun h => absurd h.2 q1⟩, by omega⟩
            refine ⟨nx', g1, fun R hR => go false R (by simp [q1]) (Evt.step (fun k => ?_) (g2 R hR))⟩
            simp only [cartoucheref11_ways.j2]
            rw [if_neg (by simp), wrap_succ (n := l.length) (by omega) (by omega)]
      obtain ⟨nx, g1, g2⟩ := hloop l.length 0 [] (by omega) ⟨fun x => by simp, by simp⟩
      refine ⟨nx, g1, fun R hR => Evt.step (fun k => ?_) (g2 R hR)⟩
      simp only [cartoucheref11_ways.l0]
      rw [if_pos (by omega)]; rfl
    obtain ⟨nx, g1, g2⟩ := hex
    obtain ⟨W', g3, g4⟩ := ih (n + 1) (W ++ [nx]) (by omega) (h2.next g1)
    exact ⟨W', g2 W' g3, g4⟩
theorem ways_evt (l : Stl) (hn : l.length ≤ 1000000) (t : Int) (n : Nat) (hm : n ≤ 1000000) : ∃ W, Evt (fun k => cartoucheref11_ways.f k l t (n : Int)) W ∧ Lvl l t W n :=
  ways_l0 l hn t n hm n 0 [[t]] (by omega) ⟨rfl, fun j hj x => by
    obtain rfl : j = 0 := by omega
    simp [row, Rg.lev], fun j hj => by
    obtain rfl : j = 0 := by omega
    simp [row]⟩
end
end Go.Proofs.YtebjiimlcnmfpaaGreatPr

/-! What the references of chapter 11 compute: the shortest ring, an order, whether steps go forward; all numbers of steps. -/
namespace Go.Proofs.YtebjiimlcnmfpaaGreatPr
section
open Go.Proofs.YtebjiimlcnmfpaaGreat
open Go Go.RowKit

theorem find_sn {l : Stl} {p : S80 → Bool} {s : S80} (h : l.find? p = some s) : ∃ q, q < l.length ∧ sn l q = s ∧ p s = true ∧ ∀ j, j < q → p (sn l j) = false := by
  obtain ⟨h1, q, hq, h2, h3⟩ := List.find?_eq_some_iff_getElem.1 h
  refine ⟨q, hq, by rw [sn_get hq]; exact h2, h1, fun j hj => ?_⟩
  have := h3 j hj
  rw [sn_get (by omega)]
  simpa using this

/-! ### the ring -/
theorem along_l3 (l : Stl) (hn : l.length ≤ 1000000) {t : Int} {W : List (List Int)} {N : Nat} (hW : Lvl l t W N) {m : Nat} (hm : m ≤ N) {at_ : Int} {out : Stl} (ho : out.length ≤ 1000001) {q : Nat} (hq : q < l.length) (hq1 : (sn l q).f0 = at_ ∧ levP l t m (sn l q).f1 = true) (hq2 : ∀ j, j < q → ¬ ((sn l j).f0 = at_ ∧ levP l t m (sn l j).f1 = true)) {R : Stl × Bool}
    (hR : Evt (fun k => cartoucheref11_Ring.l2 k l W (out ++ [sn l q]) (sn l q).f1 (wrap64 ((m : Int) - 1))) R) : ∀ (d i : Nat), i + d = q → Evt (fun k => cartoucheref11_Ring.l3 k l W out at_ (m : Int) false (i : Int)) R := by
  have hlen := hW.len
  have hdone : ∀ (i : Nat), Evt (fun k => cartoucheref11_Ring.l3 k l W (out ++ [sn l q]) (sn l q).f1 (m : Int) true (i : Int)) R := fun i => by
    have hj : Evt (fun k => cartoucheref11_Ring.j4 k l W (out ++ [sn l q]) (sn l q).f1 (m : Int) true (i : Int) false) R := by
      refine Evt.step (fun k => ?_) hR
      simp only [cartoucheref11_Ring.j4]
      rw [if_neg (by simp)]
    refine Evt.step (fun k => ?_) hj
    simp only [cartoucheref11_Ring.l3]
    by_cases hi : (i : Int) < (l.length : Int)
    · rw [if_pos hi]; rfl
    · rw [if_neg hi]
  have hstep : ∀ i, i < l.length → ∀ z, (if (sn l i).f0 = at_ then levP l t m (sn l i).f1 else false) = z → Evt (fun k => cartoucheref11_Ring.j5 k l W out at_ (m : Int) false (i : Int) z) R → Evt (fun k => cartoucheref11_Ring.l3 k l W out at_ (m : Int) false (i : Int)) R := fun i hi z hz hR => by
    have hh := has_evt (row W m) (sn l i).f1 (by have := hW.short m hm; omega)
    have e : decide ((sn l i).f1 ∈ row W m) = levP l t m (sn l i).f1 := by
      rw [Bool.eq_iff_iff, decide_eq_true_eq]; exact hW.mem m hm _
    rw [e] at hh
    have hj : Evt (fun k => cartoucheref11_Ring.j4 k l W out at_ (m : Int) false (i : Int) true) R := by
      refine Evt.step (fun k => ?_) (Evt.bind (f := fun k (t : Bool) => if (sn l i).f0 = at_ then cartoucheref11_Ring.j5 k l W out at_ (m : Int) false (i : Int) t else cartoucheref11_Ring.j5 k l W out at_ (m : Int) false (i : Int) false) hh (Evt.congr (fun k => ?_) hR))
      · simp only [cartoucheref11_Ring.j4]
        rw [if_pos (by trivial), if_pos (by omega), if_pos (by omega), if_pos (by omega), if_pos (by omega), rd_row, rd_sn]
      · rw [← hz]
        by_cases q : (sn l i).f0 = at_
        · rw [if_pos q, if_pos q]
        · rw [if_neg q, if_neg q]
    refine Evt.step (fun k => ?_) hj
    simp only [cartoucheref11_Ring.l3]
    rw [if_pos (by omega)]; rfl
  intro d
  induction d with
  | zero =>
    intro i hi
    obtain rfl : i = q := by omega
    refine hstep i hq true (by rw [if_pos hq1.1, hq1.2]) (Evt.step (fun k => ?_) (hdone (i + 1)))
    simp only [cartoucheref11_Ring.j5]
    rw [if_pos (by trivial), if_pos (by omega), if_pos (by omega), if_pos (by omega), rd_sn, wrap_succ (n := l.length) (by omega) (by omega)]
  | succ d ih =>
    intro i hi
    have hno := hq2 i (by omega)
    refine hstep i (by omega) false (by
      by_cases q : (sn l i).f0 = at_
      · rw [if_pos q]
        cases hv : levP l t m (sn l i).f1 with
        | false => rfl
        | true => exact absurd ⟨q, hv⟩ hno
      · rw [if_neg q]) (Evt.step (fun k => ?_) (ih (i + 1) (by omega)))
    simp only [cartoucheref11_Ring.j5]
    rw [if_neg (by simp), wrap_succ (n := l.length) (by omega) (by omega)]
theorem along_l2 (l : Stl) (hn : l.length ≤ 1000000) {t : Int} {W : List (List Int)} {N : Nat} (hW : Lvl l t W N) (hN : N ≤ 1000000) : ∀ (m : Nat) (at_ : Int) (out : Stl), m ≤ N → levP l t m at_ = true → out.length + m ≤ 1000001 → Evt (fun k => cartoucheref11_Ring.l2 k l W out at_ ((m : Int) - 1)) (out ++ alongP l t m at_, true)
  | 0, at_, out, hm, hl, ho => Evt.now1 fun k => by
    simp only [cartoucheref11_Ring.l2]
    rw [if_neg (by omega)]
    simp [alongP, Rg.along]
  | m + 1, at_, out, hm, hl, ho => by
    obtain ⟨s, hf, hs, he, hlv⟩ := Rg.along_hit fr_ to_ hl
    obtain ⟨q, hq, hqs, _, hq2⟩ := find_sn hf
    subst hqs
    have ih := along_l2 l hn hW hN m (sn l q).f1 (out ++ [sn l q]) (by omega) hlv (by simp; omega)
    have hal : alongP l t (m + 1) at_ = sn l q :: alongP l t m (sn l q).f1 := by unfold alongP; rw [Rg.along, hf]
    rw [hal]
    have e : out ++ [sn l q] ++ alongP l t m (sn l q).f1 = out ++ sn l q :: alongP l t m (sn l q).f1 := by simp
    rw [e] at ih
    have hw : wrap64 ((m : Int) - 1) = (m : Int) - 1 := by unfold wrap64; omega
    have h3 := along_l3 l hn hW (m := m) (by omega) (at_ := at_) (out := out) (by omega) hq ⟨he, hlv⟩ (fun j hj h => by
      have := hq2 j hj
      rw [Bool.and_eq_false_iff, decide_eq_false_iff_not] at this
      rcases this with h1 | h1
      · exact h1 h.1
      · rw [show Rg.lev fr_ to_ l t m (to_ (sn l j)) = true from h.2] at h1; cases h1) (R := (out ++ sn l q :: alongP l t m (sn l q).f1, true)) (by rw [hw]; exact ih) q 0 (by omega)
    refine Evt.step (fun k => ?_) h3
    simp only [cartoucheref11_Ring.l2]
    rw [if_pos (by omega), show (((m + 1 : Nat) : Int) - 1) = (m : Int) by omega]; rfl
def ringRes (l : Stl) (o : Option (Int × Nat)) : Stl × Bool := match o with
  | some (a, n) => (alongP l a n a, true)
  | none => ([], false)
theorem ringRes_ring (l : Stl) : ringRes l (Rg.find1 fr_ to_ l) = Rg.ring fr_ to_ l := by
  unfold ringRes Rg.ring
  rfl
theorem ring_l1 (l : Stl) (hn : l.length ≤ 1000000) (F : List Int) (hF : F.length ≤ 1000000) {n : Nat} (h1 : 1 ≤ n) (hnF : n ≤ F.length) {R : Stl × Bool} (hR : F.find? (fun a => levP l a n a) = none → Evt (fun k => cartoucheref11_Ring.l0 k l F ((n + 1 : Nat) : Int)) R) (hR2 : ∀ a, F.find? (fun a => levP l a n a) = some a → R = (alongP l a n a, true)) :
    ∀ (d q : Nat), q + d = F.length → (∀ j, j < q → levP l (ith F j) n (ith F j) = false) → Evt (fun k => cartoucheref11_Ring.l1 k l F (n : Int) (q : Int)) R
  | 0, q, hq, hlow => by
    refine Evt.step (fun k => ?_) (hR ?_)
    · simp only [cartoucheref11_Ring.l1]
      rw [if_neg (by omega), wrap_succ (n := 1000001) (by omega) (by omega)]
    · rw [List.find?_eq_none]
      intro x hx
      obtain ⟨j, hj, rfl⟩ := List.getElem_of_mem hx
      have := hlow j (by omega)
      rw [ith_get hj] at this
      rw [this]; simp
  | d + 1, q, hq, hlow => by
    obtain ⟨W, hw1, hw2⟩ := ways_evt l hn (ith F q) n (by omega)
    have hlen := hw2.len
    have hh := has_evt (row W n) (ith F q) (by have := hw2.short n (Nat.le_refl _); omega)
    have e : decide (ith F q ∈ row W n) = levP l (ith F q) n (ith F q) := by rw [Bool.eq_iff_iff, decide_eq_true_eq]; exact hw2.mem n (Nat.le_refl _) _
    rw [e] at hh
    have key : Evt (fun k => if levP l (ith F q) n (ith F q) = true then cartoucheref11_Ring.l2 k l W ([] : Stl) (ith F q) (wrap64 ((n : Int) - 1)) else cartoucheref11_Ring.l1 k l F (n : Int) (wrap64 ((q : Int) + 1))) R := by
      cases hv : levP l (ith F q) n (ith F q) with
      | true =>
        have hf : F.find? (fun a => levP l a n a) = some (ith F q) := by
          rw [ith_get (by omega), List.find?_eq_some_iff_getElem]
          refine ⟨by rw [← ith_get (by omega)]; exact hv, q, by omega, rfl, fun j hj => ?_⟩
          have := hlow j hj
          rw [ith_get (by omega)] at this
          rw [this]; rfl
        rw [hR2 _ hf]
        have hw : wrap64 ((n : Int) - 1) = (n : Int) - 1 := by unfold wrap64; omega
        have := along_l2 l hn hw2 (by omega) n (ith F q) [] (Nat.le_refl _) hv (by simp; omega)
        refine Evt.congr (fun k => ?_) this
        rw [if_pos rfl, hw]
      | false =>
        refine Evt.congr (fun k => ?_) (ring_l1 l hn F hF h1 hnF hR hR2 d (q + 1) (by omega) fun j hj => by
          by_cases e : j = q
          · rw [e]; exact hv
          · exact hlow j (by omega))
        rw [if_neg (by simp), wrap_succ (n := F.length) (by omega) (by omega)]
    refine Evt.step (fun k => ?_) (Evt.bind (f := fun k (W : List (List Int)) => if 0 ≤ (n : Int) then (if (n : Int) < (W.length : Int) then ((cartoucheref11_has.f k (rd_L8 W (n : Int)) (ith F q)).bind fun t => if t = true then cartoucheref11_Ring.l2 k l W ([] : Stl) (ith F q) (wrap64 ((n : Int) - 1)) else cartoucheref11_Ring.l1 k l F (n : Int) (wrap64 ((q : Int) + 1))) else none) else none) hw1
      (Evt.congr (fun k => ?_) (Evt.bind (f := fun k (t : Bool) => if t = true then cartoucheref11_Ring.l2 k l W ([] : Stl) (ith F q) (wrap64 ((n : Int) - 1)) else cartoucheref11_Ring.l1 k l F (n : Int) (wrap64 ((q : Int) + 1))) hh key)))
    · simp only [cartoucheref11_Ring.l1]
      rw [if_pos (by omega), if_pos (by omega), rd_ith]
    · rw [if_pos (by omega), if_pos (by omega), rd_row]
theorem ring_l0 (l : Stl) (hn : l.length ≤ 1000000) (F : List Int) (hF : F.length ≤ 1000000) : ∀ (d n : Nat), n + d = F.length → Evt (fun k => cartoucheref11_Ring.l0 k l F ((n + 1 : Nat) : Int)) (ringRes l (Rg.ringGo fr_ to_ l F d (n + 1)))
  | 0, n, h => Evt.now1 fun k => by
    simp only [cartoucheref11_Ring.l0]
    rw [if_neg (by omega)]; rfl
  | d + 1, n, h => by
    have ih := ring_l0 l hn F hF d (n + 1) (by omega)
    have hg : Rg.ringGo fr_ to_ l F (d + 1) (n + 1) = match F.find? (fun a => levP l a (n + 1) a) with
      | some a => some (a, n + 1)
      | none => Rg.ringGo fr_ to_ l F d (n + 1 + 1) := rfl
    have h1 := ring_l1 l hn F hF (n := n + 1) (by omega) (by omega) (R := ringRes l (Rg.ringGo fr_ to_ l F (d + 1) (n + 1))) (fun hf => by rw [hg, hf]; exact ih) (fun a hf => by rw [hg, hf]; rfl) F.length 0 (by omega) (fun j hj => by omega)
    refine Evt.step (fun k => ?_) h1
    simp only [cartoucheref11_Ring.l0]
    rw [if_pos (by omega)]; rfl
theorem ring_evt (l : Stl) (hn : l.length ≤ 1000000) : Evt (fun k => cartoucheref11_Ring.f k l) (Rg.ring fr_ to_ l) := by
  have hF : (Rg.froms fr_ l).length ≤ 1000000 := by
    have := Rg.sortD_len (l.map fr_)
    rw [List.length_map] at this
    unfold Rg.froms
    omega
  have h0 := ring_l0 l hn (Rg.froms fr_ l) hF (Rg.froms fr_ l).length 0 (by omega)
  rw [show Rg.ringGo fr_ to_ l (Rg.froms fr_ l) (Rg.froms fr_ l).length (0 + 1) = Rg.find1 fr_ to_ l from rfl, ringRes_ring] at h0
  exact Evt.bind (f := fun k t => cartoucheref11_Ring.l0 k l t 1) (starts_evt l hn) h0
end
end Go.Proofs.YtebjiimlcnmfpaaGreatPr
