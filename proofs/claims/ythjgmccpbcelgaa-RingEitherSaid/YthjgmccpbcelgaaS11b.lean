/-
  What the references of chapter 11 compute.
-/
import Derived.Test.YthjgmccpbcelgaaS11
import Derived.Test.YthjgmccpbcelgaaPr31
import Derived.Test.YthjgmccpbcelgaaPr34
import Derived.Test.YthjgmccpbcelgaaPr32
import Derived.Test.YthjgmccpbcelgaaPr37
/-! What the references of chapter 11 compute: the shortest ring, an order, whether steps go forward. -/
set_option linter.unusedVariables false
set_option linter.unusedSimpArgs false
namespace Go.Proofs.YthjgmccpbcelgaaPr
section
open Go.Proofs.Ythjgmccpbcelgaa
open Go Go.RowKit

/-! ### rows of numbers -/
def ith (l : List Int) (i : Nat) : Int := l.getD i 0
theorem rd_ith (l : List Int) (i : Nat) : YthjgmccpbcelgaaW.PrintWords.rd l (i : Int) = ith l i := by unfold YthjgmccpbcelgaaW.PrintWords.rd ith; rw [Int.toNat_natCast]
theorem ith_get {l : List Int} {i : Nat} (h : i < l.length) : ith l i = l[i] := by
  unfold ith
  rw [List.getD_eq_getElem?_getD, List.getElem?_eq_getElem h]; rfl
theorem ith_mem {l : List Int} {i : Nat} (h : i < l.length) : ith l i ∈ l := by rw [ith_get h]; exact List.getElem_mem _
theorem ith_drop {l : List Int} {i : Nat} (h : i < l.length) : l.drop i = ith l i :: l.drop (i + 1) := by rw [List.drop_eq_getElem_cons h, ith_get h]
theorem ith_take {l : List Int} {i : Nat} (h : i < l.length) : l.take (i + 1) = l.take i ++ [ith l i] := by rw [List.take_succ_eq_append_getElem h, ith_get h]
theorem sn_take {l : Stl} {i : Nat} (h : i < l.length) : l.take (i + 1) = l.take i ++ [sn l i] := by rw [List.take_succ_eq_append_getElem h, sn_get h]
theorem has_l0 (l : List Int) (x : Int) (hn : l.length ≤ 140737488351232) : ∀ (d i : Nat), i + d = l.length → Evt (fun k => cartoucheref11_has.l0 k l x (i : Int)) (decide (x ∈ l.drop i))
  | 0, i, hi => Evt.now1 fun k => by
    simp only [cartoucheref11_has.l0]
    rw [if_neg (by omega), List.drop_eq_nil_of_le (by omega)]
    simp
  | d + 1, i, hi => by
    rw [ith_drop (by omega)]
    by_cases q : ith l i = x
    · refine Evt.now1 fun k => ?_
      simp only [cartoucheref11_has.l0]
      rw [if_pos (by omega), if_pos (by omega), rd_ith, if_pos q]
      simp [q]
    · have e : decide (x ∈ ith l i :: l.drop (i + 1)) = decide (x ∈ l.drop (i + 1)) := decide_eq_decide.2 (by simp [Ne.symm q])
      rw [e]
      refine Evt.step (fun k => ?_) (has_l0 l x hn d (i + 1) (by omega))
      simp only [cartoucheref11_has.l0]
      rw [if_pos (by omega), if_pos (by omega), rd_ith, if_neg q, wrap_succ (n := l.length) (by omega) hn]
theorem has_evt (l : List Int) (x : Int) (hn : l.length ≤ 140737488351232) : Evt (fun k => cartoucheref11_has.f k l x) (decide (x ∈ l)) := by
  have := has_l0 l x hn l.length 0 (by omega)
  rwa [List.drop_zero] at this
theorem ints_l0 (a b : List Int) (hl : a.length = b.length) (hn : a.length ≤ 140737488351232) : ∀ (d i : Nat), i + d = a.length → ∃ c, Evt (fun k => cartoucheref08_Ints.l0 k a b (i : Int)) c ∧ (a = b → c = true)
  | 0, i, hi => ⟨true, Evt.now1 fun k => by
      simp only [cartoucheref08_Ints.l0]
      rw [if_neg (by omega)], fun _ => rfl⟩
  | d + 1, i, hi => by
    obtain ⟨c, hc, hc2⟩ := ints_l0 a b hl hn d (i + 1) (by omega)
    by_cases q : YthjgmccpbcelgaaW.PrintWords.rd a (i : Int) = YthjgmccpbcelgaaW.PrintWords.rd b (i : Int)
    · refine ⟨c, Evt.step (fun k => ?_) hc, hc2⟩
      simp only [cartoucheref08_Ints.l0]
      rw [if_pos (by omega), if_pos (by omega), if_pos (by omega), if_pos q, wrap_succ (n := a.length) (by omega) hn]
    · refine ⟨false, Evt.now1 fun k => ?_, fun e => absurd (by rw [e]) q⟩
      simp only [cartoucheref08_Ints.l0]
      rw [if_pos (by omega), if_pos (by omega), if_pos (by omega), if_neg q]
theorem ints_evt (a b : List Int) (hn : a.length ≤ 140737488351232) : ∃ c, Evt (fun k => cartoucheref08_Ints.f k a b) c ∧ (a = b → c = true) := by
  by_cases h : a.length = b.length
  · obtain ⟨c, hc, h2⟩ := ints_l0 a b h hn a.length 0 (by omega)
    refine ⟨c, Evt.congr (fun k => ?_) hc, h2⟩
    unfold cartoucheref08_Ints.f
    rw [if_pos (by omega)]; rfl
  · refine ⟨false, Evt.now fun k => ?_, fun e => absurd (by rw [e]) h⟩
    unfold cartoucheref08_Ints.f
    rw [if_neg (by omega)]

/-! ### at which numbers steps begin -/
structure Beg (l : Stl) (i : Nat) (acc : List Int) : Prop where
  rise : acc.Pairwise (· < ·)
  mem : ∀ x, x ∈ acc ↔ x ∈ (l.take i).map fr_
  len : acc.length ≤ i
theorem ins_at {acc : List Int} (h : acc.Pairwise (· < ·)) {v : Int} (hv : v ∉ acc) {p : Nat} (hp : p ≤ acc.length) (h1 : ∀ j, j < p → ith acc j < v) (h2 : p < acc.length → ¬ ith acc p < v) : (acc.take p ++ [v] ++ acc.drop p).Pairwise (· < ·) := by
  have hlo : ∀ x ∈ acc.take p, x < v := fun x hx => by
    obtain ⟨j, hj, rfl⟩ := List.getElem_of_mem hx
    have hj' : j < p := by simp at hj; omega
    have := h1 j hj'
    rw [ith_get (by omega)] at this
    rw [List.getElem_take]; exact this
  have hhi : ∀ x ∈ acc.drop p, v < x := fun x hx => by
    by_cases hpl : p < acc.length
    · have e := ith_drop hpl
      rw [e] at hx
      have hne : ith acc p ≠ v := fun e => hv (e ▸ ith_mem hpl)
      have hge := h2 hpl
      have hpw : (acc.drop p).Pairwise (· < ·) := h.sublist (List.drop_sublist _ _)
      rw [e] at hpw
      rcases List.mem_cons.1 hx with rfl | hx
      · omega
      · have := (List.pairwise_cons.1 hpw).1 x hx
        omega
    · rw [List.drop_eq_nil_of_le (by omega)] at hx
      cases hx
  refine List.pairwise_append.2 ⟨List.pairwise_append.2 ⟨h.sublist (List.take_sublist _ _), by simp, fun x hx y hy => ?_⟩, h.sublist (List.drop_sublist _ _), fun x hx y hy => ?_⟩
  · obtain rfl : y = v := by simpa using hy
    exact hlo x hx
  · have hy' := hhi y hy
    rcases List.mem_append.1 hx with hx | hx
    · have := hlo x hx; omega
    · obtain rfl : x = v := by simpa using hx
      exact hy'
theorem starts_l1 (l : Stl) (hn : l.length ≤ 1000000) {i : Nat} (hi : i < l.length) {acc : List Int} (hb : Beg l i acc) (hv : (sn l i).f0 ∉ acc) {R : List Int} (hR : ∀ acc', Beg l (i + 1) acc' → Evt (fun k => cartoucheref11_starts.l0 k l acc' ((i + 1 : Nat) : Int)) R) :
    ∀ (d p : Nat), p + d = acc.length → (∀ j, j < p → ith acc j < (sn l i).f0) → Evt (fun k => cartoucheref11_starts.l1 k l acc (i : Int) (p : Int)) R := by
  have fin : ∀ p, p ≤ acc.length → (∀ j, j < p → ith acc j < (sn l i).f0) → (p < acc.length → ¬ ith acc p < (sn l i).f0) → Evt (fun k => cartoucheref11_starts.j2 k l acc (i : Int) (p : Int) false) R := fun p hp h1 h2 => by
    have hlen := hb.len
    have hg : Beg l (i + 1) (acc.take p ++ [(sn l i).f0] ++ acc.drop p) := ⟨ins_at hb.rise hv hp h1 h2, fun x => by
      rw [sn_take hi, List.map_append, List.mem_append, List.mem_append (s := (l.take i).map fr_), ← hb.mem x, List.mem_append]
      have : x ∈ acc ↔ x ∈ acc.take p ∨ x ∈ acc.drop p := by rw [← List.mem_append, List.take_append_drop]
      rw [this]
      simp only [List.map_cons, List.map_nil]
      constructor
      · rintro ((h | h) | h)
        · exact .inl (.inl h)
        · exact .inr h
        · exact .inl (.inr h)
      · rintro ((h | h) | h)
        · exact .inl (.inl h)
        · exact .inr h
        · exact .inl (.inr h), by simp; omega⟩
    refine Evt.step (fun k => ?_) (hR _ hg)
    simp only [cartoucheref11_starts.j2]
    rw [if_neg (by simp)]
    simp only [Option.bind_some]
    rw [if_pos (by omega), if_pos (by omega), if_pos (by simp; omega), if_pos (by omega), if_pos (by omega), if_pos (by simp; omega), if_pos (by simp; omega), rd_sn, wrap_succ (n := l.length) (by omega) (by omega)]
    simp
  intro d
  induction d with
  | zero =>
    intro p hp h1
    refine Evt.step (fun k => ?_) (fin p (by omega) h1 (fun h => by omega))
    simp only [cartoucheref11_starts.l1]
    rw [if_neg (by omega)]
  | succ d ih =>
    intro p hp h1
    have hlen := hb.len
    by_cases q : ith acc p < (sn l i).f0
    · have jt : Evt (fun k => cartoucheref11_starts.j2 k l acc (i : Int) (p : Int) true) R := by
        refine Evt.step (fun k => ?_) (ih (p + 1) (by omega) fun j hj => by
          by_cases e : j = p
          · rw [e]; exact q
          · exact h1 j (by omega))
        simp only [cartoucheref11_starts.j2]
        rw [if_pos (by trivial), wrap_succ (n := acc.length) (by omega) (by omega)]
      refine Evt.step (fun k => ?_) jt
      simp only [cartoucheref11_starts.l1]
      rw [if_pos (by omega), if_pos (by omega), if_pos (by omega), if_pos (by omega), rd_ith, rd_sn, decide_eq_true q]
    · refine Evt.step (fun k => ?_) (fin p (by omega) h1 (fun _ => q))
      simp only [cartoucheref11_starts.l1]
      rw [if_pos (by omega), if_pos (by omega), if_pos (by omega), if_pos (by omega), rd_ith, rd_sn, decide_eq_false q]
theorem starts_l0 (l : Stl) (hn : l.length ≤ 1000000) : ∀ (d i : Nat) (acc : List Int), i + d = l.length → Beg l i acc → Evt (fun k => cartoucheref11_starts.l0 k l acc (i : Int)) (Rg.froms fr_ l)
  | 0, i, acc, hi, hb => Evt.now1 fun k => by
    simp only [cartoucheref11_starts.l0]
    rw [if_neg (by omega)]
    congr 1
    refine Rg.rising_eq hb.rise (Rg.sortD_rising _) fun x => ?_
    rw [hb.mem x, List.take_of_length_le (by omega)]
    exact (Rg.mem_sortD x _).symm
  | d + 1, i, acc, hi, hb => by
    have ih := starts_l0 l hn d (i + 1)
    have hlen := hb.len
    have hh := has_evt acc (sn l i).f0 (by omega)
    by_cases q : (sn l i).f0 ∈ acc
    · have hb2 : Beg l (i + 1) acc := ⟨hb.rise, fun x => by
        rw [sn_take (by omega), List.map_append, List.mem_append, ← hb.mem x]
        exact ⟨.inl, fun h => h.elim id fun h => by
          obtain rfl : x = (sn l i).f0 := by simpa using h
          exact q⟩, by omega⟩
      rw [decide_eq_true q] at hh
      refine Evt.step (fun k => ?_) (Evt.bind (f := fun k (t : Bool) => if t = true then cartoucheref11_starts.l0 k l acc (wrap64 ((i : Int) + 1)) else cartoucheref11_starts.l1 k l acc (i : Int) 0) hh (Evt.congr (fun k => by rw [if_pos (by trivial), wrap_succ (n := l.length) (by omega) (by omega)]) (ih acc (by omega) hb2)))
      simp only [cartoucheref11_starts.l0]
      rw [if_pos (by omega), if_pos (by omega), rd_sn]
    · rw [decide_eq_false q] at hh
      have h1 := starts_l1 l hn (show i < l.length by omega) hb q (R := Rg.froms fr_ l) (fun acc' hb' => ih acc' (by omega) hb') acc.length 0 (by omega) (fun j hj => by omega)
      refine Evt.step (fun k => ?_) (Evt.bind (f := fun k (t : Bool) => if t = true then cartoucheref11_starts.l0 k l acc (wrap64 ((i : Int) + 1)) else cartoucheref11_starts.l1 k l acc (i : Int) 0) hh (Evt.congr (fun k => by rw [if_neg (by simp)]; rfl) h1))
      simp only [cartoucheref11_starts.l0]
      rw [if_pos (by omega), if_pos (by omega), rd_sn]
theorem starts_evt (l : Stl) (hn : l.length ≤ 1000000) : Evt (fun k => cartoucheref11_starts.f k l) (Rg.froms fr_ l) :=
  starts_l0 l hn l.length 0 [] (by omega) ⟨List.Pairwise.nil, fun x => by simp, by simp⟩

/-! ### who reaches a number -/
abbrev levP (l : Stl) (t : Int) (n : Nat) (x : Int) : Bool := Rg.lev fr_ to_ l t n x
abbrev alongP (l : Stl) (t : Int) (m : Nat) (x : Int) : Stl := Rg.along fr_ to_ l t m x
def row (W : List (List Int)) (j : Nat) : List Int := W.getD j []
structure Lvl (l : Stl) (t : Int) (W : List (List Int)) (n : Nat) : Prop where
  len : W.length = n + 1
  mem : ∀ j, j ≤ n → ∀ x, x ∈ row W j ↔ levP l t j x = true
  short : ∀ j, j ≤ n → (row W j).length ≤ l.length + 1
theorem rd_row (W : List (List Int)) (j : Nat) : rd_L9 W (j : Int) = row W j := by unfold rd_L9 row; rw [Int.toNat_natCast]
structure Nxt (l : Stl) (w : List Int) (i : Nat) (nx : List Int) : Prop where
  mem : ∀ x, x ∈ nx ↔ ∃ s ∈ l.take i, s.f0 = x ∧ s.f1 ∈ w
  len : nx.length ≤ i
theorem Lvl.next {l : Stl} {t : Int} {W : List (List Int)} {n : Nat} (h : Lvl l t W n) {nx : List Int} (hx : Nxt l (row W n) l.length nx) : Lvl l t (W ++ [nx]) (n + 1) := by
  have hl := h.len
  have e1 : ∀ j, j ≤ n → row (W ++ [nx]) j = row W j := fun j hj => by
    unfold row
    rw [List.getD_eq_getElem?_getD, List.getD_eq_getElem?_getD, List.getElem?_append_left (by omega)]
  have e2 : row (W ++ [nx]) (n + 1) = nx := by
    unfold row
    rw [List.getD_eq_getElem?_getD, List.getElem?_append_right (by omega), hl]
    simp
  refine ⟨by simp [hl], fun j hj x => ?_, fun j hj => ?_⟩
  · by_cases e : j = n + 1
    · subst e
      rw [e2, hx.mem x, List.take_of_length_le (Nat.le_refl _)]
      simp only [levP, Rg.lev, List.any_eq_true, Bool.and_eq_true, decide_eq_true_eq]
      refine exists_congr fun s => and_congr_right fun _ => and_congr_right fun _ => h.mem n (Nat.le_refl _) _
    · rw [e1 j (by omega)]; exact h.mem j (by omega) x
  · by_cases e : j = n + 1
    · subst e; rw [e2]; have := hx.len; omega
    · rw [e1 j (by omega)]; exact h.short j (by omega)
theorem ways_l0 (l : Stl) (hn : l.length ≤ 1000000) (t : Int) (many : Nat) (hm : many ≤ 1000000) : ∀ (d n : Nat) (W : List (List Int)), n + d = many → Lvl l t W n → ∃ W', Evt (fun k => cartoucheref11_ways.l0 k l (many : Int) W (n : Int)) W' ∧ Lvl l t W' many := by
  intro d
  induction d with
  | zero =>
    intro n W h1 h2
    refine ⟨W, Evt.now1 fun k => ?_, by rw [show many = n by omega]; exact h2⟩
    simp only [cartoucheref11_ways.l0]
    rw [if_neg (by omega)]
  | succ d ih =>
    intro n W h1 h2
    -- the next row is what it is: choose it first
    have hex : ∃ nx, Nxt l (row W n) l.length nx ∧ ∀ R, Evt (fun k => cartoucheref11_ways.l0 k l (many : Int) (W ++ [nx]) ((n + 1 : Nat) : Int)) R → Evt (fun k => cartoucheref11_ways.l0 k l (many : Int) W (n : Int)) R := by
      have hloop : ∀ (d i : Nat) (nx : List Int), i + d = l.length → Nxt l (row W n) i nx → ∃ nx', Nxt l (row W n) l.length nx' ∧ ∀ R, Evt (fun k => cartoucheref11_ways.l0 k l (many : Int) (W ++ [nx']) ((n + 1 : Nat) : Int)) R → Evt (fun k => cartoucheref11_ways.l1 k l (many : Int) W (n : Int) nx (i : Int)) R := by
        intro d
        induction d with
        | zero =>
          intro i nx hi hx
          refine ⟨nx, by rw [show i = l.length by omega] at hx; exact hx, fun R hR => ?_⟩
          have := h2.len
          refine Evt.step (fun k => ?_) hR
          simp only [cartoucheref11_ways.l1]
          rw [if_neg (by omega), if_pos (by omega), wrap_succ (n := 1000001) (by omega) (by omega)]
        | succ d ih2 =>
          intro i nx hi hx
          have hlen := h2.len
          have hlx := hx.len
          have hmm : ∀ x, (∃ s ∈ l.take (i + 1), s.f0 = x ∧ s.f1 ∈ row W n) ↔ x ∈ nx ∨ ((sn l i).f0 = x ∧ (sn l i).f1 ∈ row W n) := fun x => by
            rw [hx.mem x, sn_take (by omega)]
            simp only [List.mem_append, List.mem_singleton]
            constructor
            · rintro ⟨s, h | h, hs⟩
              · exact .inl ⟨s, h, hs⟩
              · subst h; exact .inr hs
            · rintro (⟨s, h, hs⟩ | hs)
              · exact ⟨s, .inl h, hs⟩
              · exact ⟨_, .inr rfl, hs⟩
          have e1 := has_evt (row W n) (sn l i).f1 (by have := h2.short n (Nat.le_refl _); omega)
          have e2 := has_evt nx (sn l i).f0 (by omega)
          have go : ∀ (z : Bool) R, (if decide ((sn l i).f1 ∈ row W n) = true then !decide ((sn l i).f0 ∈ nx) else false) = z → Evt (fun k => cartoucheref11_ways.j2 k l (many : Int) W (n : Int) nx (i : Int) z) R → Evt (fun k => cartoucheref11_ways.l1 k l (many : Int) W (n : Int) nx (i : Int)) R := fun z R hz hR => by
            refine Evt.step (fun k => ?_) (Evt.bind (f := fun k (a : Bool) => (cartoucheref11_has.f k nx (sn l i).f0).bind fun b => if a = true then cartoucheref11_ways.j2 k l (many : Int) W (n : Int) nx (i : Int) (!b) else cartoucheref11_ways.j2 k l (many : Int) W (n : Int) nx (i : Int) false) e1 (Evt.bind (f := fun k (b : Bool) => if decide ((sn l i).f1 ∈ row W n) = true then cartoucheref11_ways.j2 k l (many : Int) W (n : Int) nx (i : Int) (!b) else cartoucheref11_ways.j2 k l (many : Int) W (n : Int) nx (i : Int) false) e2 (Evt.congr (fun k => ?_) hR)))
            · simp only [cartoucheref11_ways.l1]
              rw [if_pos (by omega), if_pos (by omega), if_pos (by omega), if_pos (by omega), rd_row, rd_sn]
            · rw [← hz]
              by_cases q : decide ((sn l i).f1 ∈ row W n) = true
              · rw [if_pos q, if_pos q]
              · rw [if_neg q, if_neg q]
          by_cases q1 : (sn l i).f1 ∈ row W n
          · by_cases q2 : (sn l i).f0 ∈ nx
            · obtain ⟨nx', g1, g2⟩ := ih2 (i + 1) nx (by omega) ⟨fun x => by
                rw [hmm x]
                exact ⟨.inl, fun h => h.elim id fun h => h.1 ▸ q2⟩, by omega⟩
              refine ⟨nx', g1, fun R hR => go false R (by simp [q1, q2]) (Evt.step (fun k => ?_) (g2 R hR))⟩
              simp only [cartoucheref11_ways.j2]
              rw [if_neg (by simp), wrap_succ (n := l.length) (by omega) (by omega)]
            · obtain ⟨nx', g1, g2⟩ := ih2 (i + 1) (nx ++ [(sn l i).f0]) (by omega) ⟨fun x => by
                rw [hmm x, List.mem_append, List.mem_singleton]
                exact ⟨fun h => h.elim .inl fun h => .inr ⟨h.symm, q1⟩, fun h => h.elim .inl fun h => .inr h.1.symm⟩, by simp; omega⟩
              refine ⟨nx', g1, fun R hR => go true R (by simp [q1, q2]) (Evt.step (fun k => ?_) (g2 R hR))⟩
              simp only [cartoucheref11_ways.j2]
              rw [if_pos (by trivial), if_pos (by omega), if_pos (by omega), if_pos (by omega), rd_sn, wrap_succ (n := l.length) (by omega) (by omega)]
          · obtain ⟨nx', g1, g2⟩ := ih2 (i + 1) nx (by omega) ⟨fun x => by
                rw [hmm x]
                exact ⟨.inl, fun h => h.elim id fun h => absurd h.2 q1⟩, by omega⟩
            refine ⟨nx', g1, fun R hR => go false R (by simp [q1]) (Evt.step (fun k => ?_) (g2 R hR))⟩
            simp only [cartoucheref11_ways.j2]
            rw [if_neg (by simp), wrap_succ (n := l.length) (by omega) (by omega)]
      obtain ⟨nx, g1, g2⟩ := hloop l.length 0 [] (by omega) ⟨fun x => by simp, by simp⟩
      refine ⟨nx, g1, fun R hR => Evt.step (fun k => ?_) (g2 R hR)⟩
      simp only [cartoucheref11_ways.l0]
      rw [if_pos (by omega)]; rfl
    obtain ⟨nx, g1, g2⟩ := hex
    obtain ⟨W', g3, g4⟩ := ih (n + 1) (W ++ [nx]) (by omega) (h2.next g1)
    exact ⟨W', g2 W' g3, g4⟩
theorem ways_evt (l : Stl) (hn : l.length ≤ 1000000) (t : Int) (n : Nat) (hm : n ≤ 1000000) : ∃ W, Evt (fun k => cartoucheref11_ways.f k l t (n : Int)) W ∧ Lvl l t W n :=
  ways_l0 l hn t n hm n 0 [[t]] (by omega) ⟨rfl, fun j hj x => by
    obtain rfl : j = 0 := by omega
    simp [row, Rg.lev], fun j hj => by
    obtain rfl : j = 0 := by omega
    simp [row]⟩
end
end Go.Proofs.YthjgmccpbcelgaaPr

/-! What the references of chapter 11 compute: the shortest ring, an order, whether steps go forward; all numbers of steps. -/
namespace Go.Proofs.YthjgmccpbcelgaaPr
section
open Go.Proofs.Ythjgmccpbcelgaa
open Go Go.RowKit

theorem find_sn {l : Stl} {p : S50 → Bool} {s : S50} (h : l.find? p = some s) : ∃ q, q < l.length ∧ sn l q = s ∧ p s = true ∧ ∀ j, j < q → p (sn l j) = false := by
  obtain ⟨h1, q, hq, h2, h3⟩ := List.find?_eq_some_iff_getElem.1 h
  refine ⟨q, hq, by rw [sn_get hq]; exact h2, h1, fun j hj => ?_⟩
  have := h3 j hj
  rw [sn_get (by omega)]
  simpa using this

/-! ### the ring -/
theorem along_l3 (l : Stl) (hn : l.length ≤ 1000000) {t : Int} {W : List (List Int)} {N : Nat} (hW : Lvl l t W N) {m : Nat} (hm : m ≤ N) {at_ : Int} {out : Stl} (ho : out.length ≤ 1000001) {q : Nat} (hq : q < l.length) (hq1 : (sn l q).f0 = at_ ∧ levP l t m (sn l q).f1 = true) (hq2 : ∀ j, j < q → ¬ ((sn l j).f0 = at_ ∧ levP l t m (sn l j).f1 = true)) {R : Stl × Bool}
    (hR : Evt (fun k => cartoucheref11_Ring.l2 k l W (out ++ [sn l q]) (sn l q).f1 (wrap64 ((m : Int) - 1))) R) : ∀ (d i : Nat), i + d = q → Evt (fun k => cartoucheref11_Ring.l3 k l W out at_ (m : Int) false (i : Int)) R := by
  have hlen := hW.len
  have hdone : ∀ (i : Nat), Evt (fun k => cartoucheref11_Ring.l3 k l W (out ++ [sn l q]) (sn l q).f1 (m : Int) true (i : Int)) R := fun i => by
    have hj : Evt (fun k => cartoucheref11_Ring.j4 k l W (out ++ [sn l q]) (sn l q).f1 (m : Int) true (i : Int) false) R := by
      refine Evt.step (fun k => ?_) hR
      simp only [cartoucheref11_Ring.j4]
      rw [if_neg (by simp)]
    refine Evt.step (fun k => ?_) hj
    simp only [cartoucheref11_Ring.l3]
    by_cases hi : (i : Int) < (l.length : Int)
    · rw [if_pos hi]; rfl
    · rw [if_neg hi]
  have hstep : ∀ i, i < l.length → ∀ z, (if (sn l i).f0 = at_ then levP l t m (sn l i).f1 else false) = z → Evt (fun k => cartoucheref11_Ring.j5 k l W out at_ (m : Int) false (i : Int) z) R → Evt (fun k => cartoucheref11_Ring.l3 k l W out at_ (m : Int) false (i : Int)) R := fun i hi z hz hR => by
    have hh := has_evt (row W m) (sn l i).f1 (by have := hW.short m hm; omega)
    have e : decide ((sn l i).f1 ∈ row W m) = levP l t m (sn l i).f1 := by
      rw [Bool.eq_iff_iff, decide_eq_true_eq]; exact hW.mem m hm _
    rw [e] at hh
    have hj : Evt (fun k => cartoucheref11_Ring.j4 k l W out at_ (m : Int) false (i : Int) true) R := by
      refine Evt.step (fun k => ?_) (Evt.bind (f := fun k (t : Bool) => if (sn l i).f0 = at_ then cartoucheref11_Ring.j5 k l W out at_ (m : Int) false (i : Int) t else cartoucheref11_Ring.j5 k l W out at_ (m : Int) false (i : Int) false) hh (Evt.congr (fun k => ?_) hR))
      · simp only [cartoucheref11_Ring.j4]
        rw [if_pos (by trivial), if_pos (by omega), if_pos (by omega), if_pos (by omega), if_pos (by omega), rd_row, rd_sn]
      · rw [← hz]
        by_cases q : (sn l i).f0 = at_
        · rw [if_pos q, if_pos q]
        · rw [if_neg q, if_neg q]
    refine Evt.step (fun k => ?_) hj
    simp only [cartoucheref11_Ring.l3]
    rw [if_pos (by omega)]; rfl
  intro d
  induction d with
  | zero =>
    intro i hi
    obtain rfl : i = q := by omega
    refine hstep i hq true (by rw [if_pos hq1.1, hq1.2]) (Evt.step (fun k => ?_) (hdone (i + 1)))
    simp only [cartoucheref11_Ring.j5]
    rw [if_pos (by trivial), if_pos (by omega), if_pos (by omega), if_pos (by omega), rd_sn, wrap_succ (n := l.length) (by omega) (by omega)]
  | succ d ih =>
    intro i hi
    have hno := hq2 i (by omega)
    refine hstep i (by omega) false (by
      by_cases q : (sn l i).f0 = at_
      · rw [if_pos q]
        cases hv : levP l t m (sn l i).f1 with
        | false => rfl
        | true => exact absurd ⟨q, hv⟩ hno
      · rw [if_neg q]) (Evt.step (fun k => ?_) (ih (i + 1) (by omega)))
    simp only [cartoucheref11_Ring.j5]
    rw [if_neg (by simp), wrap_succ (n := l.length) (by omega) (by omega)]
theorem along_l2 (l : Stl) (hn : l.length ≤ 1000000) {t : Int} {W : List (List Int)} {N : Nat} (hW : Lvl l t W N) (hN : N ≤ 1000000) : ∀ (m : Nat) (at_ : Int) (out : Stl), m ≤ N → levP l t m at_ = true → out.length + m ≤ 1000001 → Evt (fun k => cartoucheref11_Ring.l2 k l W out at_ ((m : Int) - 1)) (out ++ alongP l t m at_, true)
  | 0, at_, out, hm, hl, ho => Evt.now1 fun k => by
    simp only [cartoucheref11_Ring.l2]
    rw [if_neg (by omega)]
    simp [alongP, Rg.along]
  | m + 1, at_, out, hm, hl, ho => by
    obtain ⟨s, hf, hs, he, hlv⟩ := Rg.along_hit fr_ to_ hl
    obtain ⟨q, hq, hqs, _, hq2⟩ := find_sn hf
    subst hqs
    have ih := along_l2 l hn hW hN m (sn l q).f1 (out ++ [sn l q]) (by omega) hlv (by simp; omega)
    have hal : alongP l t (m + 1) at_ = sn l q :: alongP l t m (sn l q).f1 := by unfold alongP; rw [Rg.along, hf]
    rw [hal]
    have e : out ++ [sn l q] ++ alongP l t m (sn l q).f1 = out ++ sn l q :: alongP l t m (sn l q).f1 := by simp
    rw [e] at ih
    have hw : wrap64 ((m : Int) - 1) = (m : Int) - 1 := by unfold wrap64; omega
    have h3 := along_l3 l hn hW (m := m) (by omega) (at_ := at_) (out := out) (by omega) hq ⟨he, hlv⟩ (fun j hj h => by
      have := hq2 j hj
      rw [Bool.and_eq_false_iff, decide_eq_false_iff_not] at this
      rcases this with h1 | h1
      · exact h1 h.1
      · rw [show Rg.lev fr_ to_ l t m (to_ (sn l j)) = true from h.2] at h1; cases h1) (R := (out ++ sn l q :: alongP l t m (sn l q).f1, true)) (by rw [hw]; exact ih) q 0 (by omega)
    refine Evt.step (fun k => ?_) h3
    simp only [cartoucheref11_Ring.l2]
    rw [if_pos (by omega), show (((m + 1 : Nat) : Int) - 1) = (m : Int) by omega]; rfl
def ringRes (l : Stl) (o : Option (Int × Nat)) : Stl × Bool := match o with
  | some (a, n) => (alongP l a n a, true)
  | none => ([], false)
theorem ringRes_ring (l : Stl) : ringRes l (Rg.find1 fr_ to_ l) = Rg.ring fr_ to_ l := by
  unfold ringRes Rg.ring
  rfl
theorem ring_l1 (l : Stl) (hn : l.length ≤ 1000000) (F : List Int) (hF : F.length ≤ 1000000) {n : Nat} (h1 : 1 ≤ n) (hnF : n ≤ F.length) {R : Stl × Bool} (hR : F.find? (fun a => levP l a n a) = none → Evt (fun k => cartoucheref11_Ring.l0 k l F ((n + 1 : Nat) : Int)) R) (hR2 : ∀ a, F.find? (fun a => levP l a n a) = some a → R = (alongP l a n a, true)) :
    ∀ (d q : Nat), q + d = F.length → (∀ j, j < q → levP l (ith F j) n (ith F j) = false) → Evt (fun k => cartoucheref11_Ring.l1 k l F (n : Int) (q : Int)) R
  | 0, q, hq, hlow => by
    refine Evt.step (fun k => ?_) (hR ?_)
    · simp only [cartoucheref11_Ring.l1]
      rw [if_neg (by omega), wrap_succ (n := 1000001) (by omega) (by omega)]
    · rw [List.find?_eq_none]
      intro x hx
      obtain ⟨j, hj, rfl⟩ := List.getElem_of_mem hx
      have := hlow j (by omega)
      rw [ith_get hj] at this
      rw [this]; simp
  | d + 1, q, hq, hlow => by
    obtain ⟨W, hw1, hw2⟩ := ways_evt l hn (ith F q) n (by omega)
    have hlen := hw2.len
    have hh := has_evt (row W n) (ith F q) (by have := hw2.short n (Nat.le_refl _); omega)
    have e : decide (ith F q ∈ row W n) = levP l (ith F q) n (ith F q) := by rw [Bool.eq_iff_iff, decide_eq_true_eq]; exact hw2.mem n (Nat.le_refl _) _
    rw [e] at hh
    have key : Evt (fun k => if levP l (ith F q) n (ith F q) = true then cartoucheref11_Ring.l2 k l W ([] : Stl) (ith F q) (wrap64 ((n : Int) - 1)) else cartoucheref11_Ring.l1 k l F (n : Int) (wrap64 ((q : Int) + 1))) R := by
      cases hv : levP l (ith F q) n (ith F q) with
      | true =>
        have hf : F.find? (fun a => levP l a n a) = some (ith F q) := by
          rw [ith_get (by omega), List.find?_eq_some_iff_getElem]
          refine ⟨by rw [← ith_get (by omega)]; exact hv, q, by omega, rfl, fun j hj => ?_⟩
          have := hlow j hj
          rw [ith_get (by omega)] at this
          rw [this]; rfl
        rw [hR2 _ hf]
        have hw : wrap64 ((n : Int) - 1) = (n : Int) - 1 := by unfold wrap64; omega
        have := along_l2 l hn hw2 (by omega) n (ith F q) [] (Nat.le_refl _) hv (by simp; omega)
        refine Evt.congr (fun k => ?_) this
        rw [if_pos rfl, hw]
      | false =>
        refine Evt.congr (fun k => ?_) (ring_l1 l hn F hF h1 hnF hR hR2 d (q + 1) (by omega) fun j hj => by
          by_cases e : j = q
          · rw [e]; exact hv
          · exact hlow j (by omega))
        rw [if_neg (by simp), wrap_succ (n := F.length) (by omega) (by omega)]
    refine Evt.step (fun k => ?_) (Evt.bind (f := fun k (W : List (List Int)) => if 0 ≤ (n : Int) then (if (n : Int) < (W.length : Int) then ((cartoucheref11_has.f k (rd_L9 W (n : Int)) (ith F q)).bind fun t => if t = true then cartoucheref11_Ring.l2 k l W ([] : Stl) (ith F q) (wrap64 ((n : Int) - 1)) else cartoucheref11_Ring.l1 k l F (n : Int) (wrap64 ((q : Int) + 1))) else none) else none) hw1
      (Evt.congr (fun k => ?_) (Evt.bind (f := fun k (t : Bool) => if t = true then cartoucheref11_Ring.l2 k l W ([] : Stl) (ith F q) (wrap64 ((n : Int) - 1)) else cartoucheref11_Ring.l1 k l F (n : Int) (wrap64 ((q : Int) + 1))) hh key)))
    · simp only [cartoucheref11_Ring.l1]
      rw [if_pos (by omega), if_pos (by omega), rd_ith]
    · rw [if_pos (by omega), if_pos (by omega), rd_row]
theorem ring_l0 (l : Stl) (hn : l.length ≤ 1000000) (F : List Int) (hF : F.length ≤ 1000000) : ∀ (d n : Nat), n + d = F.length → Evt (fun k => cartoucheref11_Ring.l0 k l F ((n + 1 : Nat) : Int)) (ringRes l (Rg.ringGo fr_ to_ l F d (n + 1)))
  | 0, n, h => Evt.now1 fun k => by
    simp only [cartoucheref11_Ring.l0]
    rw [if_neg (by omega)]; rfl
  | d + 1, n, h => by
    have ih := ring_l0 l hn F hF d (n + 1) (by omega)
    have hg : Rg.ringGo fr_ to_ l F (d + 1) (n + 1) = match F.find? (fun a => levP l a (n + 1) a) with
      | some a => some (a, n + 1)
      | none => Rg.ringGo fr_ to_ l F d (n + 1 + 1) := rfl
    have h1 := ring_l1 l hn F hF (n := n + 1) (by omega) (by omega) (R := ringRes l (Rg.ringGo fr_ to_ l F (d + 1) (n + 1))) (fun hf => by rw [hg, hf]; exact ih) (fun a hf => by rw [hg, hf]; rfl) F.length 0 (by omega) (fun j hj => by omega)
    refine Evt.step (fun k => ?_) h1
    simp only [cartoucheref11_Ring.l0]
    rw [if_pos (by omega)]; rfl
theorem ring_evt (l : Stl) (hn : l.length ≤ 1000000) : Evt (fun k => cartoucheref11_Ring.f k l) (Rg.ring fr_ to_ l) := by
  have hF : (Rg.froms fr_ l).length ≤ 1000000 := by
    have := Rg.sortD_len (l.map fr_)
    rw [List.length_map] at this
    unfold Rg.froms
    omega
  have h0 := ring_l0 l hn (Rg.froms fr_ l) hF (Rg.froms fr_ l).length 0 (by omega)
  rw [show Rg.ringGo fr_ to_ l (Rg.froms fr_ l) (Rg.froms fr_ l).length (0 + 1) = Rg.find1 fr_ to_ l from rfl, ringRes_ring] at h0
  exact Evt.bind (f := fun k t => cartoucheref11_Ring.l0 k l t 1) (starts_evt l hn) h0

/-! ### the order -/
theorem without_l0 (L : List Int) (x : Int) (hn : L.length ≤ 1000000) : ∀ (d i : Nat) (out : List Int), i + d = L.length → out.length ≤ i → Evt (fun k => cartoucheref11_without.l0 k L x out (i : Int)) (out ++ (L.drop i).filter (fun y => decide (y ≠ x)))
  | 0, i, out, hi, ho => Evt.now1 fun k => by
    simp only [cartoucheref11_without.l0]
    rw [if_neg (by omega), List.drop_eq_nil_of_le (by omega)]
    simp
  | d + 1, i, out, hi, ho => by
    rw [ith_drop (by omega), List.filter_cons]
    by_cases q : ith L i = x
    · rw [if_neg (by simpa using q)]
      refine Evt.step (fun k => ?_) (without_l0 L x hn d (i + 1) out (by omega) (by omega))
      simp only [cartoucheref11_without.l0]
      rw [if_pos (by omega), if_pos (by omega), rd_ith, if_pos q, wrap_succ (n := L.length) (by omega) (by omega)]
    · rw [if_pos (by simpa using q)]
      have ih := without_l0 L x hn d (i + 1) (out ++ [ith L i]) (by omega) (by simp; omega)
      rw [List.append_assoc] at ih
      refine Evt.step (fun k => ?_) ih
      simp only [cartoucheref11_without.l0]
      rw [if_pos (by omega), if_pos (by omega), rd_ith, if_neg q, if_pos (by omega), wrap_succ (n := L.length) (by omega) (by omega)]
theorem without_evt (L : List Int) (x : Int) (hn : L.length ≤ 1000000) : Evt (fun k => cartoucheref11_without.f k L x) (L.filter (fun y => decide (y ≠ x))) := by
  have := without_l0 L x hn L.length 0 [] (by omega) (by simp)
  rwa [List.drop_zero, List.nil_append] at this
def freeS (L : List Int) (n : Int) (s : S50) : Bool := !(decide (s.f1 = n) && decide (s.f0 ∈ L))
theorem order_l2 (l : Stl) (hn : l.length ≤ 1000000) (L : List Int) (hL : L.length ≤ 1000000) {i : Nat} (hi : i < L.length) (out : List Int) (best : Int) (found : Bool) {R : List Int × Bool} : ∀ (d q : Nat) (fr : Bool), q + d = l.length →
    Evt (fun k => cartoucheref11_Order.j3 k l L out best found (i : Int) (if (fr && (l.drop q).all (freeS L (ith L i))) = true then (if found = true then decide (ith L i < best) else true) else false)) R → Evt (fun k => cartoucheref11_Order.l2 k l L out best found (i : Int) fr (q : Int)) R
  | 0, q, fr, hq, hR => by
    rw [List.drop_eq_nil_of_le (by omega), List.all_nil, Bool.and_true] at hR
    refine Evt.step (fun k => ?_) hR
    simp only [cartoucheref11_Order.l2]
    rw [if_neg (by omega)]
    have g0 : (0 : Int) ≤ (i : Int) := by omega
    have g1 : (i : Int) < (L.length : Int) := by omega
    cases fr <;> cases found <;> simp only [Bool.false_eq_true, if_false, if_true, g0, g1, rd_ith]
  | d + 1, q, fr, hq, hR => by
    rw [sn_drop (by omega), List.all_cons] at hR
    have ih := order_l2 l hn L hL hi out best found (R := R) d (q + 1)
    have hh := has_evt L (sn l q).f0 (by omega)
    have key : Evt (fun k => if fr = true then (if 0 ≤ (i : Int) then (if (i : Int) < (L.length : Int) then (if (sn l q).f1 = ith L i then cartoucheref11_Order.l2 k l L out best found (i : Int) (!decide ((sn l q).f0 ∈ L)) (wrap64 ((q : Int) + 1)) else cartoucheref11_Order.l2 k l L out best found (i : Int) true (wrap64 ((q : Int) + 1))) else none) else none) else cartoucheref11_Order.l2 k l L out best found (i : Int) false (wrap64 ((q : Int) + 1))) R := by
      cases fr
      · refine Evt.congr (fun k => ?_) (ih false (by omega) (by simpa using hR))
        rw [if_neg (by simp), wrap_succ (n := l.length) (by omega) (by omega)]
      · by_cases e : (sn l q).f1 = ith L i
        · refine Evt.congr (fun k => ?_) (ih (!decide ((sn l q).f0 ∈ L)) (by omega) (by
            have : freeS L (ith L i) (sn l q) = !decide ((sn l q).f0 ∈ L) := by unfold freeS; simp [e]
            rw [this] at hR
            simpa using hR))
          rw [if_pos rfl, if_pos (by omega), if_pos (by omega), if_pos e, wrap_succ (n := l.length) (by omega) (by omega)]
        · refine Evt.congr (fun k => ?_) (ih true (by omega) (by
            have : freeS L (ith L i) (sn l q) = true := by unfold freeS; simp [e]
            rw [this] at hR
            simpa using hR))
          rw [if_pos rfl, if_pos (by omega), if_pos (by omega), if_neg e, wrap_succ (n := l.length) (by omega) (by omega)]
    refine Evt.step (fun k => ?_) (Evt.bind (f := fun k (t : Bool) => if fr = true then (if 0 ≤ (i : Int) then (if (i : Int) < (L.length : Int) then (if (sn l q).f1 = ith L i then cartoucheref11_Order.l2 k l L out best found (i : Int) (!t) (wrap64 ((q : Int) + 1)) else cartoucheref11_Order.l2 k l L out best found (i : Int) true (wrap64 ((q : Int) + 1))) else none) else none) else cartoucheref11_Order.l2 k l L out best found (i : Int) false (wrap64 ((q : Int) + 1))) hh key)
    simp only [cartoucheref11_Order.l2]
    rw [if_pos (by omega), if_pos (by omega), rd_sn, rd_ith]
abbrev freeP (l : Stl) (L : List Int) (n : Int) : Bool := Rg.free fr_ to_ l L n
theorem freeP_all (l : Stl) (L : List Int) (n : Int) : freeP l L n = l.all (freeS L n) := rfl
theorem order_l1 (l : Stl) (hn : l.length ≤ 1000000) (L : List Int) (hL : L.length ≤ 1000000) (out : List Int) (ho : out.length ≤ 1000000) {R : List Int × Bool} (hR1 : ∀ n, Rg.bestL (freeP l L) L none = some n → Evt (fun k => cartoucheref11_Order.l0 k l (L.filter (fun y => decide (y ≠ n))) (out ++ [n])) R) (hR2 : Rg.bestL (freeP l L) L none = none → R = ([], false)) :
    ∀ (d i : Nat) (b : Option Int) (best : Int), i + d = L.length → (∀ y, b = some y → y = best) → Rg.bestL (freeP l L) (L.drop i) b = Rg.bestL (freeP l L) L none → Evt (fun k => cartoucheref11_Order.l1 k l L out best b.isSome (i : Int)) R
  | 0, i, b, best, hi, hb, hB => by
    rw [List.drop_eq_nil_of_le (by omega), Rg.bestL] at hB
    cases b with
    | none =>
      rw [hR2 hB.symm]
      refine Evt.now1 fun k => ?_
      simp only [cartoucheref11_Order.l1]
      rw [if_neg (by omega), if_neg (by simp)]
    | some y =>
      obtain rfl := hb y rfl
      refine Evt.step (fun k => ?_) (Evt.bind (f := fun k t => cartoucheref11_Order.l0 k l t (out ++ [y])) (without_evt L y hL) (hR1 y hB.symm))
      simp only [cartoucheref11_Order.l1]
      rw [if_neg (by omega), if_pos (by rfl), if_pos (by omega)]
  | d + 1, i, b, best, hi, hb, hB => by
    have ih := order_l1 l hn L hL out ho hR1 hR2 d (i + 1)
    rw [ith_drop (by omega), Rg.bestL] at hB
    have hj : Evt (fun k => cartoucheref11_Order.j3 k l L out best b.isSome (i : Int) (if (true && l.all (freeS L (ith L i))) = true then (if b.isSome = true then decide (ith L i < best) else true) else false)) R := by
      have hc : (if (true && l.all (freeS L (ith L i))) = true then (if b.isSome = true then decide (ith L i < best) else true) else false) = decide (freeP l L (ith L i) = true ∧ ∀ y, b = some y → ith L i < y) := by
        rw [freeP_all]
        cases hf : l.all (freeS L (ith L i)) with
        | false => simp
        | true =>
          cases b with
          | none => simp
          | some y =>
            obtain rfl := hb y rfl
            simp
      rw [hc]
      by_cases h : freeP l L (ith L i) = true ∧ ∀ y, b = some y → ith L i < y
      · rw [if_pos h] at hB
        refine Evt.step (fun k => ?_) (ih (some (ith L i)) (ith L i) (by omega) (fun y hy => by injection hy with hy; exact hy.symm) hB)
        simp only [cartoucheref11_Order.j3]
        rw [decide_eq_true h, if_pos (by trivial), if_pos (by omega), if_pos (by omega), rd_ith, wrap_succ (n := L.length) (by omega) (by omega)]
        rfl
      · rw [if_neg h] at hB
        refine Evt.step (fun k => ?_) (ih b best (by omega) hb hB)
        simp only [cartoucheref11_Order.j3]
        rw [decide_eq_false h, if_neg (by simp), wrap_succ (n := L.length) (by omega) (by omega)]
    have h2 := order_l2 l hn L hL (show i < L.length by omega) out best b.isSome (R := R) l.length 0 true (by omega) (by rw [List.drop_zero]; exact hj)
    refine Evt.step (fun k => ?_) h2
    simp only [cartoucheref11_Order.l1]
    rw [if_pos (by omega)]; rfl
theorem order_l0 (l : Stl) (hn : l.length ≤ 1000000) : ∀ (m : Nat) (L out : List Int), L.length ≤ m → L.length + out.length ≤ 1000000 → Evt (fun k => cartoucheref11_Order.l0 k l L out) ((Rg.refOrd fr_ to_ l m L out).getD [], (Rg.refOrd fr_ to_ l m L out).isSome)
  | 0, L, out, hm, ho => by
    obtain rfl : L = [] := List.eq_nil_of_length_eq_zero (by omega)
    refine Evt.now1 fun k => ?_
    simp only [cartoucheref11_Order.l0]
    rw [if_neg (by simp)]
    rfl
  | m + 1, L, out, hm, ho => by
    rw [Rg.refOrd]
    by_cases h : L = []
    · subst h
      refine Evt.now1 fun k => ?_
      simp only [cartoucheref11_Order.l0]
      rw [if_neg (by simp)]
      simp
    · have hp : 0 < L.length := List.length_pos_iff.2 h
      rw [if_neg h]
      refine Evt.step (fun k => ?_) (order_l1 l hn L (by omega) out (by omega) (fun n hb => ?_) (fun hb => ?_) L.length 0 none 0 (by omega) (fun y hy => by cases hy) (by rw [List.drop_zero]))
      · simp only [cartoucheref11_Order.l0]
        rw [if_pos (by omega)]; rfl
      · have hb' : Rg.bestL (Rg.free fr_ to_ l L) L none = some n := hb
        rw [hb']
        have hmem : n ∈ L := by
          obtain ⟨_, h2⟩ := Rg.bestL_spec (Rg.free fr_ to_ l L) L none
          rcases (h2 n hb').1 with h | h
          · cases h
          · exact h.1
        have hlt : (L.filter (fun y => decide (y ≠ n))).length < L.length := by
          obtain ⟨a, b, rfl⟩ := List.append_of_mem hmem
          have ha := List.length_filter_le (fun y => decide (y ≠ n)) a
          have hb := List.length_filter_le (fun y => decide (y ≠ n)) b
          rw [List.filter_append, List.filter_cons, if_neg (by simp), List.length_append, List.length_append, List.length_cons]
          omega
        exact order_l0 l hn m _ (out ++ [n]) (by omega) (by rw [List.length_append, List.length_singleton]; omega)
      · have hb' : Rg.bestL (Rg.free fr_ to_ l L) L none = none := hb
        rw [hb']
        rfl
theorem order_evt (l : Stl) (hn : l.length ≤ 1000000) (L : List Int) (hL : L.length ≤ 1000000) : Evt (fun k => cartoucheref11_Order.f k L l) ((Rg.order fr_ to_ l L).getD [], (Rg.order fr_ to_ l L).isSome) := by
  have := order_l0 l hn L.length L [] (Nat.le_refl _) (by simpa using hL)
  rw [Rg.refOrd_order] at this
  refine Evt.congr (fun k => ?_) this
  unfold cartoucheref11_Order.f
  simp only [Option.bind_some]
  rw [if_pos (by simp; omega)]
  simp

/-! ### forward -/
theorem place_l0 (o : List Int) (x : Int) (hn : o.length ≤ 1000000) : ∀ (d i : Nat), i + d = o.length → Evt (fun k => cartoucheref11_place.l0 k o x (i : Int)) (Rg.plc (o.drop i) x (i : Int))
  | 0, i, hi => Evt.now1 fun k => by
    simp only [cartoucheref11_place.l0]
    rw [if_neg (by omega), List.drop_eq_nil_of_le (by omega)]
    rfl
  | d + 1, i, hi => by
    rw [ith_drop (by omega), Rg.plc]
    by_cases q : ith o i = x
    · rw [if_pos q]
      refine Evt.now1 fun k => ?_
      simp only [cartoucheref11_place.l0]
      rw [if_pos (by omega), if_pos (by omega), rd_ith, if_pos q]
    · rw [if_neg q]
      refine Evt.step (fun k => ?_) (place_l0 o x hn d (i + 1) (by omega))
      simp only [cartoucheref11_place.l0]
      rw [if_pos (by omega), if_pos (by omega), rd_ith, if_neg q, wrap_succ (n := o.length) (by omega) (by omega)]
theorem place_evt (o : List Int) (x : Int) (hn : o.length ≤ 1000000) : Evt (fun k => cartoucheref11_place.f k o x) (Rg.plc o x 0) := by
  have := place_l0 o x hn o.length 0 (by omega)
  rwa [List.drop_zero] at this
def okS (o : List Int) (s : S50) : Bool := !(decide (0 ≤ Rg.plc o s.f0 0) && (decide (0 ≤ Rg.plc o s.f1 0) && decide (Rg.plc o s.f1 0 ≤ Rg.plc o s.f0 0)))
theorem fwd_l1 (o : List Int) (l : Stl) (hn : l.length ≤ 1000000) (ho : o.length ≤ 1000000) : ∀ (d i : Nat), i + d = l.length → Evt (fun k => cartoucheref11_Forward.l1 k o l (i : Int)) ((l.drop i).all (okS o))
  | 0, i, hi => Evt.now1 fun k => by
    simp only [cartoucheref11_Forward.l1]
    rw [if_neg (by omega), List.drop_eq_nil_of_le (by omega)]
    rfl
  | d + 1, i, hi => by
    rw [sn_drop (by omega), List.all_cons]
    have ih := fwd_l1 o l hn ho d (i + 1) (by omega)
    have h1 := place_evt o (sn l i).f0 ho
    have h2 := place_evt o (sn l i).f1 ho
    have hj : ∀ z, z = !(okS o (sn l i)) → Evt (fun k => cartoucheref11_Forward.j2 k o l (i : Int) z) (okS o (sn l i) && (l.drop (i + 1)).all (okS o)) := fun z hz => by
      cases hk : okS o (sn l i) with
      | false =>
        refine Evt.now1 fun k => ?_
        simp only [cartoucheref11_Forward.j2]
        rw [if_pos (by rw [hz, hk]; rfl)]; rfl
      | true =>
        rw [Bool.true_and]
        refine Evt.step (fun k => ?_) ih
        simp only [cartoucheref11_Forward.j2]
        rw [if_neg (by rw [hz, hk]; simp), wrap_succ (n := l.length) (by omega) (by omega)]
    refine Evt.step (fun k => ?_) (Evt.bind (f := fun k (a : Int) => (cartoucheref11_place.f k o (sn l i).f1).bind fun b => if a ≥ 0 then (if b ≥ 0 then cartoucheref11_Forward.j2 k o l (i : Int) (decide (a ≥ b)) else cartoucheref11_Forward.j2 k o l (i : Int) false) else cartoucheref11_Forward.j2 k o l (i : Int) false) h1
      (Evt.bind (f := fun k (b : Int) => if Rg.plc o (sn l i).f0 0 ≥ 0 then (if b ≥ 0 then cartoucheref11_Forward.j2 k o l (i : Int) (decide (Rg.plc o (sn l i).f0 0 ≥ b)) else cartoucheref11_Forward.j2 k o l (i : Int) false) else cartoucheref11_Forward.j2 k o l (i : Int) false) h2 ?_))
    · simp only [cartoucheref11_Forward.l1]
      rw [if_pos (by omega), if_pos (by omega), rd_sn]
    · by_cases q1 : Rg.plc o (sn l i).f0 0 ≥ 0
      · by_cases q2 : Rg.plc o (sn l i).f1 0 ≥ 0
        · refine Evt.congr (fun k => by rw [if_pos q1, if_pos q2]) (hj _ ?_)
          unfold okS
          simp [q1, q2]
        · refine Evt.congr (fun k => by rw [if_pos q1, if_neg q2]) (hj _ ?_)
          unfold okS
          simp [q2]
      · refine Evt.congr (fun k => by rw [if_neg q1]) (hj _ ?_)
        unfold okS
        simp [q1]
theorem plc_self {o : List Int} : o.Nodup ↔ ∀ j, j < o.length → Rg.plc o (ith o j) 0 = (j : Int) := by
  constructor
  · intro hn j hj
    rcases Rg.plc_spec (ith o j) o 0 with ⟨h, _⟩ | ⟨_, e⟩
    · exact absurd (ith_mem hj) h
    · rw [show Rg.plc o (ith o j) 0 = ((0 + o.idxOf (ith o j) : Nat) : Int) from e, ith_get hj, hn.idxOf_getElem j hj]
      simp
  · intro h
    rw [List.nodup_iff_pairwise_ne, List.pairwise_iff_getElem]
    intro i j hi hj hij he
    have h1 := h i hi
    have h2 := h j hj
    rw [ith_get hi] at h1
    rw [ith_get hj, ← he, h1] at h2
    omega
theorem fwd_l0 (o : List Int) (l : Stl) (hn : l.length ≤ 1000000) (ho : o.length ≤ 1000000) : ∀ (d i : Nat), i + d = o.length → ∃ c, Evt (fun k => cartoucheref11_Forward.l0 k o l (i : Int)) c ∧ (c = true ↔ (∀ j, i ≤ j → j < o.length → Rg.plc o (ith o j) 0 = (j : Int)) ∧ l.all (okS o) = true)
  | 0, i, hi => by
    have h1 := fwd_l1 o l hn ho l.length 0 (by omega)
    rw [List.drop_zero] at h1
    refine ⟨_, Evt.step (fun k => ?_) h1, ⟨fun h => ⟨fun j h1 h2 => by omega, h⟩, fun h => h.2⟩⟩
    simp only [cartoucheref11_Forward.l0]
    rw [if_neg (by omega)]; rfl
  | d + 1, i, hi => by
    obtain ⟨c, hc, hc2⟩ := fwd_l0 o l hn ho d (i + 1) (by omega)
    have hp := place_evt o (ith o i) ho
    by_cases q : Rg.plc o (ith o i) 0 = (i : Int)
    · refine ⟨c, Evt.step (fun k => ?_) (Evt.bind (f := fun k (t : Int) => if t = (i : Int) then cartoucheref11_Forward.l0 k o l (wrap64 ((i : Int) + 1)) else some false) hp (Evt.congr (fun k => ?_) hc)), ?_⟩
      · simp only [cartoucheref11_Forward.l0]
        rw [if_pos (by omega), if_pos (by omega), rd_ith]
      · rw [if_pos q, wrap_succ (n := o.length) (by omega) (by omega)]
      · rw [hc2]
        refine and_congr_left fun _ => ⟨fun h j h1 h2 => ?_, fun h j h1 h2 => h j (by omega) h2⟩
        by_cases e : j = i
        · rw [e]; exact q
        · exact h j (by omega) h2
    · refine ⟨false, Evt.step (fun k => ?_) (Evt.bind (f := fun k (t : Int) => if t = (i : Int) then cartoucheref11_Forward.l0 k o l (wrap64 ((i : Int) + 1)) else some false) hp (Evt.now fun k => ?_)), ?_⟩
      · simp only [cartoucheref11_Forward.l0]
        rw [if_pos (by omega), if_pos (by omega), rd_ith]
      · rw [if_neg q]
      · exact ⟨fun h => (by cases h), fun h => absurd (h.1 i (Nat.le_refl _) (by omega)) q⟩
theorem forward_evt (o : List Int) (l : Stl) (hn : l.length ≤ 1000000) (ho : o.length ≤ 1000000) : Evt (fun k => cartoucheref11_Forward.f k o l) (Rg.forward fr_ to_ l o) := by
  obtain ⟨c, hc, hc2⟩ := fwd_l0 o l hn ho o.length 0 (by omega)
  have e : c = Rg.forward fr_ to_ l o := by
    rw [Bool.eq_iff_iff, hc2]
    unfold Rg.forward
    rw [Bool.and_eq_true, decide_eq_true_eq, plc_self]
    exact and_congr_left fun _ => ⟨fun h j hj => h j (by omega) hj, fun h j _ hj => h j hj⟩
  rw [← e]
  exact hc

/-! ### all numbers of steps -/
theorem nodes_l0 (l : Stl) (hn : l.length ≤ 1000000) : ∀ (d i : Nat) (out : List Int), i + d = l.length → out.length ≤ 2 * i → Evt (fun k => cartouchelaw11_nodes.l0 k l out (i : Int)) (out ++ (l.drop i).flatMap (fun s => [s.f0, s.f1]))
  | 0, i, out, hi, ho => Evt.now1 fun k => by
    simp only [cartouchelaw11_nodes.l0]
    rw [if_neg (by omega), List.drop_eq_nil_of_le (by omega)]
    simp
  | d + 1, i, out, hi, ho => by
    rw [sn_drop (by omega), List.flatMap_cons, ← List.append_assoc]
    refine Evt.step (fun k => ?_) (nodes_l0 l hn d (i + 1) (out ++ [(sn l i).f0, (sn l i).f1]) (by omega) (by simp; omega))
    simp only [cartouchelaw11_nodes.l0]
    rw [if_pos (by omega), if_pos (by omega)]
    simp only [Option.bind_some]
    rw [if_pos (by simp; omega), rd_sn, wrap_succ (n := l.length) (by omega) (by omega)]
theorem nodes_evt (l : Stl) (hn : l.length ≤ 1000000) : Evt (fun k => cartouchelaw11_nodes.f k l) (l.flatMap (fun s => [s.f0, s.f1])) := by
  have := nodes_l0 l hn l.length 0 [] (by omega) (by simp)
  rwa [List.drop_zero, List.nil_append] at this
end
end Go.Proofs.YthjgmccpbcelgaaPr
