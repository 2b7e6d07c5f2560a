/-
  What chapter 13 leans on: ways along edges; a ring of edges that hold is a ring of steps; what a verdict that is checked with OK says.
-/
import Derived.Test.YtebjiimlcnmfpaaGreatS10
import Derived.Test.YtebjiimlcnmfpaaGreatS09
import Derived.Test.YtebjiimlcnmfpaaGreatA16
import Derived.Test.YtebjiimlcnmfpaaGreatS21
/-! Rows of edges, read from memory by hand. -/
set_option linter.unusedVariables false
set_option linter.unusedSimpArgs false
namespace Go.Proofs.YtebjiimlcnmfpaaGreatPr
section
open Go.Proofs.YtebjiimlcnmfpaaGreat
section
open Go Go.RowKit Go.Proofs Go.Shelf
set_option linter.unusedSimpArgs false
set_option linter.unusedVariables false

def toEd' (x : S24) : Go.Proofs.YtebjiimlcnmfpaaGreat.Edge := ⟨x.f0, x.f1, x.f2, x.f3, x.f4⟩
end
end
end Go.Proofs.YtebjiimlcnmfpaaGreatPr

/-! Ways along all edges of a history: where an edge holds there is one. -/
namespace Go.Proofs.YtebjiimlcnmfpaaGreatPr
section
open Go.Proofs.YtebjiimlcnmfpaaGreat
section
open Go Go.RowKit Go.Proofs Go.Shelf
set_option linter.unusedSimpArgs false
set_option linter.unusedVariables false

/-! ### ways along all edges -/
def allEd (xs : List S50) : List Go.Proofs.YtebjiimlcnmfpaaGreat.Edge := (allE xs).map toEd'
theorem mem_allEd {xs : List S50} {key : ByteArray} {e : Go.Proofs.YtebjiimlcnmfpaaGreat.Edge} {i : Nat} (hi : i < xs.length) (hk : (nth (evs xs) i).kind = 2 ∨ (nth (evs xs) i).kind = 3) (hkey : (nth (evs xs) i).key = key) (he : e ∈ ofE (evs xs) key) : e ∈ allEd xs := by
  unfold allEd allE
  refine List.mem_map.2 ⟨ofEdge e, List.mem_flatMap.2 ⟨key, List.mem_map.2 ⟨key.data.toList, ?_, toBA_self key⟩, List.mem_map.2 ⟨e, he, rfl⟩⟩, rfl⟩
  refine ((keysSpec_are (evs xs)).2 _).2 ?_
  unfold Go.Proofs.YtebjiimlcnmfpaaGreat.keyBytes
  refine List.mem_map.2 ⟨nth (evs xs) i, List.mem_filter.2 ⟨?_, ?_⟩, by rw [hkey]⟩
  · unfold nth
    rw [List.getD_eq_getElem?_getD, List.getElem?_eq_getElem (by rw [evs_len]; exact hi)]
    exact List.getElem_mem _
  · unfold Go.Proofs.YtebjiimlcnmfpaaGreat.keyed
    rcases hk with h | h <;> rw [h] <;> rfl
theorem Walk_sub {α : Type} {f g : α → Int} {l l' : List α} {a b : Int} {n : Nat} (h : Rg.Walk f g l a n b) (hs : ∀ s ∈ l, s ∈ l') : Rg.Walk f g l' a n b := by
  obtain ⟨r, h1, h2, h3⟩ := h
  exact ⟨r, h1, fun s hs' => hs s (h2 s hs'), h3⟩
theorem holds_walk {xs : List S50} (hw : Wf (evs xs)) (hb : ∀ i : Nat, i < xs.length → (badAt (evs xs) i).kind = 0) {e : Go.Proofs.YtebjiimlcnmfpaaGreat.Edge} (h : holdsP (evs xs) e) : ∃ n, Rg.Walk Go.Proofs.YtebjiimlcnmfpaaGreat.Edge.from_ Go.Proofs.YtebjiimlcnmfpaaGreat.Edge.to_ (allEd xs) e.from_ n e.to_ := by
  obtain ⟨hk, hway⟩ := holds_way hw (fun i hi => hb i (by rw [evs_len] at hi; exact hi)) h
  have hi : e.i.toNat < xs.length := by have h1 := h.2.2.2.1; have h2 := h.2.2.2.2.1; rw [evs_len] at h2; omega
  have hsub : ∀ s ∈ ofN (evs xs) (nth (evs xs) e.i.toNat).key, s ∈ allEd xs := fun s hs => mem_allEd hi hk rfl (List.mem_filter.1 hs).1
  rcases hway with ⟨_, n, hn⟩ | ⟨_, c, hc, n, hn⟩
  · exact ⟨n, Walk_sub hn hsub⟩
  · rcases hc with hc | ⟨x, hx, _, h1, h2⟩
    · rw [hc]; exact ⟨n, Walk_sub hn hsub⟩
    · refine ⟨1 + n, Rg.Walk.trans _ _ (b := c) ?_ (Walk_sub hn hsub)⟩
      have := Rg.Walk.one Go.Proofs.YtebjiimlcnmfpaaGreat.Edge.from_ Go.Proofs.YtebjiimlcnmfpaaGreat.Edge.to_ (mem_allEd hi hk rfl hx)
      rw [h1, h2] at this
      exact this
end
end
end Go.Proofs.YtebjiimlcnmfpaaGreatPr

/-! A ring of edges that hold is a ring of steps: at level 1, and at level 2 where no two GOver stand together. -/
namespace Go.Proofs.YtebjiimlcnmfpaaGreatPr
section
open Go.Proofs.YtebjiimlcnmfpaaGreat
section
open Go Go.RowKit

abbrev Wst (lev : Int) (xs : List S50) (a : Int) (n : Nat) (b : Int) : Prop := Rg.Walk fr_ to_ (stepsH lev xs) a n b
theorem s2_one {xs : List S50} {e : S24} (h : e ∈ allE xs) (h3 : e.f0 ≠ 3) : (⟨e.f1, e.f2, [e]⟩ : S80) ∈ stepsH 2 xs := by
  unfold stepsH stepsE
  refine List.mem_map.2 ⟨⟨e.f1, e.f2, [toEd e]⟩, List.mem_flatMap.2 ⟨toEd e, List.mem_map.2 ⟨e, h, rfl⟩, ?_⟩, rfl⟩
  unfold oneE
  rw [if_pos (.inr ⟨rfl, h3⟩)]
  exact List.mem_cons_self
theorem s2_two {xs : List S50} {e f : S24} (h : e ∈ allE xs) (h3 : e.f0 ≠ 3) (hf : f ∈ allE xs) (hf3 : f.f0 = 3) (hef : f.f1 = e.f2) : (⟨e.f1, f.f2, [e, f]⟩ : S80) ∈ stepsH 2 xs := by
  unfold stepsH stepsE
  refine List.mem_map.2 ⟨⟨e.f1, f.f2, [toEd e, toEd f]⟩, List.mem_flatMap.2 ⟨toEd e, List.mem_map.2 ⟨e, h, rfl⟩, ?_⟩, rfl⟩
  unfold oneE
  rw [if_pos (.inr ⟨rfl, h3⟩)]
  refine List.mem_cons_of_mem _ ?_
  unfold twoE
  exact List.mem_map.2 ⟨toEd f, List.mem_filter.2 ⟨List.mem_map.2 ⟨f, hf, rfl⟩, decide_eq_true ⟨rfl, hf3, hef⟩⟩, rfl⟩
theorem allEd_mem {xs : List S50} {e : Go.Proofs.YtebjiimlcnmfpaaGreat.Edge} (h : e ∈ allEd xs) : ofEdge e ∈ allE xs := by
  unfold allEd at h
  obtain ⟨x, hx, rfl⟩ := List.mem_map.1 h
  exact hx
/-- Edges one behind the other, as steps of one edge each. -/
theorem chain_steps {xs : List S50} {lev : Int} (hl : lev = 1 ∨ lev = 2) : ∀ (r : List Go.Proofs.YtebjiimlcnmfpaaGreat.Edge) (a b : Int), (∀ e ∈ r, e ∈ allEd xs ∧ (lev = 2 → e.kind ≠ 3)) → Rg.chain Go.Proofs.YtebjiimlcnmfpaaGreat.Edge.from_ Go.Proofs.YtebjiimlcnmfpaaGreat.Edge.to_ r a b → Wst lev xs a r.length b
  | [], a, b, _, h => ⟨[], rfl, fun _ h => (by cases h), h⟩
  | e :: r, a, b, hr, h => by
    have ih := chain_steps hl r e.to_ b (fun x hx => hr x (List.mem_cons_of_mem _ hx)) h.2
    obtain ⟨he, h3⟩ := hr e List.mem_cons_self
    have hs : (⟨e.from_, e.to_, [ofEdge e]⟩ : S80) ∈ stepsH lev xs := by
      rcases hl with rfl | rfl
      · exact s1_mem (allEd_mem he)
      · exact s2_one (allEd_mem he) (h3 rfl)
    have h1 := Rg.Walk.one fr_ to_ hs
    have e1 : e.from_ = a := h.1
    have h2 := Rg.Walk.trans fr_ to_ h1 ih
    rw [List.length_cons, Nat.add_comm, ← e1]
    exact h2
/-- A way of edges that are no GOver, but for its last one. -/
theorem way_last {xs : List S50} {key : ByteArray} {i : Nat} (hi : i < xs.length) (hk : (nth (evs xs) i).kind = 2 ∨ (nth (evs xs) i).kind = 3) (hkey : (nth (evs xs) i).key = key) {a b : Int} (h : WayN (evs xs) key a b) (hab : a ≠ b) :
    ∃ n c x, Wst 2 xs a n c ∧ x ∈ allEd xs ∧ x.kind ≠ 3 ∧ x.from_ = c ∧ x.to_ = b := by
  obtain ⟨n, r, h1, h2, h3⟩ := h
  have hr : r ≠ [] := fun e => by subst e; exact hab h3
  have e := List.dropLast_concat_getLast hr
  rw [← e] at h3
  obtain ⟨c, h4, h5⟩ := (Rg.chain_append Go.Proofs.YtebjiimlcnmfpaaGreat.Edge.from_ Go.Proofs.YtebjiimlcnmfpaaGreat.Edge.to_ _ _ a b).1 h3
  have hin : ∀ x ∈ r, x ∈ allEd xs ∧ x.kind ≠ 3 := fun x hx => by
    obtain ⟨g1, g2⟩ := List.mem_filter.1 (h2 x hx)
    exact ⟨mem_allEd hi hk hkey g1, of_decide_eq_true g2⟩
  have hl := hin _ (List.getLast_mem hr)
  exact ⟨_, c, r.getLast hr, chain_steps (.inr rfl) _ a c (fun x hx => ⟨(hin x (List.dropLast_subset _ hx)).1, fun _ => (hin x (List.dropLast_subset _ hx)).2⟩) h4, hl.1, hl.2, h5.1, h5.2⟩
theorem way_all {xs : List S50} {key : ByteArray} {i : Nat} (hi : i < xs.length) (hk : (nth (evs xs) i).kind = 2 ∨ (nth (evs xs) i).kind = 3) (hkey : (nth (evs xs) i).key = key) {a b : Int} (h : WayN (evs xs) key a b) : ∃ n, Wst 2 xs a n b := by
  obtain ⟨n, r, h1, h2, h3⟩ := h
  exact ⟨_, chain_steps (.inr rfl) r a b (fun x hx => by
    obtain ⟨g1, g2⟩ := List.mem_filter.1 (h2 x hx)
    exact ⟨mem_allEd hi hk hkey g1, fun _ => of_decide_eq_true g2⟩) h3⟩
theorem way_step {xs : List S50} {x : Go.Proofs.YtebjiimlcnmfpaaGreat.Edge} (hx : x ∈ allEd xs) (h3 : x.kind ≠ 3) : Wst 2 xs x.from_ 1 x.to_ :=
  Rg.Walk.one fr_ to_ (s2_one (allEd_mem hx) h3)
section
variable {xs : List S50} {rs : List Go.Proofs.YtebjiimlcnmfpaaGreat.Edge} (hw : Wf (evs xs)) (hb : ∀ i : Nat, i < xs.length → (badAt (evs xs) i).kind = 0)
include hw hb
theorem ring1_to (hr : roundS (evs xs) 1 rs = true) : ∀ i, i < rs.length → ∃ n, 1 ≤ n ∧ Wst 1 xs (enth rs 0).from_ n (enth rs i).to_
  | 0, hi => by
    obtain ⟨h1, _⟩ := roundAt_iff.1 ((roundS_iff.1 hr).2 0 hi)
    have hh : holdsP (evs xs) (enth rs 0) := of_decide_eq_true h1
    obtain ⟨n, r, q1, q2, q3⟩ := holds_walk hw hb hh
    refine ⟨r.length, ?_, chain_steps (.inl rfl) r _ _ (fun e he => ⟨q2 e he, fun z => by omega⟩) q3⟩
    cases r with
    | nil => exact absurd q3 hh.2.2.1
    | cons => simp
  | i + 1, hi => by
    obtain ⟨m, m1, hm⟩ := ring1_to hr i (by omega)
    obtain ⟨_, h2, _⟩ := roundAt_iff.1 ((roundS_iff.1 hr).2 i (by omega))
    obtain ⟨h1, _⟩ := roundAt_iff.1 ((roundS_iff.1 hr).2 (i + 1) hi)
    have hh : holdsP (evs xs) (enth rs (i + 1)) := of_decide_eq_true h1
    obtain ⟨n, r, q1, q2, q3⟩ := holds_walk hw hb hh
    have h4 := chain_steps (xs := xs) (.inl rfl) r _ _ (fun e he => ⟨q2 e he, fun z => by omega⟩) q3
    have hx : nxt rs.length i = i + 1 := by unfold nxt; rw [if_neg (by omega)]
    rw [hx] at h2
    rw [← h2] at h4
    exact ⟨m + r.length, by omega, Rg.Walk.trans fr_ to_ hm h4⟩
theorem ring2_to (hr : roundS (evs xs) 2 rs = true) (h0 : (enth rs 0).kind ≠ 3) : ∀ i, i < rs.length → (∃ n, 1 ≤ n ∧ Wst 2 xs (enth rs 0).from_ n (enth rs i).to_) ∧ ((enth rs i).kind ≠ 3 → ∃ n c x, Wst 2 xs (enth rs 0).from_ n c ∧ x ∈ allEd xs ∧ x.kind ≠ 3 ∧ x.from_ = c ∧ x.to_ = (enth rs i).to_)
  | 0, hi => by
    obtain ⟨h1, _⟩ := roundAt_iff.1 ((roundS_iff.1 hr).2 0 hi)
    have hh : holdsP (evs xs) (enth rs 0) := of_decide_eq_true h1
    obtain ⟨hk, hway⟩ := holds_way hw (fun i hi => hb i (by rw [evs_len] at hi; exact hi)) hh
    have hi : (enth rs 0).i.toNat < xs.length := by have h1 := hh.2.2.2.1; have h2 := hh.2.2.2.2.1; rw [evs_len] at h2; omega
    have hN : WayN (evs xs) (nth (evs xs) (enth rs 0).i.toNat).key (enth rs 0).from_ (enth rs 0).to_ := by
      rcases hway with ⟨_, h⟩ | ⟨h, _⟩
      · exact h
      · exact absurd h h0
    obtain ⟨n, c, x, a1, a2, a3, a4, a5⟩ := way_last hi hk rfl hN hh.2.2.1
    have a6 := way_step a2 a3
    rw [a4, a5] at a6
    exact ⟨⟨n + 1, by omega, Rg.Walk.trans fr_ to_ a1 a6⟩, fun _ => ⟨n, c, x, a1, a2, a3, a4, a5⟩⟩
  | i + 1, hi => by
    obtain ⟨⟨m, m1, hm⟩, hlast⟩ := ring2_to hr h0 i (by omega)
    obtain ⟨_, h2, hno⟩ := roundAt_iff.1 ((roundS_iff.1 hr).2 i (by omega))
    obtain ⟨h1, _⟩ := roundAt_iff.1 ((roundS_iff.1 hr).2 (i + 1) hi)
    have hh : holdsP (evs xs) (enth rs (i + 1)) := of_decide_eq_true h1
    have hx : nxt rs.length i = i + 1 := by unfold nxt; rw [if_neg (by omega)]
    rw [hx] at h2 hno
    obtain ⟨hk, hway⟩ := holds_way hw (fun i hi => hb i (by rw [evs_len] at hi; exact hi)) hh
    have hi : (enth rs (i + 1)).i.toNat < xs.length := by have h1 := hh.2.2.2.1; have h2 := hh.2.2.2.2.1; rw [evs_len] at h2; omega
    rcases hway with ⟨h3, hN⟩ | ⟨h3, c, hc, hN⟩
    · obtain ⟨n, c, x, a1, a2, a3, a4, a5⟩ := way_last hi hk rfl hN hh.2.2.1
      rw [← h2] at a1
      have a6 := way_step a2 a3
      rw [a4, a5] at a6
      have a7 := Rg.Walk.trans fr_ to_ hm a1
      exact ⟨⟨m + n + 1, by omega, Rg.Walk.trans fr_ to_ a7 a6⟩, fun _ => ⟨m + n, c, x, a7, a2, a3, a4, a5⟩⟩
    · refine ⟨?_, fun z => absurd h3 z⟩
      obtain ⟨n2, w2⟩ := way_all hi hk rfl hN
      rcases hc with hc | ⟨y, hy, y3, yf, yt⟩
      · rw [← hc, ← h2] at w2
        exact ⟨m + n2, by omega, Rg.Walk.trans fr_ to_ hm w2⟩
      · obtain ⟨n, d, x, b1, b2, b3, b4, b5⟩ := hlast (fun z => hno ⟨rfl, z, h3⟩)
        have hs := Rg.Walk.one fr_ to_ (s2_two (allEd_mem b2) b3 (allEd_mem (mem_allEd hi hk rfl hy)) y3 (by show y.from_ = x.to_; rw [yf, b5, h2]))
        have hs' : Wst 2 xs d 1 c := by
          have e1 : fr_ (⟨(ofEdge x).f1, (ofEdge y).f2, [ofEdge x, ofEdge y]⟩ : S80) = d := b4
          have e2 : to_ (⟨(ofEdge x).f1, (ofEdge y).f2, [ofEdge x, ofEdge y]⟩ : S80) = c := yt
          rw [e1, e2] at hs
          exact hs
        exact ⟨n + 1 + n2, by omega, Rg.Walk.trans fr_ to_ (Rg.Walk.trans fr_ to_ b1 hs') w2⟩
/-- A ring that is Round shows that some transaction comes behind itself. -/
theorem ring_walk {lev : Int} (hl : lev = 1 ∨ lev = 2) (hr : roundS (evs xs) lev rs = true) : ∃ c n, 1 ≤ n ∧ Wst lev xs c n c := by
  have hlen := (roundS_iff.1 hr).1
  have hlast : nxt rs.length (rs.length - 1) = 0 := by unfold nxt; rw [if_pos (by omega)]
  rcases hl with rfl | rfl
  · obtain ⟨n, h1, h2⟩ := ring1_to hw hb hr (rs.length - 1) (by omega)
    obtain ⟨_, h3, _⟩ := roundAt_iff.1 ((roundS_iff.1 hr).2 (rs.length - 1) (by omega))
    rw [hlast] at h3
    rw [h3] at h2
    exact ⟨_, n, h1, h2⟩
  · have main : ∀ rs : List Go.Proofs.YtebjiimlcnmfpaaGreat.Edge, roundS (evs xs) 2 rs = true → (enth rs 0).kind ≠ 3 → ∃ c n, 1 ≤ n ∧ Wst 2 xs c n c := fun rs hr h0 => by
      have hlen := (roundS_iff.1 hr).1
      have hlast : nxt rs.length (rs.length - 1) = 0 := by unfold nxt; rw [if_pos (by omega)]
      obtain ⟨⟨n, h1, h2⟩, _⟩ := ring2_to hw hb hr h0 (rs.length - 1) (by omega)
      obtain ⟨_, h3, _⟩ := roundAt_iff.1 ((roundS_iff.1 hr).2 (rs.length - 1) (by omega))
      rw [hlast] at h3
      rw [h3] at h2
      exact ⟨_, n, h1, h2⟩
    by_cases h0 : (enth rs 0).kind = 3
    · obtain ⟨_, _, h4⟩ := roundAt_iff.1 ((roundS_iff.1 hr).2 0 hlen)
      have hk : (enth rs (nxt rs.length 0)).kind ≠ 3 := fun z => h4 ⟨rfl, h0, z⟩
      have hnx : nxt rs.length 0 < rs.length := by unfold nxt; split <;> omega
      have ht := roundS_turn_le (n := nxt rs.length 0) (by omega) hr
      refine main _ ht ?_
      rw [enth_turn rs (by omega) hlen]
      have : turn rs.length (nxt rs.length 0) 0 = nxt rs.length 0 := by unfold turn; rw [if_pos (by omega)]; omega
      rw [this]
      exact hk
    · exact main rs hr h0
end
/-- In an order in which all goes forward no transaction comes behind itself. -/
theorem ahead_walk {xs : List S50} {lev : Int} {o : List Int} (h : aheadS xs lev o = true) : ∀ (r : List S80) (a b : Int), (∀ s ∈ r, s ∈ stepsH lev xs) → Rg.chain fr_ to_ r a b → o.idxOf a + r.length ≤ o.idxOf b
  | [], a, b, _, hc => by
    have : a = b := hc
    subst this; simp
  | s :: r, a, b, hr, hc => by
    have ih := ahead_walk h r (to_ s) b (fun x hx => hr x (List.mem_cons_of_mem _ hx)) hc.2
    have h1 := aheadS_lt h (hr s List.mem_cons_self)
    have e : fr_ s = a := hc.1
    rw [e] at h1
    rw [List.length_cons]
    omega
theorem ahead_none {xs : List S50} {lev : Int} {o : List Int} (h : aheadS xs lev o = true) {c : Int} {n : Nat} (hn : 1 ≤ n) : ¬ Wst lev xs c n c := fun ⟨r, h1, h2, h3⟩ => by
  have := ahead_walk h r c c h2 h3
  omega
end
end
end Go.Proofs.YtebjiimlcnmfpaaGreatPr

/-! What a verdict that is checked with OK says. -/
namespace Go.Proofs.YtebjiimlcnmfpaaGreatPr
section
open Go.Proofs.YtebjiimlcnmfpaaGreat
open Go Go.RowKit

theorem goodS_is {xs : List S50} {lev : Int} {o : List Int} {bk : Int} {rs : List S24} (h : goodS xs lev o bk rs = true) : bk = 0 ∧ rs.length = 0 ∧ (badsS xs).length = 0 ∧ aheadS xs lev o = true := by
  unfold goodS at h
  split at h
  · split at h
    · split at h
      · exact ⟨by assumption, by assumption, by assumption, h⟩
      · cases h
    · cases h
  · cases h
theorem badV_is {xs : List S50} {lev : Int} {o : List Int} {bk bi bj : Int} {rs : List S24} (h : badV xs lev o bk bi bj rs = true) : o.length = 0 ∧ ((bk = 0 ∧ roundS (evs xs) lev (rs.map toEd) = true) ∨ (bk ≠ 0 ∧ rs.length = 0 ∧ (badAt (evs xs) bi).kind = bk ∧ (badAt (evs xs) bi).i = bi ∧ (badAt (evs xs) bi).j = bj)) := by
  unfold badV at h
  split at h
  · cases h
  · refine ⟨by omega, ?_⟩
    split at h
    · exact .inl ⟨by assumption, h⟩
    · split at h
      · simp only [Bool.and_eq_true, beq_iff_eq] at h
        exact .inr ⟨by assumption, by assumption, h.1, h.2.1, h.2.2⟩
      · cases h
theorem bad_in {l : List Ev} {i : Int} (h : (badAt l i).kind ≠ 0) : ∃ k : Nat, i = k ∧ k < l.length := by
  unfold badAt at h
  split at h
  · exact absurd rfl h
  · rename_i hc
    have hc' : counts l i = true := by cases hq : counts l i <;> simp_all
    unfold counts at hc'
    simp at hc'
    refine ⟨i.toNat, ?_, ?_⟩ <;> omega
theorem checkS_ok {xs : List S50} {lev : Int} {acc : Bool} {o : List Int} {bk bi bj : Int} {rs : List S24} (h : checkS xs lev acc o bk bi bj rs = 0) : (lev = 1 ∨ lev = 2) ∧ (formed (evs xs)).2 = 0 ∧ (if acc = true then goodS xs lev o bk rs else badV xs lev o bk bi bj rs) = true := by
  unfold checkS at h
  split at h
  · omega
  · split at h
    · refine ⟨by omega, by assumption, ?_⟩
      by_cases hg : (if acc = true then goodS xs lev o bk rs else badV xs lev o bk bi bj rs) = true
      · exact hg
      · rw [if_neg hg] at h
        omega
    · exact absurd h (by assumption)
end
end Go.Proofs.YtebjiimlcnmfpaaGreatPr
