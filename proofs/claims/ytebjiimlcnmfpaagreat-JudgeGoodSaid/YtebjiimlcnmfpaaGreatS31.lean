/-
  A history that is good; the table of who reaches whom.
-/
import Derived.Test.YtebjiimlcnmfpaaGreatR1
import Derived.Test.YtebjiimlcnmfpaaGreatS16a
import Derived.Test.YtebjiimlcnmfpaaGreatS09
/-! Steps between numbers: closing a relation. -/
set_option linter.unusedVariables false
set_option linter.unusedSimpArgs false
namespace Go.Proofs.YtebjiimlcnmfpaaGreat.Rg
section
section
section
variable {α : Type} (fr tt : α → Int)

/-! ### closing: which numbers a chain goes by between its ends -/
def Inn (k : Int) : List α → Prop
  | [] => True
  | [_] => True
  | s :: t :: r => tt s < k ∧ Inn k (t :: r)
theorem inn_split {k : Int} : ∀ (r : List α) (a b : Int), r ≠ [] → chain fr tt r a b → Inn tt (k + 1) r →
    Inn tt k r ∨ ∃ p z, p ≠ [] ∧ z ≠ [] ∧ (∀ s ∈ p, s ∈ r) ∧ (∀ s ∈ z, s ∈ r) ∧ chain fr tt p a k ∧ chain fr tt z k b ∧ Inn tt k p ∧ Inn tt k z
  | [], _, _, h, _, _ => absurd rfl h
  | [s], _, _, _, _, _ => .inl trivial
  | s :: t :: r, a, b, _, hc, hi => by
    obtain ⟨h1, h2⟩ := hi
    have hc' : chain fr tt (t :: r) (tt s) b := hc.2
    rcases inn_split (t :: r) (tt s) b (by simp) hc' h2 with h | ⟨p, z, p0, z0, hp, hz, cp, cz, ip, iz⟩
    · by_cases e : tt s = k
      · refine .inr ⟨[s], t :: r, by simp, by simp, fun x hx => ?_, fun x hx => ?_, ⟨hc.1, e⟩, by rw [← e]; exact hc', trivial, h⟩
        · obtain rfl : x = s := by simpa using hx
          simp
        · simp only [List.mem_cons] at hx ⊢; exact .inr hx
      · exact .inl ⟨by omega, h⟩
    · by_cases e : tt s = k
      · refine .inr ⟨[s], z, by simp, z0, fun x hx => ?_, fun x hx => List.mem_cons_of_mem _ (hz x hx), ⟨hc.1, e⟩, cz, trivial, iz⟩
        obtain rfl : x = s := by simpa using hx
        simp
      · refine .inr ⟨s :: p, z, by simp, z0, fun x hx => ?_, fun x hx => List.mem_cons_of_mem _ (hz x hx), ⟨hc.1, cp⟩, cz, ?_, iz⟩
        · rcases List.mem_cons.1 hx with rfl | hx
          · simp
          · exact List.mem_cons_of_mem _ (hp x hx)
        · match p, p0, ip with
          | q :: p, _, ip => exact ⟨by omega, ip⟩
theorem inn_all {l r : List α} {k : Int} (hl : ∀ s ∈ l, tt s < k) (hr : ∀ s ∈ r, s ∈ l) : Inn tt k r := by
  induction r with
  | nil => trivial
  | cons s r ih =>
    match r, ih with
    | [], _ => trivial
    | t :: r, ih => exact ⟨hl s (hr s (by simp)), ih fun x hx => hr x (by simp [hx])⟩
/-- What a table of who reaches whom says when numbers below k have been gone by. -/
structure Tabled (l : List α) (k : Int) (R : Int → Int → Bool) : Prop where
  sound : ∀ a b, R a b = true → ∃ n, 1 ≤ n ∧ Walk fr tt l a n b
  whole : ∀ r a b, r ≠ [] → (∀ s ∈ r, s ∈ l) → chain fr tt r a b → Inn tt k r → R a b = true
theorem Tabled.round {l : List α} {k : Int} {R R' : Int → Int → Bool} (h : Tabled fr tt l k R) (hs : ∀ a b, R' a b = true → ∃ n, 1 ≤ n ∧ Walk fr tt l a n b) (hm : ∀ a b, R a b = true → R' a b = true)
    (hn : ∀ a b, R a k = true → R k b = true → R' a b = true) : Tabled fr tt l (k + 1) R' :=
  ⟨hs, fun r a b h0 hr hc hi => by
    rcases inn_split fr tt r a b h0 hc hi with h1 | ⟨p, z, p0, z0, hp, hz, cp, cz, ip, iz⟩
    · exact hm a b (h.whole r a b h0 hr hc h1)
    · exact hn a b (h.whole p a k p0 (fun s hs => hr s (hp s hs)) cp ip) (h.whole z k b z0 (fun s hs => hr s (hz s hs)) cz iz)⟩
theorem Tabled.ring {l : List α} {k : Int} {R : Int → Int → Bool} (h : Tabled fr tt l k R) (hl : ∀ s ∈ l, tt s < k) (a : Int) : R a a = true ↔ ∃ n, 1 ≤ n ∧ Walk fr tt l a n a := by
  constructor
  · exact h.sound a a
  · rintro ⟨n, hn, r, h1, h2, h3⟩
    exact h.whole r a a (fun e => by rw [e] at h1; simp at h1; omega) h2 h3 (inn_all tt hl h2)
end
end
end
end Go.Proofs.YtebjiimlcnmfpaaGreat.Rg

/-! A history that is good: nothing is tainted, and no transaction comes behind itself; the table of who reaches whom that is closed in its place. -/
namespace Go.Proofs.YtebjiimlcnmfpaaGreat.Rg
section
variable {α : Type} (fr tt : α → Int)

/-- A table over small numbers, as one over all. -/
def RI (R : Nat → Nat → Bool) (a b : Int) : Bool := decide (0 ≤ a ∧ 0 ≤ b) && R a.toNat b.toNat
theorem RI_iff {R : Nat → Nat → Bool} {a b : Int} : RI R a b = true ↔ ∃ x y : Nat, a = x ∧ b = y ∧ R x y = true := by
  unfold RI
  rw [Bool.and_eq_true, decide_eq_true_eq]
  constructor
  · rintro ⟨⟨h1, h2⟩, h3⟩; exact ⟨a.toNat, b.toNat, by omega, by omega, h3⟩
  · rintro ⟨x, y, rfl, rfl, h⟩; exact ⟨by omega, by simpa using h⟩
def upd (R : Nat → Nat → Bool) (a b : Nat) (v : Bool) : Nat → Nat → Bool := fun x y => if x = a ∧ y = b then v else R x y
theorem upd_at (R : Nat → Nat → Bool) (a b : Nat) (v : Bool) : upd R a b v a b = v := if_pos ⟨rfl, rfl⟩
theorem upd_off {R : Nat → Nat → Bool} {a b x y : Nat} {v : Bool} (h : ¬ (x = a ∧ y = b)) : upd R a b v x y = R x y := if_neg h
/-- The first i steps are in the table. -/
def T1 (l : List α) (i : Nat) (R : Nat → Nat → Bool) : Prop := ∀ x y : Nat, R x y = true ↔ ∃ j, ∃ h : j < l.length, j < i ∧ fr l[j] = x ∧ tt l[j] = y
theorem T1.zero (l : List α) : T1 fr tt l 0 (fun _ _ => false) := fun x y => ⟨fun h => (by cases h), fun ⟨j, _, h, _⟩ => (by omega)⟩
theorem T1.step {l : List α} {i : Nat} {R : Nat → Nat → Bool} (h : T1 fr tt l i R) (hi : i < l.length) {a b : Nat} (ha : fr l[i] = a) (hb : tt l[i] = b) : T1 fr tt l (i + 1) (upd R a b true) := fun x y => by
  by_cases e : x = a ∧ y = b
  · obtain ⟨rfl, rfl⟩ := e
    rw [upd_at]
    exact ⟨fun _ => ⟨i, hi, by omega, ha, hb⟩, fun _ => rfl⟩
  · rw [upd_off e, h x y]
    constructor
    · rintro ⟨j, h1, h2, h3⟩; exact ⟨j, h1, by omega, h3⟩
    · rintro ⟨j, h1, h2, h3, h4⟩
      by_cases ej : j = i
      · subst ej; exact absurd ⟨by omega, by omega⟩ e
      · exact ⟨j, h1, by omega, h3, h4⟩
theorem T1.tabled {l : List α} {R : Nat → Nat → Bool} (h : T1 fr tt l l.length R) (hl : ∀ s ∈ l, 0 ≤ fr s ∧ 0 ≤ tt s) : Tabled fr tt l 0 (RI R) :=
  ⟨fun a b hr => by
    obtain ⟨x, y, rfl, rfl, h1⟩ := RI_iff.1 hr
    obtain ⟨j, hj, _, h2, h3⟩ := (h x y).1 h1
    have := Walk.one fr tt (List.getElem_mem hj)
    rw [h2, h3] at this
    exact ⟨1, by omega, this⟩,
  fun r a b h0 hr hc hi => by
    match r, h0 with
    | [s], _ =>
      have hs := hr s (by simp)
      obtain ⟨j, hj, hjs⟩ := List.getElem_of_mem hs
      have e1 : fr s = a := hc.1
      have e2 : tt s = b := hc.2
      have := hl s hs
      exact RI_iff.2 ⟨a.toNat, b.toNat, by omega, by omega, (h _ _).2 ⟨j, hj, hj, by rw [hjs]; omega, by rw [hjs]; omega⟩⟩
    | s :: t :: r, _ =>
      have := hl s (hr s (by simp))
      have h1 : tt s < 0 := hi.1
      omega⟩
/-- In the middle of the round k: all ahead of the place a, b is done. -/
structure Mid (l : List α) (k : Nat) (R0 R : Nat → Nat → Bool) (a b : Nat) : Prop where
  sound : ∀ x y : Nat, R x y = true → ∃ n, 1 ≤ n ∧ Walk fr tt l x n y
  more : ∀ x y : Nat, R0 x y = true → R x y = true
  done : ∀ x y : Nat, x < 64 → y < 64 → (x < a ∨ x = a ∧ y < b) → R0 x k = true → R0 k y = true → R x y = true
theorem Mid.start {l : List α} {k : Nat} {R : Nat → Nat → Bool} (h : Tabled fr tt l k (RI R)) : Mid fr tt l k R R 0 0 :=
  ⟨fun x y hr => h.sound x y (RI_iff.2 ⟨x, y, rfl, rfl, hr⟩), fun _ _ h => h, fun x y _ _ hd => by omega⟩
theorem Mid.step {l : List α} {k a b : Nat} {R0 R : Nat → Nat → Bool} (h : Mid fr tt l k R0 R a b) : Mid fr tt l k R0 (upd R a b (R a b || R a k && R k b)) a (b + 1) := by
  have hm : ∀ x y : Nat, R x y = true → upd R a b (R a b || R a k && R k b) x y = true := fun x y hr => by
    by_cases e : x = a ∧ y = b
    · obtain ⟨rfl, rfl⟩ := e
      rw [upd_at, hr]; rfl
    · rw [upd_off e]; exact hr
  refine ⟨fun x y hr => ?_, fun x y hr => hm x y (h.more x y hr), fun x y hx hy hd h1 h2 => ?_⟩
  · by_cases e : x = a ∧ y = b
    · obtain ⟨rfl, rfl⟩ := e
      rw [upd_at, Bool.or_eq_true, Bool.and_eq_true] at hr
      rcases hr with hr | ⟨h1, h2⟩
      · exact h.sound _ _ hr
      · obtain ⟨n, n1, w1⟩ := h.sound _ _ h1
        obtain ⟨m, m1, w2⟩ := h.sound _ _ h2
        exact ⟨n + m, by omega, Walk.trans fr tt w1 w2⟩
    · rw [upd_off e] at hr
      exact h.sound _ _ hr
  · by_cases e : x = a ∧ y = b
    · obtain ⟨rfl, rfl⟩ := e
      rw [upd_at, h.more _ _ h1, h.more _ _ h2]
      simp
    · exact hm x y (h.done x y hx hy (by omega) h1 h2)
theorem Mid.row {l : List α} {k a : Nat} {R0 R : Nat → Nat → Bool} (h : Mid fr tt l k R0 R a 64) : Mid fr tt l k R0 R (a + 1) 0 :=
  ⟨h.sound, h.more, fun x y hx hy hd h1 h2 => h.done x y hx hy (by omega) h1 h2⟩
/-- All is of small numbers. -/
def Bd (R : Nat → Nat → Bool) : Prop := ∀ x y, R x y = true → x < 64 ∧ y < 64
theorem Bd.upd {R : Nat → Nat → Bool} (h : Bd R) {a b : Nat} (ha : a < 64) (hb : b < 64) (v : Bool) : Bd (upd R a b v) := fun x y hr => by
  by_cases e : x = a ∧ y = b
  · omega
  · rw [upd_off e] at hr; exact h x y hr
theorem Mid.close {l : List α} {k : Nat} {R0 R : Nat → Nat → Bool} (ht : Tabled fr tt l k (RI R0)) (hb : Bd R0) (h : Mid fr tt l k R0 R 64 0) : Tabled fr tt l (k + 1 : Nat) (RI R) :=
  Tabled.round fr tt ht (fun a b hr => by
    obtain ⟨x, y, rfl, rfl, h1⟩ := RI_iff.1 hr
    exact h.sound x y h1) (fun a b hr => by
    obtain ⟨x, y, rfl, rfl, h1⟩ := RI_iff.1 hr
    exact RI_iff.2 ⟨x, y, rfl, rfl, h.more x y h1⟩) (fun a b h1 h2 => by
    obtain ⟨x, k', rfl, e, g1⟩ := RI_iff.1 h1
    obtain ⟨k'', y, e2, rfl, g2⟩ := RI_iff.1 h2
    have ek : k' = k := by omega
    have ek2 : k'' = k := by omega
    rw [ek] at g1
    rw [ek2] at g2
    exact RI_iff.2 ⟨x, y, rfl, rfl, h.done x y (hb _ _ g1).1 (hb _ _ g2).2 (by have := (hb _ _ g1).1; omega) g1 g2⟩)
/-- A closed table shows whether some number reaches itself. -/
theorem Tabled.some {l : List α} {R : Nat → Nat → Bool} (h : Tabled fr tt l (64 : Nat) (RI R)) (hl : ∀ s ∈ l, 0 ≤ fr s ∧ fr s < 64 ∧ 0 ≤ tt s ∧ tt s < 64) (hb : Bd R) : (∃ a, a < 64 ∧ R a a = true) ↔ ∃ c n, 1 ≤ n ∧ Walk fr tt l c n c := by
  have hr := fun a => Tabled.ring fr tt h (fun s hs => by have := hl s hs; omega) a
  constructor
  · rintro ⟨a, _, ha⟩
    exact ⟨(a : Int), (hr _).1 (RI_iff.2 ⟨a, a, rfl, rfl, ha⟩)⟩
  · rintro ⟨c, hc⟩
    obtain ⟨x, y, e1, e2, h1⟩ := RI_iff.1 ((hr c).2 hc)
    obtain rfl : x = y := by omega
    exact ⟨x, (hb _ _ h1).1, h1⟩
end
end Go.Proofs.YtebjiimlcnmfpaaGreat.Rg
namespace Go.Proofs.YtebjiimlcnmfpaaGreatPr
open Go.Proofs.YtebjiimlcnmfpaaGreat
section
open Go Go.RowKit

/-- Is a history good: nothing is tainted, and its steps can be ordered? -/
def goodB (xs : List S50) (lev : Int) : Bool := (badsS xs).isEmpty && (Rg.order fr_ to_ (stepsH lev xs) (nodesS (evs xs))).isSome
theorem goodB_bad {xs : List S50} {lev : Int} (h : badsS xs ≠ []) : goodB xs lev = false := by
  unfold goodB
  rw [List.isEmpty_eq_false_iff.2 h, Bool.false_and]
theorem goodB_ring {xs : List S50} {lev : Int} (h : badsS xs = []) : goodB xs lev = true ↔ ¬ ∃ c n, 1 ≤ n ∧ Rg.Walk fr_ to_ (stepsH lev xs) c n c := by
  unfold goodB
  rw [h, List.isEmpty_nil, Bool.true_and, Option.isSome_iff_exists, Rg.order_or fr_ to_ (fun s hs => stepsH_nodes hs)]
  constructor
  · rintro h1 ⟨c, n, hn, hw⟩; exact h1 n c hn hw
  · intro h1 m c hm hw; exact h1 ⟨c, m, hm, hw⟩
/-- The table in memory. -/
def toT (R : Nat → Nat → Bool) : Array Value := ((List.range 4096).map fun i => Value.bool (R (i / 64) (i % 64))).toArray
theorem toT_size (R : Nat → Nat → Bool) : (toT R).size = 4096 := by unfold toT; simp
theorem toT_get (R : Nat → Nat → Bool) {a b : Nat} (ha : a < 64) (hb : b < 64) : (toT R)[a * 64 + b]? = some (.bool (R a b)) := by
  unfold toT
  rw [List.getElem?_toArray, List.getElem?_map, List.getElem?_range (by omega)]
  have h1 : (a * 64 + b) / 64 = a := by omega
  have h2 : (a * 64 + b) % 64 = b := by omega
  simp only [Option.map_some, h1, h2]
theorem toT_set (R : Nat → Nat → Bool) {a b : Nat} (ha : a < 64) (hb : b < 64) (v : Bool) : (toT R).setIfInBounds (a * 64 + b) (.bool v) = toT (Rg.upd R a b v) := by
  apply Array.ext_getElem?
  intro j
  rw [Array.getElem?_setIfInBounds]
  by_cases hj : j < 4096
  · have ej : j = j / 64 * 64 + j % 64 := by omega
    have h1 : j / 64 < 64 := by omega
    have h2 : j % 64 < 64 := by omega
    by_cases e : a * 64 + b = j
    · rw [if_pos e, if_pos (by rw [toT_size]; omega), ← e, toT_get _ ha hb, Rg.upd_at]
    · rw [if_neg e, ej, toT_get _ h1 h2, toT_get _ h1 h2, Rg.upd_off (by omega)]
  · have h1 : ∀ R', (toT R')[j]? = none := fun R' => Array.getElem?_eq_none (by rw [toT_size]; omega)
    rw [h1, h1]
    split
    · rw [if_neg (by rw [toT_size]; omega)]
    · rfl
theorem toT_zero : Array.replicate 4096 (Value.bool false) = toT (fun _ _ => false) := by
  apply Array.ext_getElem?
  intro j
  by_cases hj : j < 4096
  · have ej : j = j / 64 * 64 + j % 64 := by omega
    have h2 := toT_get (fun _ _ => false) (show j / 64 < 64 by omega) (show j % 64 < 64 by omega)
    rw [← ej] at h2
    rw [h2, Array.getElem?_replicate, if_pos hj]
  · rw [Array.getElem?_eq_none (by simp; omega), Array.getElem?_eq_none (by rw [toT_size]; omega)]
end
end Go.Proofs.YtebjiimlcnmfpaaGreatPr
